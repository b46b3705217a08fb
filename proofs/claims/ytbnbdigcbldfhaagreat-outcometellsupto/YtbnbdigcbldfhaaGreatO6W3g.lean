/- a part of a proof of OutcomeTells -/
import Derived.Test.YtbnbdigcbldfhaaGreatO6W2g
set_option linter.all false
namespace Go.Proofs.YtbnbdigcbldfhaaGreat
open Go.IntKind renaming wrap → wi0
open Go.Proofs.Tryz renaming prog → pg0
open Go.RowKit
set_option maxRecDepth 10000
open Tryz
theorem xt (t u : kw) (r : Bool) (w : World) (hm : qZ t u = some r) :
  la true pg0 107 [(.agg (kx t).toArray), (.agg (kx u).toArray)] w (.bool r) := by
 refine cG 24 func107 rfl (fun d => sg (VE (lB d rfl (fun T Y d => VE (lB d rfl (fun U Z d => Wa (lr (Wf oQ (VB d (Mt Mh) rfl rfl aY (Wf oQ (VB d Mh rfl rfl aY (V (rU rfl rfl rfl) ?_))))))))))))
 refine Wm (LJ hm (fun z E W => ∃ x, ST true ll w W (hp w) x ∧ E 4 = (.bool false) ∧ E 23 = (.bool z)) 13 ?_ (fun z g j => ?_))
 ·rintro N E W ⟨x, d, M, H⟩ D
  exact Wg H (lt (rQ D d))
 refine bC g (fun a g => ?_) (fun a g => ?_)
 ·refine un a (un a (un a (un a (un a (un a (Vu rfl rfl (Vu rfl rfl (Vu rfl rfl (Vu rfl rfl (Vu rfl rfl (un a (V (kR (cB a) rfl) ?_))))))))))))
  obtain rfl := sj g
  exact j _ _ ⟨_, (d.kz (Db (Db St))), rfl, rfl⟩
 refine ug a (kD oQ rfl) (ug a (kA rfl (kM d.has (Mt Mh) rfl aY)) (ug a (kD oQ rfl) (ug a (kA rfl (kM d.has Mh rfl aY)) (ug a (rU rfl rfl rfl) (ug a (kH rfl) (LJ g (fun B E W => ∃ y, ST true ll w W (hp w) y ∧ E 4 = (.bool false) ∧ E 10 = (.bool (qp t.kE u.kE)) ∧ E 22 = (.bool B)) 6 ?_ (fun B i k => ?_)))))))
 ·rintro Q E W ⟨y, d, I, J, K⟩ G
  refine V (kQ (J.trans (cB a)) K) ?_
  obtain rfl := sj G
  exact j _ _ ⟨_, (d.kz St), I, rfl⟩
 refine bC i (fun c i => ?_) (fun c i => ?_)
 ·refine ug c (kD vO rfl) (ug c (kA rfl (kM d.has (Mt Mh) rfl aY)) (ug c (kD vO rfl) (ug c (kA rfl (kM d.has Mh rfl aY)) (ug c (rU rfl rfl rfl) (ug a (kR (cB c) rfl) ?_)))))
  obtain rfl := sj i
  exact k _ _ ⟨_, (d.kz (Db (Db St))), rfl, rfl, rfl⟩
 refine un c (un c (un c (un c (un c (ug a (kQ (cB c) rfl) ?_)))))
 obtain rfl := sj i
 exact k _ _ ⟨_, (d.kz (Db (Db St))), rfl, rfl, rfl⟩
theorem OR (D : Value) (a0 r : List kw) (w : World) (e3 : Sl (Pl kx) 2 (hp w) D a0) (hm : ET a0 = some r) :
  lK true pg0 60 [D] w 28 kx 2 r := by
 refine sP 49 func60 rfl (fun n => sg (Wa (lr (Wa (ln (vB (mK (od (fun m E W => ∃ u a3 t c5, ST true ll w W (hp w) (t ++ c5) ∧ E 0 = D ∧ E 3 = u ∧ kU 28 kx 2 u a3 t ∧ vG a0 m a3 = some r) lC ⟨(.slice none 0 0), ([]), [], _, (n.kz St), rfl, rfl, (kU.nil _ _ _), hm⟩ ?_))))))))
 rintro m E W ⟨u, a3, t, c5, n, d1, g2, J, a5⟩
 cases m with
 | zero => rw [vG] at a5; cases a5
 | succ j5 =>
  refine bg (VE (lA n bP (fun k0 k n => lr (Wa (lS (Wh d1 ?_))))))
  let b8 : Value := (.pointer (some ⟨k, 0, none⟩))
  refine V (ly aF rfl e3) (Wm (ln (CJ a5 (fun a9 E W => ∃ c6, ST true ll w W (hp w) ((k, Ol (kx a9.2) 28) :: (t ++ c6)) ∧ E 0 = D ∧ E 3 = u ∧ E 4 = b8 ∧ E 5 = (.bool a9.1)) (fun a9 e9 => ?_) ?_)))
  ·refine lp (fun i E W => ∃ G x b1, (E 10 = .int .i64 (i : Nat) ∧ E 9 = .int .i64 (a0.length : Nat)) ∧ ST true ll w W (hp w) ((k, Ol (kx x) 28) :: (t ++ b1)) ∧ E 0 = D ∧ E 3 = u ∧ E 4 = b8 ∧ E 5 = (.bool G) ∧ E 8 = D ∧ tf a3 (a0.drop i) G x = some a9) a0.length e3.len ⟨false, K0, _, ⟨rfl, rfl⟩, (n.kz St), d1, g2, rfl, rfl, rfl, e9⟩ dc dc dc (fun _ _ _ h => by obtain ⟨_, _, _, aa, _⟩ := h; exact aa) ?_ ?_
   ·rintro a2 E W e8 ⟨G, x, b1, ⟨s, eN⟩, n, U, M, Y, Z, q, z⟩
    let g5 := ((kx x).toArray : Array Value)
    obtain ⟨c, j9, f9, f8, c4⟩ := lc e8
    let P := ((kx c).toArray : Array Value)
    rw [f9] at z
    refine bg (VQ (lO (enc := kx) (i := (a2 : Int)) (x0 := c) aF aC q s e3 (aD _) f8) (fun k9 f3 => V (kA rfl (lD n.has f3 aN aC)) (VE (lA n bP (fun k3 K n => VO (lf (.agg (kx c).toArray) ((kx c).toArray) n rfl rfl aC (mE c) nb rfl (fun k4 n => ln (kO ?_))))))))
    let j2 : Value := (.int .i64 (a2 : Int))
    let j1 : Value := (.int .i64 (a0.length : Int))
    let g6 : Value := (.pointer (some ⟨K, 0, none⟩))
    replace n := n.drew
    have d := n.has.kz (Kb (Kb (Kr Sn)))
    refine lG d lq (XH 0 rfl d (fun _ o => kA rfl (kI o Mh (kx c) rfl aN aC)) (bS z fun j6 f5 z => XE 1 rfl (Eg n call88 (xY c _ _  f5) (fun k5 n => ?_))))
    have d := n.has.kz (Kb (Kb (Kr Sn)))
    refine ⟨d, (X 2 rfl d (kH rfl) (PJ z (fun e0 E W => ∃ c7, ST true ll w W (hp w) ((K, Obj.cells P 28 (0, 0)) :: ((k, Obj.cells g5 28 (0, 0)) :: (t ++ c7))) ∧ E 0 = D ∧ E 3 = u ∧ E 4 = b8 ∧ E 5 = (.bool G) ∧ E 7 = g6 ∧ E 8 = D ∧ E 9 = j1 ∧ E 10 = j2 ∧ E 30 = (.bool e0)) (bm 26 131071) 9 ?_ (fun e0 T c1 => ?_)))⟩
    ·rintro j8 E W ⟨c7, n, b2, b3, A, L, O, b4, b5, b6, g8⟩ f0
     have d := n.has.kz (Kb (Kb (Kr Sn)))
     refine X 17 rfl d (kH g8) (PJ f0 (fun d8 E W => ∃ c8, ST true ll w W (hp w) ((K, Obj.cells P 28 (0, 0)) :: ((k, Obj.cells g5 28 (0, 0)) :: (t ++ c8))) ∧ E 0 = D ∧ E 3 = u ∧ E 4 = b8 ∧ E 5 = (.bool G) ∧ E 7 = g6 ∧ E 8 = D ∧ E 9 = j1 ∧ E 10 = j2 ∧ E 39 = (.bool d8)) (bm 26 67108863) 0 ?_ (fun d8 Q b9 => ?_))
     ·rintro l4 E W ⟨c8, n, d3, d4, b7, g9, h0, d5, d6, d7, h1⟩ N
      refine lT kr (kF (CI N h1 (fun e7 N => ?_) (fun e7 N => ?_)))
      ·refine sg (V (kA h0 (kI n.has Mh (kx c) rfl aN aC)) ?_)
       replace n := n.perm (Nb (Pb Pz) Nz)
       refine VO (lf (.agg (kx c).toArray) ((kx c).toArray) n b7 rfl aC (mE c) nb rfl (fun k6 n => ln ?_))
       replace n := n.kz (Kb (Db St))
       exact kL (Wa (lh (lu (kF ⟨d7, true, c, _, ⟨rfl, d6⟩, (n.kz St), d3, d4, b7, rfl, d5, (by rw [c4]; exact N)⟩))))
      refine lz (lu (kF ?_))
      replace n := n.kz (Db St)
      exact ⟨d7, G, x, _, ⟨rfl, d6⟩, (n.kz St), d3, d4, b7, g9, d5, (by rw [c4]; exact N)⟩
     refine bC Q (fun j Q => ?_) (fun j Q => ?_)
     ·refine Xg 18 rfl rfl (cB j) d (kH L) (Xg 19 rfl rfl (cB j) d (mQ rfl) (Xg 20 rfl rfl (cB j) d (kH rfl) (PJ Q (fun d9 E W => ∃ c9, ST true ll w W (hp w) ((K, Obj.cells P 28 (0, 0)) :: ((k, Obj.cells g5 28 (0, 0)) :: (t ++ c9))) ∧ E 0 = D ∧ E 3 = u ∧ E 4 = b8 ∧ E 5 = (.bool G) ∧ E 7 = g6 ∧ E 8 = D ∧ E 9 = j1 ∧ E 10 = j2 ∧ E 31 = (.bool j8) ∧ E 38 = (.bool d9)) (bm 26 33554431) 1 ?_ (fun d9 I c0 => ?_))))
      ·rintro l5 E W ⟨c9, n, h2, h3, h4, h5, h6, h7, h8, h9, i0, i1⟩ f1
       have d := n.has.kz (Kb (Kb (Kr Sn)))
       refine X 25 rfl d (kR (i0.trans (cB j)) i1) ?_
       obtain rfl := sj f1
       refine nx kr (b9 _ _ ⟨_, (n.kz St), h2, h3, h4, h5, h6, h7, h8, h9, rfl⟩)
      refine bC I (fun y I => ?_) (fun y I => ?_)
      ·refine Xn 21 rfl rfl (cB y) d (Xn 22 rfl rfl (cB y) d (Xn 23 rfl rfl (cB y) d (Xg 24 rfl rfl (cB j) d (kR (cB y) rfl) ?_)))
       obtain rfl := sj I
       refine nx kr (c0 _ _ ⟨_, (n.kz St), b2, b3, A, L, O, b4, b5, b6, rfl, rfl⟩)
      refine uW 21 rfl rfl (cB y) d (fun _ o => kA O (kI o Mh (kx c) rfl aN aC)) (uW 22 rfl rfl (cB y) d (fun _ o => kA A (kI o (Mt Mh) (kx x) rfl aN aC)) (bS I fun l1 f6 I => DH 23 rfl rfl (cB y) (Eg n call107 (xt c x _ _  f6) (fun k7 n => ?_))))
      have d := n.has.kz (Kb (Kb (Kr Sn)))
      refine ⟨d, (Xg 24 rfl rfl (cB j) d (kQ (cB y) rfl) ?_)⟩
      obtain rfl := sj I
      refine nx kr (c0 _ _ ⟨_, (n.kz St), b2, b3, A, L, O, b4, b5, b6, rfl, rfl⟩)
     refine Xn 18 rfl rfl (cB j) d (Xn 19 rfl rfl (cB j) d (Xn 20 rfl rfl (cB j) d (Xu 21 rfl rfl rfl d (Xu 22 rfl rfl rfl d (Xu 23 rfl rfl rfl d (Xn 24 rfl rfl (cB j) d (X 25 rfl d (kQ (cB j) rfl) ?_)))))))
     obtain rfl := sj Q
     refine nx kr (b9 _ _ ⟨_, (n.kz St), b2, b3, A, L, O, b4, b5, b6, rfl⟩)
    refine bC T (fun g T => ?_) (fun g T => ?_)
    ·refine Xg 3 rfl rfl (cB g) d (kH M) (Xg 4 rfl rfl (cB g) d (mP aF rfl J) (Xg 5 rfl rfl (cB g) d (lL rfl rfl rfl) (Xg 6 rfl rfl (cB g) d (kH rfl) (PJ T (fun e1 E W => ∃ d0, ST true ll w W (hp w) ((K, Obj.cells P 28 (0, 0)) :: ((k, Obj.cells g5 28 (0, 0)) :: (t ++ d0))) ∧ E 0 = D ∧ E 3 = u ∧ E 4 = b8 ∧ E 5 = (.bool G) ∧ E 7 = g6 ∧ E 8 = D ∧ E 9 = j1 ∧ E 10 = j2 ∧ E 16 = (.bool j6) ∧ E 29 = (.bool e1)) (bm 26 65535) 10 ?_ (fun e1 B c2 => ?_)))))
     ·rintro l6 E W ⟨d0, n, i2, i3, i4, i5, i6, i7, i8, i9, j0, j3⟩ f2
      have d := n.has.kz (Kb (Kb (Kr Sn)))
      refine X 16 rfl d (kR (j0.trans (cB g)) j3) ?_
      obtain rfl := sj f2
      refine nx kr (c1 _ _ ⟨_, (n.kz St), i2, i3, i4, i5, i6, i7, i8, i9, rfl⟩)
     refine bC B (fun a B => ?_) (fun a B => ?_)
     ·refine Xn 7 rfl rfl (cB a) d (Xn 8 rfl rfl (cB a) d (Xn 9 rfl rfl (cB a) d (Xn 10 rfl rfl (cB a) d (Xn 11 rfl rfl (cB a) d (Xn 12 rfl rfl (cB a) d (Xn 13 rfl rfl (cB a) d (Xn 14 rfl rfl (cB a) d (Xg 15 rfl rfl (cB g) d (kR (cB a) rfl) ?_))))))))
      obtain rfl := sj B
      refine nx kr (c2 _ _ ⟨_, (n.kz St), U, M, Y, Z, rfl, q, eN, s, rfl, rfl⟩)
     refine Xg 7 rfl rfl (cB a) d (kH M) (Xg 8 rfl rfl (cB a) d (kH M) (Xg 9 rfl rfl (cB a) d (mP aF rfl J) (Xg 10 rfl rfl (cB a) d (lL rfl rfl rfl) (bS B fun e2 b0 B => FM 11 rfl kr (.inr ⟨6, false, 20, rfl, rfl, by decide, (cB a)⟩) rfl dc (fun _ _ h => h) d (mC (i := (wi0 .i64 ((a3.length : Int) - 1))) (x0 := e2) aF aC rfl rfl J (lY b0) (lN b0)) (fun l0 f4 => uW 12 rfl rfl (cB a) d (fun _ o => kA rfl (ot o (fun p hq => (Mt (Mt (Ml hq)))) J mr f4 (lN b0) aN aC)) (uW 13 rfl rfl (cB a) d (fun _ o => kA rfl (kI o Mh (kx c) rfl aN aC)) (bS B fun l2 f7 B => DH 14 rfl rfl (cB a) (Eg n call107 (xt e2 c _ _  f7) (fun k8 n => ?_)))))))))
     have d := n.has.kz (Kb (Kb (Kr Sn)))
     refine ⟨d, (Xg 15 rfl rfl (cB g) d (kQ (cB a) rfl) ?_)⟩
     obtain rfl := sj B
     refine nx kr (c2 _ _ ⟨_, (n.kz St), U, M, Y, Z, rfl, q, eN, s, rfl, rfl⟩)
    refine Xn 3 rfl rfl (cB g) d (Xn 4 rfl rfl (cB g) d (Xn 5 rfl rfl (cB g) d (Xn 6 rfl rfl (cB g) d (Xu 7 rfl rfl rfl d (Xu 8 rfl rfl rfl d (Xu 9 rfl rfl rfl d (Xu 10 rfl rfl rfl d (Xu 11 rfl rfl rfl d (Xu 12 rfl rfl rfl d (Xu 13 rfl rfl rfl d (Xu 14 rfl rfl rfl d (Xn 15 rfl rfl (cB g) d (X 16 rfl d (kQ (cB g) rfl) ?_)))))))))))))
    obtain rfl := sj T
    refine nx kr (c1 _ _ ⟨_, (n.kz St), U, M, Y, Z, rfl, q, eN, s, rfl⟩)
   rintro E W ⟨G, x, b1, ⟨s, eN⟩, n, U, M, Y, Z, q, z⟩
   rw [aG] at z
   refine kF ?_
   obtain rfl := sj z
   exact ⟨_, (n.kz St), U, M, Y, Z⟩
  rintro ⟨l3, a4⟩ E W ⟨c6, n, g3, d2, g4, g7⟩ H
  refine kO (sg (Wh g7 (V (mQ rfl) (ln (CI H rfl (fun e5 H => ?_) (fun e5 H => ?_))))))
  ·refine sg (Wh d2 (Wa (ln ?_)))
   replace n := n.kz (Db St)
   refine lj (lb (me (lb (me (lb ?_)))))
   obtain rfl := sj H
   exact lI (v := u) rfl rfl ⟨_, t, rfl, n.mO (fun p hq => (Ml hq)) J.nd, J⟩
  refine kn (kL (Wh d2 (V (kA g4 (kI n.has Mh (kx a4) rfl aN aC)) (VE (lg (cs := (kx a4).toArray) n (mI rfl) (mD aF aC bP) (fun k1 g1 n => ?_))))))
  replace n := n.perm (Nr (Qb (Qb Qz)) Nz)
  refine bS H fun j4 e6 H => VE (my (enc := kx) (v := u) (vs := (.slice (some ⟨g1, 0, none⟩) 1 1)) (R := t) n mr dc mE aF mq.1 mq.2.1 rfl mq.2.2.1 mq.2.2.2 rfl rfl J (Sl.lit (enc := kx) (l := [a4]) mr rfl nb rfl (n.at_ (Ma Mh))) e6 (fun k2 j7 g0 n e4 => Wa (lh (lu (kF ?_)))))
  replace n := n.kz (Kr (Db (Db St)))
  exact ⟨j5, bT _, j7, j4, g0, _, (n.kz St), g3, rfl, e4, H⟩
theorem Gm (a : Formula) (g : Value) (r : List kw) (w : World) (c : Sl kW 5 (hp w) g a.Kids) (hm : yc a = some r) :
  lK false pg0 30 [(.agg #[(.int .i64 a.Op), (.int .i64 a.K), (.string a.kw.kE), (.string a.kw.kT), g])] w 28 kx 2 r := by
 refine sP 6 func30 rfl (fun d => sg ?_)
 obtain ⟨j, k, rfl⟩ := c.form
 refine VE (lB d rfl (fun N T d => Wa (lr (VA d Mh (C1 a.Op a.K a.kw.kE a.kw.kT j a.Kids.length k) cx aZ (bS hm fun H y hm => VE (pF d call80 ((Gp lC) a (.slice j a.Kids.length k) _ _ (c.mono lW.mono d.kJ) y) (fun Q z U I d G m t => bS hm fun K u hm => VE (pF d call60 (lK.mn (OR z H _ _ (t.sl mr (fun b o h => d.at_ (Ml h))) u)) (fun J B M x d D n i => Wa (ln ?_))))))))))
 replace d := d.kz (Kr (Dr (Db St)))
 refine lj ?_
 obtain rfl := sj hm
 exact lI (v := B) rfl rfl ⟨_, x, rfl, d.mO (fun p h => (Ml h)) i.nd, i⟩
theorem Cw (g : ky) (r : Bool) (w : World) (hm : wy g = some r) :
  la true pg0 68 [(.agg (kC g).toArray)] w (.bool r) := by
 refine cG 93 func68 rfl (fun d => sg (VE (lB d rfl (fun W2 M d => Wa (lr (VE (lA d bP (fun W4 m d => lS ?_))))))))
 refine Wf oe (VA d (Mt Mh) (kx g.Head) aN aC (bS hm fun r5 h4 hm => VE (Eg d call88 (xY g.Head _ _  h4) (fun W7 d => V (mQ rfl) (ln (CI hm rfl (fun h2 hm => ?_) (fun h2 hm => ?_)))))))
 ·refine sg (Wa (ln ?_))
  replace d := d.kz (Db (Db St))
  refine lj (lb ?_)
  obtain rfl := sj hm
  exact rP d
 refine kS (Wf nZ (VB d (Mt Mh) rfl rfl cC (Wi rfl (ln (CI hm rfl (fun h3 hm => ?_) (fun h3 hm => ?_))))))
 ·refine sg (Wf sL (VB d (Mt Mh) rfl rfl aY (bS hm fun i6 f7 hm => VE (Eg d call138 (ya g.lx _ _  f7) (fun i3 d => Wm (LJ hm (fun e1 E W => ∃ c8, ST true ll w W (hp w) ((m, Ol (kx K0) 28) :: ((M, Ol (kC g) 108) :: c8)) ∧ E 1 = (.pointer (some ⟨M, 0, none⟩)) ∧ E 2 = (.bool false) ∧ E 3 = (.pointer (some ⟨m, 0, none⟩)) ∧ E 19 = (.bool e1)) 5 ?_ (fun e1 T s => ?_)))))))
  ·rintro i8 E W ⟨c8, d, n, d6, f9, g0⟩ f0
   refine Wh g0 (LJ f0 (fun e0 E W => ∃ c9, ST true ll w W (hp w) ((M, Ol (kC g) 108) :: c9) ∧ E 1 = (.pointer (some ⟨M, 0, none⟩)) ∧ E 2 = (.bool false) ∧ E 25 = (.bool e0)) 5 ?_ (fun e0 Q a5 => ?_))
   ·rintro i9 E W ⟨c9, d, g1, d7, g2⟩ f1
    refine Wh g2 (LJ f1 (fun d9 E W => ∃ d0, ST true ll w W (hp w) d0 ∧ E 2 = (.bool false) ∧ E 30 = (.bool d9)) 4 ?_ (fun d9 N a4 => ?_))
    ·rintro j0 E W ⟨d0, d, i5, g3⟩ f2
     refine Wg g3 (lt (lb ?_))
     obtain rfl := sj f2
     exact rP d
    refine bC N (fun x N => ?_) (fun x N => ?_)
    ·refine ug x (kD rO g1) (ug x (kA rfl (kM d.has Mh rfl aY)) (ug x (rU rfl rfl rfl) (V (kR (cB x) rfl) ?_)))
     obtain rfl := sj N
     exact a4 _ _ ⟨_, (d.kz (Db St)), d7, rfl⟩
    refine un x (un x (un x (V (kQ (cB x) rfl) ?_)))
    obtain rfl := sj N
    exact a4 _ _ ⟨_, (d.kz (Db St)), d7, rfl⟩
   refine bC Q (fun k Q => ?_) (fun k Q => ?_)
   ·refine ug k (kD pL n) (ug k (kA rfl (kI d.has (Mt Mh) (kx g.C) rfl aN aC)) (ug k (kA f9 (kI d.has Mh (kx K0) rfl aN aC)) (ug k (tT rfl rfl (mY cQ) (pK (nJ _ g.C K0))) (V (kR (cB k) rfl) ?_))))
    obtain rfl := sj Q
    exact a5 _ _ ⟨_, (d.kz (Db St)), n, d6, rfl⟩
   refine un k (un k (un k (un k (V (kQ (cB k) rfl) ?_))))
   obtain rfl := sj Q
   exact a5 _ _ ⟨_, (d.kz (Db St)), n, d6, rfl⟩
  refine bC T (fun j T => ?_) (fun j T => ?_)
  ·refine ug j (kD mT rfl) (ug j (kA rfl (kI d.has (Mt Mh) (kx g.B) rfl aN aC)) (ug j (kA rfl (kI d.has Mh (kx K0) rfl aN aC)) (ug j (tT rfl rfl (mY cQ) (pK (nJ _ g.B K0))) (V (kR (cB j) rfl) ?_))))
   obtain rfl := sj T
   exact s _ _ ⟨_, (d.kz St), rfl, rfl, rfl, rfl⟩
  refine un j (un j (un j (un j (V (kQ (cB j) rfl) ?_))))
  obtain rfl := sj T
  exact s _ _ ⟨_, (d.kz St), rfl, rfl, rfl, rfl⟩
 let a0 := ((kC g).toArray : Array Value)
 let h : Value := (.pointer (some ⟨M, 0, none⟩))
 refine kS (Wf sL (VB d (Mt Mh) rfl rfl aY (V (rU rfl rfl rfl) (Wm (LJ hm (fun c1 E W => ∃ d1, ST true ll w W (hp w) ((m, Ol (kx K0) 28) :: ((M, Obj.cells a0 108 (0, 0)) :: d1)) ∧ E 1 = h ∧ E 3 = (.pointer (some ⟨m, 0, none⟩)) ∧ E 39 = (.bool c1)) 5 ?_ (fun c1 I a3 => ?_))))))
 ·rintro j3 E W ⟨d1, d, u, d8, g4⟩ i
  refine ln (CI i g4 (fun e7 i => ?_) (fun e7 i => ?_))
  ·refine sg (Wa (ln ?_))
   replace d := d.kz (Db (Db St))
   refine lj (lb ?_)
   obtain rfl := sj i
   exact rP d
  refine kS (V (kD nZ u) (VB d (Mt Mh) rfl rfl cC (Wi rfl (ln (CI i rfl (fun e8 i => ?_) (fun e8 i => ?_))))))
  ·refine sg (V (kD pL u) (VA d (Mt Mh) (kx g.C) aN aC (V (kA d8 (kI d.has Mh (kx K0) rfl aN aC)) (V (tT rfl rfl (mY cQ) (pK (nJ _ g.C K0))) (Wm (LJ i (fun e2 E W => ∃ d2, ST true ll w W (hp w) d2 ∧ E 51 = (.bool e2)) 4 ?_ (fun e2 U v => ?_)))))))
   ·rintro j4 E W ⟨d2, d, g7⟩ f3
    refine Wg g7 (lt (lb ?_))
    obtain rfl := sj f3
    exact rP d
   refine bC U (fun y U => ?_) (fun y U => ?_)
   ·refine ug y (kD rO u) (ug y (kA rfl (kM d.has (Mt Mh) rfl aY)) (ug y (rU rfl rfl rfl) (V (kR (cB y) rfl) ?_)))
    obtain rfl := sj U
    exact v _ _ ⟨_, (d.kz (Db (Db St))), rfl⟩
   refine un y (un y (un y (V (kQ (cB y) rfl) ?_)))
   obtain rfl := sj U
   exact v _ _ ⟨_, (d.kz (Db (Db St))), rfl⟩
  refine kS (V (kD nZ u) (VB d (Mt Mh) rfl rfl cC (Wi rfl (ln (CI i rfl (fun e9 i => ?_) (fun e9 i => ?_))))))
  ·refine sg (V (kD pL u) (VA d (Mt Mh) (kx g.C) aN aC (V (kA d8 (kI d.has Mh (kx K0) rfl aN aC)) (V (tT rfl rfl (mY cQ) (pK (nJ _ g.C K0))) (Wm (LJ i (fun e4 E W => ∃ d3, ST true ll w W (hp w) ((M, Obj.cells a0 108 (0, 0)) :: d3) ∧ E 1 = h ∧ E 67 = (.bool e4)) 8 ?_ (fun e4 Y a9 => ?_)))))))
   ·rintro j5 E W ⟨d3, d, g8, g9⟩ f4
    refine Wh g9 (LJ f4 (fun e3 E W => ∃ d4, ST true ll w W (hp w) d4 ∧ E 72 = (.bool e3)) 4 ?_ (fun e3 J A => ?_))
    ·rintro j6 E W ⟨d4, d, h0⟩ f5
     refine Wg h0 (lt (lb ?_))
     obtain rfl := sj f5
     exact rP d
    refine bC J (fun z J => ?_) (fun z J => ?_)
    ·refine ug z (kD rO g8) (ug z (kA rfl (kM d.has Mh rfl aY)) (bS J fun i7 f8 J => pX z (Eg d call138 (ya g.lU _ _  f8) (fun i4 d => V (kR (cB z) rfl) ?_))))
     obtain rfl := sj J
     exact A _ _ ⟨_, (d.kz (Db St)), rfl⟩
    refine un z (un z (un z (V (kQ (cB z) rfl) ?_)))
    obtain rfl := sj J
    exact A _ _ ⟨_, (d.kz (Db St)), rfl⟩
   refine bC Y (fun a Y => ?_) (fun a Y => ?_)
   ·refine ug a (kD mT u) (ug a (kD oQ rfl) (ug a (kA rfl (kM d.has (Mt Mh) rfl aY)) (ug a (kD oe u) (ug a (kD oQ rfl) (ug a (kA rfl (kM d.has (Mt Mh) rfl aY)) (ug a (rU rfl rfl rfl) (V (kR (cB a) rfl) ?_)))))))
    obtain rfl := sj Y
    exact a9 _ _ ⟨_, (d.kz (Db St)), u, rfl⟩
   refine un a (un a (un a (un a (un a (un a (un a (V (kQ (cB a) rfl) ?_)))))))
   obtain rfl := sj Y
   exact a9 _ _ ⟨_, (d.kz (Db St)), u, rfl⟩
  refine kn ?_
  replace d := d.kz (Db St)
  refine sg (V (kD nZ u) (VB d Mh rfl rfl cC (Wi rfl (Wm (LJ i (fun c0 E W => ∃ d5, ST true ll w W (hp w) ((M, Obj.cells a0 108 (0, 0)) :: d5) ∧ E 1 = h ∧ E 80 = (.bool c0)) 4 ?_ (fun c0 K a2 => ?_))))))
  ·rintro j7 E W ⟨d5, d, o, h1⟩ f6
   refine Wh h1 (LJ f6 (fun b9 E W => ∃ L, ST true ll w W (hp w) ((M, Obj.cells a0 108 (0, 0)) :: L) ∧ E 1 = h ∧ E 85 = (.bool b9)) 4 ?_ (fun b9 H q => ?_))
   ·rintro i1 E W ⟨L, d, P, e5⟩ c3
    refine Wh e5 (LJ c3 (fun R E W => ∃ O, ST true ll w W (hp w) O ∧ E 92 = (.bool R)) 6 ?_ (fun R G Z => ?_))
    ·rintro i2 E W ⟨O, d, e6⟩ c4
     exact Wg e6 (lt (rQ c4 d))
    refine bC G (fun c G => ?_) (fun c G => ?_)
    ·refine ug c (kD mT P) (ug c (kA rfl (kI d.has Mh (kx g.B) rfl aN aC)) (ug c (kD pL P) (ug c (kA rfl (kI d.has Mh (kx g.C) rfl aN aC)) (bS G fun h8 c5 G => pX c (Eg d call107 (xt g.B g.C _ _  c5) (fun h5 d => V (kR (cB c) rfl) ?_))))))
     obtain rfl := sj G
     exact Z _ _ ⟨_, (d.kz (Db St)), rfl⟩
    refine un c (un c (un c (un c (un c (V (kQ (cB c) rfl) ?_)))))
    obtain rfl := sj G
    exact Z _ _ ⟨_, (d.kz (Db St)), rfl⟩
   refine bC H (fun D H => ?_) (fun D H => ?_)
   ·refine ug D (kD pL o) (ug D (kA rfl (kI d.has Mh (kx g.C) rfl aN aC)) (bS H fun h9 c6 H => pX D (Eg d call88 (xY g.C _ _  c6) (fun h6 d => V (kR (cB D) rfl) ?_))))
    obtain rfl := sj H
    exact q _ _ ⟨_, (d.kz St), o, rfl⟩
   refine un D (un D (un D (V (kQ (cB D) rfl) ?_)))
   obtain rfl := sj H
   exact q _ _ ⟨_, (d.kz St), o, rfl⟩
  refine bC K (fun B K => ?_) (fun B K => ?_)
  ·refine ug B (kD rO u) (ug B (kA rfl (kM d.has Mh rfl aY)) (ug B (rU rfl rfl rfl) (V (kR (cB B) rfl) ?_)))
   obtain rfl := sj K
   exact a2 _ _ ⟨_, (d.kz St), u, rfl⟩
  refine un B (un B (un B (V (kQ (cB B) rfl) ?_)))
  obtain rfl := sj K
  exact a2 _ _ ⟨_, (d.kz St), u, rfl⟩
 refine bC I (fun t I => ?_) (fun t I => ?_)
 ·refine un t (un t (un t (un t (V (kR (cB t) rfl) ?_))))
  obtain rfl := sj I
  exact a3 _ _ ⟨_, (d.kz St), rfl, rfl, rfl⟩
 refine ug t (kD mT rfl) (ug t (kA rfl (kI d.has (Mt Mh) (kx g.B) rfl aN aC)) (bS I fun i0 c7 I => pX t (Eg d call88 (xY g.B _ _  c7) (fun h7 d => ug t (mQ rfl) (V (kQ (cB t) rfl) ?_)))))
 obtain rfl := sj I
 exact a3 _ _ ⟨_, (d.kz St), rfl, rfl, rfl⟩
theorem Fm (x : Int) (r : ByteArray) (w : World) (hm : xA x = some r) :
  la true pg0 87 [(.int .i64 x)] w (.string r) := by
 refine cG 22 func87 rfl (fun d => sg (Wa (lr (Wa (ln (kO (mK (od (fun m E W => ∃ c j t, ST true ll w W (hp w) t ∧ E 0 = (.int .i64 c) ∧ E 3 = (.string j) ∧ vj m c j = some r) lC ⟨x, zS, _, (d.kz St), rfl, rfl, hm⟩ ?_))))))))
 rintro m E W ⟨c, j, t, d, i, u, g⟩
 let N := (Int.tmod c 128)
 cases m with
 | zero => rw [vj] at g; cases g
 | succ D =>
  refine kO (sg (Wh i (Wi rfl (ln (CI g rfl (fun y g => ?_) (fun y g => ?_))))))
  ·refine kn (bg (Wh u (Wh i (V (FT (k := .i64) (a := c) (b := 128) (v := (.int .i64 N)) rfl rfl dc rfl) (Wi rfl (V (Cf (k' := .i64) (a := (wi0 .i64 (128 + N))) gC eU rfl) (VE (lg (cs := [(.int .u8 (IntKind.u8.wrap (wi0 .i64 (128 + N))))].toArray) d (mI rfl) (mD cw iY kd) (fun H J d => V (Ku cw eU bQ rfl (Sl.lit (enc := (lJ .u8)) (l := [(IntKind.u8.wrap (wi0 .i64 (128 + N)))]) (fun _ => rfl) rfl nb rfl (d.at_ Mh))) (bS g fun G z g => V (CF rfl rfl z) (Wa ?_)))))))))))
   refine ln ?_
   replace d := d.kz (Db St)
   exact kL (Wh i (V (FT (k := .i64) (a := c) (b := 128) (v := (.int .i64 (wi0 .i64 (Int.tdiv c 128)))) rfl rfl dc rfl) (Wa (lh (lu (kF ⟨D, bT _, (wi0 .i64 (Int.tdiv c 128)), G, _, (d.kz St), rfl, rfl, g⟩))))))
  refine ob (nN (nN (uf (kF (sg (Wh u (Wh i (V (Cf (k' := .i64) (a := c) gC eU rfl) (VE (lg (cs := [(.int .u8 (IntKind.u8.wrap c))].toArray) d (mI rfl) (mD cw iY kd) (fun I K d => V (Ku cw eU bQ rfl (Sl.lit (enc := (lJ .u8)) (l := [(IntKind.u8.wrap c)]) (fun _ => rfl) rfl nb rfl (d.at_ Mh))) (bS g fun M B g => V (CF rfl rfl B) (Wa (ln ?_))))))))))))))
  exact lj (rQ g d)
theorem Bo (a r : ByteArray) (w : World) (hm : vV a = some r) :
  la true pg0 154 [(.string a)] w (.string r) := by
 refine cG 8 func154 rfl (fun d => sg (Wa (lr (Wm (V (om bQ rfl) (bS hm fun j c hm => VE (Eg d call87 (Fm (a.size : Int) _ _  c) (fun i d => Wm (bS hm fun k g hm => V (CF rfl rfl g) ?_)))))))))
 exact Wa (lt (rQ hm d))
theorem Ck (a : kw) (r : ByteArray) (w : World) (hm : wz a = some r) :
  la true pg0 89 [(.agg (kx a).toArray)] w (.string r) := by
 refine cG 10 func89 rfl (fun d => sg (VE (lB d rfl (fun y z d => Wa (ln (kO ?_))))))
 replace d := d.drew
 have h := d.has.kz (Kb Sn)
 refine lG h lq (X 0 rfl h (kD oQ rfl) (XH 1 rfl h (fun _ m => kA rfl (kM m Mh rfl aY)) (X 3 rfl h (kD vO rfl) (XH 4 rfl h (fun _ m => kA rfl (kM m Mh rfl aY)) (bS hm fun t c hm => XE 2 rfl (Eg d call154 (Bo a.kE _ _  c) (fun j d => ?_)))))))
 have h := d.has.kz (Kb Sn)
 refine ⟨h, (bS hm fun u g hm => XE 5 rfl (Eg d call154 (Bo a.kT _ _  g) (fun k d => ?_)))⟩
 have h := d.has.kz (Kb Sn)
 refine ⟨h, (bS hm fun x i hm => X 6 rfl h (CF rfl rfl i) (X 7 rfl h (mN rfl) (lT kr (kF ?_))))⟩
 exact lj (rQ hm d)
theorem LX (g : ky) (r : ByteArray) (w : World) (hm : Co g = some r) :
  la true pg0 155 [(.agg (kC g).toArray)] w (.string r) := by
 refine cG 41 func155 rfl (fun d => sg (VE (lB d rfl (fun W2 n d => Wa (ln (kO ?_))))))
 replace d := d.drew
 have h := d.has.kz (Kb Sn)
 refine lG h lq (X 0 rfl h (kD nZ rfl) (XH 1 rfl h (fun _ m => kA rfl (kM m Mh rfl cC)) (X 3 rfl h (kD oe rfl) (XH 4 rfl h (fun _ m => kA rfl (kI m Mh (kx g.Head) rfl aN aC)) (bS hm fun a9 H hm => XE 2 rfl (Eg d call87 (Fm g.Kind _ _  H) (fun a3 d => ?_)))))))
 have h := d.has.kz (Kb Sn)
 refine ⟨h, (bS hm fun v I hm => XE 5 rfl (Eg d call89 (Ck g.Head _ _  I) (fun a4 d => ?_)))⟩
 have h := d.has.kz (Kb Sn)
 refine ⟨h, (bS hm fun R Q hm => X 6 rfl h (CF rfl rfl Q) (X 7 rfl h (mN rfl) (lT kr (kF (kO (sg (Wf nZ (VB d Mh rfl rfl cC (Wi rfl (ln (CI hm rfl (fun y hm => ?_) (fun y hm => ?_))))))))))))⟩
 ·refine sg (Wm (Wf sL (VB d Mh rfl rfl aY (bS hm fun A J hm => VE (Eg d call154 (Bo g.lx _ _  J) (fun a5 d => bS hm fun b7 T hm => V (CF rfl rfl T) (Wa (ln ?_))))))))
  replace d := d.kz (Db St)
  refine lj (lb ?_)
  obtain rfl := sj hm
  exact rP d
 refine kg (Wm (Wf mT (VA d Mh (kx g.B) aN aC (bS hm fun L K hm => VE (Eg d call89 (Ck g.B _ _  K) (fun o d => bS hm fun b9 U hm => V (CF rfl rfl U) (Wa (ln (kO ?_)))))))))
 refine CJ hm (fun x E W => ∃ i, ST true ll w W (hp w) ((n, Ol (kC g) 108) :: i) ∧ E 1 = (.pointer (some ⟨n, 0, none⟩)) ∧ E 3 = (.string x)) (fun x c => ?_) ?_
 ·refine sg (Wf nZ (VB d Mh rfl rfl cC (Wi rfl (ln (CI c rfl (fun B c => ?_) (fun B c => ?_))))))
  ·refine kL (Wm (Wf rO (VB d Mh rfl rfl aY (bS c fun P N c => VE (Eg d call154 (Bo g.lU _ _  N) (fun s d => bS c fun c1 Z c => V (CF rfl rfl Z) (Wa (ln ?_))))))))
   obtain rfl := sj c
   exact ⟨_, (d.kz St), rfl, rfl⟩
  refine kn ?_
  obtain rfl := sj c
  exact ⟨_, (d.kz St), rfl, rfl⟩
 rintro c2 E W ⟨i, d, k, t⟩ D
 refine kO (CJ D (fun u E W => ∃ j, ST true ll w W (hp w) j ∧ E 3 = (.string u)) (fun u a => ?_) ?_)
 ·refine sg (V (kD nZ k) (VB d Mh rfl rfl cC (Wi rfl (ln (CI a rfl (fun z a => ?_) (fun z a => ?_))))))
  ·refine kL (Wh t (V (kD pL k) (VA d Mh (kx g.C) aN aC (bS a fun O M a => VE (Eg d call89 (Ck g.C _ _  M) (fun q d => bS a fun c0 Y a => V (CF rfl rfl Y) (Wa (ln ?_))))))))
   obtain rfl := sj a
   exact ⟨_, (d.kz (Db St)), rfl⟩
  refine kn ?_
  obtain rfl := sj a
  exact ⟨_, (d.kz (Db St)), t⟩
 rintro c3 E W ⟨j, d, a2⟩ G
 exact sg (Wh a2 (Wa (lt (rQ G d))))
theorem Gt (a : ky) (r : ByteArray) (w : World) (hm : xV a = some r) :
  la true pg0 139 [(.agg (kC a).toArray)] w (.string r) := by
 refine cG 8 func139 rfl (fun d => sg (VE (lB d rfl (fun j u d => Wa (lS (VA d Mh (kC a) bG aI (bS hm fun x g hm => VE (Eg d call68 (Cw a _ _  g) (fun k d => V (mQ rfl) (lh ?_))))))))))
 refine kF (CI hm rfl (fun c hm => ?_) (fun c hm => ?_))
 ·refine sg (Wa (ln ?_))
  replace d := d.kz (Db St)
  refine lj (lb ?_)
  obtain rfl := sj hm
  exact rP d
 refine kg (VA d Mh (kC a) bG aI (bS hm fun y i hm => VE (Eg d call155 (LX a _ _  i) (fun t d => Wa (ln ?_)))))
 exact lj (rQ hm d)
theorem Eh (a c : ky) (r : Int) (w : World) (hm : uF a c = some r) :
  la true pg0 69 [(.agg (kC a).toArray), (.agg (kC c).toArray)] w (.int .i64 r) := by
 refine cG 17 func69 rfl (fun d => sg (VE (lB d rfl (fun u z d => VE (lB d rfl (fun x B d => Wa (lr (VA d (Mt Mh) (kC a) bG aI (bS hm fun D j hm => VE (Eg d call139 (Gt a _ _  j) (fun y d => Wa (lh ?_))))))))))))
 refine kF ?_
 replace d := d.kz (Kb (Db St))
 refine sg (VA d Mh (kC c) bG aI (bS hm fun G k hm => VE (Eg d call139 (Gt c _ _  k) (fun t d => Wa (ln ?_)))))
 replace d := d.kz (Db St)
 refine kO (sg (Wm (Wm (V (rU rfl rfl rfl) (ln (CI hm rfl (fun g hm => ?_) (fun g hm => ?_)))))))
 ·refine sg (Wa (lt (lb ?_)))
  obtain rfl := sj hm
  exact rP d
 refine kS (Wm (Wm (V (rU rfl rfl rfl) (ln (CI hm rfl (fun i hm => ?_) (fun i hm => ?_))))))
 ·refine sg (Wa (lt (lb ?_)))
  obtain rfl := sj hm
  exact rP d
 exact kg (Wa (lt (rQ hm d)))
theorem Ox (D : Value) (a0 r : List ky) (w : World) (e3 : Sl (Pl kC) 9 (hp w) D a0) (hm : EY a0 = some r) :
  lK true pg0 23 [D] w 108 kC 9 r := by
 refine sP 51 func23 rfl (fun n => sg (Wa (lr (Wa (ln (vB (mK (od (fun m E W => ∃ x a3 u c5, ST true ll w W (hp w) (u ++ c5) ∧ E 0 = D ∧ E 3 = x ∧ kU 108 kC 9 x a3 u ∧ vE a0 m a3 = some r) lC ⟨(.slice none 0 0), ([]), [], _, (n.kz St), rfl, rfl, (kU.nil _ _ _), hm⟩ ?_))))))))
 rintro m E W ⟨x, a3, u, c5, n, d1, g2, J, a5⟩
 cases m with
 | zero => rw [vE] at a5; cases a5
 | succ j5 =>
  refine bg (VE (lA n cg (fun k0 t n => lr (Wa (lS (Wh d1 ?_))))))
  let b8 : Value := (.pointer (some ⟨t, 0, none⟩))
  refine V (ly aX rfl e3) (Wm (ln (CJ a5 (fun a9 E W => ∃ c6, ST true ll w W (hp w) ((t, Ol (kC a9.2) 108) :: (u ++ c6)) ∧ E 0 = D ∧ E 3 = x ∧ E 4 = b8 ∧ E 5 = (.bool a9.1)) (fun a9 e9 => ?_) ?_)))
  ·refine lp (fun i E W => ∃ G y b1, (E 10 = .int .i64 (i : Nat) ∧ E 9 = .int .i64 (a0.length : Nat)) ∧ ST true ll w W (hp w) ((t, Ol (kC y) 108) :: (u ++ b1)) ∧ E 0 = D ∧ E 3 = x ∧ E 4 = b8 ∧ E 5 = (.bool G) ∧ E 8 = D ∧ tA a3 (a0.drop i) G y = some a9) a0.length e3.len ⟨false, K6, _, ⟨rfl, rfl⟩, (n.kz St), d1, g2, rfl, rfl, rfl, e9⟩ dc dc dc (fun _ _ _ h => by obtain ⟨_, _, _, aa, _⟩ := h; exact aa) ?_ ?_
   ·rintro a2 E W e8 ⟨G, y, b1, ⟨s, eN⟩, n, U, M, Y, Z, q, z⟩
    let g5 := ((kC y).toArray : Array Value)
    obtain ⟨c, j9, f9, f8, c4⟩ := lc e8
    let P := ((kC c).toArray : Array Value)
    rw [f9] at z
    refine bg (VQ (lO (enc := kC) (i := (a2 : Int)) (x0 := c) aX aI q s e3 (aD _) f8) (fun k9 f3 => V (kA rfl (lD n.has f3 bG aI)) (VE (lA n cg (fun k3 K n => VO (lf (.agg (kC c).toArray) ((kC c).toArray) n rfl rfl aI (nI c) nb rfl (fun k4 n => ln (kO ?_))))))))
    let j2 : Value := (.int .i64 (a2 : Int))
    let j1 : Value := (.int .i64 (a0.length : Int))
    let g6 : Value := (.pointer (some ⟨K, 0, none⟩))
    replace n := n.drew
    have d := n.has.kz (Kb (Kb (Kr Sn)))
    refine lG d lq (XH 0 rfl d (fun _ o => kA rfl (kI o Mh (kC c) rfl bG aI)) (bS z fun j6 f5 z => XE 1 rfl (Eg n call68 (Cw c _ _  f5) (fun k5 n => ?_))))
    have d := n.has.kz (Kb (Kb (Kr Sn)))
    refine ⟨d, (X 2 rfl d (kH rfl) (PJ z (fun e0 E W => ∃ c7, ST true ll w W (hp w) ((K, Obj.cells P 108 (0, 0)) :: ((t, Obj.cells g5 108 (0, 0)) :: (u ++ c7))) ∧ E 0 = D ∧ E 3 = x ∧ E 4 = b8 ∧ E 5 = (.bool G) ∧ E 7 = g6 ∧ E 8 = D ∧ E 9 = j1 ∧ E 10 = j2 ∧ E 31 = (.bool e0)) (bm 28 262143) 10 ?_ (fun e0 T c1 => ?_)))⟩
    ·rintro j8 E W ⟨c7, n, b2, b3, A, L, O, b4, b5, b6, g8⟩ f0
     have d := n.has.kz (Kb (Kb (Kr Sn)))
     refine X 18 rfl d (kH g8) (PJ f0 (fun d8 E W => ∃ c8, ST true ll w W (hp w) ((K, Obj.cells P 108 (0, 0)) :: ((t, Obj.cells g5 108 (0, 0)) :: (u ++ c8))) ∧ E 0 = D ∧ E 3 = x ∧ E 4 = b8 ∧ E 5 = (.bool G) ∧ E 7 = g6 ∧ E 8 = D ∧ E 9 = j1 ∧ E 10 = j2 ∧ E 41 = (.bool d8)) (bm 28 268435455) 0 ?_ (fun d8 Q b9 => ?_))
     ·rintro l4 E W ⟨c8, n, d3, d4, b7, g9, h0, d5, d6, d7, h1⟩ N
      refine lT kr (kF (CI N h1 (fun e7 N => ?_) (fun e7 N => ?_)))
      ·refine sg (V (kA h0 (kI n.has Mh (kC c) rfl bG aI)) ?_)
       replace n := n.perm (Nb (Pb Pz) Nz)
       refine VO (lf (.agg (kC c).toArray) ((kC c).toArray) n b7 rfl aI (nI c) nb rfl (fun k6 n => ln ?_))
       replace n := n.kz (Kb (Db St))
       exact kL (Wa (lh (lu (kF ⟨d7, true, c, _, ⟨rfl, d6⟩, (n.kz St), d3, d4, b7, rfl, d5, (by rw [c4]; exact N)⟩))))
      refine lz (lu (kF ?_))
      replace n := n.kz (Db St)
      exact ⟨d7, G, y, _, ⟨rfl, d6⟩, (n.kz St), d3, d4, b7, g9, d5, (by rw [c4]; exact N)⟩
     refine bC Q (fun j Q => ?_) (fun j Q => ?_)
     ·refine Xg 19 rfl rfl (cB j) d (kH L) (Xg 20 rfl rfl (cB j) d (mQ rfl) (Xg 21 rfl rfl (cB j) d (kH rfl) (PJ Q (fun d9 E W => ∃ c9, ST true ll w W (hp w) ((K, Obj.cells P 108 (0, 0)) :: ((t, Obj.cells g5 108 (0, 0)) :: (u ++ c9))) ∧ E 0 = D ∧ E 3 = x ∧ E 4 = b8 ∧ E 5 = (.bool G) ∧ E 7 = g6 ∧ E 8 = D ∧ E 9 = j1 ∧ E 10 = j2 ∧ E 32 = (.bool j8) ∧ E 40 = (.bool d9)) (bm 28 134217727) 1 ?_ (fun d9 I c0 => ?_))))
      ·rintro l5 E W ⟨c9, n, h2, h3, h4, h5, h6, h7, h8, h9, i0, i1⟩ f1
       have d := n.has.kz (Kb (Kb (Kr Sn)))
       refine X 27 rfl d (kR (i0.trans (cB j)) i1) ?_
       obtain rfl := sj f1
       refine nx kr (b9 _ _ ⟨_, (n.kz St), h2, h3, h4, h5, h6, h7, h8, h9, rfl⟩)
      refine bC I (fun k I => ?_) (fun k I => ?_)
      ·refine Xn 22 rfl rfl (cB k) d (Xn 23 rfl rfl (cB k) d (Xn 24 rfl rfl (cB k) d (Xn 25 rfl rfl (cB k) d (Xg 26 rfl rfl (cB j) d (kR (cB k) rfl) ?_))))
       obtain rfl := sj I
       refine nx kr (c0 _ _ ⟨_, (n.kz St), b2, b3, A, L, O, b4, b5, b6, rfl, rfl⟩)
      refine uW 22 rfl rfl (cB k) d (fun _ o => kA O (kI o Mh (kC c) rfl bG aI)) (uW 23 rfl rfl (cB k) d (fun _ o => kA A (kI o (Mt Mh) (kC y) rfl bG aI)) (bS I fun l1 f6 I => DH 24 rfl rfl (cB k) (Eg n call69 (Eh c y _ _  f6) (fun k7 n => ?_))))
      have d := n.has.kz (Kb (Kb (Kr Sn)))
      refine ⟨d, (Xg 25 rfl rfl (cB k) d (lL rfl rfl rfl) (Xg 26 rfl rfl (cB j) d (kQ (cB k) rfl) ?_))⟩
      obtain rfl := sj I
      refine nx kr (c0 _ _ ⟨_, (n.kz St), b2, b3, A, L, O, b4, b5, b6, rfl, rfl⟩)
     refine Xn 19 rfl rfl (cB j) d (Xn 20 rfl rfl (cB j) d (Xn 21 rfl rfl (cB j) d (Xu 22 rfl rfl rfl d (Xu 23 rfl rfl rfl d (Xu 24 rfl rfl rfl d (Xu 25 rfl rfl rfl d (Xn 26 rfl rfl (cB j) d (X 27 rfl d (kQ (cB j) rfl) ?_))))))))
     obtain rfl := sj Q
     refine nx kr (b9 _ _ ⟨_, (n.kz St), b2, b3, A, L, O, b4, b5, b6, rfl⟩)
    refine bC T (fun g T => ?_) (fun g T => ?_)
    ·refine Xg 3 rfl rfl (cB g) d (kH M) (Xg 4 rfl rfl (cB g) d (mP aX rfl J) (Xg 5 rfl rfl (cB g) d (lL rfl rfl rfl) (Xg 6 rfl rfl (cB g) d (kH rfl) (PJ T (fun e1 E W => ∃ d0, ST true ll w W (hp w) ((K, Obj.cells P 108 (0, 0)) :: ((t, Obj.cells g5 108 (0, 0)) :: (u ++ d0))) ∧ E 0 = D ∧ E 3 = x ∧ E 4 = b8 ∧ E 5 = (.bool G) ∧ E 7 = g6 ∧ E 8 = D ∧ E 9 = j1 ∧ E 10 = j2 ∧ E 16 = (.bool j6) ∧ E 30 = (.bool e1)) (bm 28 131071) 11 ?_ (fun e1 B c2 => ?_)))))
     ·rintro l6 E W ⟨d0, n, i2, i3, i4, i5, i6, i7, i8, i9, j0, j3⟩ f2
      have d := n.has.kz (Kb (Kb (Kr Sn)))
      refine X 17 rfl d (kR (j0.trans (cB g)) j3) ?_
      obtain rfl := sj f2
      refine nx kr (c1 _ _ ⟨_, (n.kz St), i2, i3, i4, i5, i6, i7, i8, i9, rfl⟩)
     refine bC B (fun a B => ?_) (fun a B => ?_)
     ·refine Xn 7 rfl rfl (cB a) d (Xn 8 rfl rfl (cB a) d (Xn 9 rfl rfl (cB a) d (Xn 10 rfl rfl (cB a) d (Xn 11 rfl rfl (cB a) d (Xn 12 rfl rfl (cB a) d (Xn 13 rfl rfl (cB a) d (Xn 14 rfl rfl (cB a) d (Xn 15 rfl rfl (cB a) d (Xg 16 rfl rfl (cB g) d (kR (cB a) rfl) ?_)))))))))
      obtain rfl := sj B
      refine nx kr (c2 _ _ ⟨_, (n.kz St), U, M, Y, Z, rfl, q, eN, s, rfl, rfl⟩)
     refine Xg 7 rfl rfl (cB a) d (kH M) (Xg 8 rfl rfl (cB a) d (kH M) (Xg 9 rfl rfl (cB a) d (mP aX rfl J) (Xg 10 rfl rfl (cB a) d (lL rfl rfl rfl) (bS B fun e2 b0 B => FM 11 rfl kr (.inr ⟨6, false, 20, rfl, rfl, by decide, (cB a)⟩) rfl dc (fun _ _ h => h) d (mC (i := (wi0 .i64 ((a3.length : Int) - 1))) (x0 := e2) aX aI rfl rfl J (lY b0) (lN b0)) (fun l0 f4 => uW 12 rfl rfl (cB a) d (fun _ o => kA rfl (ot o (fun p hq => (Mt (Mt (Ml hq)))) J mW f4 (lN b0) bG aI)) (uW 13 rfl rfl (cB a) d (fun _ o => kA rfl (kI o Mh (kC c) rfl bG aI)) (bS B fun l2 f7 B => DH 14 rfl rfl (cB a) (Eg n call69 (Eh e2 c _ _  f7) (fun k8 n => ?_)))))))))
     have d := n.has.kz (Kb (Kb (Kr Sn)))
     refine ⟨d, (Xg 15 rfl rfl (cB a) d (lL rfl rfl rfl) (Xg 16 rfl rfl (cB g) d (kQ (cB a) rfl) ?_))⟩
     obtain rfl := sj B
     refine nx kr (c2 _ _ ⟨_, (n.kz St), U, M, Y, Z, rfl, q, eN, s, rfl, rfl⟩)
    refine Xn 3 rfl rfl (cB g) d (Xn 4 rfl rfl (cB g) d (Xn 5 rfl rfl (cB g) d (Xn 6 rfl rfl (cB g) d (Xu 7 rfl rfl rfl d (Xu 8 rfl rfl rfl d (Xu 9 rfl rfl rfl d (Xu 10 rfl rfl rfl d (Xu 11 rfl rfl rfl d (Xu 12 rfl rfl rfl d (Xu 13 rfl rfl rfl d (Xu 14 rfl rfl rfl d (Xu 15 rfl rfl rfl d (Xn 16 rfl rfl (cB g) d (X 17 rfl d (kQ (cB g) rfl) ?_))))))))))))))
    obtain rfl := sj T
    refine nx kr (c1 _ _ ⟨_, (n.kz St), U, M, Y, Z, rfl, q, eN, s, rfl⟩)
   rintro E W ⟨G, y, b1, ⟨s, eN⟩, n, U, M, Y, Z, q, z⟩
   rw [aG] at z
   refine kF ?_
   obtain rfl := sj z
   exact ⟨_, (n.kz St), U, M, Y, Z⟩
  rintro ⟨l3, a4⟩ E W ⟨c6, n, g3, d2, g4, g7⟩ H
  refine kO (sg (Wh g7 (V (mQ rfl) (ln (CI H rfl (fun e5 H => ?_) (fun e5 H => ?_))))))
  ·refine sg (Wh d2 (Wa (ln ?_)))
   replace n := n.kz (Db St)
   refine lj (lb (me (lb (me (lb ?_)))))
   obtain rfl := sj H
   exact lI (v := x) rfl rfl ⟨_, u, rfl, n.mO (fun p hq => (Ml hq)) J.nd, J⟩
  refine kn (kL (Wh d2 (V (kA g4 (kI n.has Mh (kC a4) rfl bG aI)) (VE (lg (cs := (kC a4).toArray) n (mI rfl) (mD aX aI cg) (fun k1 g1 n => ?_))))))
  replace n := n.perm (Nr (Qb (Qb Qz)) Nz)
  refine bS H fun j4 e6 H => VE (my (enc := kC) (v := x) (vs := (.slice (some ⟨g1, 0, none⟩) 1 1)) (R := u) n mW dc nI aX pY.1 pY.2.1 rfl pY.2.2.1 pY.2.2.2 rfl rfl J (Sl.lit (enc := kC) (l := [a4]) mW rfl nb rfl (n.at_ (Ma Mh))) e6 (fun k2 j7 g0 n e4 => Wa (lh (lu (kF ?_)))))
  replace n := n.kz (Kr (Db (Db St)))
  exact ⟨j5, bT _, j7, j4, g0, _, (n.kz St), g3, rfl, e4, H⟩
theorem OL (x : Value) (a0 r : List ByteArray) (w : World) (c0 : Sl (Pl ni) 1 (hp w) x a0) (hm : BK a0 = some r) :
  lK true pg0 131 [x] w 9 ni 1 r := by
 refine sP 48 func131 rfl (fun d => sg (Wa (lr (Wa (ln (vB (mK (od (fun m E W => ∃ u a2 j c1, ST true ll w W (hp w) (j ++ c1) ∧ E 0 = x ∧ E 3 = u ∧ kU 9 ni 1 u a2 j ∧ vI a0 m a2 = some r) lC ⟨(.slice none 0 0), ([]), [], _, (d.kz St), rfl, rfl, (kU.nil _ _ _), hm⟩ ?_))))))))
 rintro m E W ⟨u, a2, j, c1, d, c7, f6, G, Z⟩
 cases m with
 | zero => rw [vI] at Z; cases Z
 | succ i3 =>
  refine bg (Wa (lS (Wh c7 (V (ly bE rfl c0) (Wm (ln (CJ Z (fun b7 E W => ∃ c2, ST true ll w W (hp w) (j ++ c2) ∧ E 0 = x ∧ E 3 = u ∧ E 4 = (.string b7)) (fun b7 e5 => ?_) ?_)))))))
  ·refine lp (fun i E W => ∃ z s, (E 9 = .int .i64 (i : Nat) ∧ E 8 = .int .i64 (a0.length : Nat)) ∧ ST true ll w W (hp w) (j ++ s) ∧ E 0 = x ∧ E 3 = u ∧ E 4 = (.string z) ∧ E 7 = x ∧ tJ a2 (a0.drop i) z = some b7) a0.length c0.len ⟨zS, _, ⟨rfl, rfl⟩, (d.kz St), c7, f6, rfl, rfl, e5⟩ dc dc dc (fun _ _ _ h => by obtain ⟨_, _, a6, _⟩ := h; exact a6) ?_ ?_
   ·rintro n E W e4 ⟨z, s, ⟨o, q⟩, d, Q, H, T, U, t⟩
    obtain ⟨I, i7, f3, f2, b9⟩ := lc e4
    rw [f3] at t
    refine bg (VQ (lO (enc := ni) (i := (n : Int)) (x0 := I) bE dh U o c0 (aD _) f2) (fun j3 e9 => V (kA rfl (ng d.has (y := (.string I)) e9 aY)) (Wa (lr (Wm (bS t fun i4 f1 t => VE (Eg d call138 (ya I _ _  f1) (fun j0 d => Wm (LJ t (fun d7 E W => ∃ c3, ST true ll w W (hp w) (j ++ c3) ∧ E 0 = x ∧ E 3 = u ∧ E 4 = (.string z) ∧ E 6 = (.string I) ∧ E 7 = x ∧ E 8 = (.int .i64 (a0.length : Int)) ∧ E 9 = (.int .i64 (n : Int)) ∧ E 29 = (.bool d7)) 14 ?_ (fun d7 N a9 => ?_))))))))))
    ·rintro i6 E W ⟨c3, d, A, L, Y, a3, O, P, b6, f8⟩ e6
     refine Wh f8 (LJ e6 (fun d5 E W => ∃ c4, ST true ll w W (hp w) (j ++ c4) ∧ E 0 = x ∧ E 3 = u ∧ E 4 = (.string z) ∧ E 6 = (.string I) ∧ E 7 = x ∧ E 8 = (.int .i64 (a0.length : Int)) ∧ E 9 = (.int .i64 (n : Int)) ∧ E 38 = (.bool d5)) 8 ?_ (fun d5 K a7 => ?_))
     ·rintro j5 E W ⟨c4, d, d0, d1, f9, g0, d2, d3, d4, g1⟩ J
      refine ln (CI J g1 (fun e3 J => ?_) (fun e3 J => ?_))
      ·exact kL (Wh g0 (Wa (lh (lu (kF ⟨d4, I, _, ⟨rfl, d3⟩, (d.kz St), d0, d1, rfl, d2, (by rw [b9]; exact J)⟩)))))
      exact lz (lu (kF ⟨d4, z, _, ⟨rfl, d3⟩, (d.kz St), d0, d1, f9, d2, (by rw [b9]; exact J)⟩))
     refine bC K (fun g K => ?_) (fun g K => ?_)
     ·refine ug g (kH Y) (ug g (rU rfl rfl rfl) (ug g (kH rfl) (LJ K (fun d6 E W => ∃ c5, ST true ll w W (hp w) (j ++ c5) ∧ E 0 = x ∧ E 3 = u ∧ E 4 = (.string z) ∧ E 6 = (.string I) ∧ E 7 = x ∧ E 8 = (.int .i64 (a0.length : Int)) ∧ E 9 = (.int .i64 (n : Int)) ∧ E 30 = (.bool i6) ∧ E 37 = (.bool d6)) 4 ?_ (fun d6 M a8 => ?_))))
      ·rintro j6 E W ⟨c5, d, g2, g3, g4, g7, g8, g9, h0, h1, h2⟩ e7
       refine V (kR (h1.trans (cB g)) h2) ?_
       obtain rfl := sj e7
       exact a7 _ _ ⟨_, (d.kz St), g2, g3, g4, g7, g8, g9, h0, rfl⟩
      refine bC M (fun k M => ?_) (fun k M => ?_)
      ·refine un k (un k (un k (ug g (kR (cB k) rfl) ?_)))
       obtain rfl := sj M
       exact a8 _ _ ⟨_, (d.kz St), A, L, Y, a3, O, P, b6, rfl, rfl⟩
      refine ug k (kH a3) (ug k (kH Y) (ug k (rU rfl rfl rfl) (ug g (kQ (cB k) rfl) ?_)))
      obtain rfl := sj M
      exact a8 _ _ ⟨_, (d.kz St), A, L, Y, a3, O, P, b6, rfl, rfl⟩
     refine un g (un g (un g (Vu rfl rfl (Vu rfl rfl (Vu rfl rfl (un g (V (kQ (cB g) rfl) ?_)))))))
     obtain rfl := sj K
     exact a7 _ _ ⟨_, (d.kz St), A, L, Y, a3, O, P, b6, rfl⟩
    refine bC N (fun c N => ?_) (fun c N => ?_)
    ·refine ug c (kH H) (ug c (mP bE rfl G) (ug c (lL rfl rfl rfl) (ug c (kH rfl) (LJ N (fun d8 E W => ∃ c6, ST true ll w W (hp w) (j ++ c6) ∧ E 0 = x ∧ E 3 = u ∧ E 4 = (.string z) ∧ E 6 = (.string I) ∧ E 7 = x ∧ E 8 = (.int .i64 (a0.length : Int)) ∧ E 9 = (.int .i64 (n : Int)) ∧ E 15 = (.bool i4) ∧ E 28 = (.bool d8)) 9 ?_ (fun d8 D b0 => ?_)))))
     ·rintro j7 E W ⟨c6, d, h3, h4, h5, h6, h7, h8, h9, i0, i1⟩ e8
      refine V (kR (i0.trans (cB c)) i1) ?_
      obtain rfl := sj e8
      exact a9 _ _ ⟨_, (d.kz St), h3, h4, h5, h6, h7, h8, h9, rfl⟩
     refine bC D (fun a D => ?_) (fun a D => ?_)
     ·refine un a (un a (un a (un a (un a (un a (un a (un a (ug c (kR (cB a) rfl) ?_))))))))
      obtain rfl := sj D
      exact b0 _ _ ⟨_, (d.kz St), Q, H, T, rfl, U, q, o, rfl, rfl⟩
     refine ug a (kH rfl) (ug a (kH H) (ug a (kH H) (ug a (mP bE rfl G) (ug a (lL rfl rfl rfl) (bS D fun d9 a5 D => Ut a (mC (i := (wi0 .i64 ((a2.length : Int) - 1))) (x0 := d9) bE dh rfl rfl G (lY a5) (lN a5)) (fun j4 f0 => ug a (kA rfl (uR d.has (fun p hq => (Ml hq)) G (fun _ => rfl) f0 (lN a5) (y := (.string d9)) rfl aY)) (ug a (rU rfl rfl rfl) (ug c (kQ (cB a) rfl) ?_))))))))
     obtain rfl := sj D
     exact b0 _ _ ⟨_, (d.kz St), Q, H, T, rfl, U, q, o, rfl, rfl⟩
    refine un c (un c (un c (un c (Vu rfl rfl (Vu rfl rfl (Vu rfl rfl (Vu rfl rfl (Vu rfl rfl (Vu rfl rfl (Vu rfl rfl (Vu rfl rfl (un c (V (kQ (cB c) rfl) ?_)))))))))))))
    obtain rfl := sj N
    exact a9 _ _ ⟨_, (d.kz St), Q, H, T, rfl, U, q, o, rfl⟩
   rintro E W ⟨z, s, ⟨o, q⟩, d, Q, H, T, U, t⟩
   rw [aG] at t
   refine kF ?_
   obtain rfl := sj t
   exact ⟨_, (d.kz St), Q, H, T⟩
  rintro a4 E W ⟨c2, d, f7, c8, c9⟩ B
  refine kO (sg (Wh c9 (V (rU rfl rfl rfl) (ln (CI B rfl (fun e1 B => ?_) (fun e1 B => ?_))))))
  ·refine sg (Wh c8 (Wa (lt (lb (me (lb (me (lb ?_))))))))
   obtain rfl := sj B
   exact lI (v := u) rfl rfl ⟨_, j, rfl, d.mO (fun p hq => (Ml hq)) G.nd, G⟩
  refine kn (kL (Wh c8 (Wh c9 (VE (lg (cs := [(.string a4)].toArray) d (mI rfl) (mD bE dh iz) (fun i8 f5 d => ?_))))))
  replace d := d.perm (Nr (Qb Qz) Nz)
  refine bS B fun i2 e2 B => VE (my (enc := ni) (v := u) (vs := (.slice (some ⟨f5, 0, none⟩) 1 1)) (R := j) d (fun _ => rfl) dc DF bE uL.1 uL.2.1 rfl uL.2.2.1 uL.2.2.2 rfl rfl G (Sl.lit (enc := ni) (l := [a4]) (fun _ => rfl) rfl nb rfl (d.at_ (Ma Mh))) e2 (fun i9 i5 f4 d e0 => Wa (lh (lu (kF ?_)))))
  replace d := d.kz (Kr (Db St))
  exact ⟨i3, bT _, i5, i2, f4, _, (d.kz St), f7, rfl, e0, B⟩
theorem Mf (B : Value) (G : List ky) (r : List ByteArray) (w : World) (y : Sl (Pl kC) 9 (hp w) B G) (hm : Aa G = some r) :
  lK true pg0 64 [B] w 9 ni 1 r := by
 refine sP 29 func64 rfl (fun d => sg (Wa (lr (Wa (lS (Wm ?_))))))
 refine V (ly aX rfl y) (Wm (ln (lp (fun i E W => ∃ g k j t, (E 8 = .int .i64 (i : Nat) ∧ E 7 = .int .i64 (G.length : Nat)) ∧ ST true ll w W (hp w) (j ++ t) ∧ E 3 = g ∧ E 6 = B ∧ kU 9 ni 1 g k j ∧ tQ (G.drop i) k = some r) G.length y.len ⟨(.slice none 0 0), ([]), [], _, ⟨rfl, rfl⟩, (d.kz St), rfl, rfl, (kU.nil _ _ _), hm⟩ dc dc dc (fun _ _ _ h => by obtain ⟨_, _, _, _, n, _⟩ := h; exact n) ?_ ?_)))
 ·rintro a5 E W T ⟨g, k, j, t, ⟨m, A⟩, d, u, x, z, c⟩
  obtain ⟨a, b4, Y, U, Z⟩ := lc T
  rw [Y] at c
  refine bg (VQ (lO (enc := kC) (i := (a5 : Int)) (x0 := a) aX aI x m y (aD _) U) (fun b2 J => V (kA rfl (lD d.has J bG aI)) (VE (lA d cg (fun O b1 d => VO (lf (.agg (kC a).toArray) ((kC a).toArray) d rfl rfl aI (nI a) nb rfl (fun P d => ln (kL (Wh u (Wf sL (VB d Mh rfl rfl aY (Wf oe (Wf oQ ?_)))))))))))))
  refine VB d Mh rfl rfl aY (Wf mT (Wf oQ (VB d Mh rfl rfl aY (Wf pL (Wf oQ (VB d Mh rfl rfl aY (VE (lg (cs := #[(.string a.lx), (.string a.Head.kE), (.string a.B.kE), (.string a.C.kE)]) d (NK rfl rfl rfl rfl) (mD bE dh iz) (fun a8 Q d => ?_)))))))))
  replace d := d.perm (Nr (Qb (Qb Qz)) Nz)
  refine bS c fun L I c => VE (my (enc := ni) (v := g) (vs := (.slice (some ⟨Q, 0, none⟩) 4 4)) (R := j) d (fun _ => rfl) dc DF bE uL.1 uL.2.1 rfl uL.2.2.1 uL.2.2.2 rfl rfl z (Sl.lit (enc := ni) (l := [a.lx, a.Head.kE, a.B.kE, a.C.kE]) (fun _ => rfl) rfl nb rfl (d.at_ (Ma Mh))) I (fun a9 a2 M d H => Wa (lh (lu (kF ?_)))))
  replace d := d.kz (Kr (Db (Db St)))
  exact ⟨m, a2, L, M, _, ⟨rfl, A⟩, (d.kz St), rfl, x, H, (by rw [Z]; exact c)⟩
 rintro E W ⟨g, k, j, t, ⟨m, A⟩, d, u, x, z, c⟩
 rw [aG] at c
 refine kF (sg (Wh u (bS c fun b3 K c => VE (pF d call131 (OL g k _ _ (z.sl (fun _ => rfl) (fun b o s => d.at_ (Ml s))) K) (fun b0 a3 b5 N d a4 q D => Wa (ln ?_))))))
 replace d := d.kz (Kr (Dr St))
 refine lj ?_
 obtain rfl := sj c
 exact lI (v := a3) rfl rfl ⟨_, N, rfl, d.mO (fun p s => (Ml s)) D.nd, D⟩
theorem wC (y : Value) (H : List kB) (z : kw) (J : ByteArray) (r : Bool) (w : World) (G : Sl (Pl kK) 3 (hp w) y H) (hm : tW H z J = some r) :
  la true pg0 63 [y, (.agg (kx z).toArray), (.string J)] w (.bool r) := by
 refine cG 26 func63 rfl (fun d => sg (VE (lB d rfl (fun W2 M d => Wa (lS (Wm (V (ly bJ rfl G) (Wm (ln ?_)))))))))
 refine lp (fun i E W => ∃ D, (E 11 = .int .i64 (i : Nat) ∧ E 10 = .int .i64 (H.length : Nat)) ∧ ST true ll w W (hp w) ((M, Ol (kx z) 28) :: D) ∧ E 2 = (.string J) ∧ E 4 = (.pointer (some ⟨M, 0, none⟩)) ∧ E 9 = y ∧ xT z J (H.drop i) = some r) H.length G.len ⟨_, ⟨rfl, rfl⟩, (d.kz St), rfl, rfl, rfl, hm⟩ dc dc dc (fun _ _ _ h => by obtain ⟨_, n, _⟩ := h; exact n) ?_ ?_
 ·rintro T E W q ⟨D, ⟨m, o⟩, d, t, u, x, c⟩
  obtain ⟨k, b6, v, s, a9⟩ := lc q
  rw [v] at c
  refine bg (VQ (lO (enc := kK) (i := (T : Int)) (x0 := k) bJ bO x m G (aD _) s) (fun P Q => V (kA rfl (lD d.has Q dl bO)) (VE (lA d cN (fun A O d => VO (lf (.agg (kK k).toArray) ((kK k).toArray) d rfl rfl bO (uw k) nb rfl (fun L d => lr (Wf wM (VA d Mh (kx k.kw) aN aC (V (kA u (kI d.has (Mt Mh) (kx z) rfl aN aC)) (V (tT rfl rfl (mY cQ) (pK (nJ _ k.kw z))) ?_)))))))))))
  refine Wm (LJ c (fun K E W => ∃ I, ST true ll w W (hp w) ((M, Ol (kx z) 28) :: I) ∧ E 2 = (.string J) ∧ E 4 = (.pointer (some ⟨M, 0, none⟩)) ∧ E 9 = y ∧ E 10 = (.int .i64 (H.length : Int)) ∧ E 11 = (.int .i64 (T : Int)) ∧ E 24 = (.bool K)) 5 ?_ (fun K j B => ?_))
  ·rintro R E W ⟨I, d, U, Y, Z, a3, a4, a5⟩ g
   refine ln (CI g a5 (fun N g => ?_) (fun N g => ?_))
   ·refine sg (Wa (ln ?_))
    replace d := d.kz (Db St)
    refine lj (me (lb (me (lb ?_))))
    obtain rfl := sj g
    exact rP d
   exact lz (lu (kF ⟨a4, _, ⟨rfl, a3⟩, (d.kz St), U, Y, Z, (by rw [a9]; exact g)⟩))
  refine bC j (fun a j => ?_) (fun a j => ?_)
  ·refine ug a (kD rp rfl) (ug a (kA rfl (kM d.has Mh rfl aY)) (ug a (kH t) (ug a (rU rfl rfl rfl) (V (kR (cB a) rfl) ?_))))
   obtain rfl := sj j
   exact B _ _ ⟨_, (d.kz (Db St)), t, u, x, o, m, rfl⟩
  refine un a (un a (un a (un a (V (kQ (cB a) rfl) ?_))))
  obtain rfl := sj j
  exact B _ _ ⟨_, (d.kz (Db St)), t, u, x, o, m, rfl⟩
 rintro E W ⟨D, ⟨m, o⟩, d, t, u, x, c⟩
 rw [aG] at c
 refine kF ?_
 replace d := d.kz (Db St)
 exact sg (Wa (lt (rQ c d)))
theorem Hv (k : Value) (M : List kB) (t : ky) (K : Value) (Y : List ByteArray) (H : ByteArray) (r : Bool) (w : World) (G : Sl (Pl kK) 3 (hp w) k M) (T : Sl (Pl ni) 1 (hp w) K Y) (hm : yO M t Y H = some r) :
  la true pg0 65 [k, (.agg (kC t).toArray), K, (.string H)] w (.bool r) := by
 refine cG 62 func65 rfl (fun d => sg (VE (lB d rfl (fun W2 m d => Wa (lS (Wf nZ (VB d Mh rfl rfl cC (Wi rfl (ln ?_)))))))))
 refine CI hm rfl (fun d0 hm => ?_) (fun d0 hm => ?_)
 ·refine sg (Wf sL (VB d Mh rfl rfl aY (Wm (V (rU rfl rfl rfl) (Wa (ln ?_))))))
  replace d := d.kz (Db St)
  refine lj (lb ?_)
  obtain rfl := sj hm
  exact rP d
 refine kS (Wf nZ (VB d Mh rfl rfl cC (Wi rfl (ln (CI hm rfl (fun d1 hm => ?_) (fun d1 hm => ?_))))))
 ·refine sg (Wm (Wf mT (VA d Mh (kx t.B) aN aC (Wm (bS hm fun r5 d3 hm => VE (Eg d call63 (wC k M t.B H _ _ (G.mono (Pl.mono _) d.kJ) d3) (fun W7 d => Wa (ln ?_))))))))
  replace d := d.kz (Db St)
  refine lj (lb ?_)
  obtain rfl := sj hm
  exact rP d
 refine kS (Wf nZ (VB d Mh rfl rfl cC (Wi rfl (ln (CI hm rfl (fun d2 hm => ?_) (fun d2 hm => ?_))))))
 ·refine sg (Wm (Wf mT (VA d Mh (kx t.B) aN aC (Wm (bS hm fun r9 c7 hm => VE (Eg d call63 (wC k M t.B H _ _ (G.mono (Pl.mono _) d.kJ) c7) (fun e1 d => Wm (LJ hm (fun A E W => ∃ s, ST true ll w W (hp w) s ∧ E 8 = (.bool false) ∧ E 40 = (.bool A)) 6 ?_ (fun A u U => ?_)))))))))
  ·rintro e5 E W ⟨s, d, e3, c9⟩ c6
   refine Wg c9 (lt (lb ?_))
   obtain rfl := sj c6
   exact rP d
  refine bC u (fun c u => ?_) (fun c u => ?_)
  ·refine ug c (kH rfl) (ug c (kD pL rfl) (ug c (kA rfl (kI d.has Mh (kx t.C) rfl aN aC)) (ug c (kH rfl) (bS u fun e4 c8 u => pX c (Eg d call63 (wC k M t.C H _ _ (G.mono (Pl.mono _) d.kJ) c8) (fun e2 d => V (kR (cB c) rfl) ?_))))))
   obtain rfl := sj u
   exact U _ _ ⟨_, (d.kz (Db St)), rfl, rfl⟩
  refine un c (un c (un c (un c (un c (V (kQ (cB c) rfl) ?_)))))
  obtain rfl := sj u
  exact U _ _ ⟨_, (d.kz (Db St)), rfl, rfl⟩
 refine kS (Wm (V (ly bE rfl T) (Wm (ln (lp (fun i E W => ∃ Q, (E 43 = .int .i64 (i : Nat) ∧ E 42 = .int .i64 (Y.length : Nat)) ∧ ST true ll w W (hp w) ((m, Ol (kC t) 108) :: Q) ∧ E 0 = k ∧ E 3 = (.string H) ∧ E 5 = (.pointer (some ⟨m, 0, none⟩)) ∧ E 41 = K ∧ wH M t H (Y.drop i) = some r) Y.length T.len ⟨_, ⟨rfl, rfl⟩, (d.kz St), rfl, rfl, rfl, rfl, hm⟩ dc dc dc (fun _ _ _ h => by obtain ⟨_, o, _⟩ := h; exact o) ?_ ?_)))))
 ·rintro a4 E W O ⟨Q, ⟨n, q⟩, d, B, I, D, J, g⟩
  obtain ⟨z, d4, b4, b3, b5⟩ := lc O
  rw [b4] at g
  refine bg (VQ (lO (enc := ni) (i := (a4 : Int)) (x0 := z) bE dh J n T (aD _) b3) (fun d7 a9 => V (kA rfl (ng d.has (y := (.string z)) a9 aY)) (Wa (lr (Wh B (V (kD mT D) (VA d Mh (kx t.B) aN aC (Wm (bS g fun d8 P g => ?_)))))))))
  refine VE (Eg d call63 (wC k M t.B z _ _ (G.mono (Pl.mono _) d.kJ) P) (fun d5 d => Wm (LJ g (fun a5 E W => ∃ Z, ST true ll w W (hp w) ((m, Ol (kC t) 108) :: Z) ∧ E 0 = k ∧ E 3 = (.string H) ∧ E 5 = (.pointer (some ⟨m, 0, none⟩)) ∧ E 41 = K ∧ E 42 = (.int .i64 (Y.length : Int)) ∧ E 43 = (.int .i64 (a4 : Int)) ∧ E 60 = (.bool a5)) 8 ?_ (fun a5 j N => ?_))))
  ·rintro e0 E W ⟨Z, d, b9, c0, c1, c2, c3, c4, c5⟩ x
   refine ln (CI x c5 (fun L x => ?_) (fun L x => ?_))
   ·refine sg (Wa (ln ?_))
    replace d := d.kz (Db St)
    refine lj (me (lb (me (lb ?_))))
    obtain rfl := sj x
    exact rP d
   exact lz (lu (kF ⟨c4, _, ⟨rfl, c3⟩, (d.kz St), b9, c0, c1, c2, (by rw [b5]; exact x)⟩))
  refine bC j (fun a j => ?_) (fun a j => ?_)
  ·refine ug a (kH B) (ug a (kH rfl) (ug a (kD rO D) (ug a (kA rfl (kM d.has Mh rfl aY)) (ug a (nc (v := (.agg (kx (⟨z, t.lU⟩ : kw)).toArray)) (pC rfl rfl) (mB bP cI (G5 _ cI) kr)) (ug a (kH I) (bS j fun d9 R j => pX a (Eg d call63 (wC k M (⟨z, t.lU⟩ : kw) H _ _ (G.mono (Pl.mono _) d.kJ) R) (fun d6 d => V (kR (cB a) rfl) ?_))))))))
   obtain rfl := sj j
   exact N _ _ ⟨_, (d.kz St), B, I, D, J, q, n, rfl⟩
  refine un a (un a (un a (un a (un a (un a (un a (V (kQ (cB a) rfl) ?_)))))))
  obtain rfl := sj j
  exact N _ _ ⟨_, (d.kz St), B, I, D, J, q, n, rfl⟩
 rintro E W ⟨Q, ⟨n, q⟩, d, B, I, D, J, g⟩
 rw [aG] at g
 refine kF ?_
 replace d := d.kz (Db St)
 exact sg (Wa (lt (rQ g d)))
theorem G9 (j k : kB) (r : Bool) (w : World) (hm : vK j k = some r) :
  la true pg0 187 [(.agg (kK j).toArray), (.agg (kK k).toArray)] w (.bool r) := by
 refine cG 24 func187 rfl (fun d => sg (VE (lB d rfl (fun Y h d => VE (lB d rfl (fun Z m d => Wa (lr (Wf wM (VA d (Mt Mh) (kx j.kw) aN aC (Wf wM (VA d Mh (kx k.kw) aN aC (bS hm fun N M hm => ?_))))))))))))
 refine VE (Eg d call107 (xt j.kw k.kw _ _  M) (fun W7 d => Wm (LJ hm (fun z E W => ∃ x, ST true ll w W (hp w) x ∧ E 4 = (.bool false) ∧ E 23 = (.bool z)) 13 ?_ (fun z g t => ?_))))
 ·rintro T E W ⟨x, d, Q, H⟩ D
  exact Wg H (lt (rQ D d))
 refine bC g (fun a g => ?_) (fun a g => ?_)
 ·refine un a (un a (un a (un a (un a (un a (Vu rfl rfl (Vu rfl rfl (Vu rfl rfl (Vu rfl rfl (Vu rfl rfl (un a (V (kR (cB a) rfl) ?_))))))))))))
  obtain rfl := sj g
  exact t _ _ ⟨_, (d.kz (Db (Db St))), rfl, rfl⟩
 refine ug a (kD wM rfl) (ug a (kA rfl (kI d.has (Mt Mh) (kx j.kw) rfl aN aC)) (ug a (kD wM rfl) (ug a (kA rfl (kI d.has Mh (kx k.kw) rfl aN aC)) (ug a (tT rfl rfl (mY cQ) (pK (nJ _ j.kw k.kw))) (ug a (kH rfl) (LJ g (fun B E W => ∃ y, ST true ll w W (hp w) y ∧ E 4 = (.bool false) ∧ E 10 = (.bool N) ∧ E 22 = (.bool B)) 6 ?_ (fun B i u => ?_)))))))
 ·rintro U E W ⟨y, d, I, J, K⟩ G
  refine V (kQ (J.trans (cB a)) K) ?_
  obtain rfl := sj G
  exact t _ _ ⟨_, (d.kz St), I, rfl⟩
 refine bC i (fun c i => ?_) (fun c i => ?_)
 ·refine ug c (kD rp rfl) (ug c (kA rfl (kM d.has (Mt Mh) rfl aY)) (ug c (kD rp rfl) (ug c (kA rfl (kM d.has Mh rfl aY)) (ug c (rU rfl rfl rfl) (ug a (kR (cB c) rfl) ?_)))))
  obtain rfl := sj i
  exact u _ _ ⟨_, (d.kz (Db (Db St))), rfl, rfl, rfl⟩
 refine un c (un c (un c (un c (un c (ug a (kQ (cB c) rfl) ?_)))))
 obtain rfl := sj i
 exact u _ _ ⟨_, (d.kz (Db (Db St))), rfl, rfl, rfl⟩
theorem KM (I : Value) (Q r : List kB) (w : World) (Y : Sl (Pl kK) 3 (hp w) I Q) (hm : BC Q = some r) :
  lK true pg0 126 [I] w 38 kK 3 r := by
 refine sP 56 func126 rfl (fun m => sg (Wa (lr (Wa (lS (Wm ?_))))))
 refine V (ly bJ rfl Y) (Wm (ln (lp (fun i E W => ∃ y N x a9, (E 9 = .int .i64 (i : Nat) ∧ E 8 = .int .i64 (Q.length : Nat)) ∧ ST true ll w W (hp w) (x ++ a9) ∧ E 0 = I ∧ E 3 = y ∧ kU 38 kK 3 y N x ∧ pM Q (Q.drop i) N = some r) Q.length Y.len ⟨(.slice none 0 0), ([]), [], _, ⟨rfl, rfl⟩, (m.kz St), rfl, rfl, (kU.nil _ _ _), hm⟩ dc dc dc (fun _ _ _ h => by obtain ⟨_, _, _, _, o, _⟩ := h; exact o) ?_ ?_)))
 ·rintro a7 E W i6 ⟨y, N, x, a9, ⟨n, s⟩, m, b1, b2, z, D⟩
  obtain ⟨l2, l1, i7, k2, e4⟩ := lc i6
  rw [i7] at D
  refine bg (Wa (lS (Wh b1 (V (ly bJ rfl Y) (Wm (ln (CJ D (fun c5 E W => ∃ c9, ST true ll w W (hp w) (x ++ c9) ∧ E 0 = I ∧ E 3 = y ∧ E 4 = (.int .i64 c5) ∧ E 8 = (.int .i64 (Q.length : Int)) ∧ E 9 = (.int .i64 (a7 : Int))) (fun c5 f5 => ?_) ?_)))))))
  ·let g5 : Value := (.int .i64 (a7 : Int))
   let a0 : Value := (.int .i64 (Q.length : Int))
   refine lp (fun i E W => ∃ B P, (E 13 = .int .i64 (i : Nat) ∧ E 12 = .int .i64 (Q.length : Nat)) ∧ ST true ll w W (hp w) (x ++ P) ∧ E 0 = I ∧ E 3 = y ∧ E 4 = (.int .i64 B) ∧ E 8 = a0 ∧ E 9 = g5 ∧ E 11 = I ∧ pO N Q (Q.drop i) i B = some c5) Q.length Y.len ⟨(-1), _, ⟨rfl, rfl⟩, (m.kz St), b1, b2, rfl, s, n, rfl, f5⟩ dc dc dc (fun _ _ _ h => by obtain ⟨_, _, o, _⟩ := h; exact o) ?_ ?_
   ·rintro H E W f4 ⟨B, P, ⟨n, s⟩, m, A, J, a2, a3, a4, a5, G⟩
    let b8 : Value := (.int .i64 (H : Int))
    obtain ⟨j, j5, g7, g4, c7⟩ := lc f4
    rw [g7] at G
    refine bg (Wh n (VQ (lO (enc := kK) (i := (H : Int)) (x0 := j) bJ bO a5 n Y (aD _) g4) (fun k4 f9 => V (kA rfl (lD m.has f9 dl bO)) (VE (lA m cN (fun j8 Z m => Wa (VO (lf (.agg (kK j).toArray) ((kK j).toArray) m rfl rfl bO (uw j) nb rfl (fun j9 m => ln (kO ?_))))))))))
    replace m := m.drew
    have d := m.has.kz (Kb (Kr Sn))
    refine lG d lq (X 0 rfl d (kH J) (X 1 rfl d (mP bJ rfl z) (X 2 rfl d (lL rfl rfl rfl) (X 3 rfl d (kH rfl) (PJ G (fun e7 E W => ∃ d0, ST true ll w W (hp w) ((Z, Ol (kK j) 38) :: (x ++ d0)) ∧ E 0 = I ∧ E 3 = y ∧ E 4 = (.int .i64 B) ∧ E 5 = b8 ∧ E 6 = (.pointer (some ⟨Z, 0, none⟩)) ∧ E 8 = a0 ∧ E 9 = g5 ∧ E 11 = I ∧ E 12 = a0 ∧ E 13 = b8 ∧ E 30 = (.bool e7)) (bm 25 8191) 12 ?_ (fun e7 u c4 => ?_))))))
    ·rintro j3 E W ⟨d0, m, L, b4, T, b5, h0, b6, b7, b9, c0, c1, h1⟩ f6
     have d := m.has.kz (Kb (Kr Sn))
     refine X 13 rfl d (kH h1) (PJ f6 (fun e5 E W => ∃ d1, ST true ll w W (hp w) ((Z, Ol (kK j) 38) :: (x ++ d1)) ∧ E 0 = I ∧ E 3 = y ∧ E 4 = (.int .i64 B) ∧ E 5 = b8 ∧ E 8 = a0 ∧ E 9 = g5 ∧ E 11 = I ∧ E 12 = a0 ∧ E 13 = b8 ∧ E 42 = (.bool e5)) (bm 25 33554431) 0 ?_ (fun e5 M c2 => ?_))
     ·rintro k9 E W ⟨d1, m, d7, d8, h2, h3, d9, e0, e1, e2, e3, h4⟩ K
      refine lT kr (kF ?_)
      replace m := m.kz (Db St)
      refine CI K h4 (fun f3 K => ?_) (fun f3 K => ?_)
      ·exact kL (Wh h3 (Wa (lh (lu (kF ⟨e3, (H : Int), _, ⟨rfl, e2⟩, (m.kz St), d7, d8, rfl, d9, e0, e1, (by rw [c7]; exact K)⟩)))))
      exact lz (lu (kF ⟨e3, B, _, ⟨rfl, e2⟩, (m.kz St), d7, d8, h2, d9, e0, e1, (by rw [c7]; exact K)⟩))
     refine bC M (fun g M => ?_) (fun g M => ?_)
     ·refine Xg 14 rfl rfl (cB g) d (kH T) (Xg 15 rfl rfl (cB g) d (lL rfl rfl rfl) (Xg 16 rfl rfl (cB g) d (kH rfl) (PJ M (fun e6 E W => ∃ d2, ST true ll w W (hp w) ((Z, Ol (kK j) 38) :: (x ++ d2)) ∧ E 0 = I ∧ E 3 = y ∧ E 4 = (.int .i64 B) ∧ E 5 = b8 ∧ E 8 = a0 ∧ E 9 = g5 ∧ E 11 = I ∧ E 12 = a0 ∧ E 13 = b8 ∧ E 31 = (.bool j3) ∧ E 41 = (.bool e6)) (bm 25 16777215) 1 ?_ (fun e6 t c3 => ?_))))
      ·rintro l0 E W ⟨d2, m, h5, h6, h7, h8, h9, i0, i1, i2, i3, i4, i5⟩ f7
       have d := m.has.kz (Kb (Kr Sn))
       refine X 24 rfl d (kR (i4.trans (cB g)) i5) ?_
       obtain rfl := sj f7
       refine nx kr (c2 _ _ ⟨_, (m.kz St), h5, h6, h7, h8, h9, i0, i1, i2, i3, rfl⟩)
      refine bC t (fun c t => ?_) (fun c t => ?_)
      ·refine Xn 17 rfl rfl (cB c) d (Xn 18 rfl rfl (cB c) d (Xn 19 rfl rfl (cB c) d (Xn 20 rfl rfl (cB c) d (Xn 21 rfl rfl (cB c) d (Xn 22 rfl rfl (cB c) d (Xg 23 rfl rfl (cB g) d (kR (cB c) rfl) ?_))))))
       obtain rfl := sj t
       refine nx kr (c3 _ _ ⟨_, (m.kz St), L, b4, T, b5, b6, b7, b9, c0, c1, rfl, rfl⟩)
      refine uW 17 rfl rfl (cB c) d (fun _ q => kA h0 (kI q Mh (kK j) rfl dl bO)) (Xg 18 rfl rfl (cB c) d (kH L) (Xg 19 rfl rfl (cB c) d (kH T) (bS t fun e8 c8 t => FM 20 rfl kr (.inr ⟨16, false, 34, rfl, rfl, by decide, (cB c)⟩) rfl dc (fun _ _ h => h) d (lO (enc := kK) (i := B) (x0 := e8) bJ bO rfl rfl Y (lY c8) (lN c8)) (fun k5 g0 => uW 21 rfl rfl (cB c) d (fun _ q => kA rfl (lD q g0 dl bO)) (bS t fun k7 g2 t => DH 22 rfl rfl (cB c) (Eg m call187 (G9 j e8 _ _  g2) (fun k0 m => ?_)))))))
      have d := m.has.kz (Kb (Kr Sn))
      refine ⟨d, (Xg 23 rfl rfl (cB g) d (kQ (cB c) rfl) ?_)⟩
      obtain rfl := sj t
      refine nx kr (c3 _ _ ⟨_, (m.kz St), L, b4, T, b5, b6, b7, b9, c0, c1, rfl, rfl⟩)
     refine Xn 14 rfl rfl (cB g) d (Xn 15 rfl rfl (cB g) d (Xn 16 rfl rfl (cB g) d (Xu 17 rfl rfl rfl d (Xu 18 rfl rfl rfl d (Xu 19 rfl rfl rfl d (Xu 20 rfl rfl rfl d (Xu 21 rfl rfl rfl d (Xu 22 rfl rfl rfl d (Xn 23 rfl rfl (cB g) d (X 24 rfl d (kQ (cB g) rfl) ?_))))))))))
     obtain rfl := sj M
     refine nx kr (c2 _ _ ⟨_, (m.kz St), L, b4, T, b5, b6, b7, b9, c0, c1, rfl⟩)
    refine bC u (fun a u => ?_) (fun a u => ?_)
    ·refine Xn 4 rfl rfl (cB a) d (Xn 5 rfl rfl (cB a) d (Xn 6 rfl rfl (cB a) d (Xn 7 rfl rfl (cB a) d (Xn 8 rfl rfl (cB a) d (Xn 9 rfl rfl (cB a) d (Xn 10 rfl rfl (cB a) d (Xn 11 rfl rfl (cB a) d (X 12 rfl d (kR (cB a) rfl) ?_))))))))
     obtain rfl := sj u
     refine nx kr (c4 _ _ ⟨_, (m.kz St), A, J, a2, rfl, rfl, a3, a4, a5, s, n, rfl⟩)
    refine Xg 4 rfl rfl (cB a) d (kH J) (Xg 5 rfl rfl (cB a) d (kH J) (Xg 6 rfl rfl (cB a) d (mP bJ rfl z) (Xg 7 rfl rfl (cB a) d (lL rfl rfl rfl) (bS u fun e9 O u => FM 8 rfl kr (.inr ⟨3, false, 21, rfl, rfl, by decide, (cB a)⟩) rfl dc (fun _ _ h => h) d (mC (i := (wi0 .i64 ((N.length : Int) - 1))) (x0 := e9) bJ bO rfl rfl z (lY O) (lN O)) (fun k6 g1 => uW 9 rfl rfl (cB a) d (fun _ q => kA rfl (ot q (fun p hq => (Mt (Ml hq))) z nf g1 (lN O) dl bO)) (uW 10 rfl rfl (cB a) d (fun _ q => kA rfl (kI q Mh (kK j) rfl dl bO)) (bS u fun k8 g3 u => DH 11 rfl rfl (cB a) (Eg m call187 (G9 e9 j _ _  g3) (fun k1 m => ?_)))))))))
    have d := m.has.kz (Kb (Kr Sn))
    refine ⟨d, (X 12 rfl d (kQ (cB a) rfl) ?_)⟩
    obtain rfl := sj u
    refine nx kr (c4 _ _ ⟨_, (m.kz St), A, J, a2, rfl, rfl, a3, a4, a5, s, n, rfl⟩)
   rintro E W ⟨B, P, ⟨n, s⟩, m, A, J, a2, a3, a4, a5, G⟩
   rw [aG] at G
   refine kF ?_
   obtain rfl := sj G
   exact ⟨_, (m.kz St), A, J, a2, a3, a4⟩
  rintro j0 E W ⟨c9, m, b3, d3, d4, d5, d6⟩ k
  refine sg (Wh d4 (Wi rfl (ln (CI k rfl (fun f1 k => ?_) (fun f1 k => ?_)))))
  ·refine kL (Wh d3 (Wh b3 (Wh d4 (bS k fun U c6 k => VQ (lO (enc := kK) (i := j0) (x0 := U) bJ bO rfl rfl Y (lY c6) (lN c6)) (fun k3 f8 => V (kA rfl (lD m.has f8 dl bO)) (VE (lg (cs := (kK U).toArray) m (mI rfl) (mD bJ bO cN) (fun j6 g9 m => ?_))))))))
   replace m := m.perm (Nr (Qb Qz) Nz)
   refine bS k fun i8 f2 k => VE (my (enc := kK) (v := y) (vs := (.slice (some ⟨g9, 0, none⟩) 1 1)) (R := x) m nf dc uw bJ oJ.1 oJ.2.1 rfl oJ.2.2.1 oJ.2.2.2 rfl rfl z (Sl.lit (enc := kK) (l := [U]) nf rfl nb rfl (m.at_ (Ma Mh))) f2 (fun j7 i9 g8 m f0 => Wa (lh (lu (kF ?_)))))
   replace m := m.kz (Kr (Db St))
   exact ⟨d6, i9, i8, g8, _, ⟨rfl, d5⟩, (m.kz St), b3, rfl, f0, (by rw [e4]; exact k)⟩
  exact lz (lu (kF ⟨d6, y, N, x, _, ⟨rfl, d5⟩, (m.kz St), b3, d3, z, (by rw [e4]; exact k)⟩))
 rintro E W ⟨y, N, x, a9, ⟨n, s⟩, m, b1, b2, z, D⟩
 rw [aG] at D
 refine kF (sg (Wh b2 (Wa (lt ?_))))
 obtain rfl := sj D
 exact lI (v := y) rfl rfl ⟨_, x, rfl, m.mO (fun p hq => (Ml hq)) z.nd, z⟩
theorem Rc (f8 : Value) (a0 : List ky) (r : List kB) (w : World) (k8 : Sl (Pl kC) 9 (hp w) f8 a0) (hm : zh a0 = some r) :
  lK true pg0 58 [f8] w 38 kK 3 r := by
 refine sP 53 func58 rfl (fun d => sg (Wa (lr (Wm (bS hm fun P m0 hm => VE (pF d call23 (Ox f8 a0 _ _ (k8.mono (Pl.mono _) d.kJ) m0) (fun W3 v7 ae R8 d n0 ad f3 => Wa (ln (kO ?_)))))))))
 refine kL (Wm (bS hm fun s l0 hm => VE (pF d call64 (Mf v7 P _ _ (f3.sl mW (fun b o n => d.at_ (Ml n))) l0) (fun n2 q d7 d1 d m9 ab c8 => Wa (lr (Wa (ln (vB (mK (od (fun m E W => ∃ c0 b9 b7 d8, ST true ll w W d7 (b7 ++ (d1 ++ (R8 ++ d8))) ∧ E 3 = v7 ∧ E 4 = q ∧ E 5 = c0 ∧ kU 38 kK 3 c0 b9 b7 ∧ wu s P m b9 = some r) lC ⟨(.slice none 0 0), ([]), [], _, (d.kz St), rfl, rfl, rfl, (kU.nil _ _ _), hm⟩ ?_))))))))))
 rintro m E W ⟨c0, b9, b7, d8, d, e2, i3, i4, k0, Y⟩
 cases m with
 | zero => rw [wu] at Y; cases Y
 | succ k3 =>
  refine bg (Wa (lS (Wh e2 (V (mP aX rfl f3) (Wm (ln (CJ Y (fun b1 E W => ∃ T Z d9, ST true ll w W d7 (Z ++ (d1 ++ (R8 ++ d9))) ∧ E 3 = v7 ∧ E 4 = q ∧ E 5 = T ∧ E 6 = (.bool b1.2) ∧ kU 38 kK 3 T b1.1 Z) (fun b1 g8 => ?_) ?_)))))))
  ·refine lp (fun i E W => ∃ J Q H U c1, (E 17 = .int .i64 (i : Nat) ∧ E 16 = .int .i64 (P.length : Nat)) ∧ ST true ll w W d7 (H ++ (d1 ++ (R8 ++ c1))) ∧ E 3 = v7 ∧ E 4 = q ∧ E 5 = J ∧ E 6 = (.bool U) ∧ E 15 = v7 ∧ kU 38 kK 3 J Q H ∧ yi s (P.drop i) Q U = some b1) P.length f3.len ⟨c0, b9, b7, false, _, ⟨rfl, rfl⟩, (d.kz St), e2, i3, i4, rfl, rfl, k0, g8⟩ dc dc dc (fun _ _ _ h => by obtain ⟨_, _, _, _, _, L, _⟩ := h; exact L) ?_ ?_
   ·rintro b0 E W g4 ⟨J, Q, H, U, c1, ⟨A, O⟩, d, c3, a3, c4, c5, c6, b5, u⟩
    obtain ⟨a, l1, h7, d4, h8⟩ := lc g4
    rw [h7] at u
    refine bg (VQ (mC (i := (b0 : Int)) (x0 := a) aX aI c6 A f3 (aD _) d4) (fun m1 h1 => V (kA rfl (ot d.has (fun p n => (Ma (Ma (Ml n)))) f3 mW h1 d4 bG aI)) (VE (lA d cg (fun l4 a2 d => VO (lf (.agg (kC a).toArray) ((kC a).toArray) d rfl rfl aI (nI a) nb rfl (fun l5 d => lr (Wh a3 (V (mP bE rfl c8) (Wm (lh ?_)))))))))))
    let b8 : Value := (.int .i64 (P.length : Int))
    refine kF (vB (CJ u (fun b2 E W => ∃ b3 a1 e0, ST true ll w W d7 (a1 ++ (d1 ++ (R8 ++ e0))) ∧ E 3 = v7 ∧ E 4 = q ∧ E 5 = b3 ∧ E 6 = (.bool b2.2) ∧ E 15 = v7 ∧ E 16 = b8 ∧ E 17 = (.int .i64 (b0 : Int)) ∧ kU 38 kK 3 b3 b2.1 a1) (fun b2 h0 => ?_) ?_))
    ·refine lp (fun i E W => ∃ k G B K c2, (E 23 = .int .i64 (i : Nat) ∧ E 22 = .int .i64 (s.length : Nat)) ∧ ST true ll w W d7 ((a2, Ol (kC a) 108) :: (B ++ (d1 ++ (R8 ++ c2)))) ∧ E 3 = v7 ∧ E 4 = q ∧ E 5 = k ∧ E 6 = (.bool K) ∧ E 8 = (.pointer (some ⟨a2, 0, none⟩)) ∧ E 15 = v7 ∧ E 16 = b8 ∧ E 17 = (.int .i64 (b0 : Int)) ∧ E 21 = q ∧ kU 38 kK 3 k G B ∧ wB a s (s.drop i) G K = some b2) s.length c8.len ⟨J, Q, H, U, _, ⟨rfl, rfl⟩, (d.kz St), c3, a3, c4, c5, rfl, c6, O, A, rfl, b5, h0⟩ dc dc dc (fun _ _ _ h => by obtain ⟨_, _, _, _, _, L, _⟩ := h; exact L) ?_ ?_
     ·rintro f4 E W g7 ⟨k, G, B, K, c2, ⟨A, O⟩, d, a4, M, I, a5, N, a6, a7, a8, a9, D, j⟩
      obtain ⟨g, l2, h9, d5, d6⟩ := lc g7
      rw [h9] at j
      refine bg (VQ (mC (i := (f4 : Int)) (x0 := g) bE dh a9 A c8 (aD _) d5) (fun m2 h2 => V (kA rfl (uR d.has (fun p n => (Mt (Ma (Ml n)))) c8 (fun _ => rfl) h2 d5 (y := (.string g)) rfl aY)) (Wa (lr (Wh I (V (kD oe N) (VA d Mh (kx a.Head) aN aC (Wm (bS j fun m4 h4 j => ?_)))))))))
      refine VE (Eg d call63 (wC k G a.Head g _ _ (D.sl nf (fun b o n => d.at_ (Mt (Ml n)))) h4) (fun l6 d => V (mQ rfl) (Wm (LJ j (fun f7 E W => ∃ e1, ST true ll w W d7 ((a2, Ol (kC a) 108) :: (B ++ (d1 ++ (R8 ++ e1)))) ∧ E 3 = v7 ∧ E 4 = q ∧ E 5 = k ∧ E 6 = (.bool K) ∧ E 8 = (.pointer (some ⟨a2, 0, none⟩)) ∧ E 10 = (.string g) ∧ E 15 = v7 ∧ E 16 = b8 ∧ E 17 = (.int .i64 (b0 : Int)) ∧ E 21 = q ∧ E 22 = (.int .i64 (s.length : Int)) ∧ E 23 = (.int .i64 (f4 : Int)) ∧ E 39 = (.bool f7)) 6 ?_ (fun f7 z c9 => ?_)))))
      ·rintro m7 E W ⟨e1, d, e4, e5, e6, j7, c7, j8, e7, e8, e9, f0, f1, f2, j9⟩ x
       refine ln (CI x j9 (fun g2 x => ?_) (fun g2 x => ?_))
       ·refine sg (Wh e6 (V (kD oe c7) (VA d Mh (kx a.Head) aN aC (Wh j8 (V (nc (v := (.agg (kK (⟨a.Head, g⟩ : kB)).toArray)) (pC rfl rfl) (mB cN cq (Dj _ cq) kr)) (VE (lg (cs := (kK (⟨a.Head, g⟩ : kB)).toArray) d (mI rfl) (mD bJ bO cN) (fun l7 i2 d => ?_))))))))
        replace d := d.perm (Nr (Qb (Qb Qz)) Nz)
        refine bS x fun k2 g3 x => VE (my (enc := kK) (v := k) (vs := (.slice (some ⟨i2, 0, none⟩) 1 1)) (R := B) d nf dc uw bJ oJ.1 oJ.2.1 rfl oJ.2.2.1 oJ.2.2.2 rfl rfl D (Sl.lit (enc := kK) (l := [(⟨a.Head, g⟩ : kB)]) nf rfl nb rfl (d.at_ (Ma Mh))) g3 (fun l8 k5 i1 d g0 => Wa (ln ?_)))
        replace d := d.kz (Kr (Db St))
        exact kL (Wa (lh (lu (kF ⟨f2, k5, k2, i1, true, _, ⟨rfl, f1⟩, (d.kz (Sb (Pr Pz) St)), e4, e5, rfl, rfl, c7, e7, e8, e9, f0, g0, (by rw [d6]; exact x)⟩))))
       exact lz (lu (kF ⟨f2, k, G, B, K, _, ⟨rfl, f1⟩, (d.kz St), e4, e5, e6, j7, c7, e7, e8, e9, f0, D, (by rw [d6]; exact x)⟩))
      refine bC z (fun c z => ?_) (fun c z => ?_)
      ·refine ug c (kH I) (ug c (kA N (kI d.has Mh (kC a) rfl bG aI)) (ug c (kH M) (ug c (kH rfl) (bS z fun m5 h5 z => pX c (Eg d call65 (Hv k G a q s g _ _ (D.sl nf (fun b o n => d.at_ (Mt (Ml n)))) (c8.sl (fun _ => rfl) (fun b o n => d.at_ (Mt (Ma (Ml n))))) h5) (fun l9 d => V (kR (cB c) rfl) ?_))))))
       obtain rfl := sj z
       exact c9 _ _ ⟨_, (d.kz St), a4, M, I, a5, N, rfl, a6, a7, a8, a9, O, A, rfl⟩
      refine un c (un c (un c (un c (un c (V (kQ (cB c) rfl) ?_)))))
      obtain rfl := sj z
      exact c9 _ _ ⟨_, (d.kz St), a4, M, I, a5, N, rfl, a6, a7, a8, a9, O, A, rfl⟩
     rintro E W ⟨k, G, B, K, c2, ⟨A, O⟩, d, a4, M, I, a5, N, a6, a7, a8, a9, D, j⟩
     rw [aG] at j
     refine kF ?_
     obtain rfl := sj j
     exact ⟨k, B, _, (d.kz (Db St)), a4, M, I, a5, a6, a7, a8, D⟩
    rintro ⟨k1, k6⟩ E W ⟨b3, a1, e0, d, i8, i9, j0, j3, j4, j5, j6, h6⟩ g9
    exact lu (kF ⟨j6, b3, k1, a1, k6, _, ⟨rfl, j5⟩, (d.kz St), i8, i9, j0, j3, j4, h6, (by rw [h8]; exact g9)⟩)
   rintro E W ⟨J, Q, H, U, c1, ⟨A, O⟩, d, c3, a3, c4, c5, c6, b5, u⟩
   rw [aG] at u
   refine kF ?_
   obtain rfl := sj u
   exact ⟨J, H, _, (d.kz St), c3, a3, c4, c5, b5⟩
  rintro ⟨f5, m6⟩ E W ⟨T, Z, d9, d, i5, i6, e3, i7, d3⟩ t
  refine sg (Wh i7 (V (mQ rfl) (ln (CI t rfl (fun g1 t => ?_) (fun g1 t => ?_)))))
  ·refine sg (Wh e3 (bS t fun m3 h3 t => VE (pF d call126 (KM T f5 _ _ (d3.sl nf (fun b o n => d.at_ (Ml n))) h3) (fun l3 k4 m8 i0 d k9 aa d2 => Wa (ln ?_)))))
   replace d := d.kz (Kr (Dr (Dr (Dr St))))
   refine lj (me (lb (me (lb ?_))))
   obtain rfl := sj t
   exact lI (v := k4) rfl rfl ⟨_, i0, rfl, d.mO (fun p n => (Ml n)) d2.nd, d2⟩
  exact lz (lu (kF ⟨k3, bT _, T, f5, Z, _, (d.kz St), i5, i6, e3, d3, t⟩))
theorem LH (D : Value) (G : List kB) (I : ByteArray) (r : List kw) (w : World) (B : Sl (Pl kK) 3 (hp w) D G) (hm : xS G I = some r) :
  lK true pg0 106 [D, (.string I)] w 28 kx 2 r := by
 refine sP 25 func106 rfl (fun d => sg (Wa (lr (Wa (lS (Wm ?_))))))
 refine V (ly bJ rfl B) (Wm (ln (lp (fun i E W => ∃ k y g z, (E 10 = .int .i64 (i : Nat) ∧ E 9 = .int .i64 (G.length : Nat)) ∧ ST true ll w W (hp w) (g ++ z) ∧ E 1 = (.string I) ∧ E 5 = k ∧ E 8 = D ∧ kU 28 kx 2 k y g ∧ rF I (G.drop i) y = some r) G.length B.len ⟨(.slice none 0 0), ([]), [], _, ⟨rfl, rfl⟩, (d.kz St), rfl, rfl, rfl, (kU.nil _ _ _), hm⟩ dc dc dc (fun _ _ _ h => by obtain ⟨_, _, _, _, n, _⟩ := h; exact n) ?_ ?_)))
 ·rintro a4 E W U ⟨k, y, g, z, ⟨m, o⟩, d, t, u, x, j, a⟩
  obtain ⟨c, P, Z, Y, H⟩ := lc U
  rw [Z] at a
  refine bg (VQ (lO (enc := kK) (i := (a4 : Int)) (x0 := c) bJ bO x m B (aD _) Y) (fun O N => V (kA rfl (lD d.has N dl bO)) (VE (lA d cN (fun a5 a9 d => VO (lf (.agg (kK c).toArray) ((kK c).toArray) d rfl rfl bO (uw c) nb rfl (fun s d => lr (Wf rp (VB d Mh rfl rfl aY (Wh t (V (rU rfl rfl rfl) ?_)))))))))))
  refine ln (CI a rfl (fun K a => ?_) (fun K a => ?_))
  ·refine kL (Wh u (Wf wM (VA d Mh (kx c.kw) aN aC (VE (lg (cs := (kx c.kw).toArray) d (mI rfl) (mD aF aC bP) (fun A T d => ?_))))))
   replace d := d.perm (Nr (Qb (Qb Qz)) Nz)
   refine bS a fun a2 M a => VE (my (enc := kx) (v := k) (vs := (.slice (some ⟨T, 0, none⟩) 1 1)) (R := g) d mr dc mE aF mq.1 mq.2.1 rfl mq.2.2.1 mq.2.2.2 rfl rfl j (Sl.lit (enc := kx) (l := [c.kw]) mr rfl nb rfl (d.at_ (Ma Mh))) M (fun L a3 Q d J => Wa (lh (lu (kF ?_)))))
   replace d := d.kz (Kr (Db (Db St)))
   exact ⟨m, a3, a2, Q, _, ⟨rfl, o⟩, (d.kz St), t, rfl, x, J, (by rw [H]; exact a)⟩
  refine lz (lu (kF ?_))
  replace d := d.kz (Db St)
  exact ⟨m, k, y, g, _, ⟨rfl, o⟩, (d.kz St), t, u, x, j, (by rw [H]; exact a)⟩
 rintro E W ⟨k, y, g, z, ⟨m, o⟩, d, t, u, x, j, a⟩
 rw [aG] at a
 refine kF (sg (Wh u (Wa (lt ?_))))
 obtain rfl := sj a
 exact lI (v := k) rfl rfl ⟨_, g, rfl, d.mO (fun p q => (Ml q)) j.nd, j⟩
theorem LP (c : tH) (a g j y k x : Value) (r : List kw) (w : World) (t : Sl oL 15 (hp w) a c.lR.nr) (u : Sl vc 8 (hp w) g c.lR.oq) (i : Sl (Pl kC) 9 (hp w) j c.lH) (D : Sl (Pl kC) 9 (hp w) y c.Shown) (z : Sl (Pl kx) 2 (hp w) k c.mA) (B : Sl (Pl kx) 2 (hp w) x c.qz) (hm : Af c = some r) :
  lK true pg0 45 [(.agg #[(.string c.lR.Name), a, g, (.string c.og), (.int .i64 c.Room), j, y, k, x])] w 28 kx 2 r := by
 refine sP 9 func45 rfl (fun d => sg ?_)
 obtain ⟨A1, c2, rfl⟩ := t.form
 obtain ⟨A3, c4, rfl⟩ := u.form
 obtain ⟨Q, Z, rfl⟩ := i.form
 obtain ⟨A7, c8, rfl⟩ := D.form
 obtain ⟨A9, U, rfl⟩ := z.form
 obtain ⟨N, Y, rfl⟩ := B.form
 refine VE (lB d rfl (fun O W d => Wa (ln (kO ?_))))
 replace d := d.drew
 have h := d.has.kz (Kb Sn)
 refine lG h lq (X 0 rfl h (kD Du rfl) (XH 1 rfl h (fun _ m => kA rfl (kM m Mh rfl iC)) (X 3 rfl h (kD GS rfl) (XH 4 rfl h (fun _ m => kA rfl (kM m Mh rfl aY)) (bS hm fun A K hm => XE 2 rfl (pF d call58 (Rc (.slice Q c.lH.length Z) c.lH _ _ (i.mono (Pl.mono _) d.kJ) K) (fun P a2 b7 L d G q J => ?_)))))))
 have h := d.has.rl G (Dr (Kb Sn))
 refine ⟨h, (bS hm fun b6 M hm => XE 5 rfl (pF d call106 (LH a2 A c.og _ _ (J.sl nf (fun b o n => d.at_ (Ml n))) M) (fun R a3 b9 T d I s H => ?_)))⟩
 have h := d.has.rl (G.trans I) (Dr (Dr (Kb Sn)))
 refine ⟨h, (X 6 rfl h (mN rfl) (lT kr (kF ?_)))⟩
 replace d := d.kz (Kr (Dr (Db St)))
 refine lj ?_
 obtain rfl := sj hm
 exact lI (v := a3) rfl rfl ⟨_, T, rfl, d.mO (fun p n => (Ml n)) H.nd, H⟩
theorem Ie (k : Value) (u : List kw) (g : kw) (r : Bool) (w : World) (j : Sl (Pl kx) 2 (hp w) k u) (hm : zP u g = some r) :
  la true pg0 105 [k, (.agg (kx g).toArray)] w (.bool r) := by
 refine cG 17 func105 rfl (fun d => sg (VE (lB d rfl (fun Y J d => Wa (lS (Wm (V (ly aF rfl j) (Wm (ln ?_)))))))))
 refine lp (fun i E W => ∃ t, (E 9 = .int .i64 (i : Nat) ∧ E 8 = .int .i64 (u.length : Nat)) ∧ ST true ll w W (hp w) ((J, Ol (kx g) 28) :: t) ∧ E 3 = (.pointer (some ⟨J, 0, none⟩)) ∧ E 7 = k ∧ zj g (u.drop i) = some r) u.length j.len ⟨_, ⟨rfl, rfl⟩, (d.kz St), rfl, rfl, hm⟩ dc dc dc (fun _ _ _ h => by obtain ⟨_, n, _⟩ := h; exact n) ?_ ?_
 ·rintro K E W B ⟨t, ⟨m, o⟩, d, x, y, a⟩
  obtain ⟨c, M, H, G, I⟩ := lc B
  rw [H] at a
  refine bg (VQ (lO (enc := kx) (i := (K : Int)) (x0 := c) aF aC y m j (aD _) G) (fun U D => V (kA rfl (lD d.has D aN aC)) (VE (lA d bP (fun N T d => VO (lf (.agg (kx c).toArray) ((kx c).toArray) d rfl rfl aC (mE c) nb rfl (fun Q d => lr (VA d Mh (kx c) aN aC (V (kA x (kI d.has (Mt Mh) (kx g) rfl aN aC)) (V (tT rfl rfl (mY cQ) (pK (nJ _ c g))) (lh ?_)))))))))))
  refine kF ?_
  replace d := d.kz (Db St)
  refine CI a rfl (fun z a => ?_) (fun z a => ?_)
  ·refine sg (Wa (ln ?_))
   replace d := d.kz (Db St)
   refine lj (me (lb (me (lb ?_))))
   obtain rfl := sj a
   exact rP d
  exact lz (lu (kF ⟨m, _, ⟨rfl, o⟩, (d.kz St), x, y, (by rw [I]; exact a)⟩))
 rintro E W ⟨t, ⟨m, o⟩, d, x, y, a⟩
 rw [aG] at a
 refine kF ?_
 replace d := d.kz (Db St)
 exact sg (Wa (lt (rQ a d)))
theorem Fu (k : Value) (u : List kw) (g : Value) (z : List kw) (r : Bool) (w : World) (j : Sl (Pl kx) 2 (hp w) k u) (B : Sl (Pl kx) 2 (hp w) g z) (hm : xw u z = some r) :
  la true pg0 81 [k, g] w (.bool r) := by
 refine cG 18 func81 rfl (fun d => sg (Wa (lS (Wm (V (ly aF rfl j) (Wm (ln (lp (fun i E W => ∃ t, (E 9 = .int .i64 (i : Nat) ∧ E 8 = .int .i64 (u.length : Nat)) ∧ ST true ll w W (hp w) t ∧ E 1 = g ∧ E 7 = k ∧ vh z (u.drop i) = some r) u.length j.len ⟨_, ⟨rfl, rfl⟩, (d.kz St), rfl, rfl, hm⟩ dc dc dc (fun _ _ _ h => by obtain ⟨_, n, _⟩ := h; exact n) ?_ ?_))))))))
 ·rintro N E W G ⟨t, ⟨m, o⟩, d, x, y, a⟩
  obtain ⟨c, Q, K, J, M⟩ := lc G
  rw [K] at a
  refine bg (VQ (lO (enc := kx) (i := (N : Int)) (x0 := c) aF aC y m j (aD _) J) (fun a2 H => V (kA rfl (lD d.has H aN aC)) (VE (lA d bP (fun T Z d => VO (lf (.agg (kx c).toArray) ((kx c).toArray) d rfl rfl aC (mE c) nb rfl (fun U d => lr (Wh x (VA d Mh (kx c) aN aC (bS a fun a3 I a => VE (Eg d call105 (Ie g z c _ _ (B.mono (Pl.mono _) d.kJ) I) (fun Y d => ?_))))))))))))
  refine V (mQ rfl) (ln ?_)
  replace d := d.kz (Db St)
  refine CI a rfl (fun D a => ?_) (fun D a => ?_)
  ·refine sg (Wa (lt (me (lb (me (lb ?_))))))
   obtain rfl := sj a
   exact rP d
  exact lz (lu (kF ⟨m, _, ⟨rfl, o⟩, (d.kz St), x, y, (by rw [M]; exact a)⟩))
 rintro E W ⟨t, ⟨m, o⟩, d, x, y, a⟩
 rw [aG] at a
 exact kF (sg (Wa (lt (rQ a d))))
theorem H2 (N : Formula → (List kw) → Option Bool) (a5 : ∀ (g : Formula) (k : Value) (t : Value) (H : List kw) (r : Bool) (w : World) (c : Sl kW 5 (hp w) k g.Kids) (J : Sl (Pl kx) 2 (hp w) t H), N g H = some r → la false pg0 44 [(.agg #[(.int .i64 g.Op), (.int .i64 g.K), (.string g.kw.kE), (.string g.kw.kT), k]), t] w (.bool r)) (g : Formula) (k t : Value) (H : List kw) (r : Bool) (w : World) (c : Sl kW 5 (hp w) k g.Kids) (J : Sl (Pl kx) 2 (hp w) t H) (hm : zL N g H = some r) :
  la false pg0 44 [(.agg #[(.int .i64 g.Op), (.int .i64 g.K), (.string g.kw.kE), (.string g.kw.kT), k]), t] w (.bool r) := by
 refine cG 45 func44 rfl (fun d => sg ?_)
 obtain ⟨A1, c2, rfl⟩ := c.form
 refine VE (lB d rfl (fun W4 q d => Wa (lS (Wf wS (VB d Mh rfl rfl cC (Wi rfl (ln (CI hm rfl (fun a9 hm => ?_) (fun a9 hm => ?_)))))))))
 ·refine sg (Wm (Wf yI (VA d Mh (kx g.kw) aN aC (bS hm fun r6 A hm => VE (Eg d call105 (la.mn (Ie t H g.kw _ _ (J.mono (Pl.mono _) d.kJ) A)) (fun W8 d => Wa (ln ?_)))))))
  replace d := d.kz (Db St)
  refine lj (lb ?_)
  obtain rfl := sj hm
  exact rP d
 refine kg (Wa (lS (Wf uu (VB d Mh rfl rfl fa (V (ly bZ rfl c) (Wm (lh ?_)))))))
 refine kF (lp (fun i E W => ∃ y I, (E 18 = .int .i64 (i : Nat) ∧ E 17 = .int .i64 (g.Kids.length : Nat)) ∧ ST false ll w W (hp w) ((q, Ol (C1 g.Op g.K g.kw.kE g.kw.kT A1 g.Kids.length c2) 57) :: I) ∧ E 1 = t ∧ E 2 = (.pointer (some ⟨q, 0, none⟩)) ∧ E 5 = (.int .i64 y) ∧ E 16 = (.slice A1 g.Kids.length c2) ∧ sD N H g (g.Kids.drop i) y = some r) g.Kids.length c.len ⟨0, _, ⟨rfl, rfl⟩, (d.kz St), rfl, rfl, rfl, rfl, hm⟩ dc dc dc (fun _ _ _ h => by obtain ⟨_, _, n, _⟩ := h; exact n) ?_ ?_)
 ·rintro L E W a4 ⟨y, I, ⟨m, o⟩, d, D, u, x, G, a⟩
  obtain ⟨j, c1, v, s, M⟩ := lc a4
  rw [v] at a
  refine bg (VQ (su (i := (L : Int)) (x0 := j) kW.out bZ aZ G m c (aD _) s) (fun b7 ⟨_, ⟨c0, rfl, K⟩, Y⟩ => V (kA rfl (lD d.has Y cx aZ)) (VE (lA d dB (fun O b6 d => ?_)))))
  obtain ⟨z, B, rfl⟩ := K.form
  let a0 := (C1 j.Op j.K j.kw.kE j.kw.kT z j.Kids.length B)
  refine VO (lf (.agg a0.toArray) (a0.toArray) d rfl rfl aZ oc nb rfl (fun P d => lr (VA d Mh a0 cx aZ (Wh D (bS a fun b9 Z a => VE (Eg d call44 (a5 j (.slice z j.Kids.length B) t H _ _ (K.mono lW.mono d.kJ) (J.mono (Pl.mono _) d.kJ) Z) (fun R d => ln ?_)))))))
  replace d := d.kz (Db St)
  refine CI a rfl (fun Q a => ?_) (fun Q a => ?_)
  ·exact kL (Wh x (Wi rfl (Wa (lh (lu (kF ⟨m, (wi0 .i64 (y + 1)), _, ⟨rfl, o⟩, (d.kz St), D, u, rfl, G, (by rw [M]; exact a)⟩))))))
  exact lz (lu (kF ⟨m, y, _, ⟨rfl, o⟩, (d.kz St), D, u, x, G, (by rw [M]; exact a)⟩))
 rintro E W ⟨y, I, ⟨m, o⟩, d, D, u, x, G, a⟩
 rw [aG] at a
 refine kF (kO (sg (V (kD wS u) (VB d Mh rfl rfl cC (Wi rfl (ln (CI a rfl (fun T a => ?_) (fun T a => ?_))))))))
 ·refine sg (Wh x (V (kD uu u) (VB d Mh rfl rfl fa (V (ly bZ rfl c) (Wi rfl (Wa (ln ?_)))))))
  replace d := d.kz (Db St)
  refine lj (lb ?_)
  obtain rfl := sj a
  exact rP d
 refine kS (V (kD wS u) (VB d Mh rfl rfl cC (Wi rfl (ln (CI a rfl (fun U a => ?_) (fun U a => ?_))))))
 ·refine sg (Wh x (Wi rfl (Wa (ln ?_))))
  replace d := d.kz (Db St)
  refine lj (lb ?_)
  obtain rfl := sj a
  exact rP d
 refine kg (Wh x (V (kD zV u) (VB d Mh rfl rfl cC (Wi rfl (Wa (ln ?_))))))
 exact lj (rQ a d)
theorem DM : ∀ (n : Nat) (c : Formula) (a : Value) (g : Value) (j : List kw) (r : Bool) (w : World) (i : Sl kW 5 (hp w) a c.Kids) (k : Sl (Pl kx) 2 (hp w) g j) (_ : sd n c j = some r),
  la false pg0 44 [(.agg #[(.int .i64 c.Op), (.int .i64 c.K), (.string c.kw.kE), (.string c.kw.kT), a]), g] w (.bool r)
 | 0 => by intros; rename_i h; simp only [sd] at h; cases h
 | n + 1 => H2 (sd n) (DM n)
theorem ME (y : Value) (H : List kw) (z : Value) (o : List kw) (r : Bool) (w : World) (c : Sl (Pl kx) 2 (hp w) y H) (k : Sl (Pl kx) 2 (hp w) z o) (hm : AV H o = some r) :
  la true pg0 170 [y, z] w (.bool r) := by
 refine cG 40 func170 rfl (fun m => sg (Wa (lS (Wm (V (ly aF rfl c) (Wm (V (ly aF rfl k) (Wi rfl (lh ?_)))))))))
 refine kF (CI hm rfl (fun a5 hm => ?_) (fun a5 hm => ?_))
 ·refine sg (Wm (V (ly aF rfl c) (Wm (V (ly aF rfl k) (Wi rfl (Wa (lt (lb ?_))))))))
  obtain rfl := sj hm
  exact rP m
 refine kS (Wm (V (ly aF rfl c) (Wm (ln (lp (fun i E W => ∃ x, (E 18 = .int .i64 (i : Nat) ∧ E 17 = .int .i64 (H.length : Nat)) ∧ ST true ll w W (hp w) x ∧ E 0 = y ∧ E 1 = z ∧ wO o (H.drop i) i = some r) H.length c.len ⟨_, ⟨rfl, rfl⟩, (m.kz St), rfl, rfl, hm⟩ dc dc dc (fun _ _ _ h => by obtain ⟨_, s, _⟩ := h; exact s) ?_ ?_)))))
 ·rintro t E W M ⟨x, ⟨q, v⟩, m, g, j, a⟩
  obtain ⟨u, A, Z, B, a2⟩ := lc M
  rw [Z] at a
  refine bg (Wh q (Wa (ln (kO ?_))))
  replace m := m.drew
  have d := m.has.kz Sn
  refine lG d lq (X 0 rfl d (kH g) (X 1 rfl d (kH rfl) (XQ 2 rfl d (lO (enc := kx) (i := (t : Int)) (x0 := u) aF aC rfl rfl c (aD _) B) (fun O N => XH 3 rfl d (fun _ n => kA rfl (lD n N aN aC)) (X 4 rfl d (kH j) (X 5 rfl d (kH rfl) (bS a fun I D a => XQ 6 rfl d (lO (enc := kx) (i := (t : Int)) (x0 := I) aF aC rfl rfl k (lY D) (lN D)) (fun a9 Q => XH 7 rfl d (fun _ n => kA rfl (lD n Q aN aC)) (X 8 rfl d (EB rfl rfl (mY cQ) (AI (nJ _ u I))) (lT kr (kF (CI a rfl (fun K a => ?_) (fun K a => ?_)))))))))))))
  ·refine kO ?_
   replace m := m.drew
   have d := m.has.kz Sn
   refine lG d lq (X 0 rfl d (kH g) (X 1 rfl d (kH rfl) (XQ 2 rfl d (lO (enc := kx) (i := (t : Int)) (x0 := u) aF aC rfl rfl c (aD _) B) (fun P T => XH 3 rfl d (fun _ n => kA rfl (lD n T aN aC)) (X 4 rfl d (kH j) (X 5 rfl d (kH rfl) (bS a fun J G a => XQ 6 rfl d (lO (enc := kx) (i := (t : Int)) (x0 := J) aF aC rfl rfl k (lY G) (lN G)) (fun R U => XH 7 rfl d (fun _ n => kA rfl (lD n U aN aC)) (bS a fun b2 Y a => XE 8 rfl (Eg m call107 (xt u J _ _  Y) (fun L m => ?_)))))))))))
   have d := m.has.kz Sn
   refine ⟨d, (X 9 rfl d (mN rfl) (lT kr (kF (lj (me (lb (me (lb ?_))))))))⟩
   obtain rfl := sj a
   exact rP m
  exact lz (lu (kF ⟨q, _, ⟨rfl, v⟩, (m.kz St), g, j, (by rw [a2]; exact a)⟩))
 rintro E W ⟨x, ⟨q, v⟩, m, g, j, a⟩
 rw [aG] at a
 exact kF (sg (Wa (lt (rQ a m))))
theorem KH (Q : Value) (a0 r : List (List kw)) (w : World) {μ0 : lm} (h0 : pP μ0 [] w) (P : Sl (vP kx 2) 1 μ0 Q a0) (hm : zg a0 = some r) :
  pg true pg0 108 [Q] w μ0 [] (fun v L1 μ1 => ∃ y1, v = y1 ∧ L1 = [] ∧ Sl (vP kx 2) 1 μ1 y1 (r)) := by
 refine RI h0 45 func108 rfl (fun d => sg (Wa (lr (Wa (lS (Wm ?_))))))
 refine V (ly cz rfl P) (Wm (ln (lp (fun i E W => ∃ j H z t a3, (E 10 = .int .i64 (i : Nat) ∧ E 9 = .int .i64 (a0.length : Nat)) ∧ kY μ0 t ∧ Lo (keys []) w μ0 t ∧ ST true (keys []) w W t (z ++ a3) ∧ E 3 = j ∧ E 8 = Q ∧ nm 34 (vP kx 2) 1 t j H z ∧ sK (a0.drop i) H = some r) a0.length P.len ⟨(.slice none 0 0), ([]), [], μ0, _, ⟨rfl, rfl⟩, (kY.refl _), Lo.refl, (d.kz St), rfl, rfl, (nm.nil _ _ _ _), hm⟩ dc dc dc (fun _ _ _ h => by obtain ⟨_, _, _, _, _, aa, _⟩ := h; exact aa) ?_ ?_)))
 ·rintro Y E W e0 ⟨j, H, z, t, a3, ⟨R, eN⟩, G, n, d, T, a4, x, u⟩
  obtain ⟨k, h1, f1, f0, f2⟩ := lc e0
  rw [f1] at u
  refine bg (VQ (DB (enc := kx) (k2 := 2) (i := (Y : Int)) (x0 := k) cz dZ a4 R (P.mono (vP.mono _ _) G) (aD _) f0) (fun i2 ⟨N, e2, Z⟩ => V (kA rfl (ng d.has (y := N) e2 dO)) (Wa (lr (Wh T (V (Ce cz rfl x) (Wa (ln ?_))))))))
  let b8 : Value := (.int .i64 (Y : Int))
  let O : Value := (.int .i64 (a0.length : Int))
  refine kO (CJ u (fun L E W => ∃ b3, ST true (keys []) w W t (z ++ b3) ∧ E 3 = j ∧ E 5 = N ∧ E 6 = (.int .i64 L) ∧ E 8 = Q ∧ E 9 = O ∧ E 10 = b8) (fun L e1 => ?_) ?_)
  ·refine mK (od (fun m E W => ∃ I b4, ST true (keys []) w W t (z ++ b4) ∧ E 3 = j ∧ E 5 = N ∧ E 6 = (.int .i64 I) ∧ E 8 = Q ∧ E 9 = O ∧ E 10 = b8 ∧ qJ H k m I = some L) lC ⟨(H.length : Int), _, (d.kz St), T, rfl, rfl, a4, eN, R, e1⟩ ?_)
   rintro m E W ⟨I, b4, d, a5, A, U, b9, c0, c1, M⟩
   cases m with
   | zero => rw [qJ] at M; cases M
   | succ g3 =>
    refine kO (sg (Wh U (Wi rfl (Wm (LJ M (fun c8 E W => ∃ b5, ST true (keys []) w W t (z ++ b5) ∧ E 3 = j ∧ E 5 = N ∧ E 6 = (.int .i64 I) ∧ E 8 = Q ∧ E 9 = O ∧ E 10 = b8 ∧ E 26 = (.bool c8)) 8 ?_ (fun c8 g a2 => ?_))))))
    ·rintro i9 E W ⟨b5, d, c2, c3, c4, c5, c6, c7, g1⟩ D
     refine ln (CI D g1 (fun d9 D => ?_) (fun d9 D => ?_))
     ·exact kn (mK (kL (Wh c4 (Wi rfl (Wa (lh (lu (kF ⟨g3, bT _, (wi0 .i64 (I - 1)), _, (d.kz St), c2, c3, rfl, c5, c6, c7, D⟩))))))))
     refine ob (nN (nN (uf (kF ?_))))
     obtain rfl := sj D
     exact ⟨_, (d.kz St), c2, c3, c4, c5, c6, c7⟩
    refine bC g (fun a g => ?_) (fun a g => ?_)
    ·refine ug a (kH A) (ug a (kH a5) (ug a (kH U) (ug a (lL rfl rfl rfl) (bS g fun g7 b1 g => Ut a (E1 (i := (wi0 .i64 (I - 1))) id cz dZ rfl rfl x (lY b1) (lN b1)) (fun i3 ⟨_, ⟨c9, rfl, e8⟩, e3, g9⟩ => ug a (kA rfl (ng (rR.hp _) (y := c9) (e3.mono (xF (fun b o hq => d.has.2 b o (Ml hq)))) dO)) (bS g fun i4 e4 g => pX a (Eg d call170 (ME N k c9 g7 _ _ (Z.mono (Pl.mono _) d.kJ) (e8.mono (Pl.mono _) d.kJ) e4) (fun h8 d => V (kR (cB a) rfl) ?_))))))))
     obtain rfl := sj g
     exact a2 _ _ ⟨_, (d.kz St), a5, A, U, b9, c0, c1, rfl⟩
    refine un a (un a (un a (un a (un a (un a (un a (V (kQ (cB a) rfl) ?_)))))))
    obtain rfl := sj g
    exact a2 _ _ ⟨_, (d.kz St), a5, A, U, b9, c0, c1, rfl⟩
  rintro d0 E W ⟨b3, d, b6, f7, b7, f8, f9, g0⟩ c
  refine sg (VE (lg (cs := #[]) d um (zB [] cz dZ iL dc rfl (by simp) rfl rfl) (fun h3 f6 d => Wh b6 (Wh b7 (bS c fun _ a9 c => VQ (Qn (i := d0) cz dZ rfl rfl x (qD a9) (qw a9)) (fun i5 e5 => bS c fun i0 d6 c => VE (AL (B := [(f6, Ob #[] 34)]) vR d dc cz pS.1 pS.2.1 rfl pS.2.2.1 pS.2.2.2 rfl rfl (nm.lit vR (l := []) .nil rfl nb rfl) (Fw.row e5 d (fun p hq => (Mt (Ml hq)))) d6 (fun h4 i6 f3 d d3 => Wa (lr (Wm ?_))))))))))
  refine Wh f7 ?_
  obtain ⟨J, K, rfl⟩ := Z.form
  refine VE (lg (cs := #[(.slice J k.length K)]) d (mI rfl) (mD cz dZ iL) (fun h5 h9 d => ?_))
  replace d := d.perm (Nr (Qb Qz) Nz)
  refine bS c fun i1 d7 c => VE (AL (B := f3) vR d dc cz pS.1 pS.2.1 rfl pS.2.2.1 pS.2.2.2 rfl rfl d3 (Fw.lit vR (l := [k]) (.cons (ys := [(.slice J k.length K)]) ⟨(.slice J k.length K), rfl, Z⟩ .nil) rfl nb (d.at_ (Ma Mh))) d7 (fun h6 i7 f4 d d4 => Wa (ln ?_)))
  replace d := d.kz (Kr (Db St))
  refine kL (Wm (Wh b6 (Wh b7 ?_)))
  replace d := d.perm (Nr (Qr Qz) Nz)
  obtain ⟨g8, d, a1, q, e7⟩ := ST.Qw vR d x
  exact bS c fun _ b0 c => VQ (BP (i := d0) cz dZ rfl rfl e7 (qD b0) (qw b0)) (fun i8 e6 => bS c fun g2 d8 c => VE (AL (B := f4) vR d dc cz pS.1 pS.2.1 rfl pS.2.2.1 pS.2.2.2 rfl rfl (d4.mono vR a1) (Fw.sl vR e6.1 d.kJ) d8 (fun h7 g4 f5 d d5 => Wa (lh (lu (kF ⟨g0, g4, g2, f5, g8, _, ⟨rfl, f9⟩, (G.trans a1), (n.trans q), (d.kz St), rfl, f8, d5, (by rw [f2]; exact c)⟩))))))
 rintro E W ⟨j, H, z, t, a3, ⟨R, eN⟩, G, n, d, T, a4, x, u⟩
 rw [aG] at u
 refine kF (sg (Wh T (Wa (lt ?_))))
 obtain rfl := sj u
 refine lI (v := j) rfl rfl ?_
 obtain ⟨j0, d, d1, s, e9⟩ := ST.Qw vR d x
 exact ⟨_, _, _, rfl, (d.mL Sn), (G.trans d1), (n.trans s), (ST.lV d (np.mem Sn)), j, rfl, rfl, e9⟩
set_option maxHeartbeats 4000000 in
theorem LB (a : Formula) (j0 : Value) (r : List (List kw)) (w : World) {μ0 : lm} (h0 : pP μ0 [] w) (d2 : Sl kW 5 μ0 j0 a.Kids) (hm : Al a = some r) :
  pg false pg0 46 [(.agg #[(.int .i64 a.Op), (.int .i64 a.K), (.string a.kw.kE), (.string a.kw.kT), j0])] w μ0 [] (fun v L1 μ1 => ∃ y1, v = y1 ∧ L1 = [] ∧ Sl (vP kx 2) 1 μ1 y1 (r)) := by
 refine RI h0 80 func46 rfl (fun d => sg ?_)
 obtain ⟨A1, c2, rfl⟩ := d2.form
 let b8 := (C1 a.Op a.K a.kw.kE a.kw.kT A1 a.Kids.length c2)
 refine VE (lB d rfl (fun W4 O d => Wa (lr (VA d Mh b8 cx aZ (bS hm fun r5 bi hm => VE (pF d call30 (Gm a (.slice A1 a.Kids.length c2) _ _ (d2.mono lW.mono d.kJ) bi) (fun W7 c1 dk d9 d y0 ds m0 => Wa (lr (VE (lg (cs := #[(.slice none 0 0)]) d (mI rfl) (mD cz dZ iL) (fun ck z6 d => ?_)))))))))))
 let b4 : Value := (.pointer (some ⟨O, 0, none⟩))
 refine Wa (lr (Wa (ln (kO ?_))))
 replace d := d.Ht
 refine mK (od (fun m E W => ∃ K x H d5 d3 e5 Q m1, kY dk Q ∧ Lo (keys []) w dk Q ∧ ST false (keys []) w W Q ((O, Ol b8 57) :: (e5 ++ (H ++ (d9 ++ m1)))) ∧ E 1 = b4 ∧ E 3 = c1 ∧ E 4 = K ∧ E 5 = d5 ∧ nm 34 (vP kx 2) 1 Q K x H ∧ nm 34 (vP kx 2) 1 Q d5 d3 e5 ∧ tj a r5 m x d3 = some r) lC ⟨(.slice (some ⟨z6, 0, none⟩) 1 1), ([[]]), [(z6, Ob #[(.slice none 0 0)] 34)], (.slice none 0 0), ([]), [], dk, _, (kY.refl _), Lo.refl, (d.kz (Sb (Pr (Pr Pz)) St)), rfl, rfl, rfl, rfl, (nm.lit vR (l := [[]]) (.cons (ys := [(.slice none 0 0)]) ⟨(.slice none 0 0), rfl, (Sl.nil _ _ _)⟩ .nil) rfl nb rfl), (nm.nil _ _ _ _), hm⟩ ?_)
 let a0 := (b8.toArray : Array Value)
 rintro m E W ⟨K, x, H, d5, d3, e5, Q, m1, e2, A, d, t8, t9, n2, n3, d7, l6, D⟩
 cases m with
 | zero => rw [tj] at D; cases D
 | succ y7 =>
  refine kO (sg (Wh n2 (V (Ce cz rfl d7) (Wi rfl (ln (CI D rfl (fun p0 D => ?_) (fun p0 D => ?_)))))))
  ·refine kn (bg (Wa (lS (Wh n2 (V (Ce cz rfl d7) (Wm (lh ?_)))))))
   refine kF (CJ D (fun i2 E W => ∃ i3 e6 i4 e7 b2 m2, kY Q b2 ∧ Lo (keys []) w Q b2 ∧ ST false (keys []) w W b2 ((O, Obj.cells a0 57 (0, 0)) :: (e7 ++ (e6 ++ (d9 ++ m2)))) ∧ E 1 = b4 ∧ E 3 = c1 ∧ E 5 = i3 ∧ E 6 = i4 ∧ nm 34 (vP kx 2) 1 b2 i3 i2.1 e6 ∧ nm 34 (vP kx 2) 1 b2 i4 i2.2 e7) (fun i2 q4 => ?_) ?_)
   ·refine lp (fun i E W => ∃ k Z u M b1 I j j3, (E 22 = .int .i64 (i : Nat) ∧ E 21 = .int .i64 (x.length : Nat)) ∧ kY Q j ∧ Lo (keys []) w Q j ∧ ST false (keys []) w W j ((O, Obj.cells a0 57 (0, 0)) :: (I ++ (u ++ (H ++ (d9 ++ j3))))) ∧ E 1 = b4 ∧ E 3 = c1 ∧ E 5 = k ∧ E 6 = M ∧ E 20 = K ∧ nm 34 (vP kx 2) 1 j k Z u ∧ nm 34 (vP kx 2) 1 j M b1 I ∧ qb a r5 (x.drop i) Z b1 = some i2) x.length d7.len ⟨d5, d3, e5, (.slice none 0 0), ([]), [], Q, _, ⟨rfl, rfl⟩, (kY.refl _), Lo.refl, (d.kz St), t8, t9, n3, rfl, rfl, l6, (nm.nil _ _ _ _), q4⟩ dc dc dc (fun _ _ _ h => by obtain ⟨_, _, _, _, _, _, _, _, P, _⟩ := h; exact P) ?_ ?_
    ·rintro b0 E W q0 ⟨k, Z, u, M, b1, I, j, j3, ⟨L, eN⟩, a2, q, d, j8, j9, f1, k0, k1, a3, b9, a6⟩
     obtain ⟨N, ab, s7, s6, i9⟩ := lc q0
     rw [s7] at a6
     refine bg (VQ (E1 (i := (b0 : Int)) id cz dZ k1 L (d7.mono vR a2) (aD _) s6) (fun bp ⟨_, ⟨z, rfl, G⟩, q9, z9⟩ => V (kA rfl (ng (rR.hp _) (y := z) (q9.mono (xF (fun b o hq => d.has.2 b o (Mt (Ma (Ma (Ml hq))))))) dO)) (Wa (lr (Wa (ln (kO (kO ?_))))))))
     let e1 : Value := (.int .i64 (b0 : Int))
     let e0 : Value := (.int .i64 (x.length : Int))
     refine kL (Wh f1 (V (Ce cz rfl a3) (Wm (ln (CJ a6 (fun l4 E W => ∃ m3, ST false (keys []) w W j ((O, Obj.cells a0 57 (0, 0)) :: (I ++ (u ++ (H ++ (d9 ++ m3))))) ∧ E 1 = b4 ∧ E 3 = c1 ∧ E 5 = k ∧ E 6 = M ∧ E 8 = z ∧ E 9 = (.bool l4) ∧ E 20 = K ∧ E 21 = e0 ∧ E 22 = e1) (fun l4 q7 => ?_) ?_)))))
     ·refine lp (fun i E W => ∃ d6 j5, (E 28 = .int .i64 (i : Nat) ∧ E 27 = .int .i64 (Z.length : Nat)) ∧ ST false (keys []) w W j ((O, Obj.cells a0 57 (0, 0)) :: (I ++ (u ++ (H ++ (d9 ++ j5))))) ∧ E 1 = b4 ∧ E 3 = c1 ∧ E 5 = k ∧ E 6 = M ∧ E 8 = z ∧ E 9 = (.bool d6) ∧ E 20 = K ∧ E 21 = e0 ∧ E 22 = e1 ∧ E 26 = k ∧ tO N (Z.drop i) d6 = some l4) Z.length a3.len ⟨false, _, ⟨rfl, rfl⟩, (d.kz St), j8, j9, f1, k0, rfl, rfl, k1, eN, L, rfl, q7⟩ dc dc dc (fun _ _ _ h => by obtain ⟨_, _, P, _⟩ := h; exact P) ?_ ?_
      ·rintro n4 E W q2 ⟨d6, j5, ⟨L, eN⟩, d, h4, h5, h6, h7, d0, d1, h8, h9, i0, i1, a8⟩
       obtain ⟨z3, ad, t0, s9, t1⟩ := lc q2
       rw [t0] at a8
       refine bg (VQ (E1 (i := (n4 : Int)) id cz dZ i1 L a3 (aD _) s9) (fun bt ⟨_, ⟨n7, rfl, s4⟩, r2, aa⟩ => V (kA rfl (ng (rR.hp _) (y := n7) (r2.mono (xF (fun b o hq => d.has.2 b o (Mt (Ma (Ml hq)))))) dO)) (Wa (ln (kL (Wh d1 (Wm (LJ a8 (fun n6 E W => ∃ m7, ST false (keys []) w W j ((O, Obj.cells a0 57 (0, 0)) :: (I ++ (u ++ (H ++ (d9 ++ m7))))) ∧ E 1 = b4 ∧ E 3 = c1 ∧ E 5 = k ∧ E 6 = M ∧ E 8 = z ∧ E 9 = (.bool d6) ∧ E 20 = K ∧ E 21 = e0 ∧ E 22 = e1 ∧ E 26 = k ∧ E 27 = (.int .i64 (Z.length : Int)) ∧ E 28 = (.int .i64 (n4 : Int)) ∧ E 37 = (.bool n6)) 4 ?_ (fun n6 a9 l1 => ?_)))))))))
       ·rintro z4 E W ⟨m7, d, w7, w8, w9, x1, x2, bh, x3, x4, x5, x6, x7, x8, x9⟩ q8
        exact Wg x9 (lh (lu (kF ⟨x8, z4, _, ⟨rfl, x7⟩, (d.kz St), w7, w8, w9, x1, x2, rfl, x3, x4, x5, x6, (by rw [t1]; exact q8)⟩)))
       refine bC a9 (fun T a9 => ?_) (fun T a9 => ?_)
       ·refine un T (un T (un T (V (kR (cB T) rfl) ?_)))
        obtain rfl := sj a9
        exact l1 _ _ ⟨_, (d.kz St), h4, h5, h6, h7, d0, d1, h8, h9, i0, i1, eN, L, rfl⟩
       refine ug T (kH rfl) (ug T (kH d0) (bS a9 fun bw r6 a9 => pX T (Eg d call81 (la.mn (Fu n7 z3 z N _ _ (s4.mono (Pl.mono _) d.kJ) (G.mono (Pl.mono _) d.kJ) r6)) (fun ba d => V (kQ (cB T) rfl) ?_))))
       obtain rfl := sj a9
       exact l1 _ _ ⟨_, (d.kz St), h4, h5, h6, h7, d0, d1, h8, h9, i0, i1, eN, L, rfl⟩
      rintro E W ⟨d6, j5, ⟨L, eN⟩, d, h4, h5, h6, h7, d0, d1, h8, h9, i0, i1, a8⟩
      rw [aG] at a8
      refine kF ?_
      obtain rfl := sj a8
      exact ⟨_, (d.kz St), h4, h5, h6, h7, d0, d1, h8, h9, i0⟩
     rintro cb E W ⟨m3, d, f2, f3, k2, k3, k4, u4, k5, k6, k7⟩ t
     refine kO (sg (Wh u4 (ln (CI t rfl (fun p1 t => ?_) (fun p1 t => ?_)))))
     ·exact ob (nN (uf (kF ⟨k7, k, Z, u, M, b1, I, j, _, ⟨rfl, k6⟩, a2, q, (d.kz St), f2, f3, k2, k3, k5, a3, b9, (by rw [i9]; exact t)⟩)))
     refine kS (V (kA f2 (kI d.has Mh b8 rfl cx aZ)) (Wh k4 (bS t fun bu r3 t => VE (Eg d call44 ((DM lC) a (.slice A1 a.Kids.length c2) z N _ _ (d2.mono lW.mono (((y0.trans e2).trans a2).trans d.kJ)) (G.mono (Pl.mono _) d.kJ) r3) (fun ag d => ln (CI t rfl (fun p2 t => ?_) (fun p2 t => ?_)))))))
     ·refine sg (Wh k2 (Wh k4 ?_))
      obtain ⟨c4, c6, rfl⟩ := G.form
      refine VE (lg (cs := #[(.slice c4 N.length c6)]) d (mI rfl) (mD cz dZ iL) (fun ah bd d => ?_))
      replace d := d.perm (Nr (Qb (Qb (Qr Qz))) Nz)
      refine bS t fun y4 p3 t => VE (AL (B := u) vR d dc cz pS.1 pS.2.1 rfl pS.2.2.1 pS.2.2.2 rfl rfl a3 (Fw.lit vR (l := [N]) (.cons (ys := [(.slice c4 N.length c6)]) ⟨(.slice c4 N.length c6), rfl, G⟩ .nil) rfl nb (d.at_ (Ma Mh))) p3 (fun ai y8 t3 d o5 => Wa (ln ?_)))
      replace d := d.kz (Kr (Db St))
      exact ob (nN (uf (kF ⟨k7, y8, y4, t3, M, b1, I, j, _, ⟨rfl, k6⟩, a2, q, (d.kz (Sb (Pr Pz) (Sr (Qr Qz) St))), f2, f3, rfl, k3, k5, o5, b9, (by rw [i9]; exact t)⟩)))
     refine kg (Wh f3 (V (mP aF rfl m0) (Wm (ln (vB (CJ t (fun l2 E W => ∃ i5 e8 c3 m4, kY j c3 ∧ Lo (keys []) w j c3 ∧ ST false (keys []) w W c3 ((O, Obj.cells a0 57 (0, 0)) :: (e8 ++ (u ++ (H ++ (d9 ++ m4))))) ∧ E 1 = b4 ∧ E 3 = c1 ∧ E 5 = k ∧ E 6 = i5 ∧ E 20 = K ∧ E 21 = e0 ∧ E 22 = e1 ∧ nm 34 (vP kx 2) 1 c3 i5 l2 e8) (fun l2 q6 => ?_) ?_))))))
     ·refine lp (fun i E W => ∃ a5 d4 a4 a1 j4, (E 49 = .int .i64 (i : Nat) ∧ E 48 = .int .i64 (r5.length : Nat)) ∧ kY j a1 ∧ Lo (keys []) w j a1 ∧ ST false (keys []) w W a1 ((O, Obj.cells a0 57 (0, 0)) :: (a4 ++ (u ++ (H ++ (d9 ++ j4))))) ∧ E 1 = b4 ∧ E 3 = c1 ∧ E 5 = k ∧ E 6 = a5 ∧ E 8 = z ∧ E 20 = K ∧ E 21 = e0 ∧ E 22 = e1 ∧ E 47 = c1 ∧ nm 34 (vP kx 2) 1 a1 a5 d4 a4 ∧ rB N (r5.drop i) d4 = some l2) r5.length m0.len ⟨M, b1, I, j, _, ⟨rfl, rfl⟩, (kY.refl _), Lo.refl, (d.kz St), f2, f3, k2, k3, k4, k5, k6, k7, rfl, b9, q6⟩ dc dc dc (fun _ _ _ h => by obtain ⟨_, _, _, _, _, P, _⟩ := h; exact P) ?_ ?_
      ·rintro k9 E W q1 ⟨a5, d4, a4, a1, j4, ⟨L, eN⟩, J, s, d, f4, f5, f6, f7, b5, f8, f9, g0, g1, d8, a7⟩
       obtain ⟨c, ac, s8, l7, l8⟩ := lc q1
       let g5 := ((kx c).toArray : Array Value)
       rw [s8] at a7
       refine bg (VQ (mC (i := (k9 : Int)) (x0 := c) aF aC g1 L m0 (aD _) l7) (fun bq r0 => V (kA rfl (ot d.has (fun p hq => (Mt (Ma (Ma (Ma (Ml hq)))))) m0 mr r0 l7 aN aC)) (VE (lA d bP (fun aj j7 d => VO (lf (.agg (kx c).toArray) ((kx c).toArray) d rfl rfl aC (mE c) nb rfl (fun ak d => ln (kO ?_))))))))
       replace d := d.drew
       have n := d.has.kz (Kb Sn)
       refine lG n lq (X 0 rfl n (kH b5) (X 1 rfl n (ly aF rfl G) (X 2 rfl n (lL rfl rfl rfl) (X 3 rfl n (kH rfl) (PJ a7 (fun n5 E W => ∃ m5, ST false (keys []) w W a1 ((j7, Obj.cells g5 28 (0, 0)) :: ((O, Obj.cells a0 57 (0, 0)) :: (a4 ++ (u ++ (H ++ (d9 ++ m5)))))) ∧ E 1 = b4 ∧ E 3 = c1 ∧ E 5 = k ∧ E 6 = a5 ∧ E 8 = z ∧ E 13 = (.pointer (some ⟨j7, 0, none⟩)) ∧ E 20 = K ∧ E 21 = e0 ∧ E 22 = e1 ∧ E 47 = c1 ∧ E 48 = (.int .i64 (r5.length : Int)) ∧ E 49 = (.int .i64 (k9 : Int)) ∧ E 65 = (.bool n5)) (bm 13 8191) 0 ?_ (fun n5 Y l0 => ?_))))))
       ·rintro cc E W ⟨m5, d, g2, g3, g4, c8, c9, v2, g7, g8, g9, h1, h2, h3, v3⟩ b6
        have n := d.has.kz (Kb Sn)
        refine lT kr (kF (CI b6 v3 (fun p4 b6 => ?_) (fun p4 b6 => ?_)))
        ·replace d := d.drew
         have n := d.has.kz (Kb Sn)
         refine lG n lq (X 0 rfl n (kH c8) (X 2 rfl n (kH c9) (XH 4 rfl n (fun _ hS => kA v2 (kI hS Mh (kx c) rfl aN aC)) (PJ b6 (fun l3 E W => ∃ i6 e9 i7 j6 m6, ST false (keys []) w W a1 ((j7, Obj.cells g5 28 (0, 0)) :: ((O, Obj.cells a0 57 (0, 0)) :: (e9 ++ (a4 ++ (u ++ (H ++ (d9 ++ (j6 ++ m6)))))))) ∧ E 1 = b4 ∧ E 3 = c1 ∧ E 5 = k ∧ E 6 = a5 ∧ E 8 = z ∧ E 20 = K ∧ E 21 = e0 ∧ E 22 = e1 ∧ E 47 = c1 ∧ E 48 = (.int .i64 (r5.length : Int)) ∧ E 49 = (.int .i64 (k9 : Int)) ∧ E 66 = a5 ∧ E 69 = i6 ∧ E 71 = i7 ∧ kU 28 kx 2 i6 l3.1 e9 ∧ kU 28 kx 2 i7 l3.2 j6) (bm 10 63) 4 ?_ (fun l3 U e4 => ?_)))))
         ·rintro ⟨bj, bk⟩ E W ⟨i6, e9, i7, j6, m6, d, v4, v5, v6, bf, v7, v8, v9, w0, w1, w2, w3, w4, w5, w6, s1, s2⟩ b7
          replace d := d.perm (Nr (Qb (Qb Qz)) Nz)
          refine bS b7 fun c0 p5 b7 => XE 6 rfl (my (enc := kx) (v := i6) (vs := i7) (R := e9) d mr dc mE aF mq.1 mq.2.1 rfl mq.2.2.1 mq.2.2.2 w5 w6 s1 (s2.Sd mr d (fun p hq => (Ma (Mt (Mt (Ma (Ma (Ma (Ma (Ml hq)))))))))) p5 (fun al bz af d l5 => ?_))
          have n := d.has.kz (Dr (Kb Sn))
          refine ⟨n, ?_⟩
          obtain ⟨c5, c7, rfl⟩ := l5.form
          refine XE 7 rfl (lg (cs := #[(.slice c5 c0.length c7)]) d (mI rfl) (mD cz dZ iL) (fun am be d => ?_))
          have n := d.has.kz (Db (Dr (Kb Sn)))
          refine ⟨n, ?_⟩
          replace d := d.perm (Nr (Qb Qz) Nz)
          obtain ⟨z5, d, e3, cm, s3⟩ := ST.A4 d l5 mr
          replace d := d.perm (Nr (Qb (Qb (Qb Qz))) Nz)
          refine bS b7 fun y6 p6 b7 => XE 8 rfl (AL (B := a4) vR d dc cz pS.1 pS.2.1 rfl pS.2.2.1 pS.2.2.2 w4 rfl (d8.mono vR e3) (Fw.lit vR (l := [c0]) (.cons (ys := [(.slice c5 c0.length c7)]) ⟨(.slice c5 c0.length c7), rfl, s3⟩ .nil) rfl nb (d.at_ (Ma Mh))) p6 (fun an y9 t4 d o6 => ?_))
          have n := d.has.rl e3 (Dr (Db (Kb Sn)))
          refine ⟨n, (X 9 rfl n (mN rfl) (lT kr (lu (kF ?_))))⟩
          replace d := d.kz (Kr (Db (Db (Kb (Kr (Kr (Kr (Dr St))))))))
          exact ⟨w3, y9, y6, t4, z5, _, ⟨rfl, w2⟩, (J.trans e3), (s.trans cm), (d.kz (Sb (Pr Pz) St)), v4, v5, v6, rfl, v7, v8, v9, w0, w1, o6, (by rw [l8]; exact b7)⟩
         refine Ha 1 5 rfl rfl kr (.inl rfl) (.inl rfl) rfl rfl dc dc ?_ ?_
         ·refine lg (cs := #[]) d um (zB [] aF aC bP dc rfl (by simp) rfl rfl) (fun ao f0 d => ?_)
          have n := d.has.kz (Db (Kb Sn))
          refine ⟨n, (Ha 3 5 rfl rfl kr (.inl rfl) (.inl rfl) rfl rfl dc dc ?_ ?_)⟩
          ·refine bS U fun bl p7 U => my (enc := kx) (v := (.slice (some ⟨f0, 0, none⟩) 0 0)) (vs := z) (R := [(f0, Ob #[] 28)]) d mr dc mE aF mq.1 mq.2.1 rfl mq.2.2.1 mq.2.2.2 rfl rfl (kU.lit (l := []) (enc := kx) rfl dc rfl rfl) (G.mono (Pl.mono _) (J.trans d.kJ)) p7 (fun ap z0 t5 d o7 => ?_)
           have n := d.has.kz (Dr (Kb Sn))
           refine ⟨n, (XE 5 rfl (lg (cs := (kx c).toArray) d (mI rfl) (mD aF aC bP) (fun aq m8 d => ?_)))⟩
           have n := d.has.kz (Db (Dr (Kb Sn)))
           refine ⟨n, ?_⟩
           obtain rfl := sj U
           replace d := d.Ht
           refine nx kr (e4 _ _ ⟨z0, t5, (.slice (some ⟨m8, 0, none⟩) 1 1), [(m8, Obj.cells g5 28 (0, 0))], _, (d.kz (Sb (Pr (Pr Pz)) (Sb (Pr (Pr Pz)) (Sr (Qr Qz) (Sr (Qr Qz) (Sr (Qr Qz) (Sr (Qr Qz) (Sr (Qr Qz) St)))))))), g2, g3, g4, c8, c9, g7, g8, g9, h1, h2, h3, rfl, rfl, rfl, o7, (kU.lit (l := [c]) (enc := kx) rfl dc rfl rfl)⟩)
          ·refine lg (cs := (kx c).toArray) d (mI rfl) (mD aF aC bP) (fun ar m9 d => ?_)
           have n := d.has.kz (Db (Db (Kb Sn)))
           refine ⟨n, ?_⟩
           replace d := d.perm (Nb (Pb Pz) Nz)
           refine bS U fun bn p8 U => XE 3 rfl (my (enc := kx) (v := (.slice (some ⟨f0, 0, none⟩) 0 0)) (vs := z) (R := [(f0, Ob #[] 28)]) d mr dc mE aF mq.1 mq.2.1 rfl mq.2.2.1 mq.2.2.2 rfl rfl (kU.lit (l := []) (enc := kx) rfl dc rfl rfl) (G.mono (Pl.mono _) (J.trans d.kJ)) p8 (fun au z1 t6 d o8 => ?_))
           have n := d.has.kz (Dr (Db (Kb Sn)))
           refine ⟨n, ?_⟩
           obtain rfl := sj U
           replace d := d.perm (Nb (Pr Pz) Nz)
           replace d := d.Ht
           refine nx kr (e4 _ _ ⟨z1, t6, (.slice (some ⟨m9, 0, none⟩) 1 1), [(m9, Obj.cells g5 28 (0, 0))], _, (d.kz (Sb (Pr (Pr Pz)) (Sb (Pr (Pr Pz)) (Sr (Qr Qz) (Sr (Qr Qz) (Sr (Qr Qz) (Sr (Qr Qz) (Sr (Qr Qz) St)))))))), g2, g3, g4, c8, c9, g7, g8, g9, h1, h2, h3, rfl, rfl, rfl, o8, (kU.lit (l := [c]) (enc := kx) rfl dc rfl rfl)⟩)
         ·refine lg (cs := (kx c).toArray) d (mI rfl) (mD aF aC bP) (fun av n0 d => ?_)
          have n := d.has.kz (Db (Kb Sn))
          refine ⟨n, (XE 1 rfl (lg (cs := #[]) d um (zB [] aF aC bP dc rfl (by simp) rfl rfl) (fun aw n1 d => ?_)))⟩
          have n := d.has.kz (Db (Db (Kb Sn)))
          refine ⟨n, (bS U fun bo p9 U => XE 3 rfl (my (enc := kx) (v := (.slice (some ⟨n1, 0, none⟩) 0 0)) (vs := z) (R := [(n1, Ob #[] 28)]) d mr dc mE aF mq.1 mq.2.1 rfl mq.2.2.1 mq.2.2.2 rfl rfl (kU.lit (l := []) (enc := kx) rfl dc rfl rfl) (G.mono (Pl.mono _) (J.trans d.kJ)) p9 (fun ay z2 t7 d o9 => ?_)))⟩
          have n := d.has.kz (Dr (Db (Kb Sn)))
          refine ⟨n, ?_⟩
          obtain rfl := sj U
          replace d := d.perm (Nb (Pr Pz) Nz)
          replace d := d.Ht
          refine nx kr (e4 _ _ ⟨z2, t7, (.slice (some ⟨n0, 0, none⟩) 1 1), [(n0, Obj.cells g5 28 (0, 0))], _, (d.kz (Sb (Pr (Pr Pz)) (Sb (Pr (Pr Pz)) (Sr (Qr Qz) (Sr (Qr Qz) (Sr (Qr Qz) (Sr (Qr Qz) (Sr (Qr Qz) St)))))))), g2, g3, g4, c8, c9, g7, g8, g9, h1, h2, h3, rfl, rfl, rfl, o9, (kU.lit (l := [c]) (enc := kx) rfl dc rfl rfl)⟩)
        refine lz (lu (kF ?_))
        replace d := d.kz (Db St)
        exact ⟨h3, a5, d4, a4, a1, _, ⟨rfl, h2⟩, J, s, (d.kz St), g2, g3, g4, c8, c9, g7, g8, g9, h1, d8, (by rw [l8]; exact b6)⟩
       refine bC Y (fun g Y => ?_) (fun g Y => ?_)
       ·refine Xn 4 rfl rfl (cB g) n (Xn 5 rfl rfl (cB g) n (Xn 6 rfl rfl (cB g) n (Xn 7 rfl rfl (cB g) n (Xn 8 rfl rfl (cB g) n (Xn 9 rfl rfl (cB g) n (Xn 10 rfl rfl (cB g) n (Xn 11 rfl rfl (cB g) n (X 12 rfl n (kR (cB g) rfl) ?_))))))))
        obtain rfl := sj Y
        refine nx kr (l0 _ _ ⟨_, (d.kz St), f4, f5, f6, f7, b5, rfl, f8, f9, g0, g1, eN, L, rfl⟩)
       refine Xg 4 rfl rfl (cB g) n (kH b5) (Xg 5 rfl rfl (cB g) n (kH b5) (Xg 6 rfl rfl (cB g) n (ly aF rfl G) (Xg 7 rfl rfl (cB g) n (lL rfl rfl rfl) (bS Y fun n8 l9 Y => FM 8 rfl kr (.inr ⟨3, false, 56, rfl, rfl, by decide, (cB g)⟩) rfl dc (fun _ _ h => h) n (lO (enc := kx) (i := (wi0 .i64 ((N.length : Int) - 1))) (x0 := n8) aF aC rfl rfl (G.mono (Pl.mono _) J) (lY l9) (lN l9)) (fun bs r1 => uW 9 rfl rfl (cB g) n (fun _ hS => kA rfl (lD hS r1 aN aC)) (uW 10 rfl rfl (cB g) n (fun _ hS => kA rfl (kI hS Mh (kx c) rfl aN aC)) (bS Y fun bv r4 Y => DH 11 rfl rfl (cB g) (Eg d call107 (la.mn (xt n8 c _ _  r4)) (fun az d => ?_)))))))))
       have n := d.has.kz (Kb Sn)
       refine ⟨n, (X 12 rfl n (kQ (cB g) rfl) ?_)⟩
       obtain rfl := sj Y
       refine nx kr (l0 _ _ ⟨_, (d.kz St), f4, f5, f6, f7, b5, rfl, f8, f9, g0, g1, eN, L, rfl⟩)
      rintro E W ⟨a5, d4, a4, a1, j4, ⟨L, eN⟩, J, s, d, f4, f5, f6, f7, b5, f8, f9, g0, g1, d8, a7⟩
      rw [aG] at a7
      refine kF ?_
      obtain rfl := sj a7
      exact ⟨a5, a4, a1, _, J, s, (d.kz St), f4, f5, f6, f7, f8, f9, g0, d8⟩
     rintro y5 E W ⟨i5, e8, c3, m4, k8, ch, d, u5, u6, u7, u8, u9, v0, v1, s0⟩ q5
     exact lu (kF ⟨v1, k, Z, u, i5, y5, e8, c3, _, ⟨rfl, v0⟩, (a2.trans k8), (q.trans ch), (d.kz St), u5, u6, u7, u8, u9, (a3.mono vR k8), s0, (by rw [i9]; exact q5)⟩)
    rintro E W ⟨k, Z, u, M, b1, I, j, j3, ⟨L, eN⟩, a2, q, d, j8, j9, f1, k0, k1, a3, b9, a6⟩
    rw [aG] at a6
    refine kF ?_
    obtain rfl := sj a6
    exact ⟨k, u, M, I, j, _, a2, q, (d.kz (Kb (Kr (Kr (Dr St))))), j8, j9, f1, k0, a3, b9⟩
   rintro ⟨y2, y3⟩ E W ⟨i3, e6, i4, e7, b2, m2, o0, aE, d, u0, u1, u2, u3, r8, r9⟩ q3
   exact kL (Wh u3 (Wa (lh (lu (kF ⟨y7, bT _, i4, y3, e7, i3, y2, e6, b2, _, (e2.trans o0), (A.trans aE), (d.kz (Kb (Sr (Qr Qz) St))), u0, u1, rfl, u2, r9, r8, q3⟩)))))
  refine ob (nN (nN (uf (kF ?_))))
  replace d := d.kz (Db (Kr (Dr (Dr St))))
  refine sg (Wh n3 ?_)
  obtain ⟨ce, d, o1, cp, s5⟩ := ST.Qw vR d l6
  refine bS D fun bx r7 D => ?_
  refine VE (eD d (dp _) call108 (fun hh => pg.mn (KH d5 d3 _ _ hh (s5.mono (vP.mono _ _) (kY.refl _)) r7)) ?_ (L0 := []))
  rintro _ ca cf ae d o2 cS ⟨n9, i8, rfl, t2⟩
  obtain rfl := i8.symm
  refine Wa (lt ?_)
  obtain rfl := sj D
  exact lI (v := n9) rfl rfl ⟨_, _, _, rfl, (d.mL Sn), (((y0.trans e2).trans o1).trans o2), (((ds.trans A).trans cp).trans cS), (ST.lV d (np.mem Sn)), n9, rfl, rfl, t2⟩
theorem LY (a : tH) (j t z K G J : Value) (B : Formula) (N : Value) (r : ((List kw) × Bool)) (w : World) {U : lm} (h0 : pP U [] w) (g : Sl oL 15 U j a.lR.nr) (k : Sl vc 8 U t a.lR.oq) (x : Sl (Pl kC) 9 U z a.lH) (I : Sl (Pl kC) 9 U K a.Shown) (D : Sl (Pl kx) 2 U G a.mA) (H : Sl (Pl kx) 2 U J a.qz) (M : Sl kW 5 U N B.Kids) (hm : ye a B = some r) :
  pg false pg0 31 [(.agg #[(.string a.lR.Name), j, t, (.string a.og), (.int .i64 a.Room), z, K, G, J]), (.agg #[(.int .i64 B.Op), (.int .i64 B.K), (.string B.kw.kE), (.string B.kw.kT), N])] w U [] (fun v L1 μ1 => ∃ (y1 : Value), v = (.tuple #[y1, (.bool (r.2))]) ∧ L1 = [] ∧ Sl (Pl kx) 2 μ1 y1 (r.1)) := by
 have d := ST.wT (dd := false) h0
 unfold ye at hm
 refine cF 23 func31 rfl (kO (kL ?_))
 obtain ⟨A1, c2, rfl⟩ := g.form
 obtain ⟨A3, P, rfl⟩ := k.form
 obtain ⟨A5, R, rfl⟩ := x.form
 obtain ⟨A7, c8, rfl⟩ := I.form
 obtain ⟨A9, a9, rfl⟩ := D.form
 obtain ⟨q, A, rfl⟩ := H.form
 refine VE (lB (v := (.agg (C2 a.lR.Name A1 a.lR.nr.length c2 A3 a.lR.oq.length P a.og a.Room A5 a.lH.length R A7 a.Shown.length c8 A9 a.mA.length a9 q a.qz.length A).toArray)) d rfl (fun f4 f8 d => ?_))
 obtain ⟨s, L, rfl⟩ := M.form
 refine VE (lB (v := (.agg (C1 B.Op B.K B.kw.kE B.kw.kT s B.Kids.length L).toArray)) d rfl (fun f5 f9 d => V (mN rfl) (V (mN rfl) (lh (kF (kO (kL (V (kA rfl (kI d.has (Mt Mh) (C2 a.lR.Name A1 a.lR.nr.length c2 A3 a.lR.oq.length P a.og a.Room A5 a.lH.length R A7 a.Shown.length c8 A9 a.mA.length a9 q a.qz.length A) rfl ke gb)) (bS hm fun b6 d6 hm => VE (pF d call45 (lK.mn (LP a (.slice A1 a.lR.nr.length c2) (.slice A3 a.lR.oq.length P) (.slice A5 a.lH.length R) (.slice A7 a.Shown.length c8) (.slice A9 a.mA.length a9) (.slice q a.qz.length A) _ _ (g.mono AE.mono d.kJ) (k.mono I1.mono d.kJ) (x.mono (Pl.mono _) d.kJ) (I.mono (Pl.mono _) d.kJ) (D.mono (Pl.mono _) d.kJ) (H.mono (Pl.mono _) d.kJ) d6)) (fun f6 b7 g1 e1 d Q m d4 => V (mN rfl) (lh (kF ?_)))))))))))))
 replace d := d.kz (Kr (Kb (Db St)))
 refine kO (kO (kL (V (kA rfl (kI d.has (Ma Mh) (C1 B.Op B.K B.kw.kE B.kw.kT s B.Kids.length L) rfl cx aZ)) (bS hm fun O d7 hm => ?_))))
 have ad := d.size
 refine VE (PK d (dp _) call46 (fun hH hN aa ab => (LB B (.slice s B.Kids.length L) _ _ ⟨hH, hN, aa⟩ (M.mono lW.mono Q) d7)) (fun f7 g0 e5 f3 d a5 n d3 => ?_) (L0 := []))
 obtain ⟨e4, a3, rfl, a4⟩ := d3
 replace a3 := a3.symm; subst a3
 replace d := d.perm Tn
 refine V (ly cz rfl a4) (V (kH rfl) (lh (kF ?_)))
 replace d := d.kz (Kr (Db St))
 refine lp (fun i E W => ∃  (Y : List (Nat × Obj)), (E 14 = .int .i64 (i : Nat) ∧ E 13 = .int .i64 (O.length : Nat)) ∧ ST false (keys []) w W e5 (e1 ++ Y) ∧ E 6 = b7 ∧ E 12 = e4 ∧ rE b6 (O.drop i) = some r) O.length a4.len ⟨_, ⟨rfl, rfl⟩, (d.kz St), rfl, rfl, hm⟩ (by decide) (by decide) (by decide) (fun _ _ _ h => by obtain ⟨_, a1, _⟩ := h; exact a1) ?_ ?_
 ·rintro e2 E W d5 ⟨Y, ⟨eI, eN⟩, d, Z, a2, c⟩
  obtain ⟨b9, f1, d9, d8, e0⟩ := lc d5
  rw [d9] at c
  rw [rE] at c
  refine mK (kO (kL (VQ (DB (enc := kx) (k2 := 2) (i := (e2 : Int)) (x0 := b9) cz dZ a2 eI a4 (aD _) d8) (fun e9 ⟨T, b4, a6⟩ => V (kA rfl (ng d.has (y := T) b4 dO)) (V (mN rfl) (lh (kF (kO (kL (V (kH rfl) (V (kH Z) (bS c fun f0 b5 c => VE (Eg d call81 (la.mn (Fu T b9 b7 b6 _ _ (a6.mono (Pl.mono _) d.kJ) (d4.sl mr (fun b o hq => d.at_ (Ml hq))) b5)) (fun e7 d => lh ?_))))))))))))))
  refine kF (CI c rfl (fun b3 c => ?_) (fun b3 c => ?_))
  ·refine kO (kL (V (kH rfl) (V (mN rfl) (V (mN rfl) (lh (kF ?_))))))
   replace d := d.kz (Dr St)
   refine lj (me (lb (me (lb ?_))))
   have hx := sj c; subst hx
   exact qF (v := T) (u := (.bool true)) rfl rfl rfl ⟨_, _, _, rfl, (d.mL Sn), (Q.trans a5), (m.trans n), (ST.lV d (np.mem Sn)), T, rfl, rfl, a6⟩
  exact lz (lu (kF ⟨eI, _, ⟨rfl, eN⟩, (d.kz St), Z, a2, (by rw [e0]; exact c)⟩))
 rintro E W ⟨Y, ⟨eI, eN⟩, d, Z, a2, c⟩
 rw [aG] at c
 rw [rE] at c
 refine kF ?_
 replace d := d.kz (Dr St)
 refine kO (kL (V (mN rfl) (V (mN rfl) (lh (kF (lj ?_))))))
 have hx := sj c; subst hx
 exact qF (v := (.slice none 0 0)) (u := (.bool false)) rfl rfl rfl ⟨_, _, _, rfl, (d.mL Sn), (Q.trans a5), (m.trans n), (ST.lV d (np.mem Sn)), (.slice none 0 0), rfl, rfl, (Sl.nil _ _ _)⟩
theorem MI (t : Value) (y : List kw) (u : Value) (K : List kw) (r : Bool) (w : World) (c : Sl (Pl kx) 2 (hp w) t y) (z : Sl (Pl kx) 2 (hp w) u K) (hm : yV y K = some r) :
  la true pg0 15 [t, u] w (.bool r) := by
 refine cG 26 func15 rfl (fun m => sg (Wa (lS (Wm (V (ly aF rfl c) (Wm (V (ly aF rfl z) (Wi rfl (lh ?_)))))))))
 refine kF (CI hm rfl (fun U hm => ?_) (fun U hm => ?_))
 ·refine sg (Wa (lt (lb ?_)))
  obtain rfl := sj hm
  exact rP m
 refine kS (Wm (V (ly aF rfl c) (Wm (ln (lp (fun i E W => ∃ g, (E 13 = .int .i64 (i : Nat) ∧ E 12 = .int .i64 (y.length : Nat)) ∧ ST true ll w W (hp w) g ∧ E 0 = t ∧ E 1 = u ∧ wE K (y.drop i) i = some r) y.length c.len ⟨_, ⟨rfl, rfl⟩, (m.kz St), rfl, rfl, hm⟩ dc dc dc (fun _ _ _ h => by obtain ⟨_, o, _⟩ := h; exact o) ?_ ?_)))))
 ·rintro I E W M ⟨g, ⟨n, s⟩, m, j, k, a⟩
  obtain ⟨J, a3, Q, N, T⟩ := lc M
  rw [Q] at a
  refine bg (Wh n (Wa (ln (kO ?_))))
  replace m := m.drew
  have d := m.has.kz Sn
  refine lG d lq (X 0 rfl d (kH j) (X 1 rfl d (kH rfl) (XQ 2 rfl d (lO (enc := kx) (i := (I : Int)) (x0 := J) aF aC rfl rfl c (aD _) N) (fun Y G => XH 3 rfl d (fun _ q => kA rfl (lD q G aN aC)) (X 4 rfl d (kH k) (X 5 rfl d (kH rfl) (bS a fun B x a => XQ 6 rfl d (lO (enc := kx) (i := (I : Int)) (x0 := B) aF aC rfl rfl z (lY x) (lN x)) (fun Z H => XH 7 rfl d (fun _ q => kA rfl (lD q H aN aC)) (X 8 rfl d (EB rfl rfl (mY cQ) (AI (nJ _ J B))) (lT kr (kF (CI a rfl (fun D a => ?_) (fun D a => ?_)))))))))))))
  ·refine sg (Wa (lt (me (lb (me (lb ?_))))))
   obtain rfl := sj a
   exact rP m
  exact lz (lu (kF ⟨n, _, ⟨rfl, s⟩, (m.kz St), j, k, (by rw [T]; exact a)⟩))
 rintro E W ⟨g, ⟨n, s⟩, m, j, k, a⟩
 rw [aG] at a
 exact kF (sg (Wa (lt (rQ a m))))
theorem OA (k : Value) (u : List ky) (g : ky) (r : Bool) (w : World) (j : Sl (Pl kC) 9 (hp w) k u) (hm : BS u g = some r) :
  la true pg0 146 [k, (.agg (kC g).toArray)] w (.bool r) := by
 refine cG 17 func146 rfl (fun d => sg (VE (lB d rfl (fun Y J d => Wa (lS (Wm (V (ly aX rfl j) (Wm (ln ?_)))))))))
 refine lp (fun i E W => ∃ t, (E 9 = .int .i64 (i : Nat) ∧ E 8 = .int .i64 (u.length : Nat)) ∧ ST true ll w W (hp w) ((J, Ol (kC g) 108) :: t) ∧ E 3 = (.pointer (some ⟨J, 0, none⟩)) ∧ E 7 = k ∧ zk g (u.drop i) = some r) u.length j.len ⟨_, ⟨rfl, rfl⟩, (d.kz St), rfl, rfl, hm⟩ dc dc dc (fun _ _ _ h => by obtain ⟨_, n, _⟩ := h; exact n) ?_ ?_
 ·rintro K E W B ⟨t, ⟨m, o⟩, d, x, y, a⟩
  obtain ⟨c, M, H, G, I⟩ := lc B
  rw [H] at a
  refine bg (VQ (lO (enc := kC) (i := (K : Int)) (x0 := c) aX aI y m j (aD _) G) (fun U D => V (kA rfl (lD d.has D bG aI)) (VE (lA d cg (fun N T d => VO (lf (.agg (kC c).toArray) ((kC c).toArray) d rfl rfl aI (nI c) nb rfl (fun Q d => lr (VA d Mh (kC c) bG aI (V (kA x (kI d.has (Mt Mh) (kC g) rfl bG aI)) (V (tT rfl rfl (mY hZ) (pK (BI _ c g))) (lh ?_)))))))))))
  refine kF ?_
  replace d := d.kz (Db St)
  refine CI a rfl (fun z a => ?_) (fun z a => ?_)
  ·refine sg (Wa (ln ?_))
   replace d := d.kz (Db St)
   refine lj (me (lb (me (lb ?_))))
   obtain rfl := sj a
   exact rP d
  exact lz (lu (kF ⟨m, _, ⟨rfl, o⟩, (d.kz St), x, y, (by rw [I]; exact a)⟩))
 rintro E W ⟨t, ⟨m, o⟩, d, x, y, a⟩
 rw [aG] at a
 refine kF ?_
 replace d := d.kz (Db St)
 exact sg (Wa (lt (rQ a d)))
theorem Cj (z : Value) (D : List kV) (r : List kB) (w : World) (y : Sl (Pl kX) 12 (hp w) z D) (hm : wA D = some r) :
  lK true pg0 83 [z] w 38 kK 3 r := by
 refine sP 19 func83 rfl (fun d => sg (Wa (lr (Wa (lS (Wm ?_))))))
 refine V (ly aW rfl y) (Wm (ln (lp (fun i E W => ∃ j B g t, (E 8 = .int .i64 (i : Nat) ∧ E 7 = .int .i64 (D.length : Nat)) ∧ ST true ll w W (hp w) (g ++ t) ∧ E 3 = j ∧ E 6 = z ∧ kU 38 kK 3 j B g ∧ tR (D.drop i) B = some r) D.length y.len ⟨(.slice none 0 0), ([]), [], _, ⟨rfl, rfl⟩, (d.kz St), rfl, rfl, (kU.nil _ _ _), hm⟩ dc dc dc (fun _ _ _ h => by obtain ⟨_, _, _, _, n, _⟩ := h; exact n) ?_ ?_)))
 ·rintro Z E W M ⟨j, B, g, t, ⟨m, o⟩, d, u, x, k, a⟩
  obtain ⟨c, L, Q, N, T⟩ := lc M
  rw [Q] at a
  refine bg (VQ (lO (enc := kX) (i := (Z : Int)) (x0 := c) aW bX x m y (aD _) N) (fun A I => V (kA rfl (lD d.has I ey bX)) (VE (lA d dD (fun s a5 d => VO (lf (.agg (kX c).toArray) ((kX c).toArray) d rfl rfl bX (tE c) nb rfl (fun a2 d => ln (kL (Wh u (Wf sM (VA d Mh (kK c.kB) dl bO (VE (lg (cs := (kK c.kB).toArray) d (mI rfl) (mD bJ bO cN) (fun a3 K d => ?_))))))))))))))
  replace d := d.perm (Nr (Qb (Qb Qz)) Nz)
  refine bS a fun U H a => VE (my (enc := kK) (v := j) (vs := (.slice (some ⟨K, 0, none⟩) 1 1)) (R := g) d nf dc uw bJ oJ.1 oJ.2.1 rfl oJ.2.2.1 oJ.2.2.2 rfl rfl k (Sl.lit (enc := kK) (l := [c.kB]) nf rfl nb rfl (d.at_ (Ma Mh))) H (fun a4 Y J d G => Wa (lh (lu (kF ?_)))))
  replace d := d.kz (Kr (Db (Db St)))
  exact ⟨m, Y, U, J, _, ⟨rfl, o⟩, (d.kz St), rfl, x, G, (by rw [T]; exact a)⟩
 rintro E W ⟨j, B, g, t, ⟨m, o⟩, d, u, x, k, a⟩
 rw [aG] at a
 refine kF (sg (Wh u (Wa (lt ?_))))
 obtain rfl := sj a
 exact lI (v := j) rfl rfl ⟨_, g, rfl, d.mO (fun p q => (Ml q)) k.nd, k⟩
theorem Me (z : Value) (D : List kB) (r : List ByteArray) (w : World) (y : Sl (Pl kK) 3 (hp w) z D) (hm : Cy D = some r) :
  lK true pg0 199 [z] w 9 ni 1 r := by
 refine sP 19 func199 rfl (fun d => sg (Wa (lr (Wa (lS (Wm ?_))))))
 refine V (ly bJ rfl y) (Wm (ln (lp (fun i E W => ∃ j B g t, (E 8 = .int .i64 (i : Nat) ∧ E 7 = .int .i64 (D.length : Nat)) ∧ ST true ll w W (hp w) (g ++ t) ∧ E 3 = j ∧ E 6 = z ∧ kU 9 ni 1 j B g ∧ tz (D.drop i) B = some r) D.length y.len ⟨(.slice none 0 0), ([]), [], _, ⟨rfl, rfl⟩, (d.kz St), rfl, rfl, (kU.nil _ _ _), hm⟩ dc dc dc (fun _ _ _ h => by obtain ⟨_, _, _, _, n, _⟩ := h; exact n) ?_ ?_)))
 ·rintro Z E W M ⟨j, B, g, t, ⟨m, o⟩, d, u, x, k, a⟩
  obtain ⟨c, L, Q, N, T⟩ := lc M
  rw [Q] at a
  refine bg (VQ (lO (enc := kK) (i := (Z : Int)) (x0 := c) bJ bO x m y (aD _) N) (fun A I => V (kA rfl (lD d.has I dl bO)) (VE (lA d cN (fun s a5 d => VO (lf (.agg (kK c).toArray) ((kK c).toArray) d rfl rfl bO (uw c) nb rfl (fun a2 d => ln (kL (Wh u (Wf rp (VB d Mh rfl rfl aY (VE (lg (cs := [(.string c.lx)].toArray) d (mI rfl) (mD bE dh iz) (fun a3 K d => ?_))))))))))))))
  replace d := d.perm (Nr (Qb (Qb Qz)) Nz)
  refine bS a fun U H a => VE (my (enc := ni) (v := j) (vs := (.slice (some ⟨K, 0, none⟩) 1 1)) (R := g) d (fun _ => rfl) dc DF bE uL.1 uL.2.1 rfl uL.2.2.1 uL.2.2.2 rfl rfl k (Sl.lit (enc := ni) (l := [c.lx]) (fun _ => rfl) rfl nb rfl (d.at_ (Ma Mh))) H (fun a4 Y J d G => Wa (lh (lu (kF ?_)))))
  replace d := d.kz (Kr (Db (Db St)))
  exact ⟨m, Y, U, J, _, ⟨rfl, o⟩, (d.kz St), rfl, x, G, (by rw [T]; exact a)⟩
 rintro E W ⟨j, B, g, t, ⟨m, o⟩, d, u, x, k, a⟩
 rw [aG] at a
 refine kF (sg (Wh u (Wa (lt ?_))))
 obtain rfl := sj a
 exact lI (v := j) rfl rfl ⟨_, g, rfl, d.mO (fun p q => (Ml q)) k.nd, k⟩
theorem Jp (i : kV) (t : Value) (N : List kB) (r : Bool) (w : World) (I : Sl (Pl kK) 3 (hp w) t N) (hm : yy i N = some r) :
  la true pg0 147 [(.agg (kX i).toArray), t] w (.bool r) := by
 refine cG 28 func147 rfl (fun h => sg (VE (lB h rfl (fun W2 n h => Wa (ln (kO ?_))))))
 replace h := h.drew
 have d := h.has.kz (Kb Sn)
 refine lG d lq (X 0 rfl d (kD zl rfl) (XH 1 rfl d (fun _ m => kA rfl (kI m Mh (kC i.ky) rfl bG aI)) (bS hm fun b5 Y hm => XE 2 rfl (Eg h call68 (Cw i.ky _ _  Y) (fun O h => ?_)))))
 have d := h.has.kz (Kb Sn)
 refine ⟨d, (X 3 rfl d (kH rfl) (PJ hm (fun M E W => ∃ z, ST true ll w W (hp w) ((n, Ol (kX i) 140) :: z) ∧ E 1 = t ∧ E 2 = (.pointer (some ⟨n, 0, none⟩)) ∧ E 4 = (.bool false) ∧ E 16 = (.bool M)) (bm 24 4095) 12 ?_ (fun M k x => ?_)))⟩
 ·rintro b7 E W ⟨z, h, D, G, H, a4⟩ T
  have d := h.has.kz (Kb Sn)
  refine X 12 rfl d (kH a4) (PJ T (fun K E W => ∃ y B, kY (hp w) y ∧ ST true ll w W y ((n, Ol (kX i) 140) :: B) ∧ E 4 = (.bool false) ∧ E 27 = (.bool K)) (bm 24 8388607) 1 ?_ (fun K g u => ?_))
  ·rintro b9 E W ⟨y, B, J, h, b4, a5⟩ U
   have d := h.has.rl J (Kb Sn)
   refine X 23 rfl d (mN a5) (lT kr (kF ?_))
   exact lj (rQ U h)
  refine bC g (fun a g => ?_) (fun a g => ?_)
  ·refine Xg 13 rfl rfl (cB a) d (kH D) (Xg 14 rfl rfl (cB a) d (kD zl G) (uW 15 rfl rfl (cB a) d (fun _ m => kA rfl (kI m Mh (kC i.ky) rfl bG aI)) (Xg 16 rfl rfl (cB a) d (kH D) (Xg 18 rfl rfl (cB a) d (kD sM G) (Xg 19 rfl rfl (cB a) d (kD rp rfl) (uW 20 rfl rfl (cB a) d (fun _ m => kA rfl (kM m Mh rfl aY)) (bS g fun s Z g => DH 17 rfl rfl (cB a) (pF h call199 (Me t N _ _ (I.mono (Pl.mono _) h.kJ) Z) (fun P v A a9 h j q Q => ?_)))))))))
   have d := h.has.rl j (Dr (Kb Sn))
   refine ⟨d, (bS g fun b6 a2 g => DH 21 rfl rfl (cB a) (Eg h call65 (Hv t N i.ky v s i.kB.lx _ _ (I.mono (Pl.mono _) (j.trans h.kJ)) (Q.sl (fun _ => rfl) (fun b o L => h.at_ (Ml L))) a2) (fun R h => ?_)))⟩
   have d := h.has.rl j (Dr (Kb Sn))
   refine ⟨d, (X 22 rfl d (kR (cB a) rfl) ?_)⟩
   obtain rfl := sj g
   refine nx kr (u _ _ ⟨A, _, j, (h.kz (Dr St)), H, rfl⟩)
  refine Xn 13 rfl rfl (cB a) d (Xn 14 rfl rfl (cB a) d (Xn 15 rfl rfl (cB a) d (Xn 16 rfl rfl (cB a) d (Xn 17 rfl rfl (cB a) d (Xn 18 rfl rfl (cB a) d (Xn 19 rfl rfl (cB a) d (Xn 20 rfl rfl (cB a) d (Xn 21 rfl rfl (cB a) d (X 22 rfl d (kQ (cB a) rfl) ?_)))))))))
  obtain rfl := sj g
  refine nx kr (u _ _ ⟨(hp w), _, (kY.refl _), (h.kz St), H, rfl⟩)
 refine bC k (fun c k => ?_) (fun c k => ?_)
 ·refine Xg 4 rfl rfl (cB c) d (kD sM rfl) (Xg 5 rfl rfl (cB c) d (kD wM rfl) (uW 6 rfl rfl (cB c) d (fun _ m => kA rfl (kI m Mh (kx i.kB.kw) rfl aN aC)) (Xg 7 rfl rfl (cB c) d (kD zl rfl) (Xg 8 rfl rfl (cB c) d (kD oe rfl) (uW 9 rfl rfl (cB c) d (fun _ m => kA rfl (kI m Mh (kx i.ky.Head) rfl aN aC)) (Xg 10 rfl rfl (cB c) d (tT rfl rfl (mY cQ) (pK (nJ _ i.kB.kw i.ky.Head))) (X 11 rfl d (kR (cB c) rfl) ?_)))))))
  obtain rfl := sj k
  refine nx kr (x _ _ ⟨_, (h.kz St), rfl, rfl, rfl, rfl⟩)
 refine Xn 4 rfl rfl (cB c) d (Xn 5 rfl rfl (cB c) d (Xn 6 rfl rfl (cB c) d (Xn 7 rfl rfl (cB c) d (Xn 8 rfl rfl (cB c) d (Xn 9 rfl rfl (cB c) d (Xn 10 rfl rfl (cB c) d (X 11 rfl d (kQ (cB c) rfl) ?_)))))))
 obtain rfl := sj k
 refine nx kr (x _ _ ⟨_, (h.kz St), rfl, rfl, rfl, rfl⟩)
theorem LN (z : Value) (H : List kV) (K : Value) (s : List ky) (N : kB) (r : (Int × Int)) (w : World) (y : Sl (Pl kX) 12 (hp w) z H) (d7 : Sl (Pl kC) 9 (hp w) K s) (hm : Cp H s N = some r) :
  la true pg0 82 [z, K, (.agg (kK N).toArray)] w (.tuple #[(.int .i64 r.1), (.int .i64 r.2)]) := by
 let a0 : Value := (.int .i64 (H.length : Int))
 refine cG 45 func82 rfl (fun d => sg (VE (lB d rfl (fun W2 A d => Wa (Wa (lS (Wm (V (ly aW rfl y) (Wm (lh ?_))))))))))
 refine kF (lp (fun i E W => ∃ G a3, (E 12 = .int .i64 (i : Nat) ∧ E 11 = .int .i64 (H.length : Nat)) ∧ kY (hp w) G ∧ ST true ll w W G ((A, Ol (kK N) 38) :: a3) ∧ E 0 = z ∧ E 1 = K ∧ E 5 = (.pointer (some ⟨A, 0, none⟩)) ∧ E 10 = z ∧ tL s H N (H.drop i) i = some r) H.length y.len ⟨(hp w), _, ⟨rfl, rfl⟩, (kY.refl _), (d.kz St), rfl, rfl, rfl, rfl, hm⟩ dc dc dc (fun _ _ _ h => by obtain ⟨_, _, O, _⟩ := h; exact O) ?_ ?_)
 ·rintro D E W b7 ⟨G, a3, ⟨q, P⟩, k, d, x, Q, I, T, c⟩
  let a2 : Value := (.int .i64 (D : Int))
  obtain ⟨t, e9, c4, c3, c5⟩ := lc b7
  rw [c4] at c
  refine bg (Wh q (VQ (lO (enc := kX) (i := (D : Int)) (x0 := t) aW bX T q (y.mono (Pl.mono _) k) (aD _) c3) (fun f5 b9 => V (kA rfl (lD d.has b9 ey bX)) (VE (lA d dD (fun f1 c8 d => Wa (VO (lf (.agg (kX t).toArray) ((kX t).toArray) d rfl rfl bX (tE t) nb rfl (fun f2 d => ln (kO ?_))))))))))
  replace d := d.drew
  have m := d.has.kz (Kb Sn)
  refine lG m lq (X 0 rfl m (kH Q) (X 1 rfl m (kD zl rfl) (XH 2 rfl m (fun _ n => kA rfl (kI n Mh (kC t.ky) rfl bG aI)) (bS c fun f6 c0 c => XE 3 rfl (Eg d call146 (OA K s t.ky _ _ (d7.mono (Pl.mono _) (k.trans d.kJ)) c0) (fun f3 d => ?_))))))
  have m := d.has.kz (Kb Sn)
  refine ⟨m, (X 4 rfl m (mQ rfl) (X 5 rfl m (kH rfl) (PJ c (fun b3 E W => ∃ U a5, kY G U ∧ ST true ll w W U ((c8, Ol (kX t) 140) :: ((A, Ol (kK N) 38) :: a5)) ∧ E 0 = z ∧ E 1 = K ∧ E 5 = (.pointer (some ⟨A, 0, none⟩)) ∧ E 8 = a2 ∧ E 10 = z ∧ E 11 = a0 ∧ E 12 = a2 ∧ E 30 = (.bool b3)) (bm 14 16383) 0 ?_ (fun b3 g Z => ?_))))⟩
  ·rintro f7 E W ⟨U, a5, Y, d, c9, d0, d1, d2, d3, d4, d5, d6⟩ B
   refine lT kr (kF ?_)
   replace d := d.kz (Db St)
   refine CI B d6 (fun b6 B => ?_) (fun b6 B => ?_)
   ·refine sg (Wh d2 (Wa (Wa (ln ?_))))
    replace d := d.kz (Db St)
    refine lj (me (lb (me (lb ?_))))
    obtain rfl := sj B
    exact qF (v := a2) (u := (.int .i64 50)) rfl rfl rfl ⟨rfl, d.ex⟩
   exact lz (lu (kF ⟨d5, U, _, ⟨rfl, d4⟩, (k.trans Y), (d.kz St), c9, d0, d1, d3, (by rw [c5]; exact B)⟩))
  refine bC g (fun a g => ?_) (fun a g => ?_)
  ·refine Xn 6 rfl rfl (cB a) m (Xn 7 rfl rfl (cB a) m (Xn 8 rfl rfl (cB a) m (Xn 9 rfl rfl (cB a) m (Xn 10 rfl rfl (cB a) m (Xn 11 rfl rfl (cB a) m (Xn 12 rfl rfl (cB a) m (X 13 rfl m (kR (cB a) rfl) ?_)))))))
   obtain rfl := sj g
   refine nx kr (Z _ _ ⟨G, _, (kY.refl _), (d.kz St), x, Q, I, rfl, T, P, q, rfl⟩)
  refine uW 6 rfl rfl (cB a) m (fun _ n => kA rfl (kI n Mh (kX t) rfl ey bX)) (Xg 7 rfl rfl (cB a) m (kH x) (Xg 8 rfl rfl (cB a) m (kH rfl) (bS g fun _ a4 g => FM 9 rfl kr (.inr ⟨5, false, 22, rfl, rfl, by decide, (cB a)⟩) rfl dc (fun _ _ h => h) m (JM (j := (D : Int)) aW bX rfl rfl (y.mono (Pl.mono _) k) (qD a4) (qw a4)) (fun d9 c2 => bS g fun d8 c1 g => DH 10 rfl rfl (cB a) (pF d call83 (Cj d9 (H.take (Int.toNat (D : Int))) _ _ (c2.1.mono (Pl.mono _) d.kJ) c1) (fun f4 e0 e1 e2 d J R a6 => ?_))))))
  have m := d.has.rl J (Dr (Kb Sn))
  refine ⟨m, (bS g fun e7 a9 g => DH 11 rfl rfl (cB a) (Eg d call147 (Jp t e0 d8 _ _ (a6.sl nf (fun b o hq => d.at_ (Ml hq))) a9) (fun e4 d => ?_)))⟩
  have m := d.has.rl J (Dr (Kb Sn))
  refine ⟨m, (Xg 12 rfl rfl (cB a) m (mQ rfl) (X 13 rfl m (kQ (cB a) rfl) ?_))⟩
  obtain rfl := sj g
  refine nx kr (Z _ _ ⟨e1, _, J, (d.kz (Dr St)), x, Q, I, rfl, T, P, q, rfl⟩)
 rintro E W ⟨G, a3, ⟨q, P⟩, k, d, x, Q, I, T, c⟩
 rw [aG] at c
 refine kF (kO (kO ?_))
 replace d := d.drew
 have m := d.has.kz (Kb Sn)
 refine lG m lq (X 0 rfl m (kH x) (X 2 rfl m (kD wM I) (XH 3 rfl m (fun _ n => kA rfl (kI n Mh (kx N.kw) rfl aN aC)) (X 4 rfl m (kD rp I) (XH 5 rfl m (fun _ n => kA rfl (kM n Mh rfl aY)) (bS c fun c6 b0 c => XE 1 rfl (pF d call83 (Cj z H _ _ (y.mono (Pl.mono _) (k.trans d.kJ)) b0) (fun e5 c7 f0 e3 d M L a7 => ?_))))))))
 have m := d.has.rl M (Dr (Kb Sn))
 refine ⟨m, (bS c fun e8 b2 c => XE 6 rfl (Eg d call63 (wC c7 c6 N.kw N.lx _ _ (a7.sl nf (fun b o hq => d.at_ (Ml hq))) b2) (fun e6 d => ?_)))⟩
 have m := d.has.rl M (Dr (Kb Sn))
 refine ⟨m, (X 7 rfl m (mQ rfl) (lT kr (kF ?_)))⟩
 replace d := d.kz (Dr (Db St))
 refine CI c rfl (fun a8 c => ?_) (fun a8 c => ?_)
 ·refine sg (Wh x (V (ly aW rfl y) (Wa (Wa (lt (lb ?_))))))
  obtain rfl := sj c
  exact qF (v := a0) (u := (.int .i64 42)) rfl rfl rfl ⟨rfl, d.ex⟩
 refine kg (Wh x (V (ly aW rfl y) (Wa (Wa (lt ?_)))))
 obtain rfl := sj c
 exact qF (v := a0) (u := (.int .i64 0)) rfl rfl rfl ⟨rfl, d.ex⟩
theorem LZ (g : lZ) (D B J : Value) (q : List ky) (k : Formula) (H : Value) (Y : ByteArray) (r : Int) (w : World) (c : Sl (Pl kx) 2 (hp w) D g.lP) (u : Sl (Pl kX) 12 (hp w) B g.lX) (d0 : Sl (Pl kC) 9 (hp w) J q) (y : Sl kW 5 (hp w) H k.Kids) (hm : Ad g q k Y = some r) :
  la false pg0 32 [(.agg #[(.int .i64 g.State), (.int .i64 g.oE), D, B]), J, (.agg #[(.int .i64 k.Op), (.int .i64 k.K), (.string k.kw.kE), (.string k.kw.kT), H]), (.string Y)] w (.int .i64 r) := by
 refine cG 51 func32 rfl (fun d => sg ?_)
 obtain ⟨Z, c2, rfl⟩ := c.form
 obtain ⟨A3, s, rfl⟩ := u.form
 let a0 := (C3 g.State g.oE Z g.lP.length c2 A3 g.lX.length s)
 refine VE (lB d rfl (fun W6 n d => ?_))
 obtain ⟨A7, A, rfl⟩ := y.form
 let a2 := (C1 k.Op k.K k.kw.kE k.kw.kT A7 k.Kids.length A)
 refine VE (lB d rfl (fun f4 b9 d => Wa (lS (Wf BU (VB d (Mt Mh) rfl rfl cC (Wi rfl (ln (CI hm rfl (fun d1 hm => ?_) (fun d1 hm => ?_)))))))))
 ·refine sg (Wa (ln ?_))
  replace d := d.kz (Db (Db St))
  refine lj (lb ?_)
  obtain rfl := sj hm
  exact rP d
 refine kS (VA d Mh a2 cx aZ (bS hm fun f7 d4 hm => VE (Eg d call29 (Gy k (.slice A7 k.Kids.length A) _ _ (y.mono lW.mono d.kJ) d4) (fun f5 d => V (mQ rfl) (Wm (LJ hm (fun b0 E W => ∃ c7, ST false ll w W (hp w) ((n, Ol a0 64) :: c7) ∧ E 1 = J ∧ E 3 = (.string Y) ∧ E 4 = (.pointer (some ⟨n, 0, none⟩)) ∧ E 25 = (.bool b0)) 6 ?_ (fun b0 x M => ?_)))))))
 ·rintro f9 E W ⟨c7, d, e0, e1, a9, e2⟩ t
  refine ln (CI t e2 (fun d2 t => ?_) (fun d2 t => ?_))
  ·refine sg (Wa (ln ?_))
   replace d := d.kz (Db St)
   refine lj (lb ?_)
   obtain rfl := sj t
   exact rP d
  refine kS (V (kD wN a9) (VB d Mh rfl rfl fR (Wh e0 (V (nc (v := (.agg (kK K7).toArray)) um (mB cN cq (Dj _ cq) kr)) (bS t fun f8 d5 t => VE (Eg d call82 (la.mn (LN (.slice A3 g.lX.length s) g.lX J q K7 _ _ (u.mono (Pl.mono _) d.kJ) (d0.mono (Pl.mono _) d.kJ) d5)) (fun f6 d => Wm (Wx rfl (Wx rfl (Wa ?_))))))))))
  refine Wa (lr (Wm (Wi rfl (ln (CI t rfl (fun d3 t => ?_) (fun d3 t => ?_))))))
  ·refine sg (Wa (ln ?_))
   replace d := d.kz (Db St)
   refine lj (lb ?_)
   obtain rfl := sj t
   exact rP d
  refine kS (V (kD sX a9) (VB d Mh rfl rfl dO (V (ly aF rfl c) (Wm (ln (lp (fun i E W => ∃ K N, (E 39 = .int .i64 (i : Nat) ∧ E 38 = .int .i64 (g.lP.length : Nat)) ∧ kY (hp w) K ∧ ST false ll w W K ((n, Ol a0 64) :: N) ∧ E 3 = (.string Y) ∧ E 4 = (.pointer (some ⟨n, 0, none⟩)) ∧ E 37 = (.slice Z g.lP.length c2) ∧ vL g Y (g.lP.drop i) = some r) g.lP.length c.len ⟨(hp w), _, ⟨rfl, rfl⟩, (kY.refl _), (d.kz St), e1, a9, rfl, t⟩ dc dc dc (fun _ _ _ h => by obtain ⟨_, _, O, _⟩ := h; exact O) ?_ ?_))))))
  ·rintro d6 E W b4 ⟨K, N, ⟨L, eN⟩, z, d, Q, T, U, a⟩
   obtain ⟨G, e3, c5, c3, c6⟩ := lc b4
   rw [c5] at a
   refine bg (VQ (lO (enc := kx) (i := (d6 : Int)) (x0 := G) aF aC U L (c.mono (Pl.mono _) z) (aD _) c3) (fun f1 b6 => V (kA rfl (lD d.has b6 aN aC)) (VE (lA d bP (fun e5 f0 d => VO (lf (.agg (kx G).toArray) ((kx G).toArray) d rfl rfl aC (mE G) nb rfl (fun e6 d => ln (kO ?_))))))))
   replace d := d.drew
   have m := d.has.kz (Kb (Kb Sn))
   refine lG m lq (X 0 rfl m (kD wN T) (XH 1 rfl m (fun _ P => kA rfl (kM P (Mt Mh) rfl fR)) (XH 3 rfl m (fun _ P => kA rfl (kI P Mh (kx G) rfl aN aC)) (X 4 rfl m (kH Q) (bS a fun d7 b7 a => XE 2 rfl (pF d call83 (lK.mn (Cj (.slice A3 g.lX.length s) g.lX _ _ (u.mono (Pl.mono _) (z.trans d.kJ)) b7)) (fun e7 d8 d9 e4 d I R b2 => ?_)))))))
   have m := d.has.rl I (Dr (Kb (Kb Sn)))
   refine ⟨m, (bS a fun f2 c0 a => XE 5 rfl (Eg d call63 (la.mn (wC d8 d7 G Y _ _ (b2.sl nf (fun b o hq => d.at_ (Ml hq))) c0)) (fun e8 d => ?_)))⟩
   have m := d.has.rl I (Dr (Kb (Kb Sn)))
   refine ⟨m, (X 6 rfl m (mQ rfl) (lT kr (kF ?_)))⟩
   replace d := d.kz (Dr (Db St))
   refine CI a rfl (fun b3 a => ?_) (fun b3 a => ?_)
   ·refine sg (Wa (ln ?_))
    replace d := d.kz (Db St)
    refine lj (me (lb (me (lb ?_))))
    obtain rfl := sj a
    exact rP d
   exact lz (lu (kF ⟨L, d9, _, ⟨rfl, eN⟩, (z.trans I), (d.kz St), Q, T, U, (by rw [c6]; exact a)⟩))
  rintro E W ⟨K, N, ⟨L, eN⟩, z, d, Q, T, U, a⟩
  rw [aG] at a
  refine kF ?_
  replace d := d.kz (Db St)
  exact sg (Wa (lt (rQ a d)))
 refine bC x (fun j x => ?_) (fun j x => ?_)
 ·refine un j (un j (un j (un j (un j (V (kR (cB j) rfl) ?_)))))
  obtain rfl := sj x
  exact M _ _ ⟨_, (d.kz (Db St)), rfl, rfl, rfl, rfl⟩
 refine ug j (kA rfl (kI d.has Mh a2 rfl cx aZ)) (ug j (kD sX rfl) (ug j (kA rfl (kM d.has (Mt Mh) rfl dO)) (bS x fun f3 c1 x => pX j (Eg d call44 ((DM lC) k (.slice A7 k.Kids.length A) (.slice Z g.lP.length c2) g.lP _ _ (y.mono lW.mono d.kJ) (c.mono (Pl.mono _) d.kJ) c1) (fun e9 d => ug j (mQ rfl) (V (kQ (cB j) rfl) ?_))))))
 obtain rfl := sj x
 exact M _ _ ⟨_, (d.kz (Db St)), rfl, rfl, rfl, rfl⟩
set_option maxHeartbeats 4000000 in
theorem Gc (a : yR) (I J Z b3 b0 b2 b9 : Value) (r : Bool) (w : World) (k : Sl oL 15 (hp w) I a.S.lR.nr) (u : Sl vc 8 (hp w) J a.S.lR.oq) (j : Sl (Pl kC) 9 (hp w) Z a.S.lH) (G : Sl (Pl kC) 9 (hp w) b3 a.S.Shown) (B : Sl (Pl kx) 2 (hp w) b0 a.S.mA) (D : Sl (Pl kx) 2 (hp w) b2 a.S.qz) (t : Sl kW 5 (hp w) b9 a.F.Kids) (hm : sE a = some r) :
  la false pg0 6 [(.agg #[(.string a.S.lR.Name), I, J, (.string a.S.og), (.int .i64 a.S.Room), Z, b3, b0, b2, (.int .i64 a.F.Op), (.int .i64 a.F.K), (.string a.F.kw.kE), (.string a.F.kw.kT), b9, (.int .i64 a.State), (.int .i64 a.E), (.bool a.kE)])] w (.bool r) := by
 refine cG 107 func6 rfl (fun d => sg ?_)
 obtain ⟨A1, c2, rfl⟩ := k.form
 let g6 : Value := (.slice A1 a.S.lR.nr.length c2)
 obtain ⟨A3, c4, rfl⟩ := u.form
 let g9 : Value := (.slice A3 a.S.lR.oq.length c4)
 obtain ⟨A5, c6, rfl⟩ := j.form
 let d0 : Value := (.slice A5 a.S.lH.length c6)
 obtain ⟨A7, c8, rfl⟩ := G.form
 let j1 : Value := (.slice A7 a.S.Shown.length c8)
 obtain ⟨A9, N, rfl⟩ := B.form
 let j2 : Value := (.slice A9 a.S.mA.length N)
 obtain ⟨M, Q, rfl⟩ := D.form
 let k2 : Value := (.slice M a.S.qz.length Q)
 let a0 := (C2 a.S.lR.Name A1 a.S.lR.nr.length c2 A3 a.S.lR.oq.length c4 a.S.og a.S.Room A5 a.S.lH.length c6 A7 a.S.Shown.length c8 A9 a.S.mA.length N M a.S.qz.length Q)
 obtain ⟨x, y, rfl⟩ := t.form
 let c1 : Value := (.slice x a.F.Kids.length y)
 let m := (C1 a.F.Op a.F.K a.F.kw.kE a.F.kw.kT x a.F.Kids.length y)
 refine VE (lB d rfl (fun o1 p0 d => Wa (lS (bS hm fun p1 k6 hm => VE (Eg d call24 (LL  _ _  k6) (fun o2 d => V (mQ rfl) (ln (CI hm rfl (fun k3 hm => ?_) (fun k3 hm => ?_)))))))))
 ·refine sg (Wa (ln ?_))
  replace d := d.kz (Db St)
  refine lj (lb ?_)
  obtain rfl := sj hm
  exact rP d
 refine kn (kO ?_)
 replace d := d.drew
 have h := d.has.kz (Kb Sn)
 refine lG h lq (X 0 rfl h (kD V7 rfl) (XH 1 rfl h (fun _ q => kA rfl (kI q Mh a0 rfl ke gb)) (X 2 rfl h (kD Xl rfl) (XH 3 rfl h (fun _ q => kA rfl (kI q Mh m rfl cx aZ)) (X 4 rfl h (kD WN rfl) (XH 5 rfl h (fun _ q => kA rfl (kM q Mh rfl cC)) (X 6 rfl h (kD VT rfl) (XH 7 rfl h (fun _ q => kA rfl (kM q Mh rfl cC)) (X 8 rfl h (kD V0 rfl) (XH 9 rfl h (fun _ q => kA rfl (kM q Mh rfl isAgg4)) (Rz 10 11 rfl rfl kr kr kr dc dc rfl rfl d zeroValue54 dB (fun W s => (s.kz (Kb Sn))) (fun W s => (s.kz (Kb Sn))) (fun W s => (s.kz (Kb Sn))) (fun o3 L O d => ?_))))))))))))
 refine XO 12 rfl (lf (.agg a0.toArray) (a0.toArray) d rfl rfl gb oc nb rfl (fun o4 d => ?_))
 have h := d.has.kz (Db (Db (Kb Sn)))
 refine ⟨h, ?_⟩
 replace d := d.perm (Nb (Pb Pz) Nz)
 refine XO 13 rfl (lf (.agg m.toArray) (m.toArray) d rfl rfl aZ oc nb rfl (fun o5 d => ?_))
 have h := d.has.kz (Db (Db (Kb Sn)))
 refine ⟨h, (X 14 rfl h (mN rfl) (X 15 rfl h (mN rfl) (X 16 rfl h (mN rfl) (lT kr (kF ?_)))))⟩
 replace d := d.kz (Kb (Kb (Db St)))
 refine kO (sg (VA d (Mt Mh) a0 ke gb (bS hm fun p2 k7 hm => VE (Eg d call25 (Mo a.S g6 g9 d0 j1 j2 k2 _ _ (k.mono AE.mono d.kJ) (u.mono I1.mono d.kJ) (j.mono (Pl.mono _) d.kJ) (G.mono (Pl.mono _) d.kJ) (B.mono (Pl.mono _) d.kJ) (D.mono (Pl.mono _) d.kJ) k7) (fun o6 d => Wi rfl (Wm (LJ hm (fun g8 E W => ∃ i5, ST false ll w W (hp w) ((O, Ol m 57) :: ((L, Ol a0 54) :: i5)) ∧ E 3 = (.pointer (some ⟨L, 0, none⟩)) ∧ E 4 = (.pointer (some ⟨O, 0, none⟩)) ∧ E 5 = (.int .i64 a.State) ∧ E 6 = (.int .i64 a.E) ∧ E 7 = (.bool a.kE) ∧ E 31 = (.bool g8)) 5 ?_ (fun g8 A e5 => ?_))))))))
 ·let c7 : Value := (.pointer (some ⟨O, 0, none⟩))
  let c5 : Value := (.pointer (some ⟨L, 0, none⟩))
  rintro p4 E W ⟨i5, d, f8, f9, f0, i8, g0, l2⟩ d1
  refine ln (CI d1 l2 (fun k4 d1 => ?_) (fun k4 d1 => ?_))
  ·refine sg (Wa (ln ?_))
   replace d := d.kz (Db (Db St))
   refine lj (lb ?_)
   obtain rfl := sj d1
   exact rP d
  refine kg (V (kA f8 (kI d.has (Mt Mh) a0 rfl ke gb)) (V (kA f9 (kI d.has Mh m rfl cx aZ)) (Wh f0 (Wh i8 (Wh g0 (bS d1 fun c k8 d1 => ?_))))))
  let g5 : Value := (.int .i64 ((c).oE))
  let P : Value := (.int .i64 ((c).State))
  refine VE (eD d (dp _) call27 (fun s => (DQ a.S g6 g9 d0 j1 j2 k2 a.F c1 a.State a.E a.kE _ _ s (k.mono AE.mono (kY.refl _)) (u.mono I1.mono (kY.refl _)) (j.mono (Pl.mono _) (kY.refl _)) (G.mono (Pl.mono _) (kY.refl _)) (B.mono (Pl.mono _) (kY.refl _)) (D.mono (Pl.mono _) (kY.refl _)) (t.mono lW.mono (kY.refl _)) k8)) ?_ (L0 := []))
  rintro _ p3 f2 o0 d H ad ⟨p7, p8, e9, rfl, d2, d6⟩
  obtain rfl := e9.symm
  refine VE (lA d eC (fun o8 d7 d => ?_))
  let c9 : Value := (.pointer (some ⟨d7, 0, none⟩))
  obtain ⟨a1, a2, rfl⟩ := d2.form
  let b8 : Value := (.slice a1 ((c).lP).length a2)
  obtain ⟨a8, a9, rfl⟩ := d6.form
  let n : Value := (.slice a8 ((c).lX).length a9)
  let b5 := (#[P, g5, b8, n] : Array Value)
  refine VO (lf (.agg #[P, g5, b8, n]) (#[P, g5, b8, n]) d rfl rfl dq oc nb rfl (fun o9 d => lS (Wf BU (VB d Mh rfl rfl cC (Wh f0 (Wi rfl (Wm (LJ d1 (fun g7 E W => ∃ i6, ST false ll w W f2 ((d7, Obj.cells b5 64 (0, 0)) :: ((O, Ol m 57) :: ((L, Ol a0 54) :: i6))) ∧ E 3 = c5 ∧ E 4 = c7 ∧ E 5 = (.int .i64 a.State) ∧ E 7 = (.bool a.kE) ∧ E 8 = c9 ∧ E 47 = (.bool g7)) 5 ?_ (fun g7 d4 e4 => ?_)))))))))
  ·rintro p5 E W ⟨i6, d, i9, j0, j3, j4, f1, l3⟩ k5
   refine Wh l3 (LJ k5 (fun g4 E W => ∃ i7, ST false ll w W f2 ((d7, Obj.cells b5 64 (0, 0)) :: ((O, Ol m 57) :: ((L, Ol a0 54) :: i7))) ∧ E 3 = c5 ∧ E 4 = c7 ∧ E 5 = (.int .i64 a.State) ∧ E 7 = (.bool a.kE) ∧ E 8 = c9 ∧ E 53 = (.bool g4)) 5 ?_ (fun g4 v e3 => ?_))
   ·rintro p6 E W ⟨i7, d, j5, j6, l4, l5, j7, l6⟩ d8
    refine ln (CI d8 l6 (fun h1 d8 => ?_) (fun h1 d8 => ?_))
    ·refine sg (Wa (ln ?_))
     replace d := d.kz (Db (Db (Db St)))
     refine lj (lb ?_)
     obtain rfl := sj d8
     exact rP d
    refine kS (Wh l5 (V (mQ rfl) (Wm (LJ d8 (fun g3 E W => ∃ f3, ST false ll w W f2 ((d7, Obj.cells b5 64 (0, 0)) :: ((O, Ol m 57) :: ((L, Ol a0 54) :: f3))) ∧ E 3 = c5 ∧ E 4 = c7 ∧ E 8 = c9 ∧ E 59 = (.bool g3)) 3 ?_ (fun g3 d3 e2 => ?_)))))
    ·rintro n6 E W ⟨f3, d, f6, e6, f7, j9⟩ h5
     refine Wh j9 (LJ h5 (fun g2 E W => ∃ f4, ST false ll w W f2 ((d7, Obj.cells b5 64 (0, 0)) :: ((O, Ol m 57) :: ((L, Ol a0 54) :: f4))) ∧ E 3 = c5 ∧ E 4 = c7 ∧ E 8 = c9 ∧ E 64 = (.bool g2)) 4 ?_ (fun g2 a5 e1 => ?_))
     ·rintro n7 E W ⟨f4, d, e7, e8, d5, k0⟩ i
      refine ln (CI i k0 (fun h2 i => ?_) (fun h2 i => ?_))
      ·refine sg (V (kD sX d5) (VB d Mh rfl rfl dO (V (ly aF rfl d2) (V (kD wN d5) (VB d Mh rfl rfl fR (V (ly aW rfl d6) (Wi rfl (Wi rfl (Wa (ln ?_))))))))))
       replace d := d.kz (Db (Db (Db St)))
       refine lj (lb ?_)
       obtain rfl := sj i
       exact rP d
      refine kS (V (kA e8 (kI d.has (Mt Mh) m rfl cx aZ)) (bS i fun m8 h7 i => VE (pF d call30 (Gm a.F c1 _ _ (t.mono lW.mono (H.trans d.kJ)) h7) (fun m0 n4 n9 l9 d z aa h0 => V (mP aF rfl h0) (Wi rfl (ln ?_))))))
      replace d := d.kz (Dr St)
      refine CI i rfl (fun h3 i => ?_) (fun h3 i => ?_)
      ·refine sg (Wa (ln ?_))
       replace d := d.kz (Db (Db (Db St)))
       refine lj (lb ?_)
       obtain rfl := sj i
       exact rP d
      refine kg (V (kA e7 (kI d.has (Mt (Mt Mh)) a0 rfl ke gb)) (V (kA e8 (kI d.has (Mt Mh) m rfl cx aZ)) (bS i fun k9 h8 i => ?_)))
      refine VE (eD d (dp _) call31 (fun s => (LY a.S g6 g9 d0 j1 j2 k2 a.F c1 _ _ s (k.mono AE.mono (H.trans z)) (u.mono I1.mono (H.trans z)) (j.mono (Pl.mono _) (H.trans z)) (G.mono (Pl.mono _) (H.trans z)) (B.mono (Pl.mono _) (H.trans z)) (D.mono (Pl.mono _) (H.trans z)) (t.mono lW.mono (H.trans z)) h8)) ?_ (L0 := []))
      rintro _ n5 l1 l8 d R ab ⟨l0, d9, rfl, i4⟩
      obtain rfl := d9.symm
      refine Wm (Wx rfl (Wx rfl (Wa (Wa (lS (Wm (V (mQ rfl) (ln (CI i rfl (fun h4 i => ?_) (fun h4 i => ?_))))))))))
      ·refine sg (V (kD sX d5) (VB d Mh rfl rfl dO (V (ly aF rfl d2) (V (kD wN d5) (VB d Mh rfl rfl fR (V (ly aW rfl d6) (Wi rfl (Wi rfl (Wa (ln ?_))))))))))
       replace d := d.kz (Db (Db (Db St)))
       refine lj (lb ?_)
       obtain rfl := sj i
       exact rP d
      refine kg (V (kD sX d5) (VB d Mh rfl rfl dO (Wm (bS i fun m9 h9 i => VE (Eg d call15 (la.mn (MI b8 ((c).lP) l0 k9.1 _ _ (d2.mono (Pl.mono _) ((z.trans R).trans d.kJ)) (i4.mono (Pl.mono _) d.kJ) h9)) (fun m2 d => Wm (LJ i (fun g1 E W => ∃ f5, ST false ll w W l1 f5 ∧ E 106 = (.bool g1)) 9 ?_ (fun g1 a4 e0 => ?_))))))))
      ·rintro n8 E W ⟨f5, d, k1⟩ h6
       exact Wg k1 (lt (rQ h6 d))
      refine bC a4 (fun g a4 => ?_) (fun g a4 => ?_)
      ·refine ug g (kA d5 (kI d.has Mh [P, g5, b8, n] rfl eV dq)) (ug g (kD Du e7) (ug g (kA rfl (kM d.has (Mt (Mt Mh)) rfl iC)) (ug g (kA e8 (kI d.has (Mt Mh) m rfl cx aZ)) (ug g (kD GS e7) (ug g (kA rfl (kM d.has (Mt (Mt Mh)) rfl aY)) (bS a4 fun n0 i0 a4 => pX g (Eg d call32 (LZ c b8 n d0 a.S.lH a.F c1 a.S.og _ _ (d2.mono (Pl.mono _) ((z.trans R).trans d.kJ)) (d6.mono (Pl.mono _) ((z.trans R).trans d.kJ)) (j.mono (Pl.mono _) (((H.trans z).trans R).trans d.kJ)) (t.mono lW.mono (((H.trans z).trans R).trans d.kJ)) i0) (fun m3 d => ug g (lL rfl rfl rfl) (V (kR (cB g) rfl) ?_)))))))))
       obtain rfl := sj a4
       exact e0 _ _ ⟨_, (d.kz (Db (Db (Db St)))), rfl⟩
      refine un g (un g (un g (un g (un g (un g (un g (un g (V (kQ (cB g) rfl) ?_))))))))
      obtain rfl := sj a4
      exact e0 _ _ ⟨_, (d.kz (Db (Db (Db St)))), rfl⟩
     refine bC a5 (fun K a5 => ?_) (fun K a5 => ?_)
     ·refine un K (un K (un K (V (kR (cB K) rfl) ?_)))
      obtain rfl := sj a5
      exact e1 _ _ ⟨_, (d.kz St), f6, e6, f7, rfl⟩
     refine ug K (kA e6 (kI d.has (Mt Mh) m rfl cx aZ)) (bS a5 fun n1 i1 a5 => pX K (Eg d call29 (Gy a.F c1 _ _ (t.mono lW.mono (H.trans d.kJ)) i1) (fun m4 d => ug K (mQ rfl) (V (kQ (cB K) rfl) ?_))))
     obtain rfl := sj a5
     exact e1 _ _ ⟨_, (d.kz St), f6, e6, f7, rfl⟩
    refine bC d3 (fun a3 d3 => ?_) (fun a3 d3 => ?_)
    ·refine un a3 (un a3 (V (kR (cB a3) rfl) ?_))
     obtain rfl := sj d3
     exact e2 _ _ ⟨_, (d.kz St), j5, j6, j7, rfl⟩
    refine ug a3 (kH l4) (ug a3 (lL rfl rfl rfl) (V (kQ (cB a3) rfl) ?_))
    obtain rfl := sj d3
    exact e2 _ _ ⟨_, (d.kz St), j5, j6, j7, rfl⟩
   refine bC v (fun Y v => ?_) (fun Y v => ?_)
   ·refine un Y (un Y (un Y (un Y (V (kR (cB Y) rfl) ?_))))
    obtain rfl := sj v
    exact e3 _ _ ⟨_, (d.kz St), i9, j0, j3, j4, f1, rfl⟩
   refine ug Y (kA f1 (kI d.has Mh [P, g5, b8, n] rfl eV dq)) (ug Y (kA f1 (kI d.has Mh [P, g5, b8, n] rfl eV dq)) (bS v fun n2 i2 v => pX Y (Eg d call28 (la.mn (E8 c b8 n c b8 n _ _ (d2.mono (Pl.mono _) d.kJ) (d6.mono (Pl.mono _) d.kJ) (d2.mono (Pl.mono _) d.kJ) (d6.mono (Pl.mono _) d.kJ) i2)) (fun m5 d => ug Y (mQ rfl) (V (kQ (cB Y) rfl) ?_)))))
   obtain rfl := sj v
   exact e3 _ _ ⟨_, (d.kz St), i9, j0, j3, j4, f1, rfl⟩
  refine bC d4 (fun U d4 => ?_) (fun U d4 => ?_)
  ·refine un U (un U (un U (un U (V (kR (cB U) rfl) ?_))))
   obtain rfl := sj d4
   exact e4 _ _ ⟨_, (d.kz St), f8, f9, f0, g0, rfl, rfl⟩
  refine ug U (kD E6 rfl) (ug U (kA rfl (kM d.has Mh rfl jB)) (ug U (kH i8) (ug U (lL rfl rfl rfl) (V (kQ (cB U) rfl) ?_))))
  obtain rfl := sj d4
  exact e4 _ _ ⟨_, (d.kz St), f8, f9, f0, g0, rfl, rfl⟩
 refine bC A (fun T A => ?_) (fun T A => ?_)
 ·refine un T (un T (un T (un T (V (kR (cB T) rfl) ?_))))
  obtain rfl := sj A
  exact e5 _ _ ⟨_, (d.kz St), rfl, rfl, rfl, rfl, rfl, rfl⟩
 refine ug T (kA rfl (kI d.has Mh m rfl cx aZ)) (pX T (lg (cs := m.toArray) d (mI rfl) (mD bZ aZ dB) (fun m6 j8 d => bS A fun n3 i3 A => pX T (Eg d call26 ((Au lC) (.slice (some ⟨j8, 0, none⟩) 1 1) ([a.F]) _ _ ((nm.lit lW (l := [a.F]) (.cons (ys := C1 a.F.Op a.F.K a.F.kw.kE a.F.kw.kT x a.F.Kids.length y) (kW.mk ⟨c1, rfl, t⟩) .nil) rfl nb rfl).sl lW d.kJ (fun b o hq => (by rw [aO] at hq; cases hq; exact d.at_ Mh))) i3) (fun m7 d => ug T (lL rfl rfl rfl) (V (kQ (cB T) rfl) ?_))))))
 obtain rfl := sj A
 exact e5 _ _ ⟨_, (d.kz (Db St)), rfl, rfl, rfl, rfl, rfl, rfl⟩
end Go.Proofs.YtbnbdigcbldfhaaGreat
