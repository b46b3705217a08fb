/- a part of a proof of EagerRests -/
import Derived.Test.YtmlncblocfcmiaaGreatE9W2e
set_option linter.all false
namespace Go.Proofs.YtmlncblocfcmiaaGreat
open Go.RowKit
set_option maxRecDepth 10000
open Tryz
theorem Iw (g : Value) (u : List jB) (r : Bool) (w : World) (i : Sl (Pl jH) 2 (hp w) g u) (hm : yc u = some r) :
  ki false Tryz.prog 225 [g] w (.bool r) := by
 refine cG 12 func225 rfl (fun d => sg (Wa (lr (Wm (V (lf bF rfl i) (Wi rfl (Wm (LJ hm (fun y E W => ∃ t x, kf (hp w) t ∧ ST false kQ w W t x ∧ E 2 = (.bool false) ∧ E 11 = (.bool y)) 5 ?_ (fun y a k => ?_)))))))))
 ·rintro Z E W ⟨t, x, M, d, U, H⟩ B
  exact Wg H (lt (rQ B d))
 refine bC a (fun c a => ?_) (fun c a => ?_)
 ·refine ug c (jN rfl) (bS a fun I D a => rl c (sG d call315 (Bp g u _ _ (i.mono (Pl.mono _) d.jJ) D) (fun Q J K N d j h z => ug c (jN rfl) (bS a fun Y G a => rl c (Eg d call314 (ki.lD (sD J I g u _ _ (z.sl mY (fun b o l => d.at_ (Ml l))) (i.mono (Pl.mono _) (j.trans d.jJ)) G)) (fun T d => V (kd (cB c) rfl) ?_))))))
  obtain rfl := sj a
  exact k _ _ ⟨K, _, j, (d.jE (Dr St)), rfl, rfl⟩
 refine un c (un c (un c (un c (V (ke (cB c) rfl) ?_))))
 obtain rfl := sj a
 exact k _ _ ⟨(hp w), _, (kf.refl _), (d.jE St), rfl, rfl⟩
theorem Iz (u : Value) (Y : List Signed) (r : Bool) (w : World) (M : Sl lL 10 (hp w) u Y) (hm : AE Y = some r) :
  ki true Tryz.prog 226 [u] w (.bool r) := by
 refine cG 42 func226 rfl (fun d => sg (Wa (lS (Wm (V (lf cZ rfl M) (Wm (ln (li (fun i E W => ∃ U, (E 7 = .int .i64 (i : Nat) ∧ E 6 = .int .i64 (Y.length : Nat)) ∧ ST true kQ w W (hp w) U ∧ E 0 = u ∧ E 5 = u ∧ rZ Y (Y.drop i) i = some r) Y.length M.len ⟨_, ⟨rfl, rfl⟩, (d.jE St), rfl, rfl, hm⟩ dc dc dc (fun _ _ _ h => by obtain ⟨_, o, _⟩ := h; exact o) ?_ ?_))))))))
 ·rintro B E W R ⟨U, ⟨m, q⟩, d, I, J, k⟩
  obtain ⟨a, e1, c4, c3, c5⟩ := kP R
  rw [c4] at k
  refine bg (Wh m (VQ (mo (i := (B : Int)) (x0 := a) lL.out cZ dm J m M (aJ _) c3) (fun e6 ⟨_, ⟨f1, rfl, a4⟩, b7⟩ => V (jG rfl (kl d.has b7 gx dm)) (VE (kv d dH (fun e2 H d => Wa ?_))))))
  let f5 : Value := (.int .i64 (Y.length : Int))
  let b8 : Value := (.int .i64 (B : Int))
  obtain ⟨D, G, rfl⟩ := a4.form
  let a0 := (C2 a.jA.Kind a.jA.Head.jF a.jA.Head.jK a.jA.kA a.jA.B.jF a.jA.B.jK a.jA.C.jF a.jA.C.jK a.jA.kz D a.Tag.length G)
  refine VO (jY (.agg a0.toArray) (a0.toArray) d rfl rfl dm oc nb rfl (fun e3 d => ln (jX ?_)))
  replace d := d.drew
  have b := d.has.jE (Kb Sn)
  refine kM b ko (X 0 rfl b (jM rM rfl) (XH 1 rfl b (fun _ l => jG rfl (jO l Mh (jD a.jA) rfl bR aH)) (bS k fun e9 c1 k => XE 2 rfl (Eg d call137 (uY a.jA _ _  c1) (fun e4 d => ?_)))))
  have b := d.has.jE (Kb Sn)
  refine ⟨b, (X 3 rfl b (mC rfl) (X 4 rfl b (jN rfl) (PJ k (fun O E W => ∃ s, ST true kQ w W (hp w) ((H, Ol a0 56) :: s) ∧ E 0 = u ∧ E 3 = b8 ∧ E 4 = (.pointer (some ⟨H, 0, none⟩)) ∧ E 5 = u ∧ E 6 = f5 ∧ E 7 = b8 ∧ E 21 = (.bool O)) (bm 26 1023) 16 ?_ (fun O z T => ?_))))⟩
  ·rintro d9 E W ⟨s, d, K, a9, c6, Z, n, a2, c7⟩ b5
   have b := d.has.jE (Kb Sn)
   refine X 10 rfl b (jN c7) (PJ b5 (fun F E W => ∃ v, ST true kQ w W (hp w) ((H, Ol a0 56) :: v) ∧ E 0 = u ∧ E 5 = u ∧ E 6 = f5 ∧ E 7 = b8 ∧ E 37 = (.bool F)) (bm 26 67108863) 0 ?_ (fun F y N => ?_))
   ·rintro f3 E W ⟨v, d, c8, c9, d0, d1, d2⟩ x
    refine kV kr (jQ ?_)
    replace d := d.jE (Db St)
    refine CI x d2 (fun P x => ?_) (fun P x => ?_)
    ·refine sg (Wa (lt (mn (kI (mn (kI ?_))))))
     obtain rfl := sj x
     exact rP d
    exact ll (kF (jQ ⟨d1, _, ⟨rfl, d0⟩, (d.jE St), c8, c9, (by rw [c5]; exact x)⟩))
   refine bC y (fun g y => ?_) (fun g y => ?_)
   ·refine Xn 11 rfl rfl (cB g) b (Xn 12 rfl rfl (cB g) b (Xn 13 rfl rfl (cB g) b (Xu 14 rfl rfl rfl b (Xu 15 rfl rfl rfl b (Xu 16 rfl rfl rfl b (Xu 17 rfl rfl rfl b (Xu 18 rfl rfl rfl b (Xu 19 rfl rfl rfl b (Xu 20 rfl rfl rfl b (Xu 21 rfl rfl rfl b (Xu 22 rfl rfl rfl b (Xu 23 rfl rfl rfl b (Xn 24 rfl rfl (cB g) b (X 25 rfl b (kd (cB g) rfl) ?_))))))))))))))
    obtain rfl := sj y
    refine lU kr (N _ _ ⟨_, (d.jE St), K, Z, n, a2, rfl⟩)
   refine Xg 11 rfl rfl (cB g) b (jN a9) (Xg 12 rfl rfl (cB g) b (kL rfl rfl rfl) (Xg 13 rfl rfl (cB g) b (jN rfl) (PJ y (fun L E W => ∃ A, ST true kQ w W (hp w) ((H, Ol a0 56) :: A) ∧ E 0 = u ∧ E 5 = u ∧ E 6 = f5 ∧ E 7 = b8 ∧ E 22 = (.bool d9) ∧ E 36 = (.bool L)) (bm 26 33554431) 1 ?_ (fun L t Q => ?_))))
   ·rintro f4 E W ⟨A, d, d3, d4, d5, d6, d7, d8⟩ b6
    have b := d.has.jE (Kb Sn)
    refine X 25 rfl b (ke (d7.trans (cB g)) d8) ?_
    obtain rfl := sj b6
    refine lU kr (N _ _ ⟨_, (d.jE St), d3, d4, d5, d6, rfl⟩)
   refine bC t (fun c t => ?_) (fun c t => ?_)
   ·refine Xg 14 rfl rfl (cB c) b (jN K) (Xg 15 rfl rfl (cB c) b (jN a9) (Xg 16 rfl rfl (cB c) b (kL rfl rfl rfl) (bS t fun a3 a5 t => rH 17 rfl kr (.inr ⟨13, true, 25, rfl, rfl, by decide, (cB c)⟩) rfl dc (fun _ _ h => h) b (mo (i := (IntKind.i64.wrap ((B : Int) - 1))) (x0 := a3) lL.out cZ dm rfl rfl M (kj a5) (kh a5)) (fun e7 ⟨_, ⟨f2, rfl, e0⟩, b9⟩ => rH 18 rfl kr (.inr ⟨13, true, 25, rfl, rfl, by decide, (cB c)⟩) rfl dc (fun _ _ h => h) b (tY (jD a3.jA) rM rfl b9 rfl) (fun e8 c0 => ri 19 rfl rfl (cB c) b (fun _ l => jG rfl (kl l c0 bR aH)) (Xg 20 rfl rfl (cB c) b (jM rM c6) (ri 21 rfl rfl (cB c) b (fun _ l => jG rfl (jO l Mh (jD a.jA) rfl bR aH)) (bS t fun f0 c2 t => xC 22 rfl rfl (cB c) (Eg d call231 (Bk a3.jA a.jA _ _  c2) (fun e5 d => ?_))))))))))
    have b := d.has.jE (Kb Sn)
    refine ⟨b, (Xg 23 rfl rfl (cB c) b (kL rfl rfl rfl) (Xg 24 rfl rfl (cB g) b (kd (cB c) rfl) ?_))⟩
    obtain rfl := sj t
    refine lU kr (Q _ _ ⟨_, (d.jE St), K, Z, n, a2, rfl, rfl⟩)
   refine Xn 14 rfl rfl (cB c) b (Xn 15 rfl rfl (cB c) b (Xn 16 rfl rfl (cB c) b (Xn 17 rfl rfl (cB c) b (Xn 18 rfl rfl (cB c) b (Xn 19 rfl rfl (cB c) b (Xn 20 rfl rfl (cB c) b (Xn 21 rfl rfl (cB c) b (Xn 22 rfl rfl (cB c) b (Xn 23 rfl rfl (cB c) b (Xg 24 rfl rfl (cB g) b (ke (cB c) rfl) ?_))))))))))
   obtain rfl := sj t
   refine lU kr (Q _ _ ⟨_, (d.jE St), K, Z, n, a2, rfl, rfl⟩)
  refine bC z (fun j z => ?_) (fun j z => ?_)
  ·refine Xn 5 rfl rfl (cB j) b (Xn 6 rfl rfl (cB j) b (Xn 7 rfl rfl (cB j) b (Xn 8 rfl rfl (cB j) b (X 9 rfl b (kd (cB j) rfl) ?_))))
   obtain rfl := sj z
   refine lU kr (T _ _ ⟨_, (d.jE St), I, rfl, rfl, J, q, m, rfl⟩)
  refine Xg 5 rfl rfl (cB j) b (jM Bm rfl) (ri 6 rfl rfl (cB j) b (fun _ l => jG rfl (jS l Mh rfl gw)) (Xg 7 rfl rfl (cB j) b (lf cJ rfl a4) (Xg 8 rfl rfl (cB j) b (kL rfl rfl rfl) (X 9 rfl b (ke (cB j) rfl) ?_))))
  obtain rfl := sj z
  refine lU kr (T _ _ ⟨_, (d.jE St), I, rfl, rfl, J, q, m, rfl⟩)
 rintro E W ⟨U, ⟨m, q⟩, d, I, J, k⟩
 rw [aP] at k
 exact jQ (sg (Wh I (V (lf cZ rfl M) (Wi rfl (Wa (lt (rQ k d)))))))
theorem Ix (a : vo) (G D : Value) (r : Bool) (w : World) (i : Sl (Pl jH) 2 (hp w) G a.oF) (g : Sl lL 10 (hp w) D a.ns) (hm : xY a = some r) :
  ki false Tryz.prog 113 [(.agg #[(.int .i64 a.Kind), (.int .i64 a.qN), (.int .i64 a.E), (.string a.Name), G, D])] w (.bool r) := by
 refine cG 53 func113 rfl (fun b => sg ?_)
 obtain ⟨Y, c2, rfl⟩ := i.form
 let h : Value := (.slice Y a.oF.length c2)
 obtain ⟨Z, F, rfl⟩ := g.form
 let a2 : Value := (.slice Z a.ns.length F)
 let a0 := (C9 a.Kind a.qN a.E a.Name Y a.oF.length c2 Z a.ns.length F)
 refine VE (kH b rfl (fun W6 b5 b => Wa (ln (jX (jX ?_)))))
 replace b := b.drew
 have d := b.has.jE (Kb Sn)
 refine kM d ko (XH 0 rfl d (fun _ l => jG rfl (jO l Mh a0 rfl gl dT)) (XH 2 rfl d (fun _ l => jG rfl (jO l Mh a0 rfl gl dT)) (bS hm fun e1 d1 hm => ?_)))
 refine XE 1 rfl (eD b (bT _) call224 (fun hh => lM.lD (J1 a h a2 _ _ hh (i.mono (Pl.mono _) (kf.refl _)) (g.mono nC.mono (kf.refl _)) d1)) ?_ (L0 := []))
 rintro _ g1 N f3 b y L ⟨e3, e4, Q, rfl, d5, d6⟩
 obtain rfl := Q.symm
 have d := b.has.oA y (Kb Sn)
 refine ⟨d, (bS hm fun f9 d2 hm => XE 3 rfl (Eg b call223 (Kj e1 e3 e4 a h a2 _ _ (d5.mono (Pl.mono _) b.jJ) (d6.mono nC.mono b.jJ) (i.mono (Pl.mono _) (y.trans b.jJ)) (g.mono nC.mono (y.trans b.jJ)) d2) (fun f5 b => ?_)))⟩
 have d := b.has.oA y (Kb Sn)
 refine ⟨d, (X 4 rfl d (mC rfl) (kV kr (jQ (CI hm rfl (fun c6 hm => ?_) (fun c6 hm => ?_)))))⟩
 ·refine sg (Wa (ln ?_))
  replace b := b.jE (Db St)
  refine kB (kI ?_)
  obtain rfl := sj hm
  exact rP b
 refine kS (Wf xa (VB b Mh rfl rfl cL (ln (bg (Wi rfl (Wa (ky ?_)))))))
 refine jQ (CI hm rfl (fun c7 hm => ?_) (fun c7 hm => ?_))
 ·refine sg (Wf AU (VB b Mh rfl rfl bZ (bS hm fun e2 d3 hm => VE (Eg b iN (ki.lD (qk a.Name _ _  d3)) (fun f6 b => Wm (LJ hm (fun v E W => ∃ q, ST false kQ w W N q ∧ E 2 = (.bool false) ∧ E 24 = (.bool v)) 9 ?_ (fun v H T => ?_)))))))
  ·rintro g2 E W ⟨q, b, f8, d7⟩ c9
   refine Wg d7 (lt (mn (kI ?_)))
   obtain rfl := sj c9
   exact rP b
  refine bC H (fun c H => ?_) (fun c H => ?_)
  ·refine ug c (jM yZ rfl) (ug c (jG rfl (jS b.has Mh rfl cL)) (ug c (kL rfl rfl rfl) (ug c (jN rfl) (LJ H (fun A E W => ∃ s, ST false kQ w W N s ∧ E 2 = (.bool false) ∧ E 15 = (.bool e2) ∧ E 23 = (.bool A)) 4 ?_ (fun A I U => ?_)))))
   ·rintro g3 E W ⟨s, b, d8, d9, e0⟩ d0
    refine V (kd (d9.trans (cB c)) e0) ?_
    obtain rfl := sj d0
    exact T _ _ ⟨_, (b.jE St), d8, rfl⟩
   refine bC I (fun t I => ?_) (fun t I => ?_)
   ·refine un t (un t (un t (ug c (kd (cB t) rfl) ?_)))
    obtain rfl := sj I
    exact U _ _ ⟨_, (b.jE (Db St)), rfl, rfl, rfl⟩
   refine ug t (jM yZ rfl) (ug t (jG rfl (jS b.has Mh rfl cL)) (ug t (kL rfl rfl rfl) (ug c (ke (cB t) rfl) ?_)))
   obtain rfl := sj I
   exact U _ _ ⟨_, (b.jE (Db St)), rfl, rfl, rfl⟩
  refine un c (un c (un c (un c (Vu rfl rfl (Vu rfl rfl (Vu rfl rfl (un c (V (ke (cB c) rfl) ?_))))))))
  obtain rfl := sj H
  exact T _ _ ⟨_, (b.jE (Db St)), rfl, rfl⟩
 refine sg (Wi rfl (Wa (ln (CI hm rfl (fun c8 hm => ?_) (fun c8 hm => ?_)))))
 ·refine sg (Wf yY (VB b Mh rfl rfl gz (bS hm fun g0 d4 hm => VE (Eg b call225 (Iw h a.oF _ _ (i.mono (Pl.mono _) (y.trans b.jJ)) d4) (fun f7 b => Wm (LJ hm (fun m E W => ∃ a3, ST false kQ w W N a3 ∧ E 2 = (.bool false) ∧ E 34 = (.bool m)) 4 ?_ (fun m x J => ?_)))))))
  ·rintro f0 E W ⟨a3, b, e6, c0⟩ O
   refine Wg c0 (lt (mn (kI ?_)))
   obtain rfl := sj O
   exact rP b
  refine bC x (fun u x => ?_) (fun u x => ?_)
  ·refine ug u (jM wU rfl) (ug u (jG rfl (jS b.has Mh rfl jz)) (bS x fun e9 b3 x => rl u (Eg b call226 (ki.lD (Iz a2 a.ns _ _ (g.mono nC.mono (y.trans b.jJ)) b3)) (fun e5 b => V (kd (cB u) rfl) ?_))))
   obtain rfl := sj x
   exact J _ _ ⟨_, (b.jE (Db St)), rfl, rfl⟩
  refine un u (un u (un u (V (ke (cB u) rfl) ?_)))
  obtain rfl := sj x
  exact J _ _ ⟨_, (b.jE (Db St)), rfl, rfl⟩
 refine sg (Wi rfl (Wa (ln (CI hm rfl (fun a9 hm => ?_) (fun a9 hm => ?_)))))
 ·refine sg (Wf yV (VB b Mh rfl rfl cL (Wi rfl (Wm (LJ hm (fun n E W => ∃ a4, ST false kQ w W N a4 ∧ E 2 = (.bool false) ∧ E 44 = (.bool n)) 4 ?_ (fun n z K => ?_))))))
  ·rintro f1 E W ⟨a4, b, e7, c1⟩ P
   refine Wg c1 (lt (mn (kI ?_)))
   obtain rfl := sj P
   exact rP b
  refine bC z (fun j z => ?_) (fun j z => ?_)
  ·refine ug j (jM yV rfl) (ug j (jG rfl (jS b.has Mh rfl cL)) (ug j (kL rfl rfl rfl) (V (kd (cB j) rfl) ?_)))
   obtain rfl := sj z
   exact K _ _ ⟨_, (b.jE (Db St)), rfl, rfl⟩
  refine un j (un j (un j (V (ke (cB j) rfl) ?_)))
  obtain rfl := sj z
  exact K _ _ ⟨_, (b.jE (Db St)), rfl, rfl⟩
 refine ll (kF (jQ (sg (Wf xa (VB b Mh rfl rfl cL (Wi rfl (Wm (LJ hm (fun o E W => ∃ a5, ST false kQ w W N a5 ∧ E 2 = (.bool false) ∧ E 52 = (.bool o)) 4 ?_ (fun o B M => ?_)))))))))
 ·rintro f2 E W ⟨a5, b, e8, c3⟩ R
  exact Wg c3 (lt (rQ R b))
 refine bC B (fun k B => ?_) (fun k B => ?_)
 ·refine un k (un k (un k (V (kd (cB k) rfl) ?_)))
  obtain rfl := sj B
  exact M _ _ ⟨_, (b.jE (Db St)), rfl, rfl⟩
 refine ug k (jM xa rfl) (ug k (jG rfl (jS b.has Mh rfl cL)) (ug k (kL rfl rfl rfl) (V (ke (cB k) rfl) ?_)))
 obtain rfl := sj B
 exact M _ _ ⟨_, (b.jE (Db St)), rfl, rfl⟩
set_option maxHeartbeats 1000000 in
theorem CP (c : lP) (a6 b5 e1 h0 f4 g9 : Value) (r : Bool) (w : World) (j : Sl ku 15 (hp w) a6 c.jI.jV) (y : Sl kW 8 (hp w) b5 c.jI.kx) (G : Sl (Pl jD) 9 (hp w) e1 c.jU) (u : Sl (Pl jD) 9 (hp w) h0 c.Shown) (Q : Sl (Pl jH) 2 (hp w) f4 c.kq) (U : Sl (Pl jH) 2 (hp w) g9 c.lc) (hm : sM c = some r) :
  ki false Tryz.prog 19 [(.agg #[(.string c.jI.Name), a6, b5, (.string c.lG), (.int .i64 c.Room), e1, h0, f4, g9])] w (.bool r) := by
 refine cG 86 func19 rfl (fun d => sg ?_)
 obtain ⟨A1, c2, rfl⟩ := j.form
 let l6 : Value := (.slice A1 c.jI.jV.length c2)
 obtain ⟨A3, c4, rfl⟩ := y.form
 let p8 : Value := (.slice A3 c.jI.kx.length c4)
 obtain ⟨A5, c6, rfl⟩ := G.form
 let ag : Value := (.slice A5 c.jU.length c6)
 obtain ⟨A7, c8, rfl⟩ := u.form
 let l3 : Value := (.slice A7 c.Shown.length c8)
 obtain ⟨A9, h4, rfl⟩ := Q.form
 let aq : Value := (.slice A9 c.kq.length h4)
 obtain ⟨h3, h5, rfl⟩ := U.form
 let ar : Value := (.slice h3 c.lc.length h5)
 let a0 := (C3 c.jI.Name A1 c.jI.jV.length c2 A3 c.jI.kx.length c4 c.lG c.Room A5 c.jU.length c6 A7 c.Shown.length c8 A9 c.kq.length h4 h3 c.lc.length h5)
 refine VE (kH d rfl (fun ai I d => Wa (lS (bS hm fun am v8 hm => VE (Eg d call108 (GF  _ _  v8) (fun aj d => V (mC rfl) (ln (CI hm rfl (fun v5 hm => ?_) (fun v5 hm => ?_)))))))))
 ·refine sg (Wa (ln ?_))
  replace d := d.jE (Db St)
  refine kB (kI ?_)
  obtain rfl := sj hm
  exact rP d
 refine kS (VA d Mh a0 ew dN (bS hm fun an v9 hm => VE (Eg d call109 (GK c l6 p8 ag l3 aq ar _ _ (j.mono kT.mono d.jJ) (y.mono mz.mono d.jJ) (G.mono (Pl.mono _) d.jJ) (u.mono (Pl.mono _) d.jJ) (Q.mono (Pl.mono _) d.jJ) (U.mono (Pl.mono _) d.jJ) v9) (fun ak d => Wi rfl (Wm (LJ hm (fun p6 E W => ∃ v1, ST false kQ w W (hp w) ((I, Ol a0 160) :: v1) ∧ E 1 = (.pointer (some ⟨I, 0, none⟩)) ∧ E 20 = (.bool p6)) 4 ?_ (fun p6 a5 j7 => ?_)))))))
 ·let j2 : Value := (.pointer (some ⟨I, 0, none⟩))
  rintro ao E W ⟨v1, d, v2, w5⟩ i7
  refine ln (CI i7 w5 (fun v6 i7 => ?_) (fun v6 i7 => ?_))
  ·refine sg (Wa (ln ?_))
   replace d := d.jE (Db St)
   refine kB (kI ?_)
   obtain rfl := sj i7
   exact rP d
  refine kg (VE (CX (P := Tryz.prog) (fun (x : jA) => (.agg (jD x).toArray)) (fun (x : Bool) => (Value.bool x)) d (fun al m w4 d v4 => Wa (lS (V (jM wN v2) (VB d (Ma Mh) rfl rfl eB (V (lf aG rfl u) (Wm ?_))))))))
  refine ln (li (fun i E W => ∃ h2 i4 n0, (E 25 = .int .i64 (i : Nat) ∧ E 24 = .int .i64 (c.Shown.length : Nat)) ∧ ST false kQ w W (hp w) ((I, Ol a0 160) :: (i4 ++ n0)) ∧ E 1 = j2 ∧ E 3 = m ∧ E 23 = l3 ∧ lA (fun (x : jA) => (.agg (jD x).toArray)) (fun (x : Bool) => (Value.bool x)) m h2 i4 ∧ oE c (c.Shown.drop i) h2 = some r) c.Shown.length u.len ⟨([]), w4, _, ⟨rfl, rfl⟩, (d.jE (Sb (Pr Pz) St)), v2, rfl, rfl, v4, i7⟩ dc dc dc (fun _ _ _ h => by obtain ⟨_, _, _, n, _⟩ := h; exact n) ?_ ?_)
  ·rintro w7 E W v7 ⟨h2, i4, n0, ⟨l, q⟩, d, k4, k5, n1, k8, d1⟩
   obtain ⟨j0, ah, w1, w0, w2⟩ := kP v7
   rw [w1] at d1
   refine bg (VQ (ot (enc := jD) (i := (w7 : Int)) (x0 := j0) aG aH n1 l u (aJ _) w0) (fun af u8 => V (jG rfl (kl d.has u8 bR aH)) (VE (kv d cX (fun ab ae d => VO (jY (.agg (jD j0).toArray) ((jD j0).toArray) d rfl rfl aH (nF j0) nb rfl (fun ac d => ln (jW (Wh k5 (VA d Mh (jD j0) bR aH ?_))))))))))
   replace d := d.perm (Nr (Qb (Qb Qz)) Nz)
   refine VO (DR (k := j0) (v := true) (vf := (fun (x : Bool) => (Value.bool x)))  LY underlying134 d k8 rfl rfl rfl (fun ad v3 d u7 => ky (kF (jQ ?_))))
   replace d := d.jE (Kr (Db St))
   exact ⟨l, (mS kp h2 j0 true), v3, _, ⟨rfl, q⟩, (d.jE (Sb (Pr Pz) St)), k4, k5, n1, u7, (by rw [w2]; exact d1)⟩
  rintro E W ⟨h2, i4, n0, ⟨l, q⟩, d, k4, k5, n1, k8, d1⟩
  rw [aP] at d1
  refine jQ (jX (sg (V (jM wP k4) (Wf vA (VB d Mh rfl rfl gE (V (lf du rfl j) (Wm (ln (M5 d1 (fun H E W => ∃ d2 d3 d4 d5 d6 d7 T n2, kf (hp w) T ∧ ST false kQ w W T ((I, Ob #[(.string H.1), d2, d3, (.string H.2.2.2.1), (.int .i64 H.2.2.2.2.1), d4, d5, d6, d7] 160) :: n2) ∧ E 1 = j2 ∧ Sl ku 15 T d2 H.2.1 ∧ Sl kW 8 T d3 H.2.2.1 ∧ Sl (Pl jD) 9 T d4 H.2.2.2.2.2.1 ∧ Sl (Pl jD) 9 T d5 H.2.2.2.2.2.2.1 ∧ Sl (Pl jH) 2 T d6 H.2.2.2.2.2.2.2.1 ∧ Sl (Pl jH) 2 T d7 H.2.2.2.2.2.2.2.2) (fun H q5 c5 => ?_) ?_)))))))))
  ·refine li (fun i E W => ∃ g7 R d8 a9 e7 s e8 d9 e0 A e9 F f0 L f1 O f2 K k0, (E 36 = .int .i64 (i : Nat) ∧ E 35 = .int .i64 (c.jI.jV.length : Nat)) ∧ kf (hp w) K ∧ ST false kQ w W K ((I, Ob #[(.string d8), a9, s, (.string d9), (.int .i64 e0), A, F, L, O] 160) :: (R ++ k0)) ∧ E 1 = j2 ∧ E 3 = m ∧ lA (fun (x : jA) => (.agg (jD x).toArray)) (fun (x : Bool) => (Value.bool x)) m g7 R ∧ Sl ku 15 K a9 e7 ∧ Sl kW 8 K s e8 ∧ Sl (Pl jD) 9 K A e9 ∧ Sl (Pl jD) 9 K F f0 ∧ Sl (Pl jH) 2 K L f1 ∧ Sl (Pl jH) 2 K O f2 ∧ oC (c.jI.jV.drop i) g7 d8 e7 e8 d9 e0 e9 f0 f1 f2 = some H) c.jI.jV.length j.len ⟨h2, i4, c.jI.Name, l6, c.jI.jV, p8, c.jI.kx, c.lG, c.Room, ag, c.jU, l3, c.Shown, aq, c.kq, ar, c.lc, (hp w), _, ⟨rfl, rfl⟩, (kf.refl _), (d.jE St), k4, k5, k8, j, y, G, u, Q, U, q5⟩ dc dc dc (fun _ _ _ h => by obtain ⟨_, _, _, _, _, _, _, _, _, _, _, _, _, _, _, _, _, _, _, n, _⟩ := h; exact n) ?_ ?_
   ·rintro g4 E W q2 ⟨g7, R, d8, a9, e7, s, e8, d9, e0, A, e9, F, f0, L, f1, O, f2, K, k0, ⟨l, q⟩, h1, d, e6, k6, m3, f7, f8, f9, g0, g1, g2, D⟩
    let ap := (⟨(⟨d8, e7, e8⟩ : jI), d9, e0, e9, f0, f1, f2⟩ : lP)
    let l2 : Value := (.int .i64 (g4 : Int))
    obtain ⟨z5, w8, s0, w6, s1⟩ := kP q2
    rw [s0] at D
    refine bg (V (jG e6 (jO d.has Mh [(.string d8), a9, s, (.string d9), (.int .i64 e0), A, F, L, O] rfl ew dN)) (bS D fun v0 r2 D => VE (Eg d call111 (xu ap a9 s A F L O _ _ (f7.mono kT.mono d.jJ) (f8.mono mz.mono d.jJ) (f9.mono (Pl.mono _) d.jJ) (g0.mono (Pl.mono _) d.jJ) (g1.mono (Pl.mono _) d.jJ) (g2.mono (Pl.mono _) d.jJ) r2) (fun x4 d => Wa (lr (bS D fun a r3 D => ?_))))))
    let l5 : Value := (.int .i64 ((a.1).E))
    let l4 : Value := (.string ((a.1).Name))
    let l1 : Value := (.int .i64 ((a.1).qN))
    let l0 : Value := (.int .i64 ((a.1).Kind))
    refine VE (eD d (Cb Pz Cn) call112 (fun hh => (xT I ap a9 s A F L O _ _ hh (f7.mono kT.mono (kf.refl _)) (f8.mono mz.mono (kf.refl _)) (f9.mono (Pl.mono _) (kf.refl _)) (g0.mono (Pl.mono _) (kf.refl _)) (g1.mono (Pl.mono _) (kf.refl _)) (g2.mono (Pl.mono _) (kf.refl _)) r3)) ?_ (ha := Qj e6))
    rintro _ z2 f3 x1 d p7 au ⟨z9, aa, b6, b7, b9, c0, c1, c3, i8, rfl, i9, c7, m4, m5, m6, m7, m8, m9⟩
    let b8 := (#[(.string (((a.2.2).jI).Name)), b6, b7, (.string ((a.2.2).lG)), (.int .i64 ((a.2.2).Room)), b9, c0, c1, c3] : Array Value)
    obtain rfl := i8.symm
    replace d := d.perm (Tb Tn)
    refine Wm (Wx rfl (Wx rfl (VE (kv d ee (fun x6 h7 d => ?_)))))
    obtain ⟨a7, a8, rfl⟩ := i9.form
    let j1 : Value := (.slice a7 ((a.1).oF).length a8)
    obtain ⟨M, N, rfl⟩ := c7.form
    let g6 : Value := (.slice M ((a.1).ns).length N)
    let k3 := (#[l0, l1, l5, l4, j1, g6] : Array Value)
    let j9 : Value := (.int .i64 (c.jI.jV.length : Int))
    refine VO (jY (.agg #[l0, l1, l5, l4, j1, g6]) (#[l0, l1, l5, l4, j1, g6]) d rfl rfl dT oc nb rfl (fun x7 d => Wa (lS (Wm (Wi rfl (Wm (LJ D (fun p5 E W => ∃ n4, ST false kQ w W f3 ((h7, Obj.cells k3 164 (0, 0)) :: ((I, Obj.cells b8 160 (0, 0)) :: (R ++ n4))) ∧ E 1 = j2 ∧ E 3 = m ∧ E 6 = (.bool v0) ∧ E 7 = (.pointer (some ⟨h7, 0, none⟩)) ∧ E 35 = j9 ∧ E 36 = l2 ∧ E 50 = (.bool p5)) 4 ?_ (fun p5 a4 j6 => ?_))))))))
    ·rintro z6 E W ⟨n4, d, o0, o1, s7, k7, o2, o3, s8⟩ q6
     refine Wh s8 (LJ q6 (fun p4 E W => ∃ n5, ST false kQ w W f3 ((h7, Obj.cells k3 164 (0, 0)) :: ((I, Obj.cells b8 160 (0, 0)) :: (R ++ n5))) ∧ E 1 = j2 ∧ E 3 = m ∧ E 7 = (.pointer (some ⟨h7, 0, none⟩)) ∧ E 35 = j9 ∧ E 36 = l2 ∧ E 56 = (.bool p4)) 5 ?_ (fun p4 a3 j5 => ?_))
     ·rintro z7 E W ⟨n5, d, s9, t0, t1, t2, t3, t4⟩ e2
      refine ln (CI e2 t4 (fun q0 e2 => ?_) (fun q0 e2 => ?_))
      ·refine sg (Wa (ln ?_))
       replace d := d.jE (Db (Db (Dr St)))
       refine kB (kI (mn (kI (mn (kI ?_)))))
       obtain rfl := sj e2
       replace c5 : some false = some r := c5
       obtain rfl := sj c5
       exact rP d
      refine kg (V (jM wU t1) (VB d Mh rfl rfl jz (V (lf cZ rfl c7) (Wm (ln ?_)))))
      replace d := d.jE (Db St)
      refine uD (M5 e2 (fun k9 E W => ∃ h6 n6, ST false kQ w W f3 ((I, Obj.cells b8 160 (0, 0)) :: (h6 ++ n6)) ∧ E 1 = j2 ∧ E 3 = m ∧ E 35 = j9 ∧ E 36 = l2 ∧ lA (fun (x : jA) => (.agg (jD x).toArray)) (fun (x : Bool) => (Value.bool x)) m k9 h6) (fun k9 q8 i6 => ?_) ?_)
      ·refine li (fun i E W => ∃ g8 e5 k1, (E 60 = .int .i64 (i : Nat) ∧ E 59 = .int .i64 (((a.1).ns).length : Nat)) ∧ ST false kQ w W f3 ((I, Obj.cells b8 160 (0, 0)) :: (e5 ++ k1)) ∧ E 1 = j2 ∧ E 3 = m ∧ E 35 = j9 ∧ E 36 = l2 ∧ E 58 = g6 ∧ lA (fun (x : jA) => (.agg (jD x).toArray)) (fun (x : Bool) => (Value.bool x)) m g8 e5 ∧ oD a (((a.1).ns).drop i) g8 = some k9) ((a.1).ns).length c7.len ⟨g7, R, _, ⟨rfl, rfl⟩, (d.jE St), s9, t0, t2, t3, rfl, m3, q8⟩ dc dc dc (fun _ _ _ h => by obtain ⟨_, _, _, n, _⟩ := h; exact n) ?_ ?_
       ·rintro o5 E W q3 ⟨g8, e5, k1, ⟨l, q⟩, d, f5, f6, h8, h9, i0, g3, a1⟩
        obtain ⟨g, w9, s3, s2, s4⟩ := kP q3
        rw [s3] at a1
        refine bg (VQ (mo (i := (o5 : Int)) (x0 := g) lL.out cZ dm i0 l c7 (aJ _) s2) (fun y5 ⟨_, ⟨z3, rfl, r9⟩, q9⟩ => V (jG rfl (kl d.has q9 gx dm)) (VE (kv d dH (fun x8 n8 d => ?_)))))
        obtain ⟨j8, k2, rfl⟩ := r9.form
        let g5 := (C2 g.jA.Kind g.jA.Head.jF g.jA.Head.jK g.jA.kA g.jA.B.jF g.jA.B.jK g.jA.C.jF g.jA.C.jK g.jA.kz j8 g.Tag.length k2)
        refine VO (jY (.agg g5.toArray) (g5.toArray) d rfl rfl dm oc nb rfl (fun x9 d => lS (Wh f6 (Wf rM (VA d Mh (jD g.jA) bR aH (V (wY (k := g.jA) (z := false) (vf := (fun (x : Bool) => (Value.bool x))) LY underlying134 ir rfl rfl (g3.at (fun b o hq => d.has.2 b o (Mt (Mt (Ml hq)))))) (Wm (LJ a1 (fun p3 E W => ∃ n7, ST false kQ w W f3 ((n8, Ol g5 56) :: ((I, Obj.cells b8 160 (0, 0)) :: (e5 ++ n7))) ∧ E 1 = j2 ∧ E 3 = m ∧ E 10 = (.pointer (some ⟨n8, 0, none⟩)) ∧ E 35 = j9 ∧ E 36 = l2 ∧ E 58 = g6 ∧ E 59 = (.int .i64 (((a.1).ns).length : Int)) ∧ E 60 = (.int .i64 (o5 : Int)) ∧ E 74 = (.bool p3)) 6 ?_ (fun p3 a2 j4 => ?_)))))))))
        ·rintro z8 E W ⟨n7, d, t9, o4, u0, u1, u2, u3, u4, u5, u6⟩ e3
         refine ln (CI e3 u6 (fun q1 e3 => ?_) (fun q1 e3 => ?_))
         ·refine sg (Wa (ln ?_))
          replace d := d.jE (Db (Db (Dr St)))
          refine kB (kI (mn (kI (mn (kI (mn (kI (mn (kI ?_)))))))))
          obtain rfl := sj e3
          replace i6 : some (Sum.inl false) = some H := i6
          obtain rfl := sj i6
          replace c5 : some false = some r := c5
          obtain rfl := sj c5
          exact rP d
         refine kn (jW (Wh o4 (V (jM rM u0) (VA d Mh (jD g.jA) bR aH ?_))))
         replace d := d.perm (Nr (Qb (Qb Qz)) Nz)
         refine VO (DR (k := g.jA) (v := true) (vf := (fun (x : Bool) => (Value.bool x)))  LY underlying134 d g3 rfl rfl rfl (fun y0 s5 d p9 => ky (kF (jQ ?_))))
         replace d := d.jE (Kr (Db St))
         exact ⟨u5, (mS kp g8 g.jA true), s5, _, ⟨rfl, u4⟩, (d.jE (Sb (Pr Pz) St)), t9, o4, u1, u2, u3, p9, (by rw [s4]; exact e3)⟩
        refine bC a2 (fun t a2 => ?_) (fun t a2 => ?_)
        ·refine un t (un t (un t (un t (un t (V (kd (cB t) rfl) ?_)))))
         obtain rfl := sj a2
         exact j4 _ _ ⟨_, (d.jE St), f5, f6, rfl, h8, h9, i0, q, l, rfl⟩
        refine ug t (jG f5 (jO d.has (Mt Mh) [(.string (((a.2.2).jI).Name)), b6, b7, (.string ((a.2.2).lG)), (.int .i64 ((a.2.2).Room)), b9, c0, c1, c3] rfl ew dN)) (ug t (jM rM rfl) (ug t (jG rfl (jO d.has Mh (jD g.jA) rfl bR aH)) (bS a2 fun y8 r4 a2 => rl t (Eg d call115 (Fq a.2.2 b6 b7 b9 c0 c1 c3 g.jA _ _ (m4.mono kT.mono d.jJ) (m5.mono mz.mono d.jJ) (m6.mono (Pl.mono _) d.jJ) (m7.mono (Pl.mono _) d.jJ) (m8.mono (Pl.mono _) d.jJ) (m9.mono (Pl.mono _) d.jJ) r4) (fun y1 d => ug t (mC rfl) (V (ke (cB t) rfl) ?_))))))
        obtain rfl := sj a2
        exact j4 _ _ ⟨_, (d.jE St), f5, f6, rfl, h8, h9, i0, q, l, rfl⟩
       rintro E W ⟨g8, e5, k1, ⟨l, q⟩, d, f5, f6, h8, h9, i0, g3, a1⟩
       rw [aP] at a1
       refine jQ ?_
       obtain rfl := sj a1
       exact ⟨_, rfl, e5, _, (d.jE St), f5, f6, h8, h9, g3⟩
      rintro u9 E W ⟨h6, n6, d, t5, t6, t7, t8, r8⟩ q7
      exact kF (jQ ⟨t8, u9, h6, (((a.2.2).jI).Name), b6, (((a.2.2).jI).jV), b7, (((a.2.2).jI).kx), ((a.2.2).lG), ((a.2.2).Room), b9, ((a.2.2).jU), c0, ((a.2.2).Shown), c1, ((a.2.2).kq), c3, ((a.2.2).lc), f3, _, ⟨rfl, t7⟩, (h1.trans p7), (d.jE St), t5, t6, r8, m4, m5, m6, m7, m8, m9, (by rw [s1]; exact q7)⟩)
     refine bC a3 (fun B a3 => ?_) (fun B a3 => ?_)
     ·refine un B (un B (un B (un B (V (kd (cB B) rfl) ?_))))
      obtain rfl := sj a3
      exact j5 _ _ ⟨_, (d.jE St), o0, o1, k7, o2, o3, rfl⟩
     refine ug B (jG k7 (jO d.has Mh [l0, l1, l5, l4, j1, g6] rfl gl dT)) (bS a3 fun y9 r5 a3 => rl B (Eg d call114 (ki.lD (DW a.1 j1 g6 _ _ (i9.mono (Pl.mono _) d.jJ) (c7.mono nC.mono d.jJ) r5)) (fun y2 d => ug B (jN s7) (ug B (Mc underlying4 rfl rfl rfl) (V (ke (cB B) rfl) ?_)))))
     obtain rfl := sj a3
     exact j5 _ _ ⟨_, (d.jE St), o0, o1, k7, o2, o3, rfl⟩
    refine bC a4 (fun J a4 => ?_) (fun J a4 => ?_)
    ·refine un J (un J (un J (V (kd (cB J) rfl) ?_)))
     obtain rfl := sj a4
     exact j6 _ _ ⟨_, (d.jE St), e6, k6, rfl, rfl, q, l, rfl⟩
    refine ug J (jG rfl (jO d.has Mh [l0, l1, l5, l4, j1, g6] rfl gl dT)) (bS a4 fun z0 r6 a4 => rl J (Eg d call113 (Ix a.1 j1 g6 _ _ (i9.mono (Pl.mono _) d.jJ) (c7.mono nC.mono d.jJ) r6) (fun y3 d => ug J (mC rfl) (V (ke (cB J) rfl) ?_))))
    obtain rfl := sj a4
    exact j6 _ _ ⟨_, (d.jE St), e6, k6, rfl, rfl, q, l, rfl⟩
   rintro E W ⟨g7, R, d8, a9, e7, s, e8, d9, e0, A, e9, F, f0, L, f1, O, f2, K, k0, ⟨l, q⟩, h1, d, e6, k6, m3, f7, f8, f9, g0, g1, g2, D⟩
   rw [aP] at D
   refine jQ ?_
   obtain rfl := sj D
   exact ⟨_, rfl, a9, s, A, F, L, O, K, _, h1, (d.jE (Kb (Dr St))), e6, f7, f8, f9, g0, g1, g2⟩
  rintro ⟨i1, o6, o7, i2, i3, o8, o9, p0, p1⟩ E W ⟨d2, d3, d4, d5, d6, d7, T, n2, w3, d, n9, l7, l8, l9, m0, m1, m2⟩ i5
  let x5 := (⟨(⟨i1, o6, o7⟩ : jI), i2, i3, o8, o9, p0, p1⟩ : lP)
  refine sg (V (jG n9 (jO d.has Mh [(.string i1), d2, d3, (.string i2), (.int .i64 i3), d4, d5, d6, d7] rfl ew dN)) (bS i5 fun y6 r0 i5 => VE (Eg d call111 (xu x5 d2 d3 d4 d5 d6 d7 _ _ (l7.mono kT.mono d.jJ) (l8.mono mz.mono d.jJ) (l9.mono (Pl.mono _) d.jJ) (m0.mono (Pl.mono _) d.jJ) (m1.mono (Pl.mono _) d.jJ) (m2.mono (Pl.mono _) d.jJ) r0) (fun x2 d => Wm (LJ i5 (fun p2 E W => ∃ n3, ST false kQ w W T n3 ∧ E 85 = (.bool p2)) 3 ?_ (fun p2 Z j3 => ?_))))))
  ·rintro z4 E W ⟨n3, d, s6⟩ q4
   exact Wg s6 (lt (rQ q4 d))
  refine bC Z (fun Y Z => ?_) (fun Y Z => ?_)
  ·refine ug Y (jG n9 (jO d.has Mh [(.string i1), d2, d3, (.string i2), (.int .i64 i3), d4, d5, d6, d7] rfl ew dN)) (bS Z fun y7 r1 Z => rl Y (Eg d call110 (CG x5 d2 d3 d4 d5 d6 d7 _ _ (l7.mono kT.mono d.jJ) (l8.mono mz.mono d.jJ) (l9.mono (Pl.mono _) d.jJ) (m0.mono (Pl.mono _) d.jJ) (m1.mono (Pl.mono _) d.jJ) (m2.mono (Pl.mono _) d.jJ) r1) (fun x3 d => V (kd (cB Y) rfl) ?_)))
   obtain rfl := sj Z
   exact j3 _ _ ⟨_, (d.jE (Db St)), rfl⟩
  refine un Y (un Y (V (ke (cB Y) rfl) ?_))
  obtain rfl := sj Z
  exact j3 _ _ ⟨_, (d.jE (Db St)), rfl⟩
 refine bC a5 (fun d0 a5 => ?_) (fun d0 a5 => ?_)
 ·refine un d0 (un d0 (un d0 (V (kd (cB d0) rfl) ?_)))
  obtain rfl := sj a5
  exact j7 _ _ ⟨_, (d.jE St), rfl, rfl⟩
 refine ug d0 (jG rfl (jO d.has Mh a0 rfl ew dN)) (bS a5 fun z1 r7 a5 => rl d0 (Eg d call110 (CG c l6 p8 ag l3 aq ar _ _ (j.mono kT.mono d.jJ) (y.mono mz.mono d.jJ) (G.mono (Pl.mono _) d.jJ) (u.mono (Pl.mono _) d.jJ) (Q.mono (Pl.mono _) d.jJ) (U.mono (Pl.mono _) d.jJ) r7) (fun y4 d => ug d0 (mC rfl) (V (ke (cB d0) rfl) ?_))))
 obtain rfl := sj a5
 exact j7 _ _ ⟨_, (d.jE St), rfl, rfl⟩
end Go.Proofs.YtmlncblocfcmiaaGreat
