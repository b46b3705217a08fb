/- a part of a proof of StuckTells -/
import Derived.Test.YtmlncblocfcmiaaGreatS1W2t
set_option linter.all false
namespace Go.Proofs.YtmlncblocfcmiaaGreat
open Go.RowKit
set_option maxRecDepth 10000
open Tryz
set_option maxHeartbeats 1000000 in
theorem EI (d8 : Formula → Option Bool) (i9 : ∀ (a : Formula) (x : Value) (r : Bool) (w : World) (k : Sl jt 5 (hp w) x a.Kids), d8 a = some r → jS false Tryz.prog 349 [(.agg #[(.int .i64 a.Op), (.int .i64 a.K), (.string a.jq.js), (.string a.jq.jy), x])] w (.bool r)) (a : Formula) (x : Value) (r : Bool) (w : World) (k : Sl jt 5 (hp w) x a.Kids) (hm : xf d8 a = some r) :
  jS false Tryz.prog 349 [(.agg #[(.int .i64 a.Op), (.int .i64 a.K), (.string a.jq.js), (.string a.jq.jy), x])] w (.bool r) := by
 refine cG 81 func349 rfl (fun b => sg ?_)
 obtain ⟨A1, c2, rfl⟩ := k.form
 let b8 := (C1 a.Op a.K a.jq.js a.jq.jy A1 a.Kids.length c2)
 refine VE (km b rfl (fun W4 H b => Wa (lr (Wf mO (VB b Mh rfl rfl dB (V (kK aD rfl k) (Wa (lS ?_))))))))
 refine Wf mN (VB b Mh rfl rfl cC (Wi rfl (ln (CI hm rfl (fun k0 hm => ?_) (fun k0 hm => ?_)))))
 ·refine sg (Wf rB (VA b Mh (jA a.jq) bG aQ (bS hm fun r6 k1 hm => VE (Eg b call241 (jS.li (xE a.jq _ _  k1)) (fun W8 b => Wm (LJ hm (fun h2 E W => ∃ f9, ST false ku w W (hp w) ((H, Ol b8 113) :: f9) ∧ E 1 = (.pointer (some ⟨H, 0, none⟩)) ∧ E 2 = (.bool false) ∧ E 18 = (.bool h2)) 3 ?_ (fun h2 m c8 => ?_)))))))
  ·rintro l5 E W ⟨f9, b, j3, g7, j4⟩ i4
   refine Wh j4 (LJ i4 (fun h1 E W => ∃ g0, ST false ku w W (hp w) g0 ∧ E 2 = (.bool false) ∧ E 23 = (.bool h1)) 4 ?_ (fun h1 a5 c7 => ?_))
   ·rintro l6 E W ⟨g0, b, l4, j5⟩ i5
    refine Wg j5 (lt (kj ?_))
    obtain rfl := sj i5
    exact rP b
   refine bC a5 (fun B a5 => ?_) (fun B a5 => ?_)
   ·refine ug B (jC pA j3) (ug B (jw rfl (jO b.has Mh rfl cC)) (ug B (kx rfl rfl rfl) (V (jM (cB B) rfl) ?_)))
    obtain rfl := sj a5
    exact c7 _ _ ⟨_, (b.ju (Db St)), g7, rfl⟩
   refine un B (un B (un B (V (jN (cB B) rfl) ?_)))
   obtain rfl := sj a5
   exact c7 _ _ ⟨_, (b.ju (Db St)), g7, rfl⟩
  refine bC m (fun a4 m => ?_) (fun a4 m => ?_)
  ·refine ug a4 (jE rfl) (ug a4 (kx rfl rfl rfl) (V (jM (cB a4) rfl) ?_))
   obtain rfl := sj m
   exact c8 _ _ ⟨_, (b.ju St), rfl, rfl, rfl⟩
  refine un a4 (un a4 (V (jN (cB a4) rfl) ?_))
  obtain rfl := sj m
  exact c8 _ _ ⟨_, (b.ju St), rfl, rfl, rfl⟩
 let a0 := (b8.toArray : Array Value)
 let d : Value := (.pointer (some ⟨H, 0, none⟩))
 refine kS (Wf mN (VB b Mh rfl rfl cC (Wi rfl (Wm (LJ hm (fun e6 E W => ∃ g1, ST false ku w W (hp w) ((H, Obj.cells a0 113 (0, 0)) :: g1) ∧ E 1 = d ∧ E 3 = (.int .i64 (a.Kids.length : Int)) ∧ E 31 = (.bool e6)) 4 ?_ (fun e6 Z c0 => ?_))))))
 ·let p : Value := (.int .i64 (a.Kids.length : Int))
  rintro l7 E W ⟨g1, b, d5, g8, j6⟩ i6
  refine Wh j6 (LJ i6 (fun e5 E W => ∃ g2, ST false ku w W (hp w) ((H, Obj.cells a0 113 (0, 0)) :: g2) ∧ E 1 = d ∧ E 3 = p ∧ E 37 = (.bool e5)) 5 ?_ (fun e5 Y b9 => ?_))
  ·rintro l8 E W ⟨g2, b, g9, d6, j7⟩ i7
   refine Wh j7 (LJ i7 (fun e4 E W => ∃ g3, ST false ku w W (hp w) ((H, Obj.cells a0 113 (0, 0)) :: g3) ∧ E 1 = d ∧ E 3 = p ∧ E 41 = (.bool e4)) 3 ?_ (fun e4 U b7 => ?_))
   ·rintro l9 E W ⟨g3, b, q, h0, j8⟩ n
    refine ln (CI n j8 (fun i3 n => ?_) (fun i3 n => ?_))
    ·refine sg (Wa (ln ?_))
     replace b := b.ju (Db St)
     refine jU (kj ?_)
     obtain rfl := sj n
     exact rP b
    refine kS (V (jC mN q) (VB b Mh rfl rfl cC (Wi rfl (Wm (LJ n (fun e3 E W => ∃ g4, ST false ku w W (hp w) ((H, Obj.cells a0 113 (0, 0)) :: g4) ∧ E 1 = d ∧ E 3 = p ∧ E 49 = (.bool e3)) 4 ?_ (fun e3 T b6 => ?_))))))
    ·rintro F E W ⟨g4, b, l, d7, j9⟩ i8
     refine Wh j9 (LJ i8 (fun d9 E W => ∃ c9, ST false ku w W (hp w) ((H, Obj.cells a0 113 (0, 0)) :: c9) ∧ E 1 = d ∧ E 69 = (.bool d9)) 19 ?_ (fun d9 K R => ?_))
     ·rintro l0 E W ⟨c9, b, h3, h4⟩ J
      refine ln (CI J h4 (fun e8 J => ?_) (fun e8 J => ?_))
      ·refine sg (Wa (ln ?_))
       replace b := b.ju (Db St)
       refine jU (kj ?_)
       obtain rfl := sj J
       exact rP b
      refine kS (V (jC mO h3) (VB b Mh rfl rfl dB (V (kK aD rfl k) (Wm (ln ?_)))))
      replace b := b.ju (Db St)
      refine kB (fun i E W => ∃ c1, (E 73 = .int .i64 (i : Nat) ∧ E 72 = .int .i64 (a.Kids.length : Nat)) ∧ ST false ku w W (hp w) c1 ∧ E 71 = (.slice A1 a.Kids.length c2) ∧ rY d8 (a.Kids.drop i) = some r) a.Kids.length k.len ⟨_, ⟨rfl, rfl⟩, (b.ju St), rfl, J⟩ dc dc dc (fun _ _ _ h => by obtain ⟨_, O, _⟩ := h; exact O) ?_ ?_
      ·rintro j0 E W f0 ⟨c1, ⟨L, eN⟩, b, s, j⟩
       obtain ⟨g, k2, f7, f6, f8⟩ := kq f0
       rw [f7] at j
       refine bg (VQ (lK (i := (j0 : Int)) (x0 := g) jt.out aD aB s L k (aH _) f6) (fun k7 ⟨_, ⟨k9, rfl, c6⟩, f4⟩ => V (jw rfl (jR b.has f4 aG aB)) (VE (kf b aM (fun k3 k6 b => ?_)))))
       obtain ⟨a9, P, rfl⟩ := c6.form
       let a2 := (C1 g.Op g.K g.jq.js g.jq.jy a9 g.Kids.length P)
       refine VO (jL (.agg a2.toArray) (a2.toArray) b rfl rfl aB oc nb rfl (fun k4 b => lr (VA b Mh a2 aG aB (bS j fun k8 f5 j => VE (Eg b call349 (i9 g (.slice a9 g.Kids.length P) _ _ (c6.mono jB.mono b.jD) f5) (fun k5 b => V (nH rfl) (ln ?_)))))))
       replace b := b.ju (Db St)
       refine CI j rfl (fun e9 j => ?_) (fun e9 j => ?_)
       ·refine sg (Wa (lt (me (kj (me (kj ?_))))))
        obtain rfl := sj j
        exact rP b
       exact kP (ko (jF ⟨L, _, ⟨rfl, eN⟩, (b.ju St), s, (by rw [f8]; exact j)⟩))
      rintro E W ⟨c1, ⟨L, eN⟩, b, s, j⟩
      rw [aN] at j
      exact jF (sg (Wa (lt (rQ j b))))
     refine bC K (fun u K => ?_) (fun u K => ?_)
     ·refine un u (un u (un u (un u (Vu rfl rfl (Vu rfl rfl (Vu rfl rfl (Vu rfl rfl (Vu rfl rfl (Vu rfl rfl (Vu rfl rfl (Vu rfl rfl (Vu rfl rfl (Vu rfl rfl (Vu rfl rfl ?_))))))))))))))
      refine Vu rfl rfl (Vu rfl rfl (un u (V (jM (cB u) rfl) ?_)))
      obtain rfl := sj K
      exact R _ _ ⟨_, (b.ju St), l, rfl⟩
     refine ug u (jC mN l) (ug u (jw rfl (jO b.has Mh rfl cC)) (ug u (kx rfl rfl rfl) (ug u (jE rfl) (LJ K (fun e0 E W => ∃ d0, ST false ku w W (hp w) ((H, Obj.cells a0 113 (0, 0)) :: d0) ∧ E 1 = d ∧ E 50 = (.bool F) ∧ E 68 = (.bool e0)) 14 ?_ (fun e0 M b2 => ?_)))))
     ·rintro l1 E W ⟨d0, b, h5, h6, h7⟩ f1
      refine V (jN (h6.trans (cB u)) h7) ?_
      obtain rfl := sj f1
      exact R _ _ ⟨_, (b.ju St), h5, rfl⟩
     refine bC M (fun c M => ?_) (fun c M => ?_)
     ·refine ug c (jE d7) (ug c (kx rfl rfl rfl) (ug c (jE rfl) (LJ M (fun e2 E W => ∃ d1, ST false ku w W (hp w) ((H, Obj.cells a0 113 (0, 0)) :: d1) ∧ E 1 = d ∧ E 3 = p ∧ E 50 = (.bool F) ∧ E 54 = (.bool (a.Op == 4)) ∧ E 61 = (.bool e2)) 4 ?_ (fun e2 Q b5 => ?_))))
      ·rintro l2 E W ⟨d1, b, A, h8, d3, a3, h9⟩ f2
       refine Vg rfl (a3.trans (cB c)) (jE h9) (LJ f2 (fun e1 E W => ∃ d2, ST false ku w W (hp w) ((H, Obj.cells a0 113 (0, 0)) :: d2) ∧ E 1 = d ∧ E 50 = (.bool F) ∧ E 54 = (.bool (a.Op == 4)) ∧ E 67 = (.bool e1)) 5 ?_ (fun e1 N b4 => ?_))
       ·rintro l3 E W ⟨d2, b, i0, d4, i1, i2⟩ f3
        refine Vg rfl (d4.trans (cB u)) (jM (i1.trans (cB c)) i2) ?_
        obtain rfl := sj f3
        exact b2 _ _ ⟨_, (b.ju St), i0, d4, rfl⟩
       refine bC N (fun t N => ?_) (fun t N => ?_)
       ·refine un t (un t (un t (un t (Vg rfl (a3.trans (cB c)) (jM (cB t) rfl) ?_))))
        obtain rfl := sj N
        exact b4 _ _ ⟨_, (b.ju St), A, d3, a3, rfl⟩
       refine ug t (jC pA A) (ug t (jw rfl (jO b.has Mh rfl cC)) (ug t (jE h8) (ug t (kx rfl rfl rfl) (Vg rfl (a3.trans (cB c)) (jN (cB t) rfl) ?_))))
       obtain rfl := sj N
       exact b4 _ _ ⟨_, (b.ju St), A, d3, a3, rfl⟩
      refine bC Q (fun y Q => ?_) (fun y Q => ?_)
      ·refine un y (un y (un y (ug c (jM (cB y) rfl) ?_)))
       obtain rfl := sj Q
       exact b5 _ _ ⟨_, (b.ju St), l, d7, rfl, rfl, rfl⟩
      refine ug y (jC pA l) (ug y (jw rfl (jO b.has Mh rfl cC)) (ug y (kx rfl rfl rfl) (ug c (jN (cB y) rfl) ?_)))
      obtain rfl := sj Q
      exact b5 _ _ ⟨_, (b.ju St), l, d7, rfl, rfl, rfl⟩
     refine un c (un c (un c (Vu rfl rfl (Vu rfl rfl (Vu rfl rfl (un c (un c (Vu rfl rfl (Vu rfl rfl (Vu rfl rfl (Vu rfl rfl (un c (ug u (jN (cB c) rfl) ?_)))))))))))))
     obtain rfl := sj M
     exact b2 _ _ ⟨_, (b.ju St), l, rfl, rfl⟩
    refine bC T (fun G T => ?_) (fun G T => ?_)
    ·refine ug G (jC pA q) (ug G (jw rfl (jO b.has Mh rfl cC)) (ug G (kx rfl rfl rfl) (V (jM (cB G) rfl) ?_)))
     obtain rfl := sj T
     exact b6 _ _ ⟨_, (b.ju St), q, h0, rfl⟩
    refine un G (un G (un G (V (jN (cB G) rfl) ?_)))
    obtain rfl := sj T
    exact b6 _ _ ⟨_, (b.ju St), q, h0, rfl⟩
   refine bC U (fun I U => ?_) (fun I U => ?_)
   ·refine un I (un I (V (jM (cB I) rfl) ?_))
    obtain rfl := sj U
    exact b7 _ _ ⟨_, (b.ju St), g9, d6, rfl⟩
   refine ug I (jE d6) (ug I (kx rfl rfl rfl) (V (jN (cB I) rfl) ?_))
   obtain rfl := sj U
   exact b7 _ _ ⟨_, (b.ju St), g9, d6, rfl⟩
  refine bC Y (fun z Y => ?_) (fun z Y => ?_)
  ·refine un z (un z (un z (un z (V (jM (cB z) rfl) ?_))))
   obtain rfl := sj Y
   exact b9 _ _ ⟨_, (b.ju St), d5, g8, rfl⟩
  refine ug z (jC rB d5) (ug z (jw rfl (jz b.has Mh (jA a.jq) rfl bG aQ)) (ug z (kZ (v := (.agg (jA K0).toArray)) pM (kE eH cZ (G7 _ cZ) kr)) (ug z (Gm rfl rfl (nm eA) (B9 (po _ a.jq K0))) (V (jN (cB z) rfl) ?_))))
  obtain rfl := sj Y
  exact b9 _ _ ⟨_, (b.ju St), d5, g8, rfl⟩
 refine bC Z (fun D Z => ?_) (fun D Z => ?_)
 ·refine un D (un D (un D (V (jM (cB D) rfl) ?_)))
  obtain rfl := sj Z
  exact c0 _ _ ⟨_, (b.ju St), rfl, rfl, rfl⟩
 refine ug D (jC mN rfl) (ug D (jw rfl (jO b.has Mh rfl cC)) (ug D (kx rfl rfl rfl) (V (jN (cB D) rfl) ?_)))
 obtain rfl := sj Z
 exact c0 _ _ ⟨_, (b.ju St), rfl, rfl, rfl⟩
theorem DB : ∀ (n : Nat) (c : Formula) (a : Value) (r : Bool) (w : World) (g : Sl jt 5 (hp w) a c.Kids) (_ : rW n c = some r),
  jS false Tryz.prog 349 [(.agg #[(.int .i64 c.Op), (.int .i64 c.K), (.string c.jq.js), (.string c.jq.jy), a])] w (.bool r)
 | 0 => by intros; rename_i h; simp only [rW] at h; cases h
 | n + 1 => EI (rW n) (DB n)
theorem xI (a : Formula) (t : Value) (r : Bool) (w : World) (c : Sl jt 5 (hp w) t a.Kids) (hm : qT a = some r) :
  jS false Tryz.prog 291 [(.agg #[(.int .i64 a.Op), (.int .i64 a.K), (.string a.jq.js), (.string a.jq.jy), t])] w (.bool r) := by
 refine cG 15 func291 rfl (fun b => sg ?_)
 obtain ⟨u, x, rfl⟩ := c.form
 let d : Value := (.slice u a.Kids.length x)
 let a0 := (C1 a.Op a.K a.jq.js a.jq.jy u a.Kids.length x)
 refine VE (km b rfl (fun W4 Q b => Wa (lr (VA b Mh a0 aG aB (bS hm fun n Z hm => VE (Eg b call347 ((CZ jY) a d _ _ (c.mono jB.mono b.jD) Z) (fun W7 b => Wi rfl (Wm (LJ hm (fun I E W => ∃ B, ST false ku w W (hp w) ((Q, Ol a0 113) :: B) ∧ E 1 = (.pointer (some ⟨Q, 0, none⟩)) ∧ E 2 = (.bool false) ∧ E 10 = (.bool I)) 4 ?_ (fun I j z => ?_))))))))))
 ·rintro l E W ⟨B, b, T, G, U⟩ J
  refine Wh U (LJ J (fun H E W => ∃ D, ST false ku w W (hp w) D ∧ E 2 = (.bool false) ∧ E 14 = (.bool H)) 3 ?_ (fun H i y => ?_))
  ·rintro m E W ⟨D, b, a3, Y⟩ K
   exact Wg Y (lt (rQ K b))
  refine bC i (fun g i => ?_) (fun g i => ?_)
  ·refine ug g (jw T (jz b.has Mh a0 rfl aG aB)) (bS i fun a4 M i => qI g (Eg b call349 ((DB jY) a d _ _ (c.mono jB.mono b.jD) M) (fun h b => V (jM (cB g) rfl) ?_)))
   obtain rfl := sj i
   exact y _ _ ⟨_, (b.ju (Db St)), G, rfl⟩
  refine un g (un g (V (jN (cB g) rfl) ?_))
  obtain rfl := sj i
  exact y _ _ ⟨_, (b.ju (Db St)), G, rfl⟩
 refine bC j (fun k j => ?_) (fun k j => ?_)
 ·refine ug k (jw rfl (jz b.has Mh a0 rfl aG aB)) (bS j fun a5 N j => qI k (Eg b call348 ((Eb jY) a d _ _ (c.mono jB.mono b.jD) N) (fun a2 b => ug k (kx rfl rfl rfl) (V (jM (cB k) rfl) ?_))))
  obtain rfl := sj j
  exact z _ _ ⟨_, (b.ju St), rfl, rfl, rfl⟩
 refine un k (un k (un k (V (jN (cB k) rfl) ?_)))
 obtain rfl := sj j
 exact z _ _ ⟨_, (b.ju St), rfl, rfl, rfl⟩
theorem yh (i : Formula) (g : Value) (x : Int) (r : Bool) (w : World) (c : Sl jt 5 (hp w) g i.Kids) (hm : uO i x = some r) :
  jS true Tryz.prog 431 [(.agg #[(.int .i64 i.Op), (.int .i64 i.K), (.string i.jq.js), (.string i.jq.jy), g]), (.int .i64 x)] w (.bool r) := by
 refine cG 15 func431 rfl (fun b => sg ?_)
 obtain ⟨B, D, rfl⟩ := c.form
 refine VE (km b rfl (fun G H b => Wa (lr (Wf mN (VB b Mh rfl rfl cC (Wm (Wi rfl (Wm (LJ hm (fun t E W => ∃ u, ST true ku w W (hp w) u ∧ E 4 = (.bool false) ∧ E 14 = (.bool t)) 5 ?_ (fun t j k => ?_))))))))))
 ·rintro J E W ⟨u, b, I, y⟩ z
  exact Wg y (lt (rQ z b))
 refine bC j (fun a j => ?_) (fun a j => ?_)
 ·refine ug a (jC mO rfl) (ug a (jw rfl (jO b.has Mh rfl dB)) (ug a (kK aD rfl c) (ug a (kx rfl rfl rfl) (V (jM (cB a) rfl) ?_))))
  obtain rfl := sj j
  exact k _ _ ⟨_, (b.ju (Db St)), rfl, rfl⟩
 refine un a (un a (un a (un a (V (jN (cB a) rfl) ?_))))
 obtain rfl := sj j
 exact k _ _ ⟨_, (b.ju (Db St)), rfl, rfl⟩
theorem D6 (I : Formula → Option ByteArray) (p : ∀ (a : Formula) (k : Value) (r : ByteArray) (w : World) (c : Sl jt 5 (hp w) k a.Kids), I a = some r → jS false Tryz.prog 463 [(.agg #[(.int .i64 a.Op), (.int .i64 a.K), (.string a.jq.js), (.string a.jq.jy), k])] w (.string r)) (a : Formula) (k : Value) (r : ByteArray) (w : World) (c : Sl jt 5 (hp w) k a.Kids) (hm : wB I a = some r) :
  jS false Tryz.prog 463 [(.agg #[(.int .i64 a.Op), (.int .i64 a.K), (.string a.jq.js), (.string a.jq.jy), k])] w (.string r) := by
 refine cG 44 func463 rfl (fun b => sg ?_)
 obtain ⟨A1, c2, rfl⟩ := c.form
 refine VE (km b rfl (fun W4 m b => Wa (lr (Wf mN (VB b Mh rfl rfl cC (bS hm fun r5 P hm => VE (Eg b call258 (jS.li (uI a.Op _ _  P)) (fun W7 b => Wa (ln (jK (jK ?_)))))))))))
 refine jI (Wf mN (VB b Mh rfl rfl cC (Wi rfl (ln (CI hm rfl (fun O hm => ?_) (fun O hm => ?_))))))
 ·refine sg (Wm (Wf rB (VA b Mh (jA a.jq) bG aQ (bS hm fun r9 a4 hm => VE (Eg b call259 (jS.li (xC a.jq _ _  a4)) (fun d3 b => bS hm fun d6 q hm => V (wX rfl rfl q) (Wa (ln ?_))))))))
  replace b := b.ju (Db St)
  refine jU (kj ?_)
  obtain rfl := sj hm
  exact rP b
 refine kn (jK (CJ hm (fun J E W => ∃ Y, ST false ku w W (hp w) ((m, Ol (C1 a.Op a.K a.jq.js a.jq.jy A1 a.Kids.length c2) 113) :: Y) ∧ E 1 = (.pointer (some ⟨m, 0, none⟩)) ∧ E 3 = (.string J)) (fun J t => ?_) ?_))
 ·refine sg (Wf mN (VB b Mh rfl rfl cC (Wi rfl (ln (CI t rfl (fun K t => ?_) (fun K t => ?_))))))
  ·refine jI (Wm (Wf pA (VB b Mh rfl rfl cC (bS t fun c9 Q t => VE (Eg b call258 (jS.li (uI a.K _ _  Q)) (fun c5 b => bS t fun d0 U t => V (wX rfl rfl U) (Wa (ln ?_))))))))
   obtain rfl := sj t
   exact ⟨_, (b.ju St), rfl, rfl⟩
  refine kn ?_
  obtain rfl := sj t
  exact ⟨_, (b.ju St), rfl, rfl⟩
 rintro d7 E W ⟨Y, b, Z, L⟩ u
 refine sg (Wh L (V (jC mO Z) (VB b Mh rfl rfl dB (V (kK aD rfl c) (bS u fun d5 a5 u => VE (Eg b call258 (jS.li (uI (a.Kids.length : Int) _ _  a5)) (fun d4 b => bS u fun c0 s u => V (wX rfl rfl s) (Wa (ln (jK (jK ?_)))))))))))
 refine jI (V (jC mO Z) (VB b Mh rfl rfl dB (V (kK aD rfl c) (Wm (ln ?_)))))
 replace b := b.ju (Db St)
 refine kB (fun i E W => ∃ z B, (E 34 = .int .i64 (i : Nat) ∧ E 33 = .int .i64 (a.Kids.length : Nat)) ∧ ST false ku w W (hp w) B ∧ E 3 = (.string z) ∧ E 32 = (.slice A1 a.Kids.length c2) ∧ rn I (a.Kids.drop i) z = some r) a.Kids.length c.len ⟨c0, _, ⟨rfl, rfl⟩, (b.ju St), rfl, rfl, u⟩ dc dc dc (fun _ _ _ h => by obtain ⟨_, _, l, _⟩ := h; exact l) ?_ ?_
 ·rintro R E W a3 ⟨z, B, ⟨d, n⟩, b, D, G, g⟩
  obtain ⟨j, d2, v, a9, A⟩ := kq a3
  rw [v] at g
  refine bg (VQ (lK (i := (R : Int)) (x0 := j) jt.out aD aB G d c (aH _) a9) (fun c7 ⟨_, ⟨d1, rfl, H⟩, M⟩ => V (jw rfl (jR b.has M aG aB)) (VE (kf b aM (fun c1 c6 b => ?_)))))
  obtain ⟨x, y, rfl⟩ := H.form
  let a0 := (C1 j.Op j.K j.jq.js j.jq.jy x j.Kids.length y)
  refine VO (jL (.agg a0.toArray) (a0.toArray) b rfl rfl aB oc nb rfl (fun c3 b => ln (jI (Wh D (VA b Mh a0 aG aB (bS g fun c8 N g => VE (Eg b call463 (p j (.slice x j.Kids.length y) _ _ (H.mono jB.mono b.jD) N) (fun c4 b => bS g fun F T g => V (wX rfl rfl T) (Wa (jW (ko (jF ?_))))))))))))
  replace b := b.ju (Db St)
  exact ⟨d, F, _, ⟨rfl, n⟩, (b.ju St), rfl, G, (by rw [A]; exact g)⟩
 rintro E W ⟨z, B, ⟨d, n⟩, b, D, G, g⟩
 rw [aN] at g
 exact jF (sg (Wh D (Wa (lt (rQ g b)))))
theorem zP : ∀ (n : Nat) (c : Formula) (a : Value) (r : ByteArray) (w : World) (g : Sl jt 5 (hp w) a c.Kids) (_ : pd n c = some r),
  jS false Tryz.prog 463 [(.agg #[(.int .i64 c.Op), (.int .i64 c.K), (.string c.jq.js), (.string c.jq.jy), a])] w (.string r)
 | 0 => by intros; rename_i h; simp only [pd] at h; cases h
 | n + 1 => D6 (pd n) (zP n)
theorem GH (c : Formula) (u : Value) (a : Formula) (x : Value) (r : Int) (w : World) (k : Sl jt 5 (hp w) u c.Kids) (t : Sl jt 5 (hp w) x a.Kids) (hm : vW c a = some r) :
  jS false Tryz.prog 455 [(.agg #[(.int .i64 c.Op), (.int .i64 c.K), (.string c.jq.js), (.string c.jq.jy), u]), (.agg #[(.int .i64 a.Op), (.int .i64 a.K), (.string a.jq.js), (.string a.jq.jy), x])] w (.int .i64 r) := by
 refine cG 21 func455 rfl (fun b => sg ?_)
 obtain ⟨B, D, rfl⟩ := k.form
 let d := (C1 c.Op c.K c.jq.js c.jq.jy B c.Kids.length D)
 refine VE (km b rfl (fun W4 s b => ?_))
 obtain ⟨y, z, rfl⟩ := t.form
 let a0 := (C1 a.Op a.K a.jq.js a.jq.jy y a.Kids.length z)
 refine VE (km b rfl (fun W8 h b => Wa (lr (Wa (lr (Wa (ln (jK ?_))))))))
 refine CJ hm (fun Q E W => ∃ G, ST false ku w W (hp w) ((h, Ol a0 113) :: G) ∧ E 3 = (.pointer (some ⟨h, 0, none⟩)) ∧ E 5 = (.string Q) ∧ E 6 = (.string zS)) (fun Q j => ?_) ?_
 ·refine sg (VA b (Mt Mh) d aG aB (bS j fun L a5 j => VE (Eg b call291 (xI c (.slice B c.Kids.length D) _ _ (k.mono jB.mono b.jD) a5) (fun q b => ln (CI j rfl (fun Z j => ?_) (fun Z j => ?_))))))
  ·refine jI (VA b (Mt Mh) d aG aB (bS j fun O l j => VE (Eg b call463 ((zP jY) c (.slice B c.Kids.length D) _ _ (k.mono jB.mono b.jD) l) (fun v b => Wa (ln ?_)))))
   obtain rfl := sj j
   exact ⟨_, (b.ju (Kb (Db St))), rfl, rfl, rfl⟩
  refine kn ?_
  obtain rfl := sj j
  exact ⟨_, (b.ju (Kb (Db St))), rfl, rfl, rfl⟩
 rintro a9 E W ⟨G, b, I, J, m⟩ a2
 refine jK (CJ a2 (fun N E W => ∃ H, ST false ku w W (hp w) H ∧ E 5 = (.string a9) ∧ E 6 = (.string N)) (fun N i => ?_) ?_)
 ·refine sg (V (jw I (jz b.has Mh a0 rfl aG aB)) (bS i fun A a3 i => VE (Eg b call291 (xI a (.slice y a.Kids.length z) _ _ (t.mono jB.mono b.jD) a3) (fun n b => ln (CI i rfl (fun Y i => ?_) (fun Y i => ?_))))))
  ·refine jI (V (jw I (jz b.has Mh a0 rfl aG aB)) (bS i fun F a4 i => VE (Eg b call463 ((zP jY) a (.slice y a.Kids.length z) _ _ (t.mono jB.mono b.jD) a4) (fun p b => Wa (ln ?_)))))
   obtain rfl := sj i
   exact ⟨_, (b.ju (Db St)), J, rfl⟩
  refine kn ?_
  obtain rfl := sj i
  exact ⟨_, (b.ju (Db St)), J, m⟩
 rintro c1 E W ⟨H, b, K, M⟩ g
 refine jK (sg (Wh K (Wh M (V (qX rfl rfl rfl) (ln (CI g rfl (fun T g => ?_) (fun T g => ?_)))))))
 ·refine sg (Wa (lt (kj ?_)))
  obtain rfl := sj g
  exact rP b
 refine kS (Wh K (Wh M (V (qX rfl rfl rfl) (ln (CI g rfl (fun U g => ?_) (fun U g => ?_))))))
 ·refine sg (Wa (lt (kj ?_)))
  obtain rfl := sj g
  exact rP b
 exact kg (Wa (lt (rQ g b)))
theorem EK (s : Formula → Formula → Option Bool) (d8 : ∀ (a : Formula) (u : Value) (c : Formula) (x : Value) (r : Bool) (w : World) (k : Sl jt 5 (hp w) u a.Kids) (y : Sl jt 5 (hp w) x c.Kids), s a c = some r → jS false Tryz.prog 290 [(.agg #[(.int .i64 a.Op), (.int .i64 a.K), (.string a.jq.js), (.string a.jq.jy), u]), (.agg #[(.int .i64 c.Op), (.int .i64 c.K), (.string c.jq.js), (.string c.jq.jy), x])] w (.bool r)) (a : Formula) (u : Value) (c : Formula) (x : Value) (r : Bool) (w : World) (k : Sl jt 5 (hp w) u a.Kids) (y : Sl jt 5 (hp w) x c.Kids) (hm : xe s a c = some r) :
  jS false Tryz.prog 290 [(.agg #[(.int .i64 a.Op), (.int .i64 a.K), (.string a.jq.js), (.string a.jq.jy), u]), (.agg #[(.int .i64 c.Op), (.int .i64 c.K), (.string c.jq.js), (.string c.jq.jy), x])] w (.bool r) := by
 refine cG 53 func290 rfl (fun b => sg ?_)
 obtain ⟨Z, c2, rfl⟩ := k.form
 let m := (C1 a.Op a.K a.jq.js a.jq.jy Z a.Kids.length c2)
 refine VE (km b rfl (fun W4 I b => ?_))
 obtain ⟨A5, c6, rfl⟩ := y.form
 let a0 := (C1 c.Op c.K c.jq.js c.jq.jy A5 c.Kids.length c6)
 refine VE (km b rfl (fun W8 J b => Wa (lS (Wf mN (VB b (Mt Mh) rfl rfl cC (Wf mN (VB b Mh rfl rfl cC (Wi rfl (Wm (LJ hm (fun O E W => ∃ d1, ST false ku w W (hp w) ((J, Ol a0 113) :: ((I, Ol m 113) :: d1)) ∧ E 2 = (.pointer (some ⟨I, 0, none⟩)) ∧ E 3 = (.pointer (some ⟨J, 0, none⟩)) ∧ E 17 = (.bool O)) 6 ?_ (fun O G N => ?_)))))))))))
 ·let a3 : Value := (.pointer (some ⟨J, 0, none⟩))
  let a2 : Value := (.pointer (some ⟨I, 0, none⟩))
  rintro f1 E W ⟨d1, b, a5, n, e1⟩ d6
  refine Wh e1 (LJ d6 (fun L E W => ∃ d2, ST false ku w W (hp w) ((J, Ol a0 113) :: ((I, Ol m 113) :: d2)) ∧ E 2 = a2 ∧ E 3 = a3 ∧ E 24 = (.bool L)) 6 ?_ (fun L D M => ?_))
  ·rintro f2 E W ⟨d2, b, p, q, e2⟩ d7
   refine Wh e2 (LJ d7 (fun F E W => ∃ d3, ST false ku w W (hp w) ((J, Ol a0 113) :: ((I, Ol m 113) :: d3)) ∧ E 2 = a2 ∧ E 3 = a3 ∧ E 33 = (.bool F)) 8 ?_ (fun F B K => ?_))
   ·rintro f3 E W ⟨d3, b, d4, e3, e4⟩ H
    refine ln (CI H e4 (fun d5 H => ?_) (fun d5 H => ?_))
    ·refine sg (Wa (ln ?_))
     replace b := b.ju (Db (Db St))
     refine jU (kj ?_)
     obtain rfl := sj H
     exact rP b
    refine kS (V (jC mO d4) (VB b (Mt Mh) rfl rfl dB (V (kK aD rfl k) (Wm (ln (kB (fun i E W => ∃ Q, (E 37 = .int .i64 (i : Nat) ∧ E 36 = .int .i64 (a.Kids.length : Nat)) ∧ ST false ku w W (hp w) ((J, Ol a0 113) :: ((I, Ol m 113) :: Q)) ∧ E 2 = a2 ∧ E 3 = a3 ∧ sm c s (a.Kids.drop i) i = some r) a.Kids.length k.len ⟨_, ⟨rfl, rfl⟩, (b.ju St), d4, e3, H⟩ dc dc dc (fun _ _ _ h => by obtain ⟨_, A, _⟩ := h; exact A) ?_ ?_))))))
    ·rintro a9 E W c0 ⟨Q, ⟨v, eN⟩, b, T, U, g⟩
     obtain ⟨P, e5, c9, c8, d0⟩ := kq c0
     rw [c9] at g
     refine bg (Wh v (Wa (ln (jK ?_))))
     replace b := b.drew
     have d := b.has.ju (Kb (Kb Sn))
     refine kJ d kw (X 0 rfl d (jC mO T) (XH 1 rfl d (fun _ l => jw rfl (jO l (Mt Mh) rfl dB)) (X 2 rfl d (jE rfl) (XQ 3 rfl d (lK (i := (a9 : Int)) (x0 := P) jt.out aD aB rfl rfl k (aH _) c8) (fun e7 ⟨_, ⟨d9, rfl, c5⟩, c1⟩ => XH 4 rfl d (fun _ l => jw rfl (jR l c1 aG aB)) (X 5 rfl d (jC mO U) (XH 6 rfl d (fun _ l => jw rfl (jO l Mh rfl dB)) (X 7 rfl d (jE rfl) (bS g fun R Y g => XQ 8 rfl d (lK (i := (a9 : Int)) (x0 := R) jt.out aD aB rfl rfl y (kk Y) (ki Y)) (fun e8 ⟨_, ⟨e0, rfl, c7⟩, c3⟩ => XH 9 rfl d (fun _ l => jw rfl (jR l c3 aG aB)) (bS g fun e9 c4 g => XE 10 rfl (Eg b call290 (d8 P d9 R e0 _ _ (c5.mono jB.mono b.jD) (c7.mono jB.mono b.jD) c4) (fun e6 b => ?_)))))))))))))
     have d := b.has.ju (Kb (Kb Sn))
     refine ⟨d, (X 11 rfl d (nH rfl) (kW kr (jF (CI g rfl (fun b9 g => ?_) (fun b9 g => ?_)))))⟩
     ·refine sg (Wa (ln ?_))
      replace b := b.ju (Db (Db St))
      refine jU (me (kj (me (kj ?_))))
      obtain rfl := sj g
      exact rP b
     exact kP (ko (jF ⟨v, _, ⟨rfl, eN⟩, (b.ju St), T, U, (by rw [d0]; exact g)⟩))
    rintro E W ⟨Q, ⟨v, eN⟩, b, T, U, g⟩
    rw [aN] at g
    refine jF ?_
    replace b := b.ju (Db (Db St))
    exact sg (Wa (lt (rQ g b)))
   refine bC B (fun j B => ?_) (fun j B => ?_)
   ·refine un j (un j (un j (un j (un j (un j (un j (V (jM (cB j) rfl) ?_)))))))
    obtain rfl := sj B
    exact K _ _ ⟨_, (b.ju St), p, q, rfl⟩
   refine ug j (jC mO p) (ug j (jw rfl (jO b.has (Mt Mh) rfl dB)) (ug j (kK aD rfl k) (ug j (jC mO q) (ug j (jw rfl (jO b.has Mh rfl dB)) (ug j (kK aD rfl y) (ug j (kx rfl rfl rfl) (V (jN (cB j) rfl) ?_)))))))
   obtain rfl := sj B
   exact K _ _ ⟨_, (b.ju St), p, q, rfl⟩
  refine bC D (fun t D => ?_) (fun t D => ?_)
  ·refine un t (un t (un t (un t (un t (V (jM (cB t) rfl) ?_)))))
   obtain rfl := sj D
   exact M _ _ ⟨_, (b.ju St), a5, n, rfl⟩
  refine ug t (jC rB a5) (ug t (jw rfl (jz b.has (Mt Mh) (jA a.jq) rfl bG aQ)) (ug t (jC rB n) (ug t (jw rfl (jz b.has Mh (jA c.jq) rfl bG aQ)) (ug t (Gm rfl rfl (nm eA) (B9 (po _ a.jq c.jq))) (V (jN (cB t) rfl) ?_)))))
  obtain rfl := sj D
  exact M _ _ ⟨_, (b.ju St), a5, n, rfl⟩
 refine bC G (fun z G => ?_) (fun z G => ?_)
 ·refine un z (un z (un z (un z (un z (V (jM (cB z) rfl) ?_)))))
  obtain rfl := sj G
  exact N _ _ ⟨_, (b.ju St), rfl, rfl, rfl⟩
 refine ug z (jC pA rfl) (ug z (jw rfl (jO b.has (Mt Mh) rfl cC)) (ug z (jC pA rfl) (ug z (jw rfl (jO b.has Mh rfl cC)) (ug z (kx rfl rfl rfl) (V (jN (cB z) rfl) ?_)))))
 obtain rfl := sj G
 exact N _ _ ⟨_, (b.ju St), rfl, rfl, rfl⟩
theorem Dw : ∀ (n : Nat) (g : Formula) (a : Value) (i : Formula) (c : Value) (r : Bool) (w : World) (j : Sl jt 5 (hp w) a g.Kids) (k : Sl jt 5 (hp w) c i.Kids) (_ : qu n g i = some r),
  jS false Tryz.prog 290 [(.agg #[(.int .i64 g.Op), (.int .i64 g.K), (.string g.jq.js), (.string g.jq.jy), a]), (.agg #[(.int .i64 i.Op), (.int .i64 i.K), (.string i.jq.js), (.string i.jq.jy), c])] w (.bool r)
 | 0 => by intros; rename_i h; simp only [qu] at h; cases h
 | n + 1 => EK (qu n) (Dw n)
theorem BY (T : Value) (a0 : List Formula) (A : Bool) (r : List Formula) (w : World) {μ0 : kl} (h0 : nB μ0 [] w) (c9 : Sl jt 5 μ0 T a0) (hm : uE a0 A = some r) :
  lB false Tryz.prog 432 [T, (.bool A)] w μ0 [] (fun v L1 μ1 => ∃ y1, v = y1 ∧ L1 = [] ∧ Sl jt 5 μ1 y1 (r)) := by
 refine tE h0 62 func432 rfl (fun d => sg (Wa (lr (Wa (lS (Wm ?_))))))
 refine V (kK aD rfl c9) (Wm (ln (kB (fun i E W => ∃ u M D x b1, (E 12 = .int .i64 (i : Nat) ∧ E 11 = .int .i64 (a0.length : Nat)) ∧ kd μ0 x ∧ Lo (keys []) w μ0 x ∧ ST false (keys []) w W x (D ++ b1) ∧ E 1 = (.bool A) ∧ E 5 = u ∧ E 10 = T ∧ kD 113 jt 5 x u M D ∧ mw A (a0.drop i) M = some r) a0.length c9.len ⟨(.slice none 0 0), ([]), [], μ0, _, ⟨rfl, rfl⟩, (kd.refl _), Lo.refl, (d.ju St), rfl, rfl, rfl, (kD.nil _ _ _ _), hm⟩ dc dc dc (fun _ _ _ h => by obtain ⟨_, _, _, _, _, aa, _⟩ := h; exact aa) ?_ ?_)))
 ·rintro U E W h7 ⟨u, M, D, x, b1, ⟨eI, eN⟩, K, q, d, d5, a4, b3, H, J⟩
  obtain ⟨a, l4, j5, j4, c6⟩ := kq h7
  rw [j5] at J
  refine bg (VQ (lK (i := (U : Int)) (x0 := a) jt.out aD aB b3 eI (c9.mono jB.mono K) (aH _) j4) (fun m8 ⟨_, ⟨n3, rfl, a2⟩, i1⟩ => V (jw rfl (jR d.has i1 aG aB)) (VE (kf d aM (fun l6 G d => ?_)))))
  let g5 : Value := (.int .i64 (U : Int))
  let b8 : Value := (.int .i64 (a0.length : Int))
  let P : Value := (.pointer (some ⟨G, 0, none⟩))
  obtain ⟨k, t, rfl⟩ := a2.form
  let g6 : Value := (.slice k a.Kids.length t)
  let s := (C1 a.Op a.K a.jq.js a.jq.jy k a.Kids.length t)
  refine VO (jL (.agg s.toArray) (s.toArray) d rfl rfl aB oc nb rfl (fun l7 d => lr (Wh a4 (V (rL aD rfl H) (Wa (ln (jK (CJ J (fun c3 E W => ∃ d0, ST false (keys []) w W x ((G, Ol s 113) :: (D ++ d0)) ∧ E 1 = (.bool A) ∧ E 5 = u ∧ E 7 = P ∧ E 8 = (.int .i64 c3) ∧ E 10 = T ∧ E 11 = b8 ∧ E 12 = g5) (fun c3 i0 => ?_) ?_))))))))
  ·refine ll (mU (fun m E W => ∃ Y d3, ST false (keys []) w W x ((G, Ol s 113) :: (D ++ d3)) ∧ E 1 = (.bool A) ∧ E 5 = u ∧ E 7 = P ∧ E 8 = (.int .i64 Y) ∧ E 10 = T ∧ E 11 = b8 ∧ E 12 = g5 ∧ pp M a m Y = some c3) jY ⟨(M.length : Int), _, (d.ju St), d5, a4, rfl, rfl, b3, eN, eI, i0⟩ ?_)
   rintro m E W ⟨Y, d3, d, f0, c1, c2, a5, f1, f2, f3, Z⟩
   cases m with
   | zero => rw [pp] at Z; cases Z
   | succ k5 =>
    refine jK (jK ?_)
    replace d := d.drew
    have n := d.has.ju (Kb (Kr Sn))
    refine kJ n kw (X 0 rfl n (jE a5) (X 1 rfl n (kx rfl rfl rfl) (X 2 rfl n (jE rfl) (PJ Z (fun g3 E W => ∃ d4, ST false (keys []) w W x ((G, Ol s 113) :: (D ++ d4)) ∧ E 1 = (.bool A) ∧ E 5 = u ∧ E 7 = P ∧ E 8 = (.int .i64 Y) ∧ E 10 = T ∧ E 11 = b8 ∧ E 12 = g5 ∧ E 29 = (.bool g3)) (bm 12 4095) 0 ?_ (fun g3 z b0 => ?_)))))
    ·rintro o0 E W ⟨d4, d, f4, f5, f6, f7, f8, f9, g0, k3⟩ Q
     refine kW kr (jF (CI Q k3 (fun h6 Q => ?_) (fun h6 Q => ?_)))
     ·exact kn (ll (jI (Wh f7 (Wi rfl (Wa (jW (ko (jF ⟨k5, bE _, (IntKind.i64.wrap (Y - 1)), _, (d.ju St), f4, f5, f6, rfl, f8, f9, g0, Q⟩))))))))
     refine mZ (mS (mS (qx (jF ?_))))
     obtain rfl := sj Q
     exact ⟨_, (d.ju St), f4, f5, f6, f7, f8, f9, g0⟩
    refine bC z (fun c z => ?_) (fun c z => ?_)
    ·refine Xg 3 rfl rfl (cB c) n (jE c1) (Xg 4 rfl rfl (cB c) n (jE a5) (Xg 5 rfl rfl (cB c) n (kx rfl rfl rfl) (bS z fun l0 c8 z => sn 6 rfl kr (.inr ⟨2, true, 20, rfl, rfl, by decide, (cB c)⟩) rfl dc (fun _ _ h => h) n (kN (i := (IntKind.i64.wrap (Y - 1))) jt.out aD aB rfl rfl H (kk c8) (ki c8)) (fun n0 ⟨_, ⟨k8, rfl, j0⟩, i3, l3⟩ => uF 7 rfl rfl (cB c) n (fun _ O => jw rfl (jR (ny.hp _) (i3.mono (lP (fun b o R => O.2 b o (Mt (Ml R))))) aG aB)) (uF 8 rfl rfl (cB c) n (fun _ O => jw c2 (jz O Mh s rfl aG aB)) (bS z fun n2 i5 z => E7 9 rfl rfl (cB c) (Eg d call455 (GH l0 k8 a g6 _ _ (j0.mono jB.mono d.jD) (a2.mono jB.mono d.jD) i5) (fun m4 d => ?_))))))))
     have n := d.has.ju (Kb (Kr Sn))
     refine ⟨n, (Xg 10 rfl rfl (cB c) n (kx rfl rfl rfl) (X 11 rfl n (jM (cB c) rfl) ?_))⟩
     obtain rfl := sj z
     refine ni kr (b0 _ _ ⟨_, (d.ju St), f0, c1, c2, a5, f1, f2, f3, rfl⟩)
    refine Xn 3 rfl rfl (cB c) n (Xn 4 rfl rfl (cB c) n (Xn 5 rfl rfl (cB c) n (Xn 6 rfl rfl (cB c) n (Xn 7 rfl rfl (cB c) n (Xn 8 rfl rfl (cB c) n (Xn 9 rfl rfl (cB c) n (Xn 10 rfl rfl (cB c) n (X 11 rfl n (jN (cB c) rfl) ?_))))))))
    obtain rfl := sj z
    refine ni kr (b0 _ _ ⟨_, (d.ju St), f0, c1, c2, a5, f1, f2, f3, rfl⟩)
  rintro a3 E W ⟨d0, d, b4, d6, d7, b5, d8, d9, e0⟩ h8
  refine jK (jK ?_)
  replace d := d.drew
  have n := d.has.ju (Kb (Kr Sn))
  refine kJ n kw (X 0 rfl n (jE b4) (X 1 rfl n (jE rfl) (PJ h8 (fun g2 E W => ∃ d1, ST false (keys []) w W x ((G, Ol s 113) :: (D ++ d1)) ∧ E 1 = (.bool A) ∧ E 5 = u ∧ E 7 = P ∧ E 8 = (.int .i64 a3) ∧ E 10 = T ∧ E 11 = b8 ∧ E 12 = g5 ∧ E 36 = (.bool g2)) (bm 14 31) 9 ?_ (fun g2 N a9 => ?_))))
  ·rintro n8 E W ⟨d1, d, e1, b6, b7, b9, e2, e3, e4, k0⟩ h9
   have n := d.has.ju (Kb (Kr Sn))
   refine X 5 rfl n (jE k0) (PJ h9 (fun g1 E W => ∃ d2, ST false (keys []) w W x ((G, Ol s 113) :: (D ++ d2)) ∧ E 1 = (.bool A) ∧ E 5 = u ∧ E 7 = P ∧ E 8 = (.int .i64 a3) ∧ E 10 = T ∧ E 11 = b8 ∧ E 12 = g5 ∧ E 45 = (.bool g1)) (bm 14 16383) 0 ?_ (fun g1 y a8 => ?_))
   ·rintro n9 E W ⟨d2, d, e5, c0, k1, e6, e7, e8, e9, k2⟩ j
    refine kW kr (jF (CI j k2 (fun h2 j => ?_) (fun h2 j => ?_)))
    ·refine mZ (mS (qx (jF ?_)))
     replace d := d.ju (Db St)
     exact ⟨e9, u, M, D, x, _, ⟨rfl, e8⟩, K, q, (d.ju St), e5, c0, e7, H, (by rw [c6]; exact j)⟩
    refine kg (VE (jX (cs := #[]) d pM (yS [] aD aB aM dc rfl (by simp) rfl rfl) (fun l8 j9 d => Wh c0 (Wh e6 (bS j fun _ c4 j => VQ (CH (i := a3) aD aB rfl rfl H (vd c4) (vc c4)) (fun n4 i6 => bS j fun m6 h3 j => VE (oU (B := [(j9, Ob #[] 113)]) jB d dc aD lh.1 lh.2.1 rfl lh.2.2.1 lh.2.2.2 rfl rfl (kD.lit jB (l := []) .nil rfl nb rfl) (xd.row i6 d (fun p R => (Mt (Mt (Ml R))))) h3 (fun l9 n5 j6 d g8 => Wa (ln (jK ?_))))))))))
    refine jI (Wm (V (jw k1 (jz d.has (Ma Mh) s rfl aG aB)) (VE (jX (cs := s.toArray) d (lJ rfl) (lW aD aB aM) (fun m0 m5 d => ?_)))))
    replace d := d.perm (Nr (Qb Qz) Nz)
    refine bS j fun m7 h4 j => VE (oU (B := j6) jB d dc aD lh.1 lh.2.1 rfl lh.2.2.1 lh.2.2.2 rfl rfl g8 (xd.lit jB (l := [a]) (.cons (ys := C1 a.Op a.K a.jq.js a.jq.jy k a.Kids.length t) (jt.mk ⟨g6, rfl, a2⟩) .nil) rfl nb (d.at_ (Ma Mh))) h4 (fun m1 n6 j7 d g9 => Wa (ln ?_)))
    replace d := d.ju (Kr (Db (Db St)))
    refine jI (Wm (Wh c0 (Wh e6 ?_)))
    replace d := d.perm (Nr (Qr Qz) Nz)
    obtain ⟨l1, d, a7, F, i8⟩ := ST.so jB d H
    exact bS j fun _ c5 j => VQ (BL (i := a3) aD aB rfl rfl i8 (vd c5) (vc c5)) (fun n7 i7 => bS j fun k4 h5 j => VE (oU (B := j7) jB d dc aD lh.1 lh.2.1 rfl lh.2.2.1 lh.2.2.2 rfl rfl (g9.mono jB a7) (xd.sl jB i7.1 d.jD) h5 (fun m2 k6 j8 d h1 => Wa (jW (ko (jF ⟨e9, k6, k4, j8, l1, _, ⟨rfl, e8⟩, (K.trans a7), (q.trans F), (d.ju St), e5, rfl, e7, h1, (by rw [c6]; exact j)⟩))))))
   refine bC y (fun g y => ?_) (fun g y => ?_)
   ·refine Xg 6 rfl rfl (cB g) n (jE b6) (Xg 7 rfl rfl (cB g) n (jE b9) (Xg 8 rfl rfl (cB g) n (kx rfl rfl rfl) (bS y fun k9 c7 y => sn 9 rfl kr (.inr ⟨5, true, 37, rfl, rfl, by decide, (cB g)⟩) rfl dc (fun _ _ h => h) n (kN (i := (IntKind.i64.wrap (a3 - 1))) jt.out aD aB rfl rfl H (kk c7) (ki c7)) (fun m9 ⟨_, ⟨k7, rfl, i9⟩, i2, l2⟩ => uF 10 rfl rfl (cB g) n (fun _ O => jw rfl (jR (ny.hp _) (i2.mono (lP (fun b o R => O.2 b o (Mt (Ml R))))) aG aB)) (uF 11 rfl rfl (cB g) n (fun _ O => jw b7 (jz O Mh s rfl aG aB)) (bS y fun n1 i4 y => E7 12 rfl rfl (cB g) (Eg d call290 ((Dw jY) k9 k7 a g6 _ _ (i9.mono jB.mono d.jD) (a2.mono jB.mono d.jD) i4) (fun m3 d => ?_))))))))
    have n := d.has.ju (Kb (Kr Sn))
    refine ⟨n, (X 13 rfl n (jM (cB g) rfl) ?_)⟩
    obtain rfl := sj y
    refine ni kr (a8 _ _ ⟨_, (d.ju St), e1, b6, b7, b9, e2, e3, e4, rfl⟩)
   refine Xn 6 rfl rfl (cB g) n (Xn 7 rfl rfl (cB g) n (Xn 8 rfl rfl (cB g) n (Xn 9 rfl rfl (cB g) n (Xn 10 rfl rfl (cB g) n (Xn 11 rfl rfl (cB g) n (Xn 12 rfl rfl (cB g) n (X 13 rfl n (jN (cB g) rfl) ?_)))))))
   obtain rfl := sj y
   refine ni kr (a8 _ _ ⟨_, (d.ju St), e1, b6, b7, b9, e2, e3, e4, rfl⟩)
  refine bC N (fun I N => ?_) (fun I N => ?_)
  ·refine Xg 2 rfl rfl (cB I) n (jE b5) (Xg 3 rfl rfl (cB I) n (kx rfl rfl rfl) (X 4 rfl n (jM (cB I) rfl) ?_))
   obtain rfl := sj N
   refine ni kr (a9 _ _ ⟨_, (d.ju St), b4, d6, d7, b5, d8, d9, e0, rfl⟩)
  refine Xn 2 rfl rfl (cB I) n (Xn 3 rfl rfl (cB I) n (X 4 rfl n (jN (cB I) rfl) ?_))
  obtain rfl := sj N
  refine ni kr (a9 _ _ ⟨_, (d.ju St), b4, d6, d7, b5, d8, d9, e0, rfl⟩)
 rintro E W ⟨u, M, D, x, b1, ⟨eI, eN⟩, K, q, d, d5, a4, b3, H, J⟩
 rw [aN] at J
 refine jF (sg (Wh a4 (Wa (lt ?_))))
 obtain rfl := sj J
 refine kY (v := u) rfl rfl ?_
 obtain ⟨o1, d, g4, L, j3⟩ := ST.so jB d H
 exact ⟨_, _, _, rfl, (d.lM Sn), (K.trans g4), (q.trans L), (ST.kA d (ma.mem Sn)), u, rfl, rfl, j3⟩
set_option maxHeartbeats 1000000 in
theorem uD (t : Nat) (T : kM) (u : Int) (d0 : Value) (a2 : List Formula) (r : (Formula × kM)) (w : World) {μ0 : kl} (h0 : nB μ0 ((t, Ol (mj T) 415) :: []) w) (c9 : Sl jt 5 μ0 d0 a2) (hm : oP T u a2 = some r) :
  lB false Tryz.prog 430 [(.pointer (some ⟨t, 0, none⟩)), (.int .i64 u), d0] w μ0 ((t, Ol (mj T) 415) :: []) (fun v L1 μ1 => ∃ y1, v = (.agg #[(.int .i64 ((r.1).Op)), (.int .i64 ((r.1).K)), (.string (((r.1).jq).js)), (.string (((r.1).jq).jy)), y1]) ∧ L1 = ((t, Ol (mj (r.2)) 415) :: []) ∧ Sl jt 5 μ1 y1 ((r.1).Kids)) := by
 let g6 : Value := (.pointer (some ⟨t, 0, none⟩))
 let a0 := ((mj T).toArray : Array Value)
 let e5 := ((t, Obj.cells a0 415 (0, 0)) :: [])
 refine tE h0 75 func430 rfl (fun d => sg (VE (kf d aM (fun W2 R d => lr (Wa (lS (Wm ?_)))))))
 let g5 : Value := (.pointer (some ⟨R, 0, none⟩))
 refine V (kK aD rfl c9) (Wm (ln (kB (fun i E W => ∃ J I H c3, (E 14 = .int .i64 (i : Nat) ∧ E 13 = .int .i64 (a2.length : Nat)) ∧ ST false (keys e5) w W μ0 ((R, Ol C4 113) :: ((t, Obj.cells a0 415 (0, 0)) :: (H ++ c3))) ∧ E 0 = g6 ∧ E 1 = (.int .i64 u) ∧ E 6 = g5 ∧ E 7 = J ∧ E 12 = d0 ∧ kD 113 jt 5 μ0 J I H ∧ mY u T (a2.drop i) I = some r) a2.length c9.len ⟨(.slice none 0 0), ([]), [], _, ⟨rfl, rfl⟩, (d.ju St), rfl, rfl, rfl, rfl, rfl, (kD.nil _ _ _ _), hm⟩ dc dc dc (fun _ _ _ h => by obtain ⟨_, _, _, _, q, _⟩ := h; exact q) ?_ ?_)))
 ·rintro h8 E W f4 ⟨J, I, H, c3, ⟨p, A⟩, d, b2, N, Z, L, b3, G, c⟩
  obtain ⟨a, i8, g7, g4, d5⟩ := kq f4
  rw [g7] at c
  refine bg (VQ (lK (i := (h8 : Int)) (x0 := a) jt.out aD aB b3 p c9 (aH _) g4) (fun l3 ⟨_, ⟨l8, rfl, a3⟩, f7⟩ => V (jw rfl (jR d.has f7 aG aB)) (VE (kf d aM (fun j4 k9 d => ?_)))))
  obtain ⟨y, z, rfl⟩ := a3.form
  let F := (C1 a.Op a.K a.jq.js a.jq.jy y a.Kids.length z)
  refine VO (jL (.agg F.toArray) (F.toArray) d rfl rfl aB oc nb rfl (fun j5 d => lS (Wf mN (VB d Mh rfl rfl cC (Wh N (Wi rfl (ln (CI c rfl (fun e8 c => ?_) (fun e8 c => ?_)))))))))
  ·refine sg (Wh L (Wf mO (VB d Mh rfl rfl dB ?_)))
   replace d := d.perm (Nr (Qb (Qb (Qb Qz))) Nz)
   refine bS c fun i0 e9 c => VE (oU (B := H) jB d dc aD lh.1 lh.2.1 rfl lh.2.2.1 lh.2.2.2 rfl rfl G (xd.sl jB a3 d.jD) e9 (fun j6 i2 h2 d e6 => Wa (ln ?_)))
   replace d := d.ju (Kr (Db St))
   exact mZ (mS (qx (jF ⟨p, i2, i0, h2, _, ⟨rfl, A⟩, (d.ju (Sb (Pr Pz) (Sb (Pr Pz) St))), b2, N, Z, rfl, b3, e6, (by rw [d5]; exact c)⟩)))
  refine kS (VA d Mh F aG aB (Wh N (Wi rfl (bS c fun l6 g0 c => VE (Eg d call431 (jS.li (yh a (.slice y a.Kids.length z) (IntKind.i64.wrap (5 - u)) _ _ (a3.mono jB.mono d.jD) g0)) (fun j7 d => ln (CI c rfl (fun f0 c => ?_) (fun f0 c => ?_))))))))
  ·let d2 := (FK (IntKind.i64.wrap (5 - u)))
   refine sg (Wh N (Wi rfl (V (kZ (v := (.agg d2.toArray)) (lJ rfl) (kE aM aX (qm _ aX) kr)) ?_)))
   replace d := d.perm (Nb (Pb Pz) Nz)
   refine VO (jL (.agg d2.toArray) (d2.toArray) d Z rfl aB oc nb rfl (fun j8 d => ln ?_))
   replace d := d.ju (Kb (Db (Kb (Dr St))))
   refine jU (kj (me (kj (me (kj ?_)))))
   obtain rfl := sj c
   exact mR (v := (.agg d2.toArray)) rfl Z (jz d.has Mh d2 rfl aG aB) ⟨_, _, _, rfl, (d.lM (Db (Kb Sn))), (kd.refl _), Lo.refl, (ST.kA d (ma.mem (Db (Kb Sn)))), (.slice none 0 0), rfl, rfl, (Sl.nil _ _ _)⟩
  refine kn (jI (Wh L (VA d Mh F aG aB (VE (jX (cs := F.toArray) d (lJ rfl) (lW aD aB aM) (fun j9 l0 d => ?_))))))
  replace d := d.perm (Nr (Qb (Qb (Qb (Qb Qz)))) Nz)
  refine bS c fun i1 f1 c => VE (oU (B := H) jB d dc aD lh.1 lh.2.1 rfl lh.2.2.1 lh.2.2.2 rfl rfl G (xd.lit jB (l := [a]) (.cons (ys := C1 a.Op a.K a.jq.js a.jq.jy y a.Kids.length z) (jt.mk ⟨(.slice y a.Kids.length z), rfl, a3⟩) .nil) rfl nb (d.at_ (Ma Mh))) f1 (fun k0 i3 h3 d e7 => Wa (jW (ko (jF ?_)))))
  replace d := d.ju (Kr (Db (Db St)))
  exact ⟨p, i3, i1, h3, _, ⟨rfl, A⟩, (d.ju (Sb (Pr Pz) (Sb (Pr Pz) St))), b2, N, Z, rfl, b3, e7, (by rw [d5]; exact c)⟩
 rintro E W ⟨J, I, H, c3, ⟨p, A⟩, d, b2, N, Z, L, b3, G, c⟩
 rw [aN] at c
 refine jF (jK (sg (Wh L (V (rL aD rfl G) (Wm (ln (Rj c (fun e4 E W => ∃ d7, ST false (keys e5) w W μ0 ((R, Ol C4 113) :: ((t, Obj.cells a0 415 (0, 0)) :: (H ++ d7))) ∧ E 0 = g6 ∧ E 1 = (.int .i64 u) ∧ E 6 = g5 ∧ E 7 = J) (fun e4 f6 b6 => ?_) ?_)))))))
 ·refine kB (fun i E W => ∃ c4, (E 40 = .int .i64 (i : Nat) ∧ E 39 = .int .i64 (I.length : Nat)) ∧ ST false (keys e5) w W μ0 ((R, Ol C4 113) :: ((t, Obj.cells a0 415 (0, 0)) :: (H ++ c4))) ∧ E 0 = g6 ∧ E 1 = (.int .i64 u) ∧ E 6 = g5 ∧ E 7 = J ∧ E 38 = J ∧ pa u T (I.drop i) = some e4) I.length G.len ⟨_, ⟨rfl, rfl⟩, (d.ju St), b2, N, Z, L, rfl, f6⟩ dc dc dc (fun _ _ _ h => by obtain ⟨_, q, _⟩ := h; exact q) ?_ ?_
  ·rintro h9 E W f5 ⟨c4, ⟨p, A⟩, d, c6, O, P, c7, c8, k⟩
   obtain ⟨j, i9, g9, g8, h1⟩ := kq f5
   rw [g9] at k
   refine bg (VQ (kN (i := (h9 : Int)) jt.out aD aB c8 p G (aH _) g8) (fun l5 ⟨_, ⟨m1, rfl, d4⟩, f9, i7⟩ => V (jw rfl (jR (ny.hp _) (f9.mono (lP (fun b o hq => d.has.2 b o (Mt (Mt (Ml hq)))))) aG aB)) (VE (kf d aM (fun k5 l1 d => ?_)))))
   obtain ⟨a9, b0, rfl⟩ := d4.form
   let d9 := (C1 j.Op j.K j.jq.js j.jq.jy a9 j.Kids.length b0)
   let s := (IntKind.i64.wrap (5 - u))
   refine VO (jL (.agg d9.toArray) (d9.toArray) d rfl rfl aB oc nb rfl (fun k6 d => lr (VA d Mh d9 aG aB (Wh O (Wi rfl (bS k fun l7 g2 k => VE (Eg d call431 (jS.li (yh j (.slice a9 j.Kids.length b0) s _ _ (d4.mono jB.mono d.jD) g2)) (fun k7 d => ln ?_))))))))
   replace d := d.ju (Db St)
   refine CI k rfl (fun f3 k => ?_) (fun f3 k => ?_)
   ·refine sg (Wh O (Wi rfl (V (kZ (v := (.agg (FK s).toArray)) (lJ rfl) (kE aM aX (qm _ aX) kr)) (VO (jL (.agg (FK s).toArray) ((FK s).toArray) d P rfl aB oc nb rfl (fun k8 d => ln ?_))))))
    replace d := d.ju (Kb (Kb (Dr St)))
    refine jU (me (kj (me (kj ?_))))
    obtain rfl := sj k
    replace b6 : some ((⟨(IntKind.i64.wrap (5 - u)), 0, K0, []⟩ : Formula), T) = some r := b6
    obtain rfl := sj b6
    exact mR (v := (.agg (FK s).toArray)) rfl P (jz d.has Mh (FK s) rfl aG aB) ⟨_, _, _, rfl, (d.lM (Db (Kb Sn))), (kd.refl _), Lo.refl, (ST.kA d (ma.mem (Db (Kb Sn)))), (.slice none 0 0), rfl, rfl, (Sl.nil _ _ _)⟩
   exact kP (ko (jF ⟨p, _, ⟨rfl, A⟩, (d.ju St), c6, O, P, c7, c8, (by rw [h1]; exact k)⟩))
  rintro E W ⟨c4, ⟨p, A⟩, d, c6, O, P, c7, c8, k⟩
  rw [aN] at k
  refine jF ?_
  obtain rfl := sj k
  exact ⟨_, rfl, _, (d.ju St), c6, O, P, c7⟩
 rintro ⟨⟩ E W ⟨d7, d, e0, e1, e2, h4⟩ b5
 refine sg (Wh h4 ?_)
 replace d := d.perm (Nr (Qb (Qb Qz)) Nz)
 obtain ⟨m4, d, c0, m, g3⟩ := ST.so jB d G
 refine bS b5 fun Q g1 b5 => ?_
 refine VE (eD d (bB _) call432 (fun hh => (BY J I true _ _ hh (g3.mono jB.mono (kd.refl _)) g1)) ?_ (L0 := []))
 rintro _ l9 i5 j3 d c1 n ⟨i4, b7, rfl, Y⟩
 obtain rfl := b7.symm
 refine Wa (lr (Wh e0 (Wh e0 (Wn (Wf Ho (VB d (Mt Mh) rfl rfl isAgg4 (Wm (LJ b5 (fun e3 E W => ∃ d8, ST false (keys e5) w W i5 ((R, Ol C4 113) :: ((t, Obj.cells a0 415 (0, 0)) :: d8)) ∧ E 1 = (.int .i64 u) ∧ E 6 = g5 ∧ E 7 = i4 ∧ E 54 = g6 ∧ E 63 = (.bool e3)) 4 ?_ (fun e3 U c2 => ?_)))))))))
 ·rintro d1 E W ⟨d8, d, h5, b4, c5, h6, h7⟩ D
  refine V (mW h6) (Wf Ho ?_)
  replace d := d.perm (Nb (Pb Pz) Nz)
  refine VO (jL (.bool d1) ((mj (⟨d1⟩ : kM)).toArray) d rfl h7 sizeOf4 (RM d1) nb rfl (fun k2 d => lS (Wh c5 (V (kK aD rfl Y) (Wi rfl (ln (CI D rfl (fun f2 D => ?_) (fun f2 D => ?_))))))))
  ·refine sg (Wh c5 (bS D fun g d6 D => VQ (lK (i := 0) (x0 := g) jt.out aD aB rfl rfl Y (kk d6) (ki d6)) (fun l4 ⟨_, ⟨m0, rfl, d3⟩, f8⟩ => V (jw rfl (jR d.has f8 aG aB)) ?_)))
   obtain ⟨a4, a5, rfl⟩ := d3.form
   let b8 := (C1 g.Op g.K g.jq.js g.jq.jy a4 g.Kids.length a5)
   replace d := d.perm (Nb (Pb Pz) Nz)
   refine VO (jL (.agg b8.toArray) (b8.toArray) d b4 rfl aB oc nb rfl (fun k3 d => lt (kj ?_)))
   obtain rfl := sj D
   exact mR (v := (.agg b8.toArray)) rfl b4 (jz d.has Mh b8 rfl aG aB) ⟨_, _, _, rfl, (d.lM (Db (Kb Sn))), (c0.trans c1), (m.trans n), (ST.kA d (ma.mem (Db (Kb Sn)))), (.slice a4 g.Kids.length a5), rfl, rfl, d3⟩
  refine kg (Wh h5 (Wh c5 ?_))
  obtain ⟨K, M, rfl⟩ := Y.form
  let i6 := (Rt u K Q.length M)
  refine V (kZ (v := (.agg i6.toArray)) (nY rfl rfl) (kE aM aX (qm _ aX) kr)) ?_
  replace d := d.perm (Nb (Pb Pz) Nz)
  refine VO (jL (.agg i6.toArray) (i6.toArray) d b4 rfl aB oc nb rfl (fun k4 d => lt ?_))
  obtain rfl := sj D
  exact mR (v := (.agg i6.toArray)) rfl b4 (jz d.has Mh i6 rfl aG aB) ⟨_, _, _, rfl, (d.lM (Db (Kb Sn))), (c0.trans c1), (m.trans n), (ST.kA d (ma.mem (Db (Kb Sn)))), (.slice K Q.length M), rfl, rfl, Y⟩
 refine bC U (fun x U => ?_) (fun x U => ?_)
 ·refine un x (un x (un x (V (jM (cB x) rfl) ?_)))
  obtain rfl := sj U
  exact c2 _ _ ⟨_, (d.ju St), e1, e2, rfl, rfl, rfl⟩
 refine ug x (jE rfl) (ug x (kK aD rfl Y) (ug x (kx rfl rfl rfl) (V (jN (cB x) rfl) ?_)))
 obtain rfl := sj U
 exact c2 _ _ ⟨_, (d.ju St), e1, e2, rfl, rfl, rfl⟩
set_option maxHeartbeats 1000000 in
theorem zB (h6 : kM → Formula → Option (Formula × kM)) (m0 : ∀ (k : Nat) (a0 : kM) (g : Formula) (I : Value) (r : (Formula × kM)) (w : World) {μ0 : kl} (h0 : nB μ0 ((k, Ol (mj a0) 415) :: []) w) (G : Sl jt 5 μ0 I g.Kids), h6 a0 g = some r → lB false Tryz.prog 405 [(.pointer (some ⟨k, 0, none⟩)), (.agg #[(.int .i64 g.Op), (.int .i64 g.K), (.string g.jq.js), (.string g.jq.jy), I])] w μ0 ((k, Ol (mj a0) 415) :: []) (fun v L1 μ1 => ∃ y1, v = (.agg #[(.int .i64 ((r.1).Op)), (.int .i64 ((r.1).K)), (.string (((r.1).jq).js)), (.string (((r.1).jq).jy)), y1]) ∧ L1 = ((k, Ol (mj (r.2)) 415) :: []) ∧ Sl jt 5 μ1 y1 ((r.1).Kids))) (k : Nat) (a0 : kM) (g : Formula) (I : Value) (r : (Formula × kM)) (w : World) {μ0 : kl} (h0 : nB μ0 ((k, Ol (mj a0) 415) :: []) w) (G : Sl jt 5 μ0 I g.Kids) (hm : rT h6 a0 g = some r) :
  lB false Tryz.prog 405 [(.pointer (some ⟨k, 0, none⟩)), (.agg #[(.int .i64 g.Op), (.int .i64 g.K), (.string g.jq.js), (.string g.jq.jy), I])] w μ0 ((k, Ol (mj a0) 415) :: []) (fun v L1 μ1 => ∃ y1, v = (.agg #[(.int .i64 ((r.1).Op)), (.int .i64 ((r.1).K)), (.string (((r.1).jq).js)), (.string (((r.1).jq).jy)), y1]) ∧ L1 = ((k, Ol (mj (r.2)) 415) :: []) ∧ Sl jt 5 μ1 y1 ((r.1).Kids)) := by
 let i0 : Value := (.pointer (some ⟨k, 0, none⟩))
 let b8 := ((k, Ol (mj a0) 415) :: [])
 refine tE h0 82 func405 rfl (fun d => sg ?_)
 obtain ⟨A1, c2, rfl⟩ := G.form
 let a1 := (C1 g.Op g.K g.jq.js g.jq.jy A1 g.Kids.length c2)
 refine VE (km d rfl (fun W4 b3 d => VE (kf d aM (fun W6 b5 d => lS (Wf mN (VB d (Mt Mh) rfl rfl cC (Wi rfl (ln (CI hm rfl (fun n1 hm => ?_) (fun n1 hm => ?_))))))))))
 ·refine sg (VA d (Mt Mh) a1 aG aB (VO (jL (.agg a1.toArray) (a1.toArray) d rfl rfl aB oc nb rfl (fun W8 d => ln ?_))))
  replace d := d.ju (Kb (Db St))
  refine jU (kj ?_)
  obtain rfl := sj hm
  exact mR (v := (.agg a1.toArray)) rfl rfl (jz d.has Mh a1 rfl aG aB) ⟨_, _, _, rfl, (d.lM (Db (Kb Sn))), (kd.refl _), Lo.refl, (ST.kA d (ma.mem (Db (Kb Sn)))), (.slice A1 g.Kids.length c2), rfl, rfl, G⟩
 refine kg (Wa (lS (Wf mO (VB d (Mt Mh) rfl rfl dB (V (kK aD rfl G) (Wm (jW ?_)))))))
 let h9 : Value := (.pointer (some ⟨b5, 0, none⟩))
 refine jF (kB (fun i E W => ∃ b0 U a8 N Q f1, (E 19 = .int .i64 (i : Nat) ∧ E 18 = .int .i64 (g.Kids.length : Nat)) ∧ kd μ0 Q ∧ Lo (keys b8) w μ0 Q ∧ ST false (keys b8) w W Q ((k, Ol (mj N) 415) :: ((b5, Ol C4 113) :: ((b3, Ol a1 113) :: (a8 ++ f1)))) ∧ E 0 = i0 ∧ E 3 = (.pointer (some ⟨b3, 0, none⟩)) ∧ E 4 = h9 ∧ E 5 = b0 ∧ E 17 = (.slice A1 g.Kids.length c2) ∧ kD 113 jt 5 Q b0 U a8 ∧ nj h6 g (g.Kids.drop i) U N = some r) g.Kids.length G.len ⟨(.slice none 0 0), ([]), [], a0, μ0, _, ⟨rfl, rfl⟩, (kd.refl _), Lo.refl, (d.ju (Sb (Pb (Pb Pz)) St)), rfl, rfl, rfl, rfl, rfl, (kD.nil _ _ _ _), hm⟩ dc dc dc (fun _ _ _ h => by obtain ⟨_, _, _, _, _, _, q, _⟩ := h; exact q) ?_ ?_)
 ·rintro m1 E W j6 ⟨b0, U, a8, N, Q, f1, ⟨n, s⟩, H, m, d, c7, c8, c9, e2, f4, Y, u⟩
  obtain ⟨D, n3, l3, l2, l4⟩ := kq j6
  rw [l3] at u
  refine bg (VQ (lK (i := (m1 : Int)) (x0 := D) jt.out aD aB f4 n (G.mono jB.mono H) (aH _) l2) (fun q5 ⟨_, ⟨q9, rfl, f6⟩, j9⟩ => V (jw rfl (jR d.has j9 aG aB)) (VE (kf d aM (fun o0 q1 d => ?_)))))
  obtain ⟨d9, e1, rfl⟩ := f6.form
  let g2 := (C1 D.Op D.K D.jq.js D.jq.jy d9 D.Kids.length e1)
  refine VO (jL (.agg g2.toArray) (g2.toArray) d rfl rfl aB oc nb rfl (fun o1 d => ln (jI (Wh e2 (Wh c7 (VA d Mh g2 aG aB (bS u fun t k1 u => ?_)))))))
  refine VE (eD d (Cb (Pb Pz) Cn) call405 (fun p => (m0 k N D (.slice d9 D.Kids.length e1) _ _ p (f6.mono jB.mono (kd.refl _)) k1)) ?_)
  rintro _ r0 m8 n5 d f0 A ⟨r6, e3, rfl, f7⟩
  obtain rfl := e3.symm
  replace d := d.perm (Tb Tn)
  obtain ⟨b7, c3, rfl⟩ := f7.form
  let i1 : Value := (.slice b7 ((t.1).Kids).length c3)
  refine VE (jX (cs := #[(.int .i64 ((t.1).Op)), (.int .i64 ((t.1).K)), (.string (((t.1).jq).js)), (.string (((t.1).jq).jy)), i1]) d (lJ rfl) (lW aD aB aM) (fun o3 q2 d => ?_))
  replace d := d.perm (Nr (Qb (Qb (Qb (Qb (Qb Qz))))) Nz)
  refine bS u fun m3 i5 u => VE (oU (B := a8) jB d dc aD lh.1 lh.2.1 rfl lh.2.2.1 lh.2.2.2 rfl rfl (Y.mono jB f0) (xd.lit jB (l := [t.1]) (.cons (ys := [(.int .i64 ((t.1).Op)), (.int .i64 ((t.1).K)), (.string (((t.1).jq).js)), (.string (((t.1).jq).jy)), i1]) (jt.mk ⟨i1, rfl, f7⟩) .nil) rfl nb (d.at_ (Ma Mh))) i5 (fun o4 m5 l8 d i3 => Wa (jW (ko (jF ?_)))))
  replace d := d.ju (Kr (Db (Kb (Db St))))
  exact ⟨n, m5, m3, l8, t.2, m8, _, ⟨rfl, s⟩, (H.trans f0), (m.trans A), (d.ju (Sb (Pr Pz) (Sb (Pr Pz) (Sb (Pr Pz) St)))), c7, c8, c9, rfl, f4, i3, (by rw [l4]; exact u)⟩
 rintro E W ⟨b0, U, a8, N, Q, f1, ⟨n, s⟩, H, m, d, c7, c8, c9, e2, f4, Y, u⟩
 rw [aN] at u
 refine jF (jK (sg (V (jC mN c8) (VB d (Mt (Mt Mh)) rfl rfl cC (Wi rfl (ln (CI u rfl (fun i6 u => ?_) (fun i6 u => ?_))))))))
 ·refine sg (Wh c7 (V (jC mN c8) (VB d (Mt (Mt Mh)) rfl rfl cC (Wh e2 ?_))))
  replace d := d.perm (Nr (Qb (Qb (Qb Qz))) Nz)
  obtain ⟨s1, d, g7, F, k8⟩ := ST.so jB d Y
  refine bS u fun x k2 u => ?_
  let l7 : Value := (.string (((x.1).jq).jy))
  let i2 : Value := (.string (((x.1).jq).js))
  refine VE (eD d (Cb Pz Cn) call430 (fun p => (uD k N g.Op b0 U _ _ p (k8.mono jB.mono (kd.refl _)) k2)) ?_)
  rintro _ r1 s2 n6 d g8 L ⟨r7, e4, rfl, f8⟩
  obtain rfl := e4.symm
  replace d := d.perm (Tb Tn)
  obtain ⟨b9, c4, rfl⟩ := f8.form
  let g5 : Value := (.slice b9 ((x.1).Kids).length c4)
  let d7 : Value := (.agg #[(.int .i64 ((x.1).Op)), (.int .i64 ((x.1).K)), i2, l7, g5])
  replace d := d.perm (Nb (Pb Pz) Nz)
  refine VO (jL d7 (#[(.int .i64 ((x.1).Op)), (.int .i64 ((x.1).K)), i2, l7, g5]) d c9 rfl aB oc nb rfl (fun o6 d => ln ?_))
  replace d := d.ju (Kb (Kb (Db St)))
  refine jU (kj ?_)
  obtain rfl := sj u
  exact mR (v := d7) rfl c9 (jz d.has Mh [(.int .i64 ((x.1).Op)), (.int .i64 ((x.1).K)), i2, l7, g5] rfl aG aB) ⟨_, _, _, rfl, (d.lM (Db (Kb Sn))), ((H.trans g7).trans g8), ((m.trans F).trans L), (ST.kA d (ma.mem (Db (Kb Sn)))), g5, rfl, rfl, f8⟩
 refine kg (V (jC pA c8) (VB d (Mt (Mt Mh)) rfl rfl cC (Wa (ln ?_))))
 replace d := d.ju (Kb (Kb (Db St)))
 let o2 := ((mj N).toArray : Array Value)
 refine sg (Wa (lS (Wh e2 (V (rL aD rfl Y) (Wm (ln (CJ u (fun e9 E W => ∃ b1 f3 g3, ST false (keys b8) w W Q ((k, Obj.cells o2 415 (0, 0)) :: ((b5, Ol C4 113) :: (f3 ++ g3))) ∧ E 0 = i0 ∧ E 4 = h9 ∧ E 8 = (.int .i64 e9.1) ∧ E 9 = b1 ∧ kD 113 jt 5 Q b1 e9.2 f3) (fun e9 j8 => ?_) ?_)))))))
 ·refine kB (fun i E W => ∃ a5 a4 a9 T f2, (E 42 = .int .i64 (i : Nat) ∧ E 41 = .int .i64 (U.length : Nat)) ∧ ST false (keys b8) w W Q ((k, Obj.cells o2 415 (0, 0)) :: ((b5, Ol C4 113) :: (T ++ (a8 ++ f2)))) ∧ E 0 = i0 ∧ E 4 = h9 ∧ E 8 = (.int .i64 a5) ∧ E 9 = a4 ∧ E 40 = b0 ∧ kD 113 jt 5 Q a4 a9 T ∧ mQ (U.drop i) a5 a9 = some e9) U.length Y.len ⟨g.K, (.slice none 0 0), ([]), [], _, ⟨rfl, rfl⟩, (d.ju St), c7, c9, rfl, rfl, rfl, (kD.nil _ _ _ _), j8⟩ dc dc dc (fun _ _ _ h => by obtain ⟨_, _, _, _, _, q, _⟩ := h; exact q) ?_ ?_
  ·rintro m2 E W j7 ⟨a5, a4, a9, T, f2, ⟨n, s⟩, d, d2, d3, d4, d5, d6, a7, j⟩
   obtain ⟨a, n4, l6, l5, e8⟩ := kq j7
   rw [l6] at j
   refine bg (VQ (kN (i := (m2 : Int)) jt.out aD aB d6 n Y (aH _) l5) (fun q6 ⟨_, ⟨r5, rfl, b6⟩, k0, n2⟩ => V (jw rfl (jR (ny.hp _) (k0.mono (lP (fun b o hq => d.has.2 b o (Mt (Mt (Ma (Ml hq))))))) aG aB)) (VE (kf d aM (fun p5 q3 d => ?_)))))
   obtain ⟨J, K, rfl⟩ := b6.form
   let n0 : Value := (.slice J a.Kids.length K)
   let b4 := (C1 a.Op a.K a.jq.js a.jq.jy J a.Kids.length K)
   refine VO (jL (.agg b4.toArray) (b4.toArray) d rfl rfl aB oc nb rfl (fun p6 d => lr (VA d Mh b4 aG aB (bS j fun q7 k6 j => VE (Eg d call431 (jS.li (yh a n0 2 _ _ (b6.mono jB.mono d.jD) k6)) (fun p7 d => ln (CI j rfl (fun j3 j => ?_) (fun j3 j => ?_))))))))
   ·refine jI (Wh d4 (Wi rfl (Wa (jW (ko (jF ?_))))))
    replace d := d.ju (Db St)
    exact ⟨n, (IntKind.i64.wrap (a5 - 1)), a4, a9, T, _, ⟨rfl, s⟩, (d.ju St), d2, d3, rfl, d5, d6, a7, (by rw [e8]; exact j)⟩
   refine sg (VA d Mh b4 aG aB (bS j fun q8 k7 j => VE (Eg d call431 (jS.li (yh a n0 3 _ _ (b6.mono jB.mono d.jD) k7)) (fun p8 d => V (nH rfl) (ln (CI j rfl (fun j4 j => ?_) (fun j4 j => ?_)))))))
   ·refine jI (Wh d5 (VA d Mh b4 aG aB (VE (jX (cs := b4.toArray) d (lJ rfl) (lW aD aB aM) (fun p9 q4 d => ?_)))))
    replace d := d.perm (Nr (Qb (Qb (Qb (Qb Qz)))) Nz)
    refine bS j fun m4 j5 j => VE (oU (B := T) jB d dc aD lh.1 lh.2.1 rfl lh.2.2.1 lh.2.2.2 rfl rfl a7 (xd.lit jB (l := [a]) (.cons (ys := C1 a.Op a.K a.jq.js a.jq.jy J a.Kids.length K) (jt.mk ⟨n0, rfl, b6⟩) .nil) rfl nb (d.at_ (Ma Mh))) j5 (fun q0 m6 l9 d i4 => Wa (jW (ko (jF ?_)))))
    replace d := d.ju (Kr (Db (Db St)))
    exact ⟨n, a5, m6, m4, l9, _, ⟨rfl, s⟩, (d.ju (Sb (Pr Pz) (Sb (Pr Pz) St))), d2, d3, d4, rfl, d6, i4, (by rw [e8]; exact j)⟩
   refine kP (ko (jF ?_))
   replace d := d.ju (Db St)
   exact ⟨n, a5, a4, a9, T, _, ⟨rfl, s⟩, (d.ju St), d2, d3, d4, d5, d6, a7, (by rw [e8]; exact j)⟩
  rintro E W ⟨a5, a4, a9, T, f2, ⟨n, s⟩, d, d2, d3, d4, d5, d6, a7, j⟩
  rw [aN] at j
  refine jF ?_
  obtain rfl := sj j
  exact ⟨a4, T, _, (d.ju (Kb (Kb (Kr (Dr St))))), d2, d3, d4, d5, a7⟩
 rintro ⟨b2, f5⟩ E W ⟨b1, f3, g3, d, g4, M, d0, d1, a6⟩ c
 refine jK (sg (Wh d0 (Wi rfl (ln (CI c rfl (fun i7 c => ?_) (fun i7 c => ?_))))))
 ·refine sg (V (kZ (v := (.agg Bj.toArray)) (lJ rfl) (kE aM aX (qm _ aX) kr)) ?_)
  replace d := d.perm (Nb (Pb Pz) Nz)
  refine VO (jL (.agg Bj.toArray) (Bj.toArray) d M rfl aB oc nb rfl (fun o7 d => ln ?_))
  replace d := d.ju (Kb (Kb (Dr St)))
  refine jU (kj ?_)
  obtain rfl := sj c
  exact mR (v := (.agg Bj.toArray)) rfl M (jz d.has Mh Bj rfl aG aB) ⟨_, _, _, rfl, (d.lM (Db (Kb Sn))), H, m, (ST.kA d (ma.mem (Db (Kb Sn)))), (.slice none 0 0), rfl, rfl, (Sl.nil _ _ _)⟩
 refine kS (Wh d0 (Wh d1 (V (rL aD rfl a6) (Wi rfl (ln (CI c rfl (fun i8 c => ?_) (fun i8 c => ?_)))))))
 ·refine sg (V (kZ (v := (.agg E6.toArray)) (lJ rfl) (kE aM aX (qm _ aX) kr)) ?_)
  replace d := d.perm (Nb (Pb Pz) Nz)
  refine VO (jL (.agg E6.toArray) (E6.toArray) d M rfl aB oc nb rfl (fun o8 d => ln ?_))
  replace d := d.ju (Kb (Kb (Dr St)))
  refine jU (kj ?_)
  obtain rfl := sj c
  exact mR (v := (.agg E6.toArray)) rfl M (jz d.has Mh E6 rfl aG aB) ⟨_, _, _, rfl, (d.lM (Db (Kb Sn))), H, m, (ST.kA d (ma.mem (Db (Kb Sn)))), (.slice none 0 0), rfl, rfl, (Sl.nil _ _ _)⟩
 refine kS (Wh d0 (Wh d1 (V (rL aD rfl a6) (Wi rfl (ln (CI c rfl (fun i9 c => ?_) (fun i9 c => ?_)))))))
 ·refine sg (Wh g4 (Wh d1 ?_))
  replace d := d.perm (Nr (Qb (Qb Qz)) Nz)
  obtain ⟨s3, d, g9, O, k9⟩ := ST.so jB d a6
  refine bS c fun y k3 c => ?_
  let m7 : Value := (.string (((y.1).jq).jy))
  let j1 : Value := (.string (((y.1).jq).js))
  refine VE (eD d (Cb Pz Cn) call430 (fun p => (uD k N 2 b1 f5 _ _ p (k9.mono jB.mono (kd.refl _)) k3)) ?_)
  rintro _ r2 s4 n7 d h1 P ⟨r8, e5, rfl, f9⟩
  obtain rfl := e5.symm
  replace d := d.perm (Tb Tn)
  obtain ⟨c0, c5, rfl⟩ := f9.form
  let g6 : Value := (.slice c0 ((y.1).Kids).length c5)
  let d8 : Value := (.agg #[(.int .i64 ((y.1).Op)), (.int .i64 ((y.1).K)), j1, m7, g6])
  replace d := d.perm (Nb (Pb Pz) Nz)
  refine VO (jL d8 (#[(.int .i64 ((y.1).Op)), (.int .i64 ((y.1).K)), j1, m7, g6]) d M rfl aB oc nb rfl (fun p0 d => lt (kj ?_)))
  obtain rfl := sj c
  exact mR (v := d8) rfl M (jz d.has Mh [(.int .i64 ((y.1).Op)), (.int .i64 ((y.1).K)), j1, m7, g6] rfl aG aB) ⟨_, _, _, rfl, (d.lM (Db (Kb Sn))), ((H.trans g9).trans h1), ((m.trans O).trans P), (ST.kA d (ma.mem (Db (Kb Sn)))), g6, rfl, rfl, f9⟩
 refine kS (Wh d0 (Wi rfl (ln (CI c rfl (fun j0 c => ?_) (fun j0 c => ?_)))))
 ·refine sg (Wh g4 (Wh d1 ?_))
  replace d := d.perm (Nr (Qb (Qb Qz)) Nz)
  obtain ⟨s5, d, h2, R, l0⟩ := ST.so jB d a6
  refine bS c fun z k4 c => ?_
  let m9 : Value := (.string (((z.1).jq).jy))
  let j2 : Value := (.string (((z.1).jq).js))
  refine VE (eD d (Cb Pz Cn) call430 (fun p => (uD k N 3 b1 f5 _ _ p (l0.mono jB.mono (kd.refl _)) k4)) ?_)
  rintro _ r3 s6 n8 d h3 aa ⟨r9, e6, rfl, g0⟩
  obtain rfl := e6.symm
  replace d := d.perm (Tb Tn)
  obtain ⟨c1, c6, rfl⟩ := g0.form
  let h7 : Value := (.slice c1 ((z.1).Kids).length c6)
  let e0 : Value := (.agg #[(.int .i64 ((z.1).Op)), (.int .i64 ((z.1).K)), j2, m9, h7])
  replace d := d.perm (Nb (Pb Pz) Nz)
  refine VO (jL e0 (#[(.int .i64 ((z.1).Op)), (.int .i64 ((z.1).K)), j2, m9, h7]) d M rfl aB oc nb rfl (fun p2 d => lt (kj ?_)))
  obtain rfl := sj c
  exact mR (v := e0) rfl M (jz d.has Mh [(.int .i64 ((z.1).Op)), (.int .i64 ((z.1).K)), j2, m9, h7] rfl aG aB) ⟨_, _, _, rfl, (d.lM (Db (Kb Sn))), ((H.trans h2).trans h3), ((m.trans R).trans aa), (ST.kA d (ma.mem (Db (Kb Sn)))), h7, rfl, rfl, g0⟩
 refine kg (Wh d0 (Wh d1 ?_))
 replace d := d.perm (Nr (Qb (Qb Qz)) Nz)
 obtain ⟨s7, d, h4, ab, l1⟩ := ST.so jB d a6
 refine bS c fun a3 k5 c => ?_
 refine VE (eD d (bB _) call432 (fun p => (BY b1 f5 false _ _ p (l1.mono jB.mono (kd.refl _)) k5)) ?_ (L0 := []))
 rintro _ r4 s8 n9 d h5 ad ⟨s0, e7, rfl, g1⟩
 obtain rfl := e7.symm
 obtain ⟨Z, a2, rfl⟩ := g1.form
 let h8 := (Rq b2 Z a3.length a2)
 refine V (kZ (v := (.agg h8.toArray)) (El rfl rfl rfl) (kE aM aX (qm _ aX) kr)) ?_
 replace d := d.perm (Nb (Pb Pz) Nz)
 refine VO (jL (.agg h8.toArray) (h8.toArray) d M rfl aB oc nb rfl (fun p4 d => lt ?_))
 obtain rfl := sj c
 exact mR (v := (.agg h8.toArray)) rfl M (jz d.has Mh h8 rfl aG aB) ⟨_, _, _, rfl, (d.lM (Db (Kb Sn))), ((H.trans h4).trans h5), ((m.trans ab).trans ad), (ST.kA d (ma.mem (Db (Kb Sn)))), (.slice Z a3.length a2), rfl, rfl, g1⟩
theorem xo : ∀ (n : Nat) (c : Nat) (j : kM) (g : Formula) (a : Value) (r : (Formula × kM)) (w : World) {k : kl} (y : nB k ((c, Ol (mj j) 415) :: []) w) (i : Sl jt 5 k a g.Kids) (_ : mX n j g = some r),
  lB false Tryz.prog 405 [(.pointer (some ⟨c, 0, none⟩)), (.agg #[(.int .i64 g.Op), (.int .i64 g.K), (.string g.jq.js), (.string g.jq.jy), a])] w k ((c, Ol (mj j) 415) :: []) (fun v u x => ∃ t, v = (.agg #[(.int .i64 ((r.1).Op)), (.int .i64 ((r.1).K)), (.string (((r.1).jq).js)), (.string (((r.1).jq).jy)), t]) ∧ u = ((c, Ol (mj (r.2)) 415) :: []) ∧ Sl jt 5 x t ((r.1).Kids))
 | 0 => by intros; rename_i h; simp only [mX] at h; cases h
 | n + 1 => zB (mX n) (xo n)
theorem GG (c : Formula) (u : Value) (r : (Formula × Int)) (w : World) {Z : kl} (A : nB Z [] w) (k : Sl jt 5 Z u c.Kids) (hm : yy c = some r) :
  lB false Tryz.prog 345 [(.agg #[(.int .i64 c.Op), (.int .i64 c.K), (.string c.jq.js), (.string c.jq.jy), u])] w Z [] (fun v L1 μ1 => ∃ q, v = (.tuple #[(.agg #[(.int .i64 ((r.1).Op)), (.int .i64 ((r.1).K)), (.string (((r.1).jq).js)), (.string (((r.1).jq).jy)), q]), (.int .i64 (r.2))]) ∧ L1 = [] ∧ Sl jt 5 μ1 q ((r.1).Kids)) := by
 refine tE A 26 func345 rfl (fun b => sg ?_)
 obtain ⟨H, I, rfl⟩ := k.form
 let n := (C1 c.Op c.K c.jq.js c.jq.jy H c.Kids.length I)
 refine VE (km b rfl (fun W4 L b => VE (kf b aM (fun W6 p b => Wa (lS (VA b (Mt Mh) n aG aB (bS hm fun r7 a5 hm => VE (Eg b call291 (xI c (.slice H c.Kids.length I) _ _ (k.mono jB.mono b.jD) a5) (fun W9 b => V (nH rfl) (ln (CI hm rfl (fun Q hm => ?_) (fun Q hm => ?_))))))))))))
 ·refine sg (V (kZ (v := (.agg C4.toArray)) pM (kE aM aX (qm _ aX) kr)) (VO (jL (.agg C4.toArray) (C4.toArray) b rfl rfl aB oc nb rfl (fun P b => Wa (ln ?_)))))
  replace b := b.ju (Kb (Db St))
  refine jU (kj ?_)
  obtain rfl := sj hm
  exact oD (v0 := (.agg C4.toArray)) (v1 := (.int .i64 11)) rfl rfl (jz b.has Mh C4 rfl aG aB) rfl ⟨_, _, _, rfl, (b.lM Sn), (kd.refl _), Lo.refl, (ST.kA b (ma.mem Sn)), (.slice none 0 0), rfl, rfl, (Sl.nil _ _ _)⟩
 refine kg (V (kZ (v := (.agg (mj (⟨false⟩ : kM)).toArray)) pM (kE zeroValue415 iP (QM _ iP) kr)) (VE (km b rfl (fun R s b => Wa (lr (Wm (VA b (Mt (Mt Mh)) n aG aB (bS hm fun a U hm => ?_))))))))
 let m : Value := (.int .i64 ((a.1).K))
 let l : Value := (.int .i64 ((a.1).Op))
 let h : Value := (.string (((a.1).jq).jy))
 let a2 : Value := (.string (((a.1).jq).js))
 refine VE (eD b (Cb Pz Cn) call405 (fun F => ((xo jY) s (⟨false⟩ : kM) c (.slice H c.Kids.length I) _ _ F (k.mono jB.mono (kd.refl _)) U)) ?_)
 rintro _ c7 a9 O b D d ⟨c9, y, rfl, z⟩
 obtain rfl := y.symm
 replace b := b.perm (Tb Tn)
 refine VE (kf b aM (fun c0 K b => ?_))
 obtain ⟨i, j, rfl⟩ := z.form
 let a0 : Value := (.slice i ((a.1).Kids).length j)
 let N : Value := (.agg #[l, m, a2, h, a0])
 refine VO (jL N (#[l, m, a2, h, a0]) b rfl rfl aB oc nb rfl (fun c1 b => ln ?_))
 replace b := b.ju (Kb (Kb (Kb (Db St))))
 refine jK (sg (Wm (Wn (Wf Ho (VB b (Mt Mh) rfl rfl isAgg4 (Wm (LJ hm (fun M E W => ∃ J, ST false (keys []) w W a9 ((K, Ob #[l, m, a2, h, a0] 113) :: ((p, Ol C4 113) :: J)) ∧ E 2 = (.pointer (some ⟨p, 0, none⟩)) ∧ E 5 = (.pointer (some ⟨K, 0, none⟩)) ∧ E 23 = (.bool M)) 4 ?_ (fun M t G => ?_))))))))
 ·rintro c8 E W ⟨J, b, B, a3, a4⟩ x
  refine ln (CI x a4 (fun T x => ?_) (fun T x => ?_))
  ·refine sg (V (kZ (v := (.agg C4.toArray)) pM (kE aM aX (qm _ aX) kr)) ?_)
   replace b := b.perm (Nb (Pb Pz) Nz)
   refine VO (jL (.agg C4.toArray) (C4.toArray) b B rfl aB oc nb rfl (fun c3 b => Wa (ln ?_)))
   replace b := b.ju (Kb (Db St))
   refine jU (kj ?_)
   obtain rfl := sj x
   exact oD (v0 := (.agg C4.toArray)) (v1 := (.int .i64 12)) rfl B (jz b.has Mh C4 rfl aG aB) rfl ⟨_, _, _, rfl, (b.lM Sn), D, d, (ST.kA b (ma.mem Sn)), (.slice none 0 0), rfl, rfl, (Sl.nil _ _ _)⟩
  refine kg (V (jw a3 (jz b.has Mh [l, m, a2, h, a0] rfl aG aB)) ?_)
  replace b := b.perm (Nb (Pb Pz) Nz)
  refine VO (jL N (#[l, m, a2, h, a0]) b B rfl aB oc nb rfl (fun c4 b => Wa (ln ?_)))
  replace b := b.ju (Kb (Db St))
  refine jU ?_
  obtain rfl := sj x
  exact oD (v0 := N) (v1 := (.int .i64 0)) rfl B (jz b.has Mh [l, m, a2, h, a0] rfl aG aB) rfl ⟨_, _, _, rfl, (b.lM Sn), D, d, (ST.kA b (ma.mem Sn)), a0, rfl, rfl, z⟩
 refine bC t (fun g t => ?_) (fun g t => ?_)
 ·refine un g (un g (un g (V (jM (cB g) rfl) ?_)))
  obtain rfl := sj t
  exact G _ _ ⟨_, (b.ju (Kb (Db St))), rfl, rfl, rfl⟩
 refine ug g (jw rfl (jz b.has Mh [l, m, a2, h, a0] rfl aG aB)) (bS t fun c6 Y t => qI g (Eg b call291 (xI a.1 a0 _ _ (z.mono jB.mono b.jD) Y) (fun c5 b => ug g (nH rfl) (V (jN (cB g) rfl) ?_))))
 obtain rfl := sj t
 exact G _ _ ⟨_, (b.ju (Kb (Db St))), rfl, rfl, rfl⟩
theorem Bv (k : Value) (u : List jr) (g : jr) (r : Bool) (w : World) (j : Sl (Pl jv) 9 (hp w) k u) (hm : vN u g = some r) :
  jS true Tryz.prog 53 [k, (.agg (jv g).toArray)] w (.bool r) := by
 refine cG 17 func53 rfl (fun b => sg (VE (km b rfl (fun Y J b => Wa (lS (Wm (V (kK aI rfl j) (Wm (ln ?_)))))))))
 refine kB (fun i E W => ∃ t, (E 9 = .int .i64 (i : Nat) ∧ E 8 = .int .i64 (u.length : Nat)) ∧ ST true ku w W (hp w) ((J, Ol (jv g) 53) :: t) ∧ E 3 = (.pointer (some ⟨J, 0, none⟩)) ∧ E 7 = k ∧ wS g (u.drop i) = some r) u.length j.len ⟨_, ⟨rfl, rfl⟩, (b.ju St), rfl, rfl, hm⟩ dc dc dc (fun _ _ _ h => by obtain ⟨_, l, _⟩ := h; exact l) ?_ ?_
 ·rintro K E W B ⟨t, ⟨d, m⟩, b, x, y, a⟩
  obtain ⟨c, M, H, G, I⟩ := kq B
  rw [H] at a
  refine bg (VQ (na (enc := jv) (i := (K : Int)) (x0 := c) aI aJ y d j (aH _) G) (fun U D => V (jw rfl (jR b.has D bM aJ)) (VE (kf b cH (fun N T b => VO (jL (.agg (jv c).toArray) ((jv c).toArray) b rfl rfl aJ (mT c) nb rfl (fun Q b => lr (VA b Mh (jv c) bM aJ (V (jw x (jz b.has (Mt Mh) (jv g) rfl bM aJ)) (V (uB rfl rfl (nm fi) (qO (vh _ c g))) (jW ?_)))))))))))
  refine jF ?_
  replace b := b.ju (Db St)
  refine CI a rfl (fun z a => ?_) (fun z a => ?_)
  ·refine sg (Wa (ln ?_))
   replace b := b.ju (Db St)
   refine jU (me (kj (me (kj ?_))))
   obtain rfl := sj a
   exact rP b
  exact kP (ko (jF ⟨d, _, ⟨rfl, m⟩, (b.ju St), x, y, (by rw [I]; exact a)⟩))
 rintro E W ⟨t, ⟨d, m⟩, b, x, y, a⟩
 rw [aN] at a
 refine jF ?_
 replace b := b.ju (Db St)
 exact sg (Wa (lt (rQ a b)))
set_option maxHeartbeats 1000000 in
theorem Lz (Y : kI) (b3 c5 : Value) (p : jr) (r : (Formula × Int)) (w : World) {μ0 : kl} (h0 : nB μ0 [] w) (I : Sl kc 15 μ0 b3 Y.jH) (Q : Sl kX 8 μ0 c5 Y.ke) (hm : Ad Y p = some r) :
  lB false Tryz.prog 284 [(.agg #[(.string Y.Name), b3, c5]), (.agg (jv p).toArray)] w μ0 [] (fun v L1 μ1 => ∃ y1, v = (.tuple #[(.agg #[(.int .i64 ((r.1).Op)), (.int .i64 ((r.1).K)), (.string (((r.1).jq).js)), (.string (((r.1).jq).jy)), y1]), (.int .i64 (r.2))]) ∧ L1 = [] ∧ Sl jt 5 μ1 y1 ((r.1).Kids)) := by
 refine tE h0 62 func284 rfl (fun b => sg ?_)
 obtain ⟨A1, c2, rfl⟩ := I.form
 obtain ⟨A3, c4, rfl⟩ := Q.form
 refine VE (km b rfl (fun W6 b5 b => VE (km b rfl (fun W8 O b => VE (kf b aM (fun p4 P b => Wa (lS (Wf qM (VB b (Mt (Mt Mh)) rfl rfl fK (V (kK cP rfl I) (Wm (ln ?_))))))))))))
 refine kB (fun i E W => ∃ e6, (E 15 = .int .i64 (i : Nat) ∧ E 14 = .int .i64 (Y.jH.length : Nat)) ∧ ST false (keys []) w W μ0 ((P, Ol C4 113) :: ((O, Ol (jv p) 53) :: ((b5, Ol (C5 Y.Name A1 Y.jH.length c2 A3 Y.ke.length c4) 110) :: e6))) ∧ E 2 = (.pointer (some ⟨b5, 0, none⟩)) ∧ E 3 = (.pointer (some ⟨O, 0, none⟩)) ∧ E 4 = (.pointer (some ⟨P, 0, none⟩)) ∧ E 13 = (.slice A1 Y.jH.length c2) ∧ vr p Y (Y.jH.drop i) = some r) Y.jH.length I.len ⟨_, ⟨rfl, rfl⟩, (b.ju St), rfl, rfl, rfl, rfl, hm⟩ dc dc dc (fun _ _ _ h => by obtain ⟨_, F, _⟩ := h; exact F) ?_ ?_
 ·let f2 : Value := (.pointer (some ⟨P, 0, none⟩))
  rintro k8 E W i4 ⟨e6, ⟨A, R⟩, b, f0, d2, b0, f1, t⟩
  obtain ⟨c, l6, j7, j6, j8⟩ := kq i4
  rw [j7] at t
  refine bg (VQ (lK (i := (k8 : Int)) (x0 := c) kc.out cP cU f1 A I (aH _) j6) (fun n6 ⟨_, ⟨n9, o0, rfl, j4, f3⟩, i7⟩ => V (jw rfl (jR b.has i7 gK cU)) (VE (kf b eP (fun m1 n5 b => ?_)))))
  obtain ⟨g0, g4, rfl⟩ := j4.form
  obtain ⟨c7, d0, rfl⟩ := f3.form
  let a0 := (C3 c.Signed.jr.Kind c.Signed.jr.Head.js c.Signed.jr.Head.jy c.Signed.jr.ky c.Signed.jr.B.js c.Signed.jr.B.jy c.Signed.jr.C.js c.Signed.jr.C.jy c.Signed.jr.kF g0 c.Signed.Tag.length g4 c.jx.Op c.jx.K c.jx.jq.js c.jx.jq.jy c7 c.jx.Kids.length d0)
  refine VO (jL (.agg a0.toArray) (a0.toArray) b rfl rfl cU oc nb rfl (fun m2 b => lS (Wf vI (Wf xj (VA b Mh (jv c.Signed.jr) bM aJ (V (jw d2 (jz b.has (Mt (Mt Mh)) (jv p) rfl bM aJ)) (V (Gm rfl rfl (nm fi) (B9 (vh _ c.Signed.jr p))) (ln (CI t rfl (fun i1 t => ?_) (fun i1 t => ?_))))))))))
  ·refine mZ (mS (qx (jF ?_)))
   replace b := b.ju (Db St)
   exact ⟨A, _, ⟨rfl, R⟩, (b.ju St), f0, d2, b0, f1, (by rw [j8]; exact t)⟩
  refine kg (Wf BO (VA b Mh (C1 c.jx.Op c.jx.K c.jx.jq.js c.jx.jq.jy c7 c.jx.Kids.length d0) aG aB (bS t fun j i9 t => ?_)))
  refine VE (eD b (bB _) call345 (fun hh => (GG c.jx (.slice c7 c.jx.Kids.length d0) _ _ hh (f3.mono jB.mono (kd.refl _)) i9)) ?_ (L0 := []))
  rintro _ o1 c0 l9 b c3 m ⟨o6, e0, rfl, f8⟩
  obtain rfl := e0.symm
  refine Wm (Wx rfl (Wx rfl (VE (kf b aM (fun m4 a5 b => ?_)))))
  let g5 : Value := (.pointer (some ⟨a5, 0, none⟩))
  obtain ⟨e4, e8, rfl⟩ := f8.form
  let g6 : Value := (.slice e4 ((j.1).Kids).length e8)
  refine VO (jL (.agg #[(.int .i64 ((j.1).Op)), (.int .i64 ((j.1).K)), (.string (((j.1).jq).js)), (.string (((j.1).jq).jy)), g6]) (#[(.int .i64 ((j.1).Op)), (.int .i64 ((j.1).K)), (.string (((j.1).jq).js)), (.string (((j.1).jq).jy)), g6]) b rfl rfl aB oc nb rfl (fun m5 b => Wa (ln ?_)))
  replace b := b.ju (Kb (Db St))
  refine jK (sg (V (jC GQ f0) (VB b (Mt (Mt (Mt Mh))) rfl rfl isAgg108 (V (kK dE rfl Q) (Wm (ln ?_))))))
  replace b := b.ju (Kb (Kb (Kb (Db St))))
  refine CJ t (fun T E W => ∃ d9 c1 g1, kd c0 c1 ∧ Lo (keys []) w c0 c1 ∧ ST false (keys []) w W c1 ((a5, Ob #[(.int .i64 T.2.1), (.int .i64 T.2.2.1), (.string T.2.2.2.1.js), (.string T.2.2.2.1.jy), d9] 113) :: ((P, Ol C4 113) :: g1)) ∧ E 4 = f2 ∧ E 8 = g5 ∧ E 9 = (.int .i64 T.1) ∧ Sl jt 5 c1 d9 T.2.2.2.2) (fun T i6 => ?_) ?_
  ·refine kB (fun i E W => ∃ L u x g U z J e7, (E 33 = .int .i64 (i : Nat) ∧ E 32 = .int .i64 (Y.ke.length : Nat)) ∧ kd c0 J ∧ Lo (keys []) w c0 J ∧ ST false (keys []) w W J ((a5, Ob #[(.int .i64 u), (.int .i64 x), (.string g.js), (.string g.jy), U] 113) :: ((P, Ol C4 113) :: ((O, Ol (jv p) 53) :: e7))) ∧ E 3 = (.pointer (some ⟨O, 0, none⟩)) ∧ E 4 = f2 ∧ E 8 = g5 ∧ E 9 = (.int .i64 L) ∧ E 31 = (.slice A3 Y.ke.length c4) ∧ Sl jt 5 J U z ∧ sE p (Y.ke.drop i) L u x g z = some T) Y.ke.length Q.len ⟨j.2, ((j.1).Op), ((j.1).K), ((j.1).jq), g6, ((j.1).Kids), c0, _, ⟨rfl, rfl⟩, (kd.refl _), Lo.refl, (b.ju St), d2, b0, rfl, rfl, rfl, f8, i6⟩ dc dc dc (fun _ _ _ h => by obtain ⟨_, _, _, _, _, _, _, _, F, _⟩ := h; exact F) ?_ ?_
   ·rintro h4 E W i5 ⟨L, u, x, g, U, z, J, e7, ⟨A, R⟩, Z, d, b, d4, d5, d6, b1, d7, a3, K⟩
    obtain ⟨a, l7, k0, j9, f7⟩ := kq i5
    rw [k0] at K
    refine bg (VQ (lK (i := (h4 : Int)) (x0 := a) kX.out dE eu d7 A (Q.mono lT.mono (c3.trans Z)) (aH _) j9) (fun n7 ⟨_, ⟨o2, o3, rfl, f5, f6⟩, i8⟩ => V (jw rfl (jR b.has i8 iX eu)) (VE (kf b gL (fun m8 g3 b => ?_)))))
    obtain ⟨D, G, rfl⟩ := f5.form
    let h6 : Value := (.slice D a.jx.Kids.length G)
    obtain ⟨c8, d1, rfl⟩ := f6.form
    let b8 := (C7 a.jq.js a.jq.jy a.jx.Op a.jx.K a.jx.jq.js a.jx.jq.jy D a.jx.Kids.length G c8 a.ms.length d1)
    refine VO (jL (.agg b8.toArray) (b8.toArray) b rfl rfl eu oc nb rfl (fun m9 b => lr (Wh b1 (Wi rfl (Wm (LJ K (fun h5 E W => ∃ g2, ST false (keys []) w W J ((g3, Ol b8 263) :: ((a5, Ob #[(.int .i64 u), (.int .i64 x), (.string g.js), (.string g.jy), U] 113) :: ((P, Ol C4 113) :: ((O, Ol (jv p) 53) :: g2)))) ∧ E 3 = (.pointer (some ⟨O, 0, none⟩)) ∧ E 4 = f2 ∧ E 8 = g5 ∧ E 9 = (.int .i64 L) ∧ E 11 = (.pointer (some ⟨g3, 0, none⟩)) ∧ E 31 = (.slice A3 Y.ke.length c4) ∧ E 32 = (.int .i64 (Y.ke.length : Int)) ∧ E 33 = (.int .i64 (h4 : Int)) ∧ E 44 = (.bool h5)) 5 ?_ (fun h5 N e3 => ?_)))))))
    ·rintro o5 E W ⟨g2, b, g8, g9, d8, k5, k6, h1, h2, h3, k7⟩ M
     refine ln (CI M k7 (fun i3 M => ?_) (fun i3 M => ?_))
     ·refine jI (V (jw d8 (jz b.has (Mt Mh) [(.int .i64 u), (.int .i64 x), (.string g.js), (.string g.jy), U] rfl aG aB)) (V (jC GV k6) (VA b Mh (C1 a.jx.Op a.jx.K a.jx.jq.js a.jx.jq.jy D a.jx.Kids.length G) aG aB ?_)))
      obtain ⟨a4, a6, rfl⟩ := a3.form
      refine VE (jX (cs := #[(.int .i64 u), (.int .i64 x), (.string g.js), (.string g.jy), (.slice a4 z.length a6), (.int .i64 a.jx.Op), (.int .i64 a.jx.K), (.string a.jx.jq.js), (.string a.jx.jq.jy), h6]) b (nY rfl rfl) (lW aD aB aM) (fun n0 c9 b => V (kZ (v := (.agg #[(.int .i64 2), (.int .i64 0), (.string zS), (.string zS), (.slice (some ⟨c9, 0, none⟩) 2 2)])) (nY rfl rfl) (kE aM aX (qm _ aX) kr)) ?_))
      obtain ⟨o8, b, h7, q, j5⟩ := ST.so (B := [(c9, Ob #[(.int .i64 u), (.int .i64 x), (.string g.js), (.string g.jy), (.slice a4 z.length a6), (.int .i64 a.jx.Op), (.int .i64 a.jx.K), (.string a.jx.jq.js), (.string a.jx.jq.jy), h6] 113)]) jB b (kD.lit jB (l := [(⟨u, x, g, z⟩ : Formula), a.jx]) (.cons (ys := C1 u x g.js g.jy a4 z.length a6) (jt.mk ⟨(.slice a4 z.length a6), rfl, a3⟩) (.cons (ys := C1 a.jx.Op a.jx.K a.jx.jq.js a.jx.jq.jy D a.jx.Kids.length G) (jt.mk ⟨h6, rfl, f5⟩) .nil)) rfl nb rfl)
      refine bS M fun k j0 M => ?_
      refine VE (eD b (bB _) call345 (fun hh => (GG (⟨2, 0, K0, [(⟨u, x, g, z⟩ : Formula), a.jx]⟩ : Formula) (.slice (some ⟨c9, 0, none⟩) 2 2) _ _ hh (j5.mono jB.mono (kd.refl _)) j0)) ?_ (L0 := []))
      rintro _ o4 l0 m0 b h8 s ⟨o7, e1, rfl, f9⟩
      obtain rfl := e1.symm
      refine Wm (Wx rfl (Wx rfl ?_))
      obtain ⟨e5, e9, rfl⟩ := f9.form
      let h9 : Value := (.slice e5 ((k.1).Kids).length e9)
      replace b := b.perm (Nb (Pb Pz) Nz)
      refine VO (jL (.agg #[(.int .i64 ((k.1).Op)), (.int .i64 ((k.1).K)), (.string (((k.1).jq).js)), (.string (((k.1).jq).jy)), h9]) (#[(.int .i64 ((k.1).Op)), (.int .i64 ((k.1).K)), (.string (((k.1).jq).js)), (.string (((k.1).jq).jy)), h9]) b d8 rfl aB oc nb rfl (fun n2 b => Wa (jW (ko (jF ?_)))))
      replace b := b.ju (Kb (Db St))
      exact ⟨h3, k.2, ((k.1).Op), ((k.1).K), ((k.1).jq), h9, ((k.1).Kids), l0, _, ⟨rfl, h2⟩, ((Z.trans h7).trans h8), ((d.trans q).trans s), (b.ju St), g8, g9, d8, rfl, h1, f9, (by rw [f7]; exact M)⟩
     refine kP (ko (jF ?_))
     replace b := b.ju (Db St)
     exact ⟨h3, L, u, x, g, U, z, J, _, ⟨rfl, h2⟩, Z, d, (b.ju St), g8, g9, d8, k5, h1, a3, (by rw [f7]; exact M)⟩
    refine bC N (fun y N => ?_) (fun y N => ?_)
    ·refine ug y (jC GZ rfl) (ug y (jw rfl (jO b.has Mh rfl jo)) (ug y (jw d4 (jz b.has (Mt (Mt (Mt Mh))) (jv p) rfl bM aJ)) (bS N fun n8 j3 N => qI y (Eg b call53 (jS.li (Bv (.slice c8 a.ms.length d1) a.ms p _ _ (f6.mono (Pl.mono _) b.jD) j3)) (fun n3 b => V (jM (cB y) rfl) ?_)))))
     obtain rfl := sj N
     exact e3 _ _ ⟨_, (b.ju St), d4, d5, d6, b1, rfl, d7, R, A, rfl⟩
    refine un y (un y (un y (un y (V (jN (cB y) rfl) ?_))))
    obtain rfl := sj N
    exact e3 _ _ ⟨_, (b.ju St), d4, d5, d6, b1, rfl, d7, R, A, rfl⟩
   rintro E W ⟨L, u, x, g, U, z, J, e7, ⟨A, R⟩, Z, d, b, d4, d5, d6, b1, d7, a3, K⟩
   rw [aN] at K
   refine jF ?_
   obtain rfl := sj K
   exact ⟨U, J, _, Z, d, (b.ju (Kb (Kb (Db St)))), d5, d6, b1, a3⟩
  rintro ⟨k9, b4, b6, H, b2⟩ E W ⟨d9, c1, g1, e2, n, b, d3, k4, g7, f4⟩ a2
  refine jK (sg (Wh g7 (Wi rfl (ln (CI a2 rfl (fun i2 a2 => ?_) (fun i2 a2 => ?_))))))
  ·refine sg (V (kZ (v := (.agg C4.toArray)) pM (kE aM aX (qm _ aX) kr)) (Wh g7 ?_))
   replace b := b.perm (Nb (Pb Pz) Nz)
   refine VO (jL (.agg C4.toArray) (C4.toArray) b d3 rfl aB oc nb rfl (fun m6 b => Wa (ln ?_)))
   replace b := b.ju (Kb (Db St))
   refine jU (kj (me (kj (me (kj ?_)))))
   obtain rfl := sj a2
   exact oD (v0 := (.agg C4.toArray)) (v1 := (.int .i64 k9)) rfl d3 (jz b.has Mh C4 rfl aG aB) rfl ⟨_, _, _, rfl, (b.lM Sn), (c3.trans e2), (m.trans n), (ST.kA b (ma.mem Sn)), (.slice none 0 0), rfl, rfl, (Sl.nil _ _ _)⟩
  refine kg (V (jw k4 (jz b.has Mh [(.int .i64 b4), (.int .i64 b6), (.string H.js), (.string H.jy), d9] rfl aG aB)) ?_)
  obtain ⟨a8, a9, rfl⟩ := f4.form
  let c6 := (C1 b4 b6 H.js H.jy a8 b2.length a9)
  replace b := b.perm (Nb (Pb Pz) Nz)
  refine VO (jL (.agg c6.toArray) (c6.toArray) b d3 rfl aB oc nb rfl (fun m7 b => Wa (ln ?_)))
  replace b := b.ju (Kb (Db St))
  refine jU (me (kj (me (kj ?_))))
  obtain rfl := sj a2
  exact oD (v0 := (.agg c6.toArray)) (v1 := (.int .i64 0)) rfl d3 (jz b.has Mh c6 rfl aG aB) rfl ⟨_, _, _, rfl, (b.lM Sn), (c3.trans e2), (m.trans n), (ST.kA b (ma.mem Sn)), (.slice a8 b2.length a9), rfl, rfl, f4⟩
 rintro E W ⟨e6, ⟨A, R⟩, b, f0, d2, b0, f1, t⟩
 rw [aN] at t
 refine jF ?_
 replace b := b.ju (Kb (Db (Db St)))
 refine sg (V (kZ (v := (.agg C4.toArray)) pM (kE aM aX (qm _ aX) kr)) (VO (jL (.agg C4.toArray) (C4.toArray) b b0 rfl aB oc nb rfl (fun n4 b => Wa (lt ?_)))))
 obtain rfl := sj t
 exact oD (v0 := (.agg C4.toArray)) (v1 := (.int .i64 42)) rfl b0 (jz b.has Mh C4 rfl aG aB) rfl ⟨_, _, _, rfl, (b.lM Sn), (kd.refl _), Lo.refl, (ST.kA b (ma.mem Sn)), (.slice none 0 0), rfl, rfl, (Sl.nil _ _ _)⟩
theorem JC (k : Value) (u : List jq) (g : jq) (r : Bool) (w : World) (j : Sl (Pl jA) 2 (hp w) k u) (hm : zr u g = some r) :
  jS true Tryz.prog 346 [k, (.agg (jA g).toArray)] w (.bool r) := by
 refine cG 17 func346 rfl (fun b => sg (VE (km b rfl (fun Y J b => Wa (lS (Wm (V (kK eQ rfl j) (Wm (ln ?_)))))))))
 refine kB (fun i E W => ∃ t, (E 9 = .int .i64 (i : Nat) ∧ E 8 = .int .i64 (u.length : Nat)) ∧ ST true ku w W (hp w) ((J, Ol (jA g) 28) :: t) ∧ E 3 = (.pointer (some ⟨J, 0, none⟩)) ∧ E 7 = k ∧ wY g (u.drop i) = some r) u.length j.len ⟨_, ⟨rfl, rfl⟩, (b.ju St), rfl, rfl, hm⟩ dc dc dc (fun _ _ _ h => by obtain ⟨_, l, _⟩ := h; exact l) ?_ ?_
 ·rintro K E W B ⟨t, ⟨d, m⟩, b, x, y, a⟩
  obtain ⟨c, M, H, G, I⟩ := kq B
  rw [H] at a
  refine bg (VQ (na (enc := jA) (i := (K : Int)) (x0 := c) eQ aQ y d j (aH _) G) (fun U D => V (jw rfl (jR b.has D bG aQ)) (VE (kf b eH (fun N T b => VO (jL (.agg (jA c).toArray) ((jA c).toArray) b rfl rfl aQ (vJ c) nb rfl (fun Q b => lr (VA b Mh (jA c) bG aQ (V (jw x (jz b.has (Mt Mh) (jA g) rfl bG aQ)) (V (uB rfl rfl (nm eA) (qO (po _ c g))) (jW ?_)))))))))))
  refine jF ?_
  replace b := b.ju (Db St)
  refine CI a rfl (fun z a => ?_) (fun z a => ?_)
  ·refine sg (Wa (ln ?_))
   replace b := b.ju (Db St)
   refine jU (me (kj (me (kj ?_))))
   obtain rfl := sj a
   exact rP b
  exact kP (ko (jF ⟨d, _, ⟨rfl, m⟩, (b.ju St), x, y, (by rw [I]; exact a)⟩))
 rintro E W ⟨t, ⟨d, m⟩, b, x, y, a⟩
 rw [aN] at a
 refine jF ?_
 replace b := b.ju (Db St)
 exact sg (Wa (lt (rQ a b)))
theorem EH (N : Formula → (List jq) → Option Bool) (a5 : ∀ (g : Formula) (k : Value) (t : Value) (H : List jq) (r : Bool) (w : World) (c : Sl jt 5 (hp w) k g.Kids) (J : Sl (Pl jA) 2 (hp w) t H), N g H = some r → jS false Tryz.prog 285 [(.agg #[(.int .i64 g.Op), (.int .i64 g.K), (.string g.jq.js), (.string g.jq.jy), k]), t] w (.bool r)) (g : Formula) (k t : Value) (H : List jq) (r : Bool) (w : World) (c : Sl jt 5 (hp w) k g.Kids) (J : Sl (Pl jA) 2 (hp w) t H) (hm : xi N g H = some r) :
  jS false Tryz.prog 285 [(.agg #[(.int .i64 g.Op), (.int .i64 g.K), (.string g.jq.js), (.string g.jq.jy), k]), t] w (.bool r) := by
 refine cG 45 func285 rfl (fun b => sg ?_)
 obtain ⟨A1, c2, rfl⟩ := c.form
 refine VE (km b rfl (fun W4 n b => Wa (lS (Wf mN (VB b Mh rfl rfl cC (Wi rfl (ln (CI hm rfl (fun a9 hm => ?_) (fun a9 hm => ?_)))))))))
 ·refine sg (Wm (Wf rB (VA b Mh (jA g.jq) bG aQ (bS hm fun r6 s hm => VE (Eg b call346 (jS.li (JC t H g.jq _ _ (J.mono (Pl.mono _) b.jD) s)) (fun W8 b => Wa (ln ?_)))))))
  replace b := b.ju (Db St)
  refine jU (kj ?_)
  obtain rfl := sj hm
  exact rP b
 refine kg (Wa (lS (Wf mO (VB b Mh rfl rfl dB (V (kK aD rfl c) (Wm (jW ?_)))))))
 refine jF (kB (fun i E W => ∃ y I, (E 18 = .int .i64 (i : Nat) ∧ E 17 = .int .i64 (g.Kids.length : Nat)) ∧ ST false ku w W (hp w) ((n, Ol (C1 g.Op g.K g.jq.js g.jq.jy A1 g.Kids.length c2) 113) :: I) ∧ E 1 = t ∧ E 2 = (.pointer (some ⟨n, 0, none⟩)) ∧ E 5 = (.int .i64 y) ∧ E 16 = (.slice A1 g.Kids.length c2) ∧ qy N H g (g.Kids.drop i) y = some r) g.Kids.length c.len ⟨0, _, ⟨rfl, rfl⟩, (b.ju St), rfl, rfl, rfl, rfl, hm⟩ dc dc dc (fun _ _ _ h => by obtain ⟨_, _, l, _⟩ := h; exact l) ?_ ?_)
 ·rintro v E W a4 ⟨y, I, ⟨d, m⟩, b, D, u, x, G, a⟩
  obtain ⟨j, c1, q, p, M⟩ := kq a4
  rw [q] at a
  refine bg (VQ (lK (i := (v : Int)) (x0 := j) jt.out aD aB G d c (aH _) p) (fun P ⟨_, ⟨c0, rfl, K⟩, Y⟩ => V (jw rfl (jR b.has Y aG aB)) (VE (kf b aM (fun A O b => ?_)))))
  obtain ⟨z, B, rfl⟩ := K.form
  let a0 := (C1 j.Op j.K j.jq.js j.jq.jy z j.Kids.length B)
  refine VO (jL (.agg a0.toArray) (a0.toArray) b rfl rfl aB oc nb rfl (fun F b => lr (VA b Mh a0 aG aB (Wh D (bS a fun R Z a => VE (Eg b call285 (a5 j (.slice z j.Kids.length B) t H _ _ (K.mono jB.mono b.jD) (J.mono (Pl.mono _) b.jD) Z) (fun L b => ln ?_)))))))
  replace b := b.ju (Db St)
  refine CI a rfl (fun Q a => ?_) (fun Q a => ?_)
  ·exact jI (Wh x (Wi rfl (Wa (jW (ko (jF ⟨d, (IntKind.i64.wrap (y + 1)), _, ⟨rfl, m⟩, (b.ju St), D, u, rfl, G, (by rw [M]; exact a)⟩))))))
  exact kP (ko (jF ⟨d, y, _, ⟨rfl, m⟩, (b.ju St), D, u, x, G, (by rw [M]; exact a)⟩))
 rintro E W ⟨y, I, ⟨d, m⟩, b, D, u, x, G, a⟩
 rw [aN] at a
 refine jF (jK (sg (V (jC mN u) (VB b Mh rfl rfl cC (Wi rfl (ln (CI a rfl (fun T a => ?_) (fun T a => ?_))))))))
 ·refine sg (Wh x (V (jC mO u) (VB b Mh rfl rfl dB (V (kK aD rfl c) (Wi rfl (Wa (ln ?_)))))))
  replace b := b.ju (Db St)
  refine jU (kj ?_)
  obtain rfl := sj a
  exact rP b
 refine kS (V (jC mN u) (VB b Mh rfl rfl cC (Wi rfl (ln (CI a rfl (fun U a => ?_) (fun U a => ?_))))))
 ·refine sg (Wh x (Wi rfl (Wa (ln ?_))))
  replace b := b.ju (Db St)
  refine jU (kj ?_)
  obtain rfl := sj a
  exact rP b
 refine kg (Wh x (V (jC pA u) (VB b Mh rfl rfl cC (Wi rfl (Wa (ln ?_))))))
 exact jU (rQ a b)
theorem Eh : ∀ (n : Nat) (c : Formula) (a : Value) (g : Value) (j : List jq) (r : Bool) (w : World) (i : Sl jt 5 (hp w) a c.Kids) (k : Sl (Pl jA) 2 (hp w) g j) (_ : rO n c j = some r),
  jS false Tryz.prog 285 [(.agg #[(.int .i64 c.Op), (.int .i64 c.K), (.string c.jq.js), (.string c.jq.jy), a]), g] w (.bool r)
 | 0 => by intros; rename_i h; simp only [rO] at h; cases h
 | n + 1 => EH (rO n) (Eh n)
theorem yB (k : kI) (D I O : Value) (A : List jr) (a2 : ByteArray) (r : List jr) (w : World) (g : Sl kc 15 (hp w) D k.jH) (H : Sl kX 8 (hp w) I k.ke) (g2 : Sl (Pl jv) 9 (hp w) O A) (hm : tL k A a2 = some r) :
  lz false Tryz.prog 178 [(.agg #[(.string k.Name), D, I]), O, (.string a2)] w 53 jv 9 r := by
 refine tF 48 func178 rfl (fun d => sg ?_)
 obtain ⟨A1, c2, rfl⟩ := g.form
 let b8 : Value := (.slice A1 k.jH.length c2)
 obtain ⟨A3, c4, rfl⟩ := H.form
 let F := (C5 k.Name A1 k.jH.length c2 A3 k.ke.length c4)
 refine VE (km d rfl (fun W6 q d => Wa (lr (Wm (bS hm fun r7 h0 hm => VE (pv d call124 (lz.li (KV O A _ _ (g2.mono (Pl.mono _) d.jD) h0)) (fun W9 h1 j8 j6 d Y ae g0 => Wm (bS hm fun f1 g3 hm => VE (pv d call283 (lz.li (Ib h1 r7 a2 _ _ (g0.sl qN (fun b o m => d.at_ (Ml m))) g3)) (fun j7 d5 f2 f0 d Z af g1 => Wa (ln ?_)))))))))))
 replace d := d.ju (Kr (Dr St))
 refine sg (Wa (lS (Wf qM (VB d (Ma Mh) rfl rfl fK (V (kK cP rfl g) (Wm (ln (kB (fun i E W => ∃ z G B a4 L, (E 20 = .int .i64 (i : Nat) ∧ E 19 = .int .i64 (k.jH.length : Nat)) ∧ kd f2 a4 ∧ ST false ku w W a4 ((q, Ol F 110) :: (B ++ (f0 ++ L))) ∧ E 3 = (.pointer (some ⟨q, 0, none⟩)) ∧ E 7 = d5 ∧ E 8 = z ∧ E 18 = b8 ∧ jT 53 jv 9 z G B ∧ qJ k f1 (k.jH.drop i) G = some r) k.jH.length g.len ⟨(.slice none 0 0), ([]), [], f2, _, ⟨rfl, rfl⟩, (kd.refl _), (d.ju (Sb (Pr Pz) St)), rfl, rfl, rfl, rfl, (jT.nil _ _ _), hm⟩ dc dc dc (fun _ _ _ h => by obtain ⟨_, _, _, _, _, aa, _⟩ := h; exact aa) ?_ ?_))))))))
 ·rintro d3 E W e1 ⟨z, G, B, a4, L, ⟨s, eN⟩, u, d, N, Q, T, U, J, j⟩
  obtain ⟨a, h2, e9, e8, b9⟩ := kq e1
  rw [e9] at j
  refine bg (VQ (lK (i := (d3 : Int)) (x0 := a) kc.out cP cU U s (g.mono jZ.mono ((Y.trans Z).trans u)) (aH _) e8) (fun i4 ⟨_, ⟨i8, i9, rfl, e6, e7⟩, e2⟩ => V (jw rfl (jR d.has e2 gK cU)) (VE (kf d eP (fun h4 c5 d => ?_)))))
  obtain ⟨a8, b2, rfl⟩ := e6.form
  obtain ⟨a9, b3, rfl⟩ := e7.form
  let a0 := (C3 a.Signed.jr.Kind a.Signed.jr.Head.js a.Signed.jr.Head.jy a.Signed.jr.ky a.Signed.jr.B.js a.Signed.jr.B.jy a.Signed.jr.C.js a.Signed.jr.C.jy a.Signed.jr.kF a8 a.Signed.Tag.length b2 a.jx.Op a.jx.K a.jx.jq.js a.jx.jq.jy a9 a.jx.Kids.length b3)
  refine VO (jL (.agg a0.toArray) (a0.toArray) d rfl rfl cU oc nb rfl (fun h5 d => lr (V (jw N (jz d.has (Mt Mh) F rfl eB dS)) (Wf vI (Wf xj (VA d Mh (jv a.Signed.jr) bM aJ (bS j fun c e3 j => ?_)))))))
  let c6 : Value := (.string (((c.1).jq).jy))
  let c1 : Value := (.string (((c.1).jq).js))
  refine VE (eD d (bB _) call284 (fun hh => (Lz k b8 (.slice A3 k.ke.length c4) a.Signed.jr _ _ hh (g.mono jZ.mono ((Y.trans Z).trans u)) (H.mono lT.mono ((Y.trans Z).trans u)) e3)) ?_ (L0 := []))
  rintro _ j0 P h3 d a5 ab ⟨j4, a3, rfl, c0⟩
  obtain rfl := a3.symm
  refine Wm (Wx rfl (Wx rfl (VE (kf d aM (fun h7 i3 d => ?_)))))
  obtain ⟨K, M, rfl⟩ := c0.form
  let n : Value := (.slice K ((c.1).Kids).length M)
  refine VO (jL (.agg #[(.int .i64 ((c.1).Op)), (.int .i64 ((c.1).K)), c1, c6, n]) (#[(.int .i64 ((c.1).Op)), (.int .i64 ((c.1).K)), c1, c6, n]) d rfl rfl aB oc nb rfl (fun h8 d => Wa (lr (Wm (Wi rfl (Wm (LJ j (fun d4 E W => ∃ c3, ST false ku w W P ((c5, Ol a0 138) :: ((q, Ol F 110) :: (B ++ (f0 ++ c3)))) ∧ E 3 = (.pointer (some ⟨q, 0, none⟩)) ∧ E 7 = d5 ∧ E 8 = z ∧ E 10 = (.pointer (some ⟨c5, 0, none⟩)) ∧ E 18 = b8 ∧ E 19 = (.int .i64 (k.jH.length : Int)) ∧ E 20 = (.int .i64 (d3 : Int)) ∧ E 38 = (.bool d4)) 4 ?_ (fun d4 y a6 => ?_))))))))
  ·rintro j3 E W ⟨c3, d, c7, c8, c9, f8, d0, d1, d2, f9⟩ x
   refine ln (CI x f9 (fun d9 x => ?_) (fun d9 x => ?_))
   ·refine jI (Wh c9 (V (jC vI f8) (Wf xj (VA d Mh (jv a.Signed.jr) bM aJ (VE (jX (cs := (jv a.Signed.jr).toArray) d (lJ rfl) (lW aI aJ cH) (fun h9 f7 d => ?_)))))))
    replace d := d.perm (Nr (Qb (Qb (Qb Qz))) Nz)
    refine bS x fun g4 e0 x => VE (ns (enc := jv) (v := z) (vs := (.slice (some ⟨f7, 0, none⟩) 1 1)) (R := B) d jV dc mT aI mh.1 mh.2.1 rfl mh.2.2.1 mh.2.2.2 rfl rfl J (Sl.lit (enc := jv) (l := [a.Signed.jr]) jV rfl nb rfl (d.at_ (Ma Mh))) e0 (fun i0 g7 f3 d d8 => Wa (jW (ko (jF ?_)))))
    replace d := d.ju (Kr (Db (Db St)))
    exact ⟨d2, g7, g4, f3, P, _, ⟨rfl, d1⟩, (u.trans a5), (d.ju (Sb (Pr Pz) St)), c7, c8, rfl, d0, d8, (by rw [b9]; exact x)⟩
   refine kP (ko (jF ?_))
   replace d := d.ju (Db St)
   exact ⟨d2, z, G, B, P, _, ⟨rfl, d1⟩, (u.trans a5), (d.ju St), c7, c8, c9, d0, J, (by rw [b9]; exact x)⟩
  refine bC y (fun t y => ?_) (fun t y => ?_)
  ·refine ug t (jw rfl (jz d.has Mh [(.int .i64 ((c.1).Op)), (.int .i64 ((c.1).K)), c1, c6, n] rfl aG aB)) (ug t (jE Q) (bS y fun i5 e4 y => qI t (Eg d call285 ((Eh jY) c.1 n d5 f1 _ _ (c0.mono jB.mono d.jD) (g1.sl xX (fun b o m => d.at_ (Mt (Mt (Mt (Ma (Ml m))))))) e4) (fun i1 d => V (jM (cB t) rfl) ?_))))
   obtain rfl := sj y
   exact a6 _ _ ⟨_, (d.ju (Db St)), N, Q, T, rfl, U, eN, s, rfl⟩
  refine un t (un t (un t (V (jN (cB t) rfl) ?_)))
  obtain rfl := sj y
  exact a6 _ _ ⟨_, (d.ju (Db St)), N, Q, T, rfl, U, eN, s, rfl⟩
 rintro E W ⟨z, G, B, a4, L, ⟨s, eN⟩, u, d, N, Q, T, U, J, j⟩
 rw [aN] at j
 refine jF ?_
 replace d := d.ju (Db (Kr (Dr St)))
 refine sg (Wh T (bS j fun i6 e5 j => VE (pv d call33 (lz.li (BA z G _ _ (J.sl jV (fun b o m => d.at_ (Ml m))) e5)) (fun i2 g8 j5 f4 d g9 ad b7 => Wa (ln ?_)))))
 replace d := d.ju (Kr (Dr St))
 refine jU ?_
 obtain rfl := sj j
 exact kY (v := g8) rfl rfl ⟨_, f4, rfl, d.nx (fun p m => (Ml m)) b7.nd, b7⟩
theorem Ee (G : Value) (H : List jr) (z : Value) (J r : List jr) (w : World) (D : Sl (Pl jv) 9 (hp w) G H) (Z : Sl (Pl jv) 9 (hp w) z J) (hm : wu H J = some r) :
  lz true Tryz.prog 177 [G, z] w 53 jv 9 r := by
 refine tF 23 func177 rfl (fun b => sg (Wa (lr (Wa (lS (Wm ?_))))))
 refine V (kK aI rfl D) (Wm (ln (kB (fun i E W => ∃ j t g B, (E 10 = .int .i64 (i : Nat) ∧ E 9 = .int .i64 (H.length : Nat)) ∧ ST true ku w W (hp w) (g ++ B) ∧ E 1 = z ∧ E 5 = j ∧ E 8 = G ∧ jT 53 jv 9 j t g ∧ qt J (H.drop i) t = some r) H.length D.len ⟨(.slice none 0 0), ([]), [], _, ⟨rfl, rfl⟩, (b.ju St), rfl, rfl, rfl, (jT.nil _ _ _), hm⟩ dc dc dc (fun _ _ _ h => by obtain ⟨_, _, _, _, m, _⟩ := h; exact m) ?_ ?_)))
 ·rintro s E W a2 ⟨j, t, g, B, ⟨d, n⟩, b, u, x, y, k, a⟩
  obtain ⟨c, b6, a4, a3, I⟩ := kq a2
  rw [a4] at a
  refine bg (VQ (na (enc := jv) (i := (s : Int)) (x0 := c) aI aJ y d D (aH _) a3) (fun b4 Q => V (jw rfl (jR b.has Q bM aJ)) (VE (kf b cH (fun F b3 b => VO (jL (.agg (jv c).toArray) ((jv c).toArray) b rfl rfl aJ (mT c) nb rfl (fun a9 b => lr (Wh u (VA b Mh (jv c) bM aJ (bS a fun b5 T a => VE (Eg b call53 (Bv z J c _ _ (Z.mono (Pl.mono _) b.jD) T) (fun L b => ?_))))))))))))
  refine ln (CI a rfl (fun M a => ?_) (fun M a => ?_))
  ·refine jI (Wh x (VA b Mh (jv c) bM aJ (VE (jX (cs := (jv c).toArray) b (lJ rfl) (lW aI aJ cH) (fun O Y b => ?_)))))
   replace b := b.perm (Nr (Qb (Qb Qz)) Nz)
   refine bS a fun a5 N a => VE (ns (enc := jv) (v := j) (vs := (.slice (some ⟨Y, 0, none⟩) 1 1)) (R := g) b jV dc mT aI mh.1 mh.2.1 rfl mh.2.2.1 mh.2.2.2 rfl rfl k (Sl.lit (enc := jv) (l := [c]) jV rfl nb rfl (b.at_ (Ma Mh))) N (fun P q U b K => Wa (jW (ko (jF ?_)))))
   replace b := b.ju (Kr (Db (Db St)))
   exact ⟨d, q, a5, U, _, ⟨rfl, n⟩, (b.ju St), u, rfl, y, K, (by rw [I]; exact a)⟩
  refine kP (ko (jF ?_))
  replace b := b.ju (Db St)
  exact ⟨d, j, t, g, _, ⟨rfl, n⟩, (b.ju St), u, x, y, k, (by rw [I]; exact a)⟩
 rintro E W ⟨j, t, g, B, ⟨d, n⟩, b, u, x, y, k, a⟩
 rw [aN] at a
 refine jF (sg (Wh x (Wa (lt ?_))))
 obtain rfl := sj a
 exact kY (v := j) rfl rfl ⟨_, g, rfl, b.nx (fun p A => (Ml A)) k.nd, k⟩
theorem rN (t : Value) (y : List jr) (u : Value) (K : List jr) (r : Bool) (w : World) (c : Sl (Pl jv) 9 (hp w) t y) (z : Sl (Pl jv) 9 (hp w) u K) (hm : nv y K = some r) :
  jS true Tryz.prog 41 [t, u] w (.bool r) := by
 refine cG 26 func41 rfl (fun d => sg (Wa (lS (Wm (V (kK aI rfl c) (Wm (V (kK aI rfl z) (Wi rfl (jW ?_)))))))))
 refine jF (CI hm rfl (fun U hm => ?_) (fun U hm => ?_))
 ·refine sg (Wa (lt (kj ?_)))
  obtain rfl := sj hm
  exact rP d
 refine kS (Wm (V (kK aI rfl c) (Wm (ln (kB (fun i E W => ∃ g, (E 13 = .int .i64 (i : Nat) ∧ E 12 = .int .i64 (y.length : Nat)) ∧ ST true ku w W (hp w) g ∧ E 0 = t ∧ E 1 = u ∧ px K (y.drop i) i = some r) y.length c.len ⟨_, ⟨rfl, rfl⟩, (d.ju St), rfl, rfl, hm⟩ dc dc dc (fun _ _ _ h => by obtain ⟨_, m, _⟩ := h; exact m) ?_ ?_)))))
 ·rintro I E W M ⟨g, ⟨l, p⟩, d, j, k, a⟩
  obtain ⟨J, a3, Q, N, T⟩ := kq M
  rw [Q] at a
  refine bg (Wh l (Wa (ln (jK ?_))))
  replace d := d.drew
  have b := d.has.ju Sn
  refine kJ b kw (X 0 rfl b (jE j) (X 1 rfl b (jE rfl) (XQ 2 rfl b (na (enc := jv) (i := (I : Int)) (x0 := J) aI aJ rfl rfl c (aH _) N) (fun Y G => XH 3 rfl b (fun _ n => jw rfl (jR n G bM aJ)) (X 4 rfl b (jE k) (X 5 rfl b (jE rfl) (bS a fun B x a => XQ 6 rfl b (na (enc := jv) (i := (I : Int)) (x0 := B) aI aJ rfl rfl z (kk x) (ki x)) (fun Z H => XH 7 rfl b (fun _ n => jw rfl (jR n H bM aJ)) (X 8 rfl b (Gm rfl rfl (nm fi) (B9 (vh _ J B))) (kW kr (jF (CI a rfl (fun D a => ?_) (fun D a => ?_)))))))))))))
  ·refine sg (Wa (lt (me (kj (me (kj ?_))))))
   obtain rfl := sj a
   exact rP d
  exact kP (ko (jF ⟨l, _, ⟨rfl, p⟩, (d.ju St), j, k, (by rw [T]; exact a)⟩))
 rintro E W ⟨g, ⟨l, p⟩, d, j, k, a⟩
 rw [aN] at a
 exact jF (sg (Wa (lt (rQ a d))))
theorem Df (a : nf) (B G t z x Z : Value) (r : ((List jr) × (List jr))) (w : World) (j : Sl kc 15 (hp w) B a.js.jH) (k : Sl kX 8 (hp w) G a.js.ke) (g : Sl kc 15 (hp w) t a.Client.jH) (i : Sl kX 8 (hp w) z a.Client.ke) (J : Sl jt 5 (hp w) x a.Formula.Kids) (a9 : Sl qa 2 (hp w) Z a.Keys) (hm : vn a = some r) :
  lF false Tryz.prog 75 [(.agg #[(.string a.js.Name), B, G, (.string a.Client.Name), t, z, (.int .i64 a.Formula.Op), (.int .i64 a.Formula.K), (.string a.Formula.jq.js), (.string a.Formula.jq.jy), x, (.int .i64 a.sI), (.int .i64 a.mG.uU), (.int .i64 a.mG.uV), (.int .i64 a.nD), (.int .i64 a.pP), (.int .i64 a.ow), Z])] w [] (fun v L1 W' => ∃ y1 S2 y4 S5, v = (.tuple #[y1, y4]) ∧ L1 = (S2 ++ (S5 ++ [])) ∧ jT 53 jv 9 y1 r.1 S2 ∧ jT 53 jv 9 y4 r.2 S5) := by
 refine tF 44 func75 rfl (fun d => sg ?_)
 obtain ⟨A1, c2, rfl⟩ := j.form
 obtain ⟨A3, n, rfl⟩ := k.form
 let b2 := (C5 a.js.Name A1 a.js.jH.length c2 A3 a.js.ke.length n)
 obtain ⟨A5, p, rfl⟩ := g.form
 obtain ⟨A7, q, rfl⟩ := i.form
 let b1 := (C5 a.Client.Name A5 a.Client.jH.length p A7 a.Client.ke.length q)
 obtain ⟨A9, d5, rfl⟩ := J.form
 obtain ⟨d2, d6, rfl⟩ := a9.form
 let a0 := (C2 a.js.Name A1 a.js.jH.length c2 A3 a.js.ke.length n a.Client.Name A5 a.Client.jH.length p A7 a.Client.ke.length q a.Formula.Op a.Formula.K a.Formula.jq.js a.Formula.jq.jy A9 a.Formula.Kids.length d5 a.sI a.mG.uU a.mG.uV a.nD a.pP a.ow d2 a.Keys.length d6)
 refine VE (km d rfl (fun j6 d1 d => Wa (Wa (ln (jK ?_)))))
 replace d := d.drew
 have h := d.has.ju (Kb Sn)
 refine kJ h kw (X 0 rfl h (jC vO rfl) (XH 1 rfl h (fun _ hS => jw rfl (jz hS Mh b2 rfl eB dS)) (X 3 rfl h (jC vM rfl) (XH 4 rfl h (fun _ hS => jw rfl (jz hS Mh b1 rfl eB dS)) (bS hm fun h3 g0 hm => XE 2 rfl (pv d call176 (lz.li (E1 a.js (.slice A1 a.js.jH.length c2) (.slice A3 a.js.ke.length n) _ _ (j.mono jZ.mono d.jD) (k.mono lT.mono d.jD) g0)) (fun j7 h5 j9 g9 d D af f8 => ?_)))))))
 have h := d.has.tH D (Dr (Kb Sn))
 refine ⟨h, (bS hm fun h4 g1 hm => XE 5 rfl (pv d call176 (lz.li (E1 a.Client (.slice A5 a.Client.jH.length p) (.slice A7 a.Client.ke.length q) _ _ (g.mono jZ.mono (D.trans d.jD)) (i.mono lT.mono (D.trans d.jD)) g1)) (fun j8 h6 f4 h0 d K ag f9 => ?_)))⟩
 have h := d.has.tH (D.trans K) (Dr (Dr (Kb Sn)))
 refine ⟨h, (X 6 rfl h (nu rfl) (X 7 rfl h (nu rfl) (kW kr (jF (qb (ll (mU (fun m E W => ∃ U Q O Y T P d0 d3, kd f4 d0 ∧ ST false ku w W d0 ((d1, Ol a0 116) :: (P ++ (O ++ d3))) ∧ E 1 = (.pointer (some ⟨d1, 0, none⟩)) ∧ E 4 = U ∧ E 5 = Y ∧ jT 53 jv 9 U Q O ∧ jT 53 jv 9 Y T P ∧ pS a m Q T = some r) jY ⟨h5, h3, g9, h6, h4, h0, f4, _, (kd.refl _), (d.ju (Sb (Pr (Pr Pz)) St)), rfl, rfl, rfl, f8, f9, hm⟩ ?_)))))))⟩
 rintro m E W ⟨U, Q, O, Y, T, P, d0, d3, I, d, N, c7, c9, F, L, c⟩
 cases m with
 | zero => rw [pS] at c; cases c
 | succ g2 =>
  refine bg (Wh c7 (V (jC vO N) (VA d Mh b2 eB dS (Wh c9 (V (jC vM N) (Wf wT (VB d Mh rfl rfl bV (bS c fun g3 e8 c => VE (pv d call178 (yB a.js (.slice A1 a.js.jH.length c2) (.slice A3 a.js.ke.length n) Y T a.Client.Name _ _ (j.mono jZ.mono (((D.trans K).trans I).trans d.jD)) (k.mono lT.mono (((D.trans K).trans I).trans d.jD)) (L.sl jV (fun b o l => d.at_ (Mt (Ml l)))) e8) (fun i2 g7 j3 i0 d s aa e5 => bS c fun e1 e9 c => VE (pv d call177 (lz.li (Ee U Q g7 g3 _ _ (F.sl jV (fun b o l => d.at_ (Ma (Mt (Ma (Ml l)))))) (e5.sl jV (fun b o l => d.at_ (Ml l))) e9)) (fun i3 a3 j4 R d a2 ab a5 => Wa ?_))))))))))))
  refine ln ?_
  replace d := d.ju (Kr (Dr St))
  refine sg (Wh c9 (V (jC vM N) (VA d (Ma Mh) b1 eB dS (Wh c7 (V (jC vO N) (Wf wT (VB d (Ma Mh) rfl rfl bV (bS c fun g4 f0 c => VE (pv d call178 (yB a.Client (.slice A5 a.Client.jH.length p) (.slice A7 a.Client.ke.length q) U Q a.js.Name _ _ (g.mono jZ.mono (((((D.trans K).trans I).trans s).trans a2).trans d.jD)) (i.mono lT.mono (((((D.trans K).trans I).trans s).trans a2).trans d.jD)) (F.sl jV (fun b o l => d.at_ (Ma (Mt (Ma (Ml l)))))) f0) (fun i4 g8 j5 i1 d d9 ad e6 => bS c fun e2 f1 c => VE (pv d call177 (lz.li (Ee Y T g8 g4 _ _ (L.sl jV (fun b o l => d.at_ (Ma (Ma (Mt (Ml l)))))) (e6.sl jV (fun b o l => d.at_ (Ml l))) f1)) (fun i5 a4 e4 b9 d e0 ae A => Wa (jW ?_)))))))))))))
  refine jF ?_
  replace d := d.ju (Kr (Dr St))
  refine jK (sg (Wm (Wh c7 (bS c fun i8 f2 c => VE (Eg d call41 (jS.li (rN a3 e1 U Q _ _ (a5.sl jV (fun b o l => d.at_ (Ma (Ml l)))) (F.sl jV (fun b o l => d.at_ (Ma (Ma (Mt (Ma (Ml l))))))) f2)) (fun i6 d => Wm (LJ c (fun e3 E W => ∃ d4, ST false ku w W e4 ((d1, Ol a0 116) :: (b9 ++ (R ++ d4))) ∧ E 1 = (.pointer (some ⟨d1, 0, none⟩)) ∧ E 6 = a3 ∧ E 7 = a4 ∧ E 39 = (.bool e3)) 4 ?_ (fun e3 H b0 => ?_))))))))
  ·rintro j0 E W ⟨d4, d, f6, d7, d8, f7⟩ M
   refine ln (CI M f7 (fun e7 M => ?_) (fun e7 M => ?_))
   ·refine sg (Wh d7 (Wh d8 (Wa (Wa (ln ?_)))))
    replace d := d.ju (Db St)
    refine jU (kj (me (kj (me (kj ?_)))))
    obtain rfl := sj M
    exact AK (v := a3) (u := a4) rfl rfl rfl ⟨_, _, rfl, (d.GF (Sr (Qr Qz) (Kr Sn))), a3, R, a4, b9, rfl, rfl, a5, A⟩
   exact kg (Wh d7 (Wa (ln (jI (Wh d8 (Wa (jW (ko (jF ⟨g2, bE _, a3, e1, R, a4, e2, b9, e4, _, ((((I.trans s).trans a2).trans d9).trans e0), (d.ju St), f6, rfl, rfl, a5, A, M⟩)))))))))
  refine bC H (fun y H => ?_) (fun y H => ?_)
  ·refine ug y (jE rfl) (ug y (jE c9) (bS H fun i9 f3 H => qI y (Eg d call41 (jS.li (rN a4 e2 Y T _ _ (A.sl jV (fun b o l => d.at_ (Ml l))) (L.sl jV (fun b o l => d.at_ (Ma (Ma (Mt (Ml l)))))) f3)) (fun i7 d => V (jM (cB y) rfl) ?_))))
   obtain rfl := sj H
   exact b0 _ _ ⟨_, (d.ju (Sb (Pr (Pr Pz)) (Kr (Kr (Dr (Dr St)))))), N, rfl, rfl, rfl⟩
  refine un y (un y (un y (V (jN (cB y) rfl) ?_)))
  obtain rfl := sj H
  exact b0 _ _ ⟨_, (d.ju (Sb (Pr (Pr Pz)) (Kr (Kr (Dr (Dr St)))))), N, rfl, rfl, rfl⟩
theorem Lx (g : kI) (B J : Value) (i : kI) (D K : Value) (r : ((List jr) × (List jr) × Int)) (w : World) (x : Sl kc 15 (hp w) B g.jH) (H : Sl kX 8 (hp w) J g.ke) (y : Sl kc 15 (hp w) D i.jH) (I : Sl kX 8 (hp w) K i.ke) (hm : Cz g i = some r) :
  lF false Tryz.prog 180 [(.agg #[(.string g.Name), B, J]), (.agg #[(.string i.Name), D, K])] w [] (fun v L1 W' => ∃ y1 S2 y4 S5, v = (.tuple #[y1, y4, (.int .i64 (r.2.2))]) ∧ L1 = (S2 ++ (S5 ++ [])) ∧ jT 53 jv 9 y1 r.1 S2 ∧ jT 53 jv 9 y4 r.2.1 S5) := by
 refine tF 37 func180 rfl (fun d => sg ?_)
 obtain ⟨A1, c2, rfl⟩ := x.form
 obtain ⟨A3, c4, rfl⟩ := H.form
 let p := (C5 g.Name A1 g.jH.length c2 A3 g.ke.length c4)
 refine VE (km d rfl (fun W6 n d => ?_))
 obtain ⟨A7, c8, rfl⟩ := y.form
 obtain ⟨A9, L, rfl⟩ := I.form
 let a0 := (C5 i.Name A7 i.jH.length c8 A9 i.ke.length L)
 refine VE (km d rfl (fun g4 l d => Wa (Wa (Wa (lr (Wa (Wa (lr (Wa ?_)))))))))
 refine ln (qb (ll (mU (fun m E W => ∃ t T M u U N G s c0, kd (hp w) s ∧ ST false ku w W s ((l, Ol a0 110) :: ((n, Ol p 110) :: (N ++ (M ++ c0)))) ∧ E 2 = (.pointer (some ⟨n, 0, none⟩)) ∧ E 3 = (.pointer (some ⟨l, 0, none⟩)) ∧ E 7 = t ∧ E 8 = u ∧ E 9 = (.int .i64 G) ∧ jT 53 jv 9 t T M ∧ jT 53 jv 9 u U N ∧ sr g i m T U G = some r) jY ⟨(.slice none 0 0), ([]), [], (.slice none 0 0), ([]), [], 0, (hp w), _, (kd.refl _), (d.ju St), rfl, rfl, rfl, rfl, rfl, (jT.nil _ _ _), (jT.nil _ _ _), hm⟩ ?_)))
 rintro m E W ⟨t, T, M, u, U, N, G, s, c0, k, d, Y, Z, a2, a3, d0, a4, a5, a⟩
 cases m with
 | zero => rw [sr] at a; cases a
 | succ f0 =>
  refine bg (V (jw Y (jz d.has (Mt Mh) p rfl eB dS)) (Wh a3 (V (jC wT Z) (VB d Mh rfl rfl bV (bS a fun d3 d9 a => VE (pv d call178 (yB g (.slice A1 g.jH.length c2) (.slice A3 g.ke.length c4) u U i.Name _ _ (x.mono jZ.mono (k.trans d.jD)) (H.mono lT.mono (k.trans d.jD)) (a5.sl jV (fun b o h => d.at_ (Mt (Mt (Ml h))))) d9) (fun f6 q g3 c3 d Q A P => Wa (lr (V (jw Z (jz d.has (Ma Mh) a0 rfl eB dS)) ?_)))))))))
  refine Wh a2 (V (jC wT Y) (VB d (Ma (Mt Mh)) rfl rfl bV (bS a fun d4 e0 a => VE (pv d call178 (yB i (.slice A7 i.jH.length c8) (.slice A9 i.ke.length L) t T g.Name _ _ (y.mono jZ.mono ((k.trans Q).trans d.jD)) (I.mono lT.mono ((k.trans Q).trans d.jD)) (a4.sl jV (fun b o h => d.at_ (Ma (Mt (Mt (Ma (Ml h))))))) e0) (fun f7 a9 d6 c5 d d2 F R => Wa (lS (Wm (Wh a2 (bS a fun g0 e1 a => VE (Eg d call41 (jS.li (rN q d3 t T _ _ (P.sl jV (fun b o h => d.at_ (Ma (Ml h)))) (a4.sl jV (fun b o h => d.at_ (Ma (Ma (Mt (Mt (Ma (Ml h)))))))) e1)) (fun f8 d => ?_)))))))))))
  refine Wm (LJ a (fun d5 E W => ∃ c1, ST false ku w W d6 ((l, Ol a0 110) :: ((n, Ol p 110) :: (c5 ++ (c3 ++ (N ++ (M ++ c1)))))) ∧ E 2 = (.pointer (some ⟨n, 0, none⟩)) ∧ E 3 = (.pointer (some ⟨l, 0, none⟩)) ∧ E 7 = t ∧ E 8 = u ∧ E 9 = (.int .i64 G) ∧ E 10 = q ∧ E 11 = a9 ∧ E 29 = (.bool d5)) 4 ?_ (fun d5 j O => ?_))
  ·rintro g2 E W ⟨c1, d, e3, e4, e5, e6, d1, e7, e8, e9⟩ z
   refine ln (CI z e9 (fun d8 z => ?_) (fun d8 z => ?_))
   ·refine sg (Wh e5 (Wh e6 (Wh d1 (Wa (Wa (Wa (ln ?_)))))))
    replace d := d.ju (Db (Db (Dr (Dr St))))
    refine jU (kj (me (kj (me (kj ?_)))))
    obtain rfl := sj z
    exact IK (v0 := t) (v1 := u) (v2 := (.int .i64 G)) rfl rfl rfl rfl ⟨_, _, rfl, (d.GF (Sr (Qr Qz) (Kr Sn))), t, M, u, N, rfl, rfl, a4, a5⟩
   refine kn ?_
   replace d := d.ju (Kb (Kb (Kr (Kr (Dr (Dr St))))))
   refine sg (Wh e7 (Wa (lr (Wh e8 (Wa (ln (jI (Wh d1 (Wi rfl ?_)))))))))
   exact Wa (jW (ko (jF ⟨f0, bE _, q, d3, c3, a9, d4, c5, (IntKind.i64.wrap (G + 1)), d6, _, ((k.trans Q).trans d2), (d.ju St), e3, e4, rfl, rfl, rfl, P, R, z⟩)))
  refine bC j (fun c j => ?_) (fun c j => ?_)
  ·refine ug c (jE rfl) (ug c (jE a3) (bS j fun g1 e2 j => qI c (Eg d call41 (jS.li (rN a9 d4 u U _ _ (R.sl jV (fun b o h => d.at_ (Ml h))) (a5.sl jV (fun b o h => d.at_ (Ma (Ma (Mt (Mt (Ml h))))))) e2)) (fun f9 d => V (jM (cB c) rfl) ?_))))
   obtain rfl := sj j
   exact O _ _ ⟨_, (d.ju (Sb (Pr (Pr Pz)) (Sb (Pr (Pr Pz)) St))), Y, Z, a2, a3, d0, rfl, rfl, rfl⟩
  refine un c (un c (un c (V (jN (cB c) rfl) ?_)))
  obtain rfl := sj j
  exact O _ _ ⟨_, (d.ju (Sb (Pr (Pr Pz)) (Sb (Pr (Pr Pz)) St))), Y, Z, a2, a3, d0, rfl, rfl, rfl⟩
theorem Da (G : Value) (H : List jr) (z : Value) (J r : List jr) (w : World) (D : Sl (Pl jv) 9 (hp w) G H) (Z : Sl (Pl jv) 9 (hp w) z J) (hm : vt H J = some r) :
  lz true Tryz.prog 181 [G, z] w 53 jv 9 r := by
 refine tF 24 func181 rfl (fun b => sg (Wa (lr (Wa (lS (Wm ?_))))))
 refine V (kK aI rfl D) (Wm (ln (kB (fun i E W => ∃ j t g B, (E 10 = .int .i64 (i : Nat) ∧ E 9 = .int .i64 (H.length : Nat)) ∧ ST true ku w W (hp w) (g ++ B) ∧ E 1 = z ∧ E 5 = j ∧ E 8 = G ∧ jT 53 jv 9 j t g ∧ pU J (H.drop i) t = some r) H.length D.len ⟨(.slice none 0 0), ([]), [], _, ⟨rfl, rfl⟩, (b.ju St), rfl, rfl, rfl, (jT.nil _ _ _), hm⟩ dc dc dc (fun _ _ _ h => by obtain ⟨_, _, _, _, m, _⟩ := h; exact m) ?_ ?_)))
 ·rintro s E W a2 ⟨j, t, g, B, ⟨d, n⟩, b, u, x, y, k, a⟩
  obtain ⟨c, b6, a4, a3, I⟩ := kq a2
  rw [a4] at a
  refine bg (VQ (na (enc := jv) (i := (s : Int)) (x0 := c) aI aJ y d D (aH _) a3) (fun b4 Q => V (jw rfl (jR b.has Q bM aJ)) (VE (kf b cH (fun F b3 b => VO (jL (.agg (jv c).toArray) ((jv c).toArray) b rfl rfl aJ (mT c) nb rfl (fun a9 b => lr (Wh u (VA b Mh (jv c) bM aJ (bS a fun b5 T a => VE (Eg b call53 (Bv z J c _ _ (Z.mono (Pl.mono _) b.jD) T) (fun L b => ?_))))))))))))
  refine V (nH rfl) (ln (CI a rfl (fun M a => ?_) (fun M a => ?_)))
  ·refine jI (Wh x (VA b Mh (jv c) bM aJ (VE (jX (cs := (jv c).toArray) b (lJ rfl) (lW aI aJ cH) (fun O Y b => ?_)))))
   replace b := b.perm (Nr (Qb (Qb Qz)) Nz)
   refine bS a fun a5 N a => VE (ns (enc := jv) (v := j) (vs := (.slice (some ⟨Y, 0, none⟩) 1 1)) (R := g) b jV dc mT aI mh.1 mh.2.1 rfl mh.2.2.1 mh.2.2.2 rfl rfl k (Sl.lit (enc := jv) (l := [c]) jV rfl nb rfl (b.at_ (Ma Mh))) N (fun P q U b K => Wa (jW (ko (jF ?_)))))
   replace b := b.ju (Kr (Db (Db St)))
   exact ⟨d, q, a5, U, _, ⟨rfl, n⟩, (b.ju St), u, rfl, y, K, (by rw [I]; exact a)⟩
  refine kP (ko (jF ?_))
  replace b := b.ju (Db St)
  exact ⟨d, j, t, g, _, ⟨rfl, n⟩, (b.ju St), u, x, y, k, (by rw [I]; exact a)⟩
 rintro E W ⟨j, t, g, B, ⟨d, n⟩, b, u, x, y, k, a⟩
 rw [aN] at a
 refine jF (sg (Wh x (Wa (lt ?_))))
 obtain rfl := sj a
 exact kY (v := j) rfl rfl ⟨_, g, rfl, b.nx (fun p A => (Ml A)) k.nd, k⟩
theorem HZ (a : nf) (z B t y x G : Value) (r : ((List jr) × (List jr))) (w : World) (i : Sl kc 15 (hp w) z a.js.jH) (j : Sl kX 8 (hp w) B a.js.ke) (c : Sl kc 15 (hp w) t a.Client.jH) (g : Sl kX 8 (hp w) y a.Client.ke) (k : Sl jt 5 (hp w) x a.Formula.Kids) (D : Sl qa 2 (hp w) G a.Keys) (hm : xK a = some r) :
  lF false Tryz.prog 77 [(.agg #[(.string a.js.Name), z, B, (.string a.Client.Name), t, y, (.int .i64 a.Formula.Op), (.int .i64 a.Formula.K), (.string a.Formula.jq.js), (.string a.Formula.jq.jy), x, (.int .i64 a.sI), (.int .i64 a.mG.uU), (.int .i64 a.mG.uV), (.int .i64 a.nD), (.int .i64 a.pP), (.int .i64 a.ow), G])] w [] (fun v L1 W' => ∃ O S2 P S5, v = (.tuple #[O, P]) ∧ L1 = (S2 ++ (S5 ++ [])) ∧ jT 53 jv 9 O r.1 S2 ∧ jT 53 jv 9 P r.2 S5) := by
 refine tF 29 func77 rfl (fun d => sg ?_)
 obtain ⟨K, Z, rfl⟩ := i.form
 obtain ⟨N, m, rfl⟩ := j.form
 obtain ⟨Q, n, rfl⟩ := c.form
 obtain ⟨T, p, rfl⟩ := g.form
 obtain ⟨A9, U, rfl⟩ := k.form
 obtain ⟨M, Y, rfl⟩ := D.form
 refine VE (km d rfl (fun e7 f2 d => Wa (Wa (lr (VA d Mh (C2 a.js.Name K a.js.jH.length Z N a.js.ke.length m a.Client.Name Q a.Client.jH.length n T a.Client.ke.length p a.Formula.Op a.Formula.K a.Formula.jq.js a.Formula.jq.jy A9 a.Formula.Kids.length U a.sI a.mG.uU a.mG.uV a.nD a.pP a.ow M a.Keys.length Y) er cQ (bS hm fun a4 b3 hm => ?_))))))
 refine VE (zI d (bB _) call75 (fun _ _ _ _ => (Df a (.slice K a.js.jH.length Z) (.slice N a.js.ke.length m) (.slice Q a.Client.jH.length n) (.slice T a.Client.ke.length p) (.slice A9 a.Formula.Kids.length U) (.slice M a.Keys.length Y) _ _ (i.mono jZ.mono d.jD) (j.mono lT.mono d.jD) (c.mono jZ.mono d.jD) (g.mono lT.mono d.jD) (k.mono jB.mono d.jD) (D.mono vT.mono d.jD) b3)) (fun e8 f5 f7 e1 d H A h a9 => ?_) (L0 := []))
 obtain ⟨d1, e3, d2, e4, I, rfl, b7, b9⟩ := a9
 replace I := I.symm; subst I
 replace d := d.perm (Tr (Tr Tn))
 refine Wm (Wx rfl (Wx rfl (Wa (Wa (lr (Wf vO (VA d (Ma (Ma Mh)) (C5 a.js.Name K a.js.jH.length Z N a.js.ke.length m) eB dS (Wf vM (VA d (Ma (Ma Mh)) (C5 a.Client.Name Q a.Client.jH.length n T a.Client.ke.length p) eB dS (bS hm fun a5 b4 hm => ?_))))))))))
 refine VE (zI d (bB _) call180 (fun _ _ _ _ => (Lx a.js (.slice K a.js.jH.length Z) (.slice N a.js.ke.length m) a.Client (.slice Q a.Client.jH.length n) (.slice T a.Client.ke.length p) _ _ (i.mono jZ.mono (H.trans d.jD)) (j.mono lT.mono (H.trans d.jD)) (c.mono jZ.mono (H.trans d.jD)) (g.mono lT.mono (H.trans d.jD)) b4)) (fun e9 f6 f8 e2 d d6 E h R => ?_) (L0 := []))
 obtain ⟨d4, e5, d5, e6, J, rfl, c0, c1⟩ := R
 replace J := J.symm; subst J
 replace d := d.perm (Tr (Tr Tn))
 refine Wm (Wx rfl (Wx rfl (Wx rfl (Wa (Wa (Wa (ln ?_)))))))
 replace d := d.ju (Kr (Kr (Kr (Kr (Db St)))))
 refine sg (Wm (Wm (bS hm fun f3 b5 hm => VE (pv d call181 (lz.li (Da d1 a4.1 d4 a5.1 _ _ (b7.sl jV (fun b o l => d.at_ (Ma (Ma (Ml l))))) (c0.sl jV (fun b o l => d.at_ (Ml l))) b5)) (fun f0 q f9 c3 d d7 F W => Wm (Wm (bS hm fun f4 b6 hm => VE (pv d call181 (lz.li (Da d2 a4.2 d5 a5.2.1 _ _ (b9.sl jV (fun b o l => d.at_ (Ma (Ma (Ma (Ma (Ml l))))))) (c1.sl jV (fun b o l => d.at_ (Ma (Ma (Ml l))))) b6)) (fun f1 s g0 c5 d d8 L b2 => Wa (Wa (ln ?_)))))))))))
 replace d := d.ju (Kr (Kr (Dr (Dr (Dr (Dr St))))))
 refine jU ?_
 obtain rfl := sj hm
 exact AK (v := q) (u := s) rfl rfl rfl ⟨_, _, rfl, (d.GF (Sr (Qr Qz) (Kr Sn))), q, c3, s, c5, rfl, rfl, W, b2⟩
set_option maxHeartbeats 1000000 in
theorem DF (a : nf) (N Q H M I b2 : Value) (r : Bool) (w : World) (j : Sl kc 15 (hp w) N a.js.jH) (t : Sl kX 8 (hp w) Q a.js.ke) (c : Sl kc 15 (hp w) H a.Client.jH) (i : Sl kX 8 (hp w) M a.Client.ke) (g : Sl jt 5 (hp w) I a.Formula.Kids) (y : Sl qa 2 (hp w) b2 a.Keys) (hm : uk a = some r) :
  jS false Tryz.prog 11 [(.agg #[(.string a.js.Name), N, Q, (.string a.Client.Name), H, M, (.int .i64 a.Formula.Op), (.int .i64 a.Formula.K), (.string a.Formula.jq.js), (.string a.Formula.jq.jy), I, (.int .i64 a.sI), (.int .i64 a.mG.uU), (.int .i64 a.mG.uV), (.int .i64 a.nD), (.int .i64 a.pP), (.int .i64 a.ow), b2])] w (.bool r) := by
 refine cG 65 func11 rfl (fun d => sg ?_)
 obtain ⟨A1, c2, rfl⟩ := j.form
 let a4 : Value := (.slice A1 a.js.jH.length c2)
 obtain ⟨A3, c4, rfl⟩ := t.form
 let q : Value := (.slice A3 a.js.ke.length c4)
 obtain ⟨A5, c6, rfl⟩ := c.form
 let a3 : Value := (.slice A5 a.Client.jH.length c6)
 obtain ⟨A7, c8, rfl⟩ := i.form
 let a5 : Value := (.slice A7 a.Client.ke.length c8)
 obtain ⟨A9, D, rfl⟩ := g.form
 let p : Value := (.slice A9 a.Formula.Kids.length D)
 obtain ⟨B, G, rfl⟩ := y.form
 let s : Value := (.slice B a.Keys.length G)
 let a0 := (C2 a.js.Name A1 a.js.jH.length c2 A3 a.js.ke.length c4 a.Client.Name A5 a.Client.jH.length c6 A7 a.Client.ke.length c8 a.Formula.Op a.Formula.K a.Formula.jq.js a.Formula.jq.jy A9 a.Formula.Kids.length D a.sI a.mG.uU a.mG.uV a.nD a.pP a.ow B a.Keys.length G)
 refine VE (km d rfl (fun m5 v d => Wa (lS (bS hm fun n3 i4 hm => VE (Eg d call72 (H9  _ _  i4) (fun m6 d => V (nH rfl) (ln (CI hm rfl (fun i1 hm => ?_) (fun i1 hm => ?_)))))))))
 ·refine sg (Wa (ln ?_))
  replace d := d.ju (Db St)
  refine jU (kj ?_)
  have h := sj hm; subst h
  exact rP d
 refine kS (VA d Mh a0 er cQ (bS hm fun n4 i5 hm => VE (Eg d call73 (H3 a a4 q a3 a5 p s _ _ (j.mono jZ.mono d.jD) (t.mono lT.mono d.jD) (c.mono jZ.mono d.jD) (i.mono lT.mono d.jD) (g.mono jB.mono d.jD) (y.mono vT.mono d.jD) i5) (fun m7 d => Wi rfl (ln (CI hm rfl (fun i2 hm => ?_) (fun i2 hm => ?_)))))))
 ·refine sg (Wa (ln ?_))
  replace d := d.ju (Db St)
  refine jU (kj ?_)
  have h := sj hm; subst h
  exact rP d
 refine kg (VA d Mh a0 er cQ (bS hm fun g1 i6 hm => ?_))
 refine VE (zI d (bB _) call74 (fun _ _ _ _ => (zM a a4 q a3 a5 p s _ _ (j.mono jZ.mono d.jD) (t.mono lT.mono d.jD) (c.mono jZ.mono d.jD) (i.mono lT.mono d.jD) (g.mono jB.mono d.jD) (y.mono vT.mono d.jD) i6)) (fun m8 n6 o1 l7 d k aa l h7 => ?_) (L0 := []))
 obtain ⟨k1, m1, k2, m2, c1, rfl, j3, j4⟩ := h7
 replace c1 := c1.symm; subst c1
 replace d := d.perm (Tr (Tr Tn))
 refine Wm (Wx rfl (Wx rfl (Wa (Wa (lr (VA d (Ma (Ma Mh)) a0 er cQ (bS hm fun g2 i7 hm => ?_)))))))
 refine VE (zI d (bB _) call75 (fun _ _ _ _ => (Df a a4 q a3 a5 p s _ _ (j.mono jZ.mono (k.trans d.jD)) (t.mono lT.mono (k.trans d.jD)) (c.mono jZ.mono (k.trans d.jD)) (i.mono lT.mono (k.trans d.jD)) (g.mono jB.mono (k.trans d.jD)) (y.mono vT.mono (k.trans d.jD)) i7)) (fun m9 n7 o2 l8 d x ab l h8 => ?_) (L0 := []))
 obtain ⟨k3, m3, k4, m4, O, rfl, j5, j6⟩ := h8
 replace O := O.symm; subst O
 replace d := d.perm (Tr (Tr Tn))
 refine Wm (Wx rfl (Wx rfl (Wa (Wa (lr (VA d (Ma (Ma (Ma (Ma Mh)))) a0 er cQ (bS hm fun g3 i8 hm => ?_)))))))
 refine VE (zI d (bB _) call76 (fun _ _ _ _ => (zW a a4 q a3 a5 p s _ _ (j.mono jZ.mono ((k.trans x).trans d.jD)) (t.mono lT.mono ((k.trans x).trans d.jD)) (c.mono jZ.mono ((k.trans x).trans d.jD)) (i.mono lT.mono ((k.trans x).trans d.jD)) (g.mono jB.mono ((k.trans x).trans d.jD)) (y.mono vT.mono ((k.trans x).trans d.jD)) i8)) (fun n0 n8 o3 l9 d z ad l h9 => ?_) (L0 := []))
 obtain ⟨g7, j9, e9, f8, P, rfl, j7, j8⟩ := h9
 replace P := P.symm; subst P
 replace d := d.perm (Tr (Tr Tn))
 refine Wm (Wx rfl (Wx rfl (Wa (Wa (lr (VA d (Ma (Ma (Ma (Ma (Ma (Ma Mh)))))) a0 er cQ (bS hm fun g4 i9 hm => ?_)))))))
 refine VE (zI d (bB _) call77 (fun _ _ _ _ => (HZ a a4 q a3 a5 p s _ _ (j.mono jZ.mono (((k.trans x).trans z).trans d.jD)) (t.mono lT.mono (((k.trans x).trans z).trans d.jD)) (c.mono jZ.mono (((k.trans x).trans z).trans d.jD)) (i.mono lT.mono (((k.trans x).trans z).trans d.jD)) (g.mono jB.mono (((k.trans x).trans z).trans d.jD)) (y.mono vT.mono (((k.trans x).trans z).trans d.jD)) i9)) (fun n1 n9 d1 m0 d a2 ae l i0 => ?_) (L0 := []))
 obtain ⟨A, d5, d0, d6, R, rfl, e3, e4⟩ := i0
 replace R := R.symm; subst R
 replace d := d.perm (Tr (Tr Tn))
 refine Wm (Wx rfl (Wx rfl (Wa (Wa (lr (Wm (Wm (bS hm fun n5 j0 hm => VE (Eg d call41 (jS.li (rN k1 g1.1 k3 g2.1 _ _ (j3.sl jV (fun b o m => d.at_ (Ma (Ma (Ma (Ma (Ma (Ma (Ml m))))))))) (j5.sl jV (fun b o m => d.at_ (Ma (Ma (Ma (Ma (Ml m))))))) j0)) (fun n2 d => Wm (LJ hm (fun e8 E W => ∃ f7, ST false ku w W d1 ((v, Ol a0 116) :: (d5 ++ (d6 ++ (j9 ++ (f8 ++ f7))))) ∧ E 1 = (.pointer (some ⟨v, 0, none⟩)) ∧ E 2 = (.bool false) ∧ E 7 = g7 ∧ E 8 = e9 ∧ E 9 = A ∧ E 10 = d0 ∧ E 43 = (.bool e8)) 4 ?_ (fun e8 n b7 => ?_))))))))))))
 ·rintro o0 E W ⟨f7, d, f9, g0, k0, d7, F, d8, g9⟩ i3
  refine Wh g9 (LJ i3 (fun e7 E W => ∃ d2, ST false ku w W d1 ((v, Ol a0 116) :: (d5 ++ (d6 ++ (f8 ++ d2)))) ∧ E 1 = (.pointer (some ⟨v, 0, none⟩)) ∧ E 2 = (.bool false) ∧ E 8 = e9 ∧ E 9 = A ∧ E 10 = d0 ∧ E 48 = (.bool e7)) 4 ?_ (fun e7 Z b6 => ?_))
  ·rintro l4 E W ⟨d2, d, d9, e0, h0, e1, L, h1⟩ f0
   refine Wh h1 (LJ f0 (fun e6 E W => ∃ d3, ST false ku w W d1 ((v, Ol a0 116) :: (d5 ++ (d6 ++ d3))) ∧ E 1 = (.pointer (some ⟨v, 0, none⟩)) ∧ E 2 = (.bool false) ∧ E 9 = A ∧ E 10 = d0 ∧ E 53 = (.bool e6)) 4 ?_ (fun e6 Y b5 => ?_))
   ·rintro l5 E W ⟨d3, d, h2, e2, h3, h4, h5⟩ f1
    refine Wh h5 (LJ f1 (fun e5 E W => ∃ d4, ST false ku w W d1 d4 ∧ E 2 = (.bool false) ∧ E 64 = (.bool e5)) 10 ?_ (fun e5 U b4 => ?_))
    ·rintro l6 E W ⟨d4, d, k9, h6⟩ f2
     exact Wg h6 (lt (rQ f2 d))
    refine bC U (fun u U => ?_) (fun u U => ?_)
    ·refine ug u (jw h2 (jz d.has Mh a0 rfl er cQ)) (bS U fun l0 f3 U => qI u (Eg d call78 (AG a a4 q a3 a5 p s _ _ (j.mono jZ.mono ((((k.trans x).trans z).trans a2).trans d.jD)) (t.mono lT.mono ((((k.trans x).trans z).trans a2).trans d.jD)) (c.mono jZ.mono ((((k.trans x).trans z).trans a2).trans d.jD)) (i.mono lT.mono ((((k.trans x).trans z).trans a2).trans d.jD)) (g.mono jB.mono ((((k.trans x).trans z).trans a2).trans d.jD)) (y.mono vT.mono ((((k.trans x).trans z).trans a2).trans d.jD)) f3) (fun k5 d => ug u (jE h3) (ug u (mI aI rfl e3) (ug u (jE h4) (ug u (mI aI rfl e4) (ug u (kx rfl rfl rfl) (ug u (kx rfl rfl rfl) (ug u (OM underlying4 rfl rfl rfl) (V (jM (cB u) rfl) ?_))))))))))
     have h := sj U; subst h
     exact b4 _ _ ⟨_, (d.ju (Db (Dr (Dr St)))), e2, rfl⟩
    refine un u (un u (un u (un u (un u (un u (un u (un u (un u (V (jN (cB u) rfl) ?_)))))))))
    have h := sj U; subst h
    exact b4 _ _ ⟨_, (d.ju (Db (Dr (Dr St)))), e2, rfl⟩
   refine bC Y (fun K Y => ?_) (fun K Y => ?_)
   ·refine ug K (jE h0) (ug K (jE L) (bS Y fun l1 f4 Y => qI K (Eg d call41 (jS.li (rN e9 g3.2 d0 g4.2 _ _ (j8.sl jV (fun b o m => d.at_ (Mt (Ma (Ma (Ml m)))))) (e4.sl jV (fun b o m => d.at_ (Mt (Ma (Ml m))))) f4)) (fun k6 d => V (jM (cB K) rfl) ?_))))
    have h := sj Y; subst h
    exact b5 _ _ ⟨_, (d.ju (Kb (Kr (Kr (Dr St))))), d9, e0, e1, L, rfl⟩
   refine un K (un K (un K (V (jN (cB K) rfl) ?_)))
   have h := sj Y; subst h
   exact b5 _ _ ⟨_, (d.ju (Kb (Kr (Kr (Dr St))))), d9, e0, e1, L, rfl⟩
  refine bC Z (fun J Z => ?_) (fun J Z => ?_)
  ·refine ug J (jE k0) (ug J (jE F) (bS Z fun l2 f5 Z => qI J (Eg d call41 (jS.li (rN g7 g3.1 A g4.1 _ _ (j7.sl jV (fun b o m => d.at_ (Mt (Ma (Ma (Ml m)))))) (e3.sl jV (fun b o m => d.at_ (Mt (Ml m)))) f5)) (fun k7 d => V (jM (cB J) rfl) ?_))))
   have h := sj Z; subst h
   exact b6 _ _ ⟨_, (d.ju (Kb (Kr (Kr (Dr St))))), f9, g0, d7, F, d8, rfl⟩
  refine un J (un J (un J (V (jN (cB J) rfl) ?_)))
  have h := sj Z; subst h
  exact b6 _ _ ⟨_, (d.ju (Kb (Kr (Kr (Dr St))))), f9, g0, d7, F, d8, rfl⟩
 refine bC n (fun T n => ?_) (fun T n => ?_)
 ·refine ug T (jE rfl) (ug T (jE rfl) (bS n fun l3 f6 n => qI T (Eg d call41 (jS.li (rN k2 g1.2 k4 g2.2 _ _ (j4.sl jV (fun b o m => d.at_ (Ma (Ma (Ma (Ma (Ma (Ma (Ma (Ml m)))))))))) (j6.sl jV (fun b o m => d.at_ (Ma (Ma (Ma (Ma (Ma (Ml m)))))))) f6)) (fun k8 d => V (jM (cB T) rfl) ?_))))
  have h := sj n; subst h
  exact b7 _ _ ⟨_, (d.ju (Sb (Pr (Pr (Pr (Pr (Pr (Pr (Pr (Pr Pz)))))))) (Kr (Kr (Kr (Kr (Dr (Dr (Dr (Dr St)))))))))), rfl, rfl, rfl, rfl, rfl, rfl, rfl⟩
 refine un T (un T (un T (V (jN (cB T) rfl) ?_)))
 have h := sj n; subst h
 exact b7 _ _ ⟨_, (d.ju (Sb (Pr (Pr (Pr (Pr (Pr (Pr (Pr (Pr Pz)))))))) (Kr (Kr (Kr (Kr (Dr (Dr (Dr (Dr St)))))))))), rfl, rfl, rfl, rfl, rfl, rfl, rfl⟩
end Go.Proofs.YtmlncblocfcmiaaGreat
