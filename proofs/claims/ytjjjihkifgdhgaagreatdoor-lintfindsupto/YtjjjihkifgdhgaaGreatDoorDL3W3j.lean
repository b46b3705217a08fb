/- a part of a proof of LintFinds -/
import Derived.Test.YtjjjihkifgdhgaaGreatDoorDL3W2j
set_option linter.all false
namespace Go.Proofs.YtjjjihkifgdhgaaGreatDoor
open Go.IntKind renaming wrap → wi0
open Go.Proofs.Tryz renaming prog → pg0
open Go.RowKit
set_option maxRecDepth 10000
open Tryz
set_option maxHeartbeats 4000000 in
theorem E8 (d8 : Formula → Option Bool) (i9 : ∀ (a : Formula) (x : Value) (r : Bool) (w : World) (k : Sl jt 5 (hp w) x a.Kids), d8 a = some r → jT false pg0 140 [(.agg #[(.int .i64 a.Op), (.int .i64 a.K), (.string a.jq.js), (.string a.jq.Word), x])] w (.bool r)) (a : Formula) (x : Value) (r : Bool) (w : World) (k : Sl jt 5 (hp w) x a.Kids) (hm : wW d8 a = some r) :
  jT false pg0 140 [(.agg #[(.int .i64 a.Op), (.int .i64 a.K), (.string a.jq.js), (.string a.jq.Word), x])] w (.bool r) := by
 refine cG 81 func140 rfl (fun b => sg ?_)
 obtain ⟨A1, c2, rfl⟩ := k.form
 let b8 := (C1 a.Op a.K a.jq.js a.jq.Word A1 a.Kids.length c2)
 refine VE (kj b rfl (fun W4 H b => Wa (lr (Wf ng (VB b Mh rfl rfl dI (V (kJ aD rfl k) (Wa (lS ?_))))))))
 refine Wf mZ (VB b Mh rfl rfl bX (Wi rfl (ln (CI hm rfl (fun k0 hm => ?_) (fun k0 hm => ?_)))))
 ·refine sg (Wf tb (VA b Mh (jA a.jq) bF aS (bS hm fun r6 k1 hm => VE (Eg b call160 (jT.lz (xA a.jq _ _  k1)) (fun W8 b => Wm (LJ hm (fun h2 E W => ∃ f9, ST false kp w W (hp w) ((H, Ol b8 30) :: f9) ∧ E 1 = (.pointer (some ⟨H, 0, none⟩)) ∧ E 2 = (.bool false) ∧ E 18 = (.bool h2)) 3 ?_ (fun h2 m c8 => ?_)))))))
  ·rintro l5 E W ⟨f9, b, j3, g7, j4⟩ i4
   refine Wh j4 (LJ i4 (fun h1 E W => ∃ g0, ST false kp w W (hp w) g0 ∧ E 2 = (.bool false) ∧ E 23 = (.bool h1)) 4 ?_ (fun h1 a5 c7 => ?_))
   ·rintro l6 E W ⟨g0, b, l4, j5⟩ i5
    refine Wg j5 (lt (km ?_))
    obtain rfl := sj i5
    exact rP b
   refine bC a5 (fun B a5 => ?_) (fun B a5 => ?_)
   ·refine ug B (jz qX j3) (ug B (jv rfl (jK b.has Mh rfl bX)) (ug B (kv rfl rfl rfl) (V (jM (cB B) rfl) ?_)))
    obtain rfl := sj a5
    exact c7 _ _ ⟨_, (b.ju (Db St)), g7, rfl⟩
   refine un B (un B (un B (V (jO (cB B) rfl) ?_)))
   obtain rfl := sj a5
   exact c7 _ _ ⟨_, (b.ju (Db St)), g7, rfl⟩
  refine bC m (fun a4 m => ?_) (fun a4 m => ?_)
  ·refine ug a4 (jC rfl) (ug a4 (kv rfl rfl rfl) (V (jM (cB a4) rfl) ?_))
   obtain rfl := sj m
   exact c8 _ _ ⟨_, (b.ju St), rfl, rfl, rfl⟩
  refine un a4 (un a4 (V (jO (cB a4) rfl) ?_))
  obtain rfl := sj m
  exact c8 _ _ ⟨_, (b.ju St), rfl, rfl, rfl⟩
 let a0 := (b8.toArray : Array Value)
 let d : Value := (.pointer (some ⟨H, 0, none⟩))
 refine kS (Wf mZ (VB b Mh rfl rfl bX (Wi rfl (Wm (LJ hm (fun e6 E W => ∃ g1, ST false kp w W (hp w) ((H, Obj.cells a0 30 (0, 0)) :: g1) ∧ E 1 = d ∧ E 3 = (.int .i64 (a.Kids.length : Int)) ∧ E 31 = (.bool e6)) 4 ?_ (fun e6 Z c0 => ?_))))))
 ·let p : Value := (.int .i64 (a.Kids.length : Int))
  rintro l7 E W ⟨g1, b, d5, g8, j6⟩ i6
  refine Wh j6 (LJ i6 (fun e5 E W => ∃ g2, ST false kp w W (hp w) ((H, Obj.cells a0 30 (0, 0)) :: g2) ∧ E 1 = d ∧ E 3 = p ∧ E 37 = (.bool e5)) 5 ?_ (fun e5 Y b9 => ?_))
  ·rintro l8 E W ⟨g2, b, g9, d6, j7⟩ i7
   refine Wh j7 (LJ i7 (fun e4 E W => ∃ g3, ST false kp w W (hp w) ((H, Obj.cells a0 30 (0, 0)) :: g3) ∧ E 1 = d ∧ E 3 = p ∧ E 41 = (.bool e4)) 3 ?_ (fun e4 U b7 => ?_))
   ·rintro l9 E W ⟨g3, b, q, h0, j8⟩ n
    refine ln (CI n j8 (fun i3 n => ?_) (fun i3 n => ?_))
    ·refine sg (Wa (ln ?_))
     replace b := b.ju (Db St)
     refine jZ (km ?_)
     obtain rfl := sj n
     exact rP b
    refine kS (V (jz mZ q) (VB b Mh rfl rfl bX (Wi rfl (Wm (LJ n (fun e3 E W => ∃ g4, ST false kp w W (hp w) ((H, Obj.cells a0 30 (0, 0)) :: g4) ∧ E 1 = d ∧ E 3 = p ∧ E 49 = (.bool e3)) 4 ?_ (fun e3 T b6 => ?_))))))
    ·rintro L E W ⟨g4, b, l, d7, j9⟩ i8
     refine Wh j9 (LJ i8 (fun d9 E W => ∃ c9, ST false kp w W (hp w) ((H, Obj.cells a0 30 (0, 0)) :: c9) ∧ E 1 = d ∧ E 69 = (.bool d9)) 19 ?_ (fun d9 K b1 => ?_))
     ·rintro l0 E W ⟨c9, b, h3, h4⟩ J
      refine ln (CI J h4 (fun e8 J => ?_) (fun e8 J => ?_))
      ·refine sg (Wa (ln ?_))
       replace b := b.ju (Db St)
       refine jZ (km ?_)
       obtain rfl := sj J
       exact rP b
      refine kS (V (jz ng h3) (VB b Mh rfl rfl dI (V (kJ aD rfl k) (Wm (ln ?_)))))
      replace b := b.ju (Db St)
      refine ku (fun i E W => ∃ c1, (E 73 = .int .i64 (i : Nat) ∧ E 72 = .int .i64 (a.Kids.length : Nat)) ∧ ST false kp w W (hp w) c1 ∧ E 71 = (.slice A1 a.Kids.length c2) ∧ sb d8 (a.Kids.drop i) = some r) a.Kids.length k.len ⟨_, ⟨rfl, rfl⟩, (b.ju St), rfl, J⟩ dc dc dc (fun _ _ _ h => by obtain ⟨_, P, _⟩ := h; exact P) ?_ ?_
      ·rintro j0 E W f0 ⟨c1, ⟨O, eN⟩, b, s, j⟩
       obtain ⟨g, k2, f7, f6, f8⟩ := kc f0
       rw [f7] at j
       refine bg (VQ (lF (i := (j0 : Int)) (x0 := g) jt.out aD aC s O k (aG _) f6) (fun k7 ⟨_, ⟨k9, rfl, c6⟩, f4⟩ => V (jv rfl (jQ b.has f4 aK aC)) (VE (kh b aP (fun k3 k6 b => ?_)))))
       obtain ⟨a9, R, rfl⟩ := c6.form
       let a2 := (C1 g.Op g.K g.jq.js g.jq.Word a9 g.Kids.length R)
       refine VO (jL (.agg a2.toArray) (a2.toArray) b rfl rfl aC oc nb rfl (fun k4 b => lr (VA b Mh a2 aK aC (bS j fun k8 f5 j => VE (Eg b call140 (i9 g (.slice a9 g.Kids.length R) _ _ (c6.mono jD.mono b.jB) f5) (fun k5 b => V (nj rfl) (ln ?_)))))))
       replace b := b.ju (Db St)
       refine CI j rfl (fun e9 j => ?_) (fun e9 j => ?_)
       ·refine sg (Wa (lt (mn (km (mn (km ?_))))))
        obtain rfl := sj j
        exact rP b
       exact kG (ke (jE ⟨O, _, ⟨rfl, eN⟩, (b.ju St), s, (by rw [f8]; exact j)⟩))
      rintro E W ⟨c1, ⟨O, eN⟩, b, s, j⟩
      rw [aH] at j
      exact jE (sg (Wa (lt (rQ j b))))
     refine bC K (fun u K => ?_) (fun u K => ?_)
     ·refine un u (un u (un u (un u (Vu rfl rfl (Vu rfl rfl (Vu rfl rfl (Vu rfl rfl (Vu rfl rfl (Vu rfl rfl (Vu rfl rfl (Vu rfl rfl (Vu rfl rfl (Vu rfl rfl (Vu rfl rfl ?_))))))))))))))
      refine Vu rfl rfl (Vu rfl rfl (un u (V (jM (cB u) rfl) ?_)))
      obtain rfl := sj K
      exact b1 _ _ ⟨_, (b.ju St), l, rfl⟩
     refine ug u (jz mZ l) (ug u (jv rfl (jK b.has Mh rfl bX)) (ug u (kv rfl rfl rfl) (ug u (jC rfl) (LJ K (fun e0 E W => ∃ d0, ST false kp w W (hp w) ((H, Obj.cells a0 30 (0, 0)) :: d0) ∧ E 1 = d ∧ E 50 = (.bool L) ∧ E 68 = (.bool e0)) 14 ?_ (fun e0 M b2 => ?_)))))
     ·rintro l1 E W ⟨d0, b, h5, h6, h7⟩ f1
      refine V (jO (h6.trans (cB u)) h7) ?_
      obtain rfl := sj f1
      exact b1 _ _ ⟨_, (b.ju St), h5, rfl⟩
     refine bC M (fun c M => ?_) (fun c M => ?_)
     ·refine ug c (jC d7) (ug c (kv rfl rfl rfl) (ug c (jC rfl) (LJ M (fun e2 E W => ∃ d1, ST false kp w W (hp w) ((H, Obj.cells a0 30 (0, 0)) :: d1) ∧ E 1 = d ∧ E 3 = p ∧ E 50 = (.bool L) ∧ E 54 = (.bool (a.Op == 4)) ∧ E 61 = (.bool e2)) 4 ?_ (fun e2 Q b5 => ?_))))
      ·rintro l2 E W ⟨d1, b, A, h8, d3, a3, h9⟩ f2
       refine Vg rfl (a3.trans (cB c)) (jC h9) (LJ f2 (fun e1 E W => ∃ d2, ST false kp w W (hp w) ((H, Obj.cells a0 30 (0, 0)) :: d2) ∧ E 1 = d ∧ E 50 = (.bool L) ∧ E 54 = (.bool (a.Op == 4)) ∧ E 67 = (.bool e1)) 5 ?_ (fun e1 N b4 => ?_))
       ·rintro l3 E W ⟨d2, b, i0, d4, i1, i2⟩ f3
        refine Vg rfl (d4.trans (cB u)) (jM (i1.trans (cB c)) i2) ?_
        obtain rfl := sj f3
        exact b2 _ _ ⟨_, (b.ju St), i0, d4, rfl⟩
       refine bC N (fun t N => ?_) (fun t N => ?_)
       ·refine un t (un t (un t (un t (Vg rfl (a3.trans (cB c)) (jM (cB t) rfl) ?_))))
        obtain rfl := sj N
        exact b4 _ _ ⟨_, (b.ju St), A, d3, a3, rfl⟩
       refine ug t (jz qX A) (ug t (jv rfl (jK b.has Mh rfl bX)) (ug t (jC h8) (ug t (kv rfl rfl rfl) (Vg rfl (a3.trans (cB c)) (jO (cB t) rfl) ?_))))
       obtain rfl := sj N
       exact b4 _ _ ⟨_, (b.ju St), A, d3, a3, rfl⟩
      refine bC Q (fun y Q => ?_) (fun y Q => ?_)
      ·refine un y (un y (un y (ug c (jM (cB y) rfl) ?_)))
       obtain rfl := sj Q
       exact b5 _ _ ⟨_, (b.ju St), l, d7, rfl, rfl, rfl⟩
      refine ug y (jz qX l) (ug y (jv rfl (jK b.has Mh rfl bX)) (ug y (kv rfl rfl rfl) (ug c (jO (cB y) rfl) ?_)))
      obtain rfl := sj Q
      exact b5 _ _ ⟨_, (b.ju St), l, d7, rfl, rfl, rfl⟩
     refine un c (un c (un c (Vu rfl rfl (Vu rfl rfl (Vu rfl rfl (un c (un c (Vu rfl rfl (Vu rfl rfl (Vu rfl rfl (Vu rfl rfl (un c (ug u (jO (cB c) rfl) ?_)))))))))))))
     obtain rfl := sj M
     exact b2 _ _ ⟨_, (b.ju St), l, rfl, rfl⟩
    refine bC T (fun G T => ?_) (fun G T => ?_)
    ·refine ug G (jz qX q) (ug G (jv rfl (jK b.has Mh rfl bX)) (ug G (kv rfl rfl rfl) (V (jM (cB G) rfl) ?_)))
     obtain rfl := sj T
     exact b6 _ _ ⟨_, (b.ju St), q, h0, rfl⟩
    refine un G (un G (un G (V (jO (cB G) rfl) ?_)))
    obtain rfl := sj T
    exact b6 _ _ ⟨_, (b.ju St), q, h0, rfl⟩
   refine bC U (fun I U => ?_) (fun I U => ?_)
   ·refine un I (un I (V (jM (cB I) rfl) ?_))
    obtain rfl := sj U
    exact b7 _ _ ⟨_, (b.ju St), g9, d6, rfl⟩
   refine ug I (jC d6) (ug I (kv rfl rfl rfl) (V (jO (cB I) rfl) ?_))
   obtain rfl := sj U
   exact b7 _ _ ⟨_, (b.ju St), g9, d6, rfl⟩
  refine bC Y (fun z Y => ?_) (fun z Y => ?_)
  ·refine un z (un z (un z (un z (V (jM (cB z) rfl) ?_))))
   obtain rfl := sj Y
   exact b9 _ _ ⟨_, (b.ju St), d5, g8, rfl⟩
  refine ug z (jz tb d5) (ug z (jv rfl (jy b.has Mh (jA a.jq) rfl bF aS)) (ug z (lC (v := (.agg (jA K0).toArray)) qa (kI eA dN (LX _ dN) kr)) (ug z (E1 rfl rfl (nm eb) (Ax (pe _ a.jq K0))) (V (jO (cB z) rfl) ?_))))
  obtain rfl := sj Y
  exact b9 _ _ ⟨_, (b.ju St), d5, g8, rfl⟩
 refine bC Z (fun D Z => ?_) (fun D Z => ?_)
 ·refine un D (un D (un D (V (jM (cB D) rfl) ?_)))
  obtain rfl := sj Z
  exact c0 _ _ ⟨_, (b.ju St), rfl, rfl, rfl⟩
 refine ug D (jz mZ rfl) (ug D (jv rfl (jK b.has Mh rfl bX)) (ug D (kv rfl rfl rfl) (V (jO (cB D) rfl) ?_)))
 obtain rfl := sj Z
 exact c0 _ _ ⟨_, (b.ju St), rfl, rfl, rfl⟩
theorem Et : ∀ (n : Nat) (c : Formula) (a : Value) (r : Bool) (w : World) (g : Sl jt 5 (hp w) a c.Kids) (_ : rR n c = some r),
  jT false pg0 140 [(.agg #[(.int .i64 c.Op), (.int .i64 c.K), (.string c.jq.js), (.string c.jq.Word), a])] w (.bool r)
 | 0 => by intros; rename_i h; simp only [rR] at h; cases h
 | n + 1 => E8 (rR n) (Et n)
theorem vx (a : Formula) (t : Value) (r : Bool) (w : World) (c : Sl jt 5 (hp w) t a.Kids) (hm : pJ a = some r) :
  jT false pg0 67 [(.agg #[(.int .i64 a.Op), (.int .i64 a.K), (.string a.jq.js), (.string a.jq.Word), t])] w (.bool r) := by
 refine cG 15 func67 rfl (fun b => sg ?_)
 obtain ⟨u, x, rfl⟩ := c.form
 let d : Value := (.slice u a.Kids.length x)
 let a0 := (C1 a.Op a.K a.jq.js a.jq.Word u a.Kids.length x)
 refine VE (kj b rfl (fun W4 Q b => Wa (lr (VA b Mh a0 aK aC (bS hm fun n Z hm => VE (Eg b call138 ((DA jY) a d _ _ (c.mono jD.mono b.jB) Z) (fun W7 b => Wi rfl (Wm (LJ hm (fun I E W => ∃ B, ST false kp w W (hp w) ((Q, Ol a0 30) :: B) ∧ E 1 = (.pointer (some ⟨Q, 0, none⟩)) ∧ E 2 = (.bool false) ∧ E 10 = (.bool I)) 4 ?_ (fun I j z => ?_))))))))))
 ·rintro l E W ⟨B, b, T, G, U⟩ J
  refine Wh U (LJ J (fun H E W => ∃ D, ST false kp w W (hp w) D ∧ E 2 = (.bool false) ∧ E 14 = (.bool H)) 3 ?_ (fun H i y => ?_))
  ·rintro m E W ⟨D, b, a3, Y⟩ K
   exact Wg Y (lt (rQ K b))
  refine bC i (fun g i => ?_) (fun g i => ?_)
  ·refine ug g (jv T (jy b.has Mh a0 rfl aK aC)) (bS i fun a4 M i => rB g (Eg b call140 ((Et jY) a d _ _ (c.mono jD.mono b.jB) M) (fun h b => V (jM (cB g) rfl) ?_)))
   obtain rfl := sj i
   exact y _ _ ⟨_, (b.ju (Db St)), G, rfl⟩
  refine un g (un g (V (jO (cB g) rfl) ?_))
  obtain rfl := sj i
  exact y _ _ ⟨_, (b.ju (Db St)), G, rfl⟩
 refine bC j (fun k j => ?_) (fun k j => ?_)
 ·refine ug k (jv rfl (jy b.has Mh a0 rfl aK aC)) (bS j fun a5 N j => rB k (Eg b call139 ((D8 jY) a d _ _ (c.mono jD.mono b.jB) N) (fun a2 b => ug k (kv rfl rfl rfl) (V (jM (cB k) rfl) ?_))))
  obtain rfl := sj j
  exact z _ _ ⟨_, (b.ju St), rfl, rfl, rfl⟩
 refine un k (un k (un k (V (jO (cB k) rfl) ?_)))
 obtain rfl := sj j
 exact z _ _ ⟨_, (b.ju St), rfl, rfl, rfl⟩
theorem yg (i : Formula) (g : Value) (x : Int) (r : Bool) (w : World) (c : Sl jt 5 (hp w) g i.Kids) (hm : uP i x = some r) :
  jT true pg0 186 [(.agg #[(.int .i64 i.Op), (.int .i64 i.K), (.string i.jq.js), (.string i.jq.Word), g]), (.int .i64 x)] w (.bool r) := by
 refine cG 15 func186 rfl (fun b => sg ?_)
 obtain ⟨B, D, rfl⟩ := c.form
 refine VE (kj b rfl (fun G H b => Wa (lr (Wf mZ (VB b Mh rfl rfl bX (Wm (Wi rfl (Wm (LJ hm (fun t E W => ∃ u, ST true kp w W (hp w) u ∧ E 4 = (.bool false) ∧ E 14 = (.bool t)) 5 ?_ (fun t j k => ?_))))))))))
 ·rintro J E W ⟨u, b, I, y⟩ z
  exact Wg y (lt (rQ z b))
 refine bC j (fun a j => ?_) (fun a j => ?_)
 ·refine ug a (jz ng rfl) (ug a (jv rfl (jK b.has Mh rfl dI)) (ug a (kJ aD rfl c) (ug a (kv rfl rfl rfl) (V (jM (cB a) rfl) ?_))))
  obtain rfl := sj j
  exact k _ _ ⟨_, (b.ju (Db St)), rfl, rfl⟩
 refine un a (un a (un a (un a (V (jO (cB a) rfl) ?_))))
 obtain rfl := sj j
 exact k _ _ ⟨_, (b.ju (Db St)), rfl, rfl⟩
theorem DU (I : Formula → Option ByteArray) (p : ∀ (a : Formula) (k : Value) (r : ByteArray) (w : World) (c : Sl jt 5 (hp w) k a.Kids), I a = some r → jT false pg0 305 [(.agg #[(.int .i64 a.Op), (.int .i64 a.K), (.string a.jq.js), (.string a.jq.Word), k])] w (.string r)) (a : Formula) (k : Value) (r : ByteArray) (w : World) (c : Sl jt 5 (hp w) k a.Kids) (hm : wc I a = some r) :
  jT false pg0 305 [(.agg #[(.int .i64 a.Op), (.int .i64 a.K), (.string a.jq.js), (.string a.jq.Word), k])] w (.string r) := by
 refine cG 44 func305 rfl (fun b => sg ?_)
 obtain ⟨A1, c2, rfl⟩ := c.form
 refine VE (kj b rfl (fun W4 m b => Wa (lr (Wf mZ (VB b Mh rfl rfl bX (bS hm fun r5 R hm => VE (Eg b call328 (jT.lz (uC a.Op _ _  R)) (fun W7 b => Wa (ln (jI (jI ?_)))))))))))
 refine jG (Wf mZ (VB b Mh rfl rfl bX (Wi rfl (ln (CI hm rfl (fun P hm => ?_) (fun P hm => ?_))))))
 ·refine sg (Wm (Wf tb (VA b Mh (jA a.jq) bF aS (bS hm fun r9 a4 hm => VE (Eg b call329 (jT.lz (xx a.jq _ _  a4)) (fun d3 b => bS hm fun d6 q hm => V (qe rfl rfl q) (Wa (ln ?_))))))))
  replace b := b.ju (Db St)
  refine jZ (km ?_)
  obtain rfl := sj hm
  exact rP b
 refine kn (jI (CJ hm (fun J E W => ∃ Y, ST false kp w W (hp w) ((m, Ol (C1 a.Op a.K a.jq.js a.jq.Word A1 a.Kids.length c2) 30) :: Y) ∧ E 1 = (.pointer (some ⟨m, 0, none⟩)) ∧ E 3 = (.string J)) (fun J t => ?_) ?_))
 ·refine sg (Wf mZ (VB b Mh rfl rfl bX (Wi rfl (ln (CI t rfl (fun K t => ?_) (fun K t => ?_))))))
  ·refine jG (Wm (Wf qX (VB b Mh rfl rfl bX (bS t fun c9 Q t => VE (Eg b call328 (jT.lz (uC a.K _ _  Q)) (fun c5 b => bS t fun d0 U t => V (qe rfl rfl U) (Wa (ln ?_))))))))
   obtain rfl := sj t
   exact ⟨_, (b.ju St), rfl, rfl⟩
  refine kn ?_
  obtain rfl := sj t
  exact ⟨_, (b.ju St), rfl, rfl⟩
 rintro d7 E W ⟨Y, b, Z, O⟩ u
 refine sg (Wh O (V (jz ng Z) (VB b Mh rfl rfl dI (V (kJ aD rfl c) (bS u fun d5 a5 u => VE (Eg b call328 (jT.lz (uC (a.Kids.length : Int) _ _  a5)) (fun d4 b => bS u fun c0 s u => V (qe rfl rfl s) (Wa (ln (jI (jI ?_)))))))))))
 refine jG (V (jz ng Z) (VB b Mh rfl rfl dI (V (kJ aD rfl c) (Wm (ln ?_)))))
 replace b := b.ju (Db St)
 refine ku (fun i E W => ∃ z B, (E 34 = .int .i64 (i : Nat) ∧ E 33 = .int .i64 (a.Kids.length : Nat)) ∧ ST false kp w W (hp w) B ∧ E 3 = (.string z) ∧ E 32 = (.slice A1 a.Kids.length c2) ∧ rr I (a.Kids.drop i) z = some r) a.Kids.length c.len ⟨c0, _, ⟨rfl, rfl⟩, (b.ju St), rfl, rfl, u⟩ dc dc dc (fun _ _ _ h => by obtain ⟨_, _, l, _⟩ := h; exact l) ?_ ?_
 ·rintro b9 E W a3 ⟨z, B, ⟨d, n⟩, b, D, G, g⟩
  obtain ⟨j, d2, v, a9, A⟩ := kc a3
  rw [v] at g
  refine bg (VQ (lF (i := (b9 : Int)) (x0 := j) jt.out aD aC G d c (aG _) a9) (fun c7 ⟨_, ⟨d1, rfl, H⟩, M⟩ => V (jv rfl (jQ b.has M aK aC)) (VE (kh b aP (fun c1 c6 b => ?_)))))
  obtain ⟨x, y, rfl⟩ := H.form
  let a0 := (C1 j.Op j.K j.jq.js j.jq.Word x j.Kids.length y)
  refine VO (jL (.agg a0.toArray) (a0.toArray) b rfl rfl aC oc nb rfl (fun c3 b => ln (jG (Wh D (VA b Mh a0 aK aC (bS g fun c8 N g => VE (Eg b call305 (p j (.slice x j.Kids.length y) _ _ (H.mono jD.mono b.jB) N) (fun c4 b => bS g fun L T g => V (qe rfl rfl T) (Wa (jU (ke (jE ?_))))))))))))
  replace b := b.ju (Db St)
  exact ⟨d, L, _, ⟨rfl, n⟩, (b.ju St), rfl, G, (by rw [A]; exact g)⟩
 rintro E W ⟨z, B, ⟨d, n⟩, b, D, G, g⟩
 rw [aH] at g
 exact jE (sg (Wh D (Wa (lt (rQ g b)))))
theorem zX : ∀ (n : Nat) (c : Formula) (a : Value) (r : ByteArray) (w : World) (g : Sl jt 5 (hp w) a c.Kids) (_ : oV n c = some r),
  jT false pg0 305 [(.agg #[(.int .i64 c.Op), (.int .i64 c.K), (.string c.jq.js), (.string c.jq.Word), a])] w (.string r)
 | 0 => by intros; rename_i h; simp only [oV] at h; cases h
 | n + 1 => DU (oV n) (zX n)
theorem Gf (c : Formula) (u : Value) (a : Formula) (x : Value) (r : Int) (w : World) (k : Sl jt 5 (hp w) u c.Kids) (t : Sl jt 5 (hp w) x a.Kids) (hm : vM c a = some r) :
  jT false pg0 249 [(.agg #[(.int .i64 c.Op), (.int .i64 c.K), (.string c.jq.js), (.string c.jq.Word), u]), (.agg #[(.int .i64 a.Op), (.int .i64 a.K), (.string a.jq.js), (.string a.jq.Word), x])] w (.int .i64 r) := by
 refine cG 21 func249 rfl (fun b => sg ?_)
 obtain ⟨B, D, rfl⟩ := k.form
 let d := (C1 c.Op c.K c.jq.js c.jq.Word B c.Kids.length D)
 refine VE (kj b rfl (fun W4 s b => ?_))
 obtain ⟨y, z, rfl⟩ := t.form
 let a0 := (C1 a.Op a.K a.jq.js a.jq.Word y a.Kids.length z)
 refine VE (kj b rfl (fun W8 h b => Wa (lr (Wa (lr (Wa (ln (jI ?_))))))))
 refine CJ hm (fun Q E W => ∃ G, ST false kp w W (hp w) ((h, Ol a0 30) :: G) ∧ E 3 = (.pointer (some ⟨h, 0, none⟩)) ∧ E 5 = (.string Q) ∧ E 6 = (.string zS)) (fun Q j => ?_) ?_
 ·refine sg (VA b (Mt Mh) d aK aC (bS j fun O a5 j => VE (Eg b call67 (vx c (.slice B c.Kids.length D) _ _ (k.mono jD.mono b.jB) a5) (fun q b => ln (CI j rfl (fun Z j => ?_) (fun Z j => ?_))))))
  ·refine jG (VA b (Mt Mh) d aK aC (bS j fun P l j => VE (Eg b call305 ((zX jY) c (.slice B c.Kids.length D) _ _ (k.mono jD.mono b.jB) l) (fun v b => Wa (ln ?_)))))
   obtain rfl := sj j
   exact ⟨_, (b.ju (Kb (Db St))), rfl, rfl, rfl⟩
  refine kn ?_
  obtain rfl := sj j
  exact ⟨_, (b.ju (Kb (Db St))), rfl, rfl, rfl⟩
 rintro a9 E W ⟨G, b, I, J, m⟩ a2
 refine jI (CJ a2 (fun N E W => ∃ H, ST false kp w W (hp w) H ∧ E 5 = (.string a9) ∧ E 6 = (.string N)) (fun N i => ?_) ?_)
 ·refine sg (V (jv I (jy b.has Mh a0 rfl aK aC)) (bS i fun A a3 i => VE (Eg b call67 (vx a (.slice y a.Kids.length z) _ _ (t.mono jD.mono b.jB) a3) (fun n b => ln (CI i rfl (fun Y i => ?_) (fun Y i => ?_))))))
  ·refine jG (V (jv I (jy b.has Mh a0 rfl aK aC)) (bS i fun L a4 i => VE (Eg b call305 ((zX jY) a (.slice y a.Kids.length z) _ _ (t.mono jD.mono b.jB) a4) (fun p b => Wa (ln ?_)))))
   obtain rfl := sj i
   exact ⟨_, (b.ju (Db St)), J, rfl⟩
  refine kn ?_
  obtain rfl := sj i
  exact ⟨_, (b.ju (Db St)), J, m⟩
 rintro c1 E W ⟨H, b, K, M⟩ g
 refine jI (sg (Wh K (Wh M (V (qh rfl rfl rfl) (ln (CI g rfl (fun T g => ?_) (fun T g => ?_)))))))
 ·refine sg (Wa (lt (km ?_)))
  obtain rfl := sj g
  exact rP b
 refine kS (Wh K (Wh M (V (qh rfl rfl rfl) (ln (CI g rfl (fun U g => ?_) (fun U g => ?_))))))
 ·refine sg (Wa (lt (km ?_)))
  obtain rfl := sj g
  exact rP b
 exact kg (Wa (lt (rQ g b)))
theorem E7 (s : Formula → Formula → Option Bool) (d8 : ∀ (a : Formula) (u : Value) (c : Formula) (x : Value) (r : Bool) (w : World) (k : Sl jt 5 (hp w) u a.Kids) (y : Sl jt 5 (hp w) x c.Kids), s a c = some r → jT false pg0 66 [(.agg #[(.int .i64 a.Op), (.int .i64 a.K), (.string a.jq.js), (.string a.jq.Word), u]), (.agg #[(.int .i64 c.Op), (.int .i64 c.K), (.string c.jq.js), (.string c.jq.Word), x])] w (.bool r)) (a : Formula) (u : Value) (c : Formula) (x : Value) (r : Bool) (w : World) (k : Sl jt 5 (hp w) u a.Kids) (y : Sl jt 5 (hp w) x c.Kids) (hm : wY s a c = some r) :
  jT false pg0 66 [(.agg #[(.int .i64 a.Op), (.int .i64 a.K), (.string a.jq.js), (.string a.jq.Word), u]), (.agg #[(.int .i64 c.Op), (.int .i64 c.K), (.string c.jq.js), (.string c.jq.Word), x])] w (.bool r) := by
 refine cG 53 func66 rfl (fun b => sg ?_)
 obtain ⟨Z, c2, rfl⟩ := k.form
 let m := (C1 a.Op a.K a.jq.js a.jq.Word Z a.Kids.length c2)
 refine VE (kj b rfl (fun W4 I b => ?_))
 obtain ⟨A5, c6, rfl⟩ := y.form
 let a0 := (C1 c.Op c.K c.jq.js c.jq.Word A5 c.Kids.length c6)
 refine VE (kj b rfl (fun W8 J b => Wa (lS (Wf mZ (VB b (Mt Mh) rfl rfl bX (Wf mZ (VB b Mh rfl rfl bX (Wi rfl (Wm (LJ hm (fun P E W => ∃ d1, ST false kp w W (hp w) ((J, Ol a0 30) :: ((I, Ol m 30) :: d1)) ∧ E 2 = (.pointer (some ⟨I, 0, none⟩)) ∧ E 3 = (.pointer (some ⟨J, 0, none⟩)) ∧ E 17 = (.bool P)) 6 ?_ (fun P G N => ?_)))))))))))
 ·let a3 : Value := (.pointer (some ⟨J, 0, none⟩))
  let a2 : Value := (.pointer (some ⟨I, 0, none⟩))
  rintro f1 E W ⟨d1, b, a5, n, e1⟩ d6
  refine Wh e1 (LJ d6 (fun O E W => ∃ d2, ST false kp w W (hp w) ((J, Ol a0 30) :: ((I, Ol m 30) :: d2)) ∧ E 2 = a2 ∧ E 3 = a3 ∧ E 24 = (.bool O)) 6 ?_ (fun O D M => ?_))
  ·rintro f2 E W ⟨d2, b, p, q, e2⟩ d7
   refine Wh e2 (LJ d7 (fun L E W => ∃ d3, ST false kp w W (hp w) ((J, Ol a0 30) :: ((I, Ol m 30) :: d3)) ∧ E 2 = a2 ∧ E 3 = a3 ∧ E 33 = (.bool L)) 8 ?_ (fun L B K => ?_))
   ·rintro f3 E W ⟨d3, b, d4, e3, e4⟩ H
    refine ln (CI H e4 (fun d5 H => ?_) (fun d5 H => ?_))
    ·refine sg (Wa (ln ?_))
     replace b := b.ju (Db (Db St))
     refine jZ (km ?_)
     obtain rfl := sj H
     exact rP b
    refine kS (V (jz ng d4) (VB b (Mt Mh) rfl rfl dI (V (kJ aD rfl k) (Wm (ln (ku (fun i E W => ∃ Q, (E 37 = .int .i64 (i : Nat) ∧ E 36 = .int .i64 (a.Kids.length : Nat)) ∧ ST false kp w W (hp w) ((J, Ol a0 30) :: ((I, Ol m 30) :: Q)) ∧ E 2 = a2 ∧ E 3 = a3 ∧ rY c s (a.Kids.drop i) i = some r) a.Kids.length k.len ⟨_, ⟨rfl, rfl⟩, (b.ju St), d4, e3, H⟩ dc dc dc (fun _ _ _ h => by obtain ⟨_, A, _⟩ := h; exact A) ?_ ?_))))))
    ·rintro a9 E W c0 ⟨Q, ⟨v, eN⟩, b, T, U, g⟩
     obtain ⟨R, e5, c9, c8, d0⟩ := kc c0
     rw [c9] at g
     refine bg (Wh v (Wa (ln (jI ?_))))
     replace b := b.drew
     have d := b.has.ju (Kb (Kb Sn))
     refine ky d kd (X 0 rfl d (jz ng T) (XH 1 rfl d (fun _ l => jv rfl (jK l (Mt Mh) rfl dI)) (X 2 rfl d (jC rfl) (XQ 3 rfl d (lF (i := (a9 : Int)) (x0 := R) jt.out aD aC rfl rfl k (aG _) c8) (fun e7 ⟨_, ⟨d9, rfl, c5⟩, c1⟩ => XH 4 rfl d (fun _ l => jv rfl (jQ l c1 aK aC)) (X 5 rfl d (jz ng U) (XH 6 rfl d (fun _ l => jv rfl (jK l Mh rfl dI)) (X 7 rfl d (jC rfl) (bS g fun b6 Y g => XQ 8 rfl d (lF (i := (a9 : Int)) (x0 := b6) jt.out aD aC rfl rfl y (kl Y) (ki Y)) (fun e8 ⟨_, ⟨e0, rfl, c7⟩, c3⟩ => XH 9 rfl d (fun _ l => jv rfl (jQ l c3 aK aC)) (bS g fun e9 c4 g => XE 10 rfl (Eg b call66 (d8 R d9 b6 e0 _ _ (c5.mono jD.mono b.jB) (c7.mono jD.mono b.jB) c4) (fun e6 b => ?_)))))))))))))
     have d := b.has.ju (Kb (Kb Sn))
     refine ⟨d, (X 11 rfl d (nj rfl) (kM kr (jE (CI g rfl (fun b9 g => ?_) (fun b9 g => ?_)))))⟩
     ·refine sg (Wa (ln ?_))
      replace b := b.ju (Db (Db St))
      refine jZ (mn (km (mn (km ?_))))
      obtain rfl := sj g
      exact rP b
     exact kG (ke (jE ⟨v, _, ⟨rfl, eN⟩, (b.ju St), T, U, (by rw [d0]; exact g)⟩))
    rintro E W ⟨Q, ⟨v, eN⟩, b, T, U, g⟩
    rw [aH] at g
    refine jE ?_
    replace b := b.ju (Db (Db St))
    exact sg (Wa (lt (rQ g b)))
   refine bC B (fun j B => ?_) (fun j B => ?_)
   ·refine un j (un j (un j (un j (un j (un j (un j (V (jM (cB j) rfl) ?_)))))))
    obtain rfl := sj B
    exact K _ _ ⟨_, (b.ju St), p, q, rfl⟩
   refine ug j (jz ng p) (ug j (jv rfl (jK b.has (Mt Mh) rfl dI)) (ug j (kJ aD rfl k) (ug j (jz ng q) (ug j (jv rfl (jK b.has Mh rfl dI)) (ug j (kJ aD rfl y) (ug j (kv rfl rfl rfl) (V (jO (cB j) rfl) ?_)))))))
   obtain rfl := sj B
   exact K _ _ ⟨_, (b.ju St), p, q, rfl⟩
  refine bC D (fun t D => ?_) (fun t D => ?_)
  ·refine un t (un t (un t (un t (un t (V (jM (cB t) rfl) ?_)))))
   obtain rfl := sj D
   exact M _ _ ⟨_, (b.ju St), a5, n, rfl⟩
  refine ug t (jz tb a5) (ug t (jv rfl (jy b.has (Mt Mh) (jA a.jq) rfl bF aS)) (ug t (jz tb n) (ug t (jv rfl (jy b.has Mh (jA c.jq) rfl bF aS)) (ug t (E1 rfl rfl (nm eb) (Ax (pe _ a.jq c.jq))) (V (jO (cB t) rfl) ?_)))))
  obtain rfl := sj D
  exact M _ _ ⟨_, (b.ju St), a5, n, rfl⟩
 refine bC G (fun z G => ?_) (fun z G => ?_)
 ·refine un z (un z (un z (un z (un z (V (jM (cB z) rfl) ?_)))))
  obtain rfl := sj G
  exact N _ _ ⟨_, (b.ju St), rfl, rfl, rfl⟩
 refine ug z (jz qX rfl) (ug z (jv rfl (jK b.has (Mt Mh) rfl bX)) (ug z (jz qX rfl) (ug z (jv rfl (jK b.has Mh rfl bX)) (ug z (kv rfl rfl rfl) (V (jO (cB z) rfl) ?_)))))
 obtain rfl := sj G
 exact N _ _ ⟨_, (b.ju St), rfl, rfl, rfl⟩
theorem EB : ∀ (n : Nat) (g : Formula) (a : Value) (i : Formula) (c : Value) (r : Bool) (w : World) (j : Sl jt 5 (hp w) a g.Kids) (k : Sl jt 5 (hp w) c i.Kids) (_ : qw n g i = some r),
  jT false pg0 66 [(.agg #[(.int .i64 g.Op), (.int .i64 g.K), (.string g.jq.js), (.string g.jq.Word), a]), (.agg #[(.int .i64 i.Op), (.int .i64 i.K), (.string i.jq.js), (.string i.jq.Word), c])] w (.bool r)
 | 0 => by intros; rename_i h; simp only [qw] at h; cases h
 | n + 1 => E7 (qw n) (EB n)
theorem Ct (T : Value) (a0 : List Formula) (A : Bool) (r : List Formula) (w : World) {μ0 : kk} (h0 : nz μ0 [] w) (c9 : Sl jt 5 μ0 T a0) (hm : uz a0 A = some r) :
  lP false pg0 187 [T, (.bool A)] w μ0 [] (fun v L1 μ1 => ∃ y1, v = y1 ∧ L1 = [] ∧ Sl jt 5 μ1 y1 (r)) := by
 refine uo h0 62 func187 rfl (fun d => sg (Wa (lr (Wa (lS (Wm ?_))))))
 refine V (kJ aD rfl c9) (Wm (ln (ku (fun i E W => ∃ u M D x b1, (E 12 = .int .i64 (i : Nat) ∧ E 11 = .int .i64 (a0.length : Nat)) ∧ kf μ0 x ∧ Lo (keys []) w μ0 x ∧ ST false (keys []) w W x (D ++ b1) ∧ E 1 = (.bool A) ∧ E 5 = u ∧ E 10 = T ∧ kE 30 jt 5 x u M D ∧ mB A (a0.drop i) M = some r) a0.length c9.len ⟨(.slice none 0 0), ([]), [], μ0, _, ⟨rfl, rfl⟩, (kf.refl _), Lo.refl, (d.ju St), rfl, rfl, rfl, (kE.nil _ _ _ _), hm⟩ dc dc dc (fun _ _ _ h => by obtain ⟨_, _, _, _, _, aa, _⟩ := h; exact aa) ?_ ?_)))
 ·rintro U E W h7 ⟨u, M, D, x, b1, ⟨eI, eN⟩, K, q, d, d5, a4, b3, H, J⟩
  obtain ⟨a, l4, j5, j4, c6⟩ := kc h7
  rw [j5] at J
  refine bg (VQ (lF (i := (U : Int)) (x0 := a) jt.out aD aC b3 eI (c9.mono jD.mono K) (aG _) j4) (fun m8 ⟨_, ⟨n3, rfl, a2⟩, i1⟩ => V (jv rfl (jQ d.has i1 aK aC)) (VE (kh d aP (fun l6 G d => ?_)))))
  let g5 : Value := (.int .i64 (U : Int))
  let b8 : Value := (.int .i64 (a0.length : Int))
  let R : Value := (.pointer (some ⟨G, 0, none⟩))
  obtain ⟨k, t, rfl⟩ := a2.form
  let g6 : Value := (.slice k a.Kids.length t)
  let s := (C1 a.Op a.K a.jq.js a.jq.Word k a.Kids.length t)
  refine VO (jL (.agg s.toArray) (s.toArray) d rfl rfl aC oc nb rfl (fun l7 d => lr (Wh a4 (V (rS aD rfl H) (Wa (ln (jI (CJ J (fun c3 E W => ∃ d0, ST false (keys []) w W x ((G, Ol s 30) :: (D ++ d0)) ∧ E 1 = (.bool A) ∧ E 5 = u ∧ E 7 = R ∧ E 8 = (.int .i64 c3) ∧ E 10 = T ∧ E 11 = b8 ∧ E 12 = g5) (fun c3 i0 => ?_) ?_))))))))
  ·refine lA (nc (fun m E W => ∃ Y d3, ST false (keys []) w W x ((G, Ol s 30) :: (D ++ d3)) ∧ E 1 = (.bool A) ∧ E 5 = u ∧ E 7 = R ∧ E 8 = (.int .i64 Y) ∧ E 10 = T ∧ E 11 = b8 ∧ E 12 = g5 ∧ pg M a m Y = some c3) jY ⟨(M.length : Int), _, (d.ju St), d5, a4, rfl, rfl, b3, eN, eI, i0⟩ ?_)
   rintro m E W ⟨Y, d3, d, f0, c1, c2, a5, f1, f2, f3, Z⟩
   cases m with
   | zero => rw [pg] at Z; cases Z
   | succ k5 =>
    refine jI (jI ?_)
    replace d := d.drew
    have n := d.has.ju (Kb (Kr Sn))
    refine ky n kd (X 0 rfl n (jC a5) (X 1 rfl n (kv rfl rfl rfl) (X 2 rfl n (jC rfl) (PJ Z (fun g3 E W => ∃ d4, ST false (keys []) w W x ((G, Ol s 30) :: (D ++ d4)) ∧ E 1 = (.bool A) ∧ E 5 = u ∧ E 7 = R ∧ E 8 = (.int .i64 Y) ∧ E 10 = T ∧ E 11 = b8 ∧ E 12 = g5 ∧ E 29 = (.bool g3)) (bm 12 4095) 0 ?_ (fun g3 z b0 => ?_)))))
    ·rintro o0 E W ⟨d4, d, f4, f5, f6, f7, f8, f9, g0, k3⟩ Q
     refine kM kr (jE (CI Q k3 (fun h6 Q => ?_) (fun h6 Q => ?_)))
     ·exact kn (lA (jG (Wh f7 (Wi rfl (Wa (jU (ke (jE ⟨k5, bI _, (wi0 .i64 (Y - 1)), _, (d.ju St), f4, f5, f6, rfl, f8, f9, g0, Q⟩))))))))
     refine na (mR (mR (qp (jE ?_))))
     obtain rfl := sj Q
     exact ⟨_, (d.ju St), f4, f5, f6, f7, f8, f9, g0⟩
    refine bC z (fun c z => ?_) (fun c z => ?_)
    ·refine Xg 3 rfl rfl (cB c) n (jC c1) (Xg 4 rfl rfl (cB c) n (jC a5) (Xg 5 rfl rfl (cB c) n (kv rfl rfl rfl) (bS z fun l0 c8 z => sd 6 rfl kr (.inr ⟨2, true, 20, rfl, rfl, by decide, (cB c)⟩) rfl dc (fun _ _ h => h) n (li (i := (wi0 .i64 (Y - 1))) jt.out aD aC rfl rfl H (kl c8) (ki c8)) (fun n0 ⟨_, ⟨k8, rfl, j0⟩, i3, l3⟩ => su 7 rfl rfl (cB c) n (fun _ P => jv rfl (jQ (nn.hp _) (i3.mono (lI (fun b o hq => P.2 b o (Mt (Ml hq))))) aK aC)) (su 8 rfl rfl (cB c) n (fun _ P => jv c2 (jy P Mh s rfl aK aC)) (bS z fun n2 i5 z => Ac 9 rfl rfl (cB c) (Eg d call249 (Gf l0 k8 a g6 _ _ (j0.mono jD.mono d.jB) (a2.mono jD.mono d.jB) i5) (fun m4 d => ?_))))))))
     have n := d.has.ju (Kb (Kr Sn))
     refine ⟨n, (Xg 10 rfl rfl (cB c) n (kv rfl rfl rfl) (X 11 rfl n (jM (cB c) rfl) ?_))⟩
     obtain rfl := sj z
     refine mX kr (b0 _ _ ⟨_, (d.ju St), f0, c1, c2, a5, f1, f2, f3, rfl⟩)
    refine Xn 3 rfl rfl (cB c) n (Xn 4 rfl rfl (cB c) n (Xn 5 rfl rfl (cB c) n (Xn 6 rfl rfl (cB c) n (Xn 7 rfl rfl (cB c) n (Xn 8 rfl rfl (cB c) n (Xn 9 rfl rfl (cB c) n (Xn 10 rfl rfl (cB c) n (X 11 rfl n (jO (cB c) rfl) ?_))))))))
    obtain rfl := sj z
    refine mX kr (b0 _ _ ⟨_, (d.ju St), f0, c1, c2, a5, f1, f2, f3, rfl⟩)
  rintro a3 E W ⟨d0, d, b4, d6, d7, b5, d8, d9, e0⟩ h8
  refine jI (jI ?_)
  replace d := d.drew
  have n := d.has.ju (Kb (Kr Sn))
  refine ky n kd (X 0 rfl n (jC b4) (X 1 rfl n (jC rfl) (PJ h8 (fun g2 E W => ∃ d1, ST false (keys []) w W x ((G, Ol s 30) :: (D ++ d1)) ∧ E 1 = (.bool A) ∧ E 5 = u ∧ E 7 = R ∧ E 8 = (.int .i64 a3) ∧ E 10 = T ∧ E 11 = b8 ∧ E 12 = g5 ∧ E 36 = (.bool g2)) (bm 14 31) 9 ?_ (fun g2 N a9 => ?_))))
  ·rintro n8 E W ⟨d1, d, e1, b6, b7, b9, e2, e3, e4, k0⟩ h9
   have n := d.has.ju (Kb (Kr Sn))
   refine X 5 rfl n (jC k0) (PJ h9 (fun g1 E W => ∃ d2, ST false (keys []) w W x ((G, Ol s 30) :: (D ++ d2)) ∧ E 1 = (.bool A) ∧ E 5 = u ∧ E 7 = R ∧ E 8 = (.int .i64 a3) ∧ E 10 = T ∧ E 11 = b8 ∧ E 12 = g5 ∧ E 45 = (.bool g1)) (bm 14 16383) 0 ?_ (fun g1 y a8 => ?_))
   ·rintro n9 E W ⟨d2, d, e5, c0, k1, e6, e7, e8, e9, k2⟩ j
    refine kM kr (jE (CI j k2 (fun h2 j => ?_) (fun h2 j => ?_)))
    ·refine na (mR (qp (jE ?_)))
     replace d := d.ju (Db St)
     exact ⟨e9, u, M, D, x, _, ⟨rfl, e8⟩, K, q, (d.ju St), e5, c0, e7, H, (by rw [c6]; exact j)⟩
    refine kg (VE (jW (cs := #[]) d qa (ye [] aD aC aP dc rfl (by simp) rfl rfl) (fun l8 j9 d => Wh c0 (Wh e6 (bS j fun _ c4 j => VQ (CY (i := a3) aD aC rfl rfl H (uw c4) (uu c4)) (fun n4 i6 => bS j fun m6 h3 j => VE (po (B := [(j9, Ob #[] 30)]) jD d dc aD lL.1 lL.2.1 rfl lL.2.2.1 lL.2.2.2 rfl rfl (kE.lit jD (l := []) .nil rfl nb rfl) (xo.row i6 d (fun p hq => (Mt (Mt (Ml hq))))) h3 (fun l9 n5 j6 d g8 => Wa (ln (jI ?_))))))))))
    refine jG (Wm (V (jv k1 (jy d.has (Ma Mh) s rfl aK aC)) (VE (jW (cs := s.toArray) d (kX rfl) (lM aD aC aP) (fun m0 m5 d => ?_)))))
    replace d := d.perm (Nr (Qb Qz) Nz)
    refine bS j fun m7 h4 j => VE (po (B := j6) jD d dc aD lL.1 lL.2.1 rfl lL.2.2.1 lL.2.2.2 rfl rfl g8 (xo.lit jD (l := [a]) (.cons (ys := C1 a.Op a.K a.jq.js a.jq.Word k a.Kids.length t) (jt.mk ⟨g6, rfl, a2⟩) .nil) rfl nb (d.at_ (Ma Mh))) h4 (fun m1 n6 j7 d g9 => Wa (ln ?_)))
    replace d := d.ju (Kr (Db (Db St)))
    refine jG (Wm (Wh c0 (Wh e6 ?_)))
    replace d := d.perm (Nr (Qr Qz) Nz)
    obtain ⟨l1, d, a7, L, i8⟩ := ST.tD jD d H
    exact bS j fun _ c5 j => VQ (BY (i := a3) aD aC rfl rfl i8 (uw c5) (uu c5)) (fun n7 i7 => bS j fun k4 h5 j => VE (po (B := j7) jD d dc aD lL.1 lL.2.1 rfl lL.2.2.1 lL.2.2.2 rfl rfl (g9.mono jD a7) (xo.sl jD i7.1 d.jB) h5 (fun m2 k6 j8 d h1 => Wa (jU (ke (jE ⟨e9, k6, k4, j8, l1, _, ⟨rfl, e8⟩, (K.trans a7), (q.trans L), (d.ju St), e5, rfl, e7, h1, (by rw [c6]; exact j)⟩))))))
   refine bC y (fun g y => ?_) (fun g y => ?_)
   ·refine Xg 6 rfl rfl (cB g) n (jC b6) (Xg 7 rfl rfl (cB g) n (jC b9) (Xg 8 rfl rfl (cB g) n (kv rfl rfl rfl) (bS y fun k9 c7 y => sd 9 rfl kr (.inr ⟨5, true, 37, rfl, rfl, by decide, (cB g)⟩) rfl dc (fun _ _ h => h) n (li (i := (wi0 .i64 (a3 - 1))) jt.out aD aC rfl rfl H (kl c7) (ki c7)) (fun m9 ⟨_, ⟨k7, rfl, i9⟩, i2, l2⟩ => su 10 rfl rfl (cB g) n (fun _ P => jv rfl (jQ (nn.hp _) (i2.mono (lI (fun b o hq => P.2 b o (Mt (Ml hq))))) aK aC)) (su 11 rfl rfl (cB g) n (fun _ P => jv b7 (jy P Mh s rfl aK aC)) (bS y fun n1 i4 y => Ac 12 rfl rfl (cB g) (Eg d call66 ((EB jY) k9 k7 a g6 _ _ (i9.mono jD.mono d.jB) (a2.mono jD.mono d.jB) i4) (fun m3 d => ?_))))))))
    have n := d.has.ju (Kb (Kr Sn))
    refine ⟨n, (X 13 rfl n (jM (cB g) rfl) ?_)⟩
    obtain rfl := sj y
    refine mX kr (a8 _ _ ⟨_, (d.ju St), e1, b6, b7, b9, e2, e3, e4, rfl⟩)
   refine Xn 6 rfl rfl (cB g) n (Xn 7 rfl rfl (cB g) n (Xn 8 rfl rfl (cB g) n (Xn 9 rfl rfl (cB g) n (Xn 10 rfl rfl (cB g) n (Xn 11 rfl rfl (cB g) n (Xn 12 rfl rfl (cB g) n (X 13 rfl n (jO (cB g) rfl) ?_)))))))
   obtain rfl := sj y
   refine mX kr (a8 _ _ ⟨_, (d.ju St), e1, b6, b7, b9, e2, e3, e4, rfl⟩)
  refine bC N (fun I N => ?_) (fun I N => ?_)
  ·refine Xg 2 rfl rfl (cB I) n (jC b5) (Xg 3 rfl rfl (cB I) n (kv rfl rfl rfl) (X 4 rfl n (jM (cB I) rfl) ?_))
   obtain rfl := sj N
   refine mX kr (a9 _ _ ⟨_, (d.ju St), b4, d6, d7, b5, d8, d9, e0, rfl⟩)
  refine Xn 2 rfl rfl (cB I) n (Xn 3 rfl rfl (cB I) n (X 4 rfl n (jO (cB I) rfl) ?_))
  obtain rfl := sj N
  refine mX kr (a9 _ _ ⟨_, (d.ju St), b4, d6, d7, b5, d8, d9, e0, rfl⟩)
 rintro E W ⟨u, M, D, x, b1, ⟨eI, eN⟩, K, q, d, d5, a4, b3, H, J⟩
 rw [aH] at J
 refine jE (sg (Wh a4 (Wa (lt ?_))))
 obtain rfl := sj J
 refine kO (v := u) rfl rfl ?_
 obtain ⟨o1, d, g4, O, j3⟩ := ST.tD jD d H
 exact ⟨_, _, _, rfl, (d.mc Sn), (K.trans g4), (q.trans O), (ST.kL d (mA.mem Sn)), u, rfl, rfl, j3⟩
set_option maxHeartbeats 4000000 in
theorem uD (t : Nat) (T : kW) (u : Int) (d0 : Value) (a2 : List Formula) (r : (Formula × kW)) (w : World) {μ0 : kk} (h0 : nz μ0 ((t, Ol (mu T) 175) :: []) w) (c9 : Sl jt 5 μ0 d0 a2) (hm : oK T u a2 = some r) :
  lP false pg0 185 [(.pointer (some ⟨t, 0, none⟩)), (.int .i64 u), d0] w μ0 ((t, Ol (mu T) 175) :: []) (fun v L1 μ1 => ∃ y1, v = (.agg #[(.int .i64 ((r.1).Op)), (.int .i64 ((r.1).K)), (.string (((r.1).jq).js)), (.string (((r.1).jq).Word)), y1]) ∧ L1 = ((t, Ol (mu (r.2)) 175) :: []) ∧ Sl jt 5 μ1 y1 ((r.1).Kids)) := by
 let g6 : Value := (.pointer (some ⟨t, 0, none⟩))
 let a0 := ((mu T).toArray : Array Value)
 let e5 := ((t, Obj.cells a0 175 (0, 0)) :: [])
 refine uo h0 75 func185 rfl (fun d => sg (VE (kh d aP (fun W2 b1 d => lr (Wa (lS (Wm ?_)))))))
 let g5 : Value := (.pointer (some ⟨b1, 0, none⟩))
 refine V (kJ aD rfl c9) (Wm (ln (ku (fun i E W => ∃ J I H c3, (E 14 = .int .i64 (i : Nat) ∧ E 13 = .int .i64 (a2.length : Nat)) ∧ ST false (keys e5) w W μ0 ((b1, Ol C4 30) :: ((t, Obj.cells a0 175 (0, 0)) :: (H ++ c3))) ∧ E 0 = g6 ∧ E 1 = (.int .i64 u) ∧ E 6 = g5 ∧ E 7 = J ∧ E 12 = d0 ∧ kE 30 jt 5 μ0 J I H ∧ mW u T (a2.drop i) I = some r) a2.length c9.len ⟨(.slice none 0 0), ([]), [], _, ⟨rfl, rfl⟩, (d.ju St), rfl, rfl, rfl, rfl, rfl, (kE.nil _ _ _ _), hm⟩ dc dc dc (fun _ _ _ h => by obtain ⟨_, _, _, _, q, _⟩ := h; exact q) ?_ ?_)))
 ·rintro h8 E W f4 ⟨J, I, H, c3, ⟨p, A⟩, d, b2, N, Z, O, b3, G, c⟩
  obtain ⟨a, i8, g7, g4, d5⟩ := kc f4
  rw [g7] at c
  refine bg (VQ (lF (i := (h8 : Int)) (x0 := a) jt.out aD aC b3 p c9 (aG _) g4) (fun l3 ⟨_, ⟨l8, rfl, a3⟩, f7⟩ => V (jv rfl (jQ d.has f7 aK aC)) (VE (kh d aP (fun j4 k9 d => ?_)))))
  obtain ⟨y, z, rfl⟩ := a3.form
  let L := (C1 a.Op a.K a.jq.js a.jq.Word y a.Kids.length z)
  refine VO (jL (.agg L.toArray) (L.toArray) d rfl rfl aC oc nb rfl (fun j5 d => lS (Wf mZ (VB d Mh rfl rfl bX (Wh N (Wi rfl (ln (CI c rfl (fun e8 c => ?_) (fun e8 c => ?_)))))))))
  ·refine sg (Wh O (Wf ng (VB d Mh rfl rfl dI ?_)))
   replace d := d.perm (Nr (Qb (Qb (Qb Qz))) Nz)
   refine bS c fun i0 e9 c => VE (po (B := H) jD d dc aD lL.1 lL.2.1 rfl lL.2.2.1 lL.2.2.2 rfl rfl G (xo.sl jD a3 d.jB) e9 (fun j6 i2 h2 d e6 => Wa (ln ?_)))
   replace d := d.ju (Kr (Db St))
   exact na (mR (qp (jE ⟨p, i2, i0, h2, _, ⟨rfl, A⟩, (d.ju (Sb (Pr Pz) (Sb (Pr Pz) St))), b2, N, Z, rfl, b3, e6, (by rw [d5]; exact c)⟩)))
  refine kS (VA d Mh L aK aC (Wh N (Wi rfl (bS c fun l6 g0 c => VE (Eg d call186 (jT.lz (yg a (.slice y a.Kids.length z) (wi0 .i64 (5 - u)) _ _ (a3.mono jD.mono d.jB) g0)) (fun j7 d => ln (CI c rfl (fun f0 c => ?_) (fun f0 c => ?_))))))))
  ·let d2 := (C9 (wi0 .i64 (5 - u)))
   refine sg (Wh N (Wi rfl (V (lC (v := (.agg d2.toArray)) (kX rfl) (kI aP bG (tE _ bG) kr)) ?_)))
   replace d := d.perm (Nb (Pb Pz) Nz)
   refine VO (jL (.agg d2.toArray) (d2.toArray) d Z rfl aC oc nb rfl (fun j8 d => ln ?_))
   replace d := d.ju (Kb (Db (Kb (Dr St))))
   refine jZ (km (mn (km (mn (km ?_)))))
   obtain rfl := sj c
   exact mO (v := (.agg d2.toArray)) rfl Z (jy d.has Mh d2 rfl aK aC) ⟨_, _, _, rfl, (d.mc (Db (Kb Sn))), (kf.refl _), Lo.refl, (ST.kL d (mA.mem (Db (Kb Sn)))), (.slice none 0 0), rfl, rfl, (Sl.nil _ _ _)⟩
  refine kn (jG (Wh O (VA d Mh L aK aC (VE (jW (cs := L.toArray) d (kX rfl) (lM aD aC aP) (fun j9 l0 d => ?_))))))
  replace d := d.perm (Nr (Qb (Qb (Qb (Qb Qz)))) Nz)
  refine bS c fun i1 f1 c => VE (po (B := H) jD d dc aD lL.1 lL.2.1 rfl lL.2.2.1 lL.2.2.2 rfl rfl G (xo.lit jD (l := [a]) (.cons (ys := C1 a.Op a.K a.jq.js a.jq.Word y a.Kids.length z) (jt.mk ⟨(.slice y a.Kids.length z), rfl, a3⟩) .nil) rfl nb (d.at_ (Ma Mh))) f1 (fun k0 i3 h3 d e7 => Wa (jU (ke (jE ?_)))))
  replace d := d.ju (Kr (Db (Db St)))
  exact ⟨p, i3, i1, h3, _, ⟨rfl, A⟩, (d.ju (Sb (Pr Pz) (Sb (Pr Pz) St))), b2, N, Z, rfl, b3, e7, (by rw [d5]; exact c)⟩
 rintro E W ⟨J, I, H, c3, ⟨p, A⟩, d, b2, N, Z, O, b3, G, c⟩
 rw [aH] at c
 refine jE (jI (sg (Wh O (V (rS aD rfl G) (Wm (ln (Tc c (fun e4 E W => ∃ d7, ST false (keys e5) w W μ0 ((b1, Ol C4 30) :: ((t, Obj.cells a0 175 (0, 0)) :: (H ++ d7))) ∧ E 0 = g6 ∧ E 1 = (.int .i64 u) ∧ E 6 = g5 ∧ E 7 = J) (fun e4 f6 b6 => ?_) ?_)))))))
 ·refine ku (fun i E W => ∃ c4, (E 40 = .int .i64 (i : Nat) ∧ E 39 = .int .i64 (I.length : Nat)) ∧ ST false (keys e5) w W μ0 ((b1, Ol C4 30) :: ((t, Obj.cells a0 175 (0, 0)) :: (H ++ c4))) ∧ E 0 = g6 ∧ E 1 = (.int .i64 u) ∧ E 6 = g5 ∧ E 7 = J ∧ E 38 = J ∧ oP u T (I.drop i) = some e4) I.length G.len ⟨_, ⟨rfl, rfl⟩, (d.ju St), b2, N, Z, O, rfl, f6⟩ dc dc dc (fun _ _ _ h => by obtain ⟨_, q, _⟩ := h; exact q) ?_ ?_
  ·rintro h9 E W f5 ⟨c4, ⟨p, A⟩, d, c6, P, R, c7, c8, k⟩
   obtain ⟨j, i9, g9, g8, h1⟩ := kc f5
   rw [g9] at k
   refine bg (VQ (li (i := (h9 : Int)) jt.out aD aC c8 p G (aG _) g8) (fun l5 ⟨_, ⟨m1, rfl, d4⟩, f9, i7⟩ => V (jv rfl (jQ (nn.hp _) (f9.mono (lI (fun b o hq => d.has.2 b o (Mt (Mt (Ml hq)))))) aK aC)) (VE (kh d aP (fun k5 l1 d => ?_)))))
   obtain ⟨a9, b0, rfl⟩ := d4.form
   let d9 := (C1 j.Op j.K j.jq.js j.jq.Word a9 j.Kids.length b0)
   let s := (wi0 .i64 (5 - u))
   refine VO (jL (.agg d9.toArray) (d9.toArray) d rfl rfl aC oc nb rfl (fun k6 d => lr (VA d Mh d9 aK aC (Wh P (Wi rfl (bS k fun l7 g2 k => VE (Eg d call186 (jT.lz (yg j (.slice a9 j.Kids.length b0) s _ _ (d4.mono jD.mono d.jB) g2)) (fun k7 d => ln ?_))))))))
   replace d := d.ju (Db St)
   refine CI k rfl (fun f3 k => ?_) (fun f3 k => ?_)
   ·refine sg (Wh P (Wi rfl (V (lC (v := (.agg (C9 s).toArray)) (kX rfl) (kI aP bG (tE _ bG) kr)) (VO (jL (.agg (C9 s).toArray) ((C9 s).toArray) d R rfl aC oc nb rfl (fun k8 d => ln ?_))))))
    replace d := d.ju (Kb (Kb (Dr St)))
    refine jZ (mn (km (mn (km ?_))))
    obtain rfl := sj k
    replace b6 : some ((⟨(wi0 .i64 (5 - u)), 0, K0, []⟩ : Formula), T) = some r := b6
    obtain rfl := sj b6
    exact mO (v := (.agg (C9 s).toArray)) rfl R (jy d.has Mh (C9 s) rfl aK aC) ⟨_, _, _, rfl, (d.mc (Db (Kb Sn))), (kf.refl _), Lo.refl, (ST.kL d (mA.mem (Db (Kb Sn)))), (.slice none 0 0), rfl, rfl, (Sl.nil _ _ _)⟩
   exact kG (ke (jE ⟨p, _, ⟨rfl, A⟩, (d.ju St), c6, P, R, c7, c8, (by rw [h1]; exact k)⟩))
  rintro E W ⟨c4, ⟨p, A⟩, d, c6, P, R, c7, c8, k⟩
  rw [aH] at k
  refine jE ?_
  obtain rfl := sj k
  exact ⟨_, rfl, _, (d.ju St), c6, P, R, c7⟩
 rintro ⟨⟩ E W ⟨d7, d, e0, e1, e2, h4⟩ b5
 refine sg (Wh h4 ?_)
 replace d := d.perm (Nr (Qb (Qb Qz)) Nz)
 obtain ⟨m4, d, c0, m, g3⟩ := ST.tD jD d G
 refine bS b5 fun Q g1 b5 => ?_
 refine VE (eD d (bW _) call187 (fun hh => (Ct J I true _ _ hh (g3.mono jD.mono (kf.refl _)) g1)) ?_ (L0 := []))
 rintro _ l9 i5 j3 d c1 n ⟨i4, b7, rfl, Y⟩
 obtain rfl := b7.symm
 refine Wa (lr (Wh e0 (Wh e0 (Wn (Wf Hp (VB d (Mt Mh) rfl rfl isAgg4 (Wm (LJ b5 (fun e3 E W => ∃ d8, ST false (keys e5) w W i5 ((b1, Ol C4 30) :: ((t, Obj.cells a0 175 (0, 0)) :: d8)) ∧ E 1 = (.int .i64 u) ∧ E 6 = g5 ∧ E 7 = i4 ∧ E 54 = g6 ∧ E 63 = (.bool e3)) 4 ?_ (fun e3 U c2 => ?_)))))))))
 ·rintro d1 E W ⟨d8, d, h5, b4, c5, h6, h7⟩ D
  refine V (mJ h6) (Wf Hp ?_)
  replace d := d.perm (Nb (Pb Pz) Nz)
  refine VO (jL (.bool d1) ((mu (⟨d1⟩ : kW)).toArray) d rfl h7 sizeOf4 (Tm d1) nb rfl (fun k2 d => lS (Wh c5 (V (kJ aD rfl Y) (Wi rfl (ln (CI D rfl (fun f2 D => ?_) (fun f2 D => ?_))))))))
  ·refine sg (Wh c5 (bS D fun g d6 D => VQ (lF (i := 0) (x0 := g) jt.out aD aC rfl rfl Y (kl d6) (ki d6)) (fun l4 ⟨_, ⟨m0, rfl, d3⟩, f8⟩ => V (jv rfl (jQ d.has f8 aK aC)) ?_)))
   obtain ⟨a4, a5, rfl⟩ := d3.form
   let b8 := (C1 g.Op g.K g.jq.js g.jq.Word a4 g.Kids.length a5)
   replace d := d.perm (Nb (Pb Pz) Nz)
   refine VO (jL (.agg b8.toArray) (b8.toArray) d b4 rfl aC oc nb rfl (fun k3 d => lt (km ?_)))
   obtain rfl := sj D
   exact mO (v := (.agg b8.toArray)) rfl b4 (jy d.has Mh b8 rfl aK aC) ⟨_, _, _, rfl, (d.mc (Db (Kb Sn))), (c0.trans c1), (m.trans n), (ST.kL d (mA.mem (Db (Kb Sn)))), (.slice a4 g.Kids.length a5), rfl, rfl, d3⟩
  refine kg (Wh h5 (Wh c5 ?_))
  obtain ⟨K, M, rfl⟩ := Y.form
  let i6 := (SU u K Q.length M)
  refine V (lC (v := (.agg i6.toArray)) (uJ rfl rfl) (kI aP bG (tE _ bG) kr)) ?_
  replace d := d.perm (Nb (Pb Pz) Nz)
  refine VO (jL (.agg i6.toArray) (i6.toArray) d b4 rfl aC oc nb rfl (fun k4 d => lt ?_))
  obtain rfl := sj D
  exact mO (v := (.agg i6.toArray)) rfl b4 (jy d.has Mh i6 rfl aK aC) ⟨_, _, _, rfl, (d.mc (Db (Kb Sn))), (c0.trans c1), (m.trans n), (ST.kL d (mA.mem (Db (Kb Sn)))), (.slice K Q.length M), rfl, rfl, Y⟩
 refine bC U (fun x U => ?_) (fun x U => ?_)
 ·refine un x (un x (un x (V (jM (cB x) rfl) ?_)))
  obtain rfl := sj U
  exact c2 _ _ ⟨_, (d.ju St), e1, e2, rfl, rfl, rfl⟩
 refine ug x (jC rfl) (ug x (kJ aD rfl Y) (ug x (kv rfl rfl rfl) (V (jO (cB x) rfl) ?_)))
 obtain rfl := sj U
 exact c2 _ _ ⟨_, (d.ju St), e1, e2, rfl, rfl, rfl⟩
set_option maxHeartbeats 4000000 in
theorem zL (h6 : kW → Formula → Option (Formula × kW)) (m0 : ∀ (k : Nat) (a0 : kW) (g : Formula) (I : Value) (r : (Formula × kW)) (w : World) {μ0 : kk} (h0 : nz μ0 ((k, Ol (mu a0) 175) :: []) w) (G : Sl jt 5 μ0 I g.Kids), h6 a0 g = some r → lP false pg0 118 [(.pointer (some ⟨k, 0, none⟩)), (.agg #[(.int .i64 g.Op), (.int .i64 g.K), (.string g.jq.js), (.string g.jq.Word), I])] w μ0 ((k, Ol (mu a0) 175) :: []) (fun v L1 μ1 => ∃ y1, v = (.agg #[(.int .i64 ((r.1).Op)), (.int .i64 ((r.1).K)), (.string (((r.1).jq).js)), (.string (((r.1).jq).Word)), y1]) ∧ L1 = ((k, Ol (mu (r.2)) 175) :: []) ∧ Sl jt 5 μ1 y1 ((r.1).Kids))) (k : Nat) (a0 : kW) (g : Formula) (I : Value) (r : (Formula × kW)) (w : World) {μ0 : kk} (h0 : nz μ0 ((k, Ol (mu a0) 175) :: []) w) (G : Sl jt 5 μ0 I g.Kids) (hm : rK h6 a0 g = some r) :
  lP false pg0 118 [(.pointer (some ⟨k, 0, none⟩)), (.agg #[(.int .i64 g.Op), (.int .i64 g.K), (.string g.jq.js), (.string g.jq.Word), I])] w μ0 ((k, Ol (mu a0) 175) :: []) (fun v L1 μ1 => ∃ y1, v = (.agg #[(.int .i64 ((r.1).Op)), (.int .i64 ((r.1).K)), (.string (((r.1).jq).js)), (.string (((r.1).jq).Word)), y1]) ∧ L1 = ((k, Ol (mu (r.2)) 175) :: []) ∧ Sl jt 5 μ1 y1 ((r.1).Kids)) := by
 let i0 : Value := (.pointer (some ⟨k, 0, none⟩))
 let b8 := ((k, Ol (mu a0) 175) :: [])
 refine uo h0 82 func118 rfl (fun d => sg ?_)
 obtain ⟨A1, c2, rfl⟩ := G.form
 let a1 := (C1 g.Op g.K g.jq.js g.jq.Word A1 g.Kids.length c2)
 refine VE (kj d rfl (fun W4 b3 d => VE (kh d aP (fun W6 b5 d => lS (Wf mZ (VB d (Mt Mh) rfl rfl bX (Wi rfl (ln (CI hm rfl (fun n1 hm => ?_) (fun n1 hm => ?_))))))))))
 ·refine sg (VA d (Mt Mh) a1 aK aC (VO (jL (.agg a1.toArray) (a1.toArray) d rfl rfl aC oc nb rfl (fun W8 d => ln ?_))))
  replace d := d.ju (Kb (Db St))
  refine jZ (km ?_)
  obtain rfl := sj hm
  exact mO (v := (.agg a1.toArray)) rfl rfl (jy d.has Mh a1 rfl aK aC) ⟨_, _, _, rfl, (d.mc (Db (Kb Sn))), (kf.refl _), Lo.refl, (ST.kL d (mA.mem (Db (Kb Sn)))), (.slice A1 g.Kids.length c2), rfl, rfl, G⟩
 refine kg (Wa (lS (Wf ng (VB d (Mt Mh) rfl rfl dI (V (kJ aD rfl G) (Wm (jU ?_)))))))
 let h9 : Value := (.pointer (some ⟨b5, 0, none⟩))
 refine jE (ku (fun i E W => ∃ b0 U a8 N Q f1, (E 19 = .int .i64 (i : Nat) ∧ E 18 = .int .i64 (g.Kids.length : Nat)) ∧ kf μ0 Q ∧ Lo (keys b8) w μ0 Q ∧ ST false (keys b8) w W Q ((k, Ol (mu N) 175) :: ((b5, Ol C4 30) :: ((b3, Ol a1 30) :: (a8 ++ f1)))) ∧ E 0 = i0 ∧ E 3 = (.pointer (some ⟨b3, 0, none⟩)) ∧ E 4 = h9 ∧ E 5 = b0 ∧ E 17 = (.slice A1 g.Kids.length c2) ∧ kE 30 jt 5 Q b0 U a8 ∧ nl h6 g (g.Kids.drop i) U N = some r) g.Kids.length G.len ⟨(.slice none 0 0), ([]), [], a0, μ0, _, ⟨rfl, rfl⟩, (kf.refl _), Lo.refl, (d.ju (Sb (Pb (Pb Pz)) St)), rfl, rfl, rfl, rfl, rfl, (kE.nil _ _ _ _), hm⟩ dc dc dc (fun _ _ _ h => by obtain ⟨_, _, _, _, _, _, q, _⟩ := h; exact q) ?_ ?_)
 ·rintro m1 E W j6 ⟨b0, U, a8, N, Q, f1, ⟨n, s⟩, H, m, d, c7, c8, c9, e2, f4, Y, u⟩
  obtain ⟨D, n3, l3, l2, l4⟩ := kc j6
  rw [l3] at u
  refine bg (VQ (lF (i := (m1 : Int)) (x0 := D) jt.out aD aC f4 n (G.mono jD.mono H) (aG _) l2) (fun q5 ⟨_, ⟨q9, rfl, f6⟩, j9⟩ => V (jv rfl (jQ d.has j9 aK aC)) (VE (kh d aP (fun o0 q1 d => ?_)))))
  obtain ⟨d9, e1, rfl⟩ := f6.form
  let g2 := (C1 D.Op D.K D.jq.js D.jq.Word d9 D.Kids.length e1)
  refine VO (jL (.agg g2.toArray) (g2.toArray) d rfl rfl aC oc nb rfl (fun o1 d => ln (jG (Wh e2 (Wh c7 (VA d Mh g2 aK aC (bS u fun t k1 u => ?_)))))))
  refine VE (eD d (Cb (Pb Pz) Cn) call118 (fun p => (m0 k N D (.slice d9 D.Kids.length e1) _ _ p (f6.mono jD.mono (kf.refl _)) k1)) ?_)
  rintro _ r0 m8 n5 d f0 A ⟨r6, e3, rfl, f7⟩
  obtain rfl := e3.symm
  replace d := d.perm (Tb Tn)
  obtain ⟨b7, c3, rfl⟩ := f7.form
  let i1 : Value := (.slice b7 ((t.1).Kids).length c3)
  refine VE (jW (cs := #[(.int .i64 ((t.1).Op)), (.int .i64 ((t.1).K)), (.string (((t.1).jq).js)), (.string (((t.1).jq).Word)), i1]) d (kX rfl) (lM aD aC aP) (fun o3 q2 d => ?_))
  replace d := d.perm (Nr (Qb (Qb (Qb (Qb (Qb Qz))))) Nz)
  refine bS u fun m3 i5 u => VE (po (B := a8) jD d dc aD lL.1 lL.2.1 rfl lL.2.2.1 lL.2.2.2 rfl rfl (Y.mono jD f0) (xo.lit jD (l := [t.1]) (.cons (ys := [(.int .i64 ((t.1).Op)), (.int .i64 ((t.1).K)), (.string (((t.1).jq).js)), (.string (((t.1).jq).Word)), i1]) (jt.mk ⟨i1, rfl, f7⟩) .nil) rfl nb (d.at_ (Ma Mh))) i5 (fun o4 m5 l8 d i3 => Wa (jU (ke (jE ?_)))))
  replace d := d.ju (Kr (Db (Kb (Db St))))
  exact ⟨n, m5, m3, l8, t.2, m8, _, ⟨rfl, s⟩, (H.trans f0), (m.trans A), (d.ju (Sb (Pr Pz) (Sb (Pr Pz) (Sb (Pr Pz) St)))), c7, c8, c9, rfl, f4, i3, (by rw [l4]; exact u)⟩
 rintro E W ⟨b0, U, a8, N, Q, f1, ⟨n, s⟩, H, m, d, c7, c8, c9, e2, f4, Y, u⟩
 rw [aH] at u
 refine jE (jI (sg (V (jz mZ c8) (VB d (Mt (Mt Mh)) rfl rfl bX (Wi rfl (ln (CI u rfl (fun i6 u => ?_) (fun i6 u => ?_))))))))
 ·refine sg (Wh c7 (V (jz mZ c8) (VB d (Mt (Mt Mh)) rfl rfl bX (Wh e2 ?_))))
  replace d := d.perm (Nr (Qb (Qb (Qb Qz))) Nz)
  obtain ⟨s1, d, g7, L, k8⟩ := ST.tD jD d Y
  refine bS u fun x k2 u => ?_
  let l7 : Value := (.string (((x.1).jq).Word))
  let i2 : Value := (.string (((x.1).jq).js))
  refine VE (eD d (Cb Pz Cn) call185 (fun p => (uD k N g.Op b0 U _ _ p (k8.mono jD.mono (kf.refl _)) k2)) ?_)
  rintro _ r1 s2 n6 d g8 O ⟨r7, e4, rfl, f8⟩
  obtain rfl := e4.symm
  replace d := d.perm (Tb Tn)
  obtain ⟨b9, c4, rfl⟩ := f8.form
  let g5 : Value := (.slice b9 ((x.1).Kids).length c4)
  let d7 : Value := (.agg #[(.int .i64 ((x.1).Op)), (.int .i64 ((x.1).K)), i2, l7, g5])
  replace d := d.perm (Nb (Pb Pz) Nz)
  refine VO (jL d7 (#[(.int .i64 ((x.1).Op)), (.int .i64 ((x.1).K)), i2, l7, g5]) d c9 rfl aC oc nb rfl (fun o6 d => ln ?_))
  replace d := d.ju (Kb (Kb (Db St)))
  refine jZ (km ?_)
  obtain rfl := sj u
  exact mO (v := d7) rfl c9 (jy d.has Mh [(.int .i64 ((x.1).Op)), (.int .i64 ((x.1).K)), i2, l7, g5] rfl aK aC) ⟨_, _, _, rfl, (d.mc (Db (Kb Sn))), ((H.trans g7).trans g8), ((m.trans L).trans O), (ST.kL d (mA.mem (Db (Kb Sn)))), g5, rfl, rfl, f8⟩
 refine kg (V (jz qX c8) (VB d (Mt (Mt Mh)) rfl rfl bX (Wa (ln ?_))))
 replace d := d.ju (Kb (Kb (Db St)))
 let o2 := ((mu N).toArray : Array Value)
 refine sg (Wa (lS (Wh e2 (V (rS aD rfl Y) (Wm (ln (CJ u (fun e9 E W => ∃ b1 f3 g3, ST false (keys b8) w W Q ((k, Obj.cells o2 175 (0, 0)) :: ((b5, Ol C4 30) :: (f3 ++ g3))) ∧ E 0 = i0 ∧ E 4 = h9 ∧ E 8 = (.int .i64 e9.1) ∧ E 9 = b1 ∧ kE 30 jt 5 Q b1 e9.2 f3) (fun e9 j8 => ?_) ?_)))))))
 ·refine ku (fun i E W => ∃ a5 a4 a9 T f2, (E 42 = .int .i64 (i : Nat) ∧ E 41 = .int .i64 (U.length : Nat)) ∧ ST false (keys b8) w W Q ((k, Obj.cells o2 175 (0, 0)) :: ((b5, Ol C4 30) :: (T ++ (a8 ++ f2)))) ∧ E 0 = i0 ∧ E 4 = h9 ∧ E 8 = (.int .i64 a5) ∧ E 9 = a4 ∧ E 40 = b0 ∧ kE 30 jt 5 Q a4 a9 T ∧ mP (U.drop i) a5 a9 = some e9) U.length Y.len ⟨g.K, (.slice none 0 0), ([]), [], _, ⟨rfl, rfl⟩, (d.ju St), c7, c9, rfl, rfl, rfl, (kE.nil _ _ _ _), j8⟩ dc dc dc (fun _ _ _ h => by obtain ⟨_, _, _, _, _, q, _⟩ := h; exact q) ?_ ?_
  ·rintro m2 E W j7 ⟨a5, a4, a9, T, f2, ⟨n, s⟩, d, d2, d3, d4, d5, d6, a7, j⟩
   obtain ⟨a, n4, l6, l5, e8⟩ := kc j7
   rw [l6] at j
   refine bg (VQ (li (i := (m2 : Int)) jt.out aD aC d6 n Y (aG _) l5) (fun q6 ⟨_, ⟨r5, rfl, b6⟩, k0, n2⟩ => V (jv rfl (jQ (nn.hp _) (k0.mono (lI (fun b o hq => d.has.2 b o (Mt (Mt (Ma (Ml hq))))))) aK aC)) (VE (kh d aP (fun p5 q3 d => ?_)))))
   obtain ⟨J, K, rfl⟩ := b6.form
   let n0 : Value := (.slice J a.Kids.length K)
   let b4 := (C1 a.Op a.K a.jq.js a.jq.Word J a.Kids.length K)
   refine VO (jL (.agg b4.toArray) (b4.toArray) d rfl rfl aC oc nb rfl (fun p6 d => lr (VA d Mh b4 aK aC (bS j fun q7 k6 j => VE (Eg d call186 (jT.lz (yg a n0 2 _ _ (b6.mono jD.mono d.jB) k6)) (fun p7 d => ln (CI j rfl (fun j3 j => ?_) (fun j3 j => ?_))))))))
   ·refine jG (Wh d4 (Wi rfl (Wa (jU (ke (jE ?_))))))
    replace d := d.ju (Db St)
    exact ⟨n, (wi0 .i64 (a5 - 1)), a4, a9, T, _, ⟨rfl, s⟩, (d.ju St), d2, d3, rfl, d5, d6, a7, (by rw [e8]; exact j)⟩
   refine sg (VA d Mh b4 aK aC (bS j fun q8 k7 j => VE (Eg d call186 (jT.lz (yg a n0 3 _ _ (b6.mono jD.mono d.jB) k7)) (fun p8 d => V (nj rfl) (ln (CI j rfl (fun j4 j => ?_) (fun j4 j => ?_)))))))
   ·refine jG (Wh d5 (VA d Mh b4 aK aC (VE (jW (cs := b4.toArray) d (kX rfl) (lM aD aC aP) (fun p9 q4 d => ?_)))))
    replace d := d.perm (Nr (Qb (Qb (Qb (Qb Qz)))) Nz)
    refine bS j fun m4 j5 j => VE (po (B := T) jD d dc aD lL.1 lL.2.1 rfl lL.2.2.1 lL.2.2.2 rfl rfl a7 (xo.lit jD (l := [a]) (.cons (ys := C1 a.Op a.K a.jq.js a.jq.Word J a.Kids.length K) (jt.mk ⟨n0, rfl, b6⟩) .nil) rfl nb (d.at_ (Ma Mh))) j5 (fun q0 m6 l9 d i4 => Wa (jU (ke (jE ?_)))))
    replace d := d.ju (Kr (Db (Db St)))
    exact ⟨n, a5, m6, m4, l9, _, ⟨rfl, s⟩, (d.ju (Sb (Pr Pz) (Sb (Pr Pz) St))), d2, d3, d4, rfl, d6, i4, (by rw [e8]; exact j)⟩
   refine kG (ke (jE ?_))
   replace d := d.ju (Db St)
   exact ⟨n, a5, a4, a9, T, _, ⟨rfl, s⟩, (d.ju St), d2, d3, d4, d5, d6, a7, (by rw [e8]; exact j)⟩
  rintro E W ⟨a5, a4, a9, T, f2, ⟨n, s⟩, d, d2, d3, d4, d5, d6, a7, j⟩
  rw [aH] at j
  refine jE ?_
  obtain rfl := sj j
  exact ⟨a4, T, _, (d.ju (Kb (Kb (Kr (Dr St))))), d2, d3, d4, d5, a7⟩
 rintro ⟨b2, f5⟩ E W ⟨b1, f3, g3, d, g4, M, d0, d1, a6⟩ c
 refine jI (sg (Wh d0 (Wi rfl (ln (CI c rfl (fun i7 c => ?_) (fun i7 c => ?_))))))
 ·refine sg (V (lC (v := (.agg Ez.toArray)) (kX rfl) (kI aP bG (tE _ bG) kr)) ?_)
  replace d := d.perm (Nb (Pb Pz) Nz)
  refine VO (jL (.agg Ez.toArray) (Ez.toArray) d M rfl aC oc nb rfl (fun o7 d => ln ?_))
  replace d := d.ju (Kb (Kb (Dr St)))
  refine jZ (km ?_)
  obtain rfl := sj c
  exact mO (v := (.agg Ez.toArray)) rfl M (jy d.has Mh Ez rfl aK aC) ⟨_, _, _, rfl, (d.mc (Db (Kb Sn))), H, m, (ST.kL d (mA.mem (Db (Kb Sn)))), (.slice none 0 0), rfl, rfl, (Sl.nil _ _ _)⟩
 refine kS (Wh d0 (Wh d1 (V (rS aD rfl a6) (Wi rfl (ln (CI c rfl (fun i8 c => ?_) (fun i8 c => ?_)))))))
 ·refine sg (V (lC (v := (.agg Fq.toArray)) (kX rfl) (kI aP bG (tE _ bG) kr)) ?_)
  replace d := d.perm (Nb (Pb Pz) Nz)
  refine VO (jL (.agg Fq.toArray) (Fq.toArray) d M rfl aC oc nb rfl (fun o8 d => ln ?_))
  replace d := d.ju (Kb (Kb (Dr St)))
  refine jZ (km ?_)
  obtain rfl := sj c
  exact mO (v := (.agg Fq.toArray)) rfl M (jy d.has Mh Fq rfl aK aC) ⟨_, _, _, rfl, (d.mc (Db (Kb Sn))), H, m, (ST.kL d (mA.mem (Db (Kb Sn)))), (.slice none 0 0), rfl, rfl, (Sl.nil _ _ _)⟩
 refine kS (Wh d0 (Wh d1 (V (rS aD rfl a6) (Wi rfl (ln (CI c rfl (fun i9 c => ?_) (fun i9 c => ?_)))))))
 ·refine sg (Wh g4 (Wh d1 ?_))
  replace d := d.perm (Nr (Qb (Qb Qz)) Nz)
  obtain ⟨s3, d, g9, P, k9⟩ := ST.tD jD d a6
  refine bS c fun y k3 c => ?_
  let m7 : Value := (.string (((y.1).jq).Word))
  let j1 : Value := (.string (((y.1).jq).js))
  refine VE (eD d (Cb Pz Cn) call185 (fun p => (uD k N 2 b1 f5 _ _ p (k9.mono jD.mono (kf.refl _)) k3)) ?_)
  rintro _ r2 s4 n7 d h1 R ⟨r8, e5, rfl, f9⟩
  obtain rfl := e5.symm
  replace d := d.perm (Tb Tn)
  obtain ⟨c0, c5, rfl⟩ := f9.form
  let g6 : Value := (.slice c0 ((y.1).Kids).length c5)
  let d8 : Value := (.agg #[(.int .i64 ((y.1).Op)), (.int .i64 ((y.1).K)), j1, m7, g6])
  replace d := d.perm (Nb (Pb Pz) Nz)
  refine VO (jL d8 (#[(.int .i64 ((y.1).Op)), (.int .i64 ((y.1).K)), j1, m7, g6]) d M rfl aC oc nb rfl (fun p0 d => lt (km ?_)))
  obtain rfl := sj c
  exact mO (v := d8) rfl M (jy d.has Mh [(.int .i64 ((y.1).Op)), (.int .i64 ((y.1).K)), j1, m7, g6] rfl aK aC) ⟨_, _, _, rfl, (d.mc (Db (Kb Sn))), ((H.trans g9).trans h1), ((m.trans P).trans R), (ST.kL d (mA.mem (Db (Kb Sn)))), g6, rfl, rfl, f9⟩
 refine kS (Wh d0 (Wi rfl (ln (CI c rfl (fun j0 c => ?_) (fun j0 c => ?_)))))
 ·refine sg (Wh g4 (Wh d1 ?_))
  replace d := d.perm (Nr (Qb (Qb Qz)) Nz)
  obtain ⟨s5, d, h2, aa, l0⟩ := ST.tD jD d a6
  refine bS c fun z k4 c => ?_
  let m9 : Value := (.string (((z.1).jq).Word))
  let j2 : Value := (.string (((z.1).jq).js))
  refine VE (eD d (Cb Pz Cn) call185 (fun p => (uD k N 3 b1 f5 _ _ p (l0.mono jD.mono (kf.refl _)) k4)) ?_)
  rintro _ r3 s6 n8 d h3 ab ⟨r9, e6, rfl, g0⟩
  obtain rfl := e6.symm
  replace d := d.perm (Tb Tn)
  obtain ⟨c1, c6, rfl⟩ := g0.form
  let h7 : Value := (.slice c1 ((z.1).Kids).length c6)
  let e0 : Value := (.agg #[(.int .i64 ((z.1).Op)), (.int .i64 ((z.1).K)), j2, m9, h7])
  replace d := d.perm (Nb (Pb Pz) Nz)
  refine VO (jL e0 (#[(.int .i64 ((z.1).Op)), (.int .i64 ((z.1).K)), j2, m9, h7]) d M rfl aC oc nb rfl (fun p2 d => lt (km ?_)))
  obtain rfl := sj c
  exact mO (v := e0) rfl M (jy d.has Mh [(.int .i64 ((z.1).Op)), (.int .i64 ((z.1).K)), j2, m9, h7] rfl aK aC) ⟨_, _, _, rfl, (d.mc (Db (Kb Sn))), ((H.trans h2).trans h3), ((m.trans aa).trans ab), (ST.kL d (mA.mem (Db (Kb Sn)))), h7, rfl, rfl, g0⟩
 refine kg (Wh d0 (Wh d1 ?_))
 replace d := d.perm (Nr (Qb (Qb Qz)) Nz)
 obtain ⟨s7, d, h4, ad, l1⟩ := ST.tD jD d a6
 refine bS c fun a3 k5 c => ?_
 refine VE (eD d (bW _) call187 (fun p => (Ct b1 f5 false _ _ p (l1.mono jD.mono (kf.refl _)) k5)) ?_ (L0 := []))
 rintro _ r4 s8 n9 d h5 ae ⟨s0, e7, rfl, g1⟩
 obtain rfl := e7.symm
 obtain ⟨Z, a2, rfl⟩ := g1.form
 let h8 := (SO b2 Z a3.length a2)
 refine V (lC (v := (.agg h8.toArray)) (xv rfl rfl rfl) (kI aP bG (tE _ bG) kr)) ?_
 replace d := d.perm (Nb (Pb Pz) Nz)
 refine VO (jL (.agg h8.toArray) (h8.toArray) d M rfl aC oc nb rfl (fun p4 d => lt ?_))
 obtain rfl := sj c
 exact mO (v := (.agg h8.toArray)) rfl M (jy d.has Mh h8 rfl aK aC) ⟨_, _, _, rfl, (d.mc (Db (Kb Sn))), ((H.trans h4).trans h5), ((m.trans ad).trans ae), (ST.kL d (mA.mem (Db (Kb Sn)))), (.slice Z a3.length a2), rfl, rfl, g1⟩
theorem xm : ∀ (n : Nat) (c : Nat) (j : kW) (g : Formula) (a : Value) (r : (Formula × kW)) (w : World) {k : kk} (y : nz k ((c, Ol (mu j) 175) :: []) w) (i : Sl jt 5 k a g.Kids) (_ : mV n j g = some r),
  lP false pg0 118 [(.pointer (some ⟨c, 0, none⟩)), (.agg #[(.int .i64 g.Op), (.int .i64 g.K), (.string g.jq.js), (.string g.jq.Word), a])] w k ((c, Ol (mu j) 175) :: []) (fun v u x => ∃ t, v = (.agg #[(.int .i64 ((r.1).Op)), (.int .i64 ((r.1).K)), (.string (((r.1).jq).js)), (.string (((r.1).jq).Word)), t]) ∧ u = ((c, Ol (mu (r.2)) 175) :: []) ∧ Sl jt 5 x t ((r.1).Kids))
 | 0 => by intros; rename_i h; simp only [mV] at h; cases h
 | n + 1 => zL (mV n) (xm n)
theorem Dq (c : Formula) (u : Value) (r : (Formula × Int)) (w : World) {Z : kk} (A : nz Z [] w) (k : Sl jt 5 Z u c.Kids) (hm : wz c = some r) :
  lP false pg0 47 [(.agg #[(.int .i64 c.Op), (.int .i64 c.K), (.string c.jq.js), (.string c.jq.Word), u])] w Z [] (fun v L1 μ1 => ∃ q, v = (.tuple #[(.agg #[(.int .i64 ((r.1).Op)), (.int .i64 ((r.1).K)), (.string (((r.1).jq).js)), (.string (((r.1).jq).Word)), q]), (.int .i64 (r.2))]) ∧ L1 = [] ∧ Sl jt 5 μ1 q ((r.1).Kids)) := by
 refine uo A 26 func47 rfl (fun b => sg ?_)
 obtain ⟨H, I, rfl⟩ := k.form
 let n := (C1 c.Op c.K c.jq.js c.jq.Word H c.Kids.length I)
 refine VE (kj b rfl (fun W4 O b => VE (kh b aP (fun W6 p b => Wa (lS (VA b (Mt Mh) n aK aC (bS hm fun r7 a5 hm => VE (Eg b call67 (vx c (.slice H c.Kids.length I) _ _ (k.mono jD.mono b.jB) a5) (fun W9 b => V (nj rfl) (ln (CI hm rfl (fun Q hm => ?_) (fun Q hm => ?_))))))))))))
 ·refine sg (V (lC (v := (.agg C4.toArray)) qa (kI aP bG (tE _ bG) kr)) (VO (jL (.agg C4.toArray) (C4.toArray) b rfl rfl aC oc nb rfl (fun R b => Wa (ln ?_)))))
  replace b := b.ju (Kb (Db St))
  refine jZ (km ?_)
  obtain rfl := sj hm
  exact qJ (v0 := (.agg C4.toArray)) (v1 := (.int .i64 11)) rfl rfl (jy b.has Mh C4 rfl aK aC) rfl ⟨_, _, _, rfl, (b.mc Sn), (kf.refl _), Lo.refl, (ST.kL b (mA.mem Sn)), (.slice none 0 0), rfl, rfl, (Sl.nil _ _ _)⟩
 refine kg (V (lC (v := (.agg (mu (⟨false⟩ : kW)).toArray)) qa (kI zeroValue175 iN (Sd _ iN) kr)) (VE (kj b rfl (fun b7 s b => Wa (lr (Wm (VA b (Mt (Mt Mh)) n aK aC (bS hm fun a U hm => ?_))))))))
 let m : Value := (.int .i64 ((a.1).K))
 let l : Value := (.int .i64 ((a.1).Op))
 let h : Value := (.string (((a.1).jq).Word))
 let a2 : Value := (.string (((a.1).jq).js))
 refine VE (eD b (Cb Pz Cn) call118 (fun L => ((xm jY) s (⟨false⟩ : kW) c (.slice H c.Kids.length I) _ _ L (k.mono jD.mono (kf.refl _)) U)) ?_)
 rintro _ c7 a9 P b D d ⟨c9, y, rfl, z⟩
 obtain rfl := y.symm
 replace b := b.perm (Tb Tn)
 refine VE (kh b aP (fun c0 K b => ?_))
 obtain ⟨i, j, rfl⟩ := z.form
 let a0 : Value := (.slice i ((a.1).Kids).length j)
 let N : Value := (.agg #[l, m, a2, h, a0])
 refine VO (jL N (#[l, m, a2, h, a0]) b rfl rfl aC oc nb rfl (fun c1 b => ln ?_))
 replace b := b.ju (Kb (Kb (Kb (Db St))))
 refine jI (sg (Wm (Wn (Wf Hp (VB b (Mt Mh) rfl rfl isAgg4 (Wm (LJ hm (fun M E W => ∃ J, ST false (keys []) w W a9 ((K, Ob #[l, m, a2, h, a0] 30) :: ((p, Ol C4 30) :: J)) ∧ E 2 = (.pointer (some ⟨p, 0, none⟩)) ∧ E 5 = (.pointer (some ⟨K, 0, none⟩)) ∧ E 23 = (.bool M)) 4 ?_ (fun M t G => ?_))))))))
 ·rintro c8 E W ⟨J, b, B, a3, a4⟩ x
  refine ln (CI x a4 (fun T x => ?_) (fun T x => ?_))
  ·refine sg (V (lC (v := (.agg C4.toArray)) qa (kI aP bG (tE _ bG) kr)) ?_)
   replace b := b.perm (Nb (Pb Pz) Nz)
   refine VO (jL (.agg C4.toArray) (C4.toArray) b B rfl aC oc nb rfl (fun c3 b => Wa (ln ?_)))
   replace b := b.ju (Kb (Db St))
   refine jZ (km ?_)
   obtain rfl := sj x
   exact qJ (v0 := (.agg C4.toArray)) (v1 := (.int .i64 12)) rfl B (jy b.has Mh C4 rfl aK aC) rfl ⟨_, _, _, rfl, (b.mc Sn), D, d, (ST.kL b (mA.mem Sn)), (.slice none 0 0), rfl, rfl, (Sl.nil _ _ _)⟩
  refine kg (V (jv a3 (jy b.has Mh [l, m, a2, h, a0] rfl aK aC)) ?_)
  replace b := b.perm (Nb (Pb Pz) Nz)
  refine VO (jL N (#[l, m, a2, h, a0]) b B rfl aC oc nb rfl (fun c4 b => Wa (ln ?_)))
  replace b := b.ju (Kb (Db St))
  refine jZ ?_
  obtain rfl := sj x
  exact qJ (v0 := N) (v1 := (.int .i64 0)) rfl B (jy b.has Mh [l, m, a2, h, a0] rfl aK aC) rfl ⟨_, _, _, rfl, (b.mc Sn), D, d, (ST.kL b (mA.mem Sn)), a0, rfl, rfl, z⟩
 refine bC t (fun g t => ?_) (fun g t => ?_)
 ·refine un g (un g (un g (V (jM (cB g) rfl) ?_)))
  obtain rfl := sj t
  exact G _ _ ⟨_, (b.ju (Kb (Db St))), rfl, rfl, rfl⟩
 refine ug g (jv rfl (jy b.has Mh [l, m, a2, h, a0] rfl aK aC)) (bS t fun c6 Y t => rB g (Eg b call67 (vx a.1 a0 _ _ (z.mono jD.mono b.jB) Y) (fun c5 b => ug g (nj rfl) (V (jO (cB g) rfl) ?_))))
 obtain rfl := sj t
 exact G _ _ ⟨_, (b.ju (Kb (Db St))), rfl, rfl, rfl⟩
theorem zh (k : Value) (u : List jr) (g : jr) (r : Bool) (w : World) (j : Sl (Pl jw) 9 (hp w) k u) (hm : uh u g = some r) :
  jT true pg0 18 [k, (.agg (jw g).toArray)] w (.bool r) := by
 refine cG 17 func18 rfl (fun b => sg (VE (kj b rfl (fun Y J b => Wa (lS (Wm (V (kJ aR rfl j) (Wm (ln ?_)))))))))
 refine ku (fun i E W => ∃ t, (E 9 = .int .i64 (i : Nat) ∧ E 8 = .int .i64 (u.length : Nat)) ∧ ST true kp w W (hp w) ((J, Ol (jw g) 52) :: t) ∧ E 3 = (.pointer (some ⟨J, 0, none⟩)) ∧ E 7 = k ∧ wE g (u.drop i) = some r) u.length j.len ⟨_, ⟨rfl, rfl⟩, (b.ju St), rfl, rfl, hm⟩ dc dc dc (fun _ _ _ h => by obtain ⟨_, l, _⟩ := h; exact l) ?_ ?_
 ·rintro K E W B ⟨t, ⟨d, m⟩, b, x, y, a⟩
  obtain ⟨c, M, H, G, I⟩ := kc B
  rw [H] at a
  refine bg (VQ (mQ (enc := jw) (i := (K : Int)) (x0 := c) aR aM y d j (aG _) G) (fun U D => V (jv rfl (jQ b.has D bU aM)) (VE (kh b cT (fun N T b => VO (jL (.agg (jw c).toArray) ((jw c).toArray) b rfl rfl aM (nw c) nb rfl (fun Q b => lr (VA b Mh (jw c) bU aM (V (jv x (jy b.has (Mt Mh) (jw g) rfl bU aM)) (V (uY rfl rfl (nm eY) (ru (wo _ c g))) (jU ?_)))))))))))
  refine jE ?_
  replace b := b.ju (Db St)
  refine CI a rfl (fun z a => ?_) (fun z a => ?_)
  ·refine sg (Wa (ln ?_))
   replace b := b.ju (Db St)
   refine jZ (mn (km (mn (km ?_))))
   obtain rfl := sj a
   exact rP b
  exact kG (ke (jE ⟨d, _, ⟨rfl, m⟩, (b.ju St), x, y, (by rw [I]; exact a)⟩))
 rintro E W ⟨t, ⟨d, m⟩, b, x, y, a⟩
 rw [aH] at a
 refine jE ?_
 replace b := b.ju (Db St)
 exact sg (Wa (lt (rQ a b)))
set_option maxHeartbeats 4000000 in
theorem LS (Y : kx) (b3 c5 : Value) (p : jr) (r : (Formula × Int)) (w : World) {μ0 : kk} (h0 : nz μ0 [] w) (I : Sl ko 15 μ0 b3 Y.jF) (Q : Sl kQ 8 μ0 c5 Y.jP) (hm : Aq Y p = some r) :
  lP false pg0 184 [(.agg #[(.string Y.Name), b3, c5]), (.agg (jw p).toArray)] w μ0 [] (fun v L1 μ1 => ∃ y1, v = (.tuple #[(.agg #[(.int .i64 ((r.1).Op)), (.int .i64 ((r.1).K)), (.string (((r.1).jq).js)), (.string (((r.1).jq).Word)), y1]), (.int .i64 (r.2))]) ∧ L1 = [] ∧ Sl jt 5 μ1 y1 ((r.1).Kids)) := by
 refine uo h0 62 func184 rfl (fun b => sg ?_)
 obtain ⟨A1, c2, rfl⟩ := I.form
 obtain ⟨A3, c4, rfl⟩ := Q.form
 refine VE (kj b rfl (fun W6 b5 b => VE (kj b rfl (fun W8 P b => VE (kh b aP (fun p4 R b => Wa (lS (Wf xd (VB b (Mt (Mt Mh)) rfl rfl gV (V (kJ dt rfl I) (Wm (ln ?_))))))))))))
 refine ku (fun i E W => ∃ e6, (E 15 = .int .i64 (i : Nat) ∧ E 14 = .int .i64 (Y.jF.length : Nat)) ∧ ST false (keys []) w W μ0 ((R, Ol C4 30) :: ((P, Ol (jw p) 52) :: ((b5, Ol (C3 Y.Name A1 Y.jF.length c2 A3 Y.jP.length c4) 25) :: e6))) ∧ E 2 = (.pointer (some ⟨b5, 0, none⟩)) ∧ E 3 = (.pointer (some ⟨P, 0, none⟩)) ∧ E 4 = (.pointer (some ⟨R, 0, none⟩)) ∧ E 13 = (.slice A1 Y.jF.length c2) ∧ vt p Y (Y.jF.drop i) = some r) Y.jF.length I.len ⟨_, ⟨rfl, rfl⟩, (b.ju St), rfl, rfl, rfl, rfl, hm⟩ dc dc dc (fun _ _ _ h => by obtain ⟨_, L, _⟩ := h; exact L) ?_ ?_
 ·let f2 : Value := (.pointer (some ⟨R, 0, none⟩))
  rintro k8 E W i4 ⟨e6, ⟨A, eN⟩, b, f0, d2, b0, f1, t⟩
  obtain ⟨c, l6, j7, j6, j8⟩ := kc i4
  rw [j7] at t
  refine bg (VQ (lF (i := (k8 : Int)) (x0 := c) ko.out dt dn f1 A I (aG _) j6) (fun n6 ⟨_, ⟨n9, o0, rfl, j4, f3⟩, i7⟩ => V (jv rfl (jQ b.has i7 gw dn)) (VE (kh b eO (fun m1 n5 b => ?_)))))
  obtain ⟨g0, g4, rfl⟩ := j4.form
  obtain ⟨c7, d0, rfl⟩ := f3.form
  let a0 := (C2 c.Signed.jr.Kind c.Signed.jr.Head.js c.Signed.jr.Head.Word c.Signed.jr.kz c.Signed.jr.B.js c.Signed.jr.B.Word c.Signed.jr.C.js c.Signed.jr.C.Word c.Signed.jr.kK g0 c.Signed.Tag.length g4 c.jx.Op c.jx.K c.jx.jq.js c.jx.jq.Word c7 c.jx.Kids.length d0)
  refine VO (jL (.agg a0.toArray) (a0.toArray) b rfl rfl dn oc nb rfl (fun m2 b => lS (Wf uL (Wf ux (VA b Mh (jw c.Signed.jr) bU aM (V (jv d2 (jy b.has (Mt (Mt Mh)) (jw p) rfl bU aM)) (V (E1 rfl rfl (nm eY) (Ax (wo _ c.Signed.jr p))) (ln (CI t rfl (fun i1 t => ?_) (fun i1 t => ?_))))))))))
  ·refine na (mR (qp (jE ?_)))
   replace b := b.ju (Db St)
   exact ⟨A, _, ⟨rfl, eN⟩, (b.ju St), f0, d2, b0, f1, (by rw [j8]; exact t)⟩
  refine kg (Wf JQ (VA b Mh (C1 c.jx.Op c.jx.K c.jx.jq.js c.jx.jq.Word c7 c.jx.Kids.length d0) aK aC (bS t fun j i9 t => ?_)))
  refine VE (eD b (bW _) call47 (fun hh => (Dq c.jx (.slice c7 c.jx.Kids.length d0) _ _ hh (f3.mono jD.mono (kf.refl _)) i9)) ?_ (L0 := []))
  rintro _ o1 c0 l9 b c3 m ⟨o6, e0, rfl, f8⟩
  obtain rfl := e0.symm
  refine Wm (Wx rfl (Wx rfl (VE (kh b aP (fun m4 a5 b => ?_)))))
  let g5 : Value := (.pointer (some ⟨a5, 0, none⟩))
  obtain ⟨e4, e8, rfl⟩ := f8.form
  let g6 : Value := (.slice e4 ((j.1).Kids).length e8)
  refine VO (jL (.agg #[(.int .i64 ((j.1).Op)), (.int .i64 ((j.1).K)), (.string (((j.1).jq).js)), (.string (((j.1).jq).Word)), g6]) (#[(.int .i64 ((j.1).Op)), (.int .i64 ((j.1).K)), (.string (((j.1).jq).js)), (.string (((j.1).jq).Word)), g6]) b rfl rfl aC oc nb rfl (fun m5 b => Wa (ln ?_)))
  replace b := b.ju (Kb (Db St))
  refine jI (sg (V (jz Ef f0) (VB b (Mt (Mt (Mt Mh))) rfl rfl isAgg23 (V (kJ cX rfl Q) (Wm (ln ?_))))))
  replace b := b.ju (Kb (Kb (Kb (Db St))))
  refine CJ t (fun T E W => ∃ d9 c1 g1, kf c0 c1 ∧ Lo (keys []) w c0 c1 ∧ ST false (keys []) w W c1 ((a5, Ob #[(.int .i64 T.2.1), (.int .i64 T.2.2.1), (.string T.2.2.2.1.js), (.string T.2.2.2.1.Word), d9] 30) :: ((R, Ol C4 30) :: g1)) ∧ E 4 = f2 ∧ E 8 = g5 ∧ E 9 = (.int .i64 T.1) ∧ Sl jt 5 c1 d9 T.2.2.2.2) (fun T i6 => ?_) ?_
  ·refine ku (fun i E W => ∃ O u x g U z J e7, (E 33 = .int .i64 (i : Nat) ∧ E 32 = .int .i64 (Y.jP.length : Nat)) ∧ kf c0 J ∧ Lo (keys []) w c0 J ∧ ST false (keys []) w W J ((a5, Ob #[(.int .i64 u), (.int .i64 x), (.string g.js), (.string g.Word), U] 30) :: ((R, Ol C4 30) :: ((P, Ol (jw p) 52) :: e7))) ∧ E 3 = (.pointer (some ⟨P, 0, none⟩)) ∧ E 4 = f2 ∧ E 8 = g5 ∧ E 9 = (.int .i64 O) ∧ E 31 = (.slice A3 Y.jP.length c4) ∧ Sl jt 5 J U z ∧ se p (Y.jP.drop i) O u x g z = some T) Y.jP.length Q.len ⟨j.2, ((j.1).Op), ((j.1).K), ((j.1).jq), g6, ((j.1).Kids), c0, _, ⟨rfl, rfl⟩, (kf.refl _), Lo.refl, (b.ju St), d2, b0, rfl, rfl, rfl, f8, i6⟩ dc dc dc (fun _ _ _ h => by obtain ⟨_, _, _, _, _, _, _, _, L, _⟩ := h; exact L) ?_ ?_
   ·rintro h4 E W i5 ⟨O, u, x, g, U, z, J, e7, ⟨A, eN⟩, Z, d, b, d4, d5, d6, b1, d7, a3, K⟩
    obtain ⟨a, l7, k0, j9, f7⟩ := kc i5
    rw [k0] at K
    refine bg (VQ (lF (i := (h4 : Int)) (x0 := a) kQ.out cX dv d7 A (Q.mono mi.mono (c3.trans Z)) (aG _) j9) (fun n7 ⟨_, ⟨o2, o3, rfl, f5, f6⟩, i8⟩ => V (jv rfl (jQ b.has i8 gK dv)) (VE (kh b fp (fun m8 g3 b => ?_)))))
    obtain ⟨D, G, rfl⟩ := f5.form
    let h6 : Value := (.slice D a.jx.Kids.length G)
    obtain ⟨c8, d1, rfl⟩ := f6.form
    let b8 := (C6 a.jq.js a.jq.Word a.jx.Op a.jx.K a.jx.jq.js a.jx.jq.Word D a.jx.Kids.length G c8 a.lj.length d1)
    refine VO (jL (.agg b8.toArray) (b8.toArray) b rfl rfl dv oc nb rfl (fun m9 b => lr (Wh b1 (Wi rfl (Wm (LJ K (fun h5 E W => ∃ g2, ST false (keys []) w W J ((g3, Ol b8 132) :: ((a5, Ob #[(.int .i64 u), (.int .i64 x), (.string g.js), (.string g.Word), U] 30) :: ((R, Ol C4 30) :: ((P, Ol (jw p) 52) :: g2)))) ∧ E 3 = (.pointer (some ⟨P, 0, none⟩)) ∧ E 4 = f2 ∧ E 8 = g5 ∧ E 9 = (.int .i64 O) ∧ E 11 = (.pointer (some ⟨g3, 0, none⟩)) ∧ E 31 = (.slice A3 Y.jP.length c4) ∧ E 32 = (.int .i64 (Y.jP.length : Int)) ∧ E 33 = (.int .i64 (h4 : Int)) ∧ E 44 = (.bool h5)) 5 ?_ (fun h5 N e3 => ?_)))))))
    ·rintro o5 E W ⟨g2, b, g8, g9, d8, k5, k6, h1, h2, h3, k7⟩ M
     refine ln (CI M k7 (fun i3 M => ?_) (fun i3 M => ?_))
     ·refine jG (V (jv d8 (jy b.has (Mt Mh) [(.int .i64 u), (.int .i64 x), (.string g.js), (.string g.Word), U] rfl aK aC)) (V (jz Hh k6) (VA b Mh (C1 a.jx.Op a.jx.K a.jx.jq.js a.jx.jq.Word D a.jx.Kids.length G) aK aC ?_)))
      obtain ⟨a4, a6, rfl⟩ := a3.form
      refine VE (jW (cs := #[(.int .i64 u), (.int .i64 x), (.string g.js), (.string g.Word), (.slice a4 z.length a6), (.int .i64 a.jx.Op), (.int .i64 a.jx.K), (.string a.jx.jq.js), (.string a.jx.jq.Word), h6]) b (uJ rfl rfl) (lM aD aC aP) (fun n0 c9 b => V (lC (v := (.agg #[(.int .i64 2), (.int .i64 0), (.string zS), (.string zS), (.slice (some ⟨c9, 0, none⟩) 2 2)])) (uJ rfl rfl) (kI aP bG (tE _ bG) kr)) ?_))
      obtain ⟨o8, b, h7, q, j5⟩ := ST.tD (B := [(c9, Ob #[(.int .i64 u), (.int .i64 x), (.string g.js), (.string g.Word), (.slice a4 z.length a6), (.int .i64 a.jx.Op), (.int .i64 a.jx.K), (.string a.jx.jq.js), (.string a.jx.jq.Word), h6] 30)]) jD b (kE.lit jD (l := [(⟨u, x, g, z⟩ : Formula), a.jx]) (.cons (ys := C1 u x g.js g.Word a4 z.length a6) (jt.mk ⟨(.slice a4 z.length a6), rfl, a3⟩) (.cons (ys := C1 a.jx.Op a.jx.K a.jx.jq.js a.jx.jq.Word D a.jx.Kids.length G) (jt.mk ⟨h6, rfl, f5⟩) .nil)) rfl nb rfl)
      refine bS M fun k j0 M => ?_
      refine VE (eD b (bW _) call47 (fun hh => (Dq (⟨2, 0, K0, [(⟨u, x, g, z⟩ : Formula), a.jx]⟩ : Formula) (.slice (some ⟨c9, 0, none⟩) 2 2) _ _ hh (j5.mono jD.mono (kf.refl _)) j0)) ?_ (L0 := []))
      rintro _ o4 l0 m0 b h8 s ⟨o7, e1, rfl, f9⟩
      obtain rfl := e1.symm
      refine Wm (Wx rfl (Wx rfl ?_))
      obtain ⟨e5, e9, rfl⟩ := f9.form
      let h9 : Value := (.slice e5 ((k.1).Kids).length e9)
      replace b := b.perm (Nb (Pb Pz) Nz)
      refine VO (jL (.agg #[(.int .i64 ((k.1).Op)), (.int .i64 ((k.1).K)), (.string (((k.1).jq).js)), (.string (((k.1).jq).Word)), h9]) (#[(.int .i64 ((k.1).Op)), (.int .i64 ((k.1).K)), (.string (((k.1).jq).js)), (.string (((k.1).jq).Word)), h9]) b d8 rfl aC oc nb rfl (fun n2 b => Wa (jU (ke (jE ?_)))))
      replace b := b.ju (Kb (Db St))
      exact ⟨h3, k.2, ((k.1).Op), ((k.1).K), ((k.1).jq), h9, ((k.1).Kids), l0, _, ⟨rfl, h2⟩, ((Z.trans h7).trans h8), ((d.trans q).trans s), (b.ju St), g8, g9, d8, rfl, h1, f9, (by rw [f7]; exact M)⟩
     refine kG (ke (jE ?_))
     replace b := b.ju (Db St)
     exact ⟨h3, O, u, x, g, U, z, J, _, ⟨rfl, h2⟩, Z, d, (b.ju St), g8, g9, d8, k5, h1, a3, (by rw [f7]; exact M)⟩
    refine bC N (fun y N => ?_) (fun y N => ?_)
    ·refine ug y (jz Cq rfl) (ug y (jv rfl (jK b.has Mh rfl iZ)) (ug y (jv d4 (jy b.has (Mt (Mt (Mt Mh))) (jw p) rfl bU aM)) (bS N fun n8 j3 N => rB y (Eg b call18 (jT.lz (zh (.slice c8 a.lj.length d1) a.lj p _ _ (f6.mono (Pl.mono _) b.jB) j3)) (fun n3 b => V (jM (cB y) rfl) ?_)))))
     obtain rfl := sj N
     exact e3 _ _ ⟨_, (b.ju St), d4, d5, d6, b1, rfl, d7, eN, A, rfl⟩
    refine un y (un y (un y (un y (V (jO (cB y) rfl) ?_))))
    obtain rfl := sj N
    exact e3 _ _ ⟨_, (b.ju St), d4, d5, d6, b1, rfl, d7, eN, A, rfl⟩
   rintro E W ⟨O, u, x, g, U, z, J, e7, ⟨A, eN⟩, Z, d, b, d4, d5, d6, b1, d7, a3, K⟩
   rw [aH] at K
   refine jE ?_
   obtain rfl := sj K
   exact ⟨U, J, _, Z, d, (b.ju (Kb (Kb (Db St)))), d5, d6, b1, a3⟩
  rintro ⟨k9, b4, b6, H, b2⟩ E W ⟨d9, c1, g1, e2, n, b, d3, k4, g7, f4⟩ a2
  refine jI (sg (Wh g7 (Wi rfl (ln (CI a2 rfl (fun i2 a2 => ?_) (fun i2 a2 => ?_))))))
  ·refine sg (V (lC (v := (.agg C4.toArray)) qa (kI aP bG (tE _ bG) kr)) (Wh g7 ?_))
   replace b := b.perm (Nb (Pb Pz) Nz)
   refine VO (jL (.agg C4.toArray) (C4.toArray) b d3 rfl aC oc nb rfl (fun m6 b => Wa (ln ?_)))
   replace b := b.ju (Kb (Db St))
   refine jZ (km (mn (km (mn (km ?_)))))
   obtain rfl := sj a2
   exact qJ (v0 := (.agg C4.toArray)) (v1 := (.int .i64 k9)) rfl d3 (jy b.has Mh C4 rfl aK aC) rfl ⟨_, _, _, rfl, (b.mc Sn), (c3.trans e2), (m.trans n), (ST.kL b (mA.mem Sn)), (.slice none 0 0), rfl, rfl, (Sl.nil _ _ _)⟩
  refine kg (V (jv k4 (jy b.has Mh [(.int .i64 b4), (.int .i64 b6), (.string H.js), (.string H.Word), d9] rfl aK aC)) ?_)
  obtain ⟨a8, a9, rfl⟩ := f4.form
  let c6 := (C1 b4 b6 H.js H.Word a8 b2.length a9)
  replace b := b.perm (Nb (Pb Pz) Nz)
  refine VO (jL (.agg c6.toArray) (c6.toArray) b d3 rfl aC oc nb rfl (fun m7 b => Wa (ln ?_)))
  replace b := b.ju (Kb (Db St))
  refine jZ (mn (km (mn (km ?_))))
  obtain rfl := sj a2
  exact qJ (v0 := (.agg c6.toArray)) (v1 := (.int .i64 0)) rfl d3 (jy b.has Mh c6 rfl aK aC) rfl ⟨_, _, _, rfl, (b.mc Sn), (c3.trans e2), (m.trans n), (ST.kL b (mA.mem Sn)), (.slice a8 b2.length a9), rfl, rfl, f4⟩
 rintro E W ⟨e6, ⟨A, eN⟩, b, f0, d2, b0, f1, t⟩
 rw [aH] at t
 refine jE ?_
 replace b := b.ju (Kb (Db (Db St)))
 refine sg (V (lC (v := (.agg C4.toArray)) qa (kI aP bG (tE _ bG) kr)) (VO (jL (.agg C4.toArray) (C4.toArray) b b0 rfl aC oc nb rfl (fun n4 b => Wa (lt ?_)))))
 obtain rfl := sj t
 exact qJ (v0 := (.agg C4.toArray)) (v1 := (.int .i64 42)) rfl b0 (jy b.has Mh C4 rfl aK aC) rfl ⟨_, _, _, rfl, (b.mc Sn), (kf.refl _), Lo.refl, (ST.kL b (mA.mem Sn)), (.slice none 0 0), rfl, rfl, (Sl.nil _ _ _)⟩
theorem Kl (k : Value) (u : List jq) (g : jq) (r : Bool) (w : World) (j : Sl (Pl jA) 2 (hp w) k u) (hm : zl u g = some r) :
  jT true pg0 188 [k, (.agg (jA g).toArray)] w (.bool r) := by
 refine cG 17 func188 rfl (fun b => sg (VE (kj b rfl (fun Y J b => Wa (lS (Wm (V (kJ er rfl j) (Wm (ln ?_)))))))))
 refine ku (fun i E W => ∃ t, (E 9 = .int .i64 (i : Nat) ∧ E 8 = .int .i64 (u.length : Nat)) ∧ ST true kp w W (hp w) ((J, Ol (jA g) 27) :: t) ∧ E 3 = (.pointer (some ⟨J, 0, none⟩)) ∧ E 7 = k ∧ wD g (u.drop i) = some r) u.length j.len ⟨_, ⟨rfl, rfl⟩, (b.ju St), rfl, rfl, hm⟩ dc dc dc (fun _ _ _ h => by obtain ⟨_, l, _⟩ := h; exact l) ?_ ?_
 ·rintro K E W B ⟨t, ⟨d, m⟩, b, x, y, a⟩
  obtain ⟨c, M, H, G, I⟩ := kc B
  rw [H] at a
  refine bg (VQ (mQ (enc := jA) (i := (K : Int)) (x0 := c) er aS y d j (aG _) G) (fun U D => V (jv rfl (jQ b.has D bF aS)) (VE (kh b eA (fun N T b => VO (jL (.agg (jA c).toArray) ((jA c).toArray) b rfl rfl aS (vB c) nb rfl (fun Q b => lr (VA b Mh (jA c) bF aS (V (jv x (jy b.has (Mt Mh) (jA g) rfl bF aS)) (V (uY rfl rfl (nm eb) (ru (pe _ c g))) (jU ?_)))))))))))
  refine jE ?_
  replace b := b.ju (Db St)
  refine CI a rfl (fun z a => ?_) (fun z a => ?_)
  ·refine sg (Wa (ln ?_))
   replace b := b.ju (Db St)
   refine jZ (mn (km (mn (km ?_))))
   obtain rfl := sj a
   exact rP b
  exact kG (ke (jE ⟨d, _, ⟨rfl, m⟩, (b.ju St), x, y, (by rw [I]; exact a)⟩))
 rintro E W ⟨t, ⟨d, m⟩, b, x, y, a⟩
 rw [aH] at a
 refine jE ?_
 replace b := b.ju (Db St)
 exact sg (Wa (lt (rQ a b)))
theorem E3 (N : Formula → (List jq) → Option Bool) (a5 : ∀ (g : Formula) (k : Value) (t : Value) (H : List jq) (r : Bool) (w : World) (c : Sl jt 5 (hp w) k g.Kids) (J : Sl (Pl jA) 2 (hp w) t H), N g H = some r → jT false pg0 119 [(.agg #[(.int .i64 g.Op), (.int .i64 g.K), (.string g.jq.js), (.string g.jq.Word), k]), t] w (.bool r)) (g : Formula) (k t : Value) (H : List jq) (r : Bool) (w : World) (c : Sl jt 5 (hp w) k g.Kids) (J : Sl (Pl jA) 2 (hp w) t H) (hm : wZ N g H = some r) :
  jT false pg0 119 [(.agg #[(.int .i64 g.Op), (.int .i64 g.K), (.string g.jq.js), (.string g.jq.Word), k]), t] w (.bool r) := by
 refine cG 45 func119 rfl (fun b => sg ?_)
 obtain ⟨A1, c2, rfl⟩ := c.form
 refine VE (kj b rfl (fun W4 n b => Wa (lS (Wf mZ (VB b Mh rfl rfl bX (Wi rfl (ln (CI hm rfl (fun a9 hm => ?_) (fun a9 hm => ?_)))))))))
 ·refine sg (Wm (Wf tb (VA b Mh (jA g.jq) bF aS (bS hm fun r6 s hm => VE (Eg b call188 (jT.lz (Kl t H g.jq _ _ (J.mono (Pl.mono _) b.jB) s)) (fun W8 b => Wa (ln ?_)))))))
  replace b := b.ju (Db St)
  refine jZ (km ?_)
  obtain rfl := sj hm
  exact rP b
 refine kg (Wa (lS (Wf ng (VB b Mh rfl rfl dI (V (kJ aD rfl c) (Wm (jU ?_)))))))
 refine jE (ku (fun i E W => ∃ y I, (E 18 = .int .i64 (i : Nat) ∧ E 17 = .int .i64 (g.Kids.length : Nat)) ∧ ST false kp w W (hp w) ((n, Ol (C1 g.Op g.K g.jq.js g.jq.Word A1 g.Kids.length c2) 30) :: I) ∧ E 1 = t ∧ E 2 = (.pointer (some ⟨n, 0, none⟩)) ∧ E 5 = (.int .i64 y) ∧ E 16 = (.slice A1 g.Kids.length c2) ∧ qI N H g (g.Kids.drop i) y = some r) g.Kids.length c.len ⟨0, _, ⟨rfl, rfl⟩, (b.ju St), rfl, rfl, rfl, rfl, hm⟩ dc dc dc (fun _ _ _ h => by obtain ⟨_, _, l, _⟩ := h; exact l) ?_ ?_)
 ·rintro v E W a4 ⟨y, I, ⟨d, m⟩, b, D, u, x, G, a⟩
  obtain ⟨j, c1, q, p, M⟩ := kc a4
  rw [q] at a
  refine bg (VQ (lF (i := (v : Int)) (x0 := j) jt.out aD aC G d c (aG _) p) (fun R ⟨_, ⟨c0, rfl, K⟩, Y⟩ => V (jv rfl (jQ b.has Y aK aC)) (VE (kh b aP (fun A P b => ?_)))))
  obtain ⟨z, B, rfl⟩ := K.form
  let a0 := (C1 j.Op j.K j.jq.js j.jq.Word z j.Kids.length B)
  refine VO (jL (.agg a0.toArray) (a0.toArray) b rfl rfl aC oc nb rfl (fun L b => lr (VA b Mh a0 aK aC (Wh D (bS a fun b9 Z a => VE (Eg b call119 (a5 j (.slice z j.Kids.length B) t H _ _ (K.mono jD.mono b.jB) (J.mono (Pl.mono _) b.jB) Z) (fun O b => ln ?_)))))))
  replace b := b.ju (Db St)
  refine CI a rfl (fun Q a => ?_) (fun Q a => ?_)
  ·exact jG (Wh x (Wi rfl (Wa (jU (ke (jE ⟨d, (wi0 .i64 (y + 1)), _, ⟨rfl, m⟩, (b.ju St), D, u, rfl, G, (by rw [M]; exact a)⟩))))))
  exact kG (ke (jE ⟨d, y, _, ⟨rfl, m⟩, (b.ju St), D, u, x, G, (by rw [M]; exact a)⟩))
 rintro E W ⟨y, I, ⟨d, m⟩, b, D, u, x, G, a⟩
 rw [aH] at a
 refine jE (jI (sg (V (jz mZ u) (VB b Mh rfl rfl bX (Wi rfl (ln (CI a rfl (fun T a => ?_) (fun T a => ?_))))))))
 ·refine sg (Wh x (V (jz ng u) (VB b Mh rfl rfl dI (V (kJ aD rfl c) (Wi rfl (Wa (ln ?_)))))))
  replace b := b.ju (Db St)
  refine jZ (km ?_)
  obtain rfl := sj a
  exact rP b
 refine kS (V (jz mZ u) (VB b Mh rfl rfl bX (Wi rfl (ln (CI a rfl (fun U a => ?_) (fun U a => ?_))))))
 ·refine sg (Wh x (Wi rfl (Wa (ln ?_))))
  replace b := b.ju (Db St)
  refine jZ (km ?_)
  obtain rfl := sj a
  exact rP b
 refine kg (Wh x (V (jz qX u) (VB b Mh rfl rfl bX (Wi rfl (Wa (ln ?_))))))
 exact jZ (rQ a b)
theorem A4 : ∀ (n : Nat) (c : Formula) (a : Value) (g : Value) (j : List jq) (r : Bool) (w : World) (i : Sl jt 5 (hp w) a c.Kids) (k : Sl (Pl jA) 2 (hp w) g j) (_ : qo n c j = some r),
  jT false pg0 119 [(.agg #[(.int .i64 c.Op), (.int .i64 c.K), (.string c.jq.js), (.string c.jq.Word), a]), g] w (.bool r)
 | 0 => by intros; rename_i h; simp only [qo] at h; cases h
 | n + 1 => E3 (qo n) (A4 n)
theorem AL (k : kx) (D I P : Value) (A : List jr) (a2 : ByteArray) (r : List jr) (w : World) (g : Sl ko 15 (hp w) D k.jF) (H : Sl kQ 8 (hp w) I k.jP) (g2 : Sl (Pl jw) 9 (hp w) P A) (hm : uO k A a2 = some r) :
  kY false pg0 116 [(.agg #[(.string k.Name), D, I]), P, (.string a2)] w 52 jw 9 r := by
 refine sP 48 func116 rfl (fun d => sg ?_)
 obtain ⟨A1, c2, rfl⟩ := g.form
 let b8 : Value := (.slice A1 k.jF.length c2)
 obtain ⟨A3, c4, rfl⟩ := H.form
 let L := (C3 k.Name A1 k.jF.length c2 A3 k.jP.length c4)
 refine VE (kj d rfl (fun W6 q d => Wa (lr (Wm (bS hm fun r7 h0 hm => VE (oW d call183 (kY.lz (Ha P A _ _ (g2.mono (Pl.mono _) d.jB) h0)) (fun W9 h1 j8 j6 d Y ae g0 => Wm (bS hm fun f1 g3 hm => VE (oW d call182 (kY.lz (DB h1 r7 a2 _ _ (g0.sl pv (fun b o m => d.at_ (Ml m))) g3)) (fun j7 d5 f2 f0 d Z af g1 => Wa (ln ?_)))))))))))
 replace d := d.ju (Kr (Dr St))
 refine sg (Wa (lS (Wf xd (VB d (Ma Mh) rfl rfl gV (V (kJ dt rfl g) (Wm (ln (ku (fun i E W => ∃ z G B a4 O, (E 20 = .int .i64 (i : Nat) ∧ E 19 = .int .i64 (k.jF.length : Nat)) ∧ kf f2 a4 ∧ ST false kp w W a4 ((q, Ol L 25) :: (B ++ (f0 ++ O))) ∧ E 3 = (.pointer (some ⟨q, 0, none⟩)) ∧ E 7 = d5 ∧ E 8 = z ∧ E 18 = b8 ∧ jX 52 jw 9 z G B ∧ qF k f1 (k.jF.drop i) G = some r) k.jF.length g.len ⟨(.slice none 0 0), ([]), [], f2, _, ⟨rfl, rfl⟩, (kf.refl _), (d.ju (Sb (Pr Pz) St)), rfl, rfl, rfl, rfl, (jX.nil _ _ _), hm⟩ dc dc dc (fun _ _ _ h => by obtain ⟨_, _, _, _, _, aa, _⟩ := h; exact aa) ?_ ?_))))))))
 ·rintro d3 E W e1 ⟨z, G, B, a4, O, ⟨s, eN⟩, u, d, N, Q, T, U, J, j⟩
  obtain ⟨a, h2, e9, e8, b9⟩ := kc e1
  rw [e9] at j
  refine bg (VQ (lF (i := (d3 : Int)) (x0 := a) ko.out dt dn U s (g.mono kB.mono ((Y.trans Z).trans u)) (aG _) e8) (fun i4 ⟨_, ⟨i8, i9, rfl, e6, e7⟩, e2⟩ => V (jv rfl (jQ d.has e2 gw dn)) (VE (kh d eO (fun h4 c5 d => ?_)))))
  obtain ⟨a8, b2, rfl⟩ := e6.form
  obtain ⟨a9, b3, rfl⟩ := e7.form
  let a0 := (C2 a.Signed.jr.Kind a.Signed.jr.Head.js a.Signed.jr.Head.Word a.Signed.jr.kz a.Signed.jr.B.js a.Signed.jr.B.Word a.Signed.jr.C.js a.Signed.jr.C.Word a.Signed.jr.kK a8 a.Signed.Tag.length b2 a.jx.Op a.jx.K a.jx.jq.js a.jx.jq.Word a9 a.jx.Kids.length b3)
  refine VO (jL (.agg a0.toArray) (a0.toArray) d rfl rfl dn oc nb rfl (fun h5 d => lr (V (jv N (jy d.has (Mt Mh) L rfl cY cM)) (Wf uL (Wf ux (VA d Mh (jw a.Signed.jr) bU aM (bS j fun c e3 j => ?_)))))))
  let c6 : Value := (.string (((c.1).jq).Word))
  let c1 : Value := (.string (((c.1).jq).js))
  refine VE (eD d (bW _) call184 (fun hh => (LS k b8 (.slice A3 k.jP.length c4) a.Signed.jr _ _ hh (g.mono kB.mono ((Y.trans Z).trans u)) (H.mono mi.mono ((Y.trans Z).trans u)) e3)) ?_ (L0 := []))
  rintro _ j0 b6 h3 d a5 ab ⟨j4, a3, rfl, c0⟩
  obtain rfl := a3.symm
  refine Wm (Wx rfl (Wx rfl (VE (kh d aP (fun h7 i3 d => ?_)))))
  obtain ⟨K, M, rfl⟩ := c0.form
  let n : Value := (.slice K ((c.1).Kids).length M)
  refine VO (jL (.agg #[(.int .i64 ((c.1).Op)), (.int .i64 ((c.1).K)), c1, c6, n]) (#[(.int .i64 ((c.1).Op)), (.int .i64 ((c.1).K)), c1, c6, n]) d rfl rfl aC oc nb rfl (fun h8 d => Wa (lr (Wm (Wi rfl (Wm (LJ j (fun d4 E W => ∃ c3, ST false kp w W b6 ((c5, Ol a0 57) :: ((q, Ol L 25) :: (B ++ (f0 ++ c3)))) ∧ E 3 = (.pointer (some ⟨q, 0, none⟩)) ∧ E 7 = d5 ∧ E 8 = z ∧ E 10 = (.pointer (some ⟨c5, 0, none⟩)) ∧ E 18 = b8 ∧ E 19 = (.int .i64 (k.jF.length : Int)) ∧ E 20 = (.int .i64 (d3 : Int)) ∧ E 38 = (.bool d4)) 4 ?_ (fun d4 y a6 => ?_))))))))
  ·rintro j3 E W ⟨c3, d, c7, c8, c9, f8, d0, d1, d2, f9⟩ x
   refine ln (CI x f9 (fun d9 x => ?_) (fun d9 x => ?_))
   ·refine jG (Wh c9 (V (jz uL f8) (Wf ux (VA d Mh (jw a.Signed.jr) bU aM (VE (jW (cs := (jw a.Signed.jr).toArray) d (kX rfl) (lM aR aM cT) (fun h9 f7 d => ?_)))))))
    replace d := d.perm (Nr (Qb (Qb (Qb Qz))) Nz)
    refine bS x fun g4 e0 x => VE (mz (enc := jw) (v := z) (vs := (.slice (some ⟨f7, 0, none⟩) 1 1)) (R := B) d kC dc nw aR mT.1 mT.2.1 rfl mT.2.2.1 mT.2.2.2 rfl rfl J (Sl.lit (enc := jw) (l := [a.Signed.jr]) kC rfl nb rfl (d.at_ (Ma Mh))) e0 (fun i0 g7 f3 d d8 => Wa (jU (ke (jE ?_)))))
    replace d := d.ju (Kr (Db (Db St)))
    exact ⟨d2, g7, g4, f3, b6, _, ⟨rfl, d1⟩, (u.trans a5), (d.ju (Sb (Pr Pz) St)), c7, c8, rfl, d0, d8, (by rw [b9]; exact x)⟩
   refine kG (ke (jE ?_))
   replace d := d.ju (Db St)
   exact ⟨d2, z, G, B, b6, _, ⟨rfl, d1⟩, (u.trans a5), (d.ju St), c7, c8, c9, d0, J, (by rw [b9]; exact x)⟩
  refine bC y (fun t y => ?_) (fun t y => ?_)
  ·refine ug t (jv rfl (jy d.has Mh [(.int .i64 ((c.1).Op)), (.int .i64 ((c.1).K)), c1, c6, n] rfl aK aC)) (ug t (jC Q) (bS y fun i5 e4 y => rB t (Eg d call119 ((A4 jY) c.1 n d5 f1 _ _ (c0.mono jD.mono d.jB) (g1.sl wJ (fun b o m => d.at_ (Mt (Mt (Mt (Ma (Ml m))))))) e4) (fun i1 d => V (jM (cB t) rfl) ?_))))
   obtain rfl := sj y
   exact a6 _ _ ⟨_, (d.ju (Db St)), N, Q, T, rfl, U, eN, s, rfl⟩
  refine un t (un t (un t (V (jO (cB t) rfl) ?_)))
  obtain rfl := sj y
  exact a6 _ _ ⟨_, (d.ju (Db St)), N, Q, T, rfl, U, eN, s, rfl⟩
 rintro E W ⟨z, G, B, a4, O, ⟨s, eN⟩, u, d, N, Q, T, U, J, j⟩
 rw [aH] at j
 refine jE ?_
 replace d := d.ju (Db (Kr (Dr St)))
 refine sg (Wh T (bS j fun i6 e5 j => VE (oW d call84 (kY.lz (Ff z G _ _ (J.sl kC (fun b o m => d.at_ (Ml m))) e5)) (fun i2 g8 j5 f4 d g9 ad b7 => Wa (ln ?_)))))
 replace d := d.ju (Kr (Dr St))
 refine jZ ?_
 obtain rfl := sj j
 exact kO (v := g8) rfl rfl ⟨_, f4, rfl, d.mC (fun p m => (Ml m)) b7.nd, b7⟩
theorem Ey (t : Value) (y : List jr) (u : Value) (K : List jr) (r : Bool) (w : World) (c : Sl (Pl jw) 9 (hp w) t y) (z : Sl (Pl jw) 9 (hp w) u K) (hm : uB y K = some r) :
  jT true pg0 90 [t, u] w (.bool r) := by
 refine cG 26 func90 rfl (fun d => sg (Wa (lS (Wm (V (kJ aR rfl c) (Wm (V (kJ aR rfl z) (Wi rfl (jU ?_)))))))))
 refine jE (CI hm rfl (fun U hm => ?_) (fun U hm => ?_))
 ·refine sg (Wa (lt (km ?_)))
  obtain rfl := sj hm
  exact rP d
 refine kS (Wm (V (kJ aR rfl c) (Wm (ln (ku (fun i E W => ∃ g, (E 13 = .int .i64 (i : Nat) ∧ E 12 = .int .i64 (y.length : Nat)) ∧ ST true kp w W (hp w) g ∧ E 0 = t ∧ E 1 = u ∧ rZ K (y.drop i) i = some r) y.length c.len ⟨_, ⟨rfl, rfl⟩, (d.ju St), rfl, rfl, hm⟩ dc dc dc (fun _ _ _ h => by obtain ⟨_, m, _⟩ := h; exact m) ?_ ?_)))))
 ·rintro I E W M ⟨g, ⟨l, p⟩, d, j, k, a⟩
  obtain ⟨J, a3, Q, N, T⟩ := kc M
  rw [Q] at a
  refine bg (Wh l (Wa (ln (jI ?_))))
  replace d := d.drew
  have b := d.has.ju Sn
  refine ky b kd (X 0 rfl b (jC j) (X 1 rfl b (jC rfl) (XQ 2 rfl b (mQ (enc := jw) (i := (I : Int)) (x0 := J) aR aM rfl rfl c (aG _) N) (fun Y G => XH 3 rfl b (fun _ n => jv rfl (jQ n G bU aM)) (X 4 rfl b (jC k) (X 5 rfl b (jC rfl) (bS a fun B x a => XQ 6 rfl b (mQ (enc := jw) (i := (I : Int)) (x0 := B) aR aM rfl rfl z (kl x) (ki x)) (fun Z H => XH 7 rfl b (fun _ n => jv rfl (jQ n H bU aM)) (X 8 rfl b (E1 rfl rfl (nm eY) (Ax (wo _ J B))) (kM kr (jE (CI a rfl (fun D a => ?_) (fun D a => ?_)))))))))))))
  ·refine sg (Wa (lt (mn (km (mn (km ?_))))))
   obtain rfl := sj a
   exact rP d
  exact kG (ke (jE ⟨l, _, ⟨rfl, p⟩, (d.ju St), j, k, (by rw [T]; exact a)⟩))
 rintro E W ⟨g, ⟨l, p⟩, d, j, k, a⟩
 rw [aH] at a
 exact jE (sg (Wa (lt (rQ a d))))
theorem Ga (g : kx) (B J : Value) (i : kx) (D K : Value) (r : ((List jr) × (List jr) × Int)) (w : World) (x : Sl ko 15 (hp w) B g.jF) (H : Sl kQ 8 (hp w) J g.jP) (y : Sl ko 15 (hp w) D i.jF) (I : Sl kQ 8 (hp w) K i.jP) (hm : Ah g i = some r) :
  lH false pg0 45 [(.agg #[(.string g.Name), B, J]), (.agg #[(.string i.Name), D, K])] w [] (fun v L1 W' => ∃ y1 S2 y4 S5, v = (.tuple #[y1, y4, (.int .i64 (r.2.2))]) ∧ L1 = (S2 ++ (S5 ++ [])) ∧ jX 52 jw 9 y1 r.1 S2 ∧ jX 52 jw 9 y4 r.2.1 S5) := by
 refine sP 37 func45 rfl (fun d => sg ?_)
 obtain ⟨A1, c2, rfl⟩ := x.form
 obtain ⟨A3, c4, rfl⟩ := H.form
 let p := (C3 g.Name A1 g.jF.length c2 A3 g.jP.length c4)
 refine VE (kj d rfl (fun W6 n d => ?_))
 obtain ⟨A7, c8, rfl⟩ := y.form
 obtain ⟨A9, O, rfl⟩ := I.form
 let a0 := (C3 i.Name A7 i.jF.length c8 A9 i.jP.length O)
 refine VE (kj d rfl (fun g4 l d => Wa (Wa (Wa (lr (Wa (Wa (lr (Wa ?_)))))))))
 refine ln (rb (lA (nc (fun m E W => ∃ t T M u U N G s c0, kf (hp w) s ∧ ST false kp w W s ((l, Ol a0 25) :: ((n, Ol p 25) :: (N ++ (M ++ c0)))) ∧ E 2 = (.pointer (some ⟨n, 0, none⟩)) ∧ E 3 = (.pointer (some ⟨l, 0, none⟩)) ∧ E 7 = t ∧ E 8 = u ∧ E 9 = (.int .i64 G) ∧ jX 52 jw 9 t T M ∧ jX 52 jw 9 u U N ∧ so g i m T U G = some r) jY ⟨(.slice none 0 0), ([]), [], (.slice none 0 0), ([]), [], 0, (hp w), _, (kf.refl _), (d.ju St), rfl, rfl, rfl, rfl, rfl, (jX.nil _ _ _), (jX.nil _ _ _), hm⟩ ?_)))
 rintro m E W ⟨t, T, M, u, U, N, G, s, c0, k, d, Y, Z, a2, a3, d0, a4, a5, a⟩
 cases m with
 | zero => rw [so] at a; cases a
 | succ f0 =>
  refine bg (V (jv Y (jy d.has (Mt Mh) p rfl cY cM)) (Wh a3 (V (jz yu Z) (VB d Mh rfl rfl bT (bS a fun d3 d9 a => VE (oW d call116 (AL g (.slice A1 g.jF.length c2) (.slice A3 g.jP.length c4) u U i.Name _ _ (x.mono kB.mono (k.trans d.jB)) (H.mono mi.mono (k.trans d.jB)) (a5.sl kC (fun b o h => d.at_ (Mt (Mt (Ml h))))) d9) (fun f6 q g3 c3 d Q A R => Wa (lr (V (jv Z (jy d.has (Ma Mh) a0 rfl cY cM)) ?_)))))))))
  refine Wh a2 (V (jz yu Y) (VB d (Ma (Mt Mh)) rfl rfl bT (bS a fun d4 e0 a => VE (oW d call116 (AL i (.slice A7 i.jF.length c8) (.slice A9 i.jP.length O) t T g.Name _ _ (y.mono kB.mono ((k.trans Q).trans d.jB)) (I.mono mi.mono ((k.trans Q).trans d.jB)) (a4.sl kC (fun b o h => d.at_ (Ma (Mt (Mt (Ma (Ml h))))))) e0) (fun f7 a9 d6 c5 d d2 L b3 => Wa (lS (Wm (Wh a2 (bS a fun g0 e1 a => VE (Eg d call90 (jT.lz (Ey q d3 t T _ _ (R.sl kC (fun b o h => d.at_ (Ma (Ml h)))) (a4.sl kC (fun b o h => d.at_ (Ma (Ma (Mt (Mt (Ma (Ml h)))))))) e1)) (fun f8 d => ?_)))))))))))
  refine Wm (LJ a (fun d5 E W => ∃ c1, ST false kp w W d6 ((l, Ol a0 25) :: ((n, Ol p 25) :: (c5 ++ (c3 ++ (N ++ (M ++ c1)))))) ∧ E 2 = (.pointer (some ⟨n, 0, none⟩)) ∧ E 3 = (.pointer (some ⟨l, 0, none⟩)) ∧ E 7 = t ∧ E 8 = u ∧ E 9 = (.int .i64 G) ∧ E 10 = q ∧ E 11 = a9 ∧ E 29 = (.bool d5)) 4 ?_ (fun d5 j P => ?_))
  ·rintro g2 E W ⟨c1, d, e3, e4, e5, e6, d1, e7, e8, e9⟩ z
   refine ln (CI z e9 (fun d8 z => ?_) (fun d8 z => ?_))
   ·refine sg (Wh e5 (Wh e6 (Wh d1 (Wa (Wa (Wa (ln ?_)))))))
    replace d := d.ju (Db (Db (Dr (Dr St))))
    refine jZ (km (mn (km (mn (km ?_)))))
    obtain rfl := sj z
    exact J6 (v0 := t) (v1 := u) (v2 := (.int .i64 G)) rfl rfl rfl rfl ⟨_, _, rfl, (d.K7 (Sr (Qr Qz) (Kr Sn))), t, M, u, N, rfl, rfl, a4, a5⟩
   refine kn ?_
   replace d := d.ju (Kb (Kb (Kr (Kr (Dr (Dr St))))))
   refine sg (Wh e7 (Wa (lr (Wh e8 (Wa (ln (jG (Wh d1 (Wi rfl ?_)))))))))
   exact Wa (jU (ke (jE ⟨f0, bI _, q, d3, c3, a9, d4, c5, (wi0 .i64 (G + 1)), d6, _, ((k.trans Q).trans d2), (d.ju St), e3, e4, rfl, rfl, rfl, R, b3, z⟩)))
  refine bC j (fun c j => ?_) (fun c j => ?_)
  ·refine ug c (jC rfl) (ug c (jC a3) (bS j fun g1 e2 j => rB c (Eg d call90 (jT.lz (Ey a9 d4 u U _ _ (b3.sl kC (fun b o h => d.at_ (Ml h))) (a5.sl kC (fun b o h => d.at_ (Ma (Ma (Mt (Mt (Ml h))))))) e2)) (fun f9 d => V (jM (cB c) rfl) ?_))))
   obtain rfl := sj j
   exact P _ _ ⟨_, (d.ju (Sb (Pr (Pr Pz)) (Sb (Pr (Pr Pz)) St))), Y, Z, a2, a3, d0, rfl, rfl, rfl⟩
  refine un c (un c (un c (V (jO (cB c) rfl) ?_)))
  obtain rfl := sj j
  exact P _ _ ⟨_, (d.ju (Sb (Pr (Pr Pz)) (Sb (Pr (Pr Pz)) St))), Y, Z, a2, a3, d0, rfl, rfl, rfl⟩
theorem Fc (y : kx) (j u : Value) (r : List jr) (w : World) (c : Sl ko 15 (hp w) j y.jF) (B : Sl kQ 8 (hp w) u y.jP) (hm : xn y = some r) :
  kY true pg0 117 [(.agg #[(.string y.Name), j, u])] w 52 jw 9 r := by
 refine sP 21 func117 rfl (fun b => sg ?_)
 obtain ⟨A1, c2, rfl⟩ := c.form
 obtain ⟨A3, c4, rfl⟩ := B.form
 refine VE (kj b rfl (fun W6 b5 b => Wa (lr (Wa (lS (Wf xd (VB b Mh rfl rfl gV (V (kJ dt rfl c) ?_))))))))
 refine Wm (ln ?_)
 replace b := b.ju (Db St)
 refine ku (fun i E W => ∃ t z k D, (E 9 = .int .i64 (i : Nat) ∧ E 8 = .int .i64 (y.jF.length : Nat)) ∧ ST true kp w W (hp w) (k ++ D) ∧ E 3 = t ∧ E 7 = (.slice A1 y.jF.length c2) ∧ jX 52 jw 9 t z k ∧ sT (y.jF.drop i) z = some r) y.jF.length c.len ⟨(.slice none 0 0), ([]), [], _, ⟨rfl, rfl⟩, (b.ju St), rfl, rfl, (jX.nil _ _ _), hm⟩ dc dc dc (fun _ _ _ h => by obtain ⟨_, _, _, _, m, _⟩ := h; exact m) ?_ ?_
 ·rintro L E W T ⟨t, z, k, D, ⟨d, n⟩, b, G, H, x, g⟩
  obtain ⟨a, c5, a4, a3, a5⟩ := kc T
  rw [a4] at g
  refine bg (VQ (lF (i := (L : Int)) (x0 := a) ko.out dt dn H d c (aG _) a3) (fun c0 ⟨_, ⟨c1, c3, rfl, Y, Z⟩, U⟩ => V (jv rfl (jQ b.has U gw dn)) (VE (kh b eO (fun P b7 b => ?_)))))
  obtain ⟨I, K, rfl⟩ := Y.form
  obtain ⟨J, M, rfl⟩ := Z.form
  let a0 := (C2 a.Signed.jr.Kind a.Signed.jr.Head.js a.Signed.jr.Head.Word a.Signed.jr.kz a.Signed.jr.B.js a.Signed.jr.B.Word a.Signed.jr.C.js a.Signed.jr.C.Word a.Signed.jr.kK I a.Signed.Tag.length K a.jx.Op a.jx.K a.jx.jq.js a.jx.jq.Word J a.jx.Kids.length M)
  refine VO (jL (.agg a0.toArray) (a0.toArray) b rfl rfl dn oc nb rfl (fun b3 b => ln (jG (Wh G (Wf uL (Wf ux (VA b Mh (jw a.Signed.jr) bU aM (VE (jW (cs := (jw a.Signed.jr).toArray) b (kX rfl) (lM aR aM cT) (fun b4 a2 b => ?_))))))))))
  replace b := b.perm (Nr (Qb (Qb Qz)) Nz)
  refine bS g fun s Q g => VE (mz (enc := jw) (v := t) (vs := (.slice (some ⟨a2, 0, none⟩) 1 1)) (R := k) b kC dc nw aR mT.1 mT.2.1 rfl mT.2.2.1 mT.2.2.2 rfl rfl x (Sl.lit (enc := jw) (l := [a.Signed.jr]) kC rfl nb rfl (b.at_ (Ma Mh))) Q (fun b6 A q b N => Wa (jU (ke (jE ?_)))))
  replace b := b.ju (Kr (Db (Db St)))
  exact ⟨d, A, s, q, _, ⟨rfl, n⟩, (b.ju St), rfl, H, N, (by rw [a5]; exact g)⟩
 rintro E W ⟨t, z, k, D, ⟨d, n⟩, b, G, H, x, g⟩
 rw [aH] at g
 refine jE (sg (Wh G (Wa (lt ?_))))
 obtain rfl := sj g
 exact kO (v := t) rfl rfl ⟨_, k, rfl, b.mC (fun p O => (Ml O)) x.nd, x⟩
set_option maxHeartbeats 4000000 in
theorem Fy (z : Int) (j : kx) (b7 c9 : Value) (a2 : kx) (b9 d0 g1 : Value) (a3 : List jr) (r : List jV) (w : World) (t : Sl ko 15 (hp w) b7 j.jF) (x : Sl kQ 8 (hp w) c9 j.jP) (b1 : Sl ko 15 (hp w) b9 a2.jF) (c7 : Sl kQ 8 (hp w) d0 a2.jP) (p9 : Sl (Pl jw) 9 (hp w) g1 a3) (hm : zi z j a2 a3 = some r) :
  kY false pg0 46 [(.int .i64 z), (.agg #[(.string j.Name), b7, c9]), (.agg #[(.string a2.Name), b9, d0]), g1] w 40 jN 3 r := by
 let e3 : Value := (.int .i64 (j.jP.length : Int))
 refine sP 90 func46 rfl (fun d => sg ?_)
 obtain ⟨A1, c2, rfl⟩ := t.form
 let g6 : Value := (.slice A1 j.jF.length c2)
 obtain ⟨A3, c4, rfl⟩ := x.form
 let a7 : Value := (.slice A3 j.jP.length c4)
 let L := (C3 j.Name A1 j.jF.length c2 A3 j.jP.length c4)
 refine VE (kj d rfl (fun W6 O d => ?_))
 obtain ⟨A7, c8, rfl⟩ := b1.form
 obtain ⟨A9, i5, rfl⟩ := c7.form
 refine VE (kj d rfl (fun u7 v0 d => Wa (lr (Wa (ln (jI ?_))))))
 replace d := d.drew
 have m := d.has.ju (Kb (Kb Sn))
 refine ky m kd (XH 0 rfl m (fun _ A => jv rfl (jy A (Mt Mh) L rfl cY cM)) (XH 1 rfl m (fun _ A => jv rfl (jy A Mh (C3 a2.Name A7 a2.jF.length c8 A9 a2.jP.length i5) rfl cY cM)) (X 3 rfl m (jz yu rfl) (XH 4 rfl m (fun _ A => jv rfl (jK A Mh rfl bT)) (bS hm fun q8 q0 hm => XE 2 rfl (oW d call117 (kY.lz (Fc a2 (.slice A7 a2.jF.length c8) (.slice A9 a2.jP.length i5) _ _ (b1.mono kB.mono d.jB) (c7.mono mi.mono d.jB) q0)) (fun u8 q9 v1 u6 d I ab p7 => ?_)))))))
 have m := d.has.ox I (Dr (Kb (Kb Sn)))
 refine ⟨m, (bS hm fun o8 q1 hm => XE 5 rfl (oW d call116 (AL j g6 a7 q9 q8 a2.Name _ _ (t.mono kB.mono (I.trans d.jB)) (x.mono mi.mono (I.trans d.jB)) (p7.sl kC (fun b o P => d.at_ (Ml P))) q1) (fun u9 o9 i2 q7 d a4 ad p8 => ?_)))⟩
 have m := d.has.ox (I.trans a4) (Dr (Dr (Kb (Kb Sn))))
 refine ⟨m, (X 6 rfl m (lO rfl) (kM kr (jE ?_)))⟩
 replace d := d.ju (Kr (Dr (Db St)))
 refine jI (sg (Wf xd (VB d (Ma Mh) rfl rfl gV (V (kJ dt rfl t) (Wm (ln (ku (fun i E W => ∃ Z c6 Y g7, (E 27 = .int .i64 (i : Nat) ∧ E 26 = .int .i64 (j.jF.length : Nat)) ∧ ST false kp w W i2 ((O, Ol L 25) :: (Y ++ (q7 ++ g7))) ∧ E 0 = (.int .i64 z) ∧ E 3 = g1 ∧ E 5 = (.pointer (some ⟨O, 0, none⟩)) ∧ E 9 = Z ∧ E 10 = o9 ∧ E 25 = g6 ∧ jX 40 jN 3 Z c6 Y ∧ pX o8 z a3 j (j.jF.drop i) i c6 = some r) j.jF.length t.len ⟨(.slice none 0 0), ([]), [], _, ⟨rfl, rfl⟩, (d.ju (Sb (Pr Pz) St)), rfl, rfl, rfl, rfl, rfl, rfl, (jX.nil _ _ _), hm⟩ dc dc dc (fun _ _ _ h => by obtain ⟨_, _, _, _, q, _⟩ := h; exact q) ?_ ?_)))))))
 ·rintro D E W n4 ⟨Z, c6, Y, g7, ⟨n, s⟩, d, a5, e5, c3, e6, e7, e8, b2, c⟩
  let e9 := (⟨1, z, (D : Int)⟩ : jV)
  let e4 := (⟨2, z, (D : Int)⟩ : jV)
  obtain ⟨a, t1, o1, o0, f8⟩ := kc n4
  rw [o1] at c
  refine bg (Wh n (VQ (lF (i := (D : Int)) (x0 := a) ko.out dt dn e8 n (t.mono kB.mono (I.trans a4)) (aG _) o0) (fun u1 ⟨_, ⟨u4, u5, rfl, n8, n9⟩, n5⟩ => V (jv rfl (jQ d.has n5 gw dn)) (VE (kh d eO (fun t2 u0 d => Wa ?_))))))
  obtain ⟨i3, i6, rfl⟩ := n8.form
  obtain ⟨i4, i7, rfl⟩ := n9.form
  let a0 := (C2 a.Signed.jr.Kind a.Signed.jr.Head.js a.Signed.jr.Head.Word a.Signed.jr.kz a.Signed.jr.B.js a.Signed.jr.B.Word a.Signed.jr.C.js a.Signed.jr.C.Word a.Signed.jr.kK i3 a.Signed.Tag.length i6 a.jx.Op a.jx.K a.jx.jq.js a.jx.jq.Word i4 a.jx.Kids.length i7)
  refine VO (jL (.agg a0.toArray) (a0.toArray) d rfl rfl dn oc nb rfl (fun t3 d => lr (Wh e7 (Wf uL (Wf ux (VA d Mh (jw a.Signed.jr) bU aM (bS c fun u2 n6 c => VE (Eg d call18 (jT.lz (zh o9 o8 a.Signed.jr _ _ (p8.sl kC (fun b o P => d.at_ (Mt (Mt (Ma (Ml P)))))) n6)) (fun t4 d => V (nj rfl) (ln (CI c rfl (fun n0 c => ?_) (fun n0 c => ?_))))))))))))
  ·refine jG (Wh e6 (Wh a5 (Wm (V (lC (v := (.agg (jN (e4)).toArray)) (xv rfl rfl rfl) (kI dl cL (BT _ cL) kr)) (VE (jW (cs := (jN (e4)).toArray) d (kX rfl) (lM bN dG dl) (fun t5 p4 d => ?_)))))))
   replace d := d.perm (Nr (Qb (Qb (Qb Qz))) Nz)
   refine bS c fun q2 n1 c => VE (mz (enc := jN) (v := Z) (vs := (.slice (some ⟨p4, 0, none⟩) 1 1)) (R := Y) d lh dc oY bN mr.1 mr.2.1 rfl mr.2.2.1 mr.2.2.2 rfl rfl b2 (Sl.lit (enc := jN) (l := [e4]) lh rfl nb rfl (d.at_ (Ma Mh))) n1 (fun t6 q4 p2 d m8 => Wa (jU (ke (jE ?_)))))
   replace d := d.ju (Kr (Db (Db St)))
   exact ⟨n, q4, q2, p2, _, ⟨rfl, s⟩, (d.ju (Sb (Pr Pz) St)), a5, e5, c3, rfl, e7, e8, m8, (by rw [f8]; exact c)⟩
  refine sg (Wh e5 (Wf uL (Wf ux (VA d Mh (jw a.Signed.jr) bU aM (bS c fun u3 n7 c => VE (Eg d call18 (jT.lz (zh g1 a3 a.Signed.jr _ _ (p9.mono (Pl.mono _) ((I.trans a4).trans d.jB)) n7)) (fun t7 d => V (nj rfl) (ln ?_))))))))
  replace d := d.ju (Db St)
  refine CI c rfl (fun n2 c => ?_) (fun n2 c => ?_)
  ·refine jG (Wh e6 (Wh a5 (Wm (V (lC (v := (.agg (jN (e9)).toArray)) (xv rfl rfl rfl) (kI dl cL (BT _ cL) kr)) (VE (jW (cs := (jN (e9)).toArray) d (kX rfl) (lM bN dG dl) (fun t8 p5 d => ?_)))))))
   replace d := d.perm (Nr (Qb (Qb Qz)) Nz)
   refine bS c fun q3 n3 c => VE (mz (enc := jN) (v := Z) (vs := (.slice (some ⟨p5, 0, none⟩) 1 1)) (R := Y) d lh dc oY bN mr.1 mr.2.1 rfl mr.2.2.1 mr.2.2.2 rfl rfl b2 (Sl.lit (enc := jN) (l := [e9]) lh rfl nb rfl (d.at_ (Ma Mh))) n3 (fun t9 q5 p3 d m9 => Wa (jU (ke (jE ?_)))))
   replace d := d.ju (Kr (Db St))
   exact ⟨n, q5, q3, p3, _, ⟨rfl, s⟩, (d.ju (Sb (Pr Pz) St)), a5, e5, c3, rfl, e7, e8, m9, (by rw [f8]; exact c)⟩
  exact kG (ke (jE ⟨n, Z, c6, Y, _, ⟨rfl, s⟩, (d.ju St), a5, e5, c3, e6, e7, e8, b2, (by rw [f8]; exact c)⟩))
 rintro E W ⟨Z, c6, Y, g7, ⟨n, s⟩, d, a5, e5, c3, e6, e7, e8, b2, c⟩
 rw [aH] at c
 refine jE ?_
 replace d := d.ju (Kb (Kr (Dr St)))
 refine jI (sg (V (jz Ef c3) (VB d Mh rfl rfl isAgg23 (V (kJ cX rfl x) (Wm (ln (CJ c (fun f9 E W => ∃ e1 d2 g2 g9, kf i2 g2 ∧ ST false kp w W g2 (d2 ++ g9) ∧ E 9 = e1 ∧ jX 40 jN 3 e1 f9 d2) (fun f9 j7 => ?_) ?_)))))))
 ·let b8 : Value := (.pointer (some ⟨O, 0, none⟩))
  refine ku (fun i E W => ∃ H b6 G Q f3, (E 60 = .int .i64 (i : Nat) ∧ E 59 = .int .i64 (j.jP.length : Nat)) ∧ kf i2 Q ∧ ST false kp w W Q ((O, Ol L 25) :: (G ++ f3)) ∧ E 0 = (.int .i64 z) ∧ E 5 = b8 ∧ E 9 = H ∧ E 58 = a7 ∧ jX 40 jN 3 H b6 G ∧ rn j z (j.jP.drop i) i b6 = some f9) j.jP.length x.len ⟨Z, c6, Y, i2, _, ⟨rfl, rfl⟩, (kf.refl _), (d.ju St), a5, c3, e6, rfl, b2, j7⟩ dc dc dc (fun _ _ _ h => by obtain ⟨_, _, _, _, _, q, _⟩ := h; exact q) ?_ ?_
  ·rintro u E W j4 ⟨H, b6, G, Q, f3, ⟨n, s⟩, B, d, h3, h4, f5, f6, b3, K⟩
   let g5 := (⟨3, z, (u : Int)⟩ : jV)
   let a8 : Value := (.int .i64 (u : Int))
   obtain ⟨g, r1, k6, k5, g4⟩ := kc j4
   rw [k6] at K
   refine bg (Wh n (VQ (lF (i := (u : Int)) (x0 := g) kQ.out cX dv f6 n (x.mono mi.mono ((I.trans a4).trans B)) (aG _) k5) (fun s5 ⟨_, ⟨s8, s9, rfl, k4, b4⟩, k0⟩ => V (jv rfl (jQ d.has k0 gK dv)) (VE (kh d fp (fun r4 s2 d => Wa ?_))))))
   obtain ⟨g8, h2, rfl⟩ := k4.form
   obtain ⟨d1, d3, rfl⟩ := b4.form
   let a6 := (C6 g.jq.js g.jq.Word g.jx.Op g.jx.K g.jx.jq.js g.jx.jq.Word g8 g.jx.Kids.length h2 d1 g.lj.length d3)
   refine VO (jL (.agg a6.toArray) (a6.toArray) d rfl rfl dv oc nb rfl (fun r5 d => lr (Wa (lS (Wf Cq (VB d Mh rfl rfl iZ (V (kJ aR rfl b4) (Wm ?_))))))))
   refine ln ?_
   replace d := d.ju (Db St)
   refine CJ K (fun g0 E W => ∃ c1 h0, kf Q c1 ∧ ST false kp w W c1 ((O, Ol L 25) :: (G ++ h0)) ∧ E 0 = (.int .i64 z) ∧ E 5 = b8 ∧ E 9 = H ∧ E 13 = a8 ∧ E 15 = (.bool g0) ∧ E 58 = a7 ∧ E 59 = e3 ∧ E 60 = a8) (fun g0 j8 => ?_) ?_
   ·refine ku (fun i E W => ∃ c0 U f4, (E 68 = .int .i64 (i : Nat) ∧ E 67 = .int .i64 (g.lj.length : Nat)) ∧ kf Q U ∧ ST false kp w W U ((O, Ol L 25) :: (G ++ f4)) ∧ E 0 = (.int .i64 z) ∧ E 5 = b8 ∧ E 9 = H ∧ E 13 = a8 ∧ E 15 = (.bool c0) ∧ E 58 = a7 ∧ E 59 = e3 ∧ E 60 = a8 ∧ E 66 = (.slice d1 g.lj.length d3) ∧ sU j (g.lj.drop i) c0 = some g0) g.lj.length b4.len ⟨true, Q, _, ⟨rfl, rfl⟩, (kf.refl _), (d.ju St), h3, h4, f5, rfl, rfl, f6, s, n, rfl, j8⟩ dc dc dc (fun _ _ _ h => by obtain ⟨_, _, _, q, _⟩ := h; exact q) ?_ ?_
    ·rintro i0 E W j5 ⟨c0, U, f4, ⟨n, s⟩, J, d, d4, a9, d5, d6, b0, d7, d8, d9, e0, N⟩
     obtain ⟨T, r2, k8, k7, k9⟩ := kc j5
     rw [k8] at N
     refine bg (VQ (mQ (enc := jw) (i := (i0 : Int)) (x0 := T) aR aM e0 n (b4.mono (Pl.mono _) J) (aG _) k7) (fun s6 k1 => V (jv rfl (jQ d.has k1 bU aM)) (VE (kh d cT (fun r8 l3 d => VO (jL (.agg (jw T).toArray) ((jw T).toArray) d rfl rfl aM (nw T) nb rfl (fun r9 d => ln ?_)))))))
     replace d := d.drew
     have m := d.has.ju (Kb (Kb Sn))
     refine ky m kd (X 0 rfl m (jC b0) (X 1 rfl m (jC rfl) (PJ N (fun i1 E W => ∃ e2 h1, kf U e2 ∧ ST false kp w W e2 ((l3, Ol (jw T) 52) :: ((O, Ol L 25) :: (G ++ h1))) ∧ E 0 = (.int .i64 z) ∧ E 5 = b8 ∧ E 9 = H ∧ E 13 = a8 ∧ E 15 = (.bool c0) ∧ E 58 = a7 ∧ E 59 = e3 ∧ E 60 = a8 ∧ E 66 = (.slice d1 g.lj.length d3) ∧ E 67 = (.int .i64 (g.lj.length : Int)) ∧ E 68 = (.int .i64 (i0 : Int)) ∧ E 79 = (.bool i1)) (bm 9 255) 1 ?_ (fun i1 y f2 => ?_))))
     ·rintro o6 E W ⟨e2, h1, f1, d, l7, l8, l9, m0, s3, m1, m2, m3, m4, m5, m6, m7⟩ j9
      have m := d.has.ox f1 (Kb (Kb Sn))
      refine X 8 rfl m (lO m7) (kM kr (ke (jE ?_)))
      replace d := d.ju (Db St)
      exact ⟨m6, o6, e2, _, ⟨rfl, m5⟩, (J.trans f1), (d.ju St), l7, l8, l9, m0, rfl, m1, m2, m3, m4, (by rw [k9]; exact j9)⟩
     refine bC y (fun k y => ?_) (fun k y => ?_)
     ·refine su 2 rfl rfl (cB k) m (fun _ A => jv a9 (jy A (Mt Mh) L rfl cY cM)) (su 4 rfl rfl (cB k) m (fun _ A => jv rfl (jy A Mh (jw T) rfl bU aM)) (bS y fun o3 k2 y => Ac 3 rfl rfl (cB k) (oW d call117 (kY.lz (Fc j g6 a7 _ _ (t.mono kB.mono ((((I.trans a4).trans B).trans J).trans d.jB)) (x.mono mi.mono ((((I.trans a4).trans B).trans J).trans d.jB)) k2)) (fun s0 o5 o7 r3 d c5 aa i9 => ?_))))
      have m := d.has.ox c5 (Dr (Kb (Kb Sn)))
      refine ⟨m, (bS y fun s7 k3 y => Ac 5 rfl rfl (cB k) (Eg d call18 (jT.lz (zh o5 o3 T _ _ (i9.sl kC (fun b o P => d.at_ (Ml P))) k3)) (fun s1 d => ?_)))⟩
      have m := d.has.ox c5 (Dr (Kb (Kb Sn)))
      refine ⟨m, (Xg 6 rfl rfl (cB k) m (nj rfl) (X 7 rfl m (jM (cB k) rfl) ?_))⟩
      obtain rfl := sj y
      refine mX kr (f2 _ _ ⟨o7, _, c5, (d.ju (Dr St)), d4, a9, d5, d6, b0, d7, d8, d9, e0, s, n, rfl⟩)
     refine Xn 2 rfl rfl (cB k) m (Xn 3 rfl rfl (cB k) m (Xn 4 rfl rfl (cB k) m (Xn 5 rfl rfl (cB k) m (Xn 6 rfl rfl (cB k) m (X 7 rfl m (jO (cB k) rfl) ?_)))))
     obtain rfl := sj y
     refine mX kr (f2 _ _ ⟨U, _, (kf.refl _), (d.ju St), d4, a9, d5, d6, b0, d7, d8, d9, e0, s, n, rfl⟩)
    rintro E W ⟨c0, U, f4, ⟨n, s⟩, J, d, d4, a9, d5, d6, b0, d7, d8, d9, e0, N⟩
    rw [aH] at N
    refine jE ?_
    obtain rfl := sj N
    exact ⟨U, _, J, (d.ju St), d4, a9, d5, d6, b0, d7, d8, d9⟩
   rintro t0 E W ⟨c1, h0, f0, d, f7, h5, h6, l5, l6, h7, h8, h9⟩ M
   refine sg (Wh l6 (ln (CI M rfl (fun j0 M => ?_) (fun j0 M => ?_))))
   ·refine jG (Wh h6 (Wh f7 (Wh l5 (V (lC (v := (.agg (jN (g5)).toArray)) (xv rfl rfl rfl) (kI dl cL (BT _ cL) kr)) (VE (jW (cs := (jN (g5)).toArray) d (kX rfl) (lM bN dG dl) (fun r6 l2 d => ?_)))))))
    replace d := d.perm (Nr (Qb (Qb Qz)) Nz)
    refine bS M fun o2 j3 M => VE (mz (enc := jN) (v := H) (vs := (.slice (some ⟨l2, 0, none⟩) 1 1)) (R := G) d lh dc oY bN mr.1 mr.2.1 rfl mr.2.2.1 mr.2.2.2 rfl rfl b3 (Sl.lit (enc := jN) (l := [g5]) lh rfl nb rfl (d.at_ (Ma Mh))) j3 (fun r7 o4 l0 d i8 => Wa (jU (ke (jE ?_)))))
    replace d := d.ju (Kr (Db St))
    exact ⟨h9, o4, o2, l0, c1, _, ⟨rfl, h8⟩, (B.trans f0), (d.ju (Sb (Pr Pz) St)), f7, h5, rfl, h7, i8, (by rw [g4]; exact M)⟩
   exact kG (ke (jE ⟨h9, H, b6, G, c1, _, ⟨rfl, h8⟩, (B.trans f0), (d.ju St), f7, h5, h6, h7, b3, (by rw [g4]; exact M)⟩))
  rintro E W ⟨H, b6, G, Q, f3, ⟨n, s⟩, B, d, h3, h4, f5, f6, b3, K⟩
  rw [aH] at K
  refine jE ?_
  obtain rfl := sj K
  exact ⟨H, G, Q, _, B, (d.ju (Db St)), f5, b3⟩
 rintro s4 E W ⟨e1, d2, g2, g9, q6, d, l4, g3⟩ j6
 refine sg (Wh l4 (Wa (lt ?_)))
 obtain rfl := sj j6
 exact kO (v := e1) rfl rfl ⟨_, d2, rfl, d.mC (fun p P => (Ml P)) g3.nd, g3⟩
theorem Ir (k : kx) (i x : Value) (a : kx) (j y : Value) (r : List jq) (w : World) (c : Sl ko 15 (hp w) i k.jF) (t : Sl kQ 8 (hp w) x k.jP) (g : Sl ko 15 (hp w) j a.jF) (u : Sl kQ 8 (hp w) y a.jP) (hm : zT k a = some r) :
  kY false pg0 120 [(.agg #[(.string k.Name), i, x]), (.agg #[(.string a.Name), j, y])] w 27 jA 2 r := by
 refine sP 20 func120 rfl (fun d => sg ?_)
 obtain ⟨I, N, rfl⟩ := c.form
 obtain ⟨J, Q, rfl⟩ := t.form
 refine VE (kj d rfl (fun W6 b5 d => ?_))
 obtain ⟨K, T, rfl⟩ := g.form
 obtain ⟨M, D, rfl⟩ := u.form
 refine VE (kj d rfl (fun b9 c5 d => Wa (lr (VA d (Mt Mh) (C3 k.Name I k.jF.length N J k.jP.length Q) cY cM (VA d Mh (C3 a.Name K a.jF.length T M a.jP.length D) cY cM (bS hm fun A Z hm => ?_))))))
 refine VE (Fo d (bW _) call45 (fun _ _ _ _ => (Ga k (.slice I k.jF.length N) (.slice J k.jP.length Q) a (.slice K a.jF.length T) (.slice M a.jP.length D) _ _ (c.mono kB.mono d.jB) (t.mono mi.mono d.jB) (g.mono kB.mono d.jB) (u.mono mi.mono d.jB) Z)) (fun c0 c7 d0 b3 d R n m U => ?_) (L0 := []))
 obtain ⟨c9, b6, O, b7, z, rfl, W, a4⟩ := U
 replace z := z.symm; subst z
 replace d := d.perm (Tr (Tr Tn))
 refine Wm (Wx rfl (Wx rfl (Wx rfl (Wa (Wa (Wa (ln ?_)))))))
 replace d := d.ju (Dr (Kr (Kb (Db St))))
 refine jI ?_
 replace d := d.drew
 have h := d.has.ju (Dr (Kb Sn))
 refine ky h kd (X 0 rfl h (jC rfl) (X 2 rfl h (jz yu rfl) (XH 3 rfl h (fun _ P => jv rfl (jK P Mh rfl bT)) (bS hm fun E a2 hm => XE 1 rfl (oW d call183 (kY.lz (Ha O A.2.1 _ _ (a4.sl kC (fun b o l => d.at_ (Ml l))) a2)) (fun c1 L d1 b4 d B q Y => ?_))))))
 have h := d.has.ox B (Dr (Dr (Kb Sn)))
 refine ⟨h, (bS hm fun c6 a3 hm => XE 4 rfl (oW d call182 (kY.lz (DB L E a.Name _ _ (Y.sl pv (fun b o l => d.at_ (Ml l))) a3)) (fun c3 a9 d2 a5 d H s G => ?_)))⟩
 have h := d.has.ox (B.trans H) (Dr (Dr (Dr (Kb Sn))))
 refine ⟨h, (X 5 rfl h (lO rfl) (kM kr (jE ?_)))⟩
 replace d := d.ju (Kr (Dr (Dr (Db St))))
 refine jZ ?_
 obtain rfl := sj hm
 exact kO (v := a9) rfl rfl ⟨_, a5, rfl, d.mC (fun p l => (Ml l)) G.nd, G⟩
theorem HJ (j : kx) (y G : Value) (k : kx) (z H : Value) (a : Formula) (I : Value) (r : Bool) (w : World) (t : Sl ko 15 (hp w) y j.jF) (B : Sl kQ 8 (hp w) G j.jP) (u : Sl ko 15 (hp w) z k.jF) (D : Sl kQ 8 (hp w) H k.jP) (i : Sl jt 5 (hp w) I a.Kids) (hm : wG j k a = some r) :
  jT false pg0 48 [(.agg #[(.string j.Name), y, G]), (.agg #[(.string k.Name), z, H]), (.agg #[(.int .i64 a.Op), (.int .i64 a.K), (.string a.jq.js), (.string a.jq.Word), I])] w (.bool r) := by
 refine cG 16 func48 rfl (fun d => sg ?_)
 obtain ⟨Z, c2, rfl⟩ := t.form
 obtain ⟨A3, p, rfl⟩ := B.form
 let a2 := (C3 j.Name Z j.jF.length c2 A3 j.jP.length p)
 refine VE (kj d rfl (fun W6 P d => ?_))
 obtain ⟨A7, q, rfl⟩ := u.form
 obtain ⟨A9, Q, rfl⟩ := D.form
 let n := (C3 k.Name A7 k.jF.length q A9 k.jP.length Q)
 refine VE (kj d rfl (fun d2 c0 d => ?_))
 obtain ⟨J, K, rfl⟩ := i.form
 let a0 := (C1 a.Op a.K a.jq.js a.jq.Word J a.Kids.length K)
 refine VE (kj d rfl (fun d3 c1 d => Wa (ln (jI ?_))))
 replace d := d.drew
 have h := d.has.ju (Kb (Kb (Kb Sn)))
 refine ky h kd (XH 0 rfl h (fun _ l => jv rfl (jy l Mh a0 rfl aK aC)) (bS hm fun d5 O hm => XE 1 rfl (Eg d call67 (vx a (.slice J a.Kids.length K) _ _ (i.mono jD.mono d.jB) O) (fun d4 d => ?_))))
 have h := d.has.ju (Kb (Kb (Kb Sn)))
 refine ⟨h, (X 2 rfl h (jC rfl) (PJ hm (fun Y E W => ∃ N T, kf (hp w) N ∧ ST false kp w W N ((c1, Ol a0 30) :: ((c0, Ol n 25) :: ((P, Ol a2 25) :: T))) ∧ E 6 = (.bool false) ∧ E 15 = (.bool Y)) (bm 10 511) 1 ?_ (fun Y g M => ?_)))⟩
 ·rintro d1 E W ⟨N, T, U, d, c9, L⟩ s
  have h := d.has.ox U (Kb (Kb (Kb Sn)))
  refine X 9 rfl h (lO L) (kM kr (jE ?_))
  exact jZ (rQ s d)
 refine bC g (fun c g => ?_) (fun c g => ?_)
 ·refine su 3 rfl rfl (cB c) h (fun _ l => jv rfl (jy l Mh a0 rfl aK aC)) (su 4 rfl rfl (cB c) h (fun _ l => jv rfl (jy l (Mt (Mt Mh)) a2 rfl cY cM)) (su 5 rfl rfl (cB c) h (fun _ l => jv rfl (jy l (Mt Mh) n rfl cY cM)) (bS g fun R v g => Ac 6 rfl rfl (cB c) (oW d call120 (Ir j (.slice Z j.jF.length c2) (.slice A3 j.jP.length p) k (.slice A7 k.jF.length q) (.slice A9 k.jP.length Q) _ _ (t.mono kB.mono d.jB) (B.mono mi.mono d.jB) (u.mono kB.mono d.jB) (D.mono mi.mono d.jB) v) (fun c5 b7 b9 c3 d x m a9 => ?_)))))
  have h := d.has.ox x (Dr (Kb (Kb (Kb Sn))))
  refine ⟨h, (bS g fun d0 A g => Ac 7 rfl rfl (cB c) (Eg d call119 ((A4 jY) a (.slice J a.Kids.length K) b7 R _ _ (i.mono jD.mono (x.trans d.jB)) (a9.sl wJ (fun b o hq => d.at_ (Ml hq))) A) (fun c6 d => ?_)))⟩
  have h := d.has.ox x (Dr (Kb (Kb (Kb Sn))))
  refine ⟨h, (X 8 rfl h (jM (cB c) rfl) ?_)⟩
  obtain rfl := sj g
  refine mX kr (M _ _ ⟨b9, _, x, (d.ju (Dr St)), rfl, rfl⟩)
 refine Xn 3 rfl rfl (cB c) h (Xn 4 rfl rfl (cB c) h (Xn 5 rfl rfl (cB c) h (Xn 6 rfl rfl (cB c) h (Xn 7 rfl rfl (cB c) h (X 8 rfl h (jO (cB c) rfl) ?_)))))
 obtain rfl := sj g
 refine mX kr (M _ _ ⟨(hp w), _, (kf.refl _), (d.ju St), rfl, rfl⟩)
theorem Jq (a : pU) (I K B H D T : Value) (r : List jV) (w : World) (i : Sl ko 15 (hp w) I a.js.jF) (j : Sl kQ 8 (hp w) K a.js.jP) (c : Sl ko 15 (hp w) B a.Client.jF) (g : Sl kQ 8 (hp w) H a.Client.jP) (x : Sl jt 5 (hp w) D a.Formula.Kids) (b1 : Sl tW 2 (hp w) T a.Keys) (hm : vY a = some r) :
  kY false pg0 13 [(.agg #[(.string a.js.Name), I, K, (.string a.Client.Name), B, H, (.int .i64 a.Formula.Op), (.int .i64 a.Formula.K), (.string a.Formula.jq.js), (.string a.Formula.jq.Word), D, (.int .i64 a.zP), (.int .i64 a.pL.Ck), (.int .i64 a.pL.Cz), (.int .i64 a.tK), (.int .i64 a.xz), (.int .i64 a.vl), T])] w 40 jN 3 r := by
 have d := ST.start (dd := false) w
 unfold vY at hm
 refine cF 67 func13 rfl (jI (jG ?_))
 obtain ⟨Y, c2, rfl⟩ := i.form
 obtain ⟨Z, n, rfl⟩ := j.form
 obtain ⟨A5, q, rfl⟩ := c.form
 obtain ⟨A7, s, rfl⟩ := g.form
 obtain ⟨A9, a4, rfl⟩ := x.form
 obtain ⟨c9, d3, rfl⟩ := b1.form
 refine VE (kj (v := (.agg (C5 a.js.Name Y a.js.jF.length c2 Z a.js.jP.length n a.Client.Name A5 a.Client.jF.length q A7 a.Client.jP.length s a.Formula.Op a.Formula.K a.Formula.jq.js a.Formula.jq.Word A9 a.Formula.Kids.length a4 a.zP a.pL.Ck a.pL.Cz a.tK a.xz a.vl c9 a.Keys.length d3).toArray)) d rfl (fun j6 c1 d => V (lO rfl) (jU (jE (jI (jG (V (jz xi rfl) (V (jv rfl (jy d.has Mh (C3 a.js.Name Y a.js.jF.length c2 Z a.js.jP.length n) rfl cY cM)) (V (jz xg rfl) (V (jv rfl (jy d.has Mh (C3 a.Client.Name A5 a.Client.jF.length q A7 a.Client.jP.length s) rfl cY cM)) (bS hm fun e7 f9 hm => ?_)))))))))))
 have a8 := d.size
 refine VE (Fo d (bW _) call45 (fun _ _ _ _ => (Ga a.js (.slice Y a.js.jF.length c2) (.slice Z a.js.jP.length n) a.Client (.slice A5 a.Client.jF.length q) (.slice A7 a.Client.jP.length s) _ _ (i.mono kB.mono d.jB) (j.mono mi.mono d.jB) (c.mono kB.mono d.jB) (g.mono mi.mono d.jB) f9)) (fun j7 k4 k5 j0 d t aa a6 f5 => ?_) (L0 := []))
 obtain ⟨h1, j4, h2, j5, c0, rfl, g2, g3⟩ := f5
 replace c0 := c0.symm; subst c0
 replace d := d.perm (Tr (Tr Tn))
 refine V (jC rfl) (V (uU rfl rfl) (V (uU rfl rfl) (V (uU rfl rfl) (V (lO rfl) (V (lO rfl) (V (lO rfl) (jU (jE (jI ?_)))))))))
 replace d := d.drew
 have h := d.has.ju (Dr (Dr (Kb Sn)))
 refine ky h kd (X 0 rfl h (jz xi rfl) (XH 1 rfl h (fun _ L => jv rfl (jy L Mh (C3 a.js.Name Y a.js.jF.length c2 Z a.js.jP.length n) rfl cY cM)) (X 2 rfl h (jz xg rfl) (XH 3 rfl h (fun _ L => jv rfl (jy L Mh (C3 a.Client.Name A5 a.Client.jF.length q A7 a.Client.jP.length s) rfl cY cM)) (X 4 rfl h (jC rfl) (X 6 rfl h (jz xg rfl) (XH 7 rfl h (fun _ L => jv rfl (jy L Mh (C3 a.Client.Name A5 a.Client.jF.length q A7 a.Client.jP.length s) rfl cY cM)) (X 8 rfl h (jz xi rfl) (XH 9 rfl h (fun _ L => jv rfl (jy L Mh (C3 a.js.Name Y a.js.jF.length c2 Z a.js.jP.length n) rfl cY cM)) (X 10 rfl h (jC rfl) (bS hm fun k2 g0 hm => XE 5 rfl (oW d call46 (Fy 0 a.js (.slice Y a.js.jF.length c2) (.slice Z a.js.jP.length n) a.Client (.slice A5 a.Client.jF.length q) (.slice A7 a.Client.jP.length s) h1 e7.1 _ _ (i.mono kB.mono (t.trans d.jB)) (j.mono mi.mono (t.trans d.jB)) (c.mono kB.mono (t.trans d.jB)) (g.mono mi.mono (t.trans d.jB)) (g2.sl kC (fun b o A => d.at_ (Ml A))) g0) (fun j8 g9 k6 g8 d u ab f6 => ?_)))))))))))))
 have h := d.has.ox u (Dr (Dr (Dr (Kb Sn))))
 refine ⟨h, (bS hm fun k3 g1 hm => XE 11 rfl (oW d call46 (Fy 1 a.Client (.slice A5 a.Client.jF.length q) (.slice A7 a.Client.jP.length s) a.js (.slice Y a.js.jF.length c2) (.slice Z a.js.jP.length n) h2 e7.2.1 _ _ (c.mono kB.mono ((t.trans u).trans d.jB)) (g.mono mi.mono ((t.trans u).trans d.jB)) (i.mono kB.mono ((t.trans u).trans d.jB)) (j.mono mi.mono ((t.trans u).trans d.jB)) (g3.sl kC (fun b o A => d.at_ (Ma (Ma (Ml A))))) g1) (fun j9 h0 k7 j3 d J ad f7 => ?_)))⟩
 have h := d.has.ox (u.trans J) (Dr (Dr (Dr (Dr (Kb Sn)))))
 refine ⟨h, ?_⟩
 replace d := d.perm (Nr (Qr Qz) Nz)
 refine bS hm fun k1 f8 hm => XE 12 rfl (mz (enc := jN) (v := g9) (vs := h0) (R := g8) d lh (by decide) oY bN mr.1 mr.2.1 rfl mr.2.2.1 mr.2.2.2 rfl rfl f6 (f7.Rj lh d (fun p A => (Ma (Ml A)))) f8 (fun k0 a9 a3 d U => ?_))
 have h := d.has.ox (u.trans J) (Dr (Dr (Dr (Dr (Kb Sn)))))
 refine ⟨h, (X 13 rfl h (lO rfl) (kM (by kernel_rfl) (jE ?_)))⟩
 replace d := d.ju (Kr (Dr (Dr (Dr St))))
 refine jI (jG (V (jz Cx rfl) (V (jv rfl (jy d.has (Ma Mh) (C1 a.Formula.Op a.Formula.K a.Formula.jq.js a.Formula.jq.Word A9 a.Formula.Kids.length a4) rfl aK aC)) (bS hm fun y e5 hm => ?_))))
 have a8 := d.size
 refine VE (Ta d (bW _) call47 (fun hH hN a7 ae => (Dq a.Formula (.slice A9 a.Formula.Kids.length a4) _ _ ⟨hH, hN, a7⟩ (x.mono jD.mono ((t.trans u).trans J)) e5)) (fun h5 i6 d8 h4 d M a1 d9 => ?_) (L0 := []))
 obtain ⟨i9, P, rfl, c7⟩ := d9
 replace P := P.symm; subst P
 replace d := d.perm Tn
 refine V (jC rfl) (V (uU rfl rfl) (V (uU rfl rfl) (VE (kh d aP (fun h6 d2 d => ?_)))))
 obtain ⟨b4, b6, rfl⟩ := c7.form
 refine VO (jL (.agg #[(.int .i64 ((y.1).Op)), (.int .i64 ((y.1).K)), (.string (((y.1).jq).js)), (.string (((y.1).jq).Word)), (.slice b4 ((y.1).Kids).length b6)]) (#[(.int .i64 ((y.1).Op)), (.int .i64 ((y.1).K)), (.string (((y.1).jq).js)), (.string (((y.1).jq).Word)), (.slice b4 ((y.1).Kids).length b6)]) d rfl rfl aC (by simp [Value.cells, Value.oneCell']) nb rfl (fun h7 d => V (lO rfl) (jU (jE (jI (jI (jG (V (jC rfl) (V (kv rfl rfl rfl) (V (jC rfl) (LJ hm (fun d7 E W => ∃  (d0 : List (Nat × Obj)), ST false kp w W d8 ((d2, Obj.cells (#[(.int .i64 ((y.1).Op)), (.int .i64 ((y.1).K)), (.string (((y.1).jq).js)), (.string (((y.1).jq).Word)), (.slice b4 ((y.1).Kids).length b6)] : Array Value) 30 (0, 0)) :: ((c1, Obj.cells ((C5 a.js.Name Y a.js.jF.length c2 Z a.js.jP.length n a.Client.Name A5 a.Client.jF.length q A7 a.Client.jP.length s a.Formula.Op a.Formula.K a.Formula.jq.js a.Formula.jq.Word A9 a.Formula.Kids.length a4 a.zP a.pL.Ck a.pL.Cz a.tK a.xz a.vl c9 a.Keys.length d3).toArray : Array Value) 34 (0, 0)) :: (a3 ++ d0))) ∧ E 1 = (.pointer (some ⟨c1, 0, none⟩)) ∧ E 6 = a9 ∧ E 7 = (.pointer (some ⟨d2, 0, none⟩)) ∧ E 43 = (.bool d7)) 4 ?_ (fun d7 Q b3 => ?_))))))))))))
 ·rintro i7 E W ⟨d0, d, d4, d5, f2, f3⟩ e4
  refine V (jC f3) (LJ e4 (fun d6 E W => ∃  (d1 : List (Nat × Obj)), ST false kp w W d8 ((c1, Obj.cells ((C5 a.js.Name Y a.js.jF.length c2 Z a.js.jP.length n a.Client.Name A5 a.Client.jF.length q A7 a.Client.jP.length s a.Formula.Op a.Formula.K a.Formula.jq.js a.Formula.jq.Word A9 a.Formula.Kids.length a4 a.zP a.pL.Ck a.pL.Cz a.tK a.xz a.vl c9 a.Keys.length d3).toArray : Array Value) 34 (0, 0)) :: (a3 ++ d1)) ∧ E 1 = (.pointer (some ⟨c1, 0, none⟩)) ∧ E 6 = a9 ∧ E 49 = (.bool d6)) 5 ?_ (fun d6 N b2 => ?_))
  ·rintro i8 E W ⟨d1, d, b7, b9, f4⟩ k
   refine jU (jE (CI k f4 (fun e0 k => ?_) (fun e0 k => ?_)))
   ·refine jI (jG (V (jC b9) (V (lC (qs := #[(0, (.int .i64 4))]) (v := (.agg (jN K1).toArray)) (kX rfl) (kI dl cL (BT _ cL) (by kernel_rfl))) (VE (jW (qs := #[(0, (.agg (jN K1).toArray))]) (cs := (jN K1).toArray) d (kX rfl) (ye [(.agg (jN K1).toArray)] bN dG dl (by decide) rfl (by intro v O; simp only [aQ, cW, eX] at O; rcases O with rfl <;> rfl) rfl rfl) (fun h8 f0 d => ?_))))))
    replace d := d.perm (Nr (Qb (Qb Qz)) Nz)
    refine bS k fun i3 e1 k => VE (mz (enc := jN) (v := a9) (vs := (.slice (some ⟨f0, 0, none⟩) 1 1)) (R := a3) d lh (by decide) oY bN mr.1 mr.2.1 rfl mr.2.2.1 mr.2.2.2 rfl rfl U (Sl.lit (enc := jN) (l := [K1]) lh rfl nb rfl (d.at_ (Ma Mh))) e1 (fun h9 g4 e8 d c3 => V (lO rfl) (jU (jE ?_))))
    replace d := d.ju (Kr (Db (Db St)))
    refine jZ (km ?_)
    have m := sj k; subst m
    exact kO (v := g4) rfl rfl ⟨_, e8, rfl, d.mC (fun p A => (Ml A)) c3.nd, c3⟩
   refine kG (jE (jI (jI (jG (V (jz xi b7) (V (jv rfl (jy d.has Mh (C3 a.js.Name Y a.js.jF.length c2 Z a.js.jP.length n) rfl cY cM)) (V (jz xg b7) (V (jv rfl (jy d.has Mh (C3 a.Client.Name A5 a.Client.jF.length q A7 a.Client.jP.length s) rfl cY cM)) (V (jz Cx b7) (V (jv rfl (jy d.has Mh (C1 a.Formula.Op a.Formula.K a.Formula.jq.js a.Formula.jq.Word A9 a.Formula.Kids.length a4) rfl aK aC)) (bS k fun i5 e6 k => VE (Eg d call48 (HJ a.js (.slice Y a.js.jF.length c2) (.slice Z a.js.jP.length n) a.Client (.slice A5 a.Client.jF.length q) (.slice A7 a.Client.jP.length s) a.Formula (.slice A9 a.Formula.Kids.length a4) _ _ (i.mono kB.mono ((((t.trans u).trans J).trans M).trans d.jB)) (j.mono mi.mono ((((t.trans u).trans J).trans M).trans d.jB)) (c.mono kB.mono ((((t.trans u).trans J).trans M).trans d.jB)) (g.mono mi.mono ((((t.trans u).trans J).trans M).trans d.jB)) (x.mono jD.mono ((((t.trans u).trans J).trans M).trans d.jB)) e6) (fun i0 d => V (nj rfl) (jU ?_))))))))))))))
   refine jE ?_
   replace d := d.ju (Db St)
   refine CI k rfl (fun e2 k => ?_) (fun e2 k => ?_)
   ·refine jI (jG (V (jC b9) (V (lC (qs := #[(0, (.int .i64 5))]) (v := (.agg (jN K2).toArray)) (kX rfl) (kI dl cL (BT _ cL) (by kernel_rfl))) (VE (jW (qs := #[(0, (.agg (jN K2).toArray))]) (cs := (jN K2).toArray) d (kX rfl) (ye [(.agg (jN K2).toArray)] bN dG dl (by decide) rfl (by intro v O; simp only [aQ, cW, eX] at O; rcases O with rfl <;> rfl) rfl rfl) (fun i1 f1 d => ?_))))))
    replace d := d.perm (Nr (Qb Qz) Nz)
    refine bS k fun i4 e3 k => VE (mz (enc := jN) (v := a9) (vs := (.slice (some ⟨f1, 0, none⟩) 1 1)) (R := a3) d lh (by decide) oY bN mr.1 mr.2.1 rfl mr.2.2.1 mr.2.2.2 rfl rfl U (Sl.lit (enc := jN) (l := [K2]) lh rfl nb rfl (d.at_ (Ma Mh))) e3 (fun i2 g7 e9 d c5 => V (lO rfl) (jU (jE ?_))))
    replace d := d.ju (Kr (Db St))
    refine jZ (km ?_)
    have m := sj k; subst m
    exact kO (v := g7) rfl rfl ⟨_, e9, rfl, d.mC (fun p A => (Ml A)) c5.nd, c5⟩
   refine kG (jE (jI (jG (V (jC b9) (V (lO rfl) (jU (jE (jZ ?_))))))))
   have m := sj k; subst m
   exact kO (v := a9) rfl rfl ⟨_, a3, rfl, d.mC (fun p A => (Ml A)) U.nd, U⟩
  refine bC N (fun z N => ?_) (fun z N => ?_)
  ·refine Vg rfl (cB z) (jz ng f2) (Vg rfl (cB z) (jv rfl (jK d.has Mh rfl dI)) (Vg rfl (cB z) (kJ aD rfl c7) (Vg rfl (cB z) (kv rfl rfl rfl) (V (jM (cB z) rfl) ?_))))
   have m := sj N; subst m
   exact b2 _ _ ⟨_, (d.ju (Db St)), d4, d5, rfl⟩
  refine Vn rfl (cB z) (Vn rfl (cB z) (Vn rfl (cB z) (Vn rfl (cB z) (V (jO (cB z) rfl) ?_))))
  have m := sj N; subst m
  exact b2 _ _ ⟨_, (d.ju (Db St)), d4, d5, rfl⟩
 refine bC Q (fun G Q => ?_) (fun G Q => ?_)
 ·refine Vg rfl (cB G) (jz mZ rfl) (Vg rfl (cB G) (jv rfl (jK d.has Mh rfl bX)) (Vg rfl (cB G) (kv rfl rfl rfl) (V (jM (cB G) rfl) ?_)))
  have m := sj Q; subst m
  exact b3 _ _ ⟨_, (d.ju (Kb (Sb (Pr Pz) St))), rfl, rfl, rfl, rfl⟩
 refine Vn rfl (cB G) (Vn rfl (cB G) (Vn rfl (cB G) (V (jO (cB G) rfl) ?_)))
 have m := sj Q; subst m
 exact b3 _ _ ⟨_, (d.ju (Kb (Sb (Pr Pz) St))), rfl, rfl, rfl, rfl⟩
theorem IQ (y : Value) (z : List jV) (r : ByteArray) (w : World) (x : BH pg0 (hp w)) (u : Sl (Pl jN) 3 (hp w) y z) (hm : AV z = some r) :
  jT true pg0 15 [y] w (.string r) := by
 refine cG 30 func15 rfl (fun b => sg (Wa (lr (Wa (lS (Wm ?_))))))
 refine V (kJ bN rfl u) (Wm (ln (ku (fun i E W => ∃ g j, (E 8 = .int .i64 (i : Nat) ∧ E 7 = .int .i64 (z.length : Nat)) ∧ ST true kp w W (hp w) j ∧ E 3 = (.string g) ∧ E 6 = y ∧ rU (z.drop i) g = some r) z.length u.len ⟨zS, _, ⟨rfl, rfl⟩, (b.ju St), rfl, rfl, hm⟩ dc dc dc (fun _ _ _ h => by obtain ⟨_, _, n, _⟩ := h; exact n) ?_ ?_)))
 ·rintro q E W B ⟨g, j, ⟨m, p⟩, b, k, t, a⟩
  obtain ⟨c, a3, Y, U, Z⟩ := kc B
  rw [Y] at a
  refine bg (VQ (mQ (enc := jN) (i := (q : Int)) (x0 := c) bN dG t m u (aG _) U) (fun L D => V (jv rfl (jQ b.has D isAgg40 dG)) (VE (kh b dl (fun a4 a9 b => VO (jL (.agg (jN c).toArray) ((jN c).toArray) b rfl rfl dG (oY c) nb rfl (fun a5 b => ln ?_)))))))
  replace b := b.drew
  have d := b.has.ju (Kb Sn)
  refine ky d kd (X 0 rfl d (jC k) (X 1 rfl d (jz CG rfl) (XH 2 rfl d (fun _ l => jv rfl (jK l Mh rfl bX)) (X 5 rfl d (jz Nc rfl) (XH 6 rfl d (fun _ l => jv rfl (jK l Mh rfl bX)) (X 10 rfl d (jz NI rfl) (XH 11 rfl d (fun _ l => jv rfl (jK l Mh rfl bX)) (bS a fun O G a => XE 3 rfl (Eg b call50 (yW c.Kind _ _ (x.mono b.jB) G) (fun s b => ?_))))))))))
  have d := b.has.ju (Kb Sn)
  refine ⟨d, (bS a fun b4 J a => X 4 rfl d (qe rfl rfl J) (bS a fun P H a => XE 7 rfl (Eg b call50 (yW c.End _ _ (x.mono b.jB) H) (fun v b => ?_))))⟩
  have d := b.has.ju (Kb Sn)
  refine ⟨d, (bS a fun b5 K a => X 8 rfl d (qe rfl rfl K) (bS a fun b6 M a => X 9 rfl d (qe rfl rfl M) (bS a fun R I a => XE 12 rfl (Eg b call50 (yW c.At _ _ (x.mono b.jB) I) (fun A b => ?_)))))⟩
  have d := b.has.ju (Kb Sn)
  refine ⟨d, (bS a fun b7 N a => X 13 rfl d (qe rfl rfl N) (bS a fun b9 Q a => X 14 rfl d (qe rfl rfl Q) (bS a fun a2 T a => X 15 rfl d (qe rfl rfl T) (X 16 rfl d (lO rfl) (kM kr (ke (jE ?_)))))))⟩
  replace b := b.ju (Db St)
  exact ⟨m, a2, _, ⟨rfl, p⟩, (b.ju St), rfl, t, (by rw [Z]; exact a)⟩
 rintro E W ⟨g, j, ⟨m, p⟩, b, k, t, a⟩
 rw [aH] at a
 exact jE (sg (Wh k (Wa (lt (rQ a b)))))
theorem E5 (a : pU) (H J B G D T : Value) (r : Bool) (w : World) (c1 : BH pg0 (hp w)) (t : Sl ko 15 (hp w) H a.js.jF) (u : Sl kQ 8 (hp w) J a.js.jP) (g : Sl ko 15 (hp w) B a.Client.jF) (k : Sl kQ 8 (hp w) G a.Client.jP) (j : Sl jt 5 (hp w) D a.Formula.Kids) (I : Sl tW 2 (hp w) T a.Keys) (hm : uq a = some r) :
  jT false pg0 3 [(.agg #[(.string a.js.Name), H, J, (.string a.Client.Name), B, G, (.int .i64 a.Formula.Op), (.int .i64 a.Formula.K), (.string a.Formula.jq.js), (.string a.Formula.jq.Word), D, (.int .i64 a.zP), (.int .i64 a.pL.Ck), (.int .i64 a.pL.Cz), (.int .i64 a.tK), (.int .i64 a.xz), (.int .i64 a.vl), T])] w (.bool r) := by
 refine cG 55 func3 rfl (fun d => sg ?_)
 obtain ⟨A1, c2, rfl⟩ := t.form
 let O : Value := (.slice A1 a.js.jF.length c2)
 obtain ⟨A3, c4, rfl⟩ := u.form
 let b4 : Value := (.slice A3 a.js.jP.length c4)
 obtain ⟨A5, c6, rfl⟩ := g.form
 let L : Value := (.slice A5 a.Client.jF.length c6)
 obtain ⟨A7, c8, rfl⟩ := k.form
 let P : Value := (.slice A7 a.Client.jP.length c8)
 obtain ⟨A9, Z, rfl⟩ := j.form
 let R : Value := (.slice A9 a.Formula.Kids.length Z)
 obtain ⟨Y, a1, rfl⟩ := I.form
 let b6 : Value := (.slice Y a.Keys.length a1)
 let a0 := (C5 a.js.Name A1 a.js.jF.length c2 A3 a.js.jP.length c4 a.Client.Name A5 a.Client.jF.length c6 A7 a.Client.jP.length c8 a.Formula.Op a.Formula.K a.Formula.jq.js a.Formula.jq.Word A9 a.Formula.Kids.length Z a.zP a.pL.Ck a.pL.Cz a.tK a.xz a.vl Y a.Keys.length a1)
 refine VE (kj d rfl (fun h2 h7 d => Wa (lS (bS hm fun h8 f1 hm => VE (Eg d call10 (IF  _ _ (c1.mono d.jB) f1) (fun h3 d => V (nj rfl) (ln (CI hm rfl (fun e8 hm => ?_) (fun e8 hm => ?_)))))))))
 ·refine sg (Wa (ln ?_))
  replace d := d.ju (Db St)
  refine jZ (km ?_)
  obtain rfl := sj hm
  exact rP d
 refine kS (VA d Mh a0 isAgg34 iV (bS hm fun h9 f2 hm => VE (Eg d call11 (IC a O b4 L P R b6 _ _ (t.mono kB.mono d.jB) (u.mono mi.mono d.jB) (g.mono kB.mono d.jB) (k.mono mi.mono d.jB) (j.mono jD.mono d.jB) (I.mono Jz.mono d.jB) f2) (fun h4 d => Wi rfl (ln (CI hm rfl (fun e9 hm => ?_) (fun e9 hm => ?_)))))))
 ·refine sg (Wa (ln ?_))
  replace d := d.ju (Db St)
  refine jZ (km ?_)
  obtain rfl := sj hm
  exact rP d
 refine kn (jI ?_)
 replace d := d.drew
 have l := d.has.ju (Kb Sn)
 refine ky l kd (XH 0 rfl l (fun _ n => jv rfl (jy n Mh a0 rfl isAgg34 iV)) (XH 2 rfl l (fun _ n => jv rfl (jy n Mh a0 rfl isAgg34 iV)) (bS hm fun a4 f3 hm => XE 1 rfl (oW d call12 (B6 a O b4 L P R b6 _ _ (t.mono kB.mono d.jB) (u.mono mi.mono d.jB) (g.mono kB.mono d.jB) (k.mono mi.mono d.jB) (j.mono jD.mono d.jB) (I.mono Jz.mono d.jB) f3) (fun h5 d0 i0 f5 d z ab K => ?_)))))
 have l := d.has.ox z (Dr (Kb Sn))
 refine ⟨l, (bS hm fun e4 f4 hm => XE 3 rfl (oW d call13 (Jq a O b4 L P R b6 _ _ (t.mono kB.mono (z.trans d.jB)) (u.mono mi.mono (z.trans d.jB)) (g.mono kB.mono (z.trans d.jB)) (k.mono mi.mono (z.trans d.jB)) (j.mono jD.mono (z.trans d.jB)) (I.mono Jz.mono (z.trans d.jB)) f4) (fun h6 e5 e6 f6 d v ad q => ?_)))⟩
 have l := d.has.ox (z.trans v) (Dr (Dr (Kb Sn)))
 refine ⟨l, (X 4 rfl l (lO rfl) (X 5 rfl l (lO rfl) (kM kr (jE ?_))))⟩
 replace d := d.ju (Kr (Kr (Db St)))
 refine jI (sg (Wm (V (ns bN rfl K) (Wm (V (ns bN rfl q) (Wi rfl (ln (CI hm rfl (fun f0 hm => ?_) (fun f0 hm => ?_)))))))))
 ·refine sg (Wa (ln ?_))
  replace d := d.ju (Dr (Dr St))
  refine jZ (km ?_)
  obtain rfl := sj hm
  exact rP d
 refine kg (Wa (lS (Wm (V (ns bN rfl K) (Wm (ln ?_))))))
 refine ku (fun i E W => ∃ Q b5, (E 23 = .int .i64 (i : Nat) ∧ E 22 = .int .i64 (a4.length : Nat)) ∧ ST false kp w W e6 (f6 ++ (f5 ++ b5)) ∧ E 3 = d0 ∧ E 4 = e5 ∧ E 5 = (.int .i64 Q) ∧ oh e4 a4 (a4.drop i) i Q = some r) a4.length K.len ⟨0, _, ⟨rfl, rfl⟩, (d.ju St), rfl, rfl, rfl, hm⟩ dc dc dc (fun _ _ _ h => by obtain ⟨_, _, aa, _⟩ := h; exact aa) ?_ ?_
 ·rintro c3 E W d4 ⟨Q, b5, ⟨s, eN⟩, d, N, a2, a5, c⟩
  obtain ⟨a3, f8, e3, U, c5⟩ := kc d4
  rw [e3] at c
  refine bg (Wh s (Wa (ln (jI (jI ?_)))))
  replace d := d.drew
  have l := d.has.ju (Kr (Kr Sn))
  refine ky l kd (X 0 rfl l (jC N) (X 1 rfl l (jC rfl) (XQ 2 rfl l (nv (i := (c3 : Int)) (x0 := a3) bN dG rfl rfl K (aG _) U) (fun g2 d6 => XH 3 rfl l (fun _ n => jv rfl (tj n (fun p m => (Ma (Ml m))) K lh d6 U isAgg40 dG)) (X 4 rfl l (jC a2) (X 5 rfl l (jC rfl) (bS c fun d1 A c => XQ 6 rfl l (nv (i := (c3 : Int)) (x0 := d1) bN dG rfl rfl q (kl A) (ki A)) (fun g3 d7 => XH 7 rfl l (fun _ n => jv rfl (tj n (fun p m => (Ml m)) q lh d7 (ki A) isAgg40 dG)) (X 8 rfl l (E1 rfl rfl (nm eqGuardType40) (Ax (Kw _ a3 d1))) (kM kr (jE (CI c rfl (fun d2 c => ?_) (fun d2 c => ?_)))))))))))))
  ·refine sg (Wa (ln ?_))
   replace d := d.ju (Dr (Dr St))
   refine jZ (km (mn (km (mn (km ?_)))))
   obtain rfl := sj c
   exact rP d
  refine kg (Wh N (Wm (VQ (nv (i := (c3 : Int)) (x0 := a3) bN dG rfl rfl K (aG _) U) (fun g4 d8 => VQ (wu [(.int .i64 a3.Kind)] CG rfl (yH.at K lh d8 U) rfl) (fun g7 d9 => V (jv rfl (oE (nn.hp _) (y := (.int .i64 a3.Kind)) (d9.mono (lI (fun b o m => d.has.2 b o (Ma (Ml m))))) bX)) (Wi rfl (ln (CI c rfl (fun d3 c => ?_) (fun d3 c => ?_)))))))))
  ·exact jG (Wh a5 (Wi rfl (Wa (jU (ke (jE ⟨s, (wi0 .i64 (Q + 1)), _, ⟨rfl, eN⟩, (d.ju St), N, a2, rfl, (by rw [c5]; exact c)⟩))))))
  exact kG (ke (jE ⟨s, Q, _, ⟨rfl, eN⟩, (d.ju St), N, a2, a5, (by rw [c5]; exact c)⟩))
 rintro E W ⟨Q, b5, ⟨s, eN⟩, d, N, a2, a5, c⟩
 rw [aH] at c
 refine jE (sg (Wh N (bS c fun g8 e0 c => VE (Eg d call14 (jT.lz (Fx d0 a4 _ _ (c1.mono ((z.trans v).trans d.jB)) (K.sl lh (fun b o m => d.at_ (Ma (Ml m)))) e0)) (fun f9 d => Wh a2 (bS c fun g9 e1 c => VE (Eg d call15 (jT.lz (IQ e5 e4 _ _ (c1.mono ((z.trans v).trans d.jB)) (q.sl lh (fun b o m => d.at_ (Ml m))) e1)) (fun g0 d => V (qh rfl rfl rfl) (Wm (LJ c (fun c9 E W => ∃ c7, ST false kp w W e6 c7 ∧ E 54 = (.bool c9)) 5 ?_ (fun c9 M a9 => ?_)))))))))))
 ·rintro h1 E W ⟨c7, d, e7⟩ d5
  exact Wg e7 (lt (rQ d5 d))
 refine bC M (fun x M => ?_) (fun x M => ?_)
 ·refine ug x (jC N) (bS M fun h0 e2 M => rB x (Eg d call16 (jT.lz (AE d0 a4 2 _ _ (K.sl lh (fun b o m => d.at_ (Ma (Ml m)))) e2)) (fun g1 d => ug x (jC a5) (ug x (kv rfl rfl rfl) (V (jM (cB x) rfl) ?_)))))
  obtain rfl := sj M
  exact a9 _ _ ⟨_, (d.ju (Dr (Dr St))), rfl⟩
 refine un x (un x (un x (un x (V (jO (cB x) rfl) ?_))))
 obtain rfl := sj M
 exact a9 _ _ ⟨_, (d.ju (Dr (Dr St))), rfl⟩
end Go.Proofs.YtjjjihkifgdhgaaGreatDoor
