/- a part of a proof of StuckTells -/
import Derived.Test.YtmlncblocfcmiaaGreatS1W2t
set_option linter.all false
namespace Go.Proofs.YtmlncblocfcmiaaGreat
open Go.RowKit
set_option maxRecDepth 10000
open Tryz
set_option maxHeartbeats 1000000 in
theorem zG (d8 : Formula → Option Bool) (i9 : ∀ (a : Formula) (x : Value) (r : Bool) (w : World) (k : Sl aD 5 (hp w) x a.Kids), d8 a = some r → bF false Tryz.prog 349 [(.agg #[(.int .i64 a.Op), (.int .i64 a.K), (.string a.aA.aC), (.string a.aA.aJ), x])] w (.bool r)) (a : Formula) (x : Value) (r : Bool) (w : World) (k : Sl aD 5 (hp w) x a.Kids) (hm : qK d8 a = some r) :
    bF false Tryz.prog 349 [(.agg #[(.int .i64 a.Op), (.int .i64 a.K), (.string a.aA.aC), (.string a.aA.aJ), x])] w (.bool r) := by
  refine cG 81 func349 rfl (fun b => sg ?_)
  obtain ⟨A1, c2, rfl⟩ := k.form
  let b8 := (C1 a.Op a.K a.aA.aC a.aA.aJ A1 a.Kids.length c2)
  refine VE (bX b rfl (fun W4 H b => Wa (lr (Wf fu (VB b Mh rfl rfl isAgg111 (V (cU underlying111 rfl k) (Wa (lS ?_))))))))
  refine Wf fq (VB b Mh rfl rfl isAgg3 (Wi rfl (ln (CI hm rfl (fun k0 hm => ?_) (fun k0 hm => ?_)))))
  · refine sg (Wf kU (VA b Mh (aM a.aA) isAgg28 sizeOf28 (bS hm fun r6 k1 hm => VE (Eg b call241 (bF.dK (rk a.aA _ _  k1)) (fun W8 b => Wm (LJ hm (fun h2 E W => ∃ f9, ST false cA w W (hp w) ((H, Ol b8 113) :: f9) ∧ E 1 = (.pointer (some ⟨H, 0, none⟩)) ∧ E 2 = (.bool false) ∧ E 18 = (.bool h2)) 3 ?_ (fun h2 m c8 => ?_)))))))
    · rintro l5 E W ⟨f9, b, j3, g7, j4⟩ i4
      refine Wh j4 (LJ i4 (fun h1 E W => ∃ g0, ST false cA w W (hp w) g0 ∧ E 2 = (.bool false) ∧ E 23 = (.bool h1)) 4 ?_ (fun h1 a5 c7 => ?_))
      · rintro l6 E W ⟨g0, b, l4, j5⟩ i5
        refine Wg j5 (lt (bU ?_))
        obtain rfl := sj i5
        exact rP b
      refine bC a5 (fun B a5 => ?_) (fun B a5 => ?_)
      · refine ug B (aO jm j3) (ug B (aH rfl (bA b.has Mh rfl isAgg3)) (ug B (cF rfl rfl rfl) (V (aY (cB B) rfl) ?_)))
        obtain rfl := sj a5
        exact c7 _ _ ⟨_, (b.aF (Db St)), g7, rfl⟩
      refine un B (un B (un B (V (aZ (cB B) rfl) ?_)))
      obtain rfl := sj a5
      exact c7 _ _ ⟨_, (b.aF (Db St)), g7, rfl⟩
    refine bC m (fun a4 m => ?_) (fun a4 m => ?_)
    · refine ug a4 (aQ rfl) (ug a4 (cF rfl rfl rfl) (V (aY (cB a4) rfl) ?_))
      obtain rfl := sj m
      exact c8 _ _ ⟨_, (b.aF St), rfl, rfl, rfl⟩
    refine un a4 (un a4 (V (aZ (cB a4) rfl) ?_))
    obtain rfl := sj m
    exact c8 _ _ ⟨_, (b.aF St), rfl, rfl, rfl⟩
  let a0 := (b8.toArray : Array Value)
  let d : Value := (.pointer (some ⟨H, 0, none⟩))
  refine kS (Wf fq (VB b Mh rfl rfl isAgg3 (Wi rfl (Wm (LJ hm (fun e6 E W => ∃ g1, ST false cA w W (hp w) ((H, Obj.cells a0 113 (0, 0)) :: g1) ∧ E 1 = d ∧ E 3 = (.int .i64 ((a.Kids.length : Int))) ∧ E 31 = (.bool e6)) 4 ?_ (fun e6 Z c0 => ?_))))))
  · let p : Value := (.int .i64 ((a.Kids.length : Int)))
    rintro l7 E W ⟨g1, b, d5, g8, j6⟩ i6
    refine Wh j6 (LJ i6 (fun e5 E W => ∃ g2, ST false cA w W (hp w) ((H, Obj.cells a0 113 (0, 0)) :: g2) ∧ E 1 = d ∧ E 3 = p ∧ E 37 = (.bool e5)) 5 ?_ (fun e5 Y b9 => ?_))
    · rintro l8 E W ⟨g2, b, g9, d6, j7⟩ i7
      refine Wh j7 (LJ i7 (fun e4 E W => ∃ g3, ST false cA w W (hp w) ((H, Obj.cells a0 113 (0, 0)) :: g3) ∧ E 1 = d ∧ E 3 = p ∧ E 41 = (.bool e4)) 3 ?_ (fun e4 U b7 => ?_))
      · rintro l9 E W ⟨g3, b, q, h0, j8⟩ n
        refine ln (CI n j8 (fun i3 n => ?_) (fun i3 n => ?_))
        · refine sg (Wa (ln ?_))
          replace b := b.aF (Db St)
          refine bH (bU ?_)
          obtain rfl := sj n
          exact rP b
        refine kS (V (aO fq q) (VB b Mh rfl rfl isAgg3 (Wi rfl (Wm (LJ n (fun e3 E W => ∃ g4, ST false cA w W (hp w) ((H, Obj.cells a0 113 (0, 0)) :: g4) ∧ E 1 = d ∧ E 3 = p ∧ E 49 = (.bool e3)) 4 ?_ (fun e3 T b6 => ?_))))))
        · rintro F E W ⟨g4, b, l, d7, j9⟩ i8
          refine Wh j9 (LJ i8 (fun d9 E W => ∃ c9, ST false cA w W (hp w) ((H, Obj.cells a0 113 (0, 0)) :: c9) ∧ E 1 = d ∧ E 69 = (.bool d9)) 19 ?_ (fun d9 K R => ?_))
          · rintro l0 E W ⟨c9, b, h3, h4⟩ J
            refine ln (CI J h4 (fun e8 J => ?_) (fun e8 J => ?_))
            · refine sg (Wa (ln ?_))
              replace b := b.aF (Db St)
              refine bH (bU ?_)
              obtain rfl := sj J
              exact rP b
            refine kS (V (aO fu h3) (VB b Mh rfl rfl isAgg111 (V (cU underlying111 rfl k) (Wm (ln ?_)))))
            replace b := b.aF (Db St)
            refine cK (fun i E W => ∃ c1, (E 73 = .int .i64 (i : Nat) ∧ E 72 = .int .i64 (a.Kids.length : Nat)) ∧ ST false cA w W (hp w) c1 ∧ E 71 = (.slice A1 a.Kids.length c2) ∧ lY d8 (a.Kids.drop i) = some r) a.Kids.length k.len ⟨_, ⟨rfl, rfl⟩, (b.aF St), rfl, J⟩ dc dc dc (fun _ _ _ h => by obtain ⟨_, O, _⟩ := h; exact O) ?_ ?_
            · rintro j0 E W f0 ⟨c1, ⟨L, eN⟩, b, s, j⟩
              obtain ⟨g, k2, f7, f6, f8⟩ := cC f0
              rw [f7] at j
              refine bg (VQ (ei (i := (j0 : Int)) (x0 := g) aD.out underlying111 sizeOf113 s L k (Int.natCast_nonneg _) f6) (fun k7 ⟨_, ⟨k9, rfl, c6⟩, f4⟩ => V (aH rfl (bE b.has f4 isAgg113 sizeOf113)) (VE (bR b zeroValue113 (fun k3 k6 b => ?_)))))
              obtain ⟨a9, P, rfl⟩ := c6.form
              let a2 := (C1 g.Op g.K g.aA.aC g.aA.aJ a9 g.Kids.length P)
              refine VO (aX (.agg a2.toArray) (a2.toArray) b rfl rfl sizeOf113 oc nb rfl (fun k4 b => lr (VA b Mh a2 isAgg113 sizeOf113 (bS j fun k8 f5 j => VE (Eg b call349 ((i9 g (.slice a9 g.Kids.length P) _ _ (c6.mono aN.mono b.aP) f5)) (fun k5 b => V (gn rfl) (ln ?_)))))))
              replace b := b.aF (Db St)
              refine CI j rfl (fun e9 j => ?_) (fun e9 j => ?_)
              · refine sg (Wa (lt (eF (bU (eF (bU ?_))))))
                obtain rfl := sj j
                exact rP b
              exact cZ (bY (aR ⟨L, _, ⟨rfl, eN⟩, (b.aF St), s, (by rw [f8]; exact j)⟩))
            rintro E W ⟨c1, ⟨L, eN⟩, b, s, j⟩
            rw [List.drop_length] at j
            exact aR (sg (Wa (lt (rQ j b))))
          refine bC K (fun u K => ?_) (fun u K => ?_)
          · refine un u (un u (un u (un u (Vu rfl rfl (Vu rfl rfl (Vu rfl rfl (Vu rfl rfl (Vu rfl rfl (Vu rfl rfl (Vu rfl rfl (Vu rfl rfl (Vu rfl rfl (Vu rfl rfl (Vu rfl rfl ?_))))))))))))))
            refine Vu rfl rfl (Vu rfl rfl (un u (V (aY (cB u) rfl) ?_)))
            obtain rfl := sj K
            exact R _ _ ⟨_, (b.aF St), l, rfl⟩
          refine ug u (aO fq l) (ug u (aH rfl (bA b.has Mh rfl isAgg3)) (ug u (cF rfl rfl rfl) (ug u (aQ rfl) (LJ K (fun e0 E W => ∃ d0, ST false cA w W (hp w) ((H, Obj.cells a0 113 (0, 0)) :: d0) ∧ E 1 = d ∧ E 50 = (.bool F) ∧ E 68 = (.bool e0)) 14 ?_ (fun e0 M b2 => ?_)))))
          · rintro l1 E W ⟨d0, b, h5, h6, h7⟩ f1
            refine V (aZ (h6.trans (cB u)) h7) ?_
            obtain rfl := sj f1
            exact R _ _ ⟨_, (b.aF St), h5, rfl⟩
          refine bC M (fun c M => ?_) (fun c M => ?_)
          · refine ug c (aQ d7) (ug c (cF rfl rfl rfl) (ug c (aQ rfl) (LJ M (fun e2 E W => ∃ d1, ST false cA w W (hp w) ((H, Obj.cells a0 113 (0, 0)) :: d1) ∧ E 1 = d ∧ E 3 = p ∧ E 50 = (.bool F) ∧ E 54 = (.bool ((a.Op == 4))) ∧ E 61 = (.bool e2)) 4 ?_ (fun e2 Q b5 => ?_))))
            · rintro l2 E W ⟨d1, b, A, h8, d3, a3, h9⟩ f2
              refine Vg rfl (a3.trans (cB c)) (aQ h9) (LJ f2 (fun e1 E W => ∃ d2, ST false cA w W (hp w) ((H, Obj.cells a0 113 (0, 0)) :: d2) ∧ E 1 = d ∧ E 50 = (.bool F) ∧ E 54 = (.bool ((a.Op == 4))) ∧ E 67 = (.bool e1)) 5 ?_ (fun e1 N b4 => ?_))
              · rintro l3 E W ⟨d2, b, i0, d4, i1, i2⟩ f3
                refine Vg rfl (d4.trans (cB u)) (aY (i1.trans (cB c)) i2) ?_
                obtain rfl := sj f3
                exact b2 _ _ ⟨_, (b.aF St), i0, d4, rfl⟩
              refine bC N (fun t N => ?_) (fun t N => ?_)
              · refine un t (un t (un t (un t (Vg rfl (a3.trans (cB c)) (aY (cB t) rfl) ?_))))
                obtain rfl := sj N
                exact b4 _ _ ⟨_, (b.aF St), A, d3, a3, rfl⟩
              refine ug t (aO jm A) (ug t (aH rfl (bA b.has Mh rfl isAgg3)) (ug t (aQ h8) (ug t (cF rfl rfl rfl) (Vg rfl (a3.trans (cB c)) (aZ (cB t) rfl) ?_))))
              obtain rfl := sj N
              exact b4 _ _ ⟨_, (b.aF St), A, d3, a3, rfl⟩
            refine bC Q (fun y Q => ?_) (fun y Q => ?_)
            · refine un y (un y (un y (ug c (aY (cB y) rfl) ?_)))
              obtain rfl := sj Q
              exact b5 _ _ ⟨_, (b.aF St), l, d7, rfl, rfl, rfl⟩
            refine ug y (aO jm l) (ug y (aH rfl (bA b.has Mh rfl isAgg3)) (ug y (cF rfl rfl rfl) (ug c (aZ (cB y) rfl) ?_)))
            obtain rfl := sj Q
            exact b5 _ _ ⟨_, (b.aF St), l, d7, rfl, rfl, rfl⟩
          refine un c (un c (un c (Vu rfl rfl (Vu rfl rfl (Vu rfl rfl (un c (un c (Vu rfl rfl (Vu rfl rfl (Vu rfl rfl (Vu rfl rfl (un c (ug u (aZ (cB c) rfl) ?_)))))))))))))
          obtain rfl := sj M
          exact b2 _ _ ⟨_, (b.aF St), l, rfl, rfl⟩
        refine bC T (fun G T => ?_) (fun G T => ?_)
        · refine ug G (aO jm q) (ug G (aH rfl (bA b.has Mh rfl isAgg3)) (ug G (cF rfl rfl rfl) (V (aY (cB G) rfl) ?_)))
          obtain rfl := sj T
          exact b6 _ _ ⟨_, (b.aF St), q, h0, rfl⟩
        refine un G (un G (un G (V (aZ (cB G) rfl) ?_)))
        obtain rfl := sj T
        exact b6 _ _ ⟨_, (b.aF St), q, h0, rfl⟩
      refine bC U (fun I U => ?_) (fun I U => ?_)
      · refine un I (un I (V (aY (cB I) rfl) ?_))
        obtain rfl := sj U
        exact b7 _ _ ⟨_, (b.aF St), g9, d6, rfl⟩
      refine ug I (aQ d6) (ug I (cF rfl rfl rfl) (V (aZ (cB I) rfl) ?_))
      obtain rfl := sj U
      exact b7 _ _ ⟨_, (b.aF St), g9, d6, rfl⟩
    refine bC Y (fun z Y => ?_) (fun z Y => ?_)
    · refine un z (un z (un z (un z (V (aY (cB z) rfl) ?_))))
      obtain rfl := sj Y
      exact b9 _ _ ⟨_, (b.aF St), d5, g8, rfl⟩
    refine ug z (aO kU d5) (ug z (aH rfl (aK b.has Mh (aM a.aA) rfl isAgg28 sizeOf28)) (ug z (dJ (v := (.agg (aM K0).toArray)) ju (cN zeroValue28 underlying28 (B3 _ underlying28) kr)) (ug z (BQ rfl rfl (fS eqGuardType28) (wM (jc _ a.aA K0))) (V (aZ (cB z) rfl) ?_))))
    obtain rfl := sj Y
    exact b9 _ _ ⟨_, (b.aF St), d5, g8, rfl⟩
  refine bC Z (fun D Z => ?_) (fun D Z => ?_)
  · refine un D (un D (un D (V (aY (cB D) rfl) ?_)))
    obtain rfl := sj Z
    exact c0 _ _ ⟨_, (b.aF St), rfl, rfl, rfl⟩
  refine ug D (aO fq rfl) (ug D (aH rfl (bA b.has Mh rfl isAgg3)) (ug D (cF rfl rfl rfl) (V (aZ (cB D) rfl) ?_)))
  obtain rfl := sj Z
  exact c0 _ _ ⟨_, (b.aF St), rfl, rfl, rfl⟩
theorem yt : ∀ (n : Nat) (c : Formula) (a : Value) (r : Bool) (w : World) (g : Sl aD 5 (hp w) a c.Kids) (_ : lL n c = some r),
    bF false Tryz.prog 349 [(.agg #[(.int .i64 c.Op), (.int .i64 c.K), (.string c.aA.aC), (.string c.aA.aJ), a])] w (.bool r)
  | 0 => by intros; rename_i h; simp only [lL] at h; cases h
  | n + 1 => zG (lL n) (yt n)
theorem rj (a : Formula) (t : Value) (r : Bool) (w : World) (c : Sl aD 5 (hp w) t a.Kids) (hm : kI a = some r) :
    bF false Tryz.prog 291 [(.agg #[(.int .i64 a.Op), (.int .i64 a.K), (.string a.aA.aC), (.string a.aA.aJ), t])] w (.bool r) := by
  refine cG 15 func291 rfl (fun b => sg ?_)
  obtain ⟨u, x, rfl⟩ := c.form
  let d : Value := (.slice u a.Kids.length x)
  let a0 := (C1 a.Op a.K a.aA.aC a.aA.aJ u a.Kids.length x)
  refine VE (bX b rfl (fun W4 Q b => Wa (lr (VA b Mh a0 isAgg113 sizeOf113 (bS hm fun n Z hm => VE (Eg b call347 (((xK bL) a d _ _ (c.mono aN.mono b.aP) Z)) (fun W7 b => Wi rfl (Wm (LJ hm (fun I E W => ∃ B, ST false cA w W (hp w) ((Q, Ol a0 113) :: B) ∧ E 1 = (.pointer (some ⟨Q, 0, none⟩)) ∧ E 2 = (.bool false) ∧ E 10 = (.bool I)) 4 ?_ (fun I j z => ?_))))))))))
  · rintro l E W ⟨B, b, T, G, U⟩ J
    refine Wh U (LJ J (fun H E W => ∃ D, ST false cA w W (hp w) D ∧ E 2 = (.bool false) ∧ E 14 = (.bool H)) 3 ?_ (fun H i y => ?_))
    · rintro m E W ⟨D, b, a3, Y⟩ K
      exact Wg Y (lt (rQ K b))
    refine bC i (fun g i => ?_) (fun g i => ?_)
    · refine ug g (aH T (aK b.has Mh a0 rfl isAgg113 sizeOf113)) (bS i fun a4 M i => kf g (Eg b call349 (((yt bL) a d _ _ (c.mono aN.mono b.aP) M)) (fun h b => V (aY (cB g) rfl) ?_)))
      obtain rfl := sj i
      exact y _ _ ⟨_, (b.aF (Db St)), G, rfl⟩
    refine un g (un g (V (aZ (cB g) rfl) ?_))
    obtain rfl := sj i
    exact y _ _ ⟨_, (b.aF (Db St)), G, rfl⟩
  refine bC j (fun k j => ?_) (fun k j => ?_)
  · refine ug k (aH rfl (aK b.has Mh a0 rfl isAgg113 sizeOf113)) (bS j fun a5 N j => kf k (Eg b call348 (((yy bL) a d _ _ (c.mono aN.mono b.aP) N)) (fun a2 b => ug k (cF rfl rfl rfl) (V (aY (cB k) rfl) ?_))))
    obtain rfl := sj j
    exact z _ _ ⟨_, (b.aF St), rfl, rfl, rfl⟩
  refine un k (un k (un k (V (aZ (cB k) rfl) ?_)))
  obtain rfl := sj j
  exact z _ _ ⟨_, (b.aF St), rfl, rfl, rfl⟩
theorem rU (i : Formula) (g : Value) (x : Int) (r : Bool) (w : World) (c : Sl aD 5 (hp w) g i.Kids) (hm : od i x = some r) :
    bF true Tryz.prog 431 [(.agg #[(.int .i64 i.Op), (.int .i64 i.K), (.string i.aA.aC), (.string i.aA.aJ), g]), (.int .i64 x)] w (.bool r) := by
  refine cG 15 func431 rfl (fun b => sg ?_)
  obtain ⟨B, D, rfl⟩ := c.form
  refine VE (bX b rfl (fun G H b => Wa (lr (Wf fq (VB b Mh rfl rfl isAgg3 (Wm (Wi rfl (Wm (LJ hm (fun t E W => ∃ u, ST true cA w W (hp w) u ∧ E 4 = (.bool false) ∧ E 14 = (.bool t)) 5 ?_ (fun t j k => ?_))))))))))
  · rintro J E W ⟨u, b, I, y⟩ z
    exact Wg y (lt (rQ z b))
  refine bC j (fun a j => ?_) (fun a j => ?_)
  · refine ug a (aO fu rfl) (ug a (aH rfl (bA b.has Mh rfl isAgg111)) (ug a (cU underlying111 rfl c) (ug a (cF rfl rfl rfl) (V (aY (cB a) rfl) ?_))))
    obtain rfl := sj j
    exact k _ _ ⟨_, (b.aF (Db St)), rfl, rfl⟩
  refine un a (un a (un a (un a (V (aZ (cB a) rfl) ?_))))
  obtain rfl := sj j
  exact k _ _ ⟨_, (b.aF (Db St)), rfl, rfl⟩
theorem yC (I : Formula → Option ByteArray) (p : ∀ (a : Formula) (k : Value) (r : ByteArray) (w : World) (c : Sl aD 5 (hp w) k a.Kids), I a = some r → bF false Tryz.prog 463 [(.agg #[(.int .i64 a.Op), (.int .i64 a.K), (.string a.aA.aC), (.string a.aA.aJ), k])] w (.string r)) (a : Formula) (k : Value) (r : ByteArray) (w : World) (c : Sl aD 5 (hp w) k a.Kids) (hm : pP I a = some r) :
    bF false Tryz.prog 463 [(.agg #[(.int .i64 a.Op), (.int .i64 a.K), (.string a.aA.aC), (.string a.aA.aJ), k])] w (.string r) := by
  refine cG 44 func463 rfl (fun b => sg ?_)
  obtain ⟨A1, c2, rfl⟩ := c.form
  refine VE (bX b rfl (fun W4 m b => Wa (lr (Wf fq (VB b Mh rfl rfl isAgg3 (bS hm fun r5 P hm => VE (Eg b call258 (bF.dK (og a.Op _ _  P)) (fun W7 b => Wa (ln (aW (aW ?_)))))))))))
  refine aU (Wf fq (VB b Mh rfl rfl isAgg3 (Wi rfl (ln (CI hm rfl (fun O hm => ?_) (fun O hm => ?_))))))
  · refine sg (Wm (Wf kU (VA b Mh (aM a.aA) isAgg28 sizeOf28 (bS hm fun r9 a4 hm => VE (Eg b call259 (bF.dK (ri a.aA _ _  a4)) (fun d3 b => bS hm fun d6 q hm => V (qx rfl rfl q) (Wa (ln ?_))))))))
    replace b := b.aF (Db St)
    refine bH (bU ?_)
    obtain rfl := sj hm
    exact rP b
  refine kn (aW (CJ hm (fun J E W => ∃ Y, ST false cA w W (hp w) ((m, Ol (C1 a.Op a.K a.aA.aC a.aA.aJ A1 a.Kids.length c2) 113) :: Y) ∧ E 1 = (.pointer (some ⟨m, 0, none⟩)) ∧ E 3 = (.string J)) (fun J t => ?_) ?_))
  · refine sg (Wf fq (VB b Mh rfl rfl isAgg3 (Wi rfl (ln (CI t rfl (fun K t => ?_) (fun K t => ?_))))))
    · refine aU (Wm (Wf jm (VB b Mh rfl rfl isAgg3 (bS t fun c9 Q t => VE (Eg b call258 (bF.dK (og a.K _ _  Q)) (fun c5 b => bS t fun d0 U t => V (qx rfl rfl U) (Wa (ln ?_))))))))
      obtain rfl := sj t
      exact ⟨_, (b.aF St), rfl, rfl⟩
    refine kn ?_
    obtain rfl := sj t
    exact ⟨_, (b.aF St), rfl, rfl⟩
  rintro d7 E W ⟨Y, b, Z, L⟩ u
  refine sg (Wh L (V (aO fu Z) (VB b Mh rfl rfl isAgg111 (V (cU underlying111 rfl c) (bS u fun d5 a5 u => VE (Eg b call258 (bF.dK (og ((a.Kids.length : Int)) _ _  a5)) (fun d4 b => bS u fun c0 s u => V (qx rfl rfl s) (Wa (ln (aW (aW ?_)))))))))))
  refine aU (V (aO fu Z) (VB b Mh rfl rfl isAgg111 (V (cU underlying111 rfl c) (Wm (ln ?_)))))
  replace b := b.aF (Db St)
  refine cK (fun i E W => ∃ z B, (E 34 = .int .i64 (i : Nat) ∧ E 33 = .int .i64 (a.Kids.length : Nat)) ∧ ST false cA w W (hp w) B ∧ E 3 = (.string z) ∧ E 32 = (.slice A1 a.Kids.length c2) ∧ kV I (a.Kids.drop i) z = some r) a.Kids.length c.len ⟨c0, _, ⟨rfl, rfl⟩, (b.aF St), rfl, rfl, u⟩ dc dc dc (fun _ _ _ h => by obtain ⟨_, _, l, _⟩ := h; exact l) ?_ ?_
  · rintro R E W a3 ⟨z, B, ⟨d, n⟩, b, D, G, g⟩
    obtain ⟨j, d2, v, a9, A⟩ := cC a3
    rw [v] at g
    refine bg (VQ (ei (i := (R : Int)) (x0 := j) aD.out underlying111 sizeOf113 G d c (Int.natCast_nonneg _) a9) (fun c7 ⟨_, ⟨d1, rfl, H⟩, M⟩ => V (aH rfl (bE b.has M isAgg113 sizeOf113)) (VE (bR b zeroValue113 (fun c1 c6 b => ?_)))))
    obtain ⟨x, y, rfl⟩ := H.form
    let a0 := (C1 j.Op j.K j.aA.aC j.aA.aJ x j.Kids.length y)
    refine VO (aX (.agg a0.toArray) (a0.toArray) b rfl rfl sizeOf113 oc nb rfl (fun c3 b => ln (aU (Wh D (VA b Mh a0 isAgg113 sizeOf113 (bS g fun c8 N g => VE (Eg b call463 ((p j (.slice x j.Kids.length y) _ _ (H.mono aN.mono b.aP) N)) (fun c4 b => bS g fun F T g => V (qx rfl rfl T) (Wa (bK (bY (aR ?_))))))))))))
    replace b := b.aF (Db St)
    exact ⟨d, F, _, ⟨rfl, n⟩, (b.aF St), rfl, G, (by rw [A]; exact g)⟩
  rintro E W ⟨z, B, ⟨d, n⟩, b, D, G, g⟩
  rw [List.drop_length] at g
  exact aR (sg (Wh D (Wa (lt (rQ g b)))))
theorem ui : ∀ (n : Nat) (c : Formula) (a : Value) (r : ByteArray) (w : World) (g : Sl aD 5 (hp w) a c.Kids) (_ : iU n c = some r),
    bF false Tryz.prog 463 [(.agg #[(.int .i64 c.Op), (.int .i64 c.K), (.string c.aA.aC), (.string c.aA.aJ), a])] w (.string r)
  | 0 => by intros; rename_i h; simp only [iU] at h; cases h
  | n + 1 => yC (iU n) (ui n)
theorem Bi (c : Formula) (u : Value) (a : Formula) (x : Value) (r : Int) (w : World) (k : Sl aD 5 (hp w) u c.Kids) (t : Sl aD 5 (hp w) x a.Kids) (hm : pL c a = some r) :
    bF false Tryz.prog 455 [(.agg #[(.int .i64 c.Op), (.int .i64 c.K), (.string c.aA.aC), (.string c.aA.aJ), u]), (.agg #[(.int .i64 a.Op), (.int .i64 a.K), (.string a.aA.aC), (.string a.aA.aJ), x])] w (.int .i64 r) := by
  refine cG 21 func455 rfl (fun b => sg ?_)
  obtain ⟨B, D, rfl⟩ := k.form
  let d := (C1 c.Op c.K c.aA.aC c.aA.aJ B c.Kids.length D)
  refine VE (bX b rfl (fun W4 s b => ?_))
  obtain ⟨y, z, rfl⟩ := t.form
  let a0 := (C1 a.Op a.K a.aA.aC a.aA.aJ y a.Kids.length z)
  refine VE (bX b rfl (fun W8 h b => Wa (lr (Wa (lr (Wa (ln (aW ?_))))))))
  refine CJ hm (fun Q E W => ∃ G, ST false cA w W (hp w) ((h, Ol a0 113) :: G) ∧ E 3 = (.pointer (some ⟨h, 0, none⟩)) ∧ E 5 = (.string Q) ∧ E 6 = (.string zS)) (fun Q j => ?_) ?_
  · refine sg (VA b (Mt Mh) d isAgg113 sizeOf113 (bS j fun L a5 j => VE (Eg b call291 ((rj c (.slice B c.Kids.length D) _ _ (k.mono aN.mono b.aP) a5)) (fun q b => ln (CI j rfl (fun Z j => ?_) (fun Z j => ?_))))))
    · refine aU (VA b (Mt Mh) d isAgg113 sizeOf113 (bS j fun O l j => VE (Eg b call463 (((ui bL) c (.slice B c.Kids.length D) _ _ (k.mono aN.mono b.aP) l)) (fun v b => Wa (ln ?_)))))
      obtain rfl := sj j
      exact ⟨_, (b.aF (Kb (Db St))), rfl, rfl, rfl⟩
    refine kn ?_
    obtain rfl := sj j
    exact ⟨_, (b.aF (Kb (Db St))), rfl, rfl, rfl⟩
  rintro a9 E W ⟨G, b, I, J, m⟩ a2
  refine aW (CJ a2 (fun N E W => ∃ H, ST false cA w W (hp w) H ∧ E 5 = (.string a9) ∧ E 6 = (.string N)) (fun N i => ?_) ?_)
  · refine sg (V (aH I (aK b.has Mh a0 rfl isAgg113 sizeOf113)) (bS i fun A a3 i => VE (Eg b call291 ((rj a (.slice y a.Kids.length z) _ _ (t.mono aN.mono b.aP) a3)) (fun n b => ln (CI i rfl (fun Y i => ?_) (fun Y i => ?_))))))
    · refine aU (V (aH I (aK b.has Mh a0 rfl isAgg113 sizeOf113)) (bS i fun F a4 i => VE (Eg b call463 (((ui bL) a (.slice y a.Kids.length z) _ _ (t.mono aN.mono b.aP) a4)) (fun p b => Wa (ln ?_)))))
      obtain rfl := sj i
      exact ⟨_, (b.aF (Db St)), J, rfl⟩
    refine kn ?_
    obtain rfl := sj i
    exact ⟨_, (b.aF (Db St)), J, m⟩
  rintro c1 E W ⟨H, b, K, M⟩ g
  refine aW (sg (Wh K (Wh M (V (kM rfl rfl rfl) (ln (CI g rfl (fun T g => ?_) (fun T g => ?_)))))))
  · refine sg (Wa (lt (bU ?_)))
    obtain rfl := sj g
    exact rP b
  refine kS (Wh K (Wh M (V (kM rfl rfl rfl) (ln (CI g rfl (fun U g => ?_) (fun U g => ?_))))))
  · refine sg (Wa (lt (bU ?_)))
    obtain rfl := sj g
    exact rP b
  exact kg (Wa (lt (rQ g b)))
theorem zM (s : Formula → Formula → Option Bool) (d8 : ∀ (a : Formula) (u : Value) (c : Formula) (x : Value) (r : Bool) (w : World) (k : Sl aD 5 (hp w) u a.Kids) (y : Sl aD 5 (hp w) x c.Kids), s a c = some r → bF false Tryz.prog 290 [(.agg #[(.int .i64 a.Op), (.int .i64 a.K), (.string a.aA.aC), (.string a.aA.aJ), u]), (.agg #[(.int .i64 c.Op), (.int .i64 c.K), (.string c.aA.aC), (.string c.aA.aJ), x])] w (.bool r)) (a : Formula) (u : Value) (c : Formula) (x : Value) (r : Bool) (w : World) (k : Sl aD 5 (hp w) u a.Kids) (y : Sl aD 5 (hp w) x c.Kids) (hm : qL s a c = some r) :
    bF false Tryz.prog 290 [(.agg #[(.int .i64 a.Op), (.int .i64 a.K), (.string a.aA.aC), (.string a.aA.aJ), u]), (.agg #[(.int .i64 c.Op), (.int .i64 c.K), (.string c.aA.aC), (.string c.aA.aJ), x])] w (.bool r) := by
  refine cG 53 func290 rfl (fun b => sg ?_)
  obtain ⟨Z, c2, rfl⟩ := k.form
  let m := (C1 a.Op a.K a.aA.aC a.aA.aJ Z a.Kids.length c2)
  refine VE (bX b rfl (fun W4 I b => ?_))
  obtain ⟨A5, c6, rfl⟩ := y.form
  let a0 := (C1 c.Op c.K c.aA.aC c.aA.aJ A5 c.Kids.length c6)
  refine VE (bX b rfl (fun W8 J b => Wa (lS (Wf fq (VB b (Mt Mh) rfl rfl isAgg3 (Wf fq (VB b Mh rfl rfl isAgg3 (Wi rfl (Wm (LJ hm (fun O E W => ∃ d1, ST false cA w W (hp w) ((J, Ol a0 113) :: ((I, Ol m 113) :: d1)) ∧ E 2 = (.pointer (some ⟨I, 0, none⟩)) ∧ E 3 = (.pointer (some ⟨J, 0, none⟩)) ∧ E 17 = (.bool O)) 6 ?_ (fun O G N => ?_)))))))))))
  · let a3 : Value := (.pointer (some ⟨J, 0, none⟩))
    let a2 : Value := (.pointer (some ⟨I, 0, none⟩))
    rintro f1 E W ⟨d1, b, a5, n, e1⟩ d6
    refine Wh e1 (LJ d6 (fun L E W => ∃ d2, ST false cA w W (hp w) ((J, Ol a0 113) :: ((I, Ol m 113) :: d2)) ∧ E 2 = a2 ∧ E 3 = a3 ∧ E 24 = (.bool L)) 6 ?_ (fun L D M => ?_))
    · rintro f2 E W ⟨d2, b, p, q, e2⟩ d7
      refine Wh e2 (LJ d7 (fun F E W => ∃ d3, ST false cA w W (hp w) ((J, Ol a0 113) :: ((I, Ol m 113) :: d3)) ∧ E 2 = a2 ∧ E 3 = a3 ∧ E 33 = (.bool F)) 8 ?_ (fun F B K => ?_))
      · rintro f3 E W ⟨d3, b, d4, e3, e4⟩ H
        refine ln (CI H e4 (fun d5 H => ?_) (fun d5 H => ?_))
        · refine sg (Wa (ln ?_))
          replace b := b.aF (Db (Db St))
          refine bH (bU ?_)
          obtain rfl := sj H
          exact rP b
        refine kS (V (aO fu d4) (VB b (Mt Mh) rfl rfl isAgg111 (V (cU underlying111 rfl k) (Wm (ln (cK (fun i E W => ∃ Q, (E 37 = .int .i64 (i : Nat) ∧ E 36 = .int .i64 (a.Kids.length : Nat)) ∧ ST false cA w W (hp w) ((J, Ol a0 113) :: ((I, Ol m 113) :: Q)) ∧ E 2 = a2 ∧ E 3 = a3 ∧ lX c s (a.Kids.drop i) i = some r) a.Kids.length k.len ⟨_, ⟨rfl, rfl⟩, (b.aF St), d4, e3, H⟩ dc dc dc (fun _ _ _ h => by obtain ⟨_, A, _⟩ := h; exact A) ?_ ?_))))))
        · rintro a9 E W c0 ⟨Q, ⟨v, eN⟩, b, T, U, g⟩
          obtain ⟨P, e5, c9, c8, d0⟩ := cC c0
          rw [c9] at g
          refine bg (Wh v (Wa (ln (aW ?_))))
          replace b := b.drew
          have d := b.has.aF (Kb (Kb Sn))
          refine cT d cE (X 0 rfl d (aO fu T) (XH 1 rfl d (fun _ l => aH rfl (bA l (Mt Mh) rfl isAgg111)) (X 2 rfl d (aQ rfl) (XQ 3 rfl d (ei (i := (a9 : Int)) (x0 := P) aD.out underlying111 sizeOf113 rfl rfl k (Int.natCast_nonneg _) c8) (fun e7 ⟨_, ⟨d9, rfl, c5⟩, c1⟩ => XH 4 rfl d (fun _ l => aH rfl (bE l c1 isAgg113 sizeOf113)) (X 5 rfl d (aO fu U) (XH 6 rfl d (fun _ l => aH rfl (bA l Mh rfl isAgg111)) (X 7 rfl d (aQ rfl) (bS g fun R Y g => XQ 8 rfl d (ei (i := (a9 : Int)) (x0 := R) aD.out underlying111 sizeOf113 rfl rfl y (bV Y) (bQ Y)) (fun e8 ⟨_, ⟨e0, rfl, c7⟩, c3⟩ => XH 9 rfl d (fun _ l => aH rfl (bE l c3 isAgg113 sizeOf113)) (bS g fun e9 c4 g => XE 10 rfl (Eg b call290 ((d8 P d9 R e0 _ _ (c5.mono aN.mono b.aP) (c7.mono aN.mono b.aP) c4)) (fun e6 b => ?_)))))))))))))
          have d := b.has.aF (Kb (Kb Sn))
          refine ⟨d, (X 11 rfl d (gn rfl) (dG kr (aR (CI g rfl (fun b9 g => ?_) (fun b9 g => ?_)))))⟩
          · refine sg (Wa (ln ?_))
            replace b := b.aF (Db (Db St))
            refine bH (eF (bU (eF (bU ?_))))
            obtain rfl := sj g
            exact rP b
          exact cZ (bY (aR ⟨v, _, ⟨rfl, eN⟩, (b.aF St), T, U, (by rw [d0]; exact g)⟩))
        rintro E W ⟨Q, ⟨v, eN⟩, b, T, U, g⟩
        rw [List.drop_length] at g
        refine aR ?_
        replace b := b.aF (Db (Db St))
        exact sg (Wa (lt (rQ g b)))
      refine bC B (fun j B => ?_) (fun j B => ?_)
      · refine un j (un j (un j (un j (un j (un j (un j (V (aY (cB j) rfl) ?_)))))))
        obtain rfl := sj B
        exact K _ _ ⟨_, (b.aF St), p, q, rfl⟩
      refine ug j (aO fu p) (ug j (aH rfl (bA b.has (Mt Mh) rfl isAgg111)) (ug j (cU underlying111 rfl k) (ug j (aO fu q) (ug j (aH rfl (bA b.has Mh rfl isAgg111)) (ug j (cU underlying111 rfl y) (ug j (cF rfl rfl rfl) (V (aZ (cB j) rfl) ?_)))))))
      obtain rfl := sj B
      exact K _ _ ⟨_, (b.aF St), p, q, rfl⟩
    refine bC D (fun t D => ?_) (fun t D => ?_)
    · refine un t (un t (un t (un t (un t (V (aY (cB t) rfl) ?_)))))
      obtain rfl := sj D
      exact M _ _ ⟨_, (b.aF St), a5, n, rfl⟩
    refine ug t (aO kU a5) (ug t (aH rfl (aK b.has (Mt Mh) (aM a.aA) rfl isAgg28 sizeOf28)) (ug t (aO kU n) (ug t (aH rfl (aK b.has Mh (aM c.aA) rfl isAgg28 sizeOf28)) (ug t (BQ rfl rfl (fS eqGuardType28) (wM (jc _ a.aA c.aA))) (V (aZ (cB t) rfl) ?_)))))
    obtain rfl := sj D
    exact M _ _ ⟨_, (b.aF St), a5, n, rfl⟩
  refine bC G (fun z G => ?_) (fun z G => ?_)
  · refine un z (un z (un z (un z (un z (V (aY (cB z) rfl) ?_)))))
    obtain rfl := sj G
    exact N _ _ ⟨_, (b.aF St), rfl, rfl, rfl⟩
  refine ug z (aO jm rfl) (ug z (aH rfl (bA b.has (Mt Mh) rfl isAgg3)) (ug z (aO jm rfl) (ug z (aH rfl (bA b.has Mh rfl isAgg3)) (ug z (cF rfl rfl rfl) (V (aZ (cB z) rfl) ?_)))))
  obtain rfl := sj G
  exact N _ _ ⟨_, (b.aF St), rfl, rfl, rfl⟩
theorem yJ : ∀ (n : Nat) (g : Formula) (a : Value) (i : Formula) (c : Value) (r : Bool) (w : World) (j : Sl aD 5 (hp w) a g.Kids) (k : Sl aD 5 (hp w) c i.Kids) (_ : ki n g i = some r),
    bF false Tryz.prog 290 [(.agg #[(.int .i64 g.Op), (.int .i64 g.K), (.string g.aA.aC), (.string g.aA.aJ), a]), (.agg #[(.int .i64 i.Op), (.int .i64 i.K), (.string i.aA.aC), (.string i.aA.aJ), c])] w (.bool r)
  | 0 => by intros; rename_i h; simp only [ki] at h; cases h
  | n + 1 => zM (ki n) (yJ n)
theorem wH (T : Value) (a0 : List Formula) (A : Bool) (r : List Formula) (w : World) {μ0 : bW} (h0 : gj μ0 [] w) (c9 : Sl aD 5 μ0 T a0) (hm : oh a0 A = some r) :
    dR false Tryz.prog 432 [T, (.bool A)] w μ0 [] (fun v L1 μ1 => ∃ y1, v = y1 ∧ L1 = [] ∧ Sl aD 5 μ1 y1 (r)) := by
  refine nm h0 62 func432 rfl (fun d => sg (Wa (lr (Wa (lS (Wm ?_))))))
  refine V (cU underlying111 rfl c9) (Wm (ln (cK (fun i E W => ∃ u M D x b1, (E 12 = .int .i64 (i : Nat) ∧ E 11 = .int .i64 (a0.length : Nat)) ∧ bO μ0 x ∧ Lo (keys []) w μ0 x ∧ ST false (keys []) w W x (D ++ b1) ∧ E 1 = (.bool A) ∧ E 5 = u ∧ E 10 = T ∧ cL 113 aD 5 x u M D ∧ eU A (a0.drop i) M = some r) a0.length c9.len ⟨(.slice none 0 0), ([]), [], μ0, _, ⟨rfl, rfl⟩, (bO.refl _), Lo.refl, (d.aF St), rfl, rfl, rfl, (cL.nil _ _ _ _), hm⟩ dc dc dc (fun _ _ _ h => by obtain ⟨_, _, _, _, _, aa, _⟩ := h; exact aa) ?_ ?_)))
  · rintro U E W h7 ⟨u, M, D, x, b1, ⟨eI, eN⟩, K, q, d, d5, a4, b3, H, J⟩
    obtain ⟨a, l4, j5, j4, c6⟩ := cC h7
    rw [j5] at J
    refine bg (VQ (ei (i := (U : Int)) (x0 := a) aD.out underlying111 sizeOf113 b3 eI (c9.mono aN.mono K) (Int.natCast_nonneg _) j4) (fun m8 ⟨_, ⟨n3, rfl, a2⟩, i1⟩ => V (aH rfl (bE d.has i1 isAgg113 sizeOf113)) (VE (bR d zeroValue113 (fun l6 G d => ?_)))))
    let g5 : Value := (.int .i64 ((U : Int)))
    let b8 : Value := (.int .i64 ((a0.length : Int)))
    let P : Value := (.pointer (some ⟨G, 0, none⟩))
    obtain ⟨k, t, rfl⟩ := a2.form
    let g6 : Value := (.slice k a.Kids.length t)
    let s := (C1 a.Op a.K a.aA.aC a.aA.aJ k a.Kids.length t)
    refine VO (aX (.agg s.toArray) (s.toArray) d rfl rfl sizeOf113 oc nb rfl (fun l7 d => lr (Wh a4 (V (lN underlying111 rfl H) (Wa (ln (aW (CJ J (fun c3 E W => ∃ d0, ST false (keys []) w W x ((G, Ol s 113) :: (D ++ d0)) ∧ E 1 = (.bool A) ∧ E 5 = u ∧ E 7 = P ∧ E 8 = (.int .i64 c3) ∧ E 10 = T ∧ E 11 = b8 ∧ E 12 = g5) (fun c3 i0 => ?_) ?_))))))))
    · refine dN (fB (fun m E W => ∃ Y d3, ST false (keys []) w W x ((G, Ol s 113) :: (D ++ d3)) ∧ E 1 = (.bool A) ∧ E 5 = u ∧ E 7 = P ∧ E 8 = (.int .i64 Y) ∧ E 10 = T ∧ E 11 = b8 ∧ E 12 = g5 ∧ jb M a m Y = some c3) bL ⟨((M.length : Int)), _, (d.aF St), d5, a4, rfl, rfl, b3, eN, eI, i0⟩ ?_)
      rintro m E W ⟨Y, d3, d, f0, c1, c2, a5, f1, f2, f3, Z⟩
      cases m with
      | zero => rw [jb] at Z; cases Z
      | succ k5 =>
        refine aW (aW ?_)
        replace d := d.drew
        have n := d.has.aF (Kb (Kr Sn))
        refine cT n cE (X 0 rfl n (aQ a5) (X 1 rfl n (cF rfl rfl rfl) (X 2 rfl n (aQ rfl) (PJ Z (fun g3 E W => ∃ d4, ST false (keys []) w W x ((G, Ol s 113) :: (D ++ d4)) ∧ E 1 = (.bool A) ∧ E 5 = u ∧ E 7 = P ∧ E 8 = (.int .i64 Y) ∧ E 10 = T ∧ E 11 = b8 ∧ E 12 = g5 ∧ E 29 = (.bool g3)) (bm 12 4095) 0 ?_ (fun g3 z b0 => ?_)))))
        · rintro o0 E W ⟨d4, d, f4, f5, f6, f7, f8, f9, g0, k3⟩ Q
          refine dG kr (aR (CI Q k3 (fun h6 Q => ?_) (fun h6 Q => ?_)))
          · exact kn (dN (aU (Wh f7 (Wi rfl (Wa (bK (bY (aR ⟨k5, Nat.lt_succ_self _, ((IntKind.i64.wrap (Y - 1))), _, (d.aF St), f4, f5, f6, rfl, f8, f9, g0, Q⟩))))))))
          refine fI (fD (fD (kz (aR ?_))))
          obtain rfl := sj Q
          exact ⟨_, (d.aF St), f4, f5, f6, f7, f8, f9, g0⟩
        refine bC z (fun c z => ?_) (fun c z => ?_)
        · refine Xg 3 rfl rfl (cB c) n (aQ c1) (Xg 4 rfl rfl (cB c) n (aQ a5) (Xg 5 rfl rfl (cB c) n (cF rfl rfl rfl) (bS z fun l0 c8 z => mB 6 rfl kr (.inr ⟨2, true, 20, rfl, rfl, by decide, (cB c)⟩) rfl dc (fun _ _ h => h) n (cX (i := (IntKind.i64.wrap (Y - 1))) aD.out underlying111 sizeOf113 rfl rfl H (bV c8) (bQ c8)) (fun n0 ⟨_, ⟨k8, rfl, j0⟩, i3, l3⟩ => ou 7 rfl rfl (cB c) n (fun _ O => aH rfl (bE (gf.hp _) (i3.mono (ep (fun b o R => O.2 b o (Mt (Ml R))))) isAgg113 sizeOf113)) (ou 8 rfl rfl (cB c) n (fun _ O => aH c2 (aK O Mh s rfl isAgg113 sizeOf113)) (bS z fun n2 i5 z => zZ 9 rfl rfl (cB c) (Eg d call455 ((Bi l0 k8 a g6 _ _ (j0.mono aN.mono d.aP) (a2.mono aN.mono d.aP) i5)) (fun m4 d => ?_))))))))
          have n := d.has.aF (Kb (Kr Sn))
          refine ⟨n, (Xg 10 rfl rfl (cB c) n (cF rfl rfl rfl) (X 11 rfl n (aY (cB c) rfl) ?_))⟩
          obtain rfl := sj z
          refine fO kr (b0 _ _ ⟨_, (d.aF St), f0, c1, c2, a5, f1, f2, f3, rfl⟩)
        refine Xn 3 rfl rfl (cB c) n (Xn 4 rfl rfl (cB c) n (Xn 5 rfl rfl (cB c) n (Xn 6 rfl rfl (cB c) n (Xn 7 rfl rfl (cB c) n (Xn 8 rfl rfl (cB c) n (Xn 9 rfl rfl (cB c) n (Xn 10 rfl rfl (cB c) n (X 11 rfl n (aZ (cB c) rfl) ?_))))))))
        obtain rfl := sj z
        refine fO kr (b0 _ _ ⟨_, (d.aF St), f0, c1, c2, a5, f1, f2, f3, rfl⟩)
    rintro a3 E W ⟨d0, d, b4, d6, d7, b5, d8, d9, e0⟩ h8
    refine aW (aW ?_)
    replace d := d.drew
    have n := d.has.aF (Kb (Kr Sn))
    refine cT n cE (X 0 rfl n (aQ b4) (X 1 rfl n (aQ rfl) (PJ h8 (fun g2 E W => ∃ d1, ST false (keys []) w W x ((G, Ol s 113) :: (D ++ d1)) ∧ E 1 = (.bool A) ∧ E 5 = u ∧ E 7 = P ∧ E 8 = (.int .i64 a3) ∧ E 10 = T ∧ E 11 = b8 ∧ E 12 = g5 ∧ E 36 = (.bool g2)) (bm 14 31) 9 ?_ (fun g2 N a9 => ?_))))
    · rintro n8 E W ⟨d1, d, e1, b6, b7, b9, e2, e3, e4, k0⟩ h9
      have n := d.has.aF (Kb (Kr Sn))
      refine X 5 rfl n (aQ k0) (PJ h9 (fun g1 E W => ∃ d2, ST false (keys []) w W x ((G, Ol s 113) :: (D ++ d2)) ∧ E 1 = (.bool A) ∧ E 5 = u ∧ E 7 = P ∧ E 8 = (.int .i64 a3) ∧ E 10 = T ∧ E 11 = b8 ∧ E 12 = g5 ∧ E 45 = (.bool g1)) (bm 14 16383) 0 ?_ (fun g1 y a8 => ?_))
      · rintro n9 E W ⟨d2, d, e5, c0, k1, e6, e7, e8, e9, k2⟩ j
        refine dG kr (aR (CI j k2 (fun h2 j => ?_) (fun h2 j => ?_)))
        · refine fI (fD (kz (aR ?_)))
          replace d := d.aF (Db St)
          exact ⟨e9, u, M, D, x, _, ⟨rfl, e8⟩, K, q, (d.aF St), e5, c0, e7, H, (by rw [c6]; exact j)⟩
        refine kg (VE (bJ (cs := #[]) d ju (th [] underlying111 sizeOf113 zeroValue113 dc rfl (by simp) rfl rfl) (fun l8 j9 d => Wh c0 (Wh e6 (bS j fun _ c4 j => VQ (xa (i := a3) underlying111 sizeOf113 rfl rfl H (oM c4) (oL c4)) (fun n4 i6 => bS j fun m6 h3 j => VE (iP (B := [(j9, Ob #[] 113)]) aN d dc underlying111 dI.1 dI.2.1 rfl dI.2.2.1 dI.2.2.2 rfl rfl (cL.lit aN (l := []) .nil rfl nb rfl) (qE.row i6 d (fun p R => (Mt (Mt (Ml R))))) h3 (fun l9 n5 j6 d g8 => Wa (ln (aW ?_))))))))))
        refine aU (Wm (V (aH k1 (aK d.has (Ma Mh) s rfl isAgg113 sizeOf113)) (VE (bJ (cs := s.toArray) d (dZ rfl) (ew underlying111 sizeOf113 zeroValue113) (fun m0 m5 d => ?_)))))
        replace d := d.perm (Nr (Qb Qz) Nz)
        refine bS j fun m7 h4 j => VE (iP (B := j6) aN d dc underlying111 dI.1 dI.2.1 rfl dI.2.2.1 dI.2.2.2 rfl rfl g8 (qE.lit aN (l := [a]) (.cons (ys := C1 a.Op a.K a.aA.aC a.aA.aJ k a.Kids.length t) (aD.mk ⟨g6, rfl, a2⟩) .nil) rfl nb (d.at_ (Ma Mh))) h4 (fun m1 n6 j7 d g9 => Wa (ln ?_)))
        replace d := d.aF (Kr (Db (Db St)))
        refine aU (Wm (Wh c0 (Wh e6 ?_)))
        replace d := d.perm (Nr (Qr Qz) Nz)
        obtain ⟨l1, d, a7, F, i8⟩ := ST.ms aN d H
        exact bS j fun _ c5 j => VQ (vV (i := a3) underlying111 sizeOf113 rfl rfl i8 (oM c5) (oL c5)) (fun n7 i7 => bS j fun k4 h5 j => VE (iP (B := j7) aN d dc underlying111 dI.1 dI.2.1 rfl dI.2.2.1 dI.2.2.2 rfl rfl (g9.mono aN a7) (qE.sl aN i7.1 d.aP) h5 (fun m2 k6 j8 d h1 => Wa (bK (bY (aR ⟨e9, k6, k4, j8, l1, _, ⟨rfl, e8⟩, (K.trans a7), (q.trans F), (d.aF St), e5, rfl, e7, h1, (by rw [c6]; exact j)⟩))))))
      refine bC y (fun g y => ?_) (fun g y => ?_)
      · refine Xg 6 rfl rfl (cB g) n (aQ b6) (Xg 7 rfl rfl (cB g) n (aQ b9) (Xg 8 rfl rfl (cB g) n (cF rfl rfl rfl) (bS y fun k9 c7 y => mB 9 rfl kr (.inr ⟨5, true, 37, rfl, rfl, by decide, (cB g)⟩) rfl dc (fun _ _ h => h) n (cX (i := (IntKind.i64.wrap (a3 - 1))) aD.out underlying111 sizeOf113 rfl rfl H (bV c7) (bQ c7)) (fun m9 ⟨_, ⟨k7, rfl, i9⟩, i2, l2⟩ => ou 10 rfl rfl (cB g) n (fun _ O => aH rfl (bE (gf.hp _) (i2.mono (ep (fun b o R => O.2 b o (Mt (Ml R))))) isAgg113 sizeOf113)) (ou 11 rfl rfl (cB g) n (fun _ O => aH b7 (aK O Mh s rfl isAgg113 sizeOf113)) (bS y fun n1 i4 y => zZ 12 rfl rfl (cB g) (Eg d call290 (((yJ bL) k9 k7 a g6 _ _ (i9.mono aN.mono d.aP) (a2.mono aN.mono d.aP) i4)) (fun m3 d => ?_))))))))
        have n := d.has.aF (Kb (Kr Sn))
        refine ⟨n, (X 13 rfl n (aY (cB g) rfl) ?_)⟩
        obtain rfl := sj y
        refine fO kr (a8 _ _ ⟨_, (d.aF St), e1, b6, b7, b9, e2, e3, e4, rfl⟩)
      refine Xn 6 rfl rfl (cB g) n (Xn 7 rfl rfl (cB g) n (Xn 8 rfl rfl (cB g) n (Xn 9 rfl rfl (cB g) n (Xn 10 rfl rfl (cB g) n (Xn 11 rfl rfl (cB g) n (Xn 12 rfl rfl (cB g) n (X 13 rfl n (aZ (cB g) rfl) ?_)))))))
      obtain rfl := sj y
      refine fO kr (a8 _ _ ⟨_, (d.aF St), e1, b6, b7, b9, e2, e3, e4, rfl⟩)
    refine bC N (fun I N => ?_) (fun I N => ?_)
    · refine Xg 2 rfl rfl (cB I) n (aQ b5) (Xg 3 rfl rfl (cB I) n (cF rfl rfl rfl) (X 4 rfl n (aY (cB I) rfl) ?_))
      obtain rfl := sj N
      refine fO kr (a9 _ _ ⟨_, (d.aF St), b4, d6, d7, b5, d8, d9, e0, rfl⟩)
    refine Xn 2 rfl rfl (cB I) n (Xn 3 rfl rfl (cB I) n (X 4 rfl n (aZ (cB I) rfl) ?_))
    obtain rfl := sj N
    refine fO kr (a9 _ _ ⟨_, (d.aF St), b4, d6, d7, b5, d8, d9, e0, rfl⟩)
  rintro E W ⟨u, M, D, x, b1, ⟨eI, eN⟩, K, q, d, d5, a4, b3, H, J⟩
  rw [List.drop_length] at J
  refine aR (sg (Wh a4 (Wa (lt ?_))))
  obtain rfl := sj J
  refine dH (v := u) rfl rfl ?_
  obtain ⟨o1, d, g4, L, j3⟩ := ST.ms aN d H
  exact ⟨_, _, _, rfl, (d.ej Sn), (K.trans g4), (q.trans L), (ST.cJ d (eE.mem Sn)), u, rfl, rfl, j3⟩
set_option maxHeartbeats 1000000 in
theorem oe (t : Nat) (T : cW) (u : Int) (d0 : Value) (a2 : List Formula) (r : (Formula × cW)) (w : World) {μ0 : bW} (h0 : gj μ0 ((t, Ol (eK T) 415) :: []) w) (c9 : Sl aD 5 μ0 d0 a2) (hm : iF T u a2 = some r) :
    dR false Tryz.prog 430 [(.pointer (some ⟨t, 0, none⟩)), (.int .i64 u), d0] w μ0 ((t, Ol (eK T) 415) :: []) (fun v L1 μ1 => ∃ y1, v = (.agg #[(.int .i64 ((r.1).Op)), (.int .i64 ((r.1).K)), (.string (((r.1).aA).aC)), (.string (((r.1).aA).aJ)), y1]) ∧ L1 = ((t, Ol (eK (r.2)) 415) :: []) ∧ Sl aD 5 μ1 y1 ((r.1).Kids)) := by
  let g6 : Value := (.pointer (some ⟨t, 0, none⟩))
  let a0 := ((eK T).toArray : Array Value)
  let e5 := ((t, Obj.cells a0 415 (0, 0)) :: [])
  refine nm h0 75 func430 rfl (fun d => sg (VE (bR d zeroValue113 (fun W2 R d => lr (Wa (lS (Wm ?_)))))))
  let g5 : Value := (.pointer (some ⟨R, 0, none⟩))
  refine V (cU underlying111 rfl c9) (Wm (ln (cK (fun i E W => ∃ J I H c3, (E 14 = .int .i64 (i : Nat) ∧ E 13 = .int .i64 (a2.length : Nat)) ∧ ST false (keys e5) w W μ0 ((R, Ol C4 113) :: ((t, Obj.cells a0 415 (0, 0)) :: (H ++ c3))) ∧ E 0 = g6 ∧ E 1 = (.int .i64 u) ∧ E 6 = g5 ∧ E 7 = J ∧ E 12 = d0 ∧ cL 113 aD 5 μ0 J I H ∧ fH u T (a2.drop i) I = some r) a2.length c9.len ⟨(.slice none 0 0), ([]), [], _, ⟨rfl, rfl⟩, (d.aF St), rfl, rfl, rfl, rfl, rfl, (cL.nil _ _ _ _), hm⟩ dc dc dc (fun _ _ _ h => by obtain ⟨_, _, _, _, q, _⟩ := h; exact q) ?_ ?_)))
  · rintro h8 E W f4 ⟨J, I, H, c3, ⟨p, A⟩, d, b2, N, Z, L, b3, G, c⟩
    obtain ⟨a, i8, g7, g4, d5⟩ := cC f4
    rw [g7] at c
    refine bg (VQ (ei (i := (h8 : Int)) (x0 := a) aD.out underlying111 sizeOf113 b3 p c9 (Int.natCast_nonneg _) g4) (fun l3 ⟨_, ⟨l8, rfl, a3⟩, f7⟩ => V (aH rfl (bE d.has f7 isAgg113 sizeOf113)) (VE (bR d zeroValue113 (fun j4 k9 d => ?_)))))
    obtain ⟨y, z, rfl⟩ := a3.form
    let F := (C1 a.Op a.K a.aA.aC a.aA.aJ y a.Kids.length z)
    refine VO (aX (.agg F.toArray) (F.toArray) d rfl rfl sizeOf113 oc nb rfl (fun j5 d => lS (Wf fq (VB d Mh rfl rfl isAgg3 (Wh N (Wi rfl (ln (CI c rfl (fun e8 c => ?_) (fun e8 c => ?_)))))))))
    · refine sg (Wh L (Wf fu (VB d Mh rfl rfl isAgg111 ?_)))
      replace d := d.perm (Nr (Qb (Qb (Qb Qz))) Nz)
      refine bS c fun i0 e9 c => VE (iP (B := H) aN d dc underlying111 dI.1 dI.2.1 rfl dI.2.2.1 dI.2.2.2 rfl rfl G (qE.sl aN a3 d.aP) e9 (fun j6 i2 h2 d e6 => Wa (ln ?_)))
      replace d := d.aF (Kr (Db St))
      exact fI (fD (kz (aR ⟨p, i2, i0, h2, _, ⟨rfl, A⟩, (d.aF (Sb (Pr Pz) (Sb (Pr Pz) St))), b2, N, Z, rfl, b3, e6, (by rw [d5]; exact c)⟩)))
    refine kS (VA d Mh F isAgg113 sizeOf113 (Wh N (Wi rfl (bS c fun l6 g0 c => VE (Eg d call431 (bF.dK (rU a (.slice y a.Kids.length z) ((IntKind.i64.wrap (5 - u))) _ _ (a3.mono aN.mono d.aP) g0)) (fun j7 d => ln (CI c rfl (fun f0 c => ?_) (fun f0 c => ?_))))))))
    · let d2 := (BA ((IntKind.i64.wrap (5 - u))))
      refine sg (Wh N (Wi rfl (V (dJ (v := (.agg d2.toArray)) (dZ rfl) (cN zeroValue113 underlying113 (jZ _ underlying113) kr)) ?_)))
      replace d := d.perm (Nb (Pb Pz) Nz)
      refine VO (aX (.agg d2.toArray) (d2.toArray) d Z rfl sizeOf113 oc nb rfl (fun j8 d => ln ?_))
      replace d := d.aF (Kb (Db (Kb (Dr St))))
      refine bH (bU (eF (bU (eF (bU ?_)))))
      obtain rfl := sj c
      exact fA (v := (.agg d2.toArray)) rfl Z (aK d.has Mh d2 rfl isAgg113 sizeOf113) ⟨_, _, _, rfl, (d.ej (Db (Kb Sn))), (bO.refl _), Lo.refl, (ST.cJ d (eE.mem (Db (Kb Sn)))), (.slice none 0 0), rfl, rfl, (Sl.nil _ _ _)⟩
    refine kn (aU (Wh L (VA d Mh F isAgg113 sizeOf113 (VE (bJ (cs := F.toArray) d (dZ rfl) (ew underlying111 sizeOf113 zeroValue113) (fun j9 l0 d => ?_))))))
    replace d := d.perm (Nr (Qb (Qb (Qb (Qb Qz)))) Nz)
    refine bS c fun i1 f1 c => VE (iP (B := H) aN d dc underlying111 dI.1 dI.2.1 rfl dI.2.2.1 dI.2.2.2 rfl rfl G (qE.lit aN (l := [a]) (.cons (ys := C1 a.Op a.K a.aA.aC a.aA.aJ y a.Kids.length z) (aD.mk ⟨(.slice y a.Kids.length z), rfl, a3⟩) .nil) rfl nb (d.at_ (Ma Mh))) f1 (fun k0 i3 h3 d e7 => Wa (bK (bY (aR ?_)))))
    replace d := d.aF (Kr (Db (Db St)))
    exact ⟨p, i3, i1, h3, _, ⟨rfl, A⟩, (d.aF (Sb (Pr Pz) (Sb (Pr Pz) St))), b2, N, Z, rfl, b3, e7, (by rw [d5]; exact c)⟩
  rintro E W ⟨J, I, H, c3, ⟨p, A⟩, d, b2, N, Z, L, b3, G, c⟩
  rw [List.drop_length] at c
  refine aR (aW (sg (Wh L (V (lN underlying111 rfl G) (Wm (ln (MA c (fun e4 E W => ∃ d7, ST false (keys e5) w W μ0 ((R, Ol C4 113) :: ((t, Obj.cells a0 415 (0, 0)) :: (H ++ d7))) ∧ E 0 = g6 ∧ E 1 = (.int .i64 u) ∧ E 6 = g5 ∧ E 7 = J) (fun e4 f6 b6 => ?_) ?_)))))))
  · refine cK (fun i E W => ∃ c4, (E 40 = .int .i64 (i : Nat) ∧ E 39 = .int .i64 (I.length : Nat)) ∧ ST false (keys e5) w W μ0 ((R, Ol C4 113) :: ((t, Obj.cells a0 415 (0, 0)) :: (H ++ c4))) ∧ E 0 = g6 ∧ E 1 = (.int .i64 u) ∧ E 6 = g5 ∧ E 7 = J ∧ E 38 = J ∧ iK u T (I.drop i) = some e4) I.length G.len ⟨_, ⟨rfl, rfl⟩, (d.aF St), b2, N, Z, L, rfl, f6⟩ dc dc dc (fun _ _ _ h => by obtain ⟨_, q, _⟩ := h; exact q) ?_ ?_
    · rintro h9 E W f5 ⟨c4, ⟨p, A⟩, d, c6, O, P, c7, c8, k⟩
      obtain ⟨j, i9, g9, g8, h1⟩ := cC f5
      rw [g9] at k
      refine bg (VQ (cX (i := (h9 : Int)) aD.out underlying111 sizeOf113 c8 p G (Int.natCast_nonneg _) g8) (fun l5 ⟨_, ⟨m1, rfl, d4⟩, f9, i7⟩ => V (aH rfl (bE (gf.hp _) (f9.mono (ep (fun b o hq => d.has.2 b o (Mt (Mt (Ml hq)))))) isAgg113 sizeOf113)) (VE (bR d zeroValue113 (fun k5 l1 d => ?_)))))
      obtain ⟨a9, b0, rfl⟩ := d4.form
      let d9 := (C1 j.Op j.K j.aA.aC j.aA.aJ a9 j.Kids.length b0)
      let s := ((IntKind.i64.wrap (5 - u)))
      refine VO (aX (.agg d9.toArray) (d9.toArray) d rfl rfl sizeOf113 oc nb rfl (fun k6 d => lr (VA d Mh d9 isAgg113 sizeOf113 (Wh O (Wi rfl (bS k fun l7 g2 k => VE (Eg d call431 (bF.dK (rU j (.slice a9 j.Kids.length b0) s _ _ (d4.mono aN.mono d.aP) g2)) (fun k7 d => ln ?_))))))))
      replace d := d.aF (Db St)
      refine CI k rfl (fun f3 k => ?_) (fun f3 k => ?_)
      · refine sg (Wh O (Wi rfl (V (dJ (v := (.agg (BA s).toArray)) (dZ rfl) (cN zeroValue113 underlying113 (jZ _ underlying113) kr)) (VO (aX (.agg (BA s).toArray) ((BA s).toArray) d P rfl sizeOf113 oc nb rfl (fun k8 d => ln ?_))))))
        replace d := d.aF (Kb (Kb (Dr St)))
        refine bH (eF (bU (eF (bU ?_))))
        obtain rfl := sj k
        replace b6 : some ((⟨(IntKind.i64.wrap (5 - u)), 0, K0, []⟩ : Formula), T) = some r := b6
        obtain rfl := sj b6
        exact fA (v := (.agg (BA s).toArray)) rfl P (aK d.has Mh (BA s) rfl isAgg113 sizeOf113) ⟨_, _, _, rfl, (d.ej (Db (Kb Sn))), (bO.refl _), Lo.refl, (ST.cJ d (eE.mem (Db (Kb Sn)))), (.slice none 0 0), rfl, rfl, (Sl.nil _ _ _)⟩
      exact cZ (bY (aR ⟨p, _, ⟨rfl, A⟩, (d.aF St), c6, O, P, c7, c8, (by rw [h1]; exact k)⟩))
    rintro E W ⟨c4, ⟨p, A⟩, d, c6, O, P, c7, c8, k⟩
    rw [List.drop_length] at k
    refine aR ?_
    obtain rfl := sj k
    exact ⟨_, rfl, _, (d.aF St), c6, O, P, c7⟩
  rintro ⟨⟩ E W ⟨d7, d, e0, e1, e2, h4⟩ b5
  refine sg (Wh h4 ?_)
  replace d := d.perm (Nr (Qb (Qb Qz)) Nz)
  obtain ⟨m4, d, c0, m, g3⟩ := ST.ms aN d G
  refine bS b5 fun Q g1 b5 => ?_
  refine VE (eD d (List.Perm.refl _) call432 (fun hh => (wH J I true _ _ hh (g3.mono aN.mono (bO.refl _)) g1)) ?_ (L0 := []))
  rintro _ l9 i5 j3 d c1 n ⟨i4, b7, rfl, Y⟩
  obtain rfl := b7.symm
  refine Wa (lr (Wh e0 (Wh e0 (Wn (Wf Cu (VB d (Mt Mh) rfl rfl isAgg4 (Wm (LJ b5 (fun e3 E W => ∃ d8, ST false (keys e5) w W i5 ((R, Ol C4 113) :: ((t, Obj.cells a0 415 (0, 0)) :: d8)) ∧ E 1 = (.int .i64 u) ∧ E 6 = g5 ∧ E 7 = i4 ∧ E 54 = g6 ∧ E 63 = (.bool e3)) 4 ?_ (fun e3 U c2 => ?_)))))))))
  · rintro d1 E W ⟨d8, d, h5, b4, c5, h6, h7⟩ D
    refine V (fG h6) (Wf Cu ?_)
    replace d := d.perm (Nb (Pb Pz) Nz)
    refine VO (aX (.bool d1) ((eK ((⟨d1⟩ : cW))).toArray) d rfl h7 sizeOf4 (MM d1) nb rfl (fun k2 d => lS (Wh c5 (V (cU underlying111 rfl Y) (Wi rfl (ln (CI D rfl (fun f2 D => ?_) (fun f2 D => ?_))))))))
    · refine sg (Wh c5 (bS D fun g d6 D => VQ (ei (i := 0) (x0 := g) aD.out underlying111 sizeOf113 rfl rfl Y (bV d6) (bQ d6)) (fun l4 ⟨_, ⟨m0, rfl, d3⟩, f8⟩ => V (aH rfl (bE d.has f8 isAgg113 sizeOf113)) ?_)))
      obtain ⟨a4, a5, rfl⟩ := d3.form
      let b8 := (C1 g.Op g.K g.aA.aC g.aA.aJ a4 g.Kids.length a5)
      replace d := d.perm (Nb (Pb Pz) Nz)
      refine VO (aX (.agg b8.toArray) (b8.toArray) d b4 rfl sizeOf113 oc nb rfl (fun k3 d => lt (bU ?_)))
      obtain rfl := sj D
      exact fA (v := (.agg b8.toArray)) rfl b4 (aK d.has Mh b8 rfl isAgg113 sizeOf113) ⟨_, _, _, rfl, (d.ej (Db (Kb Sn))), (c0.trans c1), (m.trans n), (ST.cJ d (eE.mem (Db (Kb Sn)))), (.slice a4 g.Kids.length a5), rfl, rfl, d3⟩
    refine kg (Wh h5 (Wh c5 ?_))
    obtain ⟨K, M, rfl⟩ := Y.form
    let i6 := (Mw u K Q.length M)
    refine V (dJ (v := (.agg i6.toArray)) (gK rfl rfl) (cN zeroValue113 underlying113 (jZ _ underlying113) kr)) ?_
    replace d := d.perm (Nb (Pb Pz) Nz)
    refine VO (aX (.agg i6.toArray) (i6.toArray) d b4 rfl sizeOf113 oc nb rfl (fun k4 d => lt ?_))
    obtain rfl := sj D
    exact fA (v := (.agg i6.toArray)) rfl b4 (aK d.has Mh i6 rfl isAgg113 sizeOf113) ⟨_, _, _, rfl, (d.ej (Db (Kb Sn))), (c0.trans c1), (m.trans n), (ST.cJ d (eE.mem (Db (Kb Sn)))), (.slice K Q.length M), rfl, rfl, Y⟩
  refine bC U (fun x U => ?_) (fun x U => ?_)
  · refine un x (un x (un x (V (aY (cB x) rfl) ?_)))
    obtain rfl := sj U
    exact c2 _ _ ⟨_, (d.aF St), e1, e2, rfl, rfl, rfl⟩
  refine ug x (aQ rfl) (ug x (cU underlying111 rfl Y) (ug x (cF rfl rfl rfl) (V (aZ (cB x) rfl) ?_)))
  obtain rfl := sj U
  exact c2 _ _ ⟨_, (d.aF St), e1, e2, rfl, rfl, rfl⟩
set_option maxHeartbeats 1000000 in
theorem tU (h6 : cW → Formula → Option ((Formula × cW))) (m0 : ∀ (k : Nat) (a0 : cW) (g : Formula) (I : Value) (r : (Formula × cW)) (w : World) {μ0 : bW} (h0 : gj μ0 ((k, Ol (eK a0) 415) :: []) w) (G : Sl aD 5 μ0 I g.Kids), h6 a0 g = some r → dR false Tryz.prog 405 [(.pointer (some ⟨k, 0, none⟩)), (.agg #[(.int .i64 g.Op), (.int .i64 g.K), (.string g.aA.aC), (.string g.aA.aJ), I])] w μ0 ((k, Ol (eK a0) 415) :: []) (fun v L1 μ1 => ∃ y1, v = (.agg #[(.int .i64 ((r.1).Op)), (.int .i64 ((r.1).K)), (.string (((r.1).aA).aC)), (.string (((r.1).aA).aJ)), y1]) ∧ L1 = ((k, Ol (eK (r.2)) 415) :: []) ∧ Sl aD 5 μ1 y1 ((r.1).Kids))) (k : Nat) (a0 : cW) (g : Formula) (I : Value) (r : (Formula × cW)) (w : World) {μ0 : bW} (h0 : gj μ0 ((k, Ol (eK a0) 415) :: []) w) (G : Sl aD 5 μ0 I g.Kids) (hm : lM h6 a0 g = some r) :
    dR false Tryz.prog 405 [(.pointer (some ⟨k, 0, none⟩)), (.agg #[(.int .i64 g.Op), (.int .i64 g.K), (.string g.aA.aC), (.string g.aA.aJ), I])] w μ0 ((k, Ol (eK a0) 415) :: []) (fun v L1 μ1 => ∃ y1, v = (.agg #[(.int .i64 ((r.1).Op)), (.int .i64 ((r.1).K)), (.string (((r.1).aA).aC)), (.string (((r.1).aA).aJ)), y1]) ∧ L1 = ((k, Ol (eK (r.2)) 415) :: []) ∧ Sl aD 5 μ1 y1 ((r.1).Kids)) := by
  let i0 : Value := (.pointer (some ⟨k, 0, none⟩))
  let b8 := ((k, Ol (eK a0) 415) :: [])
  refine nm h0 82 func405 rfl (fun d => sg ?_)
  obtain ⟨A1, c2, rfl⟩ := G.form
  let a1 := (C1 g.Op g.K g.aA.aC g.aA.aJ A1 g.Kids.length c2)
  refine VE (bX d rfl (fun W4 b3 d => VE (bR d zeroValue113 (fun W6 b5 d => lS (Wf fq (VB d (Mt Mh) rfl rfl isAgg3 (Wi rfl (ln (CI hm rfl (fun n1 hm => ?_) (fun n1 hm => ?_))))))))))
  · refine sg (VA d (Mt Mh) a1 isAgg113 sizeOf113 (VO (aX (.agg a1.toArray) (a1.toArray) d rfl rfl sizeOf113 oc nb rfl (fun W8 d => ln ?_))))
    replace d := d.aF (Kb (Db St))
    refine bH (bU ?_)
    obtain rfl := sj hm
    exact fA (v := (.agg a1.toArray)) rfl rfl (aK d.has Mh a1 rfl isAgg113 sizeOf113) ⟨_, _, _, rfl, (d.ej (Db (Kb Sn))), (bO.refl _), Lo.refl, (ST.cJ d (eE.mem (Db (Kb Sn)))), (.slice A1 g.Kids.length c2), rfl, rfl, G⟩
  refine kg (Wa (lS (Wf fu (VB d (Mt Mh) rfl rfl isAgg111 (V (cU underlying111 rfl G) (Wm (bK ?_)))))))
  let h9 : Value := (.pointer (some ⟨b5, 0, none⟩))
  refine aR (cK (fun i E W => ∃ b0 U a8 N Q f1, (E 19 = .int .i64 (i : Nat) ∧ E 18 = .int .i64 (g.Kids.length : Nat)) ∧ bO μ0 Q ∧ Lo (keys b8) w μ0 Q ∧ ST false (keys b8) w W Q ((k, Ol (eK N) 415) :: ((b5, Ol C4 113) :: ((b3, Ol a1 113) :: (a8 ++ f1)))) ∧ E 0 = i0 ∧ E 3 = (.pointer (some ⟨b3, 0, none⟩)) ∧ E 4 = h9 ∧ E 5 = b0 ∧ E 17 = (.slice A1 g.Kids.length c2) ∧ cL 113 aD 5 Q b0 U a8 ∧ fQ h6 g (g.Kids.drop i) U N = some r) g.Kids.length G.len ⟨(.slice none 0 0), ([]), [], a0, μ0, _, ⟨rfl, rfl⟩, (bO.refl _), Lo.refl, (d.aF (Sb (Pb (Pb Pz)) St)), rfl, rfl, rfl, rfl, rfl, (cL.nil _ _ _ _), hm⟩ dc dc dc (fun _ _ _ h => by obtain ⟨_, _, _, _, _, _, q, _⟩ := h; exact q) ?_ ?_)
  · rintro m1 E W j6 ⟨b0, U, a8, N, Q, f1, ⟨n, s⟩, H, m, d, c7, c8, c9, e2, f4, Y, u⟩
    obtain ⟨D, n3, l3, l2, l4⟩ := cC j6
    rw [l3] at u
    refine bg (VQ (ei (i := (m1 : Int)) (x0 := D) aD.out underlying111 sizeOf113 f4 n (G.mono aN.mono H) (Int.natCast_nonneg _) l2) (fun q5 ⟨_, ⟨q9, rfl, f6⟩, j9⟩ => V (aH rfl (bE d.has j9 isAgg113 sizeOf113)) (VE (bR d zeroValue113 (fun o0 q1 d => ?_)))))
    obtain ⟨d9, e1, rfl⟩ := f6.form
    let g2 := (C1 D.Op D.K D.aA.aC D.aA.aJ d9 D.Kids.length e1)
    refine VO (aX (.agg g2.toArray) (g2.toArray) d rfl rfl sizeOf113 oc nb rfl (fun o1 d => ln (aU (Wh e2 (Wh c7 (VA d Mh g2 isAgg113 sizeOf113 (bS u fun t k1 u => ?_)))))))
    refine VE (eD d (Cb (Pb Pz) Cn) call405 (fun p => (m0 k N D (.slice d9 D.Kids.length e1) _ _ p (f6.mono aN.mono (bO.refl _)) k1)) ?_)
    rintro _ r0 m8 n5 d f0 A ⟨r6, e3, rfl, f7⟩
    obtain rfl := e3.symm
    replace d := d.perm (Tb Tn)
    obtain ⟨b7, c3, rfl⟩ := f7.form
    let i1 : Value := (.slice b7 ((t.1).Kids).length c3)
    refine VE (bJ (cs := #[(.int .i64 ((t.1).Op)), (.int .i64 ((t.1).K)), (.string (((t.1).aA).aC)), (.string (((t.1).aA).aJ)), i1]) d (dZ rfl) (ew underlying111 sizeOf113 zeroValue113) (fun o3 q2 d => ?_))
    replace d := d.perm (Nr (Qb (Qb (Qb (Qb (Qb Qz))))) Nz)
    refine bS u fun m3 i5 u => VE (iP (B := a8) aN d dc underlying111 dI.1 dI.2.1 rfl dI.2.2.1 dI.2.2.2 rfl rfl (Y.mono aN f0) (qE.lit aN (l := [t.1]) (.cons (ys := [(.int .i64 ((t.1).Op)), (.int .i64 ((t.1).K)), (.string (((t.1).aA).aC)), (.string (((t.1).aA).aJ)), i1]) (aD.mk ⟨i1, rfl, f7⟩) .nil) rfl nb (d.at_ (Ma Mh))) i5 (fun o4 m5 l8 d i3 => Wa (bK (bY (aR ?_)))))
    replace d := d.aF (Kr (Db (Kb (Db St))))
    exact ⟨n, m5, m3, l8, t.2, m8, _, ⟨rfl, s⟩, (H.trans f0), (m.trans A), (d.aF (Sb (Pr Pz) (Sb (Pr Pz) (Sb (Pr Pz) St)))), c7, c8, c9, rfl, f4, i3, (by rw [l4]; exact u)⟩
  rintro E W ⟨b0, U, a8, N, Q, f1, ⟨n, s⟩, H, m, d, c7, c8, c9, e2, f4, Y, u⟩
  rw [List.drop_length] at u
  refine aR (aW (sg (V (aO fq c8) (VB d (Mt (Mt Mh)) rfl rfl isAgg3 (Wi rfl (ln (CI u rfl (fun i6 u => ?_) (fun i6 u => ?_))))))))
  · refine sg (Wh c7 (V (aO fq c8) (VB d (Mt (Mt Mh)) rfl rfl isAgg3 (Wh e2 ?_))))
    replace d := d.perm (Nr (Qb (Qb (Qb Qz))) Nz)
    obtain ⟨s1, d, g7, F, k8⟩ := ST.ms aN d Y
    refine bS u fun x k2 u => ?_
    let l7 : Value := (.string (((x.1).aA).aJ))
    let i2 : Value := (.string (((x.1).aA).aC))
    refine VE (eD d (Cb Pz Cn) call430 (fun p => (oe k N g.Op b0 U _ _ p (k8.mono aN.mono (bO.refl _)) k2)) ?_)
    rintro _ r1 s2 n6 d g8 L ⟨r7, e4, rfl, f8⟩
    obtain rfl := e4.symm
    replace d := d.perm (Tb Tn)
    obtain ⟨b9, c4, rfl⟩ := f8.form
    let g5 : Value := (.slice b9 ((x.1).Kids).length c4)
    let d7 : Value := (.agg #[(.int .i64 ((x.1).Op)), (.int .i64 ((x.1).K)), i2, l7, g5])
    replace d := d.perm (Nb (Pb Pz) Nz)
    refine VO (aX d7 (#[(.int .i64 ((x.1).Op)), (.int .i64 ((x.1).K)), i2, l7, g5]) d c9 rfl sizeOf113 oc nb rfl (fun o6 d => ln ?_))
    replace d := d.aF (Kb (Kb (Db St)))
    refine bH (bU ?_)
    obtain rfl := sj u
    exact fA (v := d7) rfl c9 (aK d.has Mh [(.int .i64 ((x.1).Op)), (.int .i64 ((x.1).K)), i2, l7, g5] rfl isAgg113 sizeOf113) ⟨_, _, _, rfl, (d.ej (Db (Kb Sn))), ((H.trans g7).trans g8), ((m.trans F).trans L), (ST.cJ d (eE.mem (Db (Kb Sn)))), g5, rfl, rfl, f8⟩
  refine kg (V (aO jm c8) (VB d (Mt (Mt Mh)) rfl rfl isAgg3 (Wa (ln ?_))))
  replace d := d.aF (Kb (Kb (Db St)))
  let o2 := ((eK N).toArray : Array Value)
  refine sg (Wa (lS (Wh e2 (V (lN underlying111 rfl Y) (Wm (ln (CJ u (fun e9 E W => ∃ b1 f3 g3, ST false (keys b8) w W Q ((k, Obj.cells o2 415 (0, 0)) :: ((b5, Ol C4 113) :: (f3 ++ g3))) ∧ E 0 = i0 ∧ E 4 = h9 ∧ E 8 = (.int .i64 e9.1) ∧ E 9 = b1 ∧ cL 113 aD 5 Q b1 e9.2 f3) (fun e9 j8 => ?_) ?_)))))))
  · refine cK (fun i E W => ∃ a5 a4 a9 T f2, (E 42 = .int .i64 (i : Nat) ∧ E 41 = .int .i64 (U.length : Nat)) ∧ ST false (keys b8) w W Q ((k, Obj.cells o2 415 (0, 0)) :: ((b5, Ol C4 113) :: (T ++ (a8 ++ f2)))) ∧ E 0 = i0 ∧ E 4 = h9 ∧ E 8 = (.int .i64 a5) ∧ E 9 = a4 ∧ E 40 = b0 ∧ cL 113 aD 5 Q a4 a9 T ∧ fz (U.drop i) a5 a9 = some e9) U.length Y.len ⟨g.K, (.slice none 0 0), ([]), [], _, ⟨rfl, rfl⟩, (d.aF St), c7, c9, rfl, rfl, rfl, (cL.nil _ _ _ _), j8⟩ dc dc dc (fun _ _ _ h => by obtain ⟨_, _, _, _, _, q, _⟩ := h; exact q) ?_ ?_
    · rintro m2 E W j7 ⟨a5, a4, a9, T, f2, ⟨n, s⟩, d, d2, d3, d4, d5, d6, a7, j⟩
      obtain ⟨a, n4, l6, l5, e8⟩ := cC j7
      rw [l6] at j
      refine bg (VQ (cX (i := (m2 : Int)) aD.out underlying111 sizeOf113 d6 n Y (Int.natCast_nonneg _) l5) (fun q6 ⟨_, ⟨r5, rfl, b6⟩, k0, n2⟩ => V (aH rfl (bE (gf.hp _) (k0.mono (ep (fun b o hq => d.has.2 b o (Mt (Mt (Ma (Ml hq))))))) isAgg113 sizeOf113)) (VE (bR d zeroValue113 (fun p5 q3 d => ?_)))))
      obtain ⟨J, K, rfl⟩ := b6.form
      let n0 : Value := (.slice J a.Kids.length K)
      let b4 := (C1 a.Op a.K a.aA.aC a.aA.aJ J a.Kids.length K)
      refine VO (aX (.agg b4.toArray) (b4.toArray) d rfl rfl sizeOf113 oc nb rfl (fun p6 d => lr (VA d Mh b4 isAgg113 sizeOf113 (bS j fun q7 k6 j => VE (Eg d call431 (bF.dK (rU a n0 2 _ _ (b6.mono aN.mono d.aP) k6)) (fun p7 d => ln (CI j rfl (fun j3 j => ?_) (fun j3 j => ?_))))))))
      · refine aU (Wh d4 (Wi rfl (Wa (bK (bY (aR ?_))))))
        replace d := d.aF (Db St)
        exact ⟨n, ((IntKind.i64.wrap (a5 - 1))), a4, a9, T, _, ⟨rfl, s⟩, (d.aF St), d2, d3, rfl, d5, d6, a7, (by rw [e8]; exact j)⟩
      refine sg (VA d Mh b4 isAgg113 sizeOf113 (bS j fun q8 k7 j => VE (Eg d call431 (bF.dK (rU a n0 3 _ _ (b6.mono aN.mono d.aP) k7)) (fun p8 d => V (gn rfl) (ln (CI j rfl (fun j4 j => ?_) (fun j4 j => ?_)))))))
      · refine aU (Wh d5 (VA d Mh b4 isAgg113 sizeOf113 (VE (bJ (cs := b4.toArray) d (dZ rfl) (ew underlying111 sizeOf113 zeroValue113) (fun p9 q4 d => ?_)))))
        replace d := d.perm (Nr (Qb (Qb (Qb (Qb Qz)))) Nz)
        refine bS j fun m4 j5 j => VE (iP (B := T) aN d dc underlying111 dI.1 dI.2.1 rfl dI.2.2.1 dI.2.2.2 rfl rfl a7 (qE.lit aN (l := [a]) (.cons (ys := C1 a.Op a.K a.aA.aC a.aA.aJ J a.Kids.length K) (aD.mk ⟨n0, rfl, b6⟩) .nil) rfl nb (d.at_ (Ma Mh))) j5 (fun q0 m6 l9 d i4 => Wa (bK (bY (aR ?_)))))
        replace d := d.aF (Kr (Db (Db St)))
        exact ⟨n, a5, m6, m4, l9, _, ⟨rfl, s⟩, (d.aF (Sb (Pr Pz) (Sb (Pr Pz) St))), d2, d3, d4, rfl, d6, i4, (by rw [e8]; exact j)⟩
      refine cZ (bY (aR ?_))
      replace d := d.aF (Db St)
      exact ⟨n, a5, a4, a9, T, _, ⟨rfl, s⟩, (d.aF St), d2, d3, d4, d5, d6, a7, (by rw [e8]; exact j)⟩
    rintro E W ⟨a5, a4, a9, T, f2, ⟨n, s⟩, d, d2, d3, d4, d5, d6, a7, j⟩
    rw [List.drop_length] at j
    refine aR ?_
    obtain rfl := sj j
    exact ⟨a4, T, _, (d.aF (Kb (Kb (Kr (Dr St))))), d2, d3, d4, d5, a7⟩
  rintro ⟨b2, f5⟩ E W ⟨b1, f3, g3, d, g4, M, d0, d1, a6⟩ c
  refine aW (sg (Wh d0 (Wi rfl (ln (CI c rfl (fun i7 c => ?_) (fun i7 c => ?_))))))
  · refine sg (V (dJ (v := (.agg vJ.toArray)) (dZ rfl) (cN zeroValue113 underlying113 (jZ _ underlying113) kr)) ?_)
    replace d := d.perm (Nb (Pb Pz) Nz)
    refine VO (aX (.agg vJ.toArray) (vJ.toArray) d M rfl sizeOf113 oc nb rfl (fun o7 d => ln ?_))
    replace d := d.aF (Kb (Kb (Dr St)))
    refine bH (bU ?_)
    obtain rfl := sj c
    exact fA (v := (.agg vJ.toArray)) rfl M (aK d.has Mh vJ rfl isAgg113 sizeOf113) ⟨_, _, _, rfl, (d.ej (Db (Kb Sn))), H, m, (ST.cJ d (eE.mem (Db (Kb Sn)))), (.slice none 0 0), rfl, rfl, (Sl.nil _ _ _)⟩
  refine kS (Wh d0 (Wh d1 (V (lN underlying111 rfl a6) (Wi rfl (ln (CI c rfl (fun i8 c => ?_) (fun i8 c => ?_)))))))
  · refine sg (V (dJ (v := (.agg zP.toArray)) (dZ rfl) (cN zeroValue113 underlying113 (jZ _ underlying113) kr)) ?_)
    replace d := d.perm (Nb (Pb Pz) Nz)
    refine VO (aX (.agg zP.toArray) (zP.toArray) d M rfl sizeOf113 oc nb rfl (fun o8 d => ln ?_))
    replace d := d.aF (Kb (Kb (Dr St)))
    refine bH (bU ?_)
    obtain rfl := sj c
    exact fA (v := (.agg zP.toArray)) rfl M (aK d.has Mh zP rfl isAgg113 sizeOf113) ⟨_, _, _, rfl, (d.ej (Db (Kb Sn))), H, m, (ST.cJ d (eE.mem (Db (Kb Sn)))), (.slice none 0 0), rfl, rfl, (Sl.nil _ _ _)⟩
  refine kS (Wh d0 (Wh d1 (V (lN underlying111 rfl a6) (Wi rfl (ln (CI c rfl (fun i9 c => ?_) (fun i9 c => ?_)))))))
  · refine sg (Wh g4 (Wh d1 ?_))
    replace d := d.perm (Nr (Qb (Qb Qz)) Nz)
    obtain ⟨s3, d, g9, O, k9⟩ := ST.ms aN d a6
    refine bS c fun y k3 c => ?_
    let m7 : Value := (.string (((y.1).aA).aJ))
    let j1 : Value := (.string (((y.1).aA).aC))
    refine VE (eD d (Cb Pz Cn) call430 (fun p => (oe k N 2 b1 f5 _ _ p (k9.mono aN.mono (bO.refl _)) k3)) ?_)
    rintro _ r2 s4 n7 d h1 P ⟨r8, e5, rfl, f9⟩
    obtain rfl := e5.symm
    replace d := d.perm (Tb Tn)
    obtain ⟨c0, c5, rfl⟩ := f9.form
    let g6 : Value := (.slice c0 ((y.1).Kids).length c5)
    let d8 : Value := (.agg #[(.int .i64 ((y.1).Op)), (.int .i64 ((y.1).K)), j1, m7, g6])
    replace d := d.perm (Nb (Pb Pz) Nz)
    refine VO (aX d8 (#[(.int .i64 ((y.1).Op)), (.int .i64 ((y.1).K)), j1, m7, g6]) d M rfl sizeOf113 oc nb rfl (fun p0 d => lt (bU ?_)))
    obtain rfl := sj c
    exact fA (v := d8) rfl M (aK d.has Mh [(.int .i64 ((y.1).Op)), (.int .i64 ((y.1).K)), j1, m7, g6] rfl isAgg113 sizeOf113) ⟨_, _, _, rfl, (d.ej (Db (Kb Sn))), ((H.trans g9).trans h1), ((m.trans O).trans P), (ST.cJ d (eE.mem (Db (Kb Sn)))), g6, rfl, rfl, f9⟩
  refine kS (Wh d0 (Wi rfl (ln (CI c rfl (fun j0 c => ?_) (fun j0 c => ?_)))))
  · refine sg (Wh g4 (Wh d1 ?_))
    replace d := d.perm (Nr (Qb (Qb Qz)) Nz)
    obtain ⟨s5, d, h2, R, l0⟩ := ST.ms aN d a6
    refine bS c fun z k4 c => ?_
    let m9 : Value := (.string (((z.1).aA).aJ))
    let j2 : Value := (.string (((z.1).aA).aC))
    refine VE (eD d (Cb Pz Cn) call430 (fun p => (oe k N 3 b1 f5 _ _ p (l0.mono aN.mono (bO.refl _)) k4)) ?_)
    rintro _ r3 s6 n8 d h3 aa ⟨r9, e6, rfl, g0⟩
    obtain rfl := e6.symm
    replace d := d.perm (Tb Tn)
    obtain ⟨c1, c6, rfl⟩ := g0.form
    let h7 : Value := (.slice c1 ((z.1).Kids).length c6)
    let e0 : Value := (.agg #[(.int .i64 ((z.1).Op)), (.int .i64 ((z.1).K)), j2, m9, h7])
    replace d := d.perm (Nb (Pb Pz) Nz)
    refine VO (aX e0 (#[(.int .i64 ((z.1).Op)), (.int .i64 ((z.1).K)), j2, m9, h7]) d M rfl sizeOf113 oc nb rfl (fun p2 d => lt (bU ?_)))
    obtain rfl := sj c
    exact fA (v := e0) rfl M (aK d.has Mh [(.int .i64 ((z.1).Op)), (.int .i64 ((z.1).K)), j2, m9, h7] rfl isAgg113 sizeOf113) ⟨_, _, _, rfl, (d.ej (Db (Kb Sn))), ((H.trans h2).trans h3), ((m.trans R).trans aa), (ST.cJ d (eE.mem (Db (Kb Sn)))), h7, rfl, rfl, g0⟩
  refine kg (Wh d0 (Wh d1 ?_))
  replace d := d.perm (Nr (Qb (Qb Qz)) Nz)
  obtain ⟨s7, d, h4, ab, l1⟩ := ST.ms aN d a6
  refine bS c fun a3 k5 c => ?_
  refine VE (eD d (List.Perm.refl _) call432 (fun p => (wH b1 f5 false _ _ p (l1.mono aN.mono (bO.refl _)) k5)) ?_ (L0 := []))
  rintro _ r4 s8 n9 d h5 ad ⟨s0, e7, rfl, g1⟩
  obtain rfl := e7.symm
  obtain ⟨Z, a2, rfl⟩ := g1.form
  let h8 := (Mz b2 Z a3.length a2)
  refine V (dJ (v := (.agg h8.toArray)) (yk rfl rfl rfl) (cN zeroValue113 underlying113 (jZ _ underlying113) kr)) ?_
  replace d := d.perm (Nb (Pb Pz) Nz)
  refine VO (aX (.agg h8.toArray) (h8.toArray) d M rfl sizeOf113 oc nb rfl (fun p4 d => lt ?_))
  obtain rfl := sj c
  exact fA (v := (.agg h8.toArray)) rfl M (aK d.has Mh h8 rfl isAgg113 sizeOf113) ⟨_, _, _, rfl, (d.ej (Db (Kb Sn))), ((H.trans h4).trans h5), ((m.trans ab).trans ad), (ST.cJ d (eE.mem (Db (Kb Sn)))), (.slice Z a3.length a2), rfl, rfl, g1⟩
theorem qV : ∀ (n : Nat) (c : Nat) (j : cW) (g : Formula) (a : Value) (r : (Formula × cW)) (w : World) {k : bW} (y : gj k ((c, Ol (eK j) 415) :: []) w) (i : Sl aD 5 k a g.Kids) (_ : fF n j g = some r),
    dR false Tryz.prog 405 [(.pointer (some ⟨c, 0, none⟩)), (.agg #[(.int .i64 g.Op), (.int .i64 g.K), (.string g.aA.aC), (.string g.aA.aJ), a])] w k ((c, Ol (eK j) 415) :: []) (fun v u x => ∃ t, v = (.agg #[(.int .i64 ((r.1).Op)), (.int .i64 ((r.1).K)), (.string (((r.1).aA).aC)), (.string (((r.1).aA).aJ)), t]) ∧ u = ((c, Ol (eK (r.2)) 415) :: []) ∧ Sl aD 5 x t ((r.1).Kids))
  | 0 => by intros; rename_i h; simp only [fF] at h; cases h
  | n + 1 => tU (fF n) (qV n)
theorem AY (c : Formula) (u : Value) (r : (Formula × Int)) (w : World) {Z : bW} (A : gj Z [] w) (k : Sl aD 5 Z u c.Kids) (hm : sv c = some r) :
    dR false Tryz.prog 345 [(.agg #[(.int .i64 c.Op), (.int .i64 c.K), (.string c.aA.aC), (.string c.aA.aJ), u])] w Z [] (fun v L1 μ1 => ∃ q, v = (.tuple #[(.agg #[(.int .i64 ((r.1).Op)), (.int .i64 ((r.1).K)), (.string (((r.1).aA).aC)), (.string (((r.1).aA).aJ)), q]), (.int .i64 (r.2))]) ∧ L1 = [] ∧ Sl aD 5 μ1 q ((r.1).Kids)) := by
  refine nm A 26 func345 rfl (fun b => sg ?_)
  obtain ⟨H, I, rfl⟩ := k.form
  let n := (C1 c.Op c.K c.aA.aC c.aA.aJ H c.Kids.length I)
  refine VE (bX b rfl (fun W4 L b => VE (bR b zeroValue113 (fun W6 p b => Wa (lS (VA b (Mt Mh) n isAgg113 sizeOf113 (bS hm fun r7 a5 hm => VE (Eg b call291 ((rj c (.slice H c.Kids.length I) _ _ (k.mono aN.mono b.aP) a5)) (fun W9 b => V (gn rfl) (ln (CI hm rfl (fun Q hm => ?_) (fun Q hm => ?_))))))))))))
  · refine sg (V (dJ (v := (.agg C4.toArray)) ju (cN zeroValue113 underlying113 (jZ _ underlying113) kr)) (VO (aX (.agg C4.toArray) (C4.toArray) b rfl rfl sizeOf113 oc nb rfl (fun P b => Wa (ln ?_)))))
    replace b := b.aF (Kb (Db St))
    refine bH (bU ?_)
    obtain rfl := sj hm
    exact ir (v0 := (.agg C4.toArray)) (v1 := (.int .i64 11)) rfl rfl (aK b.has Mh C4 rfl isAgg113 sizeOf113) rfl ⟨_, _, _, rfl, (b.ej Sn), (bO.refl _), Lo.refl, (ST.cJ b (eE.mem Sn)), (.slice none 0 0), rfl, rfl, (Sl.nil _ _ _)⟩
  refine kg (V (dJ (v := (.agg (eK ((⟨false⟩ : cW))).toArray)) ju (cN zeroValue415 underlying415 (LU _ underlying415) kr)) (VE (bX b rfl (fun R s b => Wa (lr (Wm (VA b (Mt (Mt Mh)) n isAgg113 sizeOf113 (bS hm fun a U hm => ?_))))))))
  let m : Value := (.int .i64 ((a.1).K))
  let l : Value := (.int .i64 ((a.1).Op))
  let h : Value := (.string (((a.1).aA).aJ))
  let a2 : Value := (.string (((a.1).aA).aC))
  refine VE (eD b (Cb Pz Cn) call405 (fun F => ((qV bL) s ((⟨false⟩ : cW)) c (.slice H c.Kids.length I) _ _ F (k.mono aN.mono (bO.refl _)) U)) ?_)
  rintro _ c7 a9 O b D d ⟨c9, y, rfl, z⟩
  obtain rfl := y.symm
  replace b := b.perm (Tb Tn)
  refine VE (bR b zeroValue113 (fun c0 K b => ?_))
  obtain ⟨i, j, rfl⟩ := z.form
  let a0 : Value := (.slice i ((a.1).Kids).length j)
  let N : Value := (.agg #[l, m, a2, h, a0])
  refine VO (aX N (#[l, m, a2, h, a0]) b rfl rfl sizeOf113 oc nb rfl (fun c1 b => ln ?_))
  replace b := b.aF (Kb (Kb (Kb (Db St))))
  refine aW (sg (Wm (Wn (Wf Cu (VB b (Mt Mh) rfl rfl isAgg4 (Wm (LJ hm (fun M E W => ∃ J, ST false (keys []) w W a9 ((K, Ob #[l, m, a2, h, a0] 113) :: ((p, Ol C4 113) :: J)) ∧ E 2 = (.pointer (some ⟨p, 0, none⟩)) ∧ E 5 = (.pointer (some ⟨K, 0, none⟩)) ∧ E 23 = (.bool M)) 4 ?_ (fun M t G => ?_))))))))
  · rintro c8 E W ⟨J, b, B, a3, a4⟩ x
    refine ln (CI x a4 (fun T x => ?_) (fun T x => ?_))
    · refine sg (V (dJ (v := (.agg C4.toArray)) ju (cN zeroValue113 underlying113 (jZ _ underlying113) kr)) ?_)
      replace b := b.perm (Nb (Pb Pz) Nz)
      refine VO (aX (.agg C4.toArray) (C4.toArray) b B rfl sizeOf113 oc nb rfl (fun c3 b => Wa (ln ?_)))
      replace b := b.aF (Kb (Db St))
      refine bH (bU ?_)
      obtain rfl := sj x
      exact ir (v0 := (.agg C4.toArray)) (v1 := (.int .i64 12)) rfl B (aK b.has Mh C4 rfl isAgg113 sizeOf113) rfl ⟨_, _, _, rfl, (b.ej Sn), D, d, (ST.cJ b (eE.mem Sn)), (.slice none 0 0), rfl, rfl, (Sl.nil _ _ _)⟩
    refine kg (V (aH a3 (aK b.has Mh [l, m, a2, h, a0] rfl isAgg113 sizeOf113)) ?_)
    replace b := b.perm (Nb (Pb Pz) Nz)
    refine VO (aX N (#[l, m, a2, h, a0]) b B rfl sizeOf113 oc nb rfl (fun c4 b => Wa (ln ?_)))
    replace b := b.aF (Kb (Db St))
    refine bH ?_
    obtain rfl := sj x
    exact ir (v0 := N) (v1 := (.int .i64 0)) rfl B (aK b.has Mh [l, m, a2, h, a0] rfl isAgg113 sizeOf113) rfl ⟨_, _, _, rfl, (b.ej Sn), D, d, (ST.cJ b (eE.mem Sn)), a0, rfl, rfl, z⟩
  refine bC t (fun g t => ?_) (fun g t => ?_)
  · refine un g (un g (un g (V (aY (cB g) rfl) ?_)))
    obtain rfl := sj t
    exact G _ _ ⟨_, (b.aF (Kb (Db St))), rfl, rfl, rfl⟩
  refine ug g (aH rfl (aK b.has Mh [l, m, a2, h, a0] rfl isAgg113 sizeOf113)) (bS t fun c6 Y t => kf g (Eg b call291 ((rj a.1 a0 _ _ (z.mono aN.mono b.aP) Y)) (fun c5 b => ug g (gn rfl) (V (aZ (cB g) rfl) ?_))))
  obtain rfl := sj t
  exact G _ _ ⟨_, (b.aF (Kb (Db St))), rfl, rfl, rfl⟩
theorem wv (k : Value) (u : List aB) (g : aB) (r : Bool) (w : World) (j : Sl (Pl aG) 9 (hp w) k u) (hm : pw u g = some r) :
    bF true Tryz.prog 53 [k, (.agg (aG g).toArray)] w (.bool r) := by
  refine cG 17 func53 rfl (fun b => sg (VE (bX b rfl (fun Y J b => Wa (lS (Wm (V (cU underlying22 rfl j) (Wm (ln ?_)))))))))
  refine cK (fun i E W => ∃ t, (E 9 = .int .i64 (i : Nat) ∧ E 8 = .int .i64 (u.length : Nat)) ∧ ST true cA w W (hp w) ((J, Ol (aG g) 53) :: t) ∧ E 3 = (.pointer (some ⟨J, 0, none⟩)) ∧ E 7 = k ∧ qy g (u.drop i) = some r) u.length j.len ⟨_, ⟨rfl, rfl⟩, (b.aF St), rfl, rfl, hm⟩ dc dc dc (fun _ _ _ h => by obtain ⟨_, l, _⟩ := h; exact l) ?_ ?_
  · rintro K E W B ⟨t, ⟨d, m⟩, b, x, y, a⟩
    obtain ⟨c, M, H, G, I⟩ := cC B
    rw [H] at a
    refine bg (VQ (fJ (enc := aG) (i := (K : Int)) (x0 := c) underlying22 sizeOf53 y d j (Int.natCast_nonneg _) G) (fun U D => V (aH rfl (bE b.has D isAgg53 sizeOf53)) (VE (bR b zeroValue53 (fun N T b => VO (aX (.agg (aG c).toArray) ((aG c).toArray) b rfl rfl sizeOf53 (fC c) nb rfl (fun Q b => lr (VA b Mh (aG c) isAgg53 sizeOf53 (V (aH x (aK b.has (Mt Mh) (aG g) rfl isAgg53 sizeOf53)) (V (oa rfl rfl (fS eqGuardType53) (kC (oN _ c g))) (bK ?_)))))))))))
    refine aR ?_
    replace b := b.aF (Db St)
    refine CI a rfl (fun z a => ?_) (fun z a => ?_)
    · refine sg (Wa (ln ?_))
      replace b := b.aF (Db St)
      refine bH (eF (bU (eF (bU ?_))))
      obtain rfl := sj a
      exact rP b
    exact cZ (bY (aR ⟨d, _, ⟨rfl, m⟩, (b.aF St), x, y, (by rw [I]; exact a)⟩))
  rintro E W ⟨t, ⟨d, m⟩, b, x, y, a⟩
  rw [List.drop_length] at a
  refine aR ?_
  replace b := b.aF (Db St)
  exact sg (Wa (lt (rQ a b)))
set_option maxHeartbeats 1000000 in
theorem GV (Y : cR) (b3 c5 : Value) (p : aB) (r : (Formula × Int)) (w : World) {μ0 : bW} (h0 : gj μ0 [] w) (I : Sl bN 15 μ0 b3 Y.aT) (Q : Sl dF 8 μ0 c5 Y.bP) (hm : ux Y p = some r) :
    dR false Tryz.prog 284 [(.agg #[(.string Y.Name), b3, c5]), (.agg (aG p).toArray)] w μ0 [] (fun v L1 μ1 => ∃ y1, v = (.tuple #[(.agg #[(.int .i64 ((r.1).Op)), (.int .i64 ((r.1).K)), (.string (((r.1).aA).aC)), (.string (((r.1).aA).aJ)), y1]), (.int .i64 (r.2))]) ∧ L1 = [] ∧ Sl aD 5 μ1 y1 ((r.1).Kids)) := by
  refine nm h0 62 func284 rfl (fun b => sg ?_)
  obtain ⟨A1, c2, rfl⟩ := I.form
  obtain ⟨A3, c4, rfl⟩ := Q.form
  refine VE (bX b rfl (fun W6 b5 b => VE (bX b rfl (fun W8 O b => VE (bR b zeroValue113 (fun p4 P b => Wa (lS (Wf kD (VB b (Mt (Mt Mh)) rfl rfl isAgg107 (V (cU underlying107 rfl I) (Wm (ln ?_))))))))))))
  refine cK (fun i E W => ∃ e6, (E 15 = .int .i64 (i : Nat) ∧ E 14 = .int .i64 (Y.aT.length : Nat)) ∧ ST false (keys []) w W μ0 ((P, Ol C4 113) :: ((O, Ol (aG p) 53) :: ((b5, Ol (C5 Y.Name A1 Y.aT.length c2 A3 Y.bP.length c4) 110) :: e6))) ∧ E 2 = (.pointer (some ⟨b5, 0, none⟩)) ∧ E 3 = (.pointer (some ⟨O, 0, none⟩)) ∧ E 4 = (.pointer (some ⟨P, 0, none⟩)) ∧ E 13 = (.slice A1 Y.aT.length c2) ∧ pd p Y (Y.aT.drop i) = some r) Y.aT.length I.len ⟨_, ⟨rfl, rfl⟩, (b.aF St), rfl, rfl, rfl, rfl, hm⟩ dc dc dc (fun _ _ _ h => by obtain ⟨_, F, _⟩ := h; exact F) ?_ ?_
  · let f2 : Value := (.pointer (some ⟨P, 0, none⟩))
    rintro k8 E W i4 ⟨e6, ⟨A, R⟩, b, f0, d2, b0, f1, t⟩
    obtain ⟨c, l6, j7, j6, j8⟩ := cC i4
    rw [j7] at t
    refine bg (VQ (ei (i := (k8 : Int)) (x0 := c) bN.out underlying107 sizeOf138 f1 A I (Int.natCast_nonneg _) j6) (fun n6 ⟨_, ⟨n9, o0, rfl, j4, f3⟩, i7⟩ => V (aH rfl (bE b.has i7 isAgg138 sizeOf138)) (VE (bR b zeroValue138 (fun m1 n5 b => ?_)))))
    obtain ⟨g0, g4, rfl⟩ := j4.form
    obtain ⟨c7, d0, rfl⟩ := f3.form
    let a0 := (C3 c.Signed.aB.Kind c.Signed.aB.Head.aC c.Signed.aB.Head.aJ c.Signed.aB.cH c.Signed.aB.B.aC c.Signed.aB.B.aJ c.Signed.aB.C.aC c.Signed.aB.C.aJ c.Signed.aB.cO g0 c.Signed.Tag.length g4 c.aI.Op c.aI.K c.aI.aA.aC c.aI.aA.aJ c7 c.aI.Kids.length d0)
    refine VO (aX (.agg a0.toArray) (a0.toArray) b rfl rfl sizeOf138 oc nb rfl (fun m2 b => lS (Wf po (Wf qW (VA b Mh (aG c.Signed.aB) isAgg53 sizeOf53 (V (aH d2 (aK b.has (Mt (Mt Mh)) (aG p) rfl isAgg53 sizeOf53)) (V (BQ rfl rfl (fS eqGuardType53) (wM (oN _ c.Signed.aB p))) (ln (CI t rfl (fun i1 t => ?_) (fun i1 t => ?_))))))))))
    · refine fI (fD (kz (aR ?_)))
      replace b := b.aF (Db St)
      exact ⟨A, _, ⟨rfl, R⟩, (b.aF St), f0, d2, b0, f1, (by rw [j8]; exact t)⟩
    refine kg (Wf wJ (VA b Mh (C1 c.aI.Op c.aI.K c.aI.aA.aC c.aI.aA.aJ c7 c.aI.Kids.length d0) isAgg113 sizeOf113 (bS t fun j i9 t => ?_)))
    refine VE (eD b (List.Perm.refl _) call345 (fun hh => (AY c.aI (.slice c7 c.aI.Kids.length d0) _ _ hh (f3.mono aN.mono (bO.refl _)) i9)) ?_ (L0 := []))
    rintro _ o1 c0 l9 b c3 m ⟨o6, e0, rfl, f8⟩
    obtain rfl := e0.symm
    refine Wm (Wx rfl (Wx rfl (VE (bR b zeroValue113 (fun m4 a5 b => ?_)))))
    let g5 : Value := (.pointer (some ⟨a5, 0, none⟩))
    obtain ⟨e4, e8, rfl⟩ := f8.form
    let g6 : Value := (.slice e4 ((j.1).Kids).length e8)
    refine VO (aX (.agg #[(.int .i64 ((j.1).Op)), (.int .i64 ((j.1).K)), (.string (((j.1).aA).aC)), (.string (((j.1).aA).aJ)), g6]) (#[(.int .i64 ((j.1).Op)), (.int .i64 ((j.1).K)), (.string (((j.1).aA).aC)), (.string (((j.1).aA).aJ)), g6]) b rfl rfl sizeOf113 oc nb rfl (fun m5 b => Wa (ln ?_)))
    replace b := b.aF (Kb (Db St))
    refine aW (sg (V (aO Cq f0) (VB b (Mt (Mt (Mt Mh))) rfl rfl isAgg108 (V (cU underlying108 rfl Q) (Wm (ln ?_))))))
    replace b := b.aF (Kb (Kb (Kb (Db St))))
    refine CJ t (fun T E W => ∃ d9 c1 g1, bO c0 c1 ∧ Lo (keys []) w c0 c1 ∧ ST false (keys []) w W c1 ((a5, Ob #[(.int .i64 T.2.1), (.int .i64 T.2.2.1), (.string T.2.2.2.1.aC), (.string T.2.2.2.1.aJ), d9] 113) :: ((P, Ol C4 113) :: g1)) ∧ E 4 = f2 ∧ E 8 = g5 ∧ E 9 = (.int .i64 T.1) ∧ Sl aD 5 c1 d9 T.2.2.2.2) (fun T i6 => ?_) ?_
    · refine cK (fun i E W => ∃ L u x g U z J e7, (E 33 = .int .i64 (i : Nat) ∧ E 32 = .int .i64 (Y.bP.length : Nat)) ∧ bO c0 J ∧ Lo (keys []) w c0 J ∧ ST false (keys []) w W J ((a5, Ob #[(.int .i64 u), (.int .i64 x), (.string g.aC), (.string g.aJ), U] 113) :: ((P, Ol C4 113) :: ((O, Ol (aG p) 53) :: e7))) ∧ E 3 = (.pointer (some ⟨O, 0, none⟩)) ∧ E 4 = f2 ∧ E 8 = g5 ∧ E 9 = (.int .i64 L) ∧ E 31 = (.slice A3 Y.bP.length c4) ∧ Sl aD 5 J U z ∧ mz p (Y.bP.drop i) L u x g z = some T) Y.bP.length Q.len ⟨j.2, ((j.1).Op), ((j.1).K), ((j.1).aA), g6, ((j.1).Kids), c0, _, ⟨rfl, rfl⟩, (bO.refl _), Lo.refl, (b.aF St), d2, b0, rfl, rfl, rfl, f8, i6⟩ dc dc dc (fun _ _ _ h => by obtain ⟨_, _, _, _, _, _, _, _, F, _⟩ := h; exact F) ?_ ?_
      · rintro h4 E W i5 ⟨L, u, x, g, U, z, J, e7, ⟨A, R⟩, Z, d, b, d4, d5, d6, b1, d7, a3, K⟩
        obtain ⟨a, l7, k0, j9, f7⟩ := cC i5
        rw [k0] at K
        refine bg (VQ (ei (i := (h4 : Int)) (x0 := a) dF.out underlying108 sizeOf263 d7 A (Q.mono ev.mono (c3.trans Z)) (Int.natCast_nonneg _) j9) (fun n7 ⟨_, ⟨o2, o3, rfl, f5, f6⟩, i8⟩ => V (aH rfl (bE b.has i8 isAgg263 sizeOf263)) (VE (bR b zeroValue263 (fun m8 g3 b => ?_)))))
        obtain ⟨D, G, rfl⟩ := f5.form
        let h6 : Value := (.slice D a.aI.Kids.length G)
        obtain ⟨c8, d1, rfl⟩ := f6.form
        let b8 := (C7 a.aA.aC a.aA.aJ a.aI.Op a.aI.K a.aI.aA.aC a.aI.aA.aJ D a.aI.Kids.length G c8 a.eS.length d1)
        refine VO (aX (.agg b8.toArray) (b8.toArray) b rfl rfl sizeOf263 oc nb rfl (fun m9 b => lr (Wh b1 (Wi rfl (Wm (LJ K (fun h5 E W => ∃ g2, ST false (keys []) w W J ((g3, Ol b8 263) :: ((a5, Ob #[(.int .i64 u), (.int .i64 x), (.string g.aC), (.string g.aJ), U] 113) :: ((P, Ol C4 113) :: ((O, Ol (aG p) 53) :: g2)))) ∧ E 3 = (.pointer (some ⟨O, 0, none⟩)) ∧ E 4 = f2 ∧ E 8 = g5 ∧ E 9 = (.int .i64 L) ∧ E 11 = (.pointer (some ⟨g3, 0, none⟩)) ∧ E 31 = (.slice A3 Y.bP.length c4) ∧ E 32 = (.int .i64 ((Y.bP.length : Int))) ∧ E 33 = (.int .i64 ((h4 : Int))) ∧ E 44 = (.bool h5)) 5 ?_ (fun h5 N e3 => ?_)))))))
        · rintro o5 E W ⟨g2, b, g8, g9, d8, k5, k6, h1, h2, h3, k7⟩ M
          refine ln (CI M k7 (fun i3 M => ?_) (fun i3 M => ?_))
          · refine aU (V (aH d8 (aK b.has (Mt Mh) [(.int .i64 u), (.int .i64 x), (.string g.aC), (.string g.aJ), U] rfl isAgg113 sizeOf113)) (V (aO Cd k6) (VA b Mh (C1 a.aI.Op a.aI.K a.aI.aA.aC a.aI.aA.aJ D a.aI.Kids.length G) isAgg113 sizeOf113 ?_)))
            obtain ⟨a4, a6, rfl⟩ := a3.form
            refine VE (bJ (cs := #[(.int .i64 u), (.int .i64 x), (.string g.aC), (.string g.aJ), (.slice a4 z.length a6), (.int .i64 a.aI.Op), (.int .i64 a.aI.K), (.string a.aI.aA.aC), (.string a.aI.aA.aJ), h6]) b (gK rfl rfl) (ew underlying111 sizeOf113 zeroValue113) (fun n0 c9 b => V (dJ (v := (.agg #[(.int .i64 2), (.int .i64 0), (.string zS), (.string zS), (.slice (some ⟨c9, 0, none⟩) 2 2)])) (gK rfl rfl) (cN zeroValue113 underlying113 (jZ _ underlying113) kr)) ?_))
            obtain ⟨o8, b, h7, q, j5⟩ := ST.ms (B := [(c9, Ob #[(.int .i64 u), (.int .i64 x), (.string g.aC), (.string g.aJ), (.slice a4 z.length a6), (.int .i64 a.aI.Op), (.int .i64 a.aI.K), (.string a.aI.aA.aC), (.string a.aI.aA.aJ), h6] 113)]) aN b (cL.lit aN (l := [(⟨u, x, g, z⟩ : Formula), a.aI]) (.cons (ys := C1 u x g.aC g.aJ a4 z.length a6) (aD.mk ⟨(.slice a4 z.length a6), rfl, a3⟩) (.cons (ys := C1 a.aI.Op a.aI.K a.aI.aA.aC a.aI.aA.aJ D a.aI.Kids.length G) (aD.mk ⟨h6, rfl, f5⟩) .nil)) rfl nb rfl)
            refine bS M fun k j0 M => ?_
            refine VE (eD b (List.Perm.refl _) call345 (fun hh => (AY ((⟨2, 0, K0, [(⟨u, x, g, z⟩ : Formula), a.aI]⟩ : Formula)) (.slice (some ⟨c9, 0, none⟩) 2 2) _ _ hh (j5.mono aN.mono (bO.refl _)) j0)) ?_ (L0 := []))
            rintro _ o4 l0 m0 b h8 s ⟨o7, e1, rfl, f9⟩
            obtain rfl := e1.symm
            refine Wm (Wx rfl (Wx rfl ?_))
            obtain ⟨e5, e9, rfl⟩ := f9.form
            let h9 : Value := (.slice e5 ((k.1).Kids).length e9)
            replace b := b.perm (Nb (Pb Pz) Nz)
            refine VO (aX (.agg #[(.int .i64 ((k.1).Op)), (.int .i64 ((k.1).K)), (.string (((k.1).aA).aC)), (.string (((k.1).aA).aJ)), h9]) (#[(.int .i64 ((k.1).Op)), (.int .i64 ((k.1).K)), (.string (((k.1).aA).aC)), (.string (((k.1).aA).aJ)), h9]) b d8 rfl sizeOf113 oc nb rfl (fun n2 b => Wa (bK (bY (aR ?_)))))
            replace b := b.aF (Kb (Db St))
            exact ⟨h3, k.2, ((k.1).Op), ((k.1).K), ((k.1).aA), h9, ((k.1).Kids), l0, _, ⟨rfl, h2⟩, ((Z.trans h7).trans h8), ((d.trans q).trans s), (b.aF St), g8, g9, d8, rfl, h1, f9, (by rw [f7]; exact M)⟩
          refine cZ (bY (aR ?_))
          replace b := b.aF (Db St)
          exact ⟨h3, L, u, x, g, U, z, J, _, ⟨rfl, h2⟩, Z, d, (b.aF St), g8, g9, d8, k5, h1, a3, (by rw [f7]; exact M)⟩
        refine bC N (fun y N => ?_) (fun y N => ?_)
        · refine ug y (aO Cw rfl) (ug y (aH rfl (bA b.has Mh rfl isAgg22)) (ug y (aH d4 (aK b.has (Mt (Mt (Mt Mh))) (aG p) rfl isAgg53 sizeOf53)) (bS N fun n8 j3 N => kf y (Eg b call53 (bF.dK (wv (.slice c8 a.eS.length d1) a.eS p _ _ (f6.mono (Pl.mono _) b.aP) j3)) (fun n3 b => V (aY (cB y) rfl) ?_)))))
          obtain rfl := sj N
          exact e3 _ _ ⟨_, (b.aF St), d4, d5, d6, b1, rfl, d7, R, A, rfl⟩
        refine un y (un y (un y (un y (V (aZ (cB y) rfl) ?_))))
        obtain rfl := sj N
        exact e3 _ _ ⟨_, (b.aF St), d4, d5, d6, b1, rfl, d7, R, A, rfl⟩
      rintro E W ⟨L, u, x, g, U, z, J, e7, ⟨A, R⟩, Z, d, b, d4, d5, d6, b1, d7, a3, K⟩
      rw [List.drop_length] at K
      refine aR ?_
      obtain rfl := sj K
      exact ⟨U, J, _, Z, d, (b.aF (Kb (Kb (Db St)))), d5, d6, b1, a3⟩
    rintro ⟨k9, b4, b6, H, b2⟩ E W ⟨d9, c1, g1, e2, n, b, d3, k4, g7, f4⟩ a2
    refine aW (sg (Wh g7 (Wi rfl (ln (CI a2 rfl (fun i2 a2 => ?_) (fun i2 a2 => ?_))))))
    · refine sg (V (dJ (v := (.agg C4.toArray)) ju (cN zeroValue113 underlying113 (jZ _ underlying113) kr)) (Wh g7 ?_))
      replace b := b.perm (Nb (Pb Pz) Nz)
      refine VO (aX (.agg C4.toArray) (C4.toArray) b d3 rfl sizeOf113 oc nb rfl (fun m6 b => Wa (ln ?_)))
      replace b := b.aF (Kb (Db St))
      refine bH (bU (eF (bU (eF (bU ?_)))))
      obtain rfl := sj a2
      exact ir (v0 := (.agg C4.toArray)) (v1 := (.int .i64 k9)) rfl d3 (aK b.has Mh C4 rfl isAgg113 sizeOf113) rfl ⟨_, _, _, rfl, (b.ej Sn), (c3.trans e2), (m.trans n), (ST.cJ b (eE.mem Sn)), (.slice none 0 0), rfl, rfl, (Sl.nil _ _ _)⟩
    refine kg (V (aH k4 (aK b.has Mh [(.int .i64 b4), (.int .i64 b6), (.string H.aC), (.string H.aJ), d9] rfl isAgg113 sizeOf113)) ?_)
    obtain ⟨a8, a9, rfl⟩ := f4.form
    let c6 := (C1 b4 b6 H.aC H.aJ a8 b2.length a9)
    replace b := b.perm (Nb (Pb Pz) Nz)
    refine VO (aX (.agg c6.toArray) (c6.toArray) b d3 rfl sizeOf113 oc nb rfl (fun m7 b => Wa (ln ?_)))
    replace b := b.aF (Kb (Db St))
    refine bH (eF (bU (eF (bU ?_))))
    obtain rfl := sj a2
    exact ir (v0 := (.agg c6.toArray)) (v1 := (.int .i64 0)) rfl d3 (aK b.has Mh c6 rfl isAgg113 sizeOf113) rfl ⟨_, _, _, rfl, (b.ej Sn), (c3.trans e2), (m.trans n), (ST.cJ b (eE.mem Sn)), (.slice a8 b2.length a9), rfl, rfl, f4⟩
  rintro E W ⟨e6, ⟨A, R⟩, b, f0, d2, b0, f1, t⟩
  rw [List.drop_length] at t
  refine aR ?_
  replace b := b.aF (Kb (Db (Db St)))
  refine sg (V (dJ (v := (.agg C4.toArray)) ju (cN zeroValue113 underlying113 (jZ _ underlying113) kr)) (VO (aX (.agg C4.toArray) (C4.toArray) b b0 rfl sizeOf113 oc nb rfl (fun n4 b => Wa (lt ?_)))))
  obtain rfl := sj t
  exact ir (v0 := (.agg C4.toArray)) (v1 := (.int .i64 42)) rfl b0 (aK b.has Mh C4 rfl isAgg113 sizeOf113) rfl ⟨_, _, _, rfl, (b.ej Sn), (bO.refl _), Lo.refl, (ST.cJ b (eE.mem Sn)), (.slice none 0 0), rfl, rfl, (Sl.nil _ _ _)⟩
theorem E5 (k : Value) (u : List aA) (g : aA) (r : Bool) (w : World) (j : Sl (Pl aM) 2 (hp w) k u) (hm : tp u g = some r) :
    bF true Tryz.prog 346 [k, (.agg (aM g).toArray)] w (.bool r) := by
  refine cG 17 func346 rfl (fun b => sg (VE (bX b rfl (fun Y J b => Wa (lS (Wm (V (cU underlying34 rfl j) (Wm (ln ?_)))))))))
  refine cK (fun i E W => ∃ t, (E 9 = .int .i64 (i : Nat) ∧ E 8 = .int .i64 (u.length : Nat)) ∧ ST true cA w W (hp w) ((J, Ol (aM g) 28) :: t) ∧ E 3 = (.pointer (some ⟨J, 0, none⟩)) ∧ E 7 = k ∧ qo g (u.drop i) = some r) u.length j.len ⟨_, ⟨rfl, rfl⟩, (b.aF St), rfl, rfl, hm⟩ dc dc dc (fun _ _ _ h => by obtain ⟨_, l, _⟩ := h; exact l) ?_ ?_
  · rintro K E W B ⟨t, ⟨d, m⟩, b, x, y, a⟩
    obtain ⟨c, M, H, G, I⟩ := cC B
    rw [H] at a
    refine bg (VQ (fJ (enc := aM) (i := (K : Int)) (x0 := c) underlying34 sizeOf28 y d j (Int.natCast_nonneg _) G) (fun U D => V (aH rfl (bE b.has D isAgg28 sizeOf28)) (VE (bR b zeroValue28 (fun N T b => VO (aX (.agg (aM c).toArray) ((aM c).toArray) b rfl rfl sizeOf28 (pp c) nb rfl (fun Q b => lr (VA b Mh (aM c) isAgg28 sizeOf28 (V (aH x (aK b.has (Mt Mh) (aM g) rfl isAgg28 sizeOf28)) (V (oa rfl rfl (fS eqGuardType28) (kC (jc _ c g))) (bK ?_)))))))))))
    refine aR ?_
    replace b := b.aF (Db St)
    refine CI a rfl (fun z a => ?_) (fun z a => ?_)
    · refine sg (Wa (ln ?_))
      replace b := b.aF (Db St)
      refine bH (eF (bU (eF (bU ?_))))
      obtain rfl := sj a
      exact rP b
    exact cZ (bY (aR ⟨d, _, ⟨rfl, m⟩, (b.aF St), x, y, (by rw [I]; exact a)⟩))
  rintro E W ⟨t, ⟨d, m⟩, b, x, y, a⟩
  rw [List.drop_length] at a
  refine aR ?_
  replace b := b.aF (Db St)
  exact sg (Wa (lt (rQ a b)))
theorem zL (N : Formula → (List aA) → Option Bool) (a5 : ∀ (g : Formula) (k : Value) (t : Value) (H : List aA) (r : Bool) (w : World) (c : Sl aD 5 (hp w) k g.Kids) (J : Sl (Pl aM) 2 (hp w) t H), N g H = some r → bF false Tryz.prog 285 [(.agg #[(.int .i64 g.Op), (.int .i64 g.K), (.string g.aA.aC), (.string g.aA.aJ), k]), t] w (.bool r)) (g : Formula) (k t : Value) (H : List aA) (r : Bool) (w : World) (c : Sl aD 5 (hp w) k g.Kids) (J : Sl (Pl aM) 2 (hp w) t H) (hm : qH N g H = some r) :
    bF false Tryz.prog 285 [(.agg #[(.int .i64 g.Op), (.int .i64 g.K), (.string g.aA.aC), (.string g.aA.aJ), k]), t] w (.bool r) := by
  refine cG 45 func285 rfl (fun b => sg ?_)
  obtain ⟨A1, c2, rfl⟩ := c.form
  refine VE (bX b rfl (fun W4 n b => Wa (lS (Wf fq (VB b Mh rfl rfl isAgg3 (Wi rfl (ln (CI hm rfl (fun a9 hm => ?_) (fun a9 hm => ?_)))))))))
  · refine sg (Wm (Wf kU (VA b Mh (aM g.aA) isAgg28 sizeOf28 (bS hm fun r6 s hm => VE (Eg b call346 (bF.dK (E5 t H g.aA _ _ (J.mono (Pl.mono _) b.aP) s)) (fun W8 b => Wa (ln ?_)))))))
    replace b := b.aF (Db St)
    refine bH (bU ?_)
    obtain rfl := sj hm
    exact rP b
  refine kg (Wa (lS (Wf fu (VB b Mh rfl rfl isAgg111 (V (cU underlying111 rfl c) (Wm (bK ?_)))))))
  refine aR (cK (fun i E W => ∃ y I, (E 18 = .int .i64 (i : Nat) ∧ E 17 = .int .i64 (g.Kids.length : Nat)) ∧ ST false cA w W (hp w) ((n, Ol (C1 g.Op g.K g.aA.aC g.aA.aJ A1 g.Kids.length c2) 113) :: I) ∧ E 1 = t ∧ E 2 = (.pointer (some ⟨n, 0, none⟩)) ∧ E 5 = (.int .i64 y) ∧ E 16 = (.slice A1 g.Kids.length c2) ∧ kx N H g (g.Kids.drop i) y = some r) g.Kids.length c.len ⟨0, _, ⟨rfl, rfl⟩, (b.aF St), rfl, rfl, rfl, rfl, hm⟩ dc dc dc (fun _ _ _ h => by obtain ⟨_, _, l, _⟩ := h; exact l) ?_ ?_)
  · rintro v E W a4 ⟨y, I, ⟨d, m⟩, b, D, u, x, G, a⟩
    obtain ⟨j, c1, q, p, M⟩ := cC a4
    rw [q] at a
    refine bg (VQ (ei (i := (v : Int)) (x0 := j) aD.out underlying111 sizeOf113 G d c (Int.natCast_nonneg _) p) (fun P ⟨_, ⟨c0, rfl, K⟩, Y⟩ => V (aH rfl (bE b.has Y isAgg113 sizeOf113)) (VE (bR b zeroValue113 (fun A O b => ?_)))))
    obtain ⟨z, B, rfl⟩ := K.form
    let a0 := (C1 j.Op j.K j.aA.aC j.aA.aJ z j.Kids.length B)
    refine VO (aX (.agg a0.toArray) (a0.toArray) b rfl rfl sizeOf113 oc nb rfl (fun F b => lr (VA b Mh a0 isAgg113 sizeOf113 (Wh D (bS a fun R Z a => VE (Eg b call285 ((a5 j (.slice z j.Kids.length B) t H _ _ (K.mono aN.mono b.aP) (J.mono (Pl.mono _) b.aP) Z)) (fun L b => ln ?_)))))))
    replace b := b.aF (Db St)
    refine CI a rfl (fun Q a => ?_) (fun Q a => ?_)
    · exact aU (Wh x (Wi rfl (Wa (bK (bY (aR ⟨d, ((IntKind.i64.wrap (y + 1))), _, ⟨rfl, m⟩, (b.aF St), D, u, rfl, G, (by rw [M]; exact a)⟩))))))
    exact cZ (bY (aR ⟨d, y, _, ⟨rfl, m⟩, (b.aF St), D, u, x, G, (by rw [M]; exact a)⟩))
  rintro E W ⟨y, I, ⟨d, m⟩, b, D, u, x, G, a⟩
  rw [List.drop_length] at a
  refine aR (aW (sg (V (aO fq u) (VB b Mh rfl rfl isAgg3 (Wi rfl (ln (CI a rfl (fun T a => ?_) (fun T a => ?_))))))))
  · refine sg (Wh x (V (aO fu u) (VB b Mh rfl rfl isAgg111 (V (cU underlying111 rfl c) (Wi rfl (Wa (ln ?_)))))))
    replace b := b.aF (Db St)
    refine bH (bU ?_)
    obtain rfl := sj a
    exact rP b
  refine kS (V (aO fq u) (VB b Mh rfl rfl isAgg3 (Wi rfl (ln (CI a rfl (fun U a => ?_) (fun U a => ?_))))))
  · refine sg (Wh x (Wi rfl (Wa (ln ?_))))
    replace b := b.aF (Db St)
    refine bH (bU ?_)
    obtain rfl := sj a
    exact rP b
  refine kg (Wh x (V (aO jm u) (VB b Mh rfl rfl isAgg3 (Wi rfl (Wa (ln ?_))))))
  exact bH (rQ a b)
theorem yr : ∀ (n : Nat) (c : Formula) (a : Value) (g : Value) (j : List aA) (r : Bool) (w : World) (i : Sl aD 5 (hp w) a c.Kids) (k : Sl (Pl aM) 2 (hp w) g j) (_ : lR n c j = some r),
    bF false Tryz.prog 285 [(.agg #[(.int .i64 c.Op), (.int .i64 c.K), (.string c.aA.aC), (.string c.aA.aJ), a]), g] w (.bool r)
  | 0 => by intros; rename_i h; simp only [lR] at h; cases h
  | n + 1 => zL (lR n) (yr n)
theorem sD (k : cR) (D I O : Value) (A : List aB) (a2 : ByteArray) (r : List aB) (w : World) (g : Sl bN 15 (hp w) D k.aT) (H : Sl dF 8 (hp w) I k.bP) (g2 : Sl (Pl aG) 9 (hp w) O A) (hm : nl k A a2 = some r) :
    dP false Tryz.prog 178 [(.agg #[(.string k.Name), D, I]), O, (.string a2)] w 53 aG 9 r := by
  refine ng 48 func178 rfl (fun d => sg ?_)
  obtain ⟨A1, c2, rfl⟩ := g.form
  let b8 : Value := (.slice A1 k.aT.length c2)
  obtain ⟨A3, c4, rfl⟩ := H.form
  let F := (C5 k.Name A1 k.aT.length c2 A3 k.bP.length c4)
  refine VE (bX d rfl (fun W6 q d => Wa (lr (Wm (bS hm fun r7 h0 hm => VE (jg d call124 (dP.dK (GA O A _ _ (g2.mono (Pl.mono _) d.aP) h0)) (fun W9 h1 j8 j6 d Y ae g0 => Wm (bS hm fun f1 g3 hm => VE (jg d call283 (dP.dK (DB h1 r7 a2 _ _ (g0.sl kB (fun b o m => d.at_ (Ml m))) g3)) (fun j7 d5 f2 f0 d Z af g1 => Wa (ln ?_)))))))))))
  replace d := d.aF (Kr (Dr St))
  refine sg (Wa (lS (Wf kD (VB d (Ma Mh) rfl rfl isAgg107 (V (cU underlying107 rfl g) (Wm (ln (cK (fun i E W => ∃ z G B a4 L, (E 20 = .int .i64 (i : Nat) ∧ E 19 = .int .i64 (k.aT.length : Nat)) ∧ bO f2 a4 ∧ ST false cA w W a4 ((q, Ol F 110) :: (B ++ (f0 ++ L))) ∧ E 3 = (.pointer (some ⟨q, 0, none⟩)) ∧ E 7 = d5 ∧ E 8 = z ∧ E 18 = b8 ∧ bG 53 aG 9 z G B ∧ kw k f1 (k.aT.drop i) G = some r) k.aT.length g.len ⟨(.slice none 0 0), ([]), [], f2, _, ⟨rfl, rfl⟩, (bO.refl _), (d.aF (Sb (Pr Pz) St)), rfl, rfl, rfl, rfl, (bG.nil _ _ _), hm⟩ dc dc dc (fun _ _ _ h => by obtain ⟨_, _, _, _, _, aa, _⟩ := h; exact aa) ?_ ?_))))))))
  · rintro d3 E W e1 ⟨z, G, B, a4, L, ⟨s, eN⟩, u, d, N, Q, T, U, J, j⟩
    obtain ⟨a, h2, e9, e8, b9⟩ := cC e1
    rw [e9] at j
    refine bg (VQ (ei (i := (d3 : Int)) (x0 := a) bN.out underlying107 sizeOf138 U s (g.mono bM.mono ((Y.trans Z).trans u)) (Int.natCast_nonneg _) e8) (fun i4 ⟨_, ⟨i8, i9, rfl, e6, e7⟩, e2⟩ => V (aH rfl (bE d.has e2 isAgg138 sizeOf138)) (VE (bR d zeroValue138 (fun h4 c5 d => ?_)))))
    obtain ⟨a8, b2, rfl⟩ := e6.form
    obtain ⟨a9, b3, rfl⟩ := e7.form
    let a0 := (C3 a.Signed.aB.Kind a.Signed.aB.Head.aC a.Signed.aB.Head.aJ a.Signed.aB.cH a.Signed.aB.B.aC a.Signed.aB.B.aJ a.Signed.aB.C.aC a.Signed.aB.C.aJ a.Signed.aB.cO a8 a.Signed.Tag.length b2 a.aI.Op a.aI.K a.aI.aA.aC a.aI.aA.aJ a9 a.aI.Kids.length b3)
    refine VO (aX (.agg a0.toArray) (a0.toArray) d rfl rfl sizeOf138 oc nb rfl (fun h5 d => lr (V (aH N (aK d.has (Mt Mh) F rfl isAgg110 sizeOf110)) (Wf po (Wf qW (VA d Mh (aG a.Signed.aB) isAgg53 sizeOf53 (bS j fun c e3 j => ?_)))))))
    let c6 : Value := (.string (((c.1).aA).aJ))
    let c1 : Value := (.string (((c.1).aA).aC))
    refine VE (eD d (List.Perm.refl _) call284 (fun hh => (GV k b8 (.slice A3 k.bP.length c4) a.Signed.aB _ _ hh (g.mono bM.mono ((Y.trans Z).trans u)) (H.mono ev.mono ((Y.trans Z).trans u)) e3)) ?_ (L0 := []))
    rintro _ j0 P h3 d a5 ab ⟨j4, a3, rfl, c0⟩
    obtain rfl := a3.symm
    refine Wm (Wx rfl (Wx rfl (VE (bR d zeroValue113 (fun h7 i3 d => ?_)))))
    obtain ⟨K, M, rfl⟩ := c0.form
    let n : Value := (.slice K ((c.1).Kids).length M)
    refine VO (aX (.agg #[(.int .i64 ((c.1).Op)), (.int .i64 ((c.1).K)), c1, c6, n]) (#[(.int .i64 ((c.1).Op)), (.int .i64 ((c.1).K)), c1, c6, n]) d rfl rfl sizeOf113 oc nb rfl (fun h8 d => Wa (lr (Wm (Wi rfl (Wm (LJ j (fun d4 E W => ∃ c3, ST false cA w W P ((c5, Ol a0 138) :: ((q, Ol F 110) :: (B ++ (f0 ++ c3)))) ∧ E 3 = (.pointer (some ⟨q, 0, none⟩)) ∧ E 7 = d5 ∧ E 8 = z ∧ E 10 = (.pointer (some ⟨c5, 0, none⟩)) ∧ E 18 = b8 ∧ E 19 = (.int .i64 ((k.aT.length : Int))) ∧ E 20 = (.int .i64 ((d3 : Int))) ∧ E 38 = (.bool d4)) 4 ?_ (fun d4 y a6 => ?_))))))))
    · rintro j3 E W ⟨c3, d, c7, c8, c9, f8, d0, d1, d2, f9⟩ x
      refine ln (CI x f9 (fun d9 x => ?_) (fun d9 x => ?_))
      · refine aU (Wh c9 (V (aO po f8) (Wf qW (VA d Mh (aG a.Signed.aB) isAgg53 sizeOf53 (VE (bJ (cs := (aG a.Signed.aB).toArray) d (dZ rfl) (ew underlying22 sizeOf53 zeroValue53) (fun h9 f7 d => ?_)))))))
        replace d := d.perm (Nr (Qb (Qb (Qb Qz))) Nz)
        refine bS x fun g4 e0 x => VE (ga (enc := aG) (v := z) (vs := (.slice (some ⟨f7, 0, none⟩) 1 1)) (R := B) d bI dc fC underlying22 eJ.1 eJ.2.1 rfl eJ.2.2.1 eJ.2.2.2 rfl rfl J (Sl.lit (enc := aG) (l := [a.Signed.aB]) bI rfl nb rfl (d.at_ (Ma Mh))) e0 (fun i0 g7 f3 d d8 => Wa (bK (bY (aR ?_)))))
        replace d := d.aF (Kr (Db (Db St)))
        exact ⟨d2, g7, g4, f3, P, _, ⟨rfl, d1⟩, (u.trans a5), (d.aF (Sb (Pr Pz) St)), c7, c8, rfl, d0, d8, (by rw [b9]; exact x)⟩
      refine cZ (bY (aR ?_))
      replace d := d.aF (Db St)
      exact ⟨d2, z, G, B, P, _, ⟨rfl, d1⟩, (u.trans a5), (d.aF St), c7, c8, c9, d0, J, (by rw [b9]; exact x)⟩
    refine bC y (fun t y => ?_) (fun t y => ?_)
    · refine ug t (aH rfl (aK d.has Mh [(.int .i64 ((c.1).Op)), (.int .i64 ((c.1).K)), c1, c6, n] rfl isAgg113 sizeOf113)) (ug t (aQ Q) (bS y fun i5 e4 y => kf t (Eg d call285 (((yr bL) c.1 n d5 f1 _ _ (c0.mono aN.mono d.aP) (g1.sl rL (fun b o m => d.at_ (Mt (Mt (Mt (Ma (Ml m))))))) e4)) (fun i1 d => V (aY (cB t) rfl) ?_))))
      obtain rfl := sj y
      exact a6 _ _ ⟨_, (d.aF (Db St)), N, Q, T, rfl, U, eN, s, rfl⟩
    refine un t (un t (un t (V (aZ (cB t) rfl) ?_)))
    obtain rfl := sj y
    exact a6 _ _ ⟨_, (d.aF (Db St)), N, Q, T, rfl, U, eN, s, rfl⟩
  rintro E W ⟨z, G, B, a4, L, ⟨s, eN⟩, u, d, N, Q, T, U, J, j⟩
  rw [List.drop_length] at j
  refine aR ?_
  replace d := d.aF (Db (Kr (Dr St)))
  refine sg (Wh T (bS j fun i6 e5 j => VE (jg d call33 (dP.dK (wi z G _ _ (J.sl bI (fun b o m => d.at_ (Ml m))) e5)) (fun i2 g8 j5 f4 d g9 ad b7 => Wa (ln ?_)))))
  replace d := d.aF (Kr (Dr St))
  refine bH ?_
  obtain rfl := sj j
  exact dH (v := g8) rfl rfl ⟨_, f4, rfl, d.gb (fun p m => (Ml m)) b7.nd, b7⟩
theorem yY (G : Value) (H : List aB) (z : Value) (J r : List aB) (w : World) (D : Sl (Pl aG) 9 (hp w) G H) (Z : Sl (Pl aG) 9 (hp w) z J) (hm : qf H J = some r) :
    dP true Tryz.prog 177 [G, z] w 53 aG 9 r := by
  refine ng 23 func177 rfl (fun b => sg (Wa (lr (Wa (lS (Wm ?_))))))
  refine V (cU underlying22 rfl D) (Wm (ln (cK (fun i E W => ∃ j t g B, (E 10 = .int .i64 (i : Nat) ∧ E 9 = .int .i64 (H.length : Nat)) ∧ ST true cA w W (hp w) (g ++ B) ∧ E 1 = z ∧ E 5 = j ∧ E 8 = G ∧ bG 53 aG 9 j t g ∧ kq J (H.drop i) t = some r) H.length D.len ⟨(.slice none 0 0), ([]), [], _, ⟨rfl, rfl⟩, (b.aF St), rfl, rfl, rfl, (bG.nil _ _ _), hm⟩ dc dc dc (fun _ _ _ h => by obtain ⟨_, _, _, _, m, _⟩ := h; exact m) ?_ ?_)))
  · rintro s E W a2 ⟨j, t, g, B, ⟨d, n⟩, b, u, x, y, k, a⟩
    obtain ⟨c, b6, a4, a3, I⟩ := cC a2
    rw [a4] at a
    refine bg (VQ (fJ (enc := aG) (i := (s : Int)) (x0 := c) underlying22 sizeOf53 y d D (Int.natCast_nonneg _) a3) (fun b4 Q => V (aH rfl (bE b.has Q isAgg53 sizeOf53)) (VE (bR b zeroValue53 (fun F b3 b => VO (aX (.agg (aG c).toArray) ((aG c).toArray) b rfl rfl sizeOf53 (fC c) nb rfl (fun a9 b => lr (Wh u (VA b Mh (aG c) isAgg53 sizeOf53 (bS a fun b5 T a => VE (Eg b call53 ((wv z J c _ _ (Z.mono (Pl.mono _) b.aP) T)) (fun L b => ?_))))))))))))
    refine ln (CI a rfl (fun M a => ?_) (fun M a => ?_))
    · refine aU (Wh x (VA b Mh (aG c) isAgg53 sizeOf53 (VE (bJ (cs := (aG c).toArray) b (dZ rfl) (ew underlying22 sizeOf53 zeroValue53) (fun O Y b => ?_)))))
      replace b := b.perm (Nr (Qb (Qb Qz)) Nz)
      refine bS a fun a5 N a => VE (ga (enc := aG) (v := j) (vs := (.slice (some ⟨Y, 0, none⟩) 1 1)) (R := g) b bI dc fC underlying22 eJ.1 eJ.2.1 rfl eJ.2.2.1 eJ.2.2.2 rfl rfl k (Sl.lit (enc := aG) (l := [c]) bI rfl nb rfl (b.at_ (Ma Mh))) N (fun P q U b K => Wa (bK (bY (aR ?_)))))
      replace b := b.aF (Kr (Db (Db St)))
      exact ⟨d, q, a5, U, _, ⟨rfl, n⟩, (b.aF St), u, rfl, y, K, (by rw [I]; exact a)⟩
    refine cZ (bY (aR ?_))
    replace b := b.aF (Db St)
    exact ⟨d, j, t, g, _, ⟨rfl, n⟩, (b.aF St), u, x, y, k, (by rw [I]; exact a)⟩
  rintro E W ⟨j, t, g, B, ⟨d, n⟩, b, u, x, y, k, a⟩
  rw [List.drop_length] at a
  refine aR (sg (Wh x (Wa (lt ?_))))
  obtain rfl := sj a
  exact dH (v := j) rfl rfl ⟨_, g, rfl, b.gb (fun p A => (Ml A)) k.nd, k⟩
theorem lQ (t : Value) (y : List aB) (u : Value) (K : List aB) (r : Bool) (w : World) (c : Sl (Pl aG) 9 (hp w) t y) (z : Sl (Pl aG) 9 (hp w) u K) (hm : fX y K = some r) :
    bF true Tryz.prog 41 [t, u] w (.bool r) := by
  refine cG 26 func41 rfl (fun d => sg (Wa (lS (Wm (V (cU underlying22 rfl c) (Wm (V (cU underlying22 rfl z) (Wi rfl (bK ?_)))))))))
  refine aR (CI hm rfl (fun U hm => ?_) (fun U hm => ?_))
  · refine sg (Wa (lt (bU ?_)))
    obtain rfl := sj hm
    exact rP d
  refine kS (Wm (V (cU underlying22 rfl c) (Wm (ln (cK (fun i E W => ∃ g, (E 13 = .int .i64 (i : Nat) ∧ E 12 = .int .i64 (y.length : Nat)) ∧ ST true cA w W (hp w) g ∧ E 0 = t ∧ E 1 = u ∧ jk K (y.drop i) i = some r) y.length c.len ⟨_, ⟨rfl, rfl⟩, (d.aF St), rfl, rfl, hm⟩ dc dc dc (fun _ _ _ h => by obtain ⟨_, m, _⟩ := h; exact m) ?_ ?_)))))
  · rintro I E W M ⟨g, ⟨l, p⟩, d, j, k, a⟩
    obtain ⟨J, a3, Q, N, T⟩ := cC M
    rw [Q] at a
    refine bg (Wh l (Wa (ln (aW ?_))))
    replace d := d.drew
    have b := d.has.aF Sn
    refine cT b cE (X 0 rfl b (aQ j) (X 1 rfl b (aQ rfl) (XQ 2 rfl b (fJ (enc := aG) (i := (I : Int)) (x0 := J) underlying22 sizeOf53 rfl rfl c (Int.natCast_nonneg _) N) (fun Y G => XH 3 rfl b (fun _ n => aH rfl (bE n G isAgg53 sizeOf53)) (X 4 rfl b (aQ k) (X 5 rfl b (aQ rfl) (bS a fun B x a => XQ 6 rfl b (fJ (enc := aG) (i := (I : Int)) (x0 := B) underlying22 sizeOf53 rfl rfl z (bV x) (bQ x)) (fun Z H => XH 7 rfl b (fun _ n => aH rfl (bE n H isAgg53 sizeOf53)) (X 8 rfl b (BQ rfl rfl (fS eqGuardType53) (wM (oN _ J B))) (dG kr (aR (CI a rfl (fun D a => ?_) (fun D a => ?_)))))))))))))
    · refine sg (Wa (lt (eF (bU (eF (bU ?_))))))
      obtain rfl := sj a
      exact rP d
    exact cZ (bY (aR ⟨l, _, ⟨rfl, p⟩, (d.aF St), j, k, (by rw [T]; exact a)⟩))
  rintro E W ⟨g, ⟨l, p⟩, d, j, k, a⟩
  rw [List.drop_length] at a
  exact aR (sg (Wa (lt (rQ a d))))
theorem xL (a : fL) (B G t z x Z : Value) (r : ((List aB) × (List aB))) (w : World) (j : Sl bN 15 (hp w) B a.aC.aT) (k : Sl dF 8 (hp w) G a.aC.bP) (g : Sl bN 15 (hp w) t a.Client.aT) (i : Sl dF 8 (hp w) z a.Client.bP) (J : Sl aD 5 (hp w) x a.Formula.Kids) (a9 : Sl jV 2 (hp w) Z a.Keys) (hm : ph a = some r) :
    dV false Tryz.prog 75 [(.agg #[(.string a.aC.Name), B, G, (.string a.Client.Name), t, z, (.int .i64 a.Formula.Op), (.int .i64 a.Formula.K), (.string a.Formula.aA.aC), (.string a.Formula.aA.aJ), x, (.int .i64 a.mo), (.int .i64 a.fh.oz), (.int .i64 a.fh.oA), (.int .i64 a.gl), (.int .i64 a.jE), (.int .i64 a.ij), Z])] w [] (fun v L1 W' => ∃ y1 S2 y4 S5, v = (.tuple #[y1, y4]) ∧ L1 = (S2 ++ (S5 ++ [])) ∧ bG 53 aG 9 y1 r.1 S2 ∧ bG 53 aG 9 y4 r.2 S5) := by
  refine ng 44 func75 rfl (fun d => sg ?_)
  obtain ⟨A1, c2, rfl⟩ := j.form
  obtain ⟨A3, n, rfl⟩ := k.form
  let b2 := (C5 a.aC.Name A1 a.aC.aT.length c2 A3 a.aC.bP.length n)
  obtain ⟨A5, p, rfl⟩ := g.form
  obtain ⟨A7, q, rfl⟩ := i.form
  let b1 := (C5 a.Client.Name A5 a.Client.aT.length p A7 a.Client.bP.length q)
  obtain ⟨A9, d5, rfl⟩ := J.form
  obtain ⟨d2, d6, rfl⟩ := a9.form
  let a0 := (C2 a.aC.Name A1 a.aC.aT.length c2 A3 a.aC.bP.length n a.Client.Name A5 a.Client.aT.length p A7 a.Client.bP.length q a.Formula.Op a.Formula.K a.Formula.aA.aC a.Formula.aA.aJ A9 a.Formula.Kids.length d5 a.mo a.fh.oz a.fh.oA a.gl a.jE a.ij d2 a.Keys.length d6)
  refine VE (bX d rfl (fun j6 d1 d => Wa (Wa (ln (aW ?_)))))
  replace d := d.drew
  have h := d.has.aF (Kb Sn)
  refine cT h cE (X 0 rfl h (aO pu rfl) (XH 1 rfl h (fun _ hS => aH rfl (aK hS Mh b2 rfl isAgg110 sizeOf110)) (X 3 rfl h (aO pq rfl) (XH 4 rfl h (fun _ hS => aH rfl (aK hS Mh b1 rfl isAgg110 sizeOf110)) (bS hm fun h3 g0 hm => XE 2 rfl (jg d call176 (dP.dK (Ah a.aC (.slice A1 a.aC.aT.length c2) (.slice A3 a.aC.bP.length n) _ _ (j.mono bM.mono d.aP) (k.mono ev.mono d.aP) g0)) (fun j7 h5 j9 g9 d D af f8 => ?_)))))))
  have h := d.has.na D (Dr (Kb Sn))
  refine ⟨h, (bS hm fun h4 g1 hm => XE 5 rfl (jg d call176 (dP.dK (Ah a.Client (.slice A5 a.Client.aT.length p) (.slice A7 a.Client.bP.length q) _ _ (g.mono bM.mono (D.trans d.aP)) (i.mono ev.mono (D.trans d.aP)) g1)) (fun j8 h6 f4 h0 d K ag f9 => ?_)))⟩
  have h := d.has.na (D.trans K) (Dr (Dr (Kb Sn)))
  refine ⟨h, (X 6 rfl h (fW rfl) (X 7 rfl h (fW rfl) (dG kr (aR (jO (dN (fB (fun m E W => ∃ U Q O Y T P d0 d3, bO f4 d0 ∧ ST false cA w W d0 ((d1, Ol a0 116) :: (P ++ (O ++ d3))) ∧ E 1 = (.pointer (some ⟨d1, 0, none⟩)) ∧ E 4 = U ∧ E 5 = Y ∧ bG 53 aG 9 U Q O ∧ bG 53 aG 9 Y T P ∧ jK a m Q T = some r) bL ⟨h5, h3, g9, h6, h4, h0, f4, _, (bO.refl _), (d.aF (Sb (Pr (Pr Pz)) St)), rfl, rfl, rfl, f8, f9, hm⟩ ?_)))))))⟩
  rintro m E W ⟨U, Q, O, Y, T, P, d0, d3, I, d, N, c7, c9, F, L, c⟩
  cases m with
  | zero => rw [jK] at c; cases c
  | succ g2 =>
    refine bg (Wh c7 (V (aO pu N) (VA d Mh b2 isAgg110 sizeOf110 (Wh c9 (V (aO pq N) (Wf qi (VB d Mh rfl rfl isAgg9 (bS c fun g3 e8 c => VE (jg d call178 ((sD a.aC (.slice A1 a.aC.aT.length c2) (.slice A3 a.aC.bP.length n) Y T a.Client.Name _ _ (j.mono bM.mono (((D.trans K).trans I).trans d.aP)) (k.mono ev.mono (((D.trans K).trans I).trans d.aP)) (L.sl bI (fun b o l => d.at_ (Mt (Ml l)))) e8)) (fun i2 g7 j3 i0 d s aa e5 => bS c fun e1 e9 c => VE (jg d call177 (dP.dK (yY U Q g7 g3 _ _ (F.sl bI (fun b o l => d.at_ (Ma (Mt (Ma (Ml l)))))) (e5.sl bI (fun b o l => d.at_ (Ml l))) e9)) (fun i3 a3 j4 R d a2 ab a5 => Wa ?_))))))))))))
    refine ln ?_
    replace d := d.aF (Kr (Dr St))
    refine sg (Wh c9 (V (aO pq N) (VA d (Ma Mh) b1 isAgg110 sizeOf110 (Wh c7 (V (aO pu N) (Wf qi (VB d (Ma Mh) rfl rfl isAgg9 (bS c fun g4 f0 c => VE (jg d call178 ((sD a.Client (.slice A5 a.Client.aT.length p) (.slice A7 a.Client.bP.length q) U Q a.aC.Name _ _ (g.mono bM.mono (((((D.trans K).trans I).trans s).trans a2).trans d.aP)) (i.mono ev.mono (((((D.trans K).trans I).trans s).trans a2).trans d.aP)) (F.sl bI (fun b o l => d.at_ (Ma (Mt (Ma (Ml l)))))) f0)) (fun i4 g8 j5 i1 d d9 ad e6 => bS c fun e2 f1 c => VE (jg d call177 (dP.dK (yY Y T g8 g4 _ _ (L.sl bI (fun b o l => d.at_ (Ma (Ma (Mt (Ml l)))))) (e6.sl bI (fun b o l => d.at_ (Ml l))) f1)) (fun i5 a4 e4 b9 d e0 ae A => Wa (bK ?_)))))))))))))
    refine aR ?_
    replace d := d.aF (Kr (Dr St))
    refine aW (sg (Wm (Wh c7 (bS c fun i8 f2 c => VE (Eg d call41 (bF.dK (lQ a3 e1 U Q _ _ (a5.sl bI (fun b o l => d.at_ (Ma (Ml l)))) (F.sl bI (fun b o l => d.at_ (Ma (Ma (Mt (Ma (Ml l))))))) f2)) (fun i6 d => Wm (LJ c (fun e3 E W => ∃ d4, ST false cA w W e4 ((d1, Ol a0 116) :: (b9 ++ (R ++ d4))) ∧ E 1 = (.pointer (some ⟨d1, 0, none⟩)) ∧ E 6 = a3 ∧ E 7 = a4 ∧ E 39 = (.bool e3)) 4 ?_ (fun e3 H b0 => ?_))))))))
    · rintro j0 E W ⟨d4, d, f6, d7, d8, f7⟩ M
      refine ln (CI M f7 (fun e7 M => ?_) (fun e7 M => ?_))
      · refine sg (Wh d7 (Wh d8 (Wa (Wa (ln ?_)))))
        replace d := d.aF (Db St)
        refine bH (bU (eF (bU (eF (bU ?_)))))
        obtain rfl := sj M
        exact uQ (v := a3) (u := a4) rfl rfl rfl ⟨_, _, rfl, (d.Bx (Sr (Qr Qz) (Kr Sn))), a3, R, a4, b9, rfl, rfl, a5, A⟩
      exact kg (Wh d7 (Wa (ln (aU (Wh d8 (Wa (bK (bY (aR ⟨g2, Nat.lt_succ_self _, a3, e1, R, a4, e2, b9, e4, _, ((((I.trans s).trans a2).trans d9).trans e0), (d.aF St), f6, rfl, rfl, a5, A, M⟩)))))))))
    refine bC H (fun y H => ?_) (fun y H => ?_)
    · refine ug y (aQ rfl) (ug y (aQ c9) (bS H fun i9 f3 H => kf y (Eg d call41 (bF.dK (lQ a4 e2 Y T _ _ (A.sl bI (fun b o l => d.at_ (Ml l))) (L.sl bI (fun b o l => d.at_ (Ma (Ma (Mt (Ml l)))))) f3)) (fun i7 d => V (aY (cB y) rfl) ?_))))
      obtain rfl := sj H
      exact b0 _ _ ⟨_, (d.aF (Sb (Pr (Pr Pz)) (Kr (Kr (Dr (Dr St)))))), N, rfl, rfl, rfl⟩
    refine un y (un y (un y (V (aZ (cB y) rfl) ?_)))
    obtain rfl := sj H
    exact b0 _ _ ⟨_, (d.aF (Sb (Pr (Pr Pz)) (Kr (Kr (Dr (Dr St)))))), N, rfl, rfl, rfl⟩
theorem Gi (g : cR) (B J : Value) (i : cR) (D K : Value) (r : ((List aB) × (List aB) × Int)) (w : World) (x : Sl bN 15 (hp w) B g.aT) (H : Sl dF 8 (hp w) J g.bP) (y : Sl bN 15 (hp w) D i.aT) (I : Sl dF 8 (hp w) K i.bP) (hm : wY g i = some r) :
    dV false Tryz.prog 180 [(.agg #[(.string g.Name), B, J]), (.agg #[(.string i.Name), D, K])] w [] (fun v L1 W' => ∃ y1 S2 y4 S5, v = (.tuple #[y1, y4, (.int .i64 (r.2.2))]) ∧ L1 = (S2 ++ (S5 ++ [])) ∧ bG 53 aG 9 y1 r.1 S2 ∧ bG 53 aG 9 y4 r.2.1 S5) := by
  refine ng 37 func180 rfl (fun d => sg ?_)
  obtain ⟨A1, c2, rfl⟩ := x.form
  obtain ⟨A3, c4, rfl⟩ := H.form
  let p := (C5 g.Name A1 g.aT.length c2 A3 g.bP.length c4)
  refine VE (bX d rfl (fun W6 n d => ?_))
  obtain ⟨A7, c8, rfl⟩ := y.form
  obtain ⟨A9, L, rfl⟩ := I.form
  let a0 := (C5 i.Name A7 i.aT.length c8 A9 i.bP.length L)
  refine VE (bX d rfl (fun g4 l d => Wa (Wa (Wa (lr (Wa (Wa (lr (Wa ?_)))))))))
  refine ln (jO (dN (fB (fun m E W => ∃ t T M u U N G s c0, bO (hp w) s ∧ ST false cA w W s ((l, Ol a0 110) :: ((n, Ol p 110) :: (N ++ (M ++ c0)))) ∧ E 2 = (.pointer (some ⟨n, 0, none⟩)) ∧ E 3 = (.pointer (some ⟨l, 0, none⟩)) ∧ E 7 = t ∧ E 8 = u ∧ E 9 = (.int .i64 G) ∧ bG 53 aG 9 t T M ∧ bG 53 aG 9 u U N ∧ mA g i m T U G = some r) bL ⟨(.slice none 0 0), ([]), [], (.slice none 0 0), ([]), [], 0, (hp w), _, (bO.refl _), (d.aF St), rfl, rfl, rfl, rfl, rfl, (bG.nil _ _ _), (bG.nil _ _ _), hm⟩ ?_)))
  rintro m E W ⟨t, T, M, u, U, N, G, s, c0, k, d, Y, Z, a2, a3, d0, a4, a5, a⟩
  cases m with
  | zero => rw [mA] at a; cases a
  | succ f0 =>
    refine bg (V (aH Y (aK d.has (Mt Mh) p rfl isAgg110 sizeOf110)) (Wh a3 (V (aO qi Z) (VB d Mh rfl rfl isAgg9 (bS a fun d3 d9 a => VE (jg d call178 ((sD g (.slice A1 g.aT.length c2) (.slice A3 g.bP.length c4) u U i.Name _ _ (x.mono bM.mono (k.trans d.aP)) (H.mono ev.mono (k.trans d.aP)) (a5.sl bI (fun b o h => d.at_ (Mt (Mt (Ml h))))) d9)) (fun f6 q g3 c3 d Q A P => Wa (lr (V (aH Z (aK d.has (Ma Mh) a0 rfl isAgg110 sizeOf110)) ?_)))))))))
    refine Wh a2 (V (aO qi Y) (VB d (Ma (Mt Mh)) rfl rfl isAgg9 (bS a fun d4 e0 a => VE (jg d call178 ((sD i (.slice A7 i.aT.length c8) (.slice A9 i.bP.length L) t T g.Name _ _ (y.mono bM.mono ((k.trans Q).trans d.aP)) (I.mono ev.mono ((k.trans Q).trans d.aP)) (a4.sl bI (fun b o h => d.at_ (Ma (Mt (Mt (Ma (Ml h))))))) e0)) (fun f7 a9 d6 c5 d d2 F R => Wa (lS (Wm (Wh a2 (bS a fun g0 e1 a => VE (Eg d call41 (bF.dK (lQ q d3 t T _ _ (P.sl bI (fun b o h => d.at_ (Ma (Ml h)))) (a4.sl bI (fun b o h => d.at_ (Ma (Ma (Mt (Mt (Ma (Ml h)))))))) e1)) (fun f8 d => ?_)))))))))))
    refine Wm (LJ a (fun d5 E W => ∃ c1, ST false cA w W d6 ((l, Ol a0 110) :: ((n, Ol p 110) :: (c5 ++ (c3 ++ (N ++ (M ++ c1)))))) ∧ E 2 = (.pointer (some ⟨n, 0, none⟩)) ∧ E 3 = (.pointer (some ⟨l, 0, none⟩)) ∧ E 7 = t ∧ E 8 = u ∧ E 9 = (.int .i64 G) ∧ E 10 = q ∧ E 11 = a9 ∧ E 29 = (.bool d5)) 4 ?_ (fun d5 j O => ?_))
    · rintro g2 E W ⟨c1, d, e3, e4, e5, e6, d1, e7, e8, e9⟩ z
      refine ln (CI z e9 (fun d8 z => ?_) (fun d8 z => ?_))
      · refine sg (Wh e5 (Wh e6 (Wh d1 (Wa (Wa (Wa (ln ?_)))))))
        replace d := d.aF (Db (Db (Dr (Dr St))))
        refine bH (bU (eF (bU (eF (bU ?_)))))
        obtain rfl := sj z
        exact DV (v0 := t) (v1 := u) (v2 := (.int .i64 G)) rfl rfl rfl rfl ⟨_, _, rfl, (d.Bx (Sr (Qr Qz) (Kr Sn))), t, M, u, N, rfl, rfl, a4, a5⟩
      refine kn ?_
      replace d := d.aF (Kb (Kb (Kr (Kr (Dr (Dr St))))))
      refine sg (Wh e7 (Wa (lr (Wh e8 (Wa (ln (aU (Wh d1 (Wi rfl ?_)))))))))
      exact Wa (bK (bY (aR ⟨f0, Nat.lt_succ_self _, q, d3, c3, a9, d4, c5, ((IntKind.i64.wrap (G + 1))), d6, _, ((k.trans Q).trans d2), (d.aF St), e3, e4, rfl, rfl, rfl, P, R, z⟩)))
    refine bC j (fun c j => ?_) (fun c j => ?_)
    · refine ug c (aQ rfl) (ug c (aQ a3) (bS j fun g1 e2 j => kf c (Eg d call41 (bF.dK (lQ a9 d4 u U _ _ (R.sl bI (fun b o h => d.at_ (Ml h))) (a5.sl bI (fun b o h => d.at_ (Ma (Ma (Mt (Mt (Ml h))))))) e2)) (fun f9 d => V (aY (cB c) rfl) ?_))))
      obtain rfl := sj j
      exact O _ _ ⟨_, (d.aF (Sb (Pr (Pr Pz)) (Sb (Pr (Pr Pz)) St))), Y, Z, a2, a3, d0, rfl, rfl, rfl⟩
    refine un c (un c (un c (V (aZ (cB c) rfl) ?_)))
    obtain rfl := sj j
    exact O _ _ ⟨_, (d.aF (Sb (Pr (Pr Pz)) (Sb (Pr (Pr Pz)) St))), Y, Z, a2, a3, d0, rfl, rfl, rfl⟩
theorem xN (G : Value) (H : List aB) (z : Value) (J r : List aB) (w : World) (D : Sl (Pl aG) 9 (hp w) G H) (Z : Sl (Pl aG) 9 (hp w) z J) (hm : pk H J = some r) :
    dP true Tryz.prog 181 [G, z] w 53 aG 9 r := by
  refine ng 24 func181 rfl (fun b => sg (Wa (lr (Wa (lS (Wm ?_))))))
  refine V (cU underlying22 rfl D) (Wm (ln (cK (fun i E W => ∃ j t g B, (E 10 = .int .i64 (i : Nat) ∧ E 9 = .int .i64 (H.length : Nat)) ∧ ST true cA w W (hp w) (g ++ B) ∧ E 1 = z ∧ E 5 = j ∧ E 8 = G ∧ bG 53 aG 9 j t g ∧ jL J (H.drop i) t = some r) H.length D.len ⟨(.slice none 0 0), ([]), [], _, ⟨rfl, rfl⟩, (b.aF St), rfl, rfl, rfl, (bG.nil _ _ _), hm⟩ dc dc dc (fun _ _ _ h => by obtain ⟨_, _, _, _, m, _⟩ := h; exact m) ?_ ?_)))
  · rintro s E W a2 ⟨j, t, g, B, ⟨d, n⟩, b, u, x, y, k, a⟩
    obtain ⟨c, b6, a4, a3, I⟩ := cC a2
    rw [a4] at a
    refine bg (VQ (fJ (enc := aG) (i := (s : Int)) (x0 := c) underlying22 sizeOf53 y d D (Int.natCast_nonneg _) a3) (fun b4 Q => V (aH rfl (bE b.has Q isAgg53 sizeOf53)) (VE (bR b zeroValue53 (fun F b3 b => VO (aX (.agg (aG c).toArray) ((aG c).toArray) b rfl rfl sizeOf53 (fC c) nb rfl (fun a9 b => lr (Wh u (VA b Mh (aG c) isAgg53 sizeOf53 (bS a fun b5 T a => VE (Eg b call53 ((wv z J c _ _ (Z.mono (Pl.mono _) b.aP) T)) (fun L b => ?_))))))))))))
    refine V (gn rfl) (ln (CI a rfl (fun M a => ?_) (fun M a => ?_)))
    · refine aU (Wh x (VA b Mh (aG c) isAgg53 sizeOf53 (VE (bJ (cs := (aG c).toArray) b (dZ rfl) (ew underlying22 sizeOf53 zeroValue53) (fun O Y b => ?_)))))
      replace b := b.perm (Nr (Qb (Qb Qz)) Nz)
      refine bS a fun a5 N a => VE (ga (enc := aG) (v := j) (vs := (.slice (some ⟨Y, 0, none⟩) 1 1)) (R := g) b bI dc fC underlying22 eJ.1 eJ.2.1 rfl eJ.2.2.1 eJ.2.2.2 rfl rfl k (Sl.lit (enc := aG) (l := [c]) bI rfl nb rfl (b.at_ (Ma Mh))) N (fun P q U b K => Wa (bK (bY (aR ?_)))))
      replace b := b.aF (Kr (Db (Db St)))
      exact ⟨d, q, a5, U, _, ⟨rfl, n⟩, (b.aF St), u, rfl, y, K, (by rw [I]; exact a)⟩
    refine cZ (bY (aR ?_))
    replace b := b.aF (Db St)
    exact ⟨d, j, t, g, _, ⟨rfl, n⟩, (b.aF St), u, x, y, k, (by rw [I]; exact a)⟩
  rintro E W ⟨j, t, g, B, ⟨d, n⟩, b, u, x, y, k, a⟩
  rw [List.drop_length] at a
  refine aR (sg (Wh x (Wa (lt ?_))))
  obtain rfl := sj a
  exact dH (v := j) rfl rfl ⟨_, g, rfl, b.gb (fun p A => (Ml A)) k.nd, k⟩
theorem Dt (a : fL) (z B t y x G : Value) (r : ((List aB) × (List aB))) (w : World) (i : Sl bN 15 (hp w) z a.aC.aT) (j : Sl dF 8 (hp w) B a.aC.bP) (c : Sl bN 15 (hp w) t a.Client.aT) (g : Sl dF 8 (hp w) y a.Client.bP) (k : Sl aD 5 (hp w) x a.Formula.Kids) (D : Sl jV 2 (hp w) G a.Keys) (hm : rq a = some r) :
    dV false Tryz.prog 77 [(.agg #[(.string a.aC.Name), z, B, (.string a.Client.Name), t, y, (.int .i64 a.Formula.Op), (.int .i64 a.Formula.K), (.string a.Formula.aA.aC), (.string a.Formula.aA.aJ), x, (.int .i64 a.mo), (.int .i64 a.fh.oz), (.int .i64 a.fh.oA), (.int .i64 a.gl), (.int .i64 a.jE), (.int .i64 a.ij), G])] w [] (fun v L1 W' => ∃ O S2 P S5, v = (.tuple #[O, P]) ∧ L1 = (S2 ++ (S5 ++ [])) ∧ bG 53 aG 9 O r.1 S2 ∧ bG 53 aG 9 P r.2 S5) := by
  refine ng 29 func77 rfl (fun d => sg ?_)
  obtain ⟨K, Z, rfl⟩ := i.form
  obtain ⟨N, m, rfl⟩ := j.form
  obtain ⟨Q, n, rfl⟩ := c.form
  obtain ⟨T, p, rfl⟩ := g.form
  obtain ⟨A9, U, rfl⟩ := k.form
  obtain ⟨M, Y, rfl⟩ := D.form
  refine VE (bX d rfl (fun e7 f2 d => Wa (Wa (lr (VA d Mh (C2 a.aC.Name K a.aC.aT.length Z N a.aC.bP.length m a.Client.Name Q a.Client.aT.length n T a.Client.bP.length p a.Formula.Op a.Formula.K a.Formula.aA.aC a.Formula.aA.aJ A9 a.Formula.Kids.length U a.mo a.fh.oz a.fh.oA a.gl a.jE a.ij M a.Keys.length Y) isAgg116 sizeOf116 (bS hm fun a4 b3 hm => ?_))))))
  refine VE (tY d (List.Perm.refl _) call75 (fun _ _ _ _ => (xL a (.slice K a.aC.aT.length Z) (.slice N a.aC.bP.length m) (.slice Q a.Client.aT.length n) (.slice T a.Client.bP.length p) (.slice A9 a.Formula.Kids.length U) (.slice M a.Keys.length Y) _ _ (i.mono bM.mono d.aP) (j.mono ev.mono d.aP) (c.mono bM.mono d.aP) (g.mono ev.mono d.aP) (k.mono aN.mono d.aP) (D.mono px.mono d.aP) b3)) (fun e8 f5 f7 e1 d H A h a9 => ?_) (L0 := []))
  obtain ⟨d1, e3, d2, e4, I, rfl, b7, b9⟩ := a9
  replace I := I.symm; subst I
  replace d := d.perm (Tr (Tr Tn))
  refine Wm (Wx rfl (Wx rfl (Wa (Wa (lr (Wf pu (VA d (Ma (Ma Mh)) (C5 a.aC.Name K a.aC.aT.length Z N a.aC.bP.length m) isAgg110 sizeOf110 (Wf pq (VA d (Ma (Ma Mh)) (C5 a.Client.Name Q a.Client.aT.length n T a.Client.bP.length p) isAgg110 sizeOf110 (bS hm fun a5 b4 hm => ?_))))))))))
  refine VE (tY d (List.Perm.refl _) call180 (fun _ _ _ _ => (Gi a.aC (.slice K a.aC.aT.length Z) (.slice N a.aC.bP.length m) a.Client (.slice Q a.Client.aT.length n) (.slice T a.Client.bP.length p) _ _ (i.mono bM.mono (H.trans d.aP)) (j.mono ev.mono (H.trans d.aP)) (c.mono bM.mono (H.trans d.aP)) (g.mono ev.mono (H.trans d.aP)) b4)) (fun e9 f6 f8 e2 d d6 E h R => ?_) (L0 := []))
  obtain ⟨d4, e5, d5, e6, J, rfl, c0, c1⟩ := R
  replace J := J.symm; subst J
  replace d := d.perm (Tr (Tr Tn))
  refine Wm (Wx rfl (Wx rfl (Wx rfl (Wa (Wa (Wa (ln ?_)))))))
  replace d := d.aF (Kr (Kr (Kr (Kr (Db St)))))
  refine sg (Wm (Wm (bS hm fun f3 b5 hm => VE (jg d call181 (dP.dK (xN d1 a4.1 d4 a5.1 _ _ (b7.sl bI (fun b o l => d.at_ (Ma (Ma (Ml l))))) (c0.sl bI (fun b o l => d.at_ (Ml l))) b5)) (fun f0 q f9 c3 d d7 F W => Wm (Wm (bS hm fun f4 b6 hm => VE (jg d call181 (dP.dK (xN d2 a4.2 d5 a5.2.1 _ _ (b9.sl bI (fun b o l => d.at_ (Ma (Ma (Ma (Ma (Ml l))))))) (c1.sl bI (fun b o l => d.at_ (Ma (Ma (Ml l))))) b6)) (fun f1 s g0 c5 d d8 L b2 => Wa (Wa (ln ?_)))))))))))
  replace d := d.aF (Kr (Kr (Dr (Dr (Dr (Dr St))))))
  refine bH ?_
  obtain rfl := sj hm
  exact uQ (v := q) (u := s) rfl rfl rfl ⟨_, _, rfl, (d.Bx (Sr (Qr Qz) (Kr Sn))), q, c3, s, c5, rfl, rfl, W, b2⟩
set_option maxHeartbeats 1000000 in
theorem yZ (a : fL) (N Q H M I b2 : Value) (r : Bool) (w : World) (j : Sl bN 15 (hp w) N a.aC.aT) (t : Sl dF 8 (hp w) Q a.aC.bP) (c : Sl bN 15 (hp w) H a.Client.aT) (i : Sl dF 8 (hp w) M a.Client.bP) (g : Sl aD 5 (hp w) I a.Formula.Kids) (y : Sl jV 2 (hp w) b2 a.Keys) (hm : nH a = some r) :
    bF false Tryz.prog 11 [(.agg #[(.string a.aC.Name), N, Q, (.string a.Client.Name), H, M, (.int .i64 a.Formula.Op), (.int .i64 a.Formula.K), (.string a.Formula.aA.aC), (.string a.Formula.aA.aJ), I, (.int .i64 a.mo), (.int .i64 a.fh.oz), (.int .i64 a.fh.oA), (.int .i64 a.gl), (.int .i64 a.jE), (.int .i64 a.ij), b2])] w (.bool r) := by
  refine cG 65 func11 rfl (fun d => sg ?_)
  obtain ⟨A1, c2, rfl⟩ := j.form
  let a4 : Value := (.slice A1 a.aC.aT.length c2)
  obtain ⟨A3, c4, rfl⟩ := t.form
  let q : Value := (.slice A3 a.aC.bP.length c4)
  obtain ⟨A5, c6, rfl⟩ := c.form
  let a3 : Value := (.slice A5 a.Client.aT.length c6)
  obtain ⟨A7, c8, rfl⟩ := i.form
  let a5 : Value := (.slice A7 a.Client.bP.length c8)
  obtain ⟨A9, D, rfl⟩ := g.form
  let p : Value := (.slice A9 a.Formula.Kids.length D)
  obtain ⟨B, G, rfl⟩ := y.form
  let s : Value := (.slice B a.Keys.length G)
  let a0 := (C2 a.aC.Name A1 a.aC.aT.length c2 A3 a.aC.bP.length c4 a.Client.Name A5 a.Client.aT.length c6 A7 a.Client.bP.length c8 a.Formula.Op a.Formula.K a.Formula.aA.aC a.Formula.aA.aJ A9 a.Formula.Kids.length D a.mo a.fh.oz a.fh.oA a.gl a.jE a.ij B a.Keys.length G)
  refine VE (bX d rfl (fun m5 v d => Wa (lS (bS hm fun n3 i4 hm => VE (Eg d call72 ((Dp  _ _  i4)) (fun m6 d => V (gn rfl) (ln (CI hm rfl (fun i1 hm => ?_) (fun i1 hm => ?_)))))))))
  · refine sg (Wa (ln ?_))
    replace d := d.aF (Db St)
    refine bH (bU ?_)
    have h := sj hm; subst h
    exact rP d
  refine kS (VA d Mh a0 isAgg116 sizeOf116 (bS hm fun n4 i5 hm => VE (Eg d call73 ((Dy a a4 q a3 a5 p s _ _ (j.mono bM.mono d.aP) (t.mono ev.mono d.aP) (c.mono bM.mono d.aP) (i.mono ev.mono d.aP) (g.mono aN.mono d.aP) (y.mono px.mono d.aP) i5)) (fun m7 d => Wi rfl (ln (CI hm rfl (fun i2 hm => ?_) (fun i2 hm => ?_)))))))
  · refine sg (Wa (ln ?_))
    replace d := d.aF (Db St)
    refine bH (bU ?_)
    have h := sj hm; subst h
    exact rP d
  refine kg (VA d Mh a0 isAgg116 sizeOf116 (bS hm fun g1 i6 hm => ?_))
  refine VE (tY d (List.Perm.refl _) call74 (fun _ _ _ _ => (ub a a4 q a3 a5 p s _ _ (j.mono bM.mono d.aP) (t.mono ev.mono d.aP) (c.mono bM.mono d.aP) (i.mono ev.mono d.aP) (g.mono aN.mono d.aP) (y.mono px.mono d.aP) i6)) (fun m8 n6 o1 l7 d k aa l h7 => ?_) (L0 := []))
  obtain ⟨k1, m1, k2, m2, c1, rfl, j3, j4⟩ := h7
  replace c1 := c1.symm; subst c1
  replace d := d.perm (Tr (Tr Tn))
  refine Wm (Wx rfl (Wx rfl (Wa (Wa (lr (VA d (Ma (Ma Mh)) a0 isAgg116 sizeOf116 (bS hm fun g2 i7 hm => ?_)))))))
  refine VE (tY d (List.Perm.refl _) call75 (fun _ _ _ _ => (xL a a4 q a3 a5 p s _ _ (j.mono bM.mono (k.trans d.aP)) (t.mono ev.mono (k.trans d.aP)) (c.mono bM.mono (k.trans d.aP)) (i.mono ev.mono (k.trans d.aP)) (g.mono aN.mono (k.trans d.aP)) (y.mono px.mono (k.trans d.aP)) i7)) (fun m9 n7 o2 l8 d x ab l h8 => ?_) (L0 := []))
  obtain ⟨k3, m3, k4, m4, O, rfl, j5, j6⟩ := h8
  replace O := O.symm; subst O
  replace d := d.perm (Tr (Tr Tn))
  refine Wm (Wx rfl (Wx rfl (Wa (Wa (lr (VA d (Ma (Ma (Ma (Ma Mh)))) a0 isAgg116 sizeOf116 (bS hm fun g3 i8 hm => ?_)))))))
  refine VE (tY d (List.Perm.refl _) call76 (fun _ _ _ _ => (uh a a4 q a3 a5 p s _ _ (j.mono bM.mono ((k.trans x).trans d.aP)) (t.mono ev.mono ((k.trans x).trans d.aP)) (c.mono bM.mono ((k.trans x).trans d.aP)) (i.mono ev.mono ((k.trans x).trans d.aP)) (g.mono aN.mono ((k.trans x).trans d.aP)) (y.mono px.mono ((k.trans x).trans d.aP)) i8)) (fun n0 n8 o3 l9 d z ad l h9 => ?_) (L0 := []))
  obtain ⟨g7, j9, e9, f8, P, rfl, j7, j8⟩ := h9
  replace P := P.symm; subst P
  replace d := d.perm (Tr (Tr Tn))
  refine Wm (Wx rfl (Wx rfl (Wa (Wa (lr (VA d (Ma (Ma (Ma (Ma (Ma (Ma Mh)))))) a0 isAgg116 sizeOf116 (bS hm fun g4 i9 hm => ?_)))))))
  refine VE (tY d (List.Perm.refl _) call77 (fun _ _ _ _ => (Dt a a4 q a3 a5 p s _ _ (j.mono bM.mono (((k.trans x).trans z).trans d.aP)) (t.mono ev.mono (((k.trans x).trans z).trans d.aP)) (c.mono bM.mono (((k.trans x).trans z).trans d.aP)) (i.mono ev.mono (((k.trans x).trans z).trans d.aP)) (g.mono aN.mono (((k.trans x).trans z).trans d.aP)) (y.mono px.mono (((k.trans x).trans z).trans d.aP)) i9)) (fun n1 n9 d1 m0 d a2 ae l i0 => ?_) (L0 := []))
  obtain ⟨A, d5, d0, d6, R, rfl, e3, e4⟩ := i0
  replace R := R.symm; subst R
  replace d := d.perm (Tr (Tr Tn))
  refine Wm (Wx rfl (Wx rfl (Wa (Wa (lr (Wm (Wm (bS hm fun n5 j0 hm => VE (Eg d call41 (bF.dK (lQ k1 g1.1 k3 g2.1 _ _ (j3.sl bI (fun b o m => d.at_ (Ma (Ma (Ma (Ma (Ma (Ma (Ml m))))))))) (j5.sl bI (fun b o m => d.at_ (Ma (Ma (Ma (Ma (Ml m))))))) j0)) (fun n2 d => Wm (LJ hm (fun e8 E W => ∃ f7, ST false cA w W d1 ((v, Ol a0 116) :: (d5 ++ (d6 ++ (j9 ++ (f8 ++ f7))))) ∧ E 1 = (.pointer (some ⟨v, 0, none⟩)) ∧ E 2 = (.bool false) ∧ E 7 = g7 ∧ E 8 = e9 ∧ E 9 = A ∧ E 10 = d0 ∧ E 43 = (.bool e8)) 4 ?_ (fun e8 n b7 => ?_))))))))))))
  · rintro o0 E W ⟨f7, d, f9, g0, k0, d7, F, d8, g9⟩ i3
    refine Wh g9 (LJ i3 (fun e7 E W => ∃ d2, ST false cA w W d1 ((v, Ol a0 116) :: (d5 ++ (d6 ++ (f8 ++ d2)))) ∧ E 1 = (.pointer (some ⟨v, 0, none⟩)) ∧ E 2 = (.bool false) ∧ E 8 = e9 ∧ E 9 = A ∧ E 10 = d0 ∧ E 48 = (.bool e7)) 4 ?_ (fun e7 Z b6 => ?_))
    · rintro l4 E W ⟨d2, d, d9, e0, h0, e1, L, h1⟩ f0
      refine Wh h1 (LJ f0 (fun e6 E W => ∃ d3, ST false cA w W d1 ((v, Ol a0 116) :: (d5 ++ (d6 ++ d3))) ∧ E 1 = (.pointer (some ⟨v, 0, none⟩)) ∧ E 2 = (.bool false) ∧ E 9 = A ∧ E 10 = d0 ∧ E 53 = (.bool e6)) 4 ?_ (fun e6 Y b5 => ?_))
      · rintro l5 E W ⟨d3, d, h2, e2, h3, h4, h5⟩ f1
        refine Wh h5 (LJ f1 (fun e5 E W => ∃ d4, ST false cA w W d1 d4 ∧ E 2 = (.bool false) ∧ E 64 = (.bool e5)) 10 ?_ (fun e5 U b4 => ?_))
        · rintro l6 E W ⟨d4, d, k9, h6⟩ f2
          exact Wg h6 (lt (rQ f2 d))
        refine bC U (fun u U => ?_) (fun u U => ?_)
        · refine ug u (aH h2 (aK d.has Mh a0 rfl isAgg116 sizeOf116)) (bS U fun l0 f3 U => kf u (Eg d call78 ((vh a a4 q a3 a5 p s _ _ (j.mono bM.mono ((((k.trans x).trans z).trans a2).trans d.aP)) (t.mono ev.mono ((((k.trans x).trans z).trans a2).trans d.aP)) (c.mono bM.mono ((((k.trans x).trans z).trans a2).trans d.aP)) (i.mono ev.mono ((((k.trans x).trans z).trans a2).trans d.aP)) (g.mono aN.mono ((((k.trans x).trans z).trans a2).trans d.aP)) (y.mono px.mono ((((k.trans x).trans z).trans a2).trans d.aP)) f3)) (fun k5 d => ug u (aQ h3) (ug u (fi underlying22 rfl e3) (ug u (aQ h4) (ug u (fi underlying22 rfl e4) (ug u (cF rfl rfl rfl) (ug u (cF rfl rfl rfl) (ug u (J6 underlying4 rfl rfl rfl) (V (aY (cB u) rfl) ?_))))))))))
          have h := sj U; subst h
          exact b4 _ _ ⟨_, (d.aF (Db (Dr (Dr St)))), e2, rfl⟩
        refine un u (un u (un u (un u (un u (un u (un u (un u (un u (V (aZ (cB u) rfl) ?_)))))))))
        have h := sj U; subst h
        exact b4 _ _ ⟨_, (d.aF (Db (Dr (Dr St)))), e2, rfl⟩
      refine bC Y (fun K Y => ?_) (fun K Y => ?_)
      · refine ug K (aQ h0) (ug K (aQ L) (bS Y fun l1 f4 Y => kf K (Eg d call41 (bF.dK (lQ e9 g3.2 d0 g4.2 _ _ (j8.sl bI (fun b o m => d.at_ (Mt (Ma (Ma (Ml m)))))) (e4.sl bI (fun b o m => d.at_ (Mt (Ma (Ml m))))) f4)) (fun k6 d => V (aY (cB K) rfl) ?_))))
        have h := sj Y; subst h
        exact b5 _ _ ⟨_, (d.aF (Kb (Kr (Kr (Dr St))))), d9, e0, e1, L, rfl⟩
      refine un K (un K (un K (V (aZ (cB K) rfl) ?_)))
      have h := sj Y; subst h
      exact b5 _ _ ⟨_, (d.aF (Kb (Kr (Kr (Dr St))))), d9, e0, e1, L, rfl⟩
    refine bC Z (fun J Z => ?_) (fun J Z => ?_)
    · refine ug J (aQ k0) (ug J (aQ F) (bS Z fun l2 f5 Z => kf J (Eg d call41 (bF.dK (lQ g7 g3.1 A g4.1 _ _ (j7.sl bI (fun b o m => d.at_ (Mt (Ma (Ma (Ml m)))))) (e3.sl bI (fun b o m => d.at_ (Mt (Ml m)))) f5)) (fun k7 d => V (aY (cB J) rfl) ?_))))
      have h := sj Z; subst h
      exact b6 _ _ ⟨_, (d.aF (Kb (Kr (Kr (Dr St))))), f9, g0, d7, F, d8, rfl⟩
    refine un J (un J (un J (V (aZ (cB J) rfl) ?_)))
    have h := sj Z; subst h
    exact b6 _ _ ⟨_, (d.aF (Kb (Kr (Kr (Dr St))))), f9, g0, d7, F, d8, rfl⟩
  refine bC n (fun T n => ?_) (fun T n => ?_)
  · refine ug T (aQ rfl) (ug T (aQ rfl) (bS n fun l3 f6 n => kf T (Eg d call41 (bF.dK (lQ k2 g1.2 k4 g2.2 _ _ (j4.sl bI (fun b o m => d.at_ (Ma (Ma (Ma (Ma (Ma (Ma (Ma (Ml m)))))))))) (j6.sl bI (fun b o m => d.at_ (Ma (Ma (Ma (Ma (Ma (Ml m)))))))) f6)) (fun k8 d => V (aY (cB T) rfl) ?_))))
    have h := sj n; subst h
    exact b7 _ _ ⟨_, (d.aF (Sb (Pr (Pr (Pr (Pr (Pr (Pr (Pr (Pr Pz)))))))) (Kr (Kr (Kr (Kr (Dr (Dr (Dr (Dr St)))))))))), rfl, rfl, rfl, rfl, rfl, rfl, rfl⟩
  refine un T (un T (un T (V (aZ (cB T) rfl) ?_)))
  have h := sj n; subst h
  exact b7 _ _ ⟨_, (d.aF (Sb (Pr (Pr (Pr (Pr (Pr (Pr (Pr (Pr Pz)))))))) (Kr (Kr (Kr (Kr (Dr (Dr (Dr (Dr St)))))))))), rfl, rfl, rfl, rfl, rfl, rfl, rfl⟩
end Go.Proofs.YtmlncblocfcmiaaGreat
