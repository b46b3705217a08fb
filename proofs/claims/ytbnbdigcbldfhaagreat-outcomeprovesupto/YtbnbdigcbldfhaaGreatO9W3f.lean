/- a part of a proof of OutcomeProves -/
import Derived.Test.YtbnbdigcbldfhaaGreatO9W2f
set_option linter.all false
namespace Go.Proofs.YtbnbdigcbldfhaaGreat
open Go.IntKind renaming wrap → wi0
open Go.Proofs.Tryz renaming prog → pg0
open Go.RowKit
set_option maxRecDepth 10000
open Tryz
theorem MB (a : Formula) (t : Value) (r : Bool) (w : World) (c : Sl la 5 (hp w) t a.Kids) (hm : xY a = some r) :
  lg false pg0 29 [(.agg #[(.int .i64 a.Op), (.int .i64 a.K), (.string a.kA.kI), (.string a.kA.kU), t])] w (.bool r) := by
 refine cG 15 func29 rfl (fun d => sg ?_)
 obtain ⟨u, x, rfl⟩ := c.form
 let h : Value := (.slice u a.Kids.length x)
 let a0 := (C1 a.Op a.K a.kA.kI a.kA.kU u a.Kids.length x)
 refine VE (lF d rfl (fun W4 Q d => Wa (lr (VA d Mh a0 cx aZ (bS hm fun q Z hm => VE (Eg d call77 ((GB lE) a h _ _ (c.mono lZ.mono d.kN) Z) (fun W7 d => Wi rfl (Wm (LJ hm (fun I E W => ∃ B, ST false lu w W (hp w) ((Q, Ol a0 57) :: B) ∧ E 1 = (.pointer (some ⟨Q, 0, none⟩)) ∧ E 2 = (.bool false) ∧ E 10 = (.bool I)) 4 ?_ (fun I j z => ?_))))))))))
 ·rintro n E W ⟨B, d, T, G, U⟩ J
  refine Wh U (LJ J (fun H E W => ∃ D, ST false lu w W (hp w) D ∧ E 2 = (.bool false) ∧ E 14 = (.bool H)) 3 ?_ (fun H i y => ?_))
  ·rintro o E W ⟨D, d, a3, Y⟩ K
   exact Wg Y (lt (rQ K d))
  refine bC i (fun g i => ?_) (fun g i => ?_)
  ·refine ug g (kE T (kL d.has Mh a0 rfl cx aZ)) (bS i fun a4 M i => qy g (Eg d call79 ((HO lE) a h _ _ (c.mono lZ.mono d.kN) M) (fun m d => V (kX (cB g) rfl) ?_)))
   obtain rfl := sj i
   exact y _ _ ⟨_, (d.kD (Db St)), G, rfl⟩
  refine un g (un g (V (kW (cB g) rfl) ?_))
  obtain rfl := sj i
  exact y _ _ ⟨_, (d.kD (Db St)), G, rfl⟩
 refine bC j (fun k j => ?_) (fun k j => ?_)
 ·refine ug k (kE rfl (kL d.has Mh a0 rfl cx aZ)) (bS j fun a5 N j => qy k (Eg d call78 ((Hi lE) a h _ _ (c.mono lZ.mono d.kN) N) (fun a2 d => ug k (lK rfl rfl rfl) (V (kX (cB k) rfl) ?_))))
  obtain rfl := sj j
  exact z _ _ ⟨_, (d.kD St), rfl, rfl, rfl⟩
 refine un k (un k (un k (V (kW (cB k) rfl) ?_)))
 obtain rfl := sj j
 exact z _ _ ⟨_, (d.kD St), rfl, rfl, rfl⟩
theorem HW (N : Formula → Option (List kA)) (P : ∀ (g : Formula) (k : Value) (r : List kA) (w : World) (j : Sl la 5 (hp w) k g.Kids), N g = some r → lT false pg0 80 [(.agg #[(.int .i64 g.Op), (.int .i64 g.K), (.string g.kA.kI), (.string g.kA.kU), k])] w 28 kC 2 r) (g : Formula) (k : Value) (r : List kA) (w : World) (j : Sl la 5 (hp w) k g.Kids) (hm : yP N g = some r) :
  lT false pg0 80 [(.agg #[(.int .i64 g.Op), (.int .i64 g.K), (.string g.kA.kI), (.string g.kA.kU), k])] w 28 kC 2 r := by
 refine tT 25 func80 rfl (fun d => sg ?_)
 obtain ⟨A1, c2, rfl⟩ := j.form
 refine VE (lF d rfl (fun W4 b3 d => Wa (lS (Wf wY (VB d Mh rfl rfl cH (Wi rfl (ln (CI hm rfl (fun b7 hm => ?_) (fun b7 hm => ?_)))))))))
 ·refine sg (Wf yM (VA d Mh (kC g.kA) aO aC (VE (lj (cs := (kC g.kA).toArray) d (mN rfl) (mJ aF aC bQ) (fun W7 s d => Wa (ln ?_))))))
  replace d := d.kD (Kb (Db St))
  refine lx (lm ?_)
  obtain rfl := sj hm
  exact lQ (v := (.slice (some ⟨s, 0, none⟩) 1 1)) rfl rfl ⟨_, [(s, Ol (kC g.kA) 28)], rfl, d.mV (fun p m => by rw [aN] at m; subst m; exact Mh) (by simp), (kZ.lit (l := [g.kA]) (enc := kC) rfl dc rfl rfl)⟩
 refine kg (Wa (lS (Wf ux (VB d Mh rfl rfl fe (V (lJ bZ rfl j) (Wm (lo ?_)))))))
 refine kK ?_
 replace d := d.kD (Db St)
 refine lz (fun i E W => ∃ u D t G H, (E 15 = .int .i64 (i : Nat) ∧ E 14 = .int .i64 (g.Kids.length : Nat)) ∧ lb (hp w) G ∧ ST false lu w W G (t ++ H) ∧ E 3 = u ∧ E 13 = (.slice A1 g.Kids.length c2) ∧ kZ 28 kC 2 u D t ∧ tp N (g.Kids.drop i) D = some r) g.Kids.length j.len ⟨(.slice none 0 0), ([]), [], (hp w), _, ⟨rfl, rfl⟩, (lb.refl _), (d.kD St), rfl, rfl, (kZ.nil _ _ _), hm⟩ dc dc dc (fun _ _ _ h => by obtain ⟨_, _, _, _, _, o, _⟩ := h; exact o) ?_ ?_
 ·rintro a7 E W Y ⟨u, D, t, G, H, ⟨n, A⟩, y, d, I, J, x, c⟩
  obtain ⟨a, b9, a3, a2, a4⟩ := ll Y
  rw [a3] at c
  refine bg (VQ (sE (i := (a7 : Int)) (x0 := a) la.out bZ aZ J n (j.mono lZ.mono y) (aD _) a2) (fun c7 ⟨_, ⟨c9, rfl, K⟩, Z⟩ => V (kE rfl (lO d.has Z cx aZ)) (VE (lD d dp (fun c1 c6 d => ?_)))))
  obtain ⟨z, B, rfl⟩ := K.form
  let a0 := (C1 a.Op a.K a.kA.kI a.kA.kU z a.Kids.length B)
  refine VO (lh (.agg a0.toArray) (a0.toArray) d rfl rfl aZ oc nb rfl (fun c3 d => ln (kT (Wh I (VA d Mh a0 cx aZ (bS c fun c8 L c => VE (qu d call80 (P a (.slice z a.Kids.length B) _ _ (K.mono lZ.mono d.kN) L) (fun c4 a9 b1 c0 d M q Q => ?_))))))))
  replace d := d.perm (Nr (Qr (Qb Qz)) Nz)
  refine bS c fun a8 U c => VE (mD (enc := kC) (v := u) (vs := a9) (R := t) d my dc mH aF mw.1 mw.2.1 rfl mw.2.2.1 mw.2.2.2 rfl rfl x (Q.Sx my d (fun p m => (Ma (Ml m)))) U (fun c5 b0 a5 d T => Wa (lo (lA (kK ?_)))))
  replace d := d.kD (Kr (Dr (Db St)))
  exact ⟨n, b0, a8, a5, b1, _, ⟨rfl, A⟩, (y.trans M), (d.kD St), rfl, J, T, (by rw [a4]; exact c)⟩
 rintro E W ⟨u, D, t, G, H, ⟨n, A⟩, y, d, I, J, x, c⟩
 rw [aG] at c
 refine kK (sg (Wh I (Wa (lt ?_))))
 obtain rfl := sj c
 exact lQ (v := u) rfl rfl ⟨_, t, rfl, d.mV (fun p m => (Ml m)) x.nd, x⟩
theorem GA : ∀ (n : Nat) (c : Formula) (a : Value) (r : List kA) (w : World) (g : Sl la 5 (hp w) a c.Kids) (_ : uY n c = some r),
  lT false pg0 80 [(.agg #[(.int .i64 c.Op), (.int .i64 c.K), (.string c.kA.kI), (.string c.kA.kU), a])] w 28 kC 2 r
 | 0 => by intros; rename_i h; simp only [uY] at h; cases h
 | n + 1 => HW (uY n) (GA n)
theorem xz (t u : kA) (r : Bool) (w : World) (hm : rq t u = some r) :
  lg true pg0 107 [(.agg (kC t).toArray), (.agg (kC u).toArray)] w (.bool r) := by
 refine cG 24 func107 rfl (fun d => sg (VE (lF d rfl (fun T Y d => VE (lF d rfl (fun U Z d => Wa (lr (Wf oF (VB d (Mt Mh) rfl rfl aY (Wf oF (VB d Mh rfl rfl aY (V (se rfl rfl rfl) ?_))))))))))))
 refine Wm (LJ hm (fun z E W => ∃ x, ST true lu w W (hp w) x ∧ E 4 = (.bool false) ∧ E 23 = (.bool z)) 13 ?_ (fun z g j => ?_))
 ·rintro N E W ⟨x, d, M, H⟩ D
  exact Wg H (lt (rQ D d))
 refine bC g (fun a g => ?_) (fun a g => ?_)
 ·refine un a (un a (un a (un a (un a (un a (Vu rfl rfl (Vu rfl rfl (Vu rfl rfl (Vu rfl rfl (Vu rfl rfl (un a (V (kX (cB a) rfl) ?_))))))))))))
  obtain rfl := sj g
  exact j _ _ ⟨_, (d.kD (Db (Db St))), rfl, rfl⟩
 refine ug a (kH oF rfl) (ug a (kE rfl (kR d.has (Mt Mh) rfl aY)) (ug a (kH oF rfl) (ug a (kE rfl (kR d.has Mh rfl aY)) (ug a (se rfl rfl rfl) (ug a (kM rfl) (LJ g (fun B E W => ∃ y, ST true lu w W (hp w) y ∧ E 4 = (.bool false) ∧ E 10 = (.bool (qz t.kI u.kI)) ∧ E 22 = (.bool B)) 6 ?_ (fun B i k => ?_)))))))
 ·rintro Q E W ⟨y, d, I, J, K⟩ G
  refine V (kW (J.trans (cB a)) K) ?_
  obtain rfl := sj G
  exact j _ _ ⟨_, (d.kD St), I, rfl⟩
 refine bC i (fun c i => ?_) (fun c i => ?_)
 ·refine ug c (kH uo rfl) (ug c (kE rfl (kR d.has (Mt Mh) rfl aY)) (ug c (kH uo rfl) (ug c (kE rfl (kR d.has Mh rfl aY)) (ug c (se rfl rfl rfl) (ug a (kX (cB c) rfl) ?_)))))
  obtain rfl := sj i
  exact k _ _ ⟨_, (d.kD (Db (Db St))), rfl, rfl, rfl⟩
 refine un c (un c (un c (un c (un c (ug a (kW (cB c) rfl) ?_)))))
 obtain rfl := sj i
 exact k _ _ ⟨_, (d.kD (Db (Db St))), rfl, rfl, rfl⟩
theorem O6 (D : Value) (a0 r : List kA) (w : World) (e3 : Sl (Pl kC) 2 (hp w) D a0) (hm : EY a0 = some r) :
  lT true pg0 60 [D] w 28 kC 2 r := by
 refine tT 49 func60 rfl (fun n => sg (Wa (lr (Wa (ln (vG (mP (ou (fun m E W => ∃ u a3 t c5, ST true lu w W (hp w) (t ++ c5) ∧ E 0 = D ∧ E 3 = u ∧ kZ 28 kC 2 u a3 t ∧ vI a0 m a3 = some r) lE ⟨(.slice none 0 0), ([]), [], _, (n.kD St), rfl, rfl, (kZ.nil _ _ _), hm⟩ ?_))))))))
 rintro m E W ⟨u, a3, t, c5, n, d1, g2, J, a5⟩
 cases m with
 | zero => rw [vI] at a5; cases a5
 | succ j5 =>
  refine bg (VE (lD n bQ (fun k0 k n => lr (Wa (lS (Wh d1 ?_))))))
  let b8 : Value := (.pointer (some ⟨k, 0, none⟩))
  refine V (lJ aF rfl e3) (Wm (ln (CJ a5 (fun a9 E W => ∃ c6, ST true lu w W (hp w) ((k, Ol (kC a9.2) 28) :: (t ++ c6)) ∧ E 0 = D ∧ E 3 = u ∧ E 4 = b8 ∧ E 5 = (.bool a9.1)) (fun a9 e9 => ?_) ?_)))
  ·refine lz (fun i E W => ∃ G x b1, (E 10 = .int .i64 (i : Nat) ∧ E 9 = .int .i64 (a0.length : Nat)) ∧ ST true lu w W (hp w) ((k, Ol (kC x) 28) :: (t ++ b1)) ∧ E 0 = D ∧ E 3 = u ∧ E 4 = b8 ∧ E 5 = (.bool G) ∧ E 8 = D ∧ tq a3 (a0.drop i) G x = some a9) a0.length e3.len ⟨false, K0, _, ⟨rfl, rfl⟩, (n.kD St), d1, g2, rfl, rfl, rfl, e9⟩ dc dc dc (fun _ _ _ h => by obtain ⟨_, _, _, aa, _⟩ := h; exact aa) ?_ ?_
   ·rintro a2 E W e8 ⟨G, x, b1, ⟨s, eN⟩, n, U, M, Y, Z, q, z⟩
    let g5 := ((kC x).toArray : Array Value)
    obtain ⟨c, j9, f9, f8, c4⟩ := ll e8
    let c3 := ((kC c).toArray : Array Value)
    rw [f9] at z
    refine bg (VQ (lY (enc := kC) (i := (a2 : Int)) (x0 := c) aF aC q s e3 (aD _) f8) (fun k9 f3 => V (kE rfl (lO n.has f3 aO aC)) (VE (lD n bQ (fun k3 K n => VO (lh (.agg (kC c).toArray) ((kC c).toArray) n rfl rfl aC (mH c) nb rfl (fun k4 n => ln (kV ?_))))))))
    let j2 : Value := (.int .i64 (a2 : Int))
    let j1 : Value := (.int .i64 (a0.length : Int))
    let g6 : Value := (.pointer (some ⟨K, 0, none⟩))
    replace n := n.drew
    have d := n.has.kD (Kb (Kb (Kr Sn)))
    refine lN d lB (XH 0 rfl d (fun _ o => kE rfl (kL o Mh (kC c) rfl aO aC)) (bS z fun j6 f5 z => XE 1 rfl (Eg n call88 (yd c _ _  f5) (fun k5 n => ?_))))
    have d := n.has.kD (Kb (Kb (Kr Sn)))
    refine ⟨d, (X 2 rfl d (kM rfl) (PJ z (fun e0 E W => ∃ c7, ST true lu w W (hp w) ((K, Obj.cells c3 28 (0, 0)) :: ((k, Obj.cells g5 28 (0, 0)) :: (t ++ c7))) ∧ E 0 = D ∧ E 3 = u ∧ E 4 = b8 ∧ E 5 = (.bool G) ∧ E 7 = g6 ∧ E 8 = D ∧ E 9 = j1 ∧ E 10 = j2 ∧ E 30 = (.bool e0)) (bm 26 131071) 9 ?_ (fun e0 T c1 => ?_)))⟩
    ·rintro j8 E W ⟨c7, n, b2, b3, A, L, P, b4, b5, b6, g8⟩ f0
     have d := n.has.kD (Kb (Kb (Kr Sn)))
     refine X 17 rfl d (kM g8) (PJ f0 (fun d8 E W => ∃ c8, ST true lu w W (hp w) ((K, Obj.cells c3 28 (0, 0)) :: ((k, Obj.cells g5 28 (0, 0)) :: (t ++ c8))) ∧ E 0 = D ∧ E 3 = u ∧ E 4 = b8 ∧ E 5 = (.bool G) ∧ E 7 = g6 ∧ E 8 = D ∧ E 9 = j1 ∧ E 10 = j2 ∧ E 39 = (.bool d8)) (bm 26 67108863) 0 ?_ (fun d8 Q b9 => ?_))
     ·rintro l4 E W ⟨c8, n, d3, d4, b7, g9, h0, d5, d6, d7, h1⟩ N
      refine me kr (kK (CI N h1 (fun e7 N => ?_) (fun e7 N => ?_)))
      ·refine sg (V (kE h0 (kL n.has Mh (kC c) rfl aO aC)) ?_)
       replace n := n.perm (Nb (Pb Pz) Nz)
       refine VO (lh (.agg (kC c).toArray) ((kC c).toArray) n b7 rfl aC (mH c) nb rfl (fun k6 n => ln ?_))
       replace n := n.kD (Kb (Db St))
       exact kT (Wa (lo (lA (kK ⟨d7, true, c, _, ⟨rfl, d6⟩, (n.kD St), d3, d4, b7, rfl, d5, (by rw [c4]; exact N)⟩))))
      refine lG (lA (kK ?_))
      replace n := n.kD (Db St)
      exact ⟨d7, G, x, _, ⟨rfl, d6⟩, (n.kD St), d3, d4, b7, g9, d5, (by rw [c4]; exact N)⟩
     refine bC Q (fun j Q => ?_) (fun j Q => ?_)
     ·refine Xg 18 rfl rfl (cB j) d (kM L) (Xg 19 rfl rfl (cB j) d (nr rfl) (Xg 20 rfl rfl (cB j) d (kM rfl) (PJ Q (fun d9 E W => ∃ c9, ST true lu w W (hp w) ((K, Obj.cells c3 28 (0, 0)) :: ((k, Obj.cells g5 28 (0, 0)) :: (t ++ c9))) ∧ E 0 = D ∧ E 3 = u ∧ E 4 = b8 ∧ E 5 = (.bool G) ∧ E 7 = g6 ∧ E 8 = D ∧ E 9 = j1 ∧ E 10 = j2 ∧ E 31 = (.bool j8) ∧ E 38 = (.bool d9)) (bm 26 33554431) 1 ?_ (fun d9 I c0 => ?_))))
      ·rintro l5 E W ⟨c9, n, h2, h3, h4, h5, h6, h7, h8, h9, i0, i1⟩ f1
       have d := n.has.kD (Kb (Kb (Kr Sn)))
       refine X 25 rfl d (kX (i0.trans (cB j)) i1) ?_
       obtain rfl := sj f1
       refine np kr (b9 _ _ ⟨_, (n.kD St), h2, h3, h4, h5, h6, h7, h8, h9, rfl⟩)
      refine bC I (fun y I => ?_) (fun y I => ?_)
      ·refine Xn 21 rfl rfl (cB y) d (Xn 22 rfl rfl (cB y) d (Xn 23 rfl rfl (cB y) d (Xg 24 rfl rfl (cB j) d (kX (cB y) rfl) ?_)))
       obtain rfl := sj I
       refine np kr (c0 _ _ ⟨_, (n.kD St), b2, b3, A, L, P, b4, b5, b6, rfl, rfl⟩)
      refine vA 21 rfl rfl (cB y) d (fun _ o => kE P (kL o Mh (kC c) rfl aO aC)) (vA 22 rfl rfl (cB y) d (fun _ o => kE A (kL o (Mt Mh) (kC x) rfl aO aC)) (bS I fun l1 f6 I => DK 23 rfl rfl (cB y) (Eg n call107 (xz c x _ _  f6) (fun k7 n => ?_))))
      have d := n.has.kD (Kb (Kb (Kr Sn)))
      refine ⟨d, (Xg 24 rfl rfl (cB j) d (kW (cB y) rfl) ?_)⟩
      obtain rfl := sj I
      refine np kr (c0 _ _ ⟨_, (n.kD St), b2, b3, A, L, P, b4, b5, b6, rfl, rfl⟩)
     refine Xn 18 rfl rfl (cB j) d (Xn 19 rfl rfl (cB j) d (Xn 20 rfl rfl (cB j) d (Xu 21 rfl rfl rfl d (Xu 22 rfl rfl rfl d (Xu 23 rfl rfl rfl d (Xn 24 rfl rfl (cB j) d (X 25 rfl d (kW (cB j) rfl) ?_)))))))
     obtain rfl := sj Q
     refine np kr (b9 _ _ ⟨_, (n.kD St), b2, b3, A, L, P, b4, b5, b6, rfl⟩)
    refine bC T (fun g T => ?_) (fun g T => ?_)
    ·refine Xg 3 rfl rfl (cB g) d (kM M) (Xg 4 rfl rfl (cB g) d (mR aF rfl J) (Xg 5 rfl rfl (cB g) d (lK rfl rfl rfl) (Xg 6 rfl rfl (cB g) d (kM rfl) (PJ T (fun e1 E W => ∃ d0, ST true lu w W (hp w) ((K, Obj.cells c3 28 (0, 0)) :: ((k, Obj.cells g5 28 (0, 0)) :: (t ++ d0))) ∧ E 0 = D ∧ E 3 = u ∧ E 4 = b8 ∧ E 5 = (.bool G) ∧ E 7 = g6 ∧ E 8 = D ∧ E 9 = j1 ∧ E 10 = j2 ∧ E 16 = (.bool j6) ∧ E 29 = (.bool e1)) (bm 26 65535) 10 ?_ (fun e1 B c2 => ?_)))))
     ·rintro l6 E W ⟨d0, n, i2, i3, i4, i5, i6, i7, i8, i9, j0, j3⟩ f2
      have d := n.has.kD (Kb (Kb (Kr Sn)))
      refine X 16 rfl d (kX (j0.trans (cB g)) j3) ?_
      obtain rfl := sj f2
      refine np kr (c1 _ _ ⟨_, (n.kD St), i2, i3, i4, i5, i6, i7, i8, i9, rfl⟩)
     refine bC B (fun a B => ?_) (fun a B => ?_)
     ·refine Xn 7 rfl rfl (cB a) d (Xn 8 rfl rfl (cB a) d (Xn 9 rfl rfl (cB a) d (Xn 10 rfl rfl (cB a) d (Xn 11 rfl rfl (cB a) d (Xn 12 rfl rfl (cB a) d (Xn 13 rfl rfl (cB a) d (Xn 14 rfl rfl (cB a) d (Xg 15 rfl rfl (cB g) d (kX (cB a) rfl) ?_))))))))
      obtain rfl := sj B
      refine np kr (c2 _ _ ⟨_, (n.kD St), U, M, Y, Z, rfl, q, eN, s, rfl, rfl⟩)
     refine Xg 7 rfl rfl (cB a) d (kM M) (Xg 8 rfl rfl (cB a) d (kM M) (Xg 9 rfl rfl (cB a) d (mR aF rfl J) (Xg 10 rfl rfl (cB a) d (lK rfl rfl rfl) (bS B fun e2 b0 B => G8 11 rfl kr (.inr ⟨6, false, 20, rfl, rfl, by decide, (cB a)⟩) rfl dc (fun _ _ h => h) d (mF (i := (wi0 .i64 ((a3.length : Int) - 1))) (x0 := e2) aF aC rfl rfl J (mi b0) (lR b0)) (fun l0 f4 => vA 12 rfl rfl (cB a) d (fun _ o => kE rfl (oy o (fun p hq => (Mt (Mt (Ml hq)))) J my f4 (lR b0) aO aC)) (vA 13 rfl rfl (cB a) d (fun _ o => kE rfl (kL o Mh (kC c) rfl aO aC)) (bS B fun l2 f7 B => DK 14 rfl rfl (cB a) (Eg n call107 (xz e2 c _ _  f7) (fun k8 n => ?_)))))))))
     have d := n.has.kD (Kb (Kb (Kr Sn)))
     refine ⟨d, (Xg 15 rfl rfl (cB g) d (kW (cB a) rfl) ?_)⟩
     obtain rfl := sj B
     refine np kr (c2 _ _ ⟨_, (n.kD St), U, M, Y, Z, rfl, q, eN, s, rfl, rfl⟩)
    refine Xn 3 rfl rfl (cB g) d (Xn 4 rfl rfl (cB g) d (Xn 5 rfl rfl (cB g) d (Xn 6 rfl rfl (cB g) d (Xu 7 rfl rfl rfl d (Xu 8 rfl rfl rfl d (Xu 9 rfl rfl rfl d (Xu 10 rfl rfl rfl d (Xu 11 rfl rfl rfl d (Xu 12 rfl rfl rfl d (Xu 13 rfl rfl rfl d (Xu 14 rfl rfl rfl d (Xn 15 rfl rfl (cB g) d (X 16 rfl d (kW (cB g) rfl) ?_)))))))))))))
    obtain rfl := sj T
    refine np kr (c1 _ _ ⟨_, (n.kD St), U, M, Y, Z, rfl, q, eN, s, rfl⟩)
   rintro E W ⟨G, x, b1, ⟨s, eN⟩, n, U, M, Y, Z, q, z⟩
   rw [aG] at z
   refine kK ?_
   obtain rfl := sj z
   exact ⟨_, (n.kD St), U, M, Y, Z⟩
  rintro ⟨l3, a4⟩ E W ⟨c6, n, g3, d2, g4, g7⟩ H
  refine kV (sg (Wh g7 (V (nr rfl) (ln (CI H rfl (fun e5 H => ?_) (fun e5 H => ?_))))))
  ·refine sg (Wh d2 (Wa (ln ?_)))
   replace n := n.kD (Db St)
   refine lx (lm (mu (lm (mu (lm ?_)))))
   obtain rfl := sj H
   exact lQ (v := u) rfl rfl ⟨_, t, rfl, n.mV (fun p hq => (Ml hq)) J.nd, J⟩
  refine kn (kT (Wh d2 (V (kE g4 (kL n.has Mh (kC a4) rfl aO aC)) (VE (lj (cs := (kC a4).toArray) n (mN rfl) (mJ aF aC bQ) (fun k1 g1 n => ?_))))))
  replace n := n.perm (Nr (Qb (Qb Qz)) Nz)
  refine bS H fun j4 e6 H => VE (mD (enc := kC) (v := u) (vs := (.slice (some ⟨g1, 0, none⟩) 1 1)) (R := t) n my dc mH aF mw.1 mw.2.1 rfl mw.2.2.1 mw.2.2.2 rfl rfl J (Sl.lit (enc := kC) (l := [a4]) my rfl nb rfl (n.at_ (Ma Mh))) e6 (fun k2 j7 g0 n e4 => Wa (lo (lA (kK ?_)))))
  replace n := n.kD (Kr (Db (Db St)))
  exact ⟨j5, bT _, j7, j4, g0, _, (n.kD St), g3, rfl, e4, H⟩
theorem Gw (a : Formula) (g : Value) (r : List kA) (w : World) (c : Sl la 5 (hp w) g a.Kids) (hm : yg a = some r) :
  lT false pg0 30 [(.agg #[(.int .i64 a.Op), (.int .i64 a.K), (.string a.kA.kI), (.string a.kA.kU), g])] w 28 kC 2 r := by
 refine tT 6 func30 rfl (fun d => sg ?_)
 obtain ⟨j, k, rfl⟩ := c.form
 refine VE (lF d rfl (fun N T d => Wa (lr (VA d Mh (C1 a.Op a.K a.kA.kI a.kA.kU j a.Kids.length k) cx aZ (bS hm fun H y hm => VE (qu d call80 ((GA lE) a (.slice j a.Kids.length k) _ _ (c.mono lZ.mono d.kN) y) (fun Q z U I d G m t => bS hm fun K u hm => VE (qu d call60 (lT.mz (O6 z H _ _ (t.sl my (fun b o h => d.at_ (Ml h))) u)) (fun J B M x d D n i => Wa (ln ?_))))))))))
 replace d := d.kD (Kr (Dr (Db St)))
 refine lx ?_
 obtain rfl := sj hm
 exact lQ (v := B) rfl rfl ⟨_, x, rfl, d.mV (fun p h => (Ml h)) i.nd, i⟩
theorem GM (g : kB) (r : Bool) (w : World) (hm : wF g = some r) :
  lg true pg0 68 [(.agg (kG g).toArray)] w (.bool r) := by
 refine cG 93 func68 rfl (fun d => sg (VE (lF d rfl (fun W2 M d => Wa (lr (VE (lD d bQ (fun W4 m d => lS ?_))))))))
 refine Wf oD (VA d (Mt Mh) (kC g.Head) aO aC (bS hm fun r5 h4 hm => VE (Eg d call88 (yd g.Head _ _  h4) (fun W7 d => V (nr rfl) (ln (CI hm rfl (fun h2 hm => ?_) (fun h2 hm => ?_)))))))
 ·refine sg (Wa (ln ?_))
  replace d := d.kD (Db (Db St))
  refine lx (lm ?_)
  obtain rfl := sj hm
  exact rP d
 refine kS (Wf om (VB d (Mt Mh) rfl rfl cH (Wi rfl (ln (CI hm rfl (fun h3 hm => ?_) (fun h3 hm => ?_))))))
 ·refine sg (Wf sW (VB d (Mt Mh) rfl rfl aY (bS hm fun i6 f7 hm => VE (Eg d call138 (yf g.ly _ _  f7) (fun i3 d => Wm (LJ hm (fun e1 E W => ∃ c8, ST true lu w W (hp w) ((m, Ol (kC K0) 28) :: ((M, Ol (kG g) 108) :: c8)) ∧ E 1 = (.pointer (some ⟨M, 0, none⟩)) ∧ E 2 = (.bool false) ∧ E 3 = (.pointer (some ⟨m, 0, none⟩)) ∧ E 19 = (.bool e1)) 5 ?_ (fun e1 T s => ?_)))))))
  ·rintro i8 E W ⟨c8, d, n, d6, f9, g0⟩ f0
   refine Wh g0 (LJ f0 (fun e0 E W => ∃ c9, ST true lu w W (hp w) ((M, Ol (kG g) 108) :: c9) ∧ E 1 = (.pointer (some ⟨M, 0, none⟩)) ∧ E 2 = (.bool false) ∧ E 25 = (.bool e0)) 5 ?_ (fun e0 Q a5 => ?_))
   ·rintro i9 E W ⟨c9, d, g1, d7, g2⟩ f1
    refine Wh g2 (LJ f1 (fun d9 E W => ∃ d0, ST true lu w W (hp w) d0 ∧ E 2 = (.bool false) ∧ E 30 = (.bool d9)) 4 ?_ (fun d9 N a4 => ?_))
    ·rintro j0 E W ⟨d0, d, i5, g3⟩ f2
     refine Wg g3 (lt (lm ?_))
     obtain rfl := sj f2
     exact rP d
    refine bC N (fun x N => ?_) (fun x N => ?_)
    ·refine ug x (kH rX g1) (ug x (kE rfl (kR d.has Mh rfl aY)) (ug x (se rfl rfl rfl) (V (kX (cB x) rfl) ?_)))
     obtain rfl := sj N
     exact a4 _ _ ⟨_, (d.kD (Db St)), d7, rfl⟩
    refine un x (un x (un x (V (kW (cB x) rfl) ?_)))
    obtain rfl := sj N
    exact a4 _ _ ⟨_, (d.kD (Db St)), d7, rfl⟩
   refine bC Q (fun k Q => ?_) (fun k Q => ?_)
   ·refine ug k (kH pO n) (ug k (kE rfl (kL d.has (Mt Mh) (kC g.C) rfl aO aC)) (ug k (kE f9 (kL d.has Mh (kC K0) rfl aO aC)) (ug k (vt rfl rfl (ns cY) (qH (ob _ g.C K0))) (V (kX (cB k) rfl) ?_))))
    obtain rfl := sj Q
    exact a5 _ _ ⟨_, (d.kD (Db St)), n, d6, rfl⟩
   refine un k (un k (un k (un k (V (kW (cB k) rfl) ?_))))
   obtain rfl := sj Q
   exact a5 _ _ ⟨_, (d.kD (Db St)), n, d6, rfl⟩
  refine bC T (fun j T => ?_) (fun j T => ?_)
  ·refine ug j (kH mW rfl) (ug j (kE rfl (kL d.has (Mt Mh) (kC g.B) rfl aO aC)) (ug j (kE rfl (kL d.has Mh (kC K0) rfl aO aC)) (ug j (vt rfl rfl (ns cY) (qH (ob _ g.B K0))) (V (kX (cB j) rfl) ?_))))
   obtain rfl := sj T
   exact s _ _ ⟨_, (d.kD St), rfl, rfl, rfl, rfl⟩
  refine un j (un j (un j (un j (V (kW (cB j) rfl) ?_))))
  obtain rfl := sj T
  exact s _ _ ⟨_, (d.kD St), rfl, rfl, rfl, rfl⟩
 let a0 := ((kG g).toArray : Array Value)
 let h : Value := (.pointer (some ⟨M, 0, none⟩))
 refine kS (Wf sW (VB d (Mt Mh) rfl rfl aY (V (se rfl rfl rfl) (Wm (LJ hm (fun c1 E W => ∃ d1, ST true lu w W (hp w) ((m, Ol (kC K0) 28) :: ((M, Obj.cells a0 108 (0, 0)) :: d1)) ∧ E 1 = h ∧ E 3 = (.pointer (some ⟨m, 0, none⟩)) ∧ E 39 = (.bool c1)) 5 ?_ (fun c1 I a3 => ?_))))))
 ·rintro j3 E W ⟨d1, d, u, d8, g4⟩ i
  refine ln (CI i g4 (fun e7 i => ?_) (fun e7 i => ?_))
  ·refine sg (Wa (ln ?_))
   replace d := d.kD (Db (Db St))
   refine lx (lm ?_)
   obtain rfl := sj i
   exact rP d
  refine kS (V (kH om u) (VB d (Mt Mh) rfl rfl cH (Wi rfl (ln (CI i rfl (fun e8 i => ?_) (fun e8 i => ?_))))))
  ·refine sg (V (kH pO u) (VA d (Mt Mh) (kC g.C) aO aC (V (kE d8 (kL d.has Mh (kC K0) rfl aO aC)) (V (vt rfl rfl (ns cY) (qH (ob _ g.C K0))) (Wm (LJ i (fun e2 E W => ∃ d2, ST true lu w W (hp w) d2 ∧ E 51 = (.bool e2)) 4 ?_ (fun e2 U v => ?_)))))))
   ·rintro j4 E W ⟨d2, d, g7⟩ f3
    refine Wg g7 (lt (lm ?_))
    obtain rfl := sj f3
    exact rP d
   refine bC U (fun y U => ?_) (fun y U => ?_)
   ·refine ug y (kH rX u) (ug y (kE rfl (kR d.has (Mt Mh) rfl aY)) (ug y (se rfl rfl rfl) (V (kX (cB y) rfl) ?_)))
    obtain rfl := sj U
    exact v _ _ ⟨_, (d.kD (Db (Db St))), rfl⟩
   refine un y (un y (un y (V (kW (cB y) rfl) ?_)))
   obtain rfl := sj U
   exact v _ _ ⟨_, (d.kD (Db (Db St))), rfl⟩
  refine kS (V (kH om u) (VB d (Mt Mh) rfl rfl cH (Wi rfl (ln (CI i rfl (fun e9 i => ?_) (fun e9 i => ?_))))))
  ·refine sg (V (kH pO u) (VA d (Mt Mh) (kC g.C) aO aC (V (kE d8 (kL d.has Mh (kC K0) rfl aO aC)) (V (vt rfl rfl (ns cY) (qH (ob _ g.C K0))) (Wm (LJ i (fun e4 E W => ∃ d3, ST true lu w W (hp w) ((M, Obj.cells a0 108 (0, 0)) :: d3) ∧ E 1 = h ∧ E 67 = (.bool e4)) 8 ?_ (fun e4 Y a9 => ?_)))))))
   ·rintro j5 E W ⟨d3, d, g8, g9⟩ f4
    refine Wh g9 (LJ f4 (fun e3 E W => ∃ d4, ST true lu w W (hp w) d4 ∧ E 72 = (.bool e3)) 4 ?_ (fun e3 J A => ?_))
    ·rintro j6 E W ⟨d4, d, h0⟩ f5
     refine Wg h0 (lt (lm ?_))
     obtain rfl := sj f5
     exact rP d
    refine bC J (fun z J => ?_) (fun z J => ?_)
    ·refine ug z (kH rX g8) (ug z (kE rfl (kR d.has Mh rfl aY)) (bS J fun i7 f8 J => qy z (Eg d call138 (yf g.lU _ _  f8) (fun i4 d => V (kX (cB z) rfl) ?_))))
     obtain rfl := sj J
     exact A _ _ ⟨_, (d.kD (Db St)), rfl⟩
    refine un z (un z (un z (V (kW (cB z) rfl) ?_)))
    obtain rfl := sj J
    exact A _ _ ⟨_, (d.kD (Db St)), rfl⟩
   refine bC Y (fun a Y => ?_) (fun a Y => ?_)
   ·refine ug a (kH mW u) (ug a (kH oF rfl) (ug a (kE rfl (kR d.has (Mt Mh) rfl aY)) (ug a (kH oD u) (ug a (kH oF rfl) (ug a (kE rfl (kR d.has (Mt Mh) rfl aY)) (ug a (se rfl rfl rfl) (V (kX (cB a) rfl) ?_)))))))
    obtain rfl := sj Y
    exact a9 _ _ ⟨_, (d.kD (Db St)), u, rfl⟩
   refine un a (un a (un a (un a (un a (un a (un a (V (kW (cB a) rfl) ?_)))))))
   obtain rfl := sj Y
   exact a9 _ _ ⟨_, (d.kD (Db St)), u, rfl⟩
  refine kn ?_
  replace d := d.kD (Db St)
  refine sg (V (kH om u) (VB d Mh rfl rfl cH (Wi rfl (Wm (LJ i (fun c0 E W => ∃ d5, ST true lu w W (hp w) ((M, Obj.cells a0 108 (0, 0)) :: d5) ∧ E 1 = h ∧ E 80 = (.bool c0)) 4 ?_ (fun c0 K a2 => ?_))))))
  ·rintro j7 E W ⟨d5, d, o, h1⟩ f6
   refine Wh h1 (LJ f6 (fun b9 E W => ∃ L, ST true lu w W (hp w) ((M, Obj.cells a0 108 (0, 0)) :: L) ∧ E 1 = h ∧ E 85 = (.bool b9)) 4 ?_ (fun b9 H q => ?_))
   ·rintro i1 E W ⟨L, d, R, e5⟩ c3
    refine Wh e5 (LJ c3 (fun b7 E W => ∃ P, ST true lu w W (hp w) P ∧ E 92 = (.bool b7)) 6 ?_ (fun b7 G Z => ?_))
    ·rintro i2 E W ⟨P, d, e6⟩ c4
     exact Wg e6 (lt (rQ c4 d))
    refine bC G (fun c G => ?_) (fun c G => ?_)
    ·refine ug c (kH mW R) (ug c (kE rfl (kL d.has Mh (kC g.B) rfl aO aC)) (ug c (kH pO R) (ug c (kE rfl (kL d.has Mh (kC g.C) rfl aO aC)) (bS G fun h8 c5 G => qy c (Eg d call107 (xz g.B g.C _ _  c5) (fun h5 d => V (kX (cB c) rfl) ?_))))))
     obtain rfl := sj G
     exact Z _ _ ⟨_, (d.kD (Db St)), rfl⟩
    refine un c (un c (un c (un c (un c (V (kW (cB c) rfl) ?_)))))
    obtain rfl := sj G
    exact Z _ _ ⟨_, (d.kD (Db St)), rfl⟩
   refine bC H (fun D H => ?_) (fun D H => ?_)
   ·refine ug D (kH pO o) (ug D (kE rfl (kL d.has Mh (kC g.C) rfl aO aC)) (bS H fun h9 c6 H => qy D (Eg d call88 (yd g.C _ _  c6) (fun h6 d => V (kX (cB D) rfl) ?_))))
    obtain rfl := sj H
    exact q _ _ ⟨_, (d.kD St), o, rfl⟩
   refine un D (un D (un D (V (kW (cB D) rfl) ?_)))
   obtain rfl := sj H
   exact q _ _ ⟨_, (d.kD St), o, rfl⟩
  refine bC K (fun B K => ?_) (fun B K => ?_)
  ·refine ug B (kH rX u) (ug B (kE rfl (kR d.has Mh rfl aY)) (ug B (se rfl rfl rfl) (V (kX (cB B) rfl) ?_)))
   obtain rfl := sj K
   exact a2 _ _ ⟨_, (d.kD St), u, rfl⟩
  refine un B (un B (un B (V (kW (cB B) rfl) ?_)))
  obtain rfl := sj K
  exact a2 _ _ ⟨_, (d.kD St), u, rfl⟩
 refine bC I (fun t I => ?_) (fun t I => ?_)
 ·refine un t (un t (un t (un t (V (kX (cB t) rfl) ?_))))
  obtain rfl := sj I
  exact a3 _ _ ⟨_, (d.kD St), rfl, rfl, rfl⟩
 refine ug t (kH mW rfl) (ug t (kE rfl (kL d.has (Mt Mh) (kC g.B) rfl aO aC)) (bS I fun i0 c7 I => qy t (Eg d call88 (yd g.B _ _  c7) (fun h7 d => ug t (nr rfl) (V (kW (cB t) rfl) ?_)))))
 obtain rfl := sj I
 exact a3 _ _ ⟨_, (d.kD St), rfl, rfl, rfl⟩
theorem Fw (x : Int) (r : ByteArray) (w : World) (hm : xE x = some r) :
  lg true pg0 87 [(.int .i64 x)] w (.string r) := by
 refine cG 22 func87 rfl (fun d => sg (Wa (lr (Wa (ln (kV (mP (ou (fun m E W => ∃ c j t, ST true lu w W (hp w) t ∧ E 0 = (.int .i64 c) ∧ E 3 = (.string j) ∧ vl m c j = some r) lE ⟨x, zS, _, (d.kD St), rfl, rfl, hm⟩ ?_))))))))
 rintro m E W ⟨c, j, t, d, i, u, g⟩
 let N := (Int.tmod c 128)
 cases m with
 | zero => rw [vl] at g; cases g
 | succ D =>
  refine kV (sg (Wh i (Wi rfl (ln (CI g rfl (fun y g => ?_) (fun y g => ?_))))))
  ·refine kn (bg (Wh u (Wh i (V (F3 (k := .i64) (a := c) (b := 128) (v := (.int .i64 N)) rfl rfl dc rfl) (Wi rfl (V (Cj (k' := .i64) (a := (wi0 .i64 (128 + N))) gz eW rfl) (VE (lj (cs := [(.int .u8 (IntKind.u8.wrap (wi0 .i64 (128 + N))))].toArray) d (mN rfl) (mJ cw iZ kj) (fun H J d => V (KH cw eW bL rfl (Sl.lit (enc := (lM .u8)) (l := [(IntKind.u8.wrap (wi0 .i64 (128 + N)))]) (fun _ => rfl) rfl nb rfl (d.at_ Mh))) (bS g fun G z g => V (CG rfl rfl z) (Wa ?_)))))))))))
   refine ln ?_
   replace d := d.kD (Db St)
   exact kT (Wh i (V (F3 (k := .i64) (a := c) (b := 128) (v := (.int .i64 (wi0 .i64 (Int.tdiv c 128)))) rfl rfl dc rfl) (Wa (lo (lA (kK ⟨D, bT _, (wi0 .i64 (Int.tdiv c 128)), G, _, (d.kD St), rfl, rfl, g⟩))))))
  refine ot (nT (nT (uj (kK (sg (Wh u (Wh i (V (Cj (k' := .i64) (a := c) gz eW rfl) (VE (lj (cs := [(.int .u8 (IntKind.u8.wrap c))].toArray) d (mN rfl) (mJ cw iZ kj) (fun I K d => V (KH cw eW bL rfl (Sl.lit (enc := (lM .u8)) (l := [(IntKind.u8.wrap c)]) (fun _ => rfl) rfl nb rfl (d.at_ Mh))) (bS g fun M B g => V (CG rfl rfl B) (Wa (ln ?_))))))))))))))
  exact lx (rQ g d)
theorem Bu (a r : ByteArray) (w : World) (hm : vY a = some r) :
  lg true pg0 154 [(.string a)] w (.string r) := by
 refine cG 8 func154 rfl (fun d => sg (Wa (lr (Wm (V (nF bL rfl) (bS hm fun j c hm => VE (Eg d call87 (Fw (a.size : Int) _ _  c) (fun i d => Wm (bS hm fun k g hm => V (CG rfl rfl g) ?_)))))))))
 exact Wa (lt (rQ hm d))
theorem Co (a : kA) (r : ByteArray) (w : World) (hm : wG a = some r) :
  lg true pg0 89 [(.agg (kC a).toArray)] w (.string r) := by
 refine cG 10 func89 rfl (fun d => sg (VE (lF d rfl (fun y z d => Wa (ln (kV ?_))))))
 replace d := d.drew
 have h := d.has.kD (Kb Sn)
 refine lN h lB (X 0 rfl h (kH oF rfl) (XH 1 rfl h (fun _ m => kE rfl (kR m Mh rfl aY)) (X 3 rfl h (kH uo rfl) (XH 4 rfl h (fun _ m => kE rfl (kR m Mh rfl aY)) (bS hm fun t c hm => XE 2 rfl (Eg d call154 (Bu a.kI _ _  c) (fun j d => ?_)))))))
 have h := d.has.kD (Kb Sn)
 refine ⟨h, (bS hm fun u g hm => XE 5 rfl (Eg d call154 (Bu a.kU _ _  g) (fun k d => ?_)))⟩
 have h := d.has.kD (Kb Sn)
 refine ⟨h, (bS hm fun x i hm => X 6 rfl h (CG rfl rfl i) (X 7 rfl h (nH rfl) (me kr (kK ?_))))⟩
 exact lx (rQ hm d)
theorem Mp (g : kB) (r : ByteArray) (w : World) (hm : Cs g = some r) :
  lg true pg0 155 [(.agg (kG g).toArray)] w (.string r) := by
 refine cG 41 func155 rfl (fun d => sg (VE (lF d rfl (fun W2 n d => Wa (ln (kV ?_))))))
 replace d := d.drew
 have h := d.has.kD (Kb Sn)
 refine lN h lB (X 0 rfl h (kH om rfl) (XH 1 rfl h (fun _ m => kE rfl (kR m Mh rfl cH)) (X 3 rfl h (kH oD rfl) (XH 4 rfl h (fun _ m => kE rfl (kL m Mh (kC g.Head) rfl aO aC)) (bS hm fun a9 H hm => XE 2 rfl (Eg d call87 (Fw g.Kind _ _  H) (fun a3 d => ?_)))))))
 have h := d.has.kD (Kb Sn)
 refine ⟨h, (bS hm fun v I hm => XE 5 rfl (Eg d call89 (Co g.Head _ _  I) (fun a4 d => ?_)))⟩
 have h := d.has.kD (Kb Sn)
 refine ⟨h, (bS hm fun b6 Q hm => X 6 rfl h (CG rfl rfl Q) (X 7 rfl h (nH rfl) (me kr (kK (kV (sg (Wf om (VB d Mh rfl rfl cH (Wi rfl (ln (CI hm rfl (fun y hm => ?_) (fun y hm => ?_))))))))))))⟩
 ·refine sg (Wm (Wf sW (VB d Mh rfl rfl aY (bS hm fun A J hm => VE (Eg d call154 (Bu g.ly _ _  J) (fun a5 d => bS hm fun b7 T hm => V (CG rfl rfl T) (Wa (ln ?_))))))))
  replace d := d.kD (Db St)
  refine lx (lm ?_)
  obtain rfl := sj hm
  exact rP d
 refine kg (Wm (Wf mW (VA d Mh (kC g.B) aO aC (bS hm fun L K hm => VE (Eg d call89 (Co g.B _ _  K) (fun o d => bS hm fun b9 U hm => V (CG rfl rfl U) (Wa (ln (kV ?_)))))))))
 refine CJ hm (fun x E W => ∃ i, ST true lu w W (hp w) ((n, Ol (kG g) 108) :: i) ∧ E 1 = (.pointer (some ⟨n, 0, none⟩)) ∧ E 3 = (.string x)) (fun x c => ?_) ?_
 ·refine sg (Wf om (VB d Mh rfl rfl cH (Wi rfl (ln (CI c rfl (fun B c => ?_) (fun B c => ?_))))))
  ·refine kT (Wm (Wf rX (VB d Mh rfl rfl aY (bS c fun R N c => VE (Eg d call154 (Bu g.lU _ _  N) (fun s d => bS c fun c1 Z c => V (CG rfl rfl Z) (Wa (ln ?_))))))))
   obtain rfl := sj c
   exact ⟨_, (d.kD St), rfl, rfl⟩
  refine kn ?_
  obtain rfl := sj c
  exact ⟨_, (d.kD St), rfl, rfl⟩
 rintro c2 E W ⟨i, d, k, t⟩ D
 refine kV (CJ D (fun u E W => ∃ j, ST true lu w W (hp w) j ∧ E 3 = (.string u)) (fun u a => ?_) ?_)
 ·refine sg (V (kH om k) (VB d Mh rfl rfl cH (Wi rfl (ln (CI a rfl (fun z a => ?_) (fun z a => ?_))))))
  ·refine kT (Wh t (V (kH pO k) (VA d Mh (kC g.C) aO aC (bS a fun P M a => VE (Eg d call89 (Co g.C _ _  M) (fun q d => bS a fun c0 Y a => V (CG rfl rfl Y) (Wa (ln ?_))))))))
   obtain rfl := sj a
   exact ⟨_, (d.kD (Db St)), rfl⟩
  refine kn ?_
  obtain rfl := sj a
  exact ⟨_, (d.kD (Db St)), t⟩
 rintro c3 E W ⟨j, d, a2⟩ G
 exact sg (Wh a2 (Wa (lt (rQ G d))))
theorem GF (a : kB) (r : ByteArray) (w : World) (hm : xZ a = some r) :
  lg true pg0 139 [(.agg (kG a).toArray)] w (.string r) := by
 refine cG 8 func139 rfl (fun d => sg (VE (lF d rfl (fun j u d => Wa (lS (VA d Mh (kG a) bM aM (bS hm fun x g hm => VE (Eg d call68 (GM a _ _  g) (fun k d => V (nr rfl) (lo ?_))))))))))
 refine kK (CI hm rfl (fun c hm => ?_) (fun c hm => ?_))
 ·refine sg (Wa (ln ?_))
  replace d := d.kD (Db St)
  refine lx (lm ?_)
  obtain rfl := sj hm
  exact rP d
 refine kg (VA d Mh (kG a) bM aM (bS hm fun y i hm => VE (Eg d call155 (Mp a _ _  i) (fun t d => Wa (ln ?_)))))
 exact lx (rQ hm d)
theorem Em (a c : kB) (r : Int) (w : World) (hm : uK a c = some r) :
  lg true pg0 69 [(.agg (kG a).toArray), (.agg (kG c).toArray)] w (.int .i64 r) := by
 refine cG 17 func69 rfl (fun d => sg (VE (lF d rfl (fun u z d => VE (lF d rfl (fun x B d => Wa (lr (VA d (Mt Mh) (kG a) bM aM (bS hm fun D j hm => VE (Eg d call139 (GF a _ _  j) (fun y d => Wa (lo ?_))))))))))))
 refine kK ?_
 replace d := d.kD (Kb (Db St))
 refine sg (VA d Mh (kG c) bM aM (bS hm fun G k hm => VE (Eg d call139 (GF c _ _  k) (fun t d => Wa (ln ?_)))))
 replace d := d.kD (Db St)
 refine kV (sg (Wm (Wm (V (se rfl rfl rfl) (ln (CI hm rfl (fun g hm => ?_) (fun g hm => ?_)))))))
 ·refine sg (Wa (lt (lm ?_)))
  obtain rfl := sj hm
  exact rP d
 refine kS (Wm (Wm (V (se rfl rfl rfl) (ln (CI hm rfl (fun i hm => ?_) (fun i hm => ?_))))))
 ·refine sg (Wa (lt (lm ?_)))
  obtain rfl := sj hm
  exact rP d
 exact kg (Wa (lt (rQ hm d)))
theorem ON (D : Value) (a0 r : List kB) (w : World) (e3 : Sl (Pl kG) 9 (hp w) D a0) (hm : E7 a0 = some r) :
  lT true pg0 23 [D] w 108 kG 9 r := by
 refine tT 51 func23 rfl (fun n => sg (Wa (lr (Wa (ln (vG (mP (ou (fun m E W => ∃ x a3 u c5, ST true lu w W (hp w) (u ++ c5) ∧ E 0 = D ∧ E 3 = x ∧ kZ 108 kG 9 x a3 u ∧ vH a0 m a3 = some r) lE ⟨(.slice none 0 0), ([]), [], _, (n.kD St), rfl, rfl, (kZ.nil _ _ _), hm⟩ ?_))))))))
 rintro m E W ⟨x, a3, u, c5, n, d1, g2, J, a5⟩
 cases m with
 | zero => rw [vH] at a5; cases a5
 | succ j5 =>
  refine bg (VE (lD n cg (fun k0 t n => lr (Wa (lS (Wh d1 ?_))))))
  let b8 : Value := (.pointer (some ⟨t, 0, none⟩))
  refine V (lJ aW rfl e3) (Wm (ln (CJ a5 (fun a9 E W => ∃ c6, ST true lu w W (hp w) ((t, Ol (kG a9.2) 108) :: (u ++ c6)) ∧ E 0 = D ∧ E 3 = x ∧ E 4 = b8 ∧ E 5 = (.bool a9.1)) (fun a9 e9 => ?_) ?_)))
  ·refine lz (fun i E W => ∃ G y b1, (E 10 = .int .i64 (i : Nat) ∧ E 9 = .int .i64 (a0.length : Nat)) ∧ ST true lu w W (hp w) ((t, Ol (kG y) 108) :: (u ++ b1)) ∧ E 0 = D ∧ E 3 = x ∧ E 4 = b8 ∧ E 5 = (.bool G) ∧ E 8 = D ∧ tF a3 (a0.drop i) G y = some a9) a0.length e3.len ⟨false, K7, _, ⟨rfl, rfl⟩, (n.kD St), d1, g2, rfl, rfl, rfl, e9⟩ dc dc dc (fun _ _ _ h => by obtain ⟨_, _, _, aa, _⟩ := h; exact aa) ?_ ?_
   ·rintro a2 E W e8 ⟨G, y, b1, ⟨s, eN⟩, n, U, M, Y, Z, q, z⟩
    let g5 := ((kG y).toArray : Array Value)
    obtain ⟨c, j9, f9, f8, c4⟩ := ll e8
    let c3 := ((kG c).toArray : Array Value)
    rw [f9] at z
    refine bg (VQ (lY (enc := kG) (i := (a2 : Int)) (x0 := c) aW aM q s e3 (aD _) f8) (fun k9 f3 => V (kE rfl (lO n.has f3 bM aM)) (VE (lD n cg (fun k3 K n => VO (lh (.agg (kG c).toArray) ((kG c).toArray) n rfl rfl aM (nQ c) nb rfl (fun k4 n => ln (kV ?_))))))))
    let j2 : Value := (.int .i64 (a2 : Int))
    let j1 : Value := (.int .i64 (a0.length : Int))
    let g6 : Value := (.pointer (some ⟨K, 0, none⟩))
    replace n := n.drew
    have d := n.has.kD (Kb (Kb (Kr Sn)))
    refine lN d lB (XH 0 rfl d (fun _ o => kE rfl (kL o Mh (kG c) rfl bM aM)) (bS z fun j6 f5 z => XE 1 rfl (Eg n call68 (GM c _ _  f5) (fun k5 n => ?_))))
    have d := n.has.kD (Kb (Kb (Kr Sn)))
    refine ⟨d, (X 2 rfl d (kM rfl) (PJ z (fun e0 E W => ∃ c7, ST true lu w W (hp w) ((K, Obj.cells c3 108 (0, 0)) :: ((t, Obj.cells g5 108 (0, 0)) :: (u ++ c7))) ∧ E 0 = D ∧ E 3 = x ∧ E 4 = b8 ∧ E 5 = (.bool G) ∧ E 7 = g6 ∧ E 8 = D ∧ E 9 = j1 ∧ E 10 = j2 ∧ E 31 = (.bool e0)) (bm 28 262143) 10 ?_ (fun e0 T c1 => ?_)))⟩
    ·rintro j8 E W ⟨c7, n, b2, b3, A, L, P, b4, b5, b6, g8⟩ f0
     have d := n.has.kD (Kb (Kb (Kr Sn)))
     refine X 18 rfl d (kM g8) (PJ f0 (fun d8 E W => ∃ c8, ST true lu w W (hp w) ((K, Obj.cells c3 108 (0, 0)) :: ((t, Obj.cells g5 108 (0, 0)) :: (u ++ c8))) ∧ E 0 = D ∧ E 3 = x ∧ E 4 = b8 ∧ E 5 = (.bool G) ∧ E 7 = g6 ∧ E 8 = D ∧ E 9 = j1 ∧ E 10 = j2 ∧ E 41 = (.bool d8)) (bm 28 268435455) 0 ?_ (fun d8 Q b9 => ?_))
     ·rintro l4 E W ⟨c8, n, d3, d4, b7, g9, h0, d5, d6, d7, h1⟩ N
      refine me kr (kK (CI N h1 (fun e7 N => ?_) (fun e7 N => ?_)))
      ·refine sg (V (kE h0 (kL n.has Mh (kG c) rfl bM aM)) ?_)
       replace n := n.perm (Nb (Pb Pz) Nz)
       refine VO (lh (.agg (kG c).toArray) ((kG c).toArray) n b7 rfl aM (nQ c) nb rfl (fun k6 n => ln ?_))
       replace n := n.kD (Kb (Db St))
       exact kT (Wa (lo (lA (kK ⟨d7, true, c, _, ⟨rfl, d6⟩, (n.kD St), d3, d4, b7, rfl, d5, (by rw [c4]; exact N)⟩))))
      refine lG (lA (kK ?_))
      replace n := n.kD (Db St)
      exact ⟨d7, G, y, _, ⟨rfl, d6⟩, (n.kD St), d3, d4, b7, g9, d5, (by rw [c4]; exact N)⟩
     refine bC Q (fun j Q => ?_) (fun j Q => ?_)
     ·refine Xg 19 rfl rfl (cB j) d (kM L) (Xg 20 rfl rfl (cB j) d (nr rfl) (Xg 21 rfl rfl (cB j) d (kM rfl) (PJ Q (fun d9 E W => ∃ c9, ST true lu w W (hp w) ((K, Obj.cells c3 108 (0, 0)) :: ((t, Obj.cells g5 108 (0, 0)) :: (u ++ c9))) ∧ E 0 = D ∧ E 3 = x ∧ E 4 = b8 ∧ E 5 = (.bool G) ∧ E 7 = g6 ∧ E 8 = D ∧ E 9 = j1 ∧ E 10 = j2 ∧ E 32 = (.bool j8) ∧ E 40 = (.bool d9)) (bm 28 134217727) 1 ?_ (fun d9 I c0 => ?_))))
      ·rintro l5 E W ⟨c9, n, h2, h3, h4, h5, h6, h7, h8, h9, i0, i1⟩ f1
       have d := n.has.kD (Kb (Kb (Kr Sn)))
       refine X 27 rfl d (kX (i0.trans (cB j)) i1) ?_
       obtain rfl := sj f1
       refine np kr (b9 _ _ ⟨_, (n.kD St), h2, h3, h4, h5, h6, h7, h8, h9, rfl⟩)
      refine bC I (fun k I => ?_) (fun k I => ?_)
      ·refine Xn 22 rfl rfl (cB k) d (Xn 23 rfl rfl (cB k) d (Xn 24 rfl rfl (cB k) d (Xn 25 rfl rfl (cB k) d (Xg 26 rfl rfl (cB j) d (kX (cB k) rfl) ?_))))
       obtain rfl := sj I
       refine np kr (c0 _ _ ⟨_, (n.kD St), b2, b3, A, L, P, b4, b5, b6, rfl, rfl⟩)
      refine vA 22 rfl rfl (cB k) d (fun _ o => kE P (kL o Mh (kG c) rfl bM aM)) (vA 23 rfl rfl (cB k) d (fun _ o => kE A (kL o (Mt Mh) (kG y) rfl bM aM)) (bS I fun l1 f6 I => DK 24 rfl rfl (cB k) (Eg n call69 (Em c y _ _  f6) (fun k7 n => ?_))))
      have d := n.has.kD (Kb (Kb (Kr Sn)))
      refine ⟨d, (Xg 25 rfl rfl (cB k) d (lK rfl rfl rfl) (Xg 26 rfl rfl (cB j) d (kW (cB k) rfl) ?_))⟩
      obtain rfl := sj I
      refine np kr (c0 _ _ ⟨_, (n.kD St), b2, b3, A, L, P, b4, b5, b6, rfl, rfl⟩)
     refine Xn 19 rfl rfl (cB j) d (Xn 20 rfl rfl (cB j) d (Xn 21 rfl rfl (cB j) d (Xu 22 rfl rfl rfl d (Xu 23 rfl rfl rfl d (Xu 24 rfl rfl rfl d (Xu 25 rfl rfl rfl d (Xn 26 rfl rfl (cB j) d (X 27 rfl d (kW (cB j) rfl) ?_))))))))
     obtain rfl := sj Q
     refine np kr (b9 _ _ ⟨_, (n.kD St), b2, b3, A, L, P, b4, b5, b6, rfl⟩)
    refine bC T (fun g T => ?_) (fun g T => ?_)
    ·refine Xg 3 rfl rfl (cB g) d (kM M) (Xg 4 rfl rfl (cB g) d (mR aW rfl J) (Xg 5 rfl rfl (cB g) d (lK rfl rfl rfl) (Xg 6 rfl rfl (cB g) d (kM rfl) (PJ T (fun e1 E W => ∃ d0, ST true lu w W (hp w) ((K, Obj.cells c3 108 (0, 0)) :: ((t, Obj.cells g5 108 (0, 0)) :: (u ++ d0))) ∧ E 0 = D ∧ E 3 = x ∧ E 4 = b8 ∧ E 5 = (.bool G) ∧ E 7 = g6 ∧ E 8 = D ∧ E 9 = j1 ∧ E 10 = j2 ∧ E 16 = (.bool j6) ∧ E 30 = (.bool e1)) (bm 28 131071) 11 ?_ (fun e1 B c2 => ?_)))))
     ·rintro l6 E W ⟨d0, n, i2, i3, i4, i5, i6, i7, i8, i9, j0, j3⟩ f2
      have d := n.has.kD (Kb (Kb (Kr Sn)))
      refine X 17 rfl d (kX (j0.trans (cB g)) j3) ?_
      obtain rfl := sj f2
      refine np kr (c1 _ _ ⟨_, (n.kD St), i2, i3, i4, i5, i6, i7, i8, i9, rfl⟩)
     refine bC B (fun a B => ?_) (fun a B => ?_)
     ·refine Xn 7 rfl rfl (cB a) d (Xn 8 rfl rfl (cB a) d (Xn 9 rfl rfl (cB a) d (Xn 10 rfl rfl (cB a) d (Xn 11 rfl rfl (cB a) d (Xn 12 rfl rfl (cB a) d (Xn 13 rfl rfl (cB a) d (Xn 14 rfl rfl (cB a) d (Xn 15 rfl rfl (cB a) d (Xg 16 rfl rfl (cB g) d (kX (cB a) rfl) ?_)))))))))
      obtain rfl := sj B
      refine np kr (c2 _ _ ⟨_, (n.kD St), U, M, Y, Z, rfl, q, eN, s, rfl, rfl⟩)
     refine Xg 7 rfl rfl (cB a) d (kM M) (Xg 8 rfl rfl (cB a) d (kM M) (Xg 9 rfl rfl (cB a) d (mR aW rfl J) (Xg 10 rfl rfl (cB a) d (lK rfl rfl rfl) (bS B fun e2 b0 B => G8 11 rfl kr (.inr ⟨6, false, 20, rfl, rfl, by decide, (cB a)⟩) rfl dc (fun _ _ h => h) d (mF (i := (wi0 .i64 ((a3.length : Int) - 1))) (x0 := e2) aW aM rfl rfl J (mi b0) (lR b0)) (fun l0 f4 => vA 12 rfl rfl (cB a) d (fun _ o => kE rfl (oy o (fun p hq => (Mt (Mt (Ml hq)))) J mT f4 (lR b0) bM aM)) (vA 13 rfl rfl (cB a) d (fun _ o => kE rfl (kL o Mh (kG c) rfl bM aM)) (bS B fun l2 f7 B => DK 14 rfl rfl (cB a) (Eg n call69 (Em e2 c _ _  f7) (fun k8 n => ?_)))))))))
     have d := n.has.kD (Kb (Kb (Kr Sn)))
     refine ⟨d, (Xg 15 rfl rfl (cB a) d (lK rfl rfl rfl) (Xg 16 rfl rfl (cB g) d (kW (cB a) rfl) ?_))⟩
     obtain rfl := sj B
     refine np kr (c2 _ _ ⟨_, (n.kD St), U, M, Y, Z, rfl, q, eN, s, rfl, rfl⟩)
    refine Xn 3 rfl rfl (cB g) d (Xn 4 rfl rfl (cB g) d (Xn 5 rfl rfl (cB g) d (Xn 6 rfl rfl (cB g) d (Xu 7 rfl rfl rfl d (Xu 8 rfl rfl rfl d (Xu 9 rfl rfl rfl d (Xu 10 rfl rfl rfl d (Xu 11 rfl rfl rfl d (Xu 12 rfl rfl rfl d (Xu 13 rfl rfl rfl d (Xu 14 rfl rfl rfl d (Xu 15 rfl rfl rfl d (Xn 16 rfl rfl (cB g) d (X 17 rfl d (kW (cB g) rfl) ?_))))))))))))))
    obtain rfl := sj T
    refine np kr (c1 _ _ ⟨_, (n.kD St), U, M, Y, Z, rfl, q, eN, s, rfl⟩)
   rintro E W ⟨G, y, b1, ⟨s, eN⟩, n, U, M, Y, Z, q, z⟩
   rw [aG] at z
   refine kK ?_
   obtain rfl := sj z
   exact ⟨_, (n.kD St), U, M, Y, Z⟩
  rintro ⟨l3, a4⟩ E W ⟨c6, n, g3, d2, g4, g7⟩ H
  refine kV (sg (Wh g7 (V (nr rfl) (ln (CI H rfl (fun e5 H => ?_) (fun e5 H => ?_))))))
  ·refine sg (Wh d2 (Wa (ln ?_)))
   replace n := n.kD (Db St)
   refine lx (lm (mu (lm (mu (lm ?_)))))
   obtain rfl := sj H
   exact lQ (v := x) rfl rfl ⟨_, u, rfl, n.mV (fun p hq => (Ml hq)) J.nd, J⟩
  refine kn (kT (Wh d2 (V (kE g4 (kL n.has Mh (kG a4) rfl bM aM)) (VE (lj (cs := (kG a4).toArray) n (mN rfl) (mJ aW aM cg) (fun k1 g1 n => ?_))))))
  replace n := n.perm (Nr (Qb (Qb Qz)) Nz)
  refine bS H fun j4 e6 H => VE (mD (enc := kG) (v := x) (vs := (.slice (some ⟨g1, 0, none⟩) 1 1)) (R := u) n mT dc nQ aW qb.1 qb.2.1 rfl qb.2.2.1 qb.2.2.2 rfl rfl J (Sl.lit (enc := kG) (l := [a4]) mT rfl nb rfl (n.at_ (Ma Mh))) e6 (fun k2 j7 g0 n e4 => Wa (lo (lA (kK ?_)))))
  replace n := n.kD (Kr (Db (Db St)))
  exact ⟨j5, bT _, j7, j4, g0, _, (n.kD St), g3, rfl, e4, H⟩
theorem O0 (x : Value) (a0 r : List ByteArray) (w : World) (c0 : Sl (Pl nu) 1 (hp w) x a0) (hm : BU a0 = some r) :
  lT true pg0 131 [x] w 9 nu 1 r := by
 refine tT 48 func131 rfl (fun d => sg (Wa (lr (Wa (ln (vG (mP (ou (fun m E W => ∃ u a2 j c1, ST true lu w W (hp w) (j ++ c1) ∧ E 0 = x ∧ E 3 = u ∧ kZ 9 nu 1 u a2 j ∧ vK a0 m a2 = some r) lE ⟨(.slice none 0 0), ([]), [], _, (d.kD St), rfl, rfl, (kZ.nil _ _ _), hm⟩ ?_))))))))
 rintro m E W ⟨u, a2, j, c1, d, c7, f6, G, Z⟩
 cases m with
 | zero => rw [vK] at Z; cases Z
 | succ i3 =>
  refine bg (Wa (lS (Wh c7 (V (lJ bJ rfl c0) (Wm (ln (CJ Z (fun b7 E W => ∃ c2, ST true lu w W (hp w) (j ++ c2) ∧ E 0 = x ∧ E 3 = u ∧ E 4 = (.string b7)) (fun b7 e5 => ?_) ?_)))))))
  ·refine lz (fun i E W => ∃ z s, (E 9 = .int .i64 (i : Nat) ∧ E 8 = .int .i64 (a0.length : Nat)) ∧ ST true lu w W (hp w) (j ++ s) ∧ E 0 = x ∧ E 3 = u ∧ E 4 = (.string z) ∧ E 7 = x ∧ tL a2 (a0.drop i) z = some b7) a0.length c0.len ⟨zS, _, ⟨rfl, rfl⟩, (d.kD St), c7, f6, rfl, rfl, e5⟩ dc dc dc (fun _ _ _ h => by obtain ⟨_, _, a6, _⟩ := h; exact a6) ?_ ?_
   ·rintro n E W e4 ⟨z, s, ⟨o, q⟩, d, Q, H, T, U, t⟩
    obtain ⟨I, i7, f3, f2, b9⟩ := ll e4
    rw [f3] at t
    refine bg (VQ (lY (enc := nu) (i := (n : Int)) (x0 := I) bJ dl U o c0 (aD _) f2) (fun j3 e9 => V (kE rfl (nh d.has (y := (.string I)) e9 aY)) (Wa (lr (Wm (bS t fun i4 f1 t => VE (Eg d call138 (yf I _ _  f1) (fun j0 d => Wm (LJ t (fun d7 E W => ∃ c3, ST true lu w W (hp w) (j ++ c3) ∧ E 0 = x ∧ E 3 = u ∧ E 4 = (.string z) ∧ E 6 = (.string I) ∧ E 7 = x ∧ E 8 = (.int .i64 (a0.length : Int)) ∧ E 9 = (.int .i64 (n : Int)) ∧ E 29 = (.bool d7)) 14 ?_ (fun d7 N a9 => ?_))))))))))
    ·rintro i6 E W ⟨c3, d, A, L, Y, a3, P, b5, b6, f8⟩ e6
     refine Wh f8 (LJ e6 (fun d5 E W => ∃ c4, ST true lu w W (hp w) (j ++ c4) ∧ E 0 = x ∧ E 3 = u ∧ E 4 = (.string z) ∧ E 6 = (.string I) ∧ E 7 = x ∧ E 8 = (.int .i64 (a0.length : Int)) ∧ E 9 = (.int .i64 (n : Int)) ∧ E 38 = (.bool d5)) 8 ?_ (fun d5 K a7 => ?_))
     ·rintro j5 E W ⟨c4, d, d0, d1, f9, g0, d2, d3, d4, g1⟩ J
      refine ln (CI J g1 (fun e3 J => ?_) (fun e3 J => ?_))
      ·exact kT (Wh g0 (Wa (lo (lA (kK ⟨d4, I, _, ⟨rfl, d3⟩, (d.kD St), d0, d1, rfl, d2, (by rw [b9]; exact J)⟩)))))
      exact lG (lA (kK ⟨d4, z, _, ⟨rfl, d3⟩, (d.kD St), d0, d1, f9, d2, (by rw [b9]; exact J)⟩))
     refine bC K (fun g K => ?_) (fun g K => ?_)
     ·refine ug g (kM Y) (ug g (se rfl rfl rfl) (ug g (kM rfl) (LJ K (fun d6 E W => ∃ c5, ST true lu w W (hp w) (j ++ c5) ∧ E 0 = x ∧ E 3 = u ∧ E 4 = (.string z) ∧ E 6 = (.string I) ∧ E 7 = x ∧ E 8 = (.int .i64 (a0.length : Int)) ∧ E 9 = (.int .i64 (n : Int)) ∧ E 30 = (.bool i6) ∧ E 37 = (.bool d6)) 4 ?_ (fun d6 M a8 => ?_))))
      ·rintro j6 E W ⟨c5, d, g2, g3, g4, g7, g8, g9, h0, h1, h2⟩ e7
       refine V (kX (h1.trans (cB g)) h2) ?_
       obtain rfl := sj e7
       exact a7 _ _ ⟨_, (d.kD St), g2, g3, g4, g7, g8, g9, h0, rfl⟩
      refine bC M (fun k M => ?_) (fun k M => ?_)
      ·refine un k (un k (un k (ug g (kX (cB k) rfl) ?_)))
       obtain rfl := sj M
       exact a8 _ _ ⟨_, (d.kD St), A, L, Y, a3, P, b5, b6, rfl, rfl⟩
      refine ug k (kM a3) (ug k (kM Y) (ug k (se rfl rfl rfl) (ug g (kW (cB k) rfl) ?_)))
      obtain rfl := sj M
      exact a8 _ _ ⟨_, (d.kD St), A, L, Y, a3, P, b5, b6, rfl, rfl⟩
     refine un g (un g (un g (Vu rfl rfl (Vu rfl rfl (Vu rfl rfl (un g (V (kW (cB g) rfl) ?_)))))))
     obtain rfl := sj K
     exact a7 _ _ ⟨_, (d.kD St), A, L, Y, a3, P, b5, b6, rfl⟩
    refine bC N (fun c N => ?_) (fun c N => ?_)
    ·refine ug c (kM H) (ug c (mR bJ rfl G) (ug c (lK rfl rfl rfl) (ug c (kM rfl) (LJ N (fun d8 E W => ∃ c6, ST true lu w W (hp w) (j ++ c6) ∧ E 0 = x ∧ E 3 = u ∧ E 4 = (.string z) ∧ E 6 = (.string I) ∧ E 7 = x ∧ E 8 = (.int .i64 (a0.length : Int)) ∧ E 9 = (.int .i64 (n : Int)) ∧ E 15 = (.bool i4) ∧ E 28 = (.bool d8)) 9 ?_ (fun d8 D b0 => ?_)))))
     ·rintro j7 E W ⟨c6, d, h3, h4, h5, h6, h7, h8, h9, i0, i1⟩ e8
      refine V (kX (i0.trans (cB c)) i1) ?_
      obtain rfl := sj e8
      exact a9 _ _ ⟨_, (d.kD St), h3, h4, h5, h6, h7, h8, h9, rfl⟩
     refine bC D (fun a D => ?_) (fun a D => ?_)
     ·refine un a (un a (un a (un a (un a (un a (un a (un a (ug c (kX (cB a) rfl) ?_))))))))
      obtain rfl := sj D
      exact b0 _ _ ⟨_, (d.kD St), Q, H, T, rfl, U, q, o, rfl, rfl⟩
     refine ug a (kM rfl) (ug a (kM H) (ug a (kM H) (ug a (mR bJ rfl G) (ug a (lK rfl rfl rfl) (bS D fun d9 a5 D => UQ a (mF (i := (wi0 .i64 ((a2.length : Int) - 1))) (x0 := d9) bJ dl rfl rfl G (mi a5) (lR a5)) (fun j4 f0 => ug a (kE rfl (uU d.has (fun p hq => (Ml hq)) G (fun _ => rfl) f0 (lR a5) (y := (.string d9)) rfl aY)) (ug a (se rfl rfl rfl) (ug c (kW (cB a) rfl) ?_))))))))
     obtain rfl := sj D
     exact b0 _ _ ⟨_, (d.kD St), Q, H, T, rfl, U, q, o, rfl, rfl⟩
    refine un c (un c (un c (un c (Vu rfl rfl (Vu rfl rfl (Vu rfl rfl (Vu rfl rfl (Vu rfl rfl (Vu rfl rfl (Vu rfl rfl (Vu rfl rfl (un c (V (kW (cB c) rfl) ?_)))))))))))))
    obtain rfl := sj N
    exact a9 _ _ ⟨_, (d.kD St), Q, H, T, rfl, U, q, o, rfl⟩
   rintro E W ⟨z, s, ⟨o, q⟩, d, Q, H, T, U, t⟩
   rw [aG] at t
   refine kK ?_
   obtain rfl := sj t
   exact ⟨_, (d.kD St), Q, H, T⟩
  rintro a4 E W ⟨c2, d, f7, c8, c9⟩ B
  refine kV (sg (Wh c9 (V (se rfl rfl rfl) (ln (CI B rfl (fun e1 B => ?_) (fun e1 B => ?_))))))
  ·refine sg (Wh c8 (Wa (lt (lm (mu (lm (mu (lm ?_))))))))
   obtain rfl := sj B
   exact lQ (v := u) rfl rfl ⟨_, j, rfl, d.mV (fun p hq => (Ml hq)) G.nd, G⟩
  refine kn (kT (Wh c8 (Wh c9 (VE (lj (cs := [(.string a4)].toArray) d (mN rfl) (mJ bJ dl jr) (fun i8 f5 d => ?_))))))
  replace d := d.perm (Nr (Qb Qz) Nz)
  refine bS B fun i2 e2 B => VE (mD (enc := nu) (v := u) (vs := (.slice (some ⟨f5, 0, none⟩) 1 1)) (R := j) d (fun _ => rfl) dc E2 bJ xq.1 xq.2.1 rfl xq.2.2.1 xq.2.2.2 rfl rfl G (Sl.lit (enc := nu) (l := [a4]) (fun _ => rfl) rfl nb rfl (d.at_ (Ma Mh))) e2 (fun i9 i5 f4 d e0 => Wa (lo (lA (kK ?_)))))
  replace d := d.kD (Kr (Db St))
  exact ⟨i3, bT _, i5, i2, f4, _, (d.kD St), f7, rfl, e0, B⟩
theorem Mx (B : Value) (G : List kB) (r : List ByteArray) (w : World) (y : Sl (Pl kG) 9 (hp w) B G) (hm : Am G = some r) :
  lT true pg0 64 [B] w 9 nu 1 r := by
 refine tT 29 func64 rfl (fun d => sg (Wa (lr (Wa (lS (Wm ?_))))))
 refine V (lJ aW rfl y) (Wm (ln (lz (fun i E W => ∃ g k j t, (E 8 = .int .i64 (i : Nat) ∧ E 7 = .int .i64 (G.length : Nat)) ∧ ST true lu w W (hp w) (j ++ t) ∧ E 3 = g ∧ E 6 = B ∧ kZ 9 nu 1 g k j ∧ tR (G.drop i) k = some r) G.length y.len ⟨(.slice none 0 0), ([]), [], _, ⟨rfl, rfl⟩, (d.kD St), rfl, rfl, (kZ.nil _ _ _), hm⟩ dc dc dc (fun _ _ _ h => by obtain ⟨_, _, _, _, n, _⟩ := h; exact n) ?_ ?_)))
 ·rintro a5 E W T ⟨g, k, j, t, ⟨m, A⟩, d, u, x, z, c⟩
  obtain ⟨a, b4, Y, U, Z⟩ := ll T
  rw [Y] at c
  refine bg (VQ (lY (enc := kG) (i := (a5 : Int)) (x0 := a) aW aM x m y (aD _) U) (fun b2 J => V (kE rfl (lO d.has J bM aM)) (VE (lD d cg (fun P b1 d => VO (lh (.agg (kG a).toArray) ((kG a).toArray) d rfl rfl aM (nQ a) nb rfl (fun a7 d => ln (kT (Wh u (Wf sW (VB d Mh rfl rfl aY (Wf oD (Wf oF ?_)))))))))))))
  refine VB d Mh rfl rfl aY (Wf mW (Wf oF (VB d Mh rfl rfl aY (Wf pO (Wf oF (VB d Mh rfl rfl aY (VE (lj (cs := #[(.string a.ly), (.string a.Head.kI), (.string a.B.kI), (.string a.C.kI)]) d (NZ rfl rfl rfl rfl) (mJ bJ dl jr) (fun a8 Q d => ?_)))))))))
  replace d := d.perm (Nr (Qb (Qb Qz)) Nz)
  refine bS c fun L I c => VE (mD (enc := nu) (v := g) (vs := (.slice (some ⟨Q, 0, none⟩) 4 4)) (R := j) d (fun _ => rfl) dc E2 bJ xq.1 xq.2.1 rfl xq.2.2.1 xq.2.2.2 rfl rfl z (Sl.lit (enc := nu) (l := [a.ly, a.Head.kI, a.B.kI, a.C.kI]) (fun _ => rfl) rfl nb rfl (d.at_ (Ma Mh))) I (fun a9 a2 M d H => Wa (lo (lA (kK ?_)))))
  replace d := d.kD (Kr (Db (Db St)))
  exact ⟨m, a2, L, M, _, ⟨rfl, A⟩, (d.kD St), rfl, x, H, (by rw [Z]; exact c)⟩
 rintro E W ⟨g, k, j, t, ⟨m, A⟩, d, u, x, z, c⟩
 rw [aG] at c
 refine kK (sg (Wh u (bS c fun b3 K c => VE (qu d call131 (O0 g k _ _ (z.sl (fun _ => rfl) (fun b o s => d.at_ (Ml s))) K) (fun b0 a3 b5 N d a4 q D => Wa (ln ?_))))))
 replace d := d.kD (Kr (Dr St))
 refine lx ?_
 obtain rfl := sj c
 exact lQ (v := a3) rfl rfl ⟨_, N, rfl, d.mV (fun p s => (Ml s)) D.nd, D⟩
theorem zh (y : Value) (H : List kF) (z : kA) (J : ByteArray) (r : Bool) (w : World) (G : Sl (Pl kO) 3 (hp w) y H) (hm : tY H z J = some r) :
  lg true pg0 63 [y, (.agg (kC z).toArray), (.string J)] w (.bool r) := by
 refine cG 26 func63 rfl (fun d => sg (VE (lF d rfl (fun W2 M d => Wa (lS (Wm (V (lJ bR rfl G) (Wm (ln ?_)))))))))
 refine lz (fun i E W => ∃ D, (E 11 = .int .i64 (i : Nat) ∧ E 10 = .int .i64 (H.length : Nat)) ∧ ST true lu w W (hp w) ((M, Ol (kC z) 28) :: D) ∧ E 2 = (.string J) ∧ E 4 = (.pointer (some ⟨M, 0, none⟩)) ∧ E 9 = y ∧ xX z J (H.drop i) = some r) H.length G.len ⟨_, ⟨rfl, rfl⟩, (d.kD St), rfl, rfl, rfl, hm⟩ dc dc dc (fun _ _ _ h => by obtain ⟨_, n, _⟩ := h; exact n) ?_ ?_
 ·rintro T E W q ⟨D, ⟨m, o⟩, d, t, u, x, c⟩
  obtain ⟨k, b6, v, s, a9⟩ := ll q
  rw [v] at c
  refine bg (VQ (lY (enc := kO) (i := (T : Int)) (x0 := k) bR bU x m G (aD _) s) (fun R Q => V (kE rfl (lO d.has Q dx bU)) (VE (lD d cX (fun A P d => VO (lh (.agg (kO k).toArray) ((kO k).toArray) d rfl rfl bU (wA k) nb rfl (fun L d => lr (Wf wS (VA d Mh (kC k.kA) aO aC (V (kE u (kL d.has (Mt Mh) (kC z) rfl aO aC)) (V (vt rfl rfl (ns cY) (qH (ob _ k.kA z))) ?_)))))))))))
  refine Wm (LJ c (fun K E W => ∃ I, ST true lu w W (hp w) ((M, Ol (kC z) 28) :: I) ∧ E 2 = (.string J) ∧ E 4 = (.pointer (some ⟨M, 0, none⟩)) ∧ E 9 = y ∧ E 10 = (.int .i64 (H.length : Int)) ∧ E 11 = (.int .i64 (T : Int)) ∧ E 24 = (.bool K)) 5 ?_ (fun K j B => ?_))
  ·rintro b5 E W ⟨I, d, U, Y, Z, a3, a4, a5⟩ g
   refine ln (CI g a5 (fun N g => ?_) (fun N g => ?_))
   ·refine sg (Wa (ln ?_))
    replace d := d.kD (Db St)
    refine lx (mu (lm (mu (lm ?_))))
    obtain rfl := sj g
    exact rP d
   exact lG (lA (kK ⟨a4, _, ⟨rfl, a3⟩, (d.kD St), U, Y, Z, (by rw [a9]; exact g)⟩))
  refine bC j (fun a j => ?_) (fun a j => ?_)
  ·refine ug a (kH sP rfl) (ug a (kE rfl (kR d.has Mh rfl aY)) (ug a (kM t) (ug a (se rfl rfl rfl) (V (kX (cB a) rfl) ?_))))
   obtain rfl := sj j
   exact B _ _ ⟨_, (d.kD (Db St)), t, u, x, o, m, rfl⟩
  refine un a (un a (un a (un a (V (kW (cB a) rfl) ?_))))
  obtain rfl := sj j
  exact B _ _ ⟨_, (d.kD (Db St)), t, u, x, o, m, rfl⟩
 rintro E W ⟨D, ⟨m, o⟩, d, t, u, x, c⟩
 rw [aG] at c
 refine kK ?_
 replace d := d.kD (Db St)
 exact sg (Wa (lt (rQ c d)))
theorem N9 (k : Value) (M : List kF) (t : kB) (K : Value) (Y : List ByteArray) (H : ByteArray) (r : Bool) (w : World) (G : Sl (Pl kO) 3 (hp w) k M) (T : Sl (Pl nu) 1 (hp w) K Y) (hm : yV M t Y H = some r) :
  lg true pg0 65 [k, (.agg (kG t).toArray), K, (.string H)] w (.bool r) := by
 refine cG 62 func65 rfl (fun d => sg (VE (lF d rfl (fun W2 m d => Wa (lS (Wf om (VB d Mh rfl rfl cH (Wi rfl (ln ?_)))))))))
 refine CI hm rfl (fun d0 hm => ?_) (fun d0 hm => ?_)
 ·refine sg (Wf sW (VB d Mh rfl rfl aY (Wm (V (se rfl rfl rfl) (Wa (ln ?_))))))
  replace d := d.kD (Db St)
  refine lx (lm ?_)
  obtain rfl := sj hm
  exact rP d
 refine kS (Wf om (VB d Mh rfl rfl cH (Wi rfl (ln (CI hm rfl (fun d1 hm => ?_) (fun d1 hm => ?_))))))
 ·refine sg (Wm (Wf mW (VA d Mh (kC t.B) aO aC (Wm (bS hm fun r5 d3 hm => VE (Eg d call63 (zh k M t.B H _ _ (G.mono (Pl.mono _) d.kN) d3) (fun W7 d => Wa (ln ?_))))))))
  replace d := d.kD (Db St)
  refine lx (lm ?_)
  obtain rfl := sj hm
  exact rP d
 refine kS (Wf om (VB d Mh rfl rfl cH (Wi rfl (ln (CI hm rfl (fun d2 hm => ?_) (fun d2 hm => ?_))))))
 ·refine sg (Wm (Wf mW (VA d Mh (kC t.B) aO aC (Wm (bS hm fun r9 c7 hm => VE (Eg d call63 (zh k M t.B H _ _ (G.mono (Pl.mono _) d.kN) c7) (fun e1 d => Wm (LJ hm (fun A E W => ∃ s, ST true lu w W (hp w) s ∧ E 8 = (.bool false) ∧ E 40 = (.bool A)) 6 ?_ (fun A u U => ?_)))))))))
  ·rintro e5 E W ⟨s, d, e3, c9⟩ c6
   refine Wg c9 (lt (lm ?_))
   obtain rfl := sj c6
   exact rP d
  refine bC u (fun c u => ?_) (fun c u => ?_)
  ·refine ug c (kM rfl) (ug c (kH pO rfl) (ug c (kE rfl (kL d.has Mh (kC t.C) rfl aO aC)) (ug c (kM rfl) (bS u fun e4 c8 u => qy c (Eg d call63 (zh k M t.C H _ _ (G.mono (Pl.mono _) d.kN) c8) (fun e2 d => V (kX (cB c) rfl) ?_))))))
   obtain rfl := sj u
   exact U _ _ ⟨_, (d.kD (Db St)), rfl, rfl⟩
  refine un c (un c (un c (un c (un c (V (kW (cB c) rfl) ?_)))))
  obtain rfl := sj u
  exact U _ _ ⟨_, (d.kD (Db St)), rfl, rfl⟩
 refine kS (Wm (V (lJ bJ rfl T) (Wm (ln (lz (fun i E W => ∃ Q, (E 43 = .int .i64 (i : Nat) ∧ E 42 = .int .i64 (Y.length : Nat)) ∧ ST true lu w W (hp w) ((m, Ol (kG t) 108) :: Q) ∧ E 0 = k ∧ E 3 = (.string H) ∧ E 5 = (.pointer (some ⟨m, 0, none⟩)) ∧ E 41 = K ∧ wN M t H (Y.drop i) = some r) Y.length T.len ⟨_, ⟨rfl, rfl⟩, (d.kD St), rfl, rfl, rfl, rfl, hm⟩ dc dc dc (fun _ _ _ h => by obtain ⟨_, o, _⟩ := h; exact o) ?_ ?_)))))
 ·rintro a4 E W P ⟨Q, ⟨n, q⟩, d, B, I, D, J, g⟩
  obtain ⟨z, d4, b4, b3, b5⟩ := ll P
  rw [b4] at g
  refine bg (VQ (lY (enc := nu) (i := (a4 : Int)) (x0 := z) bJ dl J n T (aD _) b3) (fun d7 a9 => V (kE rfl (nh d.has (y := (.string z)) a9 aY)) (Wa (lr (Wh B (V (kH mW D) (VA d Mh (kC t.B) aO aC (Wm (bS g fun d8 R g => ?_)))))))))
  refine VE (Eg d call63 (zh k M t.B z _ _ (G.mono (Pl.mono _) d.kN) R) (fun d5 d => Wm (LJ g (fun a5 E W => ∃ Z, ST true lu w W (hp w) ((m, Ol (kG t) 108) :: Z) ∧ E 0 = k ∧ E 3 = (.string H) ∧ E 5 = (.pointer (some ⟨m, 0, none⟩)) ∧ E 41 = K ∧ E 42 = (.int .i64 (Y.length : Int)) ∧ E 43 = (.int .i64 (a4 : Int)) ∧ E 60 = (.bool a5)) 8 ?_ (fun a5 j N => ?_))))
  ·rintro e0 E W ⟨Z, d, b9, c0, c1, c2, c3, c4, c5⟩ x
   refine ln (CI x c5 (fun L x => ?_) (fun L x => ?_))
   ·refine sg (Wa (ln ?_))
    replace d := d.kD (Db St)
    refine lx (mu (lm (mu (lm ?_))))
    obtain rfl := sj x
    exact rP d
   exact lG (lA (kK ⟨c4, _, ⟨rfl, c3⟩, (d.kD St), b9, c0, c1, c2, (by rw [b5]; exact x)⟩))
  refine bC j (fun a j => ?_) (fun a j => ?_)
  ·refine ug a (kM B) (ug a (kM rfl) (ug a (kH rX D) (ug a (kE rfl (kR d.has Mh rfl aY)) (ug a (nm (v := (.agg (kC (⟨z, t.lU⟩ : kA)).toArray)) (pH rfl rfl) (mE bQ cI (Hn _ cI) kr)) (ug a (kM I) (bS j fun d9 b2 j => qy a (Eg d call63 (zh k M (⟨z, t.lU⟩ : kA) H _ _ (G.mono (Pl.mono _) d.kN) b2) (fun d6 d => V (kX (cB a) rfl) ?_))))))))
   obtain rfl := sj j
   exact N _ _ ⟨_, (d.kD St), B, I, D, J, q, n, rfl⟩
  refine un a (un a (un a (un a (un a (un a (un a (V (kW (cB a) rfl) ?_)))))))
  obtain rfl := sj j
  exact N _ _ ⟨_, (d.kD St), B, I, D, J, q, n, rfl⟩
 rintro E W ⟨Q, ⟨n, q⟩, d, B, I, D, J, g⟩
 rw [aG] at g
 refine kK ?_
 replace d := d.kD (Db St)
 exact sg (Wa (lt (rQ g d)))
theorem Hr (j k : kF) (r : Bool) (w : World) (hm : vL j k = some r) :
  lg true pg0 187 [(.agg (kO j).toArray), (.agg (kO k).toArray)] w (.bool r) := by
 refine cG 24 func187 rfl (fun d => sg (VE (lF d rfl (fun Y h d => VE (lF d rfl (fun Z m d => Wa (lr (Wf wS (VA d (Mt Mh) (kC j.kA) aO aC (Wf wS (VA d Mh (kC k.kA) aO aC (bS hm fun N M hm => ?_))))))))))))
 refine VE (Eg d call107 (xz j.kA k.kA _ _  M) (fun W7 d => Wm (LJ hm (fun z E W => ∃ x, ST true lu w W (hp w) x ∧ E 4 = (.bool false) ∧ E 23 = (.bool z)) 13 ?_ (fun z g t => ?_))))
 ·rintro T E W ⟨x, d, Q, H⟩ D
  exact Wg H (lt (rQ D d))
 refine bC g (fun a g => ?_) (fun a g => ?_)
 ·refine un a (un a (un a (un a (un a (un a (Vu rfl rfl (Vu rfl rfl (Vu rfl rfl (Vu rfl rfl (Vu rfl rfl (un a (V (kX (cB a) rfl) ?_))))))))))))
  obtain rfl := sj g
  exact t _ _ ⟨_, (d.kD (Db (Db St))), rfl, rfl⟩
 refine ug a (kH wS rfl) (ug a (kE rfl (kL d.has (Mt Mh) (kC j.kA) rfl aO aC)) (ug a (kH wS rfl) (ug a (kE rfl (kL d.has Mh (kC k.kA) rfl aO aC)) (ug a (vt rfl rfl (ns cY) (qH (ob _ j.kA k.kA))) (ug a (kM rfl) (LJ g (fun B E W => ∃ y, ST true lu w W (hp w) y ∧ E 4 = (.bool false) ∧ E 10 = (.bool N) ∧ E 22 = (.bool B)) 6 ?_ (fun B i u => ?_)))))))
 ·rintro U E W ⟨y, d, I, J, K⟩ G
  refine V (kW (J.trans (cB a)) K) ?_
  obtain rfl := sj G
  exact t _ _ ⟨_, (d.kD St), I, rfl⟩
 refine bC i (fun c i => ?_) (fun c i => ?_)
 ·refine ug c (kH sP rfl) (ug c (kE rfl (kR d.has (Mt Mh) rfl aY)) (ug c (kH sP rfl) (ug c (kE rfl (kR d.has Mh rfl aY)) (ug c (se rfl rfl rfl) (ug a (kX (cB c) rfl) ?_)))))
  obtain rfl := sj i
  exact u _ _ ⟨_, (d.kD (Db (Db St))), rfl, rfl, rfl⟩
 refine un c (un c (un c (un c (un c (ug a (kW (cB c) rfl) ?_)))))
 obtain rfl := sj i
 exact u _ _ ⟨_, (d.kD (Db (Db St))), rfl, rfl, rfl⟩
theorem Ld (I : Value) (Q r : List kF) (w : World) (Y : Sl (Pl kO) 3 (hp w) I Q) (hm : BL Q = some r) :
  lT true pg0 126 [I] w 38 kO 3 r := by
 refine tT 56 func126 rfl (fun m => sg (Wa (lr (Wa (lS (Wm ?_))))))
 refine V (lJ bR rfl Y) (Wm (ln (lz (fun i E W => ∃ y N x a9, (E 9 = .int .i64 (i : Nat) ∧ E 8 = .int .i64 (Q.length : Nat)) ∧ ST true lu w W (hp w) (x ++ a9) ∧ E 0 = I ∧ E 3 = y ∧ kZ 38 kO 3 y N x ∧ pP Q (Q.drop i) N = some r) Q.length Y.len ⟨(.slice none 0 0), ([]), [], _, ⟨rfl, rfl⟩, (m.kD St), rfl, rfl, (kZ.nil _ _ _), hm⟩ dc dc dc (fun _ _ _ h => by obtain ⟨_, _, _, _, o, _⟩ := h; exact o) ?_ ?_)))
 ·rintro a7 E W i6 ⟨y, N, x, a9, ⟨n, s⟩, m, b1, b2, z, D⟩
  obtain ⟨l2, l1, i7, k2, e4⟩ := ll i6
  rw [i7] at D
  refine bg (Wa (lS (Wh b1 (V (lJ bR rfl Y) (Wm (ln (CJ D (fun c5 E W => ∃ c9, ST true lu w W (hp w) (x ++ c9) ∧ E 0 = I ∧ E 3 = y ∧ E 4 = (.int .i64 c5) ∧ E 8 = (.int .i64 (Q.length : Int)) ∧ E 9 = (.int .i64 (a7 : Int))) (fun c5 f5 => ?_) ?_)))))))
  ·let g5 : Value := (.int .i64 (a7 : Int))
   let a0 : Value := (.int .i64 (Q.length : Int))
   refine lz (fun i E W => ∃ B b0, (E 13 = .int .i64 (i : Nat) ∧ E 12 = .int .i64 (Q.length : Nat)) ∧ ST true lu w W (hp w) (x ++ b0) ∧ E 0 = I ∧ E 3 = y ∧ E 4 = (.int .i64 B) ∧ E 8 = a0 ∧ E 9 = g5 ∧ E 11 = I ∧ pR N Q (Q.drop i) i B = some c5) Q.length Y.len ⟨(-1), _, ⟨rfl, rfl⟩, (m.kD St), b1, b2, rfl, s, n, rfl, f5⟩ dc dc dc (fun _ _ _ h => by obtain ⟨_, _, o, _⟩ := h; exact o) ?_ ?_
   ·rintro H E W f4 ⟨B, b0, ⟨n, s⟩, m, A, J, a2, a3, a4, a5, G⟩
    let b8 : Value := (.int .i64 (H : Int))
    obtain ⟨j, j5, g7, g4, c7⟩ := ll f4
    rw [g7] at G
    refine bg (Wh n (VQ (lY (enc := kO) (i := (H : Int)) (x0 := j) bR bU a5 n Y (aD _) g4) (fun k4 f9 => V (kE rfl (lO m.has f9 dx bU)) (VE (lD m cX (fun j8 Z m => Wa (VO (lh (.agg (kO j).toArray) ((kO j).toArray) m rfl rfl bU (wA j) nb rfl (fun j9 m => ln (kV ?_))))))))))
    replace m := m.drew
    have d := m.has.kD (Kb (Kr Sn))
    refine lN d lB (X 0 rfl d (kM J) (X 1 rfl d (mR bR rfl z) (X 2 rfl d (lK rfl rfl rfl) (X 3 rfl d (kM rfl) (PJ G (fun e7 E W => ∃ d0, ST true lu w W (hp w) ((Z, Ol (kO j) 38) :: (x ++ d0)) ∧ E 0 = I ∧ E 3 = y ∧ E 4 = (.int .i64 B) ∧ E 5 = b8 ∧ E 6 = (.pointer (some ⟨Z, 0, none⟩)) ∧ E 8 = a0 ∧ E 9 = g5 ∧ E 11 = I ∧ E 12 = a0 ∧ E 13 = b8 ∧ E 30 = (.bool e7)) (bm 25 8191) 12 ?_ (fun e7 u c4 => ?_))))))
    ·rintro j3 E W ⟨d0, m, L, b4, T, b5, h0, b6, b7, b9, c0, c1, h1⟩ f6
     have d := m.has.kD (Kb (Kr Sn))
     refine X 13 rfl d (kM h1) (PJ f6 (fun e5 E W => ∃ d1, ST true lu w W (hp w) ((Z, Ol (kO j) 38) :: (x ++ d1)) ∧ E 0 = I ∧ E 3 = y ∧ E 4 = (.int .i64 B) ∧ E 5 = b8 ∧ E 8 = a0 ∧ E 9 = g5 ∧ E 11 = I ∧ E 12 = a0 ∧ E 13 = b8 ∧ E 42 = (.bool e5)) (bm 25 33554431) 0 ?_ (fun e5 M c2 => ?_))
     ·rintro k9 E W ⟨d1, m, d7, d8, h2, h3, d9, e0, e1, e2, e3, h4⟩ K
      refine me kr (kK ?_)
      replace m := m.kD (Db St)
      refine CI K h4 (fun f3 K => ?_) (fun f3 K => ?_)
      ·exact kT (Wh h3 (Wa (lo (lA (kK ⟨e3, (H : Int), _, ⟨rfl, e2⟩, (m.kD St), d7, d8, rfl, d9, e0, e1, (by rw [c7]; exact K)⟩)))))
      exact lG (lA (kK ⟨e3, B, _, ⟨rfl, e2⟩, (m.kD St), d7, d8, h2, d9, e0, e1, (by rw [c7]; exact K)⟩))
     refine bC M (fun g M => ?_) (fun g M => ?_)
     ·refine Xg 14 rfl rfl (cB g) d (kM T) (Xg 15 rfl rfl (cB g) d (lK rfl rfl rfl) (Xg 16 rfl rfl (cB g) d (kM rfl) (PJ M (fun e6 E W => ∃ d2, ST true lu w W (hp w) ((Z, Ol (kO j) 38) :: (x ++ d2)) ∧ E 0 = I ∧ E 3 = y ∧ E 4 = (.int .i64 B) ∧ E 5 = b8 ∧ E 8 = a0 ∧ E 9 = g5 ∧ E 11 = I ∧ E 12 = a0 ∧ E 13 = b8 ∧ E 31 = (.bool j3) ∧ E 41 = (.bool e6)) (bm 25 16777215) 1 ?_ (fun e6 t c3 => ?_))))
      ·rintro l0 E W ⟨d2, m, h5, h6, h7, h8, h9, i0, i1, i2, i3, i4, i5⟩ f7
       have d := m.has.kD (Kb (Kr Sn))
       refine X 24 rfl d (kX (i4.trans (cB g)) i5) ?_
       obtain rfl := sj f7
       refine np kr (c2 _ _ ⟨_, (m.kD St), h5, h6, h7, h8, h9, i0, i1, i2, i3, rfl⟩)
      refine bC t (fun c t => ?_) (fun c t => ?_)
      ·refine Xn 17 rfl rfl (cB c) d (Xn 18 rfl rfl (cB c) d (Xn 19 rfl rfl (cB c) d (Xn 20 rfl rfl (cB c) d (Xn 21 rfl rfl (cB c) d (Xn 22 rfl rfl (cB c) d (Xg 23 rfl rfl (cB g) d (kX (cB c) rfl) ?_))))))
       obtain rfl := sj t
       refine np kr (c3 _ _ ⟨_, (m.kD St), L, b4, T, b5, b6, b7, b9, c0, c1, rfl, rfl⟩)
      refine vA 17 rfl rfl (cB c) d (fun _ q => kE h0 (kL q Mh (kO j) rfl dx bU)) (Xg 18 rfl rfl (cB c) d (kM L) (Xg 19 rfl rfl (cB c) d (kM T) (bS t fun e8 c8 t => G8 20 rfl kr (.inr ⟨16, false, 34, rfl, rfl, by decide, (cB c)⟩) rfl dc (fun _ _ h => h) d (lY (enc := kO) (i := B) (x0 := e8) bR bU rfl rfl Y (mi c8) (lR c8)) (fun k5 g0 => vA 21 rfl rfl (cB c) d (fun _ q => kE rfl (lO q g0 dx bU)) (bS t fun k7 g2 t => DK 22 rfl rfl (cB c) (Eg m call187 (Hr j e8 _ _  g2) (fun k0 m => ?_)))))))
      have d := m.has.kD (Kb (Kr Sn))
      refine ⟨d, (Xg 23 rfl rfl (cB g) d (kW (cB c) rfl) ?_)⟩
      obtain rfl := sj t
      refine np kr (c3 _ _ ⟨_, (m.kD St), L, b4, T, b5, b6, b7, b9, c0, c1, rfl, rfl⟩)
     refine Xn 14 rfl rfl (cB g) d (Xn 15 rfl rfl (cB g) d (Xn 16 rfl rfl (cB g) d (Xu 17 rfl rfl rfl d (Xu 18 rfl rfl rfl d (Xu 19 rfl rfl rfl d (Xu 20 rfl rfl rfl d (Xu 21 rfl rfl rfl d (Xu 22 rfl rfl rfl d (Xn 23 rfl rfl (cB g) d (X 24 rfl d (kW (cB g) rfl) ?_))))))))))
     obtain rfl := sj M
     refine np kr (c2 _ _ ⟨_, (m.kD St), L, b4, T, b5, b6, b7, b9, c0, c1, rfl⟩)
    refine bC u (fun a u => ?_) (fun a u => ?_)
    ·refine Xn 4 rfl rfl (cB a) d (Xn 5 rfl rfl (cB a) d (Xn 6 rfl rfl (cB a) d (Xn 7 rfl rfl (cB a) d (Xn 8 rfl rfl (cB a) d (Xn 9 rfl rfl (cB a) d (Xn 10 rfl rfl (cB a) d (Xn 11 rfl rfl (cB a) d (X 12 rfl d (kX (cB a) rfl) ?_))))))))
     obtain rfl := sj u
     refine np kr (c4 _ _ ⟨_, (m.kD St), A, J, a2, rfl, rfl, a3, a4, a5, s, n, rfl⟩)
    refine Xg 4 rfl rfl (cB a) d (kM J) (Xg 5 rfl rfl (cB a) d (kM J) (Xg 6 rfl rfl (cB a) d (mR bR rfl z) (Xg 7 rfl rfl (cB a) d (lK rfl rfl rfl) (bS u fun e9 P u => G8 8 rfl kr (.inr ⟨3, false, 21, rfl, rfl, by decide, (cB a)⟩) rfl dc (fun _ _ h => h) d (mF (i := (wi0 .i64 ((N.length : Int) - 1))) (x0 := e9) bR bU rfl rfl z (mi P) (lR P)) (fun k6 g1 => vA 9 rfl rfl (cB a) d (fun _ q => kE rfl (oy q (fun p hq => (Mt (Ml hq))) z nA g1 (lR P) dx bU)) (vA 10 rfl rfl (cB a) d (fun _ q => kE rfl (kL q Mh (kO j) rfl dx bU)) (bS u fun k8 g3 u => DK 11 rfl rfl (cB a) (Eg m call187 (Hr e9 j _ _  g3) (fun k1 m => ?_)))))))))
    have d := m.has.kD (Kb (Kr Sn))
    refine ⟨d, (X 12 rfl d (kW (cB a) rfl) ?_)⟩
    obtain rfl := sj u
    refine np kr (c4 _ _ ⟨_, (m.kD St), A, J, a2, rfl, rfl, a3, a4, a5, s, n, rfl⟩)
   rintro E W ⟨B, b0, ⟨n, s⟩, m, A, J, a2, a3, a4, a5, G⟩
   rw [aG] at G
   refine kK ?_
   obtain rfl := sj G
   exact ⟨_, (m.kD St), A, J, a2, a3, a4⟩
  rintro j0 E W ⟨c9, m, b3, d3, d4, d5, d6⟩ k
  refine sg (Wh d4 (Wi rfl (ln (CI k rfl (fun f1 k => ?_) (fun f1 k => ?_)))))
  ·refine kT (Wh d3 (Wh b3 (Wh d4 (bS k fun U c6 k => VQ (lY (enc := kO) (i := j0) (x0 := U) bR bU rfl rfl Y (mi c6) (lR c6)) (fun k3 f8 => V (kE rfl (lO m.has f8 dx bU)) (VE (lj (cs := (kO U).toArray) m (mN rfl) (mJ bR bU cX) (fun j6 g9 m => ?_))))))))
   replace m := m.perm (Nr (Qb Qz) Nz)
   refine bS k fun i8 f2 k => VE (mD (enc := kO) (v := y) (vs := (.slice (some ⟨g9, 0, none⟩) 1 1)) (R := x) m nA dc wA bR pW.1 pW.2.1 rfl pW.2.2.1 pW.2.2.2 rfl rfl z (Sl.lit (enc := kO) (l := [U]) nA rfl nb rfl (m.at_ (Ma Mh))) f2 (fun j7 i9 g8 m f0 => Wa (lo (lA (kK ?_)))))
   replace m := m.kD (Kr (Db St))
   exact ⟨d6, i9, i8, g8, _, ⟨rfl, d5⟩, (m.kD St), b3, rfl, f0, (by rw [e4]; exact k)⟩
  exact lG (lA (kK ⟨d6, y, N, x, _, ⟨rfl, d5⟩, (m.kD St), b3, d3, z, (by rw [e4]; exact k)⟩))
 rintro E W ⟨y, N, x, a9, ⟨n, s⟩, m, b1, b2, z, D⟩
 rw [aG] at D
 refine kK (sg (Wh b2 (Wa (lt ?_))))
 obtain rfl := sj D
 exact lQ (v := y) rfl rfl ⟨_, x, rfl, m.mV (fun p hq => (Ml hq)) z.nd, z⟩
theorem RA (f8 : Value) (a0 : List kB) (r : List kF) (w : World) (k8 : Sl (Pl kG) 9 (hp w) f8 a0) (hm : zn a0 = some r) :
  lT true pg0 58 [f8] w 38 kO 3 r := by
 refine tT 53 func58 rfl (fun d => sg (Wa (lr (Wm (bS hm fun r1 m0 hm => VE (qu d call23 (ON f8 a0 _ _ (k8.mono (Pl.mono _) d.kN) m0) (fun W3 v7 ae R8 d n0 ad f3 => Wa (ln (kV ?_)))))))))
 refine kT (Wm (bS hm fun s l0 hm => VE (qu d call64 (Mx v7 r1 _ _ (f3.sl mT (fun b o n => d.at_ (Ml n))) l0) (fun n2 q d7 d1 d m9 ab c8 => Wa (lr (Wa (ln (vG (mP (ou (fun m E W => ∃ c0 b9 b7 d8, ST true lu w W d7 (b7 ++ (d1 ++ (R8 ++ d8))) ∧ E 3 = v7 ∧ E 4 = q ∧ E 5 = c0 ∧ kZ 38 kO 3 c0 b9 b7 ∧ wB s r1 m b9 = some r) lE ⟨(.slice none 0 0), ([]), [], _, (d.kD St), rfl, rfl, rfl, (kZ.nil _ _ _), hm⟩ ?_))))))))))
 rintro m E W ⟨c0, b9, b7, d8, d, e2, i3, i4, k0, Y⟩
 cases m with
 | zero => rw [wB] at Y; cases Y
 | succ k3 =>
  refine bg (Wa (lS (Wh e2 (V (mR aW rfl f3) (Wm (ln (CJ Y (fun b1 E W => ∃ T Z d9, ST true lu w W d7 (Z ++ (d1 ++ (R8 ++ d9))) ∧ E 3 = v7 ∧ E 4 = q ∧ E 5 = T ∧ E 6 = (.bool b1.2) ∧ kZ 38 kO 3 T b1.1 Z) (fun b1 g8 => ?_) ?_)))))))
  ·refine lz (fun i E W => ∃ J Q H U c1, (E 17 = .int .i64 (i : Nat) ∧ E 16 = .int .i64 (r1.length : Nat)) ∧ ST true lu w W d7 (H ++ (d1 ++ (R8 ++ c1))) ∧ E 3 = v7 ∧ E 4 = q ∧ E 5 = J ∧ E 6 = (.bool U) ∧ E 15 = v7 ∧ kZ 38 kO 3 J Q H ∧ ym s (r1.drop i) Q U = some b1) r1.length f3.len ⟨c0, b9, b7, false, _, ⟨rfl, rfl⟩, (d.kD St), e2, i3, i4, rfl, rfl, k0, g8⟩ dc dc dc (fun _ _ _ h => by obtain ⟨_, _, _, _, _, L, _⟩ := h; exact L) ?_ ?_
   ·rintro b0 E W g4 ⟨J, Q, H, U, c1, ⟨A, P⟩, d, c3, a3, c4, c5, c6, b5, u⟩
    obtain ⟨a, l1, h7, d4, h8⟩ := ll g4
    rw [h7] at u
    refine bg (VQ (mF (i := (b0 : Int)) (x0 := a) aW aM c6 A f3 (aD _) d4) (fun m1 h1 => V (kE rfl (oy d.has (fun p n => (Ma (Ma (Ml n)))) f3 mT h1 d4 bM aM)) (VE (lD d cg (fun l4 a2 d => VO (lh (.agg (kG a).toArray) ((kG a).toArray) d rfl rfl aM (nQ a) nb rfl (fun l5 d => lr (Wh a3 (V (mR bJ rfl c8) (Wm (lo ?_)))))))))))
    let b8 : Value := (.int .i64 (r1.length : Int))
    refine kK (vG (CJ u (fun b2 E W => ∃ b3 a1 e0, ST true lu w W d7 (a1 ++ (d1 ++ (R8 ++ e0))) ∧ E 3 = v7 ∧ E 4 = q ∧ E 5 = b3 ∧ E 6 = (.bool b2.2) ∧ E 15 = v7 ∧ E 16 = b8 ∧ E 17 = (.int .i64 (b0 : Int)) ∧ kZ 38 kO 3 b3 b2.1 a1) (fun b2 h0 => ?_) ?_))
    ·refine lz (fun i E W => ∃ k G B K c2, (E 23 = .int .i64 (i : Nat) ∧ E 22 = .int .i64 (s.length : Nat)) ∧ ST true lu w W d7 ((a2, Ol (kG a) 108) :: (B ++ (d1 ++ (R8 ++ c2)))) ∧ E 3 = v7 ∧ E 4 = q ∧ E 5 = k ∧ E 6 = (.bool K) ∧ E 8 = (.pointer (some ⟨a2, 0, none⟩)) ∧ E 15 = v7 ∧ E 16 = b8 ∧ E 17 = (.int .i64 (b0 : Int)) ∧ E 21 = q ∧ kZ 38 kO 3 k G B ∧ wI a s (s.drop i) G K = some b2) s.length c8.len ⟨J, Q, H, U, _, ⟨rfl, rfl⟩, (d.kD St), c3, a3, c4, c5, rfl, c6, P, A, rfl, b5, h0⟩ dc dc dc (fun _ _ _ h => by obtain ⟨_, _, _, _, _, L, _⟩ := h; exact L) ?_ ?_
     ·rintro f4 E W g7 ⟨k, G, B, K, c2, ⟨A, P⟩, d, a4, M, I, a5, N, a6, a7, a8, a9, D, j⟩
      obtain ⟨g, l2, h9, d5, d6⟩ := ll g7
      rw [h9] at j
      refine bg (VQ (mF (i := (f4 : Int)) (x0 := g) bJ dl a9 A c8 (aD _) d5) (fun m2 h2 => V (kE rfl (uU d.has (fun p n => (Mt (Ma (Ml n)))) c8 (fun _ => rfl) h2 d5 (y := (.string g)) rfl aY)) (Wa (lr (Wh I (V (kH oD N) (VA d Mh (kC a.Head) aO aC (Wm (bS j fun m4 h4 j => ?_)))))))))
      refine VE (Eg d call63 (zh k G a.Head g _ _ (D.sl nA (fun b o n => d.at_ (Mt (Ml n)))) h4) (fun l6 d => V (nr rfl) (Wm (LJ j (fun f7 E W => ∃ e1, ST true lu w W d7 ((a2, Ol (kG a) 108) :: (B ++ (d1 ++ (R8 ++ e1)))) ∧ E 3 = v7 ∧ E 4 = q ∧ E 5 = k ∧ E 6 = (.bool K) ∧ E 8 = (.pointer (some ⟨a2, 0, none⟩)) ∧ E 10 = (.string g) ∧ E 15 = v7 ∧ E 16 = b8 ∧ E 17 = (.int .i64 (b0 : Int)) ∧ E 21 = q ∧ E 22 = (.int .i64 (s.length : Int)) ∧ E 23 = (.int .i64 (f4 : Int)) ∧ E 39 = (.bool f7)) 6 ?_ (fun f7 z c9 => ?_)))))
      ·rintro m7 E W ⟨e1, d, e4, e5, e6, j7, c7, j8, e7, e8, e9, f0, f1, f2, j9⟩ x
       refine ln (CI x j9 (fun g2 x => ?_) (fun g2 x => ?_))
       ·refine sg (Wh e6 (V (kH oD c7) (VA d Mh (kC a.Head) aO aC (Wh j8 (V (nm (v := (.agg (kO (⟨a.Head, g⟩ : kF)).toArray)) (pH rfl rfl) (mE cX cA (EH _ cA) kr)) (VE (lj (cs := (kO (⟨a.Head, g⟩ : kF)).toArray) d (mN rfl) (mJ bR bU cX) (fun l7 i2 d => ?_))))))))
        replace d := d.perm (Nr (Qb (Qb Qz)) Nz)
        refine bS x fun k2 g3 x => VE (mD (enc := kO) (v := k) (vs := (.slice (some ⟨i2, 0, none⟩) 1 1)) (R := B) d nA dc wA bR pW.1 pW.2.1 rfl pW.2.2.1 pW.2.2.2 rfl rfl D (Sl.lit (enc := kO) (l := [(⟨a.Head, g⟩ : kF)]) nA rfl nb rfl (d.at_ (Ma Mh))) g3 (fun l8 k5 i1 d g0 => Wa (ln ?_)))
        replace d := d.kD (Kr (Db St))
        exact kT (Wa (lo (lA (kK ⟨f2, k5, k2, i1, true, _, ⟨rfl, f1⟩, (d.kD (Sb (Pr Pz) St)), e4, e5, rfl, rfl, c7, e7, e8, e9, f0, g0, (by rw [d6]; exact x)⟩))))
       exact lG (lA (kK ⟨f2, k, G, B, K, _, ⟨rfl, f1⟩, (d.kD St), e4, e5, e6, j7, c7, e7, e8, e9, f0, D, (by rw [d6]; exact x)⟩))
      refine bC z (fun c z => ?_) (fun c z => ?_)
      ·refine ug c (kM I) (ug c (kE N (kL d.has Mh (kG a) rfl bM aM)) (ug c (kM M) (ug c (kM rfl) (bS z fun m5 h5 z => qy c (Eg d call65 (N9 k G a q s g _ _ (D.sl nA (fun b o n => d.at_ (Mt (Ml n)))) (c8.sl (fun _ => rfl) (fun b o n => d.at_ (Mt (Ma (Ml n))))) h5) (fun l9 d => V (kX (cB c) rfl) ?_))))))
       obtain rfl := sj z
       exact c9 _ _ ⟨_, (d.kD St), a4, M, I, a5, N, rfl, a6, a7, a8, a9, P, A, rfl⟩
      refine un c (un c (un c (un c (un c (V (kW (cB c) rfl) ?_)))))
      obtain rfl := sj z
      exact c9 _ _ ⟨_, (d.kD St), a4, M, I, a5, N, rfl, a6, a7, a8, a9, P, A, rfl⟩
     rintro E W ⟨k, G, B, K, c2, ⟨A, P⟩, d, a4, M, I, a5, N, a6, a7, a8, a9, D, j⟩
     rw [aG] at j
     refine kK ?_
     obtain rfl := sj j
     exact ⟨k, B, _, (d.kD (Db St)), a4, M, I, a5, a6, a7, a8, D⟩
    rintro ⟨k1, k6⟩ E W ⟨b3, a1, e0, d, i8, i9, j0, j3, j4, j5, j6, h6⟩ g9
    exact lA (kK ⟨j6, b3, k1, a1, k6, _, ⟨rfl, j5⟩, (d.kD St), i8, i9, j0, j3, j4, h6, (by rw [h8]; exact g9)⟩)
   rintro E W ⟨J, Q, H, U, c1, ⟨A, P⟩, d, c3, a3, c4, c5, c6, b5, u⟩
   rw [aG] at u
   refine kK ?_
   obtain rfl := sj u
   exact ⟨J, H, _, (d.kD St), c3, a3, c4, c5, b5⟩
  rintro ⟨f5, m6⟩ E W ⟨T, Z, d9, d, i5, i6, e3, i7, d3⟩ t
  refine sg (Wh i7 (V (nr rfl) (ln (CI t rfl (fun g1 t => ?_) (fun g1 t => ?_)))))
  ·refine sg (Wh e3 (bS t fun m3 h3 t => VE (qu d call126 (Ld T f5 _ _ (d3.sl nA (fun b o n => d.at_ (Ml n))) h3) (fun l3 k4 m8 i0 d k9 aa d2 => Wa (ln ?_)))))
   replace d := d.kD (Kr (Dr (Dr (Dr St))))
   refine lx (mu (lm (mu (lm ?_))))
   obtain rfl := sj t
   exact lQ (v := k4) rfl rfl ⟨_, i0, rfl, d.mV (fun p n => (Ml n)) d2.nd, d2⟩
  exact lG (lA (kK ⟨k3, bT _, T, f5, Z, _, (d.kD St), i5, i6, e3, d3, t⟩))
theorem Md (D : Value) (G : List kF) (I : ByteArray) (r : List kA) (w : World) (B : Sl (Pl kO) 3 (hp w) D G) (hm : xW G I = some r) :
  lT true pg0 106 [D, (.string I)] w 28 kC 2 r := by
 refine tT 25 func106 rfl (fun d => sg (Wa (lr (Wa (lS (Wm ?_))))))
 refine V (lJ bR rfl B) (Wm (ln (lz (fun i E W => ∃ k y g z, (E 10 = .int .i64 (i : Nat) ∧ E 9 = .int .i64 (G.length : Nat)) ∧ ST true lu w W (hp w) (g ++ z) ∧ E 1 = (.string I) ∧ E 5 = k ∧ E 8 = D ∧ kZ 28 kC 2 k y g ∧ rL I (G.drop i) y = some r) G.length B.len ⟨(.slice none 0 0), ([]), [], _, ⟨rfl, rfl⟩, (d.kD St), rfl, rfl, rfl, (kZ.nil _ _ _), hm⟩ dc dc dc (fun _ _ _ h => by obtain ⟨_, _, _, _, n, _⟩ := h; exact n) ?_ ?_)))
 ·rintro a4 E W U ⟨k, y, g, z, ⟨m, o⟩, d, t, u, x, j, a⟩
  obtain ⟨c, b1, Z, Y, H⟩ := ll U
  rw [Z] at a
  refine bg (VQ (lY (enc := kO) (i := (a4 : Int)) (x0 := c) bR bU x m B (aD _) Y) (fun P N => V (kE rfl (lO d.has N dx bU)) (VE (lD d cX (fun a5 a9 d => VO (lh (.agg (kO c).toArray) ((kO c).toArray) d rfl rfl bU (wA c) nb rfl (fun s d => lr (Wf sP (VB d Mh rfl rfl aY (Wh t (V (se rfl rfl rfl) ?_)))))))))))
  refine ln (CI a rfl (fun K a => ?_) (fun K a => ?_))
  ·refine kT (Wh u (Wf wS (VA d Mh (kC c.kA) aO aC (VE (lj (cs := (kC c.kA).toArray) d (mN rfl) (mJ aF aC bQ) (fun A T d => ?_))))))
   replace d := d.perm (Nr (Qb (Qb Qz)) Nz)
   refine bS a fun a2 M a => VE (mD (enc := kC) (v := k) (vs := (.slice (some ⟨T, 0, none⟩) 1 1)) (R := g) d my dc mH aF mw.1 mw.2.1 rfl mw.2.2.1 mw.2.2.2 rfl rfl j (Sl.lit (enc := kC) (l := [c.kA]) my rfl nb rfl (d.at_ (Ma Mh))) M (fun L a3 Q d J => Wa (lo (lA (kK ?_)))))
   replace d := d.kD (Kr (Db (Db St)))
   exact ⟨m, a3, a2, Q, _, ⟨rfl, o⟩, (d.kD St), t, rfl, x, J, (by rw [H]; exact a)⟩
  refine lG (lA (kK ?_))
  replace d := d.kD (Db St)
  exact ⟨m, k, y, g, _, ⟨rfl, o⟩, (d.kD St), t, u, x, j, (by rw [H]; exact a)⟩
 rintro E W ⟨k, y, g, z, ⟨m, o⟩, d, t, u, x, j, a⟩
 rw [aG] at a
 refine kK (sg (Wh u (Wa (lt ?_))))
 obtain rfl := sj a
 exact lQ (v := k) rfl rfl ⟨_, g, rfl, d.mV (fun p q => (Ml q)) j.nd, j⟩
theorem Mg (c : ur) (a g j y k x : Value) (r : List kA) (w : World) (t : Sl oR 15 (hp w) a c.mg.mY) (u : Sl ve 8 (hp w) g c.mg.oX) (i : Sl (Pl kG) 9 (hp w) j c.lL) (D : Sl (Pl kG) 9 (hp w) y c.Shown) (z : Sl (Pl kC) 2 (hp w) k c.mG) (B : Sl (Pl kC) 2 (hp w) x c.sI) (hm : Aq c = some r) :
  lT true pg0 45 [(.agg #[(.string c.mg.Name), a, g, (.string c.od), (.int .i64 c.Room), j, y, k, x])] w 28 kC 2 r := by
 refine tT 9 func45 rfl (fun d => sg ?_)
 obtain ⟨A1, c2, rfl⟩ := t.form
 obtain ⟨A3, c4, rfl⟩ := u.form
 obtain ⟨Q, Z, rfl⟩ := i.form
 obtain ⟨A7, c8, rfl⟩ := D.form
 obtain ⟨A9, U, rfl⟩ := z.form
 obtain ⟨N, Y, rfl⟩ := B.form
 refine VE (lF d rfl (fun L W d => Wa (ln (kV ?_))))
 replace d := d.drew
 have h := d.has.kD (Kb Sn)
 refine lN h lB (X 0 rfl h (kH Dw rfl) (XH 1 rfl h (fun _ m => kE rfl (kR m Mh rfl gZ)) (X 3 rfl h (kH G9 rfl) (XH 4 rfl h (fun _ m => kE rfl (kR m Mh rfl aY)) (bS hm fun A K hm => XE 2 rfl (qu d call58 (RA (.slice Q c.lL.length Z) c.lL _ _ (i.mono (Pl.mono _) d.kN) K) (fun P a2 b7 E d G q J => ?_)))))))
 have h := d.has.sL G (Dr (Kb Sn))
 refine ⟨h, (bS hm fun b6 M hm => XE 5 rfl (qu d call106 (Md a2 A c.od _ _ (J.sl nA (fun b o n => d.at_ (Ml n))) M) (fun R a3 b9 T d I s H => ?_)))⟩
 have h := d.has.sL (G.trans I) (Dr (Dr (Kb Sn)))
 refine ⟨h, (X 6 rfl h (nH rfl) (me kr (kK ?_)))⟩
 replace d := d.kD (Kr (Dr (Db St)))
 refine lx ?_
 obtain rfl := sj hm
 exact lQ (v := a3) rfl rfl ⟨_, T, rfl, d.mV (fun p n => (Ml n)) H.nd, H⟩
theorem Iy (k : Value) (u : List kA) (g : kA) (r : Bool) (w : World) (j : Sl (Pl kC) 2 (hp w) k u) (hm : zY u g = some r) :
  lg true pg0 105 [k, (.agg (kC g).toArray)] w (.bool r) := by
 refine cG 17 func105 rfl (fun d => sg (VE (lF d rfl (fun Y J d => Wa (lS (Wm (V (lJ aF rfl j) (Wm (ln ?_)))))))))
 refine lz (fun i E W => ∃ t, (E 9 = .int .i64 (i : Nat) ∧ E 8 = .int .i64 (u.length : Nat)) ∧ ST true lu w W (hp w) ((J, Ol (kC g) 28) :: t) ∧ E 3 = (.pointer (some ⟨J, 0, none⟩)) ∧ E 7 = k ∧ zq g (u.drop i) = some r) u.length j.len ⟨_, ⟨rfl, rfl⟩, (d.kD St), rfl, rfl, hm⟩ dc dc dc (fun _ _ _ h => by obtain ⟨_, n, _⟩ := h; exact n) ?_ ?_
 ·rintro K E W B ⟨t, ⟨m, o⟩, d, x, y, a⟩
  obtain ⟨c, M, H, G, I⟩ := ll B
  rw [H] at a
  refine bg (VQ (lY (enc := kC) (i := (K : Int)) (x0 := c) aF aC y m j (aD _) G) (fun U D => V (kE rfl (lO d.has D aO aC)) (VE (lD d bQ (fun N T d => VO (lh (.agg (kC c).toArray) ((kC c).toArray) d rfl rfl aC (mH c) nb rfl (fun Q d => lr (VA d Mh (kC c) aO aC (V (kE x (kL d.has (Mt Mh) (kC g) rfl aO aC)) (V (vt rfl rfl (ns cY) (qH (ob _ c g))) (lo ?_)))))))))))
  refine kK ?_
  replace d := d.kD (Db St)
  refine CI a rfl (fun z a => ?_) (fun z a => ?_)
  ·refine sg (Wa (ln ?_))
   replace d := d.kD (Db St)
   refine lx (mu (lm (mu (lm ?_))))
   obtain rfl := sj a
   exact rP d
  exact lG (lA (kK ⟨m, _, ⟨rfl, o⟩, (d.kD St), x, y, (by rw [I]; exact a)⟩))
 rintro E W ⟨t, ⟨m, o⟩, d, x, y, a⟩
 rw [aG] at a
 refine kK ?_
 replace d := d.kD (Db St)
 exact sg (Wa (lt (rQ a d)))
theorem Io (N : Formula → (List kA) → Option Bool) (a5 : ∀ (g : Formula) (k : Value) (t : Value) (H : List kA) (r : Bool) (w : World) (c : Sl la 5 (hp w) k g.Kids) (J : Sl (Pl kC) 2 (hp w) t H), N g H = some r → lg false pg0 44 [(.agg #[(.int .i64 g.Op), (.int .i64 g.K), (.string g.kA.kI), (.string g.kA.kU), k]), t] w (.bool r)) (g : Formula) (k t : Value) (H : List kA) (r : Bool) (w : World) (c : Sl la 5 (hp w) k g.Kids) (J : Sl (Pl kC) 2 (hp w) t H) (hm : zV N g H = some r) :
  lg false pg0 44 [(.agg #[(.int .i64 g.Op), (.int .i64 g.K), (.string g.kA.kI), (.string g.kA.kU), k]), t] w (.bool r) := by
 refine cG 45 func44 rfl (fun d => sg ?_)
 obtain ⟨A1, c2, rfl⟩ := c.form
 refine VE (lF d rfl (fun W4 q d => Wa (lS (Wf wY (VB d Mh rfl rfl cH (Wi rfl (ln (CI hm rfl (fun a9 hm => ?_) (fun a9 hm => ?_)))))))))
 ·refine sg (Wm (Wf yM (VA d Mh (kC g.kA) aO aC (bS hm fun r6 A hm => VE (Eg d call105 (lg.mz (Iy t H g.kA _ _ (J.mono (Pl.mono _) d.kN) A)) (fun W8 d => Wa (ln ?_)))))))
  replace d := d.kD (Db St)
  refine lx (lm ?_)
  obtain rfl := sj hm
  exact rP d
 refine kg (Wa (lS (Wf ux (VB d Mh rfl rfl fe (V (lJ bZ rfl c) (Wm (lo ?_)))))))
 refine kK (lz (fun i E W => ∃ y I, (E 18 = .int .i64 (i : Nat) ∧ E 17 = .int .i64 (g.Kids.length : Nat)) ∧ ST false lu w W (hp w) ((q, Ol (C1 g.Op g.K g.kA.kI g.kA.kU A1 g.Kids.length c2) 57) :: I) ∧ E 1 = t ∧ E 2 = (.pointer (some ⟨q, 0, none⟩)) ∧ E 5 = (.int .i64 y) ∧ E 16 = (.slice A1 g.Kids.length c2) ∧ sO N H g (g.Kids.drop i) y = some r) g.Kids.length c.len ⟨0, _, ⟨rfl, rfl⟩, (d.kD St), rfl, rfl, rfl, rfl, hm⟩ dc dc dc (fun _ _ _ h => by obtain ⟨_, _, n, _⟩ := h; exact n) ?_ ?_)
 ·rintro L E W a4 ⟨y, I, ⟨m, o⟩, d, D, u, x, G, a⟩
  obtain ⟨j, c1, v, s, M⟩ := ll a4
  rw [v] at a
  refine bg (VQ (sE (i := (L : Int)) (x0 := j) la.out bZ aZ G m c (aD _) s) (fun b7 ⟨_, ⟨c0, rfl, K⟩, Y⟩ => V (kE rfl (lO d.has Y cx aZ)) (VE (lD d dp (fun P b6 d => ?_)))))
  obtain ⟨z, B, rfl⟩ := K.form
  let a0 := (C1 j.Op j.K j.kA.kI j.kA.kU z j.Kids.length B)
  refine VO (lh (.agg a0.toArray) (a0.toArray) d rfl rfl aZ oc nb rfl (fun R d => lr (VA d Mh a0 cx aZ (Wh D (bS a fun b9 Z a => VE (Eg d call44 (a5 j (.slice z j.Kids.length B) t H _ _ (K.mono lZ.mono d.kN) (J.mono (Pl.mono _) d.kN) Z) (fun b5 d => ln ?_)))))))
  replace d := d.kD (Db St)
  refine CI a rfl (fun Q a => ?_) (fun Q a => ?_)
  ·exact kT (Wh x (Wi rfl (Wa (lo (lA (kK ⟨m, (wi0 .i64 (y + 1)), _, ⟨rfl, o⟩, (d.kD St), D, u, rfl, G, (by rw [M]; exact a)⟩))))))
  exact lG (lA (kK ⟨m, y, _, ⟨rfl, o⟩, (d.kD St), D, u, x, G, (by rw [M]; exact a)⟩))
 rintro E W ⟨y, I, ⟨m, o⟩, d, D, u, x, G, a⟩
 rw [aG] at a
 refine kK (kV (sg (V (kH wY u) (VB d Mh rfl rfl cH (Wi rfl (ln (CI a rfl (fun T a => ?_) (fun T a => ?_))))))))
 ·refine sg (Wh x (V (kH ux u) (VB d Mh rfl rfl fe (V (lJ bZ rfl c) (Wi rfl (Wa (ln ?_)))))))
  replace d := d.kD (Db St)
  refine lx (lm ?_)
  obtain rfl := sj a
  exact rP d
 refine kS (V (kH wY u) (VB d Mh rfl rfl cH (Wi rfl (ln (CI a rfl (fun U a => ?_) (fun U a => ?_))))))
 ·refine sg (Wh x (Wi rfl (Wa (ln ?_))))
  replace d := d.kD (Db St)
  refine lx (lm ?_)
  obtain rfl := sj a
  exact rP d
 refine kg (Wh x (V (kH Ad u) (VB d Mh rfl rfl cH (Wi rfl (Wa (ln ?_))))))
 exact lx (rQ a d)
theorem DO : ∀ (n : Nat) (c : Formula) (a : Value) (g : Value) (j : List kA) (r : Bool) (w : World) (i : Sl la 5 (hp w) a c.Kids) (k : Sl (Pl kC) 2 (hp w) g j) (_ : rf n c j = some r),
  lg false pg0 44 [(.agg #[(.int .i64 c.Op), (.int .i64 c.K), (.string c.kA.kI), (.string c.kA.kU), a]), g] w (.bool r)
 | 0 => by intros; rename_i h; simp only [rf] at h; cases h
 | n + 1 => Io (rf n) (DO n)
theorem KK (k : Value) (u : List kA) (g : Value) (z : List kA) (r : Bool) (w : World) (j : Sl (Pl kC) 2 (hp w) k u) (B : Sl (Pl kC) 2 (hp w) g z) (hm : BM u z = some r) :
  lg true pg0 81 [k, g] w (.bool r) := by
 refine cG 18 func81 rfl (fun d => sg (Wa (lS (Wm (V (lJ aF rfl j) (Wm (ln (lz (fun i E W => ∃ t, (E 9 = .int .i64 (i : Nat) ∧ E 8 = .int .i64 (u.length : Nat)) ∧ ST true lu w W (hp w) t ∧ E 1 = g ∧ E 7 = k ∧ vi z (u.drop i) = some r) u.length j.len ⟨_, ⟨rfl, rfl⟩, (d.kD St), rfl, rfl, hm⟩ dc dc dc (fun _ _ _ h => by obtain ⟨_, n, _⟩ := h; exact n) ?_ ?_))))))))
 ·rintro N E W G ⟨t, ⟨m, o⟩, d, x, y, a⟩
  obtain ⟨c, Q, K, J, M⟩ := ll G
  rw [K] at a
  refine bg (VQ (lY (enc := kC) (i := (N : Int)) (x0 := c) aF aC y m j (aD _) J) (fun a2 H => V (kE rfl (lO d.has H aO aC)) (VE (lD d bQ (fun T Z d => VO (lh (.agg (kC c).toArray) ((kC c).toArray) d rfl rfl aC (mH c) nb rfl (fun U d => lr (Wh x (VA d Mh (kC c) aO aC (bS a fun a3 I a => VE (Eg d call105 (Iy g z c _ _ (B.mono (Pl.mono _) d.kN) I) (fun Y d => ?_))))))))))))
  refine V (nr rfl) (ln ?_)
  replace d := d.kD (Db St)
  refine CI a rfl (fun D a => ?_) (fun D a => ?_)
  ·refine sg (Wa (lt (mu (lm (mu (lm ?_))))))
   obtain rfl := sj a
   exact rP d
  exact lG (lA (kK ⟨m, _, ⟨rfl, o⟩, (d.kD St), x, y, (by rw [M]; exact a)⟩))
 rintro E W ⟨t, ⟨m, o⟩, d, x, y, a⟩
 rw [aG] at a
 exact kK (sg (Wa (lt (rQ a d))))
theorem MU (y : Value) (H : List kA) (z : Value) (o : List kA) (r : Bool) (w : World) (c : Sl (Pl kC) 2 (hp w) y H) (k : Sl (Pl kC) 2 (hp w) z o) (hm : A8 H o = some r) :
  lg true pg0 170 [y, z] w (.bool r) := by
 refine cG 40 func170 rfl (fun m => sg (Wa (lS (Wm (V (lJ aF rfl c) (Wm (V (lJ aF rfl k) (Wi rfl (lo ?_)))))))))
 refine kK (CI hm rfl (fun a5 hm => ?_) (fun a5 hm => ?_))
 ·refine sg (Wm (V (lJ aF rfl c) (Wm (V (lJ aF rfl k) (Wi rfl (Wa (lt (lm ?_))))))))
  obtain rfl := sj hm
  exact rP m
 refine kS (Wm (V (lJ aF rfl c) (Wm (ln (lz (fun i E W => ∃ x, (E 18 = .int .i64 (i : Nat) ∧ E 17 = .int .i64 (H.length : Nat)) ∧ ST true lu w W (hp w) x ∧ E 0 = y ∧ E 1 = z ∧ wT o (H.drop i) i = some r) H.length c.len ⟨_, ⟨rfl, rfl⟩, (m.kD St), rfl, rfl, hm⟩ dc dc dc (fun _ _ _ h => by obtain ⟨_, s, _⟩ := h; exact s) ?_ ?_)))))
 ·rintro t E W M ⟨x, ⟨q, v⟩, m, g, j, a⟩
  obtain ⟨u, A, Z, B, a2⟩ := ll M
  rw [Z] at a
  refine bg (Wh q (Wa (ln (kV ?_))))
  replace m := m.drew
  have d := m.has.kD Sn
  refine lN d lB (X 0 rfl d (kM g) (X 1 rfl d (kM rfl) (XQ 2 rfl d (lY (enc := kC) (i := (t : Int)) (x0 := u) aF aC rfl rfl c (aD _) B) (fun P N => XH 3 rfl d (fun _ n => kE rfl (lO n N aO aC)) (X 4 rfl d (kM j) (X 5 rfl d (kM rfl) (bS a fun I D a => XQ 6 rfl d (lY (enc := kC) (i := (t : Int)) (x0 := I) aF aC rfl rfl k (mi D) (lR D)) (fun a9 Q => XH 7 rfl d (fun _ n => kE rfl (lO n Q aO aC)) (X 8 rfl d (Gp rfl rfl (ns cY) (BD (ob _ u I))) (me kr (kK (CI a rfl (fun K a => ?_) (fun K a => ?_)))))))))))))
  ·refine kV ?_
   replace m := m.drew
   have d := m.has.kD Sn
   refine lN d lB (X 0 rfl d (kM g) (X 1 rfl d (kM rfl) (XQ 2 rfl d (lY (enc := kC) (i := (t : Int)) (x0 := u) aF aC rfl rfl c (aD _) B) (fun R T => XH 3 rfl d (fun _ n => kE rfl (lO n T aO aC)) (X 4 rfl d (kM j) (X 5 rfl d (kM rfl) (bS a fun J G a => XQ 6 rfl d (lY (enc := kC) (i := (t : Int)) (x0 := J) aF aC rfl rfl k (mi G) (lR G)) (fun b1 U => XH 7 rfl d (fun _ n => kE rfl (lO n U aO aC)) (bS a fun b2 Y a => XE 8 rfl (Eg m call107 (xz u J _ _  Y) (fun L m => ?_)))))))))))
   have d := m.has.kD Sn
   refine ⟨d, (X 9 rfl d (nH rfl) (me kr (kK (lx (mu (lm (mu (lm ?_))))))))⟩
   obtain rfl := sj a
   exact rP m
  exact lG (lA (kK ⟨q, _, ⟨rfl, v⟩, (m.kD St), g, j, (by rw [a2]; exact a)⟩))
 rintro E W ⟨x, ⟨q, v⟩, m, g, j, a⟩
 rw [aG] at a
 exact kK (sg (Wa (lt (rQ a m))))
theorem KW (Q : Value) (a0 r : List (List kA)) (w : World) {μ0 : lq} (h0 : pY μ0 [] w) (R : Sl (vQ kC 2) 1 μ0 Q a0) (hm : zm a0 = some r) :
  pK true pg0 108 [Q] w μ0 [] (fun v L1 μ1 => ∃ y1, v = y1 ∧ L1 = [] ∧ Sl (vQ kC 2) 1 μ1 y1 (r)) := by
 refine RY h0 45 func108 rfl (fun d => sg (Wa (lr (Wa (lS (Wm ?_))))))
 refine V (lJ cE rfl R) (Wm (ln (lz (fun i E W => ∃ j H z t a3, (E 10 = .int .i64 (i : Nat) ∧ E 9 = .int .i64 (a0.length : Nat)) ∧ lb μ0 t ∧ Lo (keys []) w μ0 t ∧ ST true (keys []) w W t (z ++ a3) ∧ E 3 = j ∧ E 8 = Q ∧ nn 34 (vQ kC 2) 1 t j H z ∧ sV (a0.drop i) H = some r) a0.length R.len ⟨(.slice none 0 0), ([]), [], μ0, _, ⟨rfl, rfl⟩, (lb.refl _), Lo.refl, (d.kD St), rfl, rfl, (nn.nil _ _ _ _), hm⟩ dc dc dc (fun _ _ _ h => by obtain ⟨_, _, _, _, _, aa, _⟩ := h; exact aa) ?_ ?_)))
 ·rintro Y E W e0 ⟨j, H, z, t, a3, ⟨eI, eN⟩, G, n, d, T, a4, x, u⟩
  obtain ⟨k, h1, f1, f0, f2⟩ := ll e0
  rw [f1] at u
  refine bg (VQ (F6 (enc := kC) (k2 := 2) (i := (Y : Int)) (x0 := k) cE ek a4 eI (R.mono (vQ.mono _ _) G) (aD _) f0) (fun i2 ⟨N, e2, Z⟩ => V (kE rfl (nh d.has (y := N) e2 ew)) (Wa (lr (Wh T (V (Ci cE rfl x) (Wa (ln ?_))))))))
  let b8 : Value := (.int .i64 (Y : Int))
  let P : Value := (.int .i64 (a0.length : Int))
  refine kV (CJ u (fun L E W => ∃ b3, ST true (keys []) w W t (z ++ b3) ∧ E 3 = j ∧ E 5 = N ∧ E 6 = (.int .i64 L) ∧ E 8 = Q ∧ E 9 = P ∧ E 10 = b8) (fun L e1 => ?_) ?_)
  ·refine mP (ou (fun m E W => ∃ I b4, ST true (keys []) w W t (z ++ b4) ∧ E 3 = j ∧ E 5 = N ∧ E 6 = (.int .i64 I) ∧ E 8 = Q ∧ E 9 = P ∧ E 10 = b8 ∧ qP H k m I = some L) lE ⟨(H.length : Int), _, (d.kD St), T, rfl, rfl, a4, eN, eI, e1⟩ ?_)
   rintro m E W ⟨I, b4, d, a5, A, U, b9, c0, c1, M⟩
   cases m with
   | zero => rw [qP] at M; cases M
   | succ g3 =>
    refine kV (sg (Wh U (Wi rfl (Wm (LJ M (fun c8 E W => ∃ b5, ST true (keys []) w W t (z ++ b5) ∧ E 3 = j ∧ E 5 = N ∧ E 6 = (.int .i64 I) ∧ E 8 = Q ∧ E 9 = P ∧ E 10 = b8 ∧ E 26 = (.bool c8)) 8 ?_ (fun c8 g a2 => ?_))))))
    ·rintro i9 E W ⟨b5, d, c2, c3, c4, c5, c6, c7, g1⟩ D
     refine ln (CI D g1 (fun d9 D => ?_) (fun d9 D => ?_))
     ·exact kn (mP (kT (Wh c4 (Wi rfl (Wa (lo (lA (kK ⟨g3, bT _, (wi0 .i64 (I - 1)), _, (d.kD St), c2, c3, rfl, c5, c6, c7, D⟩))))))))
     refine ot (nT (nT (uj (kK ?_))))
     obtain rfl := sj D
     exact ⟨_, (d.kD St), c2, c3, c4, c5, c6, c7⟩
    refine bC g (fun a g => ?_) (fun a g => ?_)
    ·refine ug a (kM A) (ug a (kM a5) (ug a (kM U) (ug a (lK rfl rfl rfl) (bS g fun g7 b1 g => UQ a (E9 (i := (wi0 .i64 (I - 1))) id cE ek rfl rfl x (mi b1) (lR b1)) (fun i3 ⟨_, ⟨c9, rfl, e8⟩, e3, g9⟩ => ug a (kE rfl (nh (rY.hp _) (y := c9) (e3.mono (wW (fun b o hq => d.has.2 b o (Ml hq)))) ew)) (bS g fun i4 e4 g => qy a (Eg d call170 (MU N k c9 g7 _ _ (Z.mono (Pl.mono _) d.kN) (e8.mono (Pl.mono _) d.kN) e4) (fun h8 d => V (kX (cB a) rfl) ?_))))))))
     obtain rfl := sj g
     exact a2 _ _ ⟨_, (d.kD St), a5, A, U, b9, c0, c1, rfl⟩
    refine un a (un a (un a (un a (un a (un a (un a (V (kW (cB a) rfl) ?_)))))))
    obtain rfl := sj g
    exact a2 _ _ ⟨_, (d.kD St), a5, A, U, b9, c0, c1, rfl⟩
  rintro d0 E W ⟨b3, d, b6, f7, b7, f8, f9, g0⟩ c
  refine sg (VE (lj (cs := #[]) d vj (zK [] cE ek iK dc rfl (by simp) rfl rfl) (fun h3 f6 d => Wh b6 (Wh b7 (bS c fun _ a9 c => VQ (QJ (i := d0) cE ek rfl rfl x (qW a9) (qR a9)) (fun i5 e5 => bS c fun i0 d6 c => VE (AU (B := [(f6, Ob #[] 34)]) vS d dc cE pU.1 pU.2.1 rfl pU.2.2.1 pU.2.2.2 rfl rfl (nn.lit vS (l := []) .nil rfl nb rfl) (FE.row e5 d (fun p hq => (Mt (Ml hq)))) d6 (fun h4 i6 f3 d d3 => Wa (lr (Wm ?_))))))))))
  refine Wh f7 ?_
  obtain ⟨J, K, rfl⟩ := Z.form
  refine VE (lj (cs := #[(.slice J k.length K)]) d (mN rfl) (mJ cE ek iK) (fun h5 h9 d => ?_))
  replace d := d.perm (Nr (Qb Qz) Nz)
  refine bS c fun i1 d7 c => VE (AU (B := f3) vS d dc cE pU.1 pU.2.1 rfl pU.2.2.1 pU.2.2.2 rfl rfl d3 (FE.lit vS (l := [k]) (.cons (ys := [(.slice J k.length K)]) ⟨(.slice J k.length K), rfl, Z⟩ .nil) rfl nb (d.at_ (Ma Mh))) d7 (fun h6 i7 f4 d d4 => Wa (ln ?_)))
  replace d := d.kD (Kr (Db St))
  refine kT (Wm (Wh b6 (Wh b7 ?_)))
  replace d := d.perm (Nr (Qr Qz) Nz)
  obtain ⟨g8, d, a1, q, e7⟩ := ST.QQ vS d x
  exact bS c fun _ b0 c => VQ (BY (i := d0) cE ek rfl rfl e7 (qW b0) (qR b0)) (fun i8 e6 => bS c fun g2 d8 c => VE (AU (B := f4) vS d dc cE pU.1 pU.2.1 rfl pU.2.2.1 pU.2.2.2 rfl rfl (d4.mono vS a1) (FE.sl vS e6.1 d.kN) d8 (fun h7 g4 f5 d d5 => Wa (lo (lA (kK ⟨g0, g4, g2, f5, g8, _, ⟨rfl, f9⟩, (G.trans a1), (n.trans q), (d.kD St), rfl, f8, d5, (by rw [f2]; exact c)⟩))))))
 rintro E W ⟨j, H, z, t, a3, ⟨eI, eN⟩, G, n, d, T, a4, x, u⟩
 rw [aG] at u
 refine kK (sg (Wh T (Wa (lt ?_))))
 obtain rfl := sj u
 refine lQ (v := j) rfl rfl ?_
 obtain ⟨j0, d, d1, s, e9⟩ := ST.QQ vS d x
 exact ⟨_, _, _, rfl, (d.mQ Sn), (G.trans d1), (n.trans s), (ST.ma d (ny.mem Sn)), j, rfl, rfl, e9⟩
set_option maxHeartbeats 4000000 in
theorem LY (a : Formula) (j0 : Value) (r : List (List kA)) (w : World) {μ0 : lq} (h0 : pY μ0 [] w) (d2 : Sl la 5 μ0 j0 a.Kids) (hm : Aw a = some r) :
  pK false pg0 46 [(.agg #[(.int .i64 a.Op), (.int .i64 a.K), (.string a.kA.kI), (.string a.kA.kU), j0])] w μ0 [] (fun v L1 μ1 => ∃ y1, v = y1 ∧ L1 = [] ∧ Sl (vQ kC 2) 1 μ1 y1 (r)) := by
 refine RY h0 80 func46 rfl (fun d => sg ?_)
 obtain ⟨A1, c2, rfl⟩ := d2.form
 let b8 := (C1 a.Op a.K a.kA.kI a.kA.kU A1 a.Kids.length c2)
 refine VE (lF d rfl (fun W4 P d => Wa (lr (VA d Mh b8 cx aZ (bS hm fun r5 bi hm => VE (qu d call30 (Gw a (.slice A1 a.Kids.length c2) _ _ (d2.mono lZ.mono d.kN) bi) (fun W7 c1 dk d9 d y0 ds m0 => Wa (lr (VE (lj (cs := #[(.slice none 0 0)]) d (mN rfl) (mJ cE ek iK) (fun ck z6 d => ?_)))))))))))
 let b4 : Value := (.pointer (some ⟨P, 0, none⟩))
 refine Wa (lr (Wa (ln (kV ?_))))
 replace d := d.HM
 refine mP (ou (fun m E W => ∃ K x H d5 d3 e5 Q m1, lb dk Q ∧ Lo (keys []) w dk Q ∧ ST false (keys []) w W Q ((P, Ol b8 57) :: (e5 ++ (H ++ (d9 ++ m1)))) ∧ E 1 = b4 ∧ E 3 = c1 ∧ E 4 = K ∧ E 5 = d5 ∧ nn 34 (vQ kC 2) 1 Q K x H ∧ nn 34 (vQ kC 2) 1 Q d5 d3 e5 ∧ tw a r5 m x d3 = some r) lE ⟨(.slice (some ⟨z6, 0, none⟩) 1 1), ([[]]), [(z6, Ob #[(.slice none 0 0)] 34)], (.slice none 0 0), ([]), [], dk, _, (lb.refl _), Lo.refl, (d.kD (Sb (Pr (Pr Pz)) St)), rfl, rfl, rfl, rfl, (nn.lit vS (l := [[]]) (.cons (ys := [(.slice none 0 0)]) ⟨(.slice none 0 0), rfl, (Sl.nil _ _ _)⟩ .nil) rfl nb rfl), (nn.nil _ _ _ _), hm⟩ ?_)
 let a0 := (b8.toArray : Array Value)
 rintro m E W ⟨K, x, H, d5, d3, e5, Q, m1, e2, A, d, t8, t9, n2, n3, d7, l6, D⟩
 cases m with
 | zero => rw [tw] at D; cases D
 | succ y7 =>
  refine kV (sg (Wh n2 (V (Ci cE rfl d7) (Wi rfl (ln (CI D rfl (fun p0 D => ?_) (fun p0 D => ?_)))))))
  ·refine kn (bg (Wa (lS (Wh n2 (V (Ci cE rfl d7) (Wm (lo ?_)))))))
   refine kK (CJ D (fun i2 E W => ∃ i3 e6 i4 e7 b2 m2, lb Q b2 ∧ Lo (keys []) w Q b2 ∧ ST false (keys []) w W b2 ((P, Obj.cells a0 57 (0, 0)) :: (e7 ++ (e6 ++ (d9 ++ m2)))) ∧ E 1 = b4 ∧ E 3 = c1 ∧ E 5 = i3 ∧ E 6 = i4 ∧ nn 34 (vQ kC 2) 1 b2 i3 i2.1 e6 ∧ nn 34 (vQ kC 2) 1 b2 i4 i2.2 e7) (fun i2 q4 => ?_) ?_)
   ·refine lz (fun i E W => ∃ k Z u M b1 I j j3, (E 22 = .int .i64 (i : Nat) ∧ E 21 = .int .i64 (x.length : Nat)) ∧ lb Q j ∧ Lo (keys []) w Q j ∧ ST false (keys []) w W j ((P, Obj.cells a0 57 (0, 0)) :: (I ++ (u ++ (H ++ (d9 ++ j3))))) ∧ E 1 = b4 ∧ E 3 = c1 ∧ E 5 = k ∧ E 6 = M ∧ E 20 = K ∧ nn 34 (vQ kC 2) 1 j k Z u ∧ nn 34 (vQ kC 2) 1 j M b1 I ∧ qf a r5 (x.drop i) Z b1 = some i2) x.length d7.len ⟨d5, d3, e5, (.slice none 0 0), ([]), [], Q, _, ⟨rfl, rfl⟩, (lb.refl _), Lo.refl, (d.kD St), t8, t9, n3, rfl, rfl, l6, (nn.nil _ _ _ _), q4⟩ dc dc dc (fun _ _ _ h => by obtain ⟨_, _, _, _, _, _, _, _, aE, _⟩ := h; exact aE) ?_ ?_
    ·rintro b0 E W q0 ⟨k, Z, u, M, b1, I, j, j3, ⟨L, eN⟩, a2, q, d, j8, j9, f1, k0, k1, a3, b9, a6⟩
     obtain ⟨N, ab, s7, s6, i9⟩ := ll q0
     rw [s7] at a6
     refine bg (VQ (E9 (i := (b0 : Int)) id cE ek k1 L (d7.mono vS a2) (aD _) s6) (fun bp ⟨_, ⟨z, rfl, G⟩, q9, z9⟩ => V (kE rfl (nh (rY.hp _) (y := z) (q9.mono (wW (fun b o hq => d.has.2 b o (Mt (Ma (Ma (Ml hq))))))) ew)) (Wa (lr (Wa (ln (kV (kV ?_))))))))
     let e1 : Value := (.int .i64 (b0 : Int))
     let e0 : Value := (.int .i64 (x.length : Int))
     refine kT (Wh f1 (V (Ci cE rfl a3) (Wm (ln (CJ a6 (fun l4 E W => ∃ m3, ST false (keys []) w W j ((P, Obj.cells a0 57 (0, 0)) :: (I ++ (u ++ (H ++ (d9 ++ m3))))) ∧ E 1 = b4 ∧ E 3 = c1 ∧ E 5 = k ∧ E 6 = M ∧ E 8 = z ∧ E 9 = (.bool l4) ∧ E 20 = K ∧ E 21 = e0 ∧ E 22 = e1) (fun l4 q7 => ?_) ?_)))))
     ·refine lz (fun i E W => ∃ d6 j5, (E 28 = .int .i64 (i : Nat) ∧ E 27 = .int .i64 (Z.length : Nat)) ∧ ST false (keys []) w W j ((P, Obj.cells a0 57 (0, 0)) :: (I ++ (u ++ (H ++ (d9 ++ j5))))) ∧ E 1 = b4 ∧ E 3 = c1 ∧ E 5 = k ∧ E 6 = M ∧ E 8 = z ∧ E 9 = (.bool d6) ∧ E 20 = K ∧ E 21 = e0 ∧ E 22 = e1 ∧ E 26 = k ∧ tP N (Z.drop i) d6 = some l4) Z.length a3.len ⟨false, _, ⟨rfl, rfl⟩, (d.kD St), j8, j9, f1, k0, rfl, rfl, k1, eN, L, rfl, q7⟩ dc dc dc (fun _ _ _ h => by obtain ⟨_, _, aE, _⟩ := h; exact aE) ?_ ?_
      ·rintro n4 E W q2 ⟨d6, j5, ⟨L, eN⟩, d, h4, h5, h6, h7, d0, d1, h8, h9, i0, i1, a8⟩
       obtain ⟨z3, ad, t0, s9, t1⟩ := ll q2
       rw [t0] at a8
       refine bg (VQ (E9 (i := (n4 : Int)) id cE ek i1 L a3 (aD _) s9) (fun bt ⟨_, ⟨n7, rfl, s4⟩, r2, aa⟩ => V (kE rfl (nh (rY.hp _) (y := n7) (r2.mono (wW (fun b o hq => d.has.2 b o (Mt (Ma (Ml hq)))))) ew)) (Wa (ln (kT (Wh d1 (Wm (LJ a8 (fun n6 E W => ∃ m7, ST false (keys []) w W j ((P, Obj.cells a0 57 (0, 0)) :: (I ++ (u ++ (H ++ (d9 ++ m7))))) ∧ E 1 = b4 ∧ E 3 = c1 ∧ E 5 = k ∧ E 6 = M ∧ E 8 = z ∧ E 9 = (.bool d6) ∧ E 20 = K ∧ E 21 = e0 ∧ E 22 = e1 ∧ E 26 = k ∧ E 27 = (.int .i64 (Z.length : Int)) ∧ E 28 = (.int .i64 (n4 : Int)) ∧ E 37 = (.bool n6)) 4 ?_ (fun n6 a9 l1 => ?_)))))))))
       ·rintro z4 E W ⟨m7, d, w7, w8, w9, x1, x2, bh, x3, x4, x5, x6, x7, x8, x9⟩ q8
        exact Wg x9 (lo (lA (kK ⟨x8, z4, _, ⟨rfl, x7⟩, (d.kD St), w7, w8, w9, x1, x2, rfl, x3, x4, x5, x6, (by rw [t1]; exact q8)⟩)))
       refine bC a9 (fun T a9 => ?_) (fun T a9 => ?_)
       ·refine un T (un T (un T (V (kX (cB T) rfl) ?_)))
        obtain rfl := sj a9
        exact l1 _ _ ⟨_, (d.kD St), h4, h5, h6, h7, d0, d1, h8, h9, i0, i1, eN, L, rfl⟩
       refine ug T (kM rfl) (ug T (kM d0) (bS a9 fun bw r6 a9 => qy T (Eg d call81 (lg.mz (KK n7 z3 z N _ _ (s4.mono (Pl.mono _) d.kN) (G.mono (Pl.mono _) d.kN) r6)) (fun ba d => V (kW (cB T) rfl) ?_))))
       obtain rfl := sj a9
       exact l1 _ _ ⟨_, (d.kD St), h4, h5, h6, h7, d0, d1, h8, h9, i0, i1, eN, L, rfl⟩
      rintro E W ⟨d6, j5, ⟨L, eN⟩, d, h4, h5, h6, h7, d0, d1, h8, h9, i0, i1, a8⟩
      rw [aG] at a8
      refine kK ?_
      obtain rfl := sj a8
      exact ⟨_, (d.kD St), h4, h5, h6, h7, d0, d1, h8, h9, i0⟩
     rintro cb E W ⟨m3, d, f2, f3, k2, k3, k4, u4, k5, k6, k7⟩ t
     refine kV (sg (Wh u4 (ln (CI t rfl (fun p1 t => ?_) (fun p1 t => ?_)))))
     ·exact ot (nT (uj (kK ⟨k7, k, Z, u, M, b1, I, j, _, ⟨rfl, k6⟩, a2, q, (d.kD St), f2, f3, k2, k3, k5, a3, b9, (by rw [i9]; exact t)⟩)))
     refine kS (V (kE f2 (kL d.has Mh b8 rfl cx aZ)) (Wh k4 (bS t fun bu r3 t => VE (Eg d call44 ((DO lE) a (.slice A1 a.Kids.length c2) z N _ _ (d2.mono lZ.mono (((y0.trans e2).trans a2).trans d.kN)) (G.mono (Pl.mono _) d.kN) r3) (fun ag d => ln (CI t rfl (fun p2 t => ?_) (fun p2 t => ?_)))))))
     ·refine sg (Wh k2 (Wh k4 ?_))
      obtain ⟨c4, c6, rfl⟩ := G.form
      refine VE (lj (cs := #[(.slice c4 N.length c6)]) d (mN rfl) (mJ cE ek iK) (fun ah bd d => ?_))
      replace d := d.perm (Nr (Qb (Qb (Qr Qz))) Nz)
      refine bS t fun y4 p3 t => VE (AU (B := u) vS d dc cE pU.1 pU.2.1 rfl pU.2.2.1 pU.2.2.2 rfl rfl a3 (FE.lit vS (l := [N]) (.cons (ys := [(.slice c4 N.length c6)]) ⟨(.slice c4 N.length c6), rfl, G⟩ .nil) rfl nb (d.at_ (Ma Mh))) p3 (fun ai y8 t3 d o5 => Wa (ln ?_)))
      replace d := d.kD (Kr (Db St))
      exact ot (nT (uj (kK ⟨k7, y8, y4, t3, M, b1, I, j, _, ⟨rfl, k6⟩, a2, q, (d.kD (Sb (Pr Pz) (Sr (Qr Qz) St))), f2, f3, rfl, k3, k5, o5, b9, (by rw [i9]; exact t)⟩)))
     refine kg (Wh f3 (V (mR aF rfl m0) (Wm (ln (vG (CJ t (fun l2 E W => ∃ i5 e8 c3 m4, lb j c3 ∧ Lo (keys []) w j c3 ∧ ST false (keys []) w W c3 ((P, Obj.cells a0 57 (0, 0)) :: (e8 ++ (u ++ (H ++ (d9 ++ m4))))) ∧ E 1 = b4 ∧ E 3 = c1 ∧ E 5 = k ∧ E 6 = i5 ∧ E 20 = K ∧ E 21 = e0 ∧ E 22 = e1 ∧ nn 34 (vQ kC 2) 1 c3 i5 l2 e8) (fun l2 q6 => ?_) ?_))))))
     ·refine lz (fun i E W => ∃ a5 d4 a4 a1 j4, (E 49 = .int .i64 (i : Nat) ∧ E 48 = .int .i64 (r5.length : Nat)) ∧ lb j a1 ∧ Lo (keys []) w j a1 ∧ ST false (keys []) w W a1 ((P, Obj.cells a0 57 (0, 0)) :: (a4 ++ (u ++ (H ++ (d9 ++ j4))))) ∧ E 1 = b4 ∧ E 3 = c1 ∧ E 5 = k ∧ E 6 = a5 ∧ E 8 = z ∧ E 20 = K ∧ E 21 = e0 ∧ E 22 = e1 ∧ E 47 = c1 ∧ nn 34 (vQ kC 2) 1 a1 a5 d4 a4 ∧ rI N (r5.drop i) d4 = some l2) r5.length m0.len ⟨M, b1, I, j, _, ⟨rfl, rfl⟩, (lb.refl _), Lo.refl, (d.kD St), f2, f3, k2, k3, k4, k5, k6, k7, rfl, b9, q6⟩ dc dc dc (fun _ _ _ h => by obtain ⟨_, _, _, _, _, aE, _⟩ := h; exact aE) ?_ ?_
      ·rintro k9 E W q1 ⟨a5, d4, a4, a1, j4, ⟨L, eN⟩, J, s, d, f4, f5, f6, f7, b5, f8, f9, g0, g1, d8, a7⟩
       obtain ⟨c, ac, s8, l7, l8⟩ := ll q1
       let g5 := ((kC c).toArray : Array Value)
       rw [s8] at a7
       refine bg (VQ (mF (i := (k9 : Int)) (x0 := c) aF aC g1 L m0 (aD _) l7) (fun bq r0 => V (kE rfl (oy d.has (fun p hq => (Mt (Ma (Ma (Ma (Ml hq)))))) m0 my r0 l7 aO aC)) (VE (lD d bQ (fun aj j7 d => VO (lh (.agg (kC c).toArray) ((kC c).toArray) d rfl rfl aC (mH c) nb rfl (fun ak d => ln (kV ?_))))))))
       replace d := d.drew
       have n := d.has.kD (Kb Sn)
       refine lN n lB (X 0 rfl n (kM b5) (X 1 rfl n (lJ aF rfl G) (X 2 rfl n (lK rfl rfl rfl) (X 3 rfl n (kM rfl) (PJ a7 (fun n5 E W => ∃ m5, ST false (keys []) w W a1 ((j7, Obj.cells g5 28 (0, 0)) :: ((P, Obj.cells a0 57 (0, 0)) :: (a4 ++ (u ++ (H ++ (d9 ++ m5)))))) ∧ E 1 = b4 ∧ E 3 = c1 ∧ E 5 = k ∧ E 6 = a5 ∧ E 8 = z ∧ E 13 = (.pointer (some ⟨j7, 0, none⟩)) ∧ E 20 = K ∧ E 21 = e0 ∧ E 22 = e1 ∧ E 47 = c1 ∧ E 48 = (.int .i64 (r5.length : Int)) ∧ E 49 = (.int .i64 (k9 : Int)) ∧ E 65 = (.bool n5)) (bm 13 8191) 0 ?_ (fun n5 Y l0 => ?_))))))
       ·rintro cc E W ⟨m5, d, g2, g3, g4, c8, c9, v2, g7, g8, g9, h1, h2, h3, v3⟩ b6
        have n := d.has.kD (Kb Sn)
        refine me kr (kK (CI b6 v3 (fun p4 b6 => ?_) (fun p4 b6 => ?_)))
        ·replace d := d.drew
         have n := d.has.kD (Kb Sn)
         refine lN n lB (X 0 rfl n (kM c8) (X 2 rfl n (kM c9) (XH 4 rfl n (fun _ hS => kE v2 (kL hS Mh (kC c) rfl aO aC)) (PJ b6 (fun l3 E W => ∃ i6 e9 i7 j6 m6, ST false (keys []) w W a1 ((j7, Obj.cells g5 28 (0, 0)) :: ((P, Obj.cells a0 57 (0, 0)) :: (e9 ++ (a4 ++ (u ++ (H ++ (d9 ++ (j6 ++ m6)))))))) ∧ E 1 = b4 ∧ E 3 = c1 ∧ E 5 = k ∧ E 6 = a5 ∧ E 8 = z ∧ E 20 = K ∧ E 21 = e0 ∧ E 22 = e1 ∧ E 47 = c1 ∧ E 48 = (.int .i64 (r5.length : Int)) ∧ E 49 = (.int .i64 (k9 : Int)) ∧ E 66 = a5 ∧ E 69 = i6 ∧ E 71 = i7 ∧ kZ 28 kC 2 i6 l3.1 e9 ∧ kZ 28 kC 2 i7 l3.2 j6) (bm 10 63) 4 ?_ (fun l3 U e4 => ?_)))))
         ·rintro ⟨bj, bk⟩ E W ⟨i6, e9, i7, j6, m6, d, v4, v5, v6, bf, v7, v8, v9, w0, w1, w2, w3, w4, w5, w6, s1, s2⟩ b7
          replace d := d.perm (Nr (Qb (Qb Qz)) Nz)
          refine bS b7 fun c0 p5 b7 => XE 6 rfl (mD (enc := kC) (v := i6) (vs := i7) (R := e9) d my dc mH aF mw.1 mw.2.1 rfl mw.2.2.1 mw.2.2.2 w5 w6 s1 (s2.Sx my d (fun p hq => (Ma (Mt (Mt (Ma (Ma (Ma (Ma (Ml hq)))))))))) p5 (fun al bz af d l5 => ?_))
          have n := d.has.kD (Dr (Kb Sn))
          refine ⟨n, ?_⟩
          obtain ⟨c5, c7, rfl⟩ := l5.form
          refine XE 7 rfl (lj (cs := #[(.slice c5 c0.length c7)]) d (mN rfl) (mJ cE ek iK) (fun am be d => ?_))
          have n := d.has.kD (Db (Dr (Kb Sn)))
          refine ⟨n, ?_⟩
          replace d := d.perm (Nr (Qb Qz) Nz)
          obtain ⟨z5, d, e3, cm, s3⟩ := ST.Bf d l5 my
          replace d := d.perm (Nr (Qb (Qb (Qb Qz))) Nz)
          refine bS b7 fun y6 p6 b7 => XE 8 rfl (AU (B := a4) vS d dc cE pU.1 pU.2.1 rfl pU.2.2.1 pU.2.2.2 w4 rfl (d8.mono vS e3) (FE.lit vS (l := [c0]) (.cons (ys := [(.slice c5 c0.length c7)]) ⟨(.slice c5 c0.length c7), rfl, s3⟩ .nil) rfl nb (d.at_ (Ma Mh))) p6 (fun an y9 t4 d o6 => ?_))
          have n := d.has.sL e3 (Dr (Db (Kb Sn)))
          refine ⟨n, (X 9 rfl n (nH rfl) (me kr (lA (kK ?_))))⟩
          replace d := d.kD (Kr (Db (Db (Kb (Kr (Kr (Kr (Dr St))))))))
          exact ⟨w3, y9, y6, t4, z5, _, ⟨rfl, w2⟩, (J.trans e3), (s.trans cm), (d.kD (Sb (Pr Pz) St)), v4, v5, v6, rfl, v7, v8, v9, w0, w1, o6, (by rw [l8]; exact b7)⟩
         refine Hs 1 5 rfl rfl kr (.inl rfl) (.inl rfl) rfl rfl dc dc ?_ ?_
         ·refine lj (cs := #[]) d vj (zK [] aF aC bQ dc rfl (by simp) rfl rfl) (fun ao f0 d => ?_)
          have n := d.has.kD (Db (Kb Sn))
          refine ⟨n, (Hs 3 5 rfl rfl kr (.inl rfl) (.inl rfl) rfl rfl dc dc ?_ ?_)⟩
          ·refine bS U fun bl p7 U => mD (enc := kC) (v := (.slice (some ⟨f0, 0, none⟩) 0 0)) (vs := z) (R := [(f0, Ob #[] 28)]) d my dc mH aF mw.1 mw.2.1 rfl mw.2.2.1 mw.2.2.2 rfl rfl (kZ.lit (l := []) (enc := kC) rfl dc rfl rfl) (G.mono (Pl.mono _) (J.trans d.kN)) p7 (fun ap z0 t5 d o7 => ?_)
           have n := d.has.kD (Dr (Kb Sn))
           refine ⟨n, (XE 5 rfl (lj (cs := (kC c).toArray) d (mN rfl) (mJ aF aC bQ) (fun aq m8 d => ?_)))⟩
           have n := d.has.kD (Db (Dr (Kb Sn)))
           refine ⟨n, ?_⟩
           obtain rfl := sj U
           replace d := d.HM
           refine np kr (e4 _ _ ⟨z0, t5, (.slice (some ⟨m8, 0, none⟩) 1 1), [(m8, Obj.cells g5 28 (0, 0))], _, (d.kD (Sb (Pr (Pr Pz)) (Sb (Pr (Pr Pz)) (Sr (Qr Qz) (Sr (Qr Qz) (Sr (Qr Qz) (Sr (Qr Qz) (Sr (Qr Qz) St)))))))), g2, g3, g4, c8, c9, g7, g8, g9, h1, h2, h3, rfl, rfl, rfl, o7, (kZ.lit (l := [c]) (enc := kC) rfl dc rfl rfl)⟩)
          ·refine lj (cs := (kC c).toArray) d (mN rfl) (mJ aF aC bQ) (fun ar m9 d => ?_)
           have n := d.has.kD (Db (Db (Kb Sn)))
           refine ⟨n, ?_⟩
           replace d := d.perm (Nb (Pb Pz) Nz)
           refine bS U fun bn p8 U => XE 3 rfl (mD (enc := kC) (v := (.slice (some ⟨f0, 0, none⟩) 0 0)) (vs := z) (R := [(f0, Ob #[] 28)]) d my dc mH aF mw.1 mw.2.1 rfl mw.2.2.1 mw.2.2.2 rfl rfl (kZ.lit (l := []) (enc := kC) rfl dc rfl rfl) (G.mono (Pl.mono _) (J.trans d.kN)) p8 (fun au z1 t6 d o8 => ?_))
           have n := d.has.kD (Dr (Db (Kb Sn)))
           refine ⟨n, ?_⟩
           obtain rfl := sj U
           replace d := d.perm (Nb (Pr Pz) Nz)
           replace d := d.HM
           refine np kr (e4 _ _ ⟨z1, t6, (.slice (some ⟨m9, 0, none⟩) 1 1), [(m9, Obj.cells g5 28 (0, 0))], _, (d.kD (Sb (Pr (Pr Pz)) (Sb (Pr (Pr Pz)) (Sr (Qr Qz) (Sr (Qr Qz) (Sr (Qr Qz) (Sr (Qr Qz) (Sr (Qr Qz) St)))))))), g2, g3, g4, c8, c9, g7, g8, g9, h1, h2, h3, rfl, rfl, rfl, o8, (kZ.lit (l := [c]) (enc := kC) rfl dc rfl rfl)⟩)
         ·refine lj (cs := (kC c).toArray) d (mN rfl) (mJ aF aC bQ) (fun av n0 d => ?_)
          have n := d.has.kD (Db (Kb Sn))
          refine ⟨n, (XE 1 rfl (lj (cs := #[]) d vj (zK [] aF aC bQ dc rfl (by simp) rfl rfl) (fun aw n1 d => ?_)))⟩
          have n := d.has.kD (Db (Db (Kb Sn)))
          refine ⟨n, (bS U fun bo p9 U => XE 3 rfl (mD (enc := kC) (v := (.slice (some ⟨n1, 0, none⟩) 0 0)) (vs := z) (R := [(n1, Ob #[] 28)]) d my dc mH aF mw.1 mw.2.1 rfl mw.2.2.1 mw.2.2.2 rfl rfl (kZ.lit (l := []) (enc := kC) rfl dc rfl rfl) (G.mono (Pl.mono _) (J.trans d.kN)) p9 (fun ay z2 t7 d o9 => ?_)))⟩
          have n := d.has.kD (Dr (Db (Kb Sn)))
          refine ⟨n, ?_⟩
          obtain rfl := sj U
          replace d := d.perm (Nb (Pr Pz) Nz)
          replace d := d.HM
          refine np kr (e4 _ _ ⟨z2, t7, (.slice (some ⟨n0, 0, none⟩) 1 1), [(n0, Obj.cells g5 28 (0, 0))], _, (d.kD (Sb (Pr (Pr Pz)) (Sb (Pr (Pr Pz)) (Sr (Qr Qz) (Sr (Qr Qz) (Sr (Qr Qz) (Sr (Qr Qz) (Sr (Qr Qz) St)))))))), g2, g3, g4, c8, c9, g7, g8, g9, h1, h2, h3, rfl, rfl, rfl, o9, (kZ.lit (l := [c]) (enc := kC) rfl dc rfl rfl)⟩)
        refine lG (lA (kK ?_))
        replace d := d.kD (Db St)
        exact ⟨h3, a5, d4, a4, a1, _, ⟨rfl, h2⟩, J, s, (d.kD St), g2, g3, g4, c8, c9, g7, g8, g9, h1, d8, (by rw [l8]; exact b6)⟩
       refine bC Y (fun g Y => ?_) (fun g Y => ?_)
       ·refine Xn 4 rfl rfl (cB g) n (Xn 5 rfl rfl (cB g) n (Xn 6 rfl rfl (cB g) n (Xn 7 rfl rfl (cB g) n (Xn 8 rfl rfl (cB g) n (Xn 9 rfl rfl (cB g) n (Xn 10 rfl rfl (cB g) n (Xn 11 rfl rfl (cB g) n (X 12 rfl n (kX (cB g) rfl) ?_))))))))
        obtain rfl := sj Y
        refine np kr (l0 _ _ ⟨_, (d.kD St), f4, f5, f6, f7, b5, rfl, f8, f9, g0, g1, eN, L, rfl⟩)
       refine Xg 4 rfl rfl (cB g) n (kM b5) (Xg 5 rfl rfl (cB g) n (kM b5) (Xg 6 rfl rfl (cB g) n (lJ aF rfl G) (Xg 7 rfl rfl (cB g) n (lK rfl rfl rfl) (bS Y fun n8 l9 Y => G8 8 rfl kr (.inr ⟨3, false, 56, rfl, rfl, by decide, (cB g)⟩) rfl dc (fun _ _ h => h) n (lY (enc := kC) (i := (wi0 .i64 ((N.length : Int) - 1))) (x0 := n8) aF aC rfl rfl (G.mono (Pl.mono _) J) (mi l9) (lR l9)) (fun bs r1 => vA 9 rfl rfl (cB g) n (fun _ hS => kE rfl (lO hS r1 aO aC)) (vA 10 rfl rfl (cB g) n (fun _ hS => kE rfl (kL hS Mh (kC c) rfl aO aC)) (bS Y fun bv r4 Y => DK 11 rfl rfl (cB g) (Eg d call107 (lg.mz (xz n8 c _ _  r4)) (fun az d => ?_)))))))))
       have n := d.has.kD (Kb Sn)
       refine ⟨n, (X 12 rfl n (kW (cB g) rfl) ?_)⟩
       obtain rfl := sj Y
       refine np kr (l0 _ _ ⟨_, (d.kD St), f4, f5, f6, f7, b5, rfl, f8, f9, g0, g1, eN, L, rfl⟩)
      rintro E W ⟨a5, d4, a4, a1, j4, ⟨L, eN⟩, J, s, d, f4, f5, f6, f7, b5, f8, f9, g0, g1, d8, a7⟩
      rw [aG] at a7
      refine kK ?_
      obtain rfl := sj a7
      exact ⟨a5, a4, a1, _, J, s, (d.kD St), f4, f5, f6, f7, f8, f9, g0, d8⟩
     rintro y5 E W ⟨i5, e8, c3, m4, k8, ch, d, u5, u6, u7, u8, u9, v0, v1, s0⟩ q5
     exact lA (kK ⟨v1, k, Z, u, i5, y5, e8, c3, _, ⟨rfl, v0⟩, (a2.trans k8), (q.trans ch), (d.kD St), u5, u6, u7, u8, u9, (a3.mono vS k8), s0, (by rw [i9]; exact q5)⟩)
    rintro E W ⟨k, Z, u, M, b1, I, j, j3, ⟨L, eN⟩, a2, q, d, j8, j9, f1, k0, k1, a3, b9, a6⟩
    rw [aG] at a6
    refine kK ?_
    obtain rfl := sj a6
    exact ⟨k, u, M, I, j, _, a2, q, (d.kD (Kb (Kr (Kr (Dr St))))), j8, j9, f1, k0, a3, b9⟩
   rintro ⟨y2, y3⟩ E W ⟨i3, e6, i4, e7, b2, m2, o0, bc, d, u0, u1, u2, u3, r8, r9⟩ q3
   exact kT (Wh u3 (Wa (lo (lA (kK ⟨y7, bT _, i4, y3, e7, i3, y2, e6, b2, _, (e2.trans o0), (A.trans bc), (d.kD (Kb (Sr (Qr Qz) St))), u0, u1, rfl, u2, r9, r8, q3⟩)))))
  refine ot (nT (nT (uj (kK ?_))))
  replace d := d.kD (Db (Kr (Dr (Dr St))))
  refine sg (Wh n3 ?_)
  obtain ⟨ce, d, o1, cp, s5⟩ := ST.QQ vS d l6
  refine bS D fun bx r7 D => ?_
  refine VE (eD d (du _) call108 (fun hh => pK.mz (KW d5 d3 _ _ hh (s5.mono (vQ.mono _ _) (lb.refl _)) r7)) ?_ (L0 := []))
  rintro _ ca cf ae d o2 cS ⟨n9, i8, rfl, t2⟩
  obtain rfl := i8.symm
  refine Wa (lt ?_)
  obtain rfl := sj D
  exact lQ (v := n9) rfl rfl ⟨_, _, _, rfl, (d.mQ Sn), (((y0.trans e2).trans o1).trans o2), (((ds.trans A).trans cp).trans cS), (ST.ma d (ny.mem Sn)), n9, rfl, rfl, t2⟩
theorem DV (N : kA) (Q D : Nat) (t : Value) (B : List (kA × (List (ByteArray × Bool)))) (a : Value) (j : List kB) (i : Value) (z : List (kA × (List kB))) (c : Value) (k : List (ByteArray × (List kB))) (g : Value) (u : List kF) (I : Int) (r : Bool) (w : World) (M : sa (fun (x : kA) => (.agg (kC x).toArray)) (mx Value.string (fun (x : Bool) => (Value.bool x))) (hp w) t B) (G : Sl (Pl kG) 9 (hp w) a j) (K : sa (fun (x : kA) => (.agg (kC x).toArray)) (kZ 108 kG 9) (hp w) i z) (H : sa Value.string (kZ 108 kG 9) (hp w) c k) (J : Sl (Pl kO) 3 (hp w) g u) (T : At (hp w) (.pointer (some ⟨D, 0, none⟩)) [t, a, i, c, g, (.int .i64 I)]) (U : At (hp w) (.pointer (some ⟨Q, 0, none⟩)) [(.pointer (some ⟨D, 0, none⟩))]) (hm : qw N B j z k u I = some r) :
  lg true pg0 49 [(.agg (kC N).toArray), (.pointer (some ⟨Q, 0, none⟩))] w (.bool r) := by
 refine cG 7 func49 rfl (fun d => sg (VE (lF d rfl (fun Z h d => Wa (lr (V (kE rfl (nh d.has (y := (.pointer (some ⟨D, 0, none⟩))) U isAgg101)) (VA d Mh (kC N) aO aC (bS hm fun m Y hm => VE (Eg d call50 (DJ D t B a j i z c k g u I N K5 _ _ (M.mono d.kN) (G.mono (Pl.mono _) d.kN) (K.mono d.kN) (H.mono d.kN) (J.mono (Pl.mono _) d.kN) (T.mono d.kN) Y) (fun W5 d => Wa (lo ?_)))))))))))
 refine kK ?_
 exact lx (rQ hm d)
set_option maxHeartbeats 4000000 in
theorem Fy (a : xd) (a8 b0 c3 e4 d3 e3 e6 e2 e1 e8 : Value) (r : Bool) (w : World) (y : Sl oR 15 (hp w) a8 a.S.mg.mY) (z : Sl ve 8 (hp w) b0 a.S.mg.oX) (u : Sl (Pl kG) 9 (hp w) c3 a.S.lL) (N : Sl (Pl kG) 9 (hp w) e4 a.S.Shown) (I : Sl (Pl kC) 2 (hp w) d3 a.S.mG) (M : Sl (Pl kC) 2 (hp w) e3 a.S.sI) (g : Sl la 5 (hp w) e6 a.F.Kids) (b6 : Sl (Pl kC) 2 (hp w) e2 a.O.lV) (b5 : Sl (Pl lf) 12 (hp w) e1 a.O.lW) (b1 : Sl (Pl kG) 9 (hp w) e8 a.mY) (hm : sc a = some r) :
  lg false pg0 9 [(.agg #[(.string a.S.mg.Name), a8, b0, (.string a.S.od), (.int .i64 a.S.Room), c3, e4, d3, e3, (.int .i64 a.F.Op), (.int .i64 a.F.K), (.string a.F.kA.kI), (.string a.F.kA.kU), e6, (.int .i64 a.O.State), (.int .i64 a.O.ox), e2, e1, e8])] w (.bool r) := by
 refine cG 79 func9 rfl (fun d => sg ?_)
 obtain ⟨A1, c2, rfl⟩ := y.form
 let d9 : Value := (.slice A1 a.S.mg.mY.length c2)
 obtain ⟨A3, c4, rfl⟩ := z.form
 let e0 : Value := (.slice A3 a.S.mg.oX.length c4)
 obtain ⟨A5, c6, rfl⟩ := u.form
 let d8 : Value := (.slice A5 a.S.lL.length c6)
 obtain ⟨A7, c8, rfl⟩ := N.form
 let g6 : Value := (.slice A7 a.S.Shown.length c8)
 obtain ⟨A9, a2, rfl⟩ := I.form
 let g5 : Value := (.slice A9 a.S.mG.length a2)
 obtain ⟨a1, a3, rfl⟩ := M.form
 let j1 : Value := (.slice a1 a.S.sI.length a3)
 let a0 := (C2 a.S.mg.Name A1 a.S.mg.mY.length c2 A3 a.S.mg.oX.length c4 a.S.od a.S.Room A5 a.S.lL.length c6 A7 a.S.Shown.length c8 A9 a.S.mG.length a2 a1 a.S.sI.length a3)
 obtain ⟨i, j, rfl⟩ := g.form
 let d4 : Value := (.slice i a.F.Kids.length j)
 let b8 := (C1 a.F.Op a.F.K a.F.kA.kI a.F.kA.kU i a.F.Kids.length j)
 obtain ⟨a4, a6, rfl⟩ := b6.form
 let p5 : Value := (.slice a4 a.O.lV.length a6)
 obtain ⟨a5, a7, rfl⟩ := b5.form
 let u3 : Value := (.slice a5 a.O.lW.length a7)
 let d0 := (C3 a.O.State a.O.ox a4 a.O.lV.length a6 a5 a.O.lW.length a7)
 obtain ⟨c5, c7, rfl⟩ := b1.form
 let d1 : Value := (.slice c5 a.mY.length c7)
 refine VE (lF d rfl (fun ca u4 d => Wa (lS (bS hm fun cc t4 hm => VE (Eg d call24 (Mf  _ _  t4) (fun cb d => V (nr rfl) (ln (CI hm rfl (fun t3 hm => ?_) (fun t3 hm => ?_)))))))))
 ·refine sg (Wa (ln ?_))
  replace d := d.kD (Db St)
  refine lx (lm ?_)
  obtain rfl := sj hm
  exact rP d
 refine kn (kV ?_)
 replace d := d.drew
 have h := d.has.kD (Kb Sn)
 refine lN h lB (X 0 rfl h (kH WX rfl) (XH 1 rfl h (fun _ q => kE rfl (kL q Mh a0 rfl kz gX)) (X 2 rfl h (kH Xx rfl) (XH 3 rfl h (fun _ q => kE rfl (kL q Mh b8 rfl cx aZ)) (X 4 rfl h (kH WV rfl) (XH 5 rfl h (fun _ q => kE rfl (kL q Mh d0 rfl eP di)) (X 6 rfl h (kH X3 rfl) (XH 7 rfl h (fun _ q => kE rfl (kR q Mh rfl gZ)) (PJ hm (fun k E W => ∃ J D G h6 h7 h8 h9 i0 i1 i2 i3 i4 k6, ST false lu w W (hp w) ((J, Ob #[(.string k.1), h6, h7, (.string k.2.2.2.1), (.int .i64 k.2.2.2.2.1), h8, h9, i0, i1] 54) :: ((D, Ob #[(.int .i64 k.2.2.2.2.2.2.2.2.2.1), (.int .i64 k.2.2.2.2.2.2.2.2.2.2.1), (.string k.2.2.2.2.2.2.2.2.2.2.2.1.kI), (.string k.2.2.2.2.2.2.2.2.2.2.2.1.kU), i2] 57) :: ((G, Ob #[(.int .i64 k.2.2.2.2.2.2.2.2.2.2.2.2.2.1), (.int .i64 k.2.2.2.2.2.2.2.2.2.2.2.2.2.2.1), i3, i4] 64) :: ((u4, Ob #[(.string a.S.mg.Name), d9, e0, (.string a.S.od), (.int .i64 a.S.Room), d8, g6, g5, j1, (.int .i64 a.F.Op), (.int .i64 a.F.K), (.string a.F.kA.kI), (.string a.F.kA.kU), d4, (.int .i64 a.O.State), (.int .i64 a.O.ox), p5, u3, d1] 96) :: k6)))) ∧ E 3 = (.pointer (some ⟨J, 0, none⟩)) ∧ E 4 = (.pointer (some ⟨D, 0, none⟩)) ∧ E 5 = (.pointer (some ⟨G, 0, none⟩)) ∧ E 12 = (.agg a0.toArray) ∧ E 14 = (.agg b8.toArray) ∧ E 16 = (.agg d0.toArray) ∧ E 18 = d1 ∧ Sl oR 15 (hp w) h6 k.2.1 ∧ Fr w.heap.size h6 ∧ Sl ve 8 (hp w) h7 k.2.2.1 ∧ Fr w.heap.size h7 ∧ Sl (Pl kG) 9 (hp w) h8 k.2.2.2.2.2.1 ∧ Fr w.heap.size h8 ∧ Sl (Pl kG) 9 (hp w) h9 k.2.2.2.2.2.2.1 ∧ Fr w.heap.size h9 ∧ Sl (Pl kC) 2 (hp w) i0 k.2.2.2.2.2.2.2.1 ∧ Fr w.heap.size i0 ∧ Sl (Pl kC) 2 (hp w) i1 k.2.2.2.2.2.2.2.2.1 ∧ Fr w.heap.size i1 ∧ Sl la 5 (hp w) i2 k.2.2.2.2.2.2.2.2.2.2.2.2.1 ∧ Fr w.heap.size i2 ∧ Sl (Pl kC) 2 (hp w) i3 k.2.2.2.2.2.2.2.2.2.2.2.2.2.2.2.1 ∧ Fr w.heap.size i3 ∧ Sl (Pl lf) 12 (hp w) i4 k.2.2.2.2.2.2.2.2.2.2.2.2.2.2.2.2 ∧ Fr w.heap.size i4) (bm 15 2047) 4 ?_ (fun k f1 e9 => ?_))))))))))
 ·rintro ⟨be, ai, aj, bf, bh, ak, al, am, an, bi, bj, bk, ao, bl, bn, ap, aq⟩ E W ⟨J, D, G, h6, h7, h8, h9, i0, i1, i2, i3, i4, k6, d, g4, g7, j0, s2, s3, s4, s5, w9, w0, x0, w1, x1, w2, x2, w3, x3, w4, x4, w5, x5, w6, x6, w7, x7, w8⟩ h0
  let d7 : Value := (.pointer (some ⟨J, 0, none⟩))
  let d6 : Value := (.pointer (some ⟨G, 0, none⟩))
  let d5 : Value := (.pointer (some ⟨D, 0, none⟩))
  refine XO 11 rfl (lh (.agg a0.toArray) (a0.toArray) d g4 s2 gX oc nb rfl (fun z2 d => ?_))
  have h := d.has.kD (Db (Db (Db (Kb Sn))))
  refine ⟨h, ?_⟩
  replace d := d.perm (Nb (Pb Pz) Nz)
  refine XO 12 rfl (lh (.agg b8.toArray) (b8.toArray) d g7 s3 aZ oc nb rfl (fun z3 d => ?_))
  have h := d.has.kD (Db (Db (Db (Kb Sn))))
  refine ⟨h, ?_⟩
  replace d := d.perm (Nb (Pb (Pb Pz)) Nz)
  refine XO 13 rfl (lh (.agg d0.toArray) (d0.toArray) d j0 s4 di oc nb rfl (fun z4 d => ?_))
  have h := d.has.kD (Db (Db (Db (Kb Sn))))
  refine ⟨h, (X 14 rfl h (nH s5) (me kr (kK ?_)))⟩
  replace d := d.kD (Kb (Kb (Kb (Db St))))
  refine kV (sg (V (kE g4 (kL d.has (Mt (Mt Mh)) a0 rfl kz gX)) (bS h0 fun ar q4 h0 => VE (Eg d call25 (ME a.S d9 e0 d8 g6 g5 j1 _ _ (y.mono BQ.mono d.kN) (z.mono KX.mono d.kN) (u.mono (Pl.mono _) d.kN) (N.mono (Pl.mono _) d.kN) (I.mono (Pl.mono _) d.kN) (M.mono (Pl.mono _) d.kN) q4) (fun z5 d => Wi rfl (Wm (LJ h0 (fun k5 E W => ∃ k7, ST false lu w W (hp w) ((G, Ol d0 64) :: ((D, Ol b8 57) :: ((J, Ol a0 54) :: k7))) ∧ E 3 = d7 ∧ E 4 = d5 ∧ E 5 = d6 ∧ E 6 = d1 ∧ E 27 = (.bool k5)) 5 ?_ (fun k5 c1 f9 => ?_))))))))
  ·rintro bo E W ⟨k7, d, l4, l5, j3, l6, s6⟩ q0
   refine Wh s6 (LJ q0 (fun k4 E W => ∃ k8, ST false lu w W (hp w) ((G, Ol d0 64) :: ((D, Ol b8 57) :: ((J, Ol a0 54) :: k8))) ∧ E 3 = d7 ∧ E 4 = d5 ∧ E 5 = d6 ∧ E 6 = d1 ∧ E 32 = (.bool k4)) 4 ?_ (fun k4 R f8 => ?_))
   ·rintro bp E W ⟨k8, d, l7, l8, l9, j4, s7⟩ q1
    refine Wh s7 (LJ q1 (fun k3 E W => ∃ k9, ST false lu w W (hp w) ((G, Ol d0 64) :: ((D, Ol b8 57) :: ((J, Ol a0 54) :: k9))) ∧ E 3 = d7 ∧ E 4 = d5 ∧ E 5 = d6 ∧ E 6 = d1 ∧ E 37 = (.bool k3)) 4 ?_ (fun k3 P f7 => ?_))
    ·rintro bq E W ⟨k9, d, m0, g8, m1, m2, s8⟩ e7
     refine ln (CI e7 s8 (fun p6 e7 => ?_) (fun p6 e7 => ?_))
     ·refine sg (Wa (ln ?_))
      replace d := d.kD (Db (Db (Db St)))
      refine lx (lm ?_)
      obtain rfl := sj e7
      exact rP d
     refine kn (kV (GJ e7 (fun t5 E W => ∃ j9 l0, lb (hp w) j9 ∧ ST false lu w W j9 ((G, Ol d0 64) :: ((D, Ol b8 57) :: l0)) ∧ E 4 = d5 ∧ E 5 = d6 ∧ E 6 = d1) (fun t5 h1 h2 => ?_) ?_))
     ·refine kV ?_
      replace d := d.drew
      have h := d.has.kD (Db (Kb (Kb Sn)))
      refine lN h lB (XH 0 rfl h (fun _ q => kE g8 (kL q Mh b8 rfl cx aZ)) (bS h1 fun aw q8 h1 => XE 1 rfl (Eg d call29 (MB a.F d4 _ _ (g.mono lZ.mono d.kN) q8) (fun ab d => ?_))))
      have h := d.has.kD (Db (Kb (Kb Sn)))
      refine ⟨h, (X 2 rfl h (kM rfl) (PJ h1 (fun k2 E W => ∃ f2 l1, lb (hp w) f2 ∧ ST false lu w W f2 ((G, Ol d0 64) :: ((D, Ol b8 57) :: ((J, Ol a0 54) :: l1))) ∧ E 3 = d7 ∧ E 4 = d5 ∧ E 5 = d6 ∧ E 6 = d1 ∧ E 45 = (.bool k2)) (bm 20 255) 12 ?_ (fun k2 L f6 => ?_)))⟩
      ·rintro bs E W ⟨f2, l1, c, d, j5, j6, m5, m6, t0⟩ q2
       have h := d.has.sL c (Db (Kb (Kb Sn)))
       refine X 8 rfl h (kM t0) (PJ q2 (fun o2 E W => ∃ f3 l2, lb f2 f3 ∧ ST false lu w W f3 ((G, Ol d0 64) :: ((D, Ol b8 57) :: ((J, Ol a0 54) :: l2))) ∧ E 3 = d7 ∧ E 4 = d5 ∧ E 5 = d6 ∧ E 6 = d1 ∧ E 51 = (.bool o2)) (bm 20 16383) 6 ?_ (fun o2 A f5 => ?_))
       ·rintro bt E W ⟨f3, l2, t, d, m7, j7, m8, m9, t1⟩ q3
        have h := d.has.sL (c.trans t) (Db (Kb (Kb Sn)))
        refine X 14 rfl h (kM t1) (PJ q3 (fun o1 E W => ∃ i5 l3, lb f3 i5 ∧ ST false lu w W i5 ((G, Ol d0 64) :: ((D, Ol b8 57) :: ((J, Ol a0 54) :: l3))) ∧ E 3 = d7 ∧ E 4 = d5 ∧ E 5 = d6 ∧ E 6 = d1 ∧ E 57 = (.bool o1)) (bm 20 1048575) 0 ?_ (fun o1 d2 i7 => ?_))
        ·rintro bu E W ⟨i5, l3, B, d, j8, g9, n0, n1, t2⟩ H
         refine me kr (kK (CI H t2 (fun p8 H => ?_) (fun p8 H => ?_)))
         ·refine sg (V (kE j8 (kL d.has (Mt (Mt Mh)) a0 rfl kz gX)) (V (kE g9 (kL d.has (Mt Mh) b8 rfl cx aZ)) (bS H fun K q9 H => ?_)))
          refine VE (eD d (du _) call27 (fun n => (DT a.S d9 e0 d8 g6 g5 j1 a.F d4 1 0 true _ _ n (y.mono BQ.mono ((c.trans t).trans B)) (z.mono KX.mono ((c.trans t).trans B)) (u.mono (Pl.mono _) ((c.trans t).trans B)) (N.mono (Pl.mono _) ((c.trans t).trans B)) (I.mono (Pl.mono _) ((c.trans t).trans B)) (M.mono (Pl.mono _) ((c.trans t).trans B)) (g.mono lZ.mono ((c.trans t).trans B)) q9)) ?_ (L0 := []))
          rintro _ bc u1 y5 d f0 ch ⟨bv, bw, h4, rfl, k0, k1⟩
          obtain rfl := h4.symm
          refine VE (lD d dQ (fun ad ah d => ?_))
          obtain ⟨g0, g2, rfl⟩ := k0.form
          let j2 : Value := (.slice g0 ((K).lV).length g2)
          obtain ⟨g1, g3, rfl⟩ := k1.form
          let p4 : Value := (.slice g1 ((K).lW).length g3)
          refine VO (lh (.agg #[(.int .i64 ((K).State)), (.int .i64 ((K).ox)), j2, p4]) (#[(.int .i64 ((K).State)), (.int .i64 ((K).ox)), j2, p4]) d rfl rfl di oc nb rfl (fun ae d => lr (VA d Mh [(.int .i64 ((K).State)), (.int .i64 ((K).ox)), j2, p4] eP di (V (kH Dw j8) (VB d (Mt (Mt (Mt Mh))) rfl rfl gZ (V (kE g9 (kL d.has (Mt (Mt Mh)) b8 rfl cx aZ)) (V (kH G9 j8) (VB d (Mt (Mt (Mt Mh))) rfl rfl aY (bS H fun ay r0 H => VE (Eg d call34 (uD K j2 p4 d8 a.S.lL a.F d4 a.S.od _ _ (k0.mono (Pl.mono _) d.kN) (k1.mono (Pl.mono _) d.kN) (u.mono (Pl.mono _) ((((c.trans t).trans B).trans f0).trans d.kN)) (g.mono lZ.mono ((((c.trans t).trans B).trans f0).trans d.kN)) r0) (fun af d => Wi rfl (lo ?_))))))))))))
          refine kK ?_
          replace d := d.kD (Db (Kb (Kb (Db St))))
          refine CI H rfl (fun p9 H => ?_) (fun p9 H => ?_)
          ·refine sg (Wa (ln ?_))
           replace d := d.kD (Db (Db St))
           refine lx (lm ?_)
           obtain rfl := sj H
           replace h2 : some false = some r := h2
           obtain rfl := sj h2
           exact rP d
          refine kn ?_
          obtain rfl := sj H
          exact ⟨_, rfl, u1, _, (((c.trans t).trans B).trans f0), (d.kD St), g9, n0, n1⟩
         refine kn ?_
         obtain rfl := sj H
         exact ⟨_, rfl, i5, _, ((c.trans t).trans B), (d.kD (Kb (Kb (Db St)))), g9, n0, n1⟩
        refine bC d2 (fun Y d2 => ?_) (fun Y d2 => ?_)
        ·refine vA 15 rfl rfl (cB Y) h (fun _ q => kE j7 (kL q Mh b8 rfl cx aZ)) (bS d2 fun az r1 d2 => ?_)
         refine DK 16 rfl rfl (cB Y) (eD d (du _) call46 (fun n => (LY a.F d4 _ _ n (g.mono lZ.mono (c.trans t)) r1)) ?_ (L0 := []))
         rintro _ bd u2 y6 d i6 ck ⟨bx, h5, rfl, r7⟩
         obtain rfl := h5.symm
         have h := d.has.sL ((c.trans t).trans i6) (Db (Kb (Kb Sn)))
         refine ⟨h, (Xg 17 rfl rfl (cB Y) h (lJ cE rfl r7) (Xg 18 rfl rfl (cB Y) h (lK rfl rfl rfl) (X 19 rfl h (kX (cB Y) rfl) ?_)))⟩
         obtain rfl := sj d2
         refine np kr (i7 _ _ ⟨u2, _, i6, (d.kD St), m7, j7, m8, m9, rfl⟩)
        refine Xn 15 rfl rfl (cB Y) h (Xn 16 rfl rfl (cB Y) h (Xn 17 rfl rfl (cB Y) h (Xn 18 rfl rfl (cB Y) h (X 19 rfl h (kW (cB Y) rfl) ?_))))
        obtain rfl := sj d2
        refine np kr (i7 _ _ ⟨f3, _, (lb.refl _), (d.kD St), m7, j7, m8, m9, rfl⟩)
       refine bC A (fun U A => ?_) (fun U A => ?_)
       ·refine vA 9 rfl rfl (cB U) h (fun _ q => kE j6 (kL q Mh b8 rfl cx aZ)) (vA 10 rfl rfl (cB U) h (fun _ q => kE j5 (kL q (Mt Mh) a0 rfl kz gX)) (bS A fun r8 n5 A => DK 11 rfl rfl (cB U) (qu d call45 (lT.mz (Mg a.S d9 e0 d8 g6 g5 j1 _ _ (y.mono BQ.mono (c.trans d.kN)) (z.mono KX.mono (c.trans d.kN)) (u.mono (Pl.mono _) (c.trans d.kN)) (N.mono (Pl.mono _) (c.trans d.kN)) (I.mono (Pl.mono _) (c.trans d.kN)) (M.mono (Pl.mono _) (c.trans d.kN)) n5)) (fun u7 r9 s0 u5 d e5 ag n2 => ?_))))
        have h := d.has.sL (c.trans e5) (Dr (Db (Kb (Kb Sn))))
        refine ⟨h, (bS A fun x8 n6 A => DK 12 rfl rfl (cB U) (Eg d call44 ((DO lE) a.F d4 r9 r8 _ _ (g.mono lZ.mono ((c.trans e5).trans d.kN)) (n2.sl my (fun b o m => d.at_ (Ml m))) n6) (fun u8 d => ?_)))⟩
        have h := d.has.sL (c.trans e5) (Dr (Db (Kb (Kb Sn))))
        refine ⟨h, (X 13 rfl h (kX (cB U) rfl) ?_)⟩
        obtain rfl := sj A
        refine np kr (f5 _ _ ⟨s0, _, e5, (d.kD (Dr St)), j5, j6, m5, m6, rfl⟩)
       refine Xn 9 rfl rfl (cB U) h (Xn 10 rfl rfl (cB U) h (Xn 11 rfl rfl (cB U) h (Xn 12 rfl rfl (cB U) h (X 13 rfl h (kW (cB U) rfl) ?_))))
       obtain rfl := sj A
       refine np kr (f5 _ _ ⟨f2, _, (lb.refl _), (d.kD St), j5, j6, m5, m6, rfl⟩)
      refine bC L (fun T L => ?_) (fun T L => ?_)
      ·refine vA 3 rfl rfl (cB T) h (fun _ q => kE g8 (kL q Mh b8 rfl cx aZ)) (bS L fun x9 n7 L => DK 4 rfl rfl (cB T) (qu d call30 (Gw a.F d4 _ _ (g.mono lZ.mono d.kN) n7) (fun u9 y3 s1 u6 d f4 aE n3 => ?_)))
       have h := d.has.sL f4 (Dr (Db (Kb (Kb Sn))))
       refine ⟨h, (Xg 5 rfl rfl (cB T) h (mR aF rfl n3) (Xg 6 rfl rfl (cB T) h (lK rfl rfl rfl) (X 7 rfl h (kX (cB T) rfl) ?_)))⟩
       obtain rfl := sj L
       refine np kr (f6 _ _ ⟨s1, _, f4, (d.kD (Dr St)), m0, g8, m1, m2, rfl⟩)
      refine Xn 3 rfl rfl (cB T) h (Xn 4 rfl rfl (cB T) h (Xn 5 rfl rfl (cB T) h (Xn 6 rfl rfl (cB T) h (X 7 rfl h (kW (cB T) rfl) ?_))))
      obtain rfl := sj L
      refine np kr (f6 _ _ ⟨(hp w), _, (lb.refl _), (d.kD St), m0, g8, m1, m2, rfl⟩)
     rintro ⟨⟩ E W ⟨j9, l0, c9, d, m3, s9, m4⟩ Z
     refine kV (sg (V (kE s9 (kL d.has Mh d0 rfl eP di)) (Wh m4 (V (kE m3 (kL d.has (Mt Mh) b8 rfl cx aZ)) (bS Z fun au q5 Z => VE (Eg d call34 (uD a.O p5 u3 d1 a.mY a.F d4 K5 _ _ (b6.mono (Pl.mono _) (c9.trans d.kN)) (b5.mono (Pl.mono _) (c9.trans d.kN)) (b1.mono (Pl.mono _) (c9.trans d.kN)) (g.mono lZ.mono (c9.trans d.kN)) q5) (fun z6 d => Wi rfl (ln ?_))))))))
     replace d := d.kD (Db St)
     refine CI Z rfl (fun p7 Z => ?_) (fun p7 Z => ?_)
     ·refine sg (Wa (ln ?_))
      replace d := d.kD (Db St)
      refine lx (lm ?_)
      obtain rfl := sj Z
      exact rP d
     refine kg (Wh m4 (bS Z fun a9 q6 Z => ?_))
     refine VE (IG d (du _) call47 (fun _ _ _ _ => (Kc d1 a.mY _ _ (b1.mono (Pl.mono _) (c9.trans d.kN)) q6)) (fun z7 ba bz y4 d n4 cf cm p3 => ?_) (L0 := []))
     obtain ⟨i8, t6, y7, t7, y8, t8, y9, t9, z0, u0, z1, h3, rfl, r2, r3, r4, r5, r6⟩ := p3
     replace h3 := h3.symm; subst h3
     replace d := d.perm (Tb (Tr (Tr (Tr (Tr (Tr Tn))))))
     refine VE (lD d zeroValue101 (fun z8 i9 d => VO (lh (.pointer (some ⟨i8, 0, none⟩)) (#[(.pointer (some ⟨i8, 0, none⟩))]) d rfl rfl sizeOf101 oc nb rfl (fun z9 d => lr (V (kE m3 (kL d.has (Mt (Mt (Ma (Ma (Ma (Ma (Ma Mh))))))) b8 rfl cx aZ)) (V (tX (by exact pz rfl) rfl) (bS Z fun av q7 Z => VE (Eg d call48 (Fl a.F d4 (.func (.func 49) #[] #[(.pointer (some ⟨i9, 0, none⟩))]) (fun (x : kA) => qw x a9.1 a9.2.1 a9.2.2.1 a9.2.2.2.1 a9.2.2.2.2.1 a9.2.2.2.2.2) _ _ (g.mono lZ.mono ((c9.trans n4).trans d.kN)) ⟨49, #[], #[(.pointer (some ⟨i9, 0, none⟩))], rfl, call49, fun W x r hs hm => (DV x i9 i8 t6 a9.1 t7 a9.2.1 t8 a9.2.2.1 t9 a9.2.2.2.1 u0 a9.2.2.2.2.1 a9.2.2.2.2.2 r W (r2.at (fun b o m => hs _ _ ((fun b o m => d.at_ (Mt (Mt (Ml m)))) b o m))) (r3.sl mT (fun b o m => hs _ _ ((fun b o m => d.at_ (Mt (Mt (Ma (Ml m))))) b o m))) (r4.at (fun b o m => hs _ _ ((fun b o m => d.at_ (Mt (Mt (Ma (Ma (Ml m)))))) b o m))) (r5.at (fun b o m => hs _ _ ((fun b o m => d.at_ (Mt (Mt (Ma (Ma (Ma (Ml m))))))) b o m))) ((r6.GH nA).mono (Pl.mono _) (wW (fun b o m => hs _ _ ((fun b o m => d.at_ (Mt (Mt (Ma (Ma (Ma (Ma (Ml m)))))))) b o m)))) (At.of (hs _ _ (d.at_ (Mt Mh))) _ rfl) (At.of (hs _ _ (d.at_ Mh)) _ rfl) hm).mz⟩ q7) (fun aa d => Wa (ln ?_))))))))))
     exact lx (rQ Z d)
    refine bC P (fun v P => ?_) (fun v P => ?_)
    ·refine un v (un v (un v (V (kX (cB v) rfl) ?_)))
     obtain rfl := sj P
     exact f7 _ _ ⟨_, (d.kD St), l7, l8, l9, j4, rfl⟩
    refine ug v (kM j4) (bS P fun y0 n8 P => qy v (Eg d call11 (lg.mz (wC d1 a.mY _ _ (b1.mono (Pl.mono _) d.kN) n8)) (fun v0 d => ug v (lK rfl rfl rfl) (V (kW (cB v) rfl) ?_))))
    obtain rfl := sj P
    exact f7 _ _ ⟨_, (d.kD St), l7, l8, l9, j4, rfl⟩
   refine bC R (fun s R => ?_) (fun s R => ?_)
   ·refine un s (un s (un s (V (kX (cB s) rfl) ?_)))
    obtain rfl := sj R
    exact f8 _ _ ⟨_, (d.kD St), l4, l5, j3, l6, rfl⟩
   refine ug s (kE j3 (kL d.has Mh d0 rfl eP di)) (bS R fun y1 n9 R => qy s (Eg d call33 (lg.mz (Mw a.O p5 u3 _ _ (b6.mono (Pl.mono _) d.kN) (b5.mono (Pl.mono _) d.kN) n9)) (fun v1 d => ug s (lK rfl rfl rfl) (V (kW (cB s) rfl) ?_))))
   obtain rfl := sj R
   exact f8 _ _ ⟨_, (d.kD St), l4, l5, j3, l6, rfl⟩
  refine bC c1 (fun Q c1 => ?_) (fun Q c1 => ?_)
  ·refine un Q (un Q (un Q (un Q (V (kX (cB Q) rfl) ?_))))
   obtain rfl := sj c1
   exact f9 _ _ ⟨_, (d.kD St), g4, g7, j0, rfl, rfl⟩
  refine ug Q (kE g7 (kL d.has (Mt Mh) b8 rfl cx aZ)) (qy Q (lj (cs := b8.toArray) d (mN rfl) (mJ bZ aZ dp) (fun v2 o3 d => bS c1 fun y2 o0 c1 => qy Q (Eg d call26 ((AE lE) (.slice (some ⟨o3, 0, none⟩) 1 1) ([a.F]) _ _ ((nn.lit lZ (l := [a.F]) (.cons (ys := C1 a.F.Op a.F.K a.F.kA.kI a.F.kA.kU i a.F.Kids.length j) (la.mk ⟨d4, rfl, g⟩) .nil) rfl nb rfl).sl lZ d.kN (fun b o m => (by rw [aN] at m; cases m; exact d.at_ Mh))) o0) (fun v3 d => ug Q (lK rfl rfl rfl) (V (kW (cB Q) rfl) ?_))))))
  obtain rfl := sj c1
  exact f9 _ _ ⟨_, (d.kD (Db St)), g4, g7, j0, rfl, rfl⟩
 refine Ut 8 9 10 kr ⟨_, _, rfl, (.inl rfl), rfl, by decide, ?_⟩ ⟨_, _, rfl, (.inl rfl), rfl, by decide, ?_⟩ ⟨_, _, rfl, (.inl rfl), rfl, by decide, ?_⟩
 ·refine lD d jF (fun v4 o4 d => ?_)
  have h := d.has.kD (Db (Kb Sn))
  refine ⟨h, (Hc 9 10 rfl rfl kr kr kr dc dc rfl rfl d dp dQ (fun W n => (n.kD (Db (Kb Sn)))) (fun W n => (n.kD (Db (Kb Sn)))) (fun W n => (n.kD (Db (Kb Sn)))) (fun v5 o5 o6 d => ?_))⟩
  obtain rfl := sj f1
  refine np kr (e9 _ _ ⟨o4, o5, o6, (.slice none 0 0), (.slice none 0 0), (.slice none 0 0), (.slice none 0 0), (.slice none 0 0), (.slice none 0 0), (.slice none 0 0), (.slice none 0 0), (.slice none 0 0), _, (d.kD (Sb (Pb (Pb Pz)) St)), rfl, rfl, rfl, rfl, rfl, rfl, rfl, (Sl.nil _ _ _), (Fr.nil _), (Sl.nil _ _ _), (Fr.nil _), (Sl.nil _ _ _), (Fr.nil _), (Sl.nil _ _ _), (Fr.nil _), (Sl.nil _ _ _), (Fr.nil _), (Sl.nil _ _ _), (Fr.nil _), (Sl.nil _ _ _), (Fr.nil _), (Sl.nil _ _ _), (Fr.nil _), (Sl.nil _ _ _), (Fr.nil _)⟩)
 ·refine lD d dp (fun v6 o7 d => ?_)
  have h := d.has.kD (Db (Kb Sn))
  refine ⟨h, (Hc 8 10 rfl rfl kr kr kr dc dc rfl rfl d jF dQ (fun W n => (n.kD (Db (Kb Sn)))) (fun W n => (n.kD (Db (Kb Sn)))) (fun W n => (n.kD (Db (Kb Sn)))) (fun v7 o8 o9 d => ?_))⟩
  obtain rfl := sj f1
  refine np kr (e9 _ _ ⟨o8, o7, o9, (.slice none 0 0), (.slice none 0 0), (.slice none 0 0), (.slice none 0 0), (.slice none 0 0), (.slice none 0 0), (.slice none 0 0), (.slice none 0 0), (.slice none 0 0), _, (d.kD (Kb (Sb (Pb Pz) St))), rfl, rfl, rfl, rfl, rfl, rfl, rfl, (Sl.nil _ _ _), (Fr.nil _), (Sl.nil _ _ _), (Fr.nil _), (Sl.nil _ _ _), (Fr.nil _), (Sl.nil _ _ _), (Fr.nil _), (Sl.nil _ _ _), (Fr.nil _), (Sl.nil _ _ _), (Fr.nil _), (Sl.nil _ _ _), (Fr.nil _), (Sl.nil _ _ _), (Fr.nil _), (Sl.nil _ _ _), (Fr.nil _)⟩)
 ·refine lD d dQ (fun v8 p0 d => ?_)
  have h := d.has.kD (Db (Kb Sn))
  refine ⟨h, (Hc 8 9 rfl rfl kr kr kr dc dc rfl rfl d jF dp (fun W n => (n.kD (Db (Kb Sn)))) (fun W n => (n.kD (Db (Kb Sn)))) (fun W n => (n.kD (Db (Kb Sn)))) (fun v9 p1 p2 d => ?_))⟩
  obtain rfl := sj f1
  refine np kr (e9 _ _ ⟨p1, p2, p0, (.slice none 0 0), (.slice none 0 0), (.slice none 0 0), (.slice none 0 0), (.slice none 0 0), (.slice none 0 0), (.slice none 0 0), (.slice none 0 0), (.slice none 0 0), _, (d.kD St), rfl, rfl, rfl, rfl, rfl, rfl, rfl, (Sl.nil _ _ _), (Fr.nil _), (Sl.nil _ _ _), (Fr.nil _), (Sl.nil _ _ _), (Fr.nil _), (Sl.nil _ _ _), (Fr.nil _), (Sl.nil _ _ _), (Fr.nil _), (Sl.nil _ _ _), (Fr.nil _), (Sl.nil _ _ _), (Fr.nil _), (Sl.nil _ _ _), (Fr.nil _), (Sl.nil _ _ _), (Fr.nil _)⟩)
end Go.Proofs.YtbnbdigcbldfhaaGreat
