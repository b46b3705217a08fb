/- a part of a proof of StrandTells -/
import Derived.Test.YtjjjihkifgdhgaaGreatS3W1h
set_option linter.all false
namespace Go.Proofs.YtjjjihkifgdhgaaGreat
open Go.IntKind renaming wrap → wi0
open Go.Proofs.Tryz renaming prog → pg0
open Go.RowKit
set_option maxRecDepth 10000
open Tryz
theorem zo (g : Value) (a0 : List Formula) (x : LO) (Z : Value) (f1 : (Formula × Formula) → Option Bool) (r : List Formula) (w : World) {μ0 : jW} (h0 : ny μ0 (x ++ []) w) (B : kB 30 jt 5 μ0 g a0 x) (d2 : xD pg0 Z μ0 (vC jt jt) (fun (r : Bool) => (.bool r)) f1) (hm : pz a0 f1 = some r) :
  lO false pg0 166 [g, Z] w μ0 (x ++ []) (fun v L1 μ1 => ∃ y1, v = y1 ∧ L1 = [] ∧ Sl jt 5 μ1 y1 (r)) := by
 refine uB h0 66 func166 rfl (fun d => sg (Wa (lS (Wm (V (sG aD rfl B) (Wi rfl (ln (CI hm rfl (fun i3 hm => ?_) (fun i3 hm => ?_)))))))))
 ·refine sg (Wm (Wa (lt (ki ?_))))
  obtain rfl := sj hm
  refine lj (v := g) rfl rfl ?_
  obtain ⟨a1, d, i2, L, j0⟩ := ST.tS jC d B
  exact ⟨_, _, _, rfl, (d.lU Sn), i2, L, (ST.kI d (mz.mem Sn)), g, rfl, rfl, j0⟩
 refine kS (Wa (ln (lz (mX (fun m E W => ∃ t b7, ST false (keys (x ++ [])) w W μ0 (x ++ b7) ∧ E 0 = g ∧ E 1 = Z ∧ E 5 = (.int .i64 t) ∧ mC a0 f1 m t = some r) kd ⟨1, _, (d.jv St), rfl, rfl, rfl, hm⟩ ?_))))
 rintro m E W ⟨t, b7, d, y, a3, G, a⟩
 cases m with
 | zero => rw [mC] at a; cases a
 | succ h1 =>
  refine jL (sg (Wh G (Wh y (V (sG aD rfl B) (Wi rfl (ln (CI a rfl (fun d3 a => ?_) (fun d3 a => ?_))))))))
  ·refine kn (jL (lz (jL ?_)))
   replace d := d.drew
   have h := d.has.jv (Kr Sn)
   refine kO h kp (X 0 rfl h (jz a3) (X 1 rfl h (jz y) (X 2 rfl h (jz G) (bS a fun h7 b2 a => XQ 3 rfl h (lg (i := t) jt.out aD aC rfl rfl B (kk b2) (kj b2)) (fun k1 ⟨_, ⟨h3, rfl, e7⟩, e0, i4⟩ => XH 4 rfl h (fun _ q => jx rfl (jS (nA.hp _) (e0.mono (lR (fun b o p => q.2 b o (Ml p)))) aO aC)) (X 5 rfl h (jz y) (X 6 rfl h (jz G) (X 7 rfl h (kh rfl rfl rfl) (bS a fun h8 b3 a => XQ 8 rfl h (lg (i := (wi0 .i64 (t - 1))) jt.out aD aC rfl rfl B (kk b3) (kj b3)) (fun k2 ⟨_, ⟨h4, rfl, e8⟩, e1, i5⟩ => XH 9 rfl h (fun _ q => jx rfl (jS (nA.hp _) (e1.mono (lR (fun b o p => q.2 b o (Ml p)))) aO aC)) (bS a fun k7 e5 a => XE 10 rfl (yN (h7, h8) d d2 (jX.refl _) (vC.mk jC jC (jt.mk ⟨h3, rfl, e7⟩) (jt.mk ⟨h4, rfl, e8⟩) d.jF) rfl (uW rfl rfl) e5 (fun j6 d => ?_)))))))))))))
   have h := d.has.jv (Kr Sn)
   refine ⟨h, (kP kr (jH (CI a rfl (fun d4 a => ?_) (fun d4 a => ?_))))⟩
   ·refine sg (Wh y (Wh G (bS a fun _ O a => VQ (AP (i := t) aD aC rfl rfl B (uX O) (uS O)) (fun c4 K => Wa (lS (Wa (ln ?_)))))))
    refine CJ a (fun T E W => ∃ a2 b9, ST false (keys (x ++ [])) w W μ0 (a2 ++ b9) ∧ E 0 = g ∧ E 5 = (.int .i64 T.2) ∧ kB 30 jt 5 μ0 g T.1 a2) (fun T d8 => ?_) ?_
    ·refine lz (mX (fun m E W => ∃ a5 J U u c0, ST false (keys (x ++ [])) w W μ0 (J ++ c0) ∧ E 0 = g ∧ E 1 = Z ∧ E 5 = (.int .i64 U) ∧ E 6 = c4 ∧ E 7 = (.int .i64 u) ∧ kB 30 jt 5 μ0 g a5 J ∧ mE t f1 m a5 U u = some T) kd ⟨a0, x, t, 1, _, (d.jv St), y, a3, G, rfl, rfl, B, d8⟩ ?_)
     rintro m E W ⟨a5, J, U, u, c0, d, N, a4, Q, H, I, k, j⟩
     cases m with
     | zero => rw [mE] at j; cases j
     | succ h2 =>
      refine jL (sg (Wh I (Wh H (V (L6 aD rfl K k) (Wi rfl (ln (CI j rfl (fun d5 j => ?_) (fun d5 j => ?_))))))))
      ·refine kn (jL (CJ j (fun s E W => ∃ M c1, ST false (keys (x ++ [])) w W μ0 (M ++ c1) ∧ E 0 = g ∧ E 1 = Z ∧ E 5 = (.int .i64 s.2) ∧ E 6 = c4 ∧ E 7 = (.int .i64 u) ∧ kB 30 jt 5 μ0 g s.1 M) (fun s c => ?_) ?_))
       ·refine lz (jL ?_)
        replace d := d.drew
        have h := d.has.jv (Kr Sn)
        refine kO h kp (X 0 rfl h (jz a4) (X 1 rfl h (jz H) (X 2 rfl h (jz I) (bS c fun i0 b4 c => XQ 3 rfl h (AZ (i := u) jt.out aD aC rfl rfl k K (kk b4) (kj b4)) (fun k3 ⟨_, ⟨h5, rfl, f4⟩, e2, i6⟩ => XH 4 rfl h (fun _ q => jx rfl (jS (nA.hp _) (e2.mono (lR (fun b o p => q.2 b o (Ml p)))) aO aC)) (X 5 rfl h (jz H) (X 6 rfl h (jz I) (X 7 rfl h (kh rfl rfl rfl) (bS c fun i1 b5 c => XQ 8 rfl h (AZ (i := (wi0 .i64 (u - 1))) jt.out aD aC rfl rfl k K (kk b5) (kj b5)) (fun k4 ⟨_, ⟨h6, rfl, f5⟩, e3, i7⟩ => XH 9 rfl h (fun _ q => jx rfl (jS (nA.hp _) (e3.mono (lR (fun b o p => q.2 b o (Ml p)))) aO aC)) (bS c fun k8 e6 c => XE 10 rfl (yN (i0, i1) d d2 (jX.refl _) (vC.mk jC jC (jt.mk ⟨h5, rfl, f4⟩) (jt.mk ⟨h6, rfl, f5⟩) d.jF) rfl (uW rfl rfl) e6 (fun j8 d => ?_)))))))))))))
        have h := d.has.jv (Kr Sn)
        refine ⟨h, (X 11 rfl h (nt rfl) (kP kr (jH (CI c rfl (fun d6 c => ?_) (fun d6 c => ?_)))))⟩
        ·refine sg (Wh N (Wh Q (Wh H (Wh I (bS c fun c7 b6 c => VQ (AZ (i := u) jt.out aD aC rfl rfl k K (kk b6) (kj b6)) (fun k5 ⟨_, ⟨l0, rfl, b1⟩, e4, i8⟩ => V (jx rfl (jS (nA.hp _) (e4.mono (lR (fun b o p => d.has.2 b o (Ml p)))) aO aC)) (bS c fun l2 Y c => VQ (lg (i := U) jt.out aD aC rfl rfl k (kk Y) (kj Y)) (fun k6 ⟨_, ⟨l1, rfl, j3⟩, i9, d7⟩ => ?_))))))))
         obtain ⟨f7, g0, rfl⟩ := b1.form
         refine VO (qI (x1 := c7) jC d k rfl rfl (jt.mk ⟨(.slice f7 c7.Kids.length g0), rfl, b1⟩) d7 (kj Y) aC (fun j9 f8 d d1 => ln (jG (Wh Q (Wi rfl (Wa (jT (kl (jH ?_)))))))))
         obtain rfl := sj c
         exact ⟨f8, _, (d.jv St), N, a4, rfl, H, I, d1⟩
        refine kQ (kl (jH ?_))
        obtain rfl := sj c
        exact ⟨J, _, (d.jv St), N, a4, Q, H, I, k⟩
       rintro ⟨g9, h9⟩ E W ⟨M, c1, d, g1, g2, g3, g4, g7, f3⟩ d9
       exact jG (Wh g7 (Wi rfl (Wa (ln ⟨h2, bn _, g9, M, h9, (wi0 .i64 (u + 1)), _, (d.jv St), g1, g2, g3, g4, rfl, f3, d9⟩))))
      refine mW (mK (mK (qG (jH ?_))))
      obtain rfl := sj j
      exact ⟨J, _, (d.jv St), N, Q, k⟩
    rintro ⟨k0, c6⟩ E W ⟨a2, b9, d, c2, c3, R⟩ D
    refine sg (Wh c2 (Wh c3 (bS D fun _ P D => VQ (AP (i := c6) aD aC rfl rfl R (uX P) (uS P)) (fun k9 e9 => VO (DW (z := (⟨0, 0, K0, []⟩ : Formula)) (zs := C3) jC d R (jt.mk ⟨(.slice none 0 0), rfl, (Sl.nil _ _ _)⟩) aD aQ e9 rfl rfl (fun j7 j5 d d0 => lr (Wh c2 (Wh c3 (bS D fun _ a9 D => VQ (CU (i := c6) aD aC rfl rfl d0 (uX a9) (uS a9)) (fun c5 f0 => ?_))))))))))
    refine Wa (lt (mc (ki (ki (mc (ki ?_))))))
    obtain rfl := sj D
    refine lj (v := c5) rfl rfl ?_
    obtain ⟨l3, d, c8, l, f2⟩ := ST.tS jC d f0
    exact ⟨_, _, _, rfl, (d.lU Sn), c8, l, (ST.kI d (mz.mem Sn)), c5, rfl, rfl, f2⟩
   exact kQ (kl (jH (jG (Wh G (Wi rfl (Wa (ln ⟨h1, bn _, (wi0 .i64 (t + 1)), _, (d.jv St), y, a3, rfl, a⟩)))))))
  refine mW (mK (mK (qG (jH (sg (Wh y (Wa (lt ?_))))))))
  obtain rfl := sj a
  refine lj (v := g) rfl rfl ?_
  obtain ⟨l4, d, c9, n, f6⟩ := ST.tS jC d B
  exact ⟨_, _, _, rfl, (d.lU Sn), c9, n, (ST.kI d (mz.mem Sn)), g, rfl, rfl, f6⟩
theorem qH (G : Value) (N : List Formula) (H : Value) (l : List Formula) (I : Value) (f2 : (Formula × Formula) → Option Bool) (r : Bool) (w : World) (x : Sl jt 5 (hp w) G N) (Q : Sl jt 5 (hp w) H l) (p : xD pg0 I (hp w) (vC jt jt) (fun (r : Bool) => (.bool r)) f2) (hm : mD N l f2 = some r) :
  jZ false pg0 174 [G, H, I] w (.bool r) := by
 refine cG 32 func174 rfl (fun b => sg (Wa (lS (Wm (V (kK aD rfl x) (Wm (V (kK aD rfl Q) (Wi rfl (jT ?_)))))))))
 refine jH (CI hm rfl (fun s hm => ?_) (fun s hm => ?_))
 ·refine sg (Wa (lt (ki ?_)))
  obtain rfl := sj hm
  exact rP b
 refine kS (Wm (V (kK aD rfl x) (Wm (ln (kA (fun i E W => ∃ y, (E 17 = .int .i64 (i : Nat) ∧ E 16 = .int .i64 (N.length : Nat)) ∧ ST false kw w W (hp w) y ∧ E 1 = H ∧ E 2 = I ∧ E 15 = G ∧ kV l f2 (N.drop i) i = some r) N.length x.len ⟨_, ⟨rfl, rfl⟩, (b.jv St), rfl, rfl, rfl, hm⟩ dc dc dc (fun _ _ _ h => by obtain ⟨_, m, _⟩ := h; exact m) ?_ ?_)))))
 ·rintro a4 E W U ⟨y, ⟨d, n⟩, b, z, B, D, a⟩
  obtain ⟨g, c5, a9, q, a3⟩ := ku U
  rw [a9] at a
  refine bg (Wh d (VQ (lI (i := (a4 : Int)) (x0 := g) jt.out aD aC D d x (aG _) q) (fun b9 ⟨_, ⟨c2, rfl, J⟩, Y⟩ => V (jx rfl (jS b.has Y aO aC)) (VE (jU b aQ (fun v b6 b => Wa ?_))))))
  obtain ⟨j, t, rfl⟩ := J.form
  let a0 := (C1 g.Op g.K g.jr.ju g.jr.jy j g.Kids.length t)
  refine VO (jK (.agg a0.toArray) (a0.toArray) b rfl rfl aC oc nb rfl (fun L b => lr (Wh z (Wm (bS a fun c M a => VQ (lI (i := (a4 : Int)) (x0 := c) jt.out aD aC rfl rfl Q (kk M) (kj M)) (fun c0 ⟨_, ⟨c3, rfl, K⟩, Z⟩ => V (jx rfl (jS b.has Z aO aC)) (VE (jU b aQ (fun O b7 b => ?_)))))))))
  obtain ⟨k, u, rfl⟩ := K.form
  let a5 := (C1 c.Op c.K c.jr.ju c.jr.jy k c.Kids.length u)
  refine VO (jK (.agg a5.toArray) (a5.toArray) b rfl rfl aC oc nb rfl (fun P b => lr (Wh B (VA b (Mt Mh) a0 aO aC (VA b Mh a5 aO aC (bS a fun c1 a2 a => VE (yN (g, c) b p (jX.refl _) (vC.mk jC jC (jt.mk ⟨(.slice j g.Kids.length t), rfl, J⟩) (jt.mk ⟨(.slice k c.Kids.length u), rfl, K⟩) b.jF) rfl (uW rfl rfl) a2 (fun R b => V (nt rfl) (ln ?_)))))))))
  replace b := b.jv (Db (Db St))
  refine CI a rfl (fun T a => ?_) (fun T a => ?_)
  ·refine sg (Wa (lt (mc (ki (mc (ki ?_))))))
   obtain rfl := sj a
   exact rP b
  exact kQ (kl (jH ⟨d, _, ⟨rfl, n⟩, (b.jv St), z, B, D, (by rw [a3]; exact a)⟩))
 rintro E W ⟨y, ⟨d, n⟩, b, z, B, D, a⟩
 rw [aM] at a
 exact jH (sg (Wa (lt (rQ a b))))
theorem DP (M : Formula → Formula → Option Bool) (v : ∀ (a : Formula) (j : Value) (c : Formula) (k : Value) (r : Bool) (w : World) (u : Sl jt 5 (hp w) j a.Kids) (y : Sl jt 5 (hp w) k c.Kids), M a c = some r → jZ false pg0 167 [(.agg #[(.int .i64 a.Op), (.int .i64 a.K), (.string a.jr.ju), (.string a.jr.jy), j]), (.agg #[(.int .i64 c.Op), (.int .i64 c.K), (.string c.jr.ju), (.string c.jr.jy), k])] w (.bool r)) (a : Formula) (j : Value) (c : Formula) (k : Value) (r : Bool) (w : World) (u : Sl jt 5 (hp w) j a.Kids) (y : Sl jt 5 (hp w) k c.Kids) (hm : wc M a c = some r) :
  jZ false pg0 167 [(.agg #[(.int .i64 a.Op), (.int .i64 a.K), (.string a.jr.ju), (.string a.jr.jy), j]), (.agg #[(.int .i64 c.Op), (.int .i64 c.K), (.string c.jr.ju), (.string c.jr.jy), k])] w (.bool r) := by
 refine cG 31 func167 rfl (fun b => sg ?_)
 obtain ⟨N, Y, rfl⟩ := u.form
 let d := (C1 a.Op a.K a.jr.ju a.jr.jy N a.Kids.length Y)
 refine VE (kv b rfl (fun W4 T b => ?_))
 obtain ⟨Q, Z, rfl⟩ := y.form
 let a0 := (C1 c.Op c.K c.jr.ju c.jr.jy Q c.Kids.length Z)
 refine VE (kv b rfl (fun W8 U b => Wa (lr (Wf nn (VB b (Mt Mh) rfl rfl bR (Wf nn (VB b Mh rfl rfl bR (Wi rfl (Wm (LJ hm (fun a9 E W => ∃ a2, ST false kw w W (hp w) ((U, Ol a0 30) :: ((T, Ol d 30) :: a2)) ∧ E 2 = (.pointer (some ⟨T, 0, none⟩)) ∧ E 3 = (.pointer (some ⟨U, 0, none⟩)) ∧ E 4 = (.bool false) ∧ E 16 = (.bool a9)) 6 ?_ (fun a9 D I => ?_)))))))))))
 ·rintro d1 E W ⟨a2, b, J, K, a5, L⟩ n
  refine Wh L (LJ n (fun m E W => ∃ a3, ST false kw w W (hp w) ((U, Ol a0 30) :: ((T, Ol d 30) :: a3)) ∧ E 2 = (.pointer (some ⟨T, 0, none⟩)) ∧ E 3 = (.pointer (some ⟨U, 0, none⟩)) ∧ E 4 = (.bool false) ∧ E 23 = (.bool m)) 6 ?_ (fun m B H => ?_))
  ·rintro d2 E W ⟨a3, b, O, P, h, c1⟩ p
   refine Wh c1 (LJ p (fun l E W => ∃ a4, ST false kw w W (hp w) a4 ∧ E 4 = (.bool false) ∧ E 30 = (.bool l)) 6 ?_ (fun l z G => ?_))
   ·rintro d3 E W ⟨a4, b, c9, R⟩ q
    exact Wg R (lt (rQ q b))
   refine bC z (fun i z => ?_) (fun i z => ?_)
   ·refine ug i (jE nm O) (ug i (jx rfl (jJ b.has (Mt Mh) rfl dH)) (ug i (jE nm P) (ug i (jx rfl (jJ b.has Mh rfl dH)) (bS z fun d0 s z => tM i (Eg b call174 (qH (.slice N a.Kids.length Y) a.Kids (.slice Q c.Kids.length Z) c.Kids (.func (.func 167) #[] #[]) (fun (x : (Formula × Formula)) => M x.1 x.2) _ _ (u.mono jC.mono b.jF) (y.mono jC.mono b.jF) ⟨167, #[], #[], rfl, call167, fun W x vs r hs hR hm => by obtain ⟨_, _, rfl, c4, c5⟩ := hR; obtain ⟨u0, rfl, k0⟩ := c4.out; obtain ⟨t0, rfl, j0⟩ := c5.out; exact v x.1 u0 x.2 t0 r W k0 j0 hm⟩ s) (fun c8 b => V (jO (cB i) rfl) ?_))))))
    obtain rfl := sj z
    exact G _ _ ⟨_, (b.jv (Db (Db St))), h, rfl⟩
   refine un i (un i (un i (un i (un i (V (jP (cB i) rfl) ?_)))))
   obtain rfl := sj z
   exact G _ _ ⟨_, (b.jv (Db (Db St))), h, rfl⟩
  refine bC B (fun g B => ?_) (fun g B => ?_)
  ·refine ug g (jE tQ J) (ug g (jx rfl (jD b.has (Mt Mh) (jA a.jr) rfl bG aS)) (ug g (jE tQ K) (ug g (jx rfl (jD b.has Mh (jA c.jr) rfl bG aS)) (ug g (uT rfl rfl (nl dS) (rh (pG _ a.jr c.jr))) (V (jO (cB g) rfl) ?_)))))
   obtain rfl := sj B
   exact H _ _ ⟨_, (b.jv St), J, K, a5, rfl⟩
  refine un g (un g (un g (un g (un g (V (jP (cB g) rfl) ?_)))))
  obtain rfl := sj B
  exact H _ _ ⟨_, (b.jv St), J, K, a5, rfl⟩
 refine bC D (fun t D => ?_) (fun t D => ?_)
 ·refine ug t (jE rG rfl) (ug t (jx rfl (jJ b.has (Mt Mh) rfl bR)) (ug t (jE rG rfl) (ug t (jx rfl (jJ b.has Mh rfl bR)) (ug t (kh rfl rfl rfl) (V (jO (cB t) rfl) ?_)))))
  obtain rfl := sj D
  exact I _ _ ⟨_, (b.jv St), rfl, rfl, rfl, rfl⟩
 refine un t (un t (un t (un t (un t (V (jP (cB t) rfl) ?_)))))
 obtain rfl := sj D
 exact I _ _ ⟨_, (b.jv St), rfl, rfl, rfl, rfl⟩
theorem Ct : ∀ (n : Nat) (g : Formula) (a : Value) (i : Formula) (c : Value) (r : Bool) (w : World) (j : Sl jt 5 (hp w) a g.Kids) (k : Sl jt 5 (hp w) c i.Kids) (_ : nX n g i = some r),
  jZ false pg0 167 [(.agg #[(.int .i64 g.Op), (.int .i64 g.K), (.string g.jr.ju), (.string g.jr.jy), a]), (.agg #[(.int .i64 i.Op), (.int .i64 i.K), (.string i.jr.ju), (.string i.jr.jy), c])] w (.bool r)
 | 0 => by intros; rename_i h; simp only [nX] at h; cases h
 | n + 1 => DP (nX n) (Ct n)
theorem tR (j : Nat) (a0 : kG) (c : Int) (K : Value) (a2 : List Formula) (r : (Formula × kG)) (w : World) {μ0 : jW} (h0 : ny μ0 ((j, Ol (lB a0) 186) :: []) w) (b5 : Sl jt 5 μ0 K a2) (hm : ob a0 c a2 = some r) :
  lO false pg0 152 [(.pointer (some ⟨j, 0, none⟩)), (.int .i64 c), K] w μ0 ((j, Ol (lB a0) 186) :: []) (fun v L1 μ1 => ∃ y1, v = (.agg #[(.int .i64 ((r.1).Op)), (.int .i64 ((r.1).K)), (.string (((r.1).jr).ju)), (.string (((r.1).jr).jy)), y1]) ∧ L1 = ((j, Ol (lB (r.2)) 186) :: []) ∧ Sl jt 5 μ1 y1 ((r.1).Kids)) := by
 refine uB h0 37 func152 rfl (fun b => sg (VE (jU b aQ (fun W2 b1 b => lr (Wm (Wi rfl (VE (jU b iZ (fun W4 q b => VO (jK (.int .i64 (wi0 .i64 (5 - c))) (#[(.int .i64 (wi0 .i64 (5 - c)))]) b rfl rfl dW (wQ _ (wi0 .i64 (5 - c))) nb rfl (fun W5 b => ln (jL ?_))))))))))))
 let a4 := (wi0 .i64 (5 - c))
 let a9 : Value := (.agg (GU a4).toArray)
 refine jG (Wm (Wm (bS hm fun r6 d1 hm => ?_)))
 refine VE (eD b (bT _) call164 (fun n => lO.lG (II c K a2 _ _ n (b5.mono jC.mono (jX.refl _)) d1)) ?_ (L0 := []))
 rintro _ f4 aa e2 b B d ⟨R, H, rfl, a3⟩
 obtain rfl := H.symm
 refine Wa (lS (Wm (V (qJ (by exact ue rfl) rfl) (bS hm fun f3 c1 hm => VE (Eg b call125 (uQ R r6 (.func (.func 165) #[] #[(.pointer (some ⟨q, 0, none⟩))]) (fun (x : Formula) => qD x a4) _ _ (a3.mono jC.mono b.jF) ⟨165, #[], #[(.pointer (some ⟨q, 0, none⟩))], rfl, call165, fun W x vs r hs s hm => by obtain ⟨_, rfl, U⟩ := s; obtain ⟨O, rfl, L⟩ := U.out; exact (Ar x O q a4 r W L (At.of (hs _ _ (b.at_ Mh)) _ rfl) hm).lG⟩ c1) (fun e5 b => ln (CI hm rfl (fun b6 hm => ?_) (fun b6 hm => ?_))))))))
 ·refine sg (VB b Mh rfl rfl bR (V (lf (v := a9) (lM rfl) (kH aQ bA (tq _ bA) kr)) ?_))
  replace b := b.perm (Nb (Pb Pz) Nz)
  refine VO (jK a9 ((GU a4).toArray) b rfl rfl aC oc nb rfl (fun e6 b => ln ?_))
  replace b := b.jv (Kb (Db St))
  refine ke (ki ?_)
  obtain rfl := sj hm
  exact mP (v := a9) rfl rfl (jD b.has Mh (GU a4) rfl aO aC) ⟨_, _, _, rfl, (b.lU (Db (Kb Sn))), B, d, (ST.kI b (mz.mem (Db (Kb Sn)))), (.slice none 0 0), rfl, rfl, (Sl.nil _ _ _)⟩
 refine kn ?_
 replace b := b.jv (Db St)
 refine sg (Wm (bS hm fun d2 c2 hm => ?_))
 refine VE (eD b (bT _) call163 (fun n => (Cl R r6 _ _ n (a3.mono jC.mono (jX.refl _)) c2)) ?_ (L0 := []))
 rintro _ f5 f9 e3 b N h ⟨d5, c7, I, rfl, c4⟩
 obtain rfl := I.symm
 replace b := b.perm (Tr Tn)
 refine bS hm fun z c3 hm => ?_
 refine VE (eD b (Cr Qz Cn) call166 (fun n => (zo d5 d2 c7 (.func (.func 167) #[] #[]) (fun (x : (Formula × Formula)) => nX kd x.1 x.2) _ _ n c4 ⟨167, #[], #[], rfl, call167, fun W x vs r hs s hm => by obtain ⟨_, _, rfl, U, d0⟩ := s; obtain ⟨O, rfl, L⟩ := U.out; obtain ⟨t0, rfl, j0⟩ := d0.out; exact (Ct kd) x.1 O x.2 t0 r W L j0 hm⟩ c3)) ?_)
 rintro _ f6 d7 e4 b Q l ⟨d6, J, rfl, y⟩
 obtain rfl := J.symm
 refine Wa (ln (jL (CJ hm (fun P E W => ∃ a5, ST false (keys ((j, Ol (lB a0) 186) :: [])) w W d7 ((b1, Ol C3 30) :: ((j, Ol (lB P) 186) :: a5)) ∧ E 1 = (.int .i64 c) ∧ E 6 = (.pointer (some ⟨b1, 0, none⟩)) ∧ E 8 = d6) (fun P u => ?_) ?_)))
 ·refine sg (Wm (V (kK aD rfl y) (Wi rfl (ln (CI u rfl (fun b9 u => ?_) (fun b9 u => ?_))))))
  ·refine jG (Wm (Wn (Wf KJ ?_)))
   replace b := b.perm (Nb (Pb Pz) Nz)
   refine VO (jK (.int .i64 12) ((lB (⟨12⟩ : kG)).toArray) b rfl rfl sizeOf96 (wQ _ 12) nb rfl (fun f1 b => ln ?_))
   obtain rfl := sj u
   exact ⟨_, (b.jv (Sb (Pb Pz) St)), rfl, rfl, rfl⟩
  refine kn ?_
  obtain rfl := sj u
  exact ⟨_, (b.jv St), rfl, rfl, rfl⟩
 rintro f8 E W ⟨a5, b, c9, M, T⟩ g
 refine jL (sg (Wh T (V (kK aD rfl y) (Wi rfl (ln (CI g rfl (fun b7 g => ?_) (fun b7 g => ?_)))))))
 ·refine sg (Wh T (bS g fun a Z g => VQ (lI (i := 0) (x0 := a) jt.out aD aC rfl rfl y (kk Z) (kj Z)) (fun f2 ⟨_, ⟨f7, rfl, Y⟩, c0⟩ => V (jx rfl (jS b.has c0 aO aC)) ?_)))
  obtain ⟨D, G, rfl⟩ := Y.form
  let p := (C1 a.Op a.K a.jr.ju a.jr.jy D a.Kids.length G)
  refine VO (jK (.agg p.toArray) (p.toArray) b M rfl aC oc nb rfl (fun e9 b => lt (ki ?_)))
  obtain rfl := sj g
  exact mP (v := (.agg p.toArray)) rfl M (jD b.has Mh p rfl aO aC) ⟨_, _, _, rfl, (b.lU (Db (Kb Sn))), ((B.trans N).trans Q), ((d.trans h).trans l), (ST.kI b (mz.mem (Db (Kb Sn)))), (.slice D a.Kids.length G), rfl, rfl, Y⟩
 refine kg (Wh c9 (Wh T ?_))
 obtain ⟨k, t, rfl⟩ := y.form
 let m := (Ta c k z.length t)
 refine V (lf (v := (.agg m.toArray)) (ov rfl rfl) (kH aQ bA (tq _ bA) kr)) (VO (jK (.agg m.toArray) (m.toArray) b M rfl aC oc nb rfl (fun f0 b => lt ?_)))
 obtain rfl := sj g
 exact mP (v := (.agg m.toArray)) rfl M (jD b.has Mh m rfl aO aC) ⟨_, _, _, rfl, (b.lU (Db (Kb Sn))), ((B.trans N).trans Q), ((d.trans h).trans l), (ST.kI b (mz.mem (Db (Kb Sn)))), (.slice k z.length t), rfl, rfl, y⟩
theorem Aq (G : Nat) (a0 : kG) (a1 : Int) (c2 : Value) (a2 : List Formula) (r : (Formula × kG)) (w : World) {μ0 : jW} (h0 : ny μ0 ((G, Ol (lB a0) 186) :: []) w) (c1 : Sl jt 5 μ0 c2 a2) (hm : qE a0 a1 a2 = some r) :
  lO false pg0 151 [(.pointer (some ⟨G, 0, none⟩)), (.int .i64 a1), c2] w μ0 ((G, Ol (lB a0) 186) :: []) (fun v L1 μ1 => ∃ y1, v = (.agg #[(.int .i64 ((r.1).Op)), (.int .i64 ((r.1).K)), (.string (((r.1).jr).ju)), (.string (((r.1).jr).jy)), y1]) ∧ L1 = ((G, Ol (lB (r.2)) 186) :: []) ∧ Sl jt 5 μ1 y1 ((r.1).Kids)) := by
 let j6 := ((lB a0).toArray : Array Value)
 refine uB h0 58 func151 rfl (fun b => sg (VE (jU b aQ (fun W2 b1 b => lr (Wa (lS (Wm ?_)))))))
 refine V (kK aD rfl c1) (Wm (ln (kA (fun i E W => ∃ x K J N c0, (E 12 = .int .i64 (i : Nat) ∧ E 11 = .int .i64 (a2.length : Nat)) ∧ ST false (keys ((G, Obj.cells j6 186 (0, 0)) :: [])) w W μ0 ((b1, Ol C3 30) :: ((G, Obj.cells j6 186 (0, 0)) :: (N ++ c0))) ∧ E 0 = (.pointer (some ⟨G, 0, none⟩)) ∧ E 1 = (.int .i64 x) ∧ E 6 = (.pointer (some ⟨b1, 0, none⟩)) ∧ E 7 = K ∧ E 10 = c2 ∧ kB 30 jt 5 μ0 K J N ∧ mB a0 (a2.drop i) x J = some r) a2.length c1.len ⟨a1, (.slice none 0 0), ([]), [], _, ⟨rfl, rfl⟩, (b.jv St), rfl, rfl, rfl, rfl, rfl, (kB.nil _ _ _ _), hm⟩ dc dc dc (fun _ _ _ h => by obtain ⟨_, _, _, _, _, aa, _⟩ := h; exact aa) ?_ ?_)))
 ·rintro h2 E W f2 ⟨x, K, J, N, c0, ⟨eI, eN⟩, b, U, H, u, I, b0, D, a⟩
  obtain ⟨c, h8, g8, g7, b7⟩ := ku f2
  rw [g8] at a
  refine bg (VQ (lI (i := (h2 : Int)) (x0 := c) jt.out aD aC b0 eI c1 (aG _) g7) (fun k7 ⟨_, ⟨l0, rfl, Y⟩, f3⟩ => V (jx rfl (jS b.has f3 aO aC)) (VE (jU b aQ (fun i6 k4 b => ?_)))))
  obtain ⟨y, z, rfl⟩ := Y.form
  let j4 : Value := (.slice y c.Kids.length z)
  let b8 := (C1 c.Op c.K c.jr.ju c.jr.jy y c.Kids.length z)
  refine VO (jK (.agg b8.toArray) (b8.toArray) b rfl rfl aC oc nb rfl (fun i7 b => ln (bg (VA b Mh b8 aO aC (bS a fun k8 f4 a => VE (Eg b call160 (jZ.lG (zp c j4 2 _ _ (Y.mono jC.mono b.jF) f4)) (fun i8 b => Wa (ln (CI a rfl (fun e5 a => ?_) (fun e5 a => ?_))))))))))
  ·refine jG (Wh H (Wi rfl (Wa (jT (kl (kl (jH ?_)))))))
   replace b := b.jv (Db St)
   exact ⟨eI, (wi0 .i64 (x - 1)), K, J, N, _, ⟨rfl, eN⟩, (b.jv St), U, rfl, u, I, b0, D, (by rw [b7]; exact a)⟩
  refine sg (VA b Mh b8 aO aC (bS a fun k9 f5 a => VE (Eg b call160 (jZ.lG (zp c j4 3 _ _ (Y.mono jC.mono b.jF) f5)) (fun i9 b => V (nt rfl) (Wa (ln (CI a rfl (fun e6 a => ?_) (fun e6 a => ?_))))))))
  ·refine jG (Wh I (VA b Mh b8 aO aC (VE (jY (cs := b8.toArray) b (lM rfl) (mf aD aC aQ) (fun j0 k5 b => ?_)))))
   replace b := b.perm (Nr (Qb (Qb (Qb (Qb Qz)))) Nz)
   refine bS a fun h3 e7 a => VE (pp (B := N) jC b dc aD lL.1 lL.2.1 rfl lL.2.2.1 lL.2.2.2 rfl rfl D (xt.lit jC (l := [c]) (.cons (ys := C1 c.Op c.K c.jr.ju c.jr.jy y c.Kids.length z) (jt.mk ⟨j4, rfl, Y⟩) .nil) rfl nb (b.at_ (Ma Mh))) e7 (fun j3 h4 g9 b e4 => Wa (jT (kl (kl (jH ?_))))))
   replace b := b.jv (Kr (Db (Db St)))
   exact ⟨eI, x, h4, h3, g9, _, ⟨rfl, eN⟩, (b.jv (Sb (Pr Pz) (Sb (Pr Pz) St))), U, H, u, rfl, b0, e4, (by rw [b7]; exact a)⟩
  refine kQ (kl (kl (jH ?_)))
  replace b := b.jv (Db St)
  exact ⟨eI, x, K, J, N, _, ⟨rfl, eN⟩, (b.jv St), U, H, u, I, b0, D, (by rw [b7]; exact a)⟩
 rintro E W ⟨x, K, J, N, c0, ⟨eI, eN⟩, b, U, H, u, I, b0, D, a⟩
 rw [aM] at a
 refine jH (jL (bg (Wh H (Wi rfl (Wa (ln (CI a rfl (fun e8 a => ?_) (fun e8 a => ?_))))))))
 ·refine sg (bS a fun g f6 a => ?_)
  let j1 : Value := (.string (((g).jr).jy))
  let h7 : Value := (.string (((g).jr).ju))
  refine VE (eD b (bT _) call161 (fun d => lO.lG (Gg  _ _ d  f6)) ?_ (L0 := []))
  rintro _ l1 m2 i0 b c9 m ⟨l6, b2, rfl, c3⟩
  obtain rfl := b2.symm
  obtain ⟨Z, a6, rfl⟩ := c3.form
  let e3 : Value := (.slice Z ((g).Kids).length a6)
  let d9 : Value := (.agg #[(.int .i64 ((g).Op)), (.int .i64 ((g).K)), h7, j1, e3])
  refine VO (jK d9 (#[(.int .i64 ((g).Op)), (.int .i64 ((g).K)), h7, j1, e3]) b u rfl aC oc nb rfl (fun j5 b => ln ?_))
  replace b := b.jv (Kb (Kb (Dr St)))
  refine ke (mc (ki ?_))
  obtain rfl := sj a
  exact mP (v := d9) rfl u (jD b.has Mh [(.int .i64 ((g).Op)), (.int .i64 ((g).K)), h7, j1, e3] rfl aO aC) ⟨_, _, _, rfl, (b.lU (Db (Kb Sn))), c9, m, (ST.kI b (mz.mem (Db (Kb Sn)))), e3, rfl, rfl, c3⟩
 refine sg (Wh H (Wh I (V (sG aD rfl D) (Wi rfl (Wa (ln (CI a rfl (fun e9 a => ?_) (fun e9 a => ?_))))))))
 ·refine sg (bS a fun j f7 a => ?_)
  let j2 : Value := (.string (((j).jr).jy))
  let h9 : Value := (.string (((j).jr).ju))
  refine VE (eD b (bT _) call162 (fun d => lO.lG (Hp  _ _ d  f7)) ?_ (L0 := []))
  rintro _ l2 m3 i1 b d0 n ⟨l7, b3, rfl, c4⟩
  obtain rfl := b3.symm
  obtain ⟨a3, a7, rfl⟩ := c4.form
  let e2 : Value := (.slice a3 ((j).Kids).length a7)
  let d8 : Value := (.agg #[(.int .i64 ((j).Op)), (.int .i64 ((j).K)), h9, j2, e2])
  refine VO (jK d8 (#[(.int .i64 ((j).Op)), (.int .i64 ((j).K)), h9, j2, e2]) b u rfl aC oc nb rfl (fun j7 b => ln ?_))
  replace b := b.jv (Kb (Kb (Dr St)))
  refine ke (mc (ki ?_))
  obtain rfl := sj a
  exact mP (v := d8) rfl u (jD b.has Mh [(.int .i64 ((j).Op)), (.int .i64 ((j).K)), h9, j2, e2] rfl aO aC) ⟨_, _, _, rfl, (b.lU (Db (Kb Sn))), d0, n, (ST.kI b (mz.mem (Db (Kb Sn)))), e2, rfl, rfl, c4⟩
 refine sg (Wh H (Wh I (V (sG aD rfl D) (Wi rfl (Wa (ln (CI a rfl (fun f0 a => ?_) (fun f0 a => ?_))))))))
 ·refine sg (Wh U (Wh I ?_))
  replace b := b.perm (Nr (Qb (Qb Qz)) Nz)
  obtain ⟨m4, b, d1, p, g1⟩ := ST.tS jC b D
  refine bS a fun k f8 a => ?_
  let h5 : Value := (.string (((k.1).jr).jy))
  let g6 : Value := (.string (((k.1).jr).ju))
  refine VE (eD b (Cb (Pb Pz) Cn) call152 (fun d => (tR G a0 2 K J _ _ d (g1.mono jC.mono (jX.refl _)) f8)) ?_)
  rintro _ l3 m5 i2 b d2 q ⟨l8, b4, rfl, c5⟩
  obtain rfl := b4.symm
  replace b := b.perm (Tb Tn)
  obtain ⟨a4, a8, rfl⟩ := c5.form
  let e0 : Value := (.slice a4 ((k.1).Kids).length a8)
  let b9 : Value := (.agg #[(.int .i64 ((k.1).Op)), (.int .i64 ((k.1).K)), g6, h5, e0])
  replace b := b.perm (Nb (Pb Pz) Nz)
  refine VO (jK b9 (#[(.int .i64 ((k.1).Op)), (.int .i64 ((k.1).K)), g6, h5, e0]) b u rfl aC oc nb rfl (fun j9 b => lt (mc (ki ?_))))
  obtain rfl := sj a
  exact mP (v := b9) rfl u (jD b.has Mh [(.int .i64 ((k.1).Op)), (.int .i64 ((k.1).K)), g6, h5, e0] rfl aO aC) ⟨_, _, _, rfl, (b.lU (Db (Kb Sn))), (d1.trans d2), (p.trans q), (ST.kI b (mz.mem (Db (Kb Sn)))), e0, rfl, rfl, c5⟩
 refine sg (Wh H (Wi rfl (Wa (ln (CI a rfl (fun f1 a => ?_) (fun f1 a => ?_))))))
 ·refine sg (Wh U (Wh I ?_))
  replace b := b.perm (Nr (Qb (Qb Qz)) Nz)
  obtain ⟨m6, b, d3, s, g2⟩ := ST.tS jC b D
  refine bS a fun t f9 a => ?_
  let h6 : Value := (.string (((t.1).jr).jy))
  let h1 : Value := (.string (((t.1).jr).ju))
  refine VE (eD b (Cb (Pb Pz) Cn) call152 (fun d => (tR G a0 3 K J _ _ d (g2.mono jC.mono (jX.refl _)) f9)) ?_)
  rintro _ l4 m7 i3 b d4 L ⟨l9, b5, rfl, c6⟩
  obtain rfl := b5.symm
  replace b := b.perm (Tb Tn)
  obtain ⟨a5, a9, rfl⟩ := c6.form
  let e1 : Value := (.slice a5 ((t.1).Kids).length a9)
  let c8 : Value := (.agg #[(.int .i64 ((t.1).Op)), (.int .i64 ((t.1).K)), h1, h6, e1])
  replace b := b.perm (Nb (Pb Pz) Nz)
  refine VO (jK c8 (#[(.int .i64 ((t.1).Op)), (.int .i64 ((t.1).K)), h1, h6, e1]) b u rfl aC oc nb rfl (fun k1 b => lt (mc (ki ?_))))
  obtain rfl := sj a
  exact mP (v := c8) rfl u (jD b.has Mh [(.int .i64 ((t.1).Op)), (.int .i64 ((t.1).K)), h1, h6, e1] rfl aO aC) ⟨_, _, _, rfl, (b.lU (Db (Kb Sn))), (d3.trans d4), (s.trans L), (ST.kI b (mz.mem (Db (Kb Sn)))), e1, rfl, rfl, c6⟩
 refine kQ (kl (jH (sg (Wh H (Wh I ?_)))))
 replace b := b.perm (Nr (Qb (Qb Qz)) Nz)
 obtain ⟨m8, b, d5, O, g3⟩ := ST.tS jC b D
 refine bS a fun T g0 a => ?_
 refine VE (eD b (bT _) call163 (fun d => (Cl K J _ _ d (g3.mono jC.mono (jX.refl _)) g0)) ?_ (L0 := []))
 rintro _ l5 m9 i4 b d6 P ⟨m0, i5, b6, rfl, c7⟩
 obtain rfl := b6.symm
 replace b := b.perm (Tr Tn)
 obtain ⟨M, Q, rfl⟩ := c7.form
 let g5 := (Tc x M T.length Q)
 refine V (lf (v := (.agg g5.toArray)) (ER rfl rfl rfl) (kH aQ bA (tq _ bA) kr)) ?_
 replace b := b.perm (Nb (Pr Pz) Nz)
 refine VO (jK (.agg g5.toArray) (g5.toArray) b u rfl aC oc nb rfl (fun k3 b => lt ?_))
 obtain rfl := sj a
 refine mP (v := (.agg g5.toArray)) rfl u (jD b.has Mh g5 rfl aO aC) ?_
 replace b := b.perm (Nr (Qb Qz) Nz)
 obtain ⟨n0, b, d7, R, g4⟩ := ST.tS jC b c7
 exact ⟨_, _, _, rfl, (b.lU (Db (Kb Sn))), ((d5.trans d6).trans d7), ((O.trans P).trans R), (ST.kI b (mz.mem (Db (Kb Sn)))), (.slice M T.length Q), rfl, rfl, g4⟩
theorem zr (c9 : kG → Formula → Option (Formula × kG)) (e9 : ∀ (u : Nat) (a0 : kG) (a : Formula) (y : Value) (r : (Formula × kG)) (w : World) {μ0 : jW} (h0 : ny μ0 ((u, Ol (lB a0) 186) :: []) w) (x : Sl jt 5 μ0 y a.Kids), c9 a0 a = some r → lO false pg0 134 [(.pointer (some ⟨u, 0, none⟩)), (.agg #[(.int .i64 a.Op), (.int .i64 a.K), (.string a.jr.ju), (.string a.jr.jy), y])] w μ0 ((u, Ol (lB a0) 186) :: []) (fun v L1 μ1 => ∃ P, v = (.agg #[(.int .i64 ((r.1).Op)), (.int .i64 ((r.1).K)), (.string (((r.1).jr).ju)), (.string (((r.1).jr).jy)), P]) ∧ L1 = ((u, Ol (lB (r.2)) 186) :: []) ∧ Sl jt 5 μ1 P ((r.1).Kids))) (u : Nat) (a0 : kG) (a : Formula) (y : Value) (r : (Formula × kG)) (w : World) {μ0 : jW} (h0 : ny μ0 ((u, Ol (lB a0) 186) :: []) w) (x : Sl jt 5 μ0 y a.Kids) (hm : rY c9 a0 a = some r) :
  lO false pg0 134 [(.pointer (some ⟨u, 0, none⟩)), (.agg #[(.int .i64 a.Op), (.int .i64 a.K), (.string a.jr.ju), (.string a.jr.jy), y])] w μ0 ((u, Ol (lB a0) 186) :: []) (fun v L1 μ1 => ∃ P, v = (.agg #[(.int .i64 ((r.1).Op)), (.int .i64 ((r.1).K)), (.string (((r.1).jr).ju)), (.string (((r.1).jr).jy)), P]) ∧ L1 = ((u, Ol (lB (r.2)) 186) :: []) ∧ Sl jt 5 μ1 P ((r.1).Kids)) := by
 let d0 := ((u, Ol (lB a0) 186) :: [])
 refine uB h0 39 func134 rfl (fun b => sg ?_)
 obtain ⟨A1, c2, rfl⟩ := x.form
 let L := (C1 a.Op a.K a.jr.ju a.jr.jy A1 a.Kids.length c2)
 refine VE (kv b rfl (fun W4 b3 b => VE (jU b aQ (fun W6 b5 b => lS (Wf nn (VB b (Mt Mh) rfl rfl bR (Wi rfl (ln (CI hm rfl (fun f8 hm => ?_) (fun f8 hm => ?_))))))))))
 ·refine sg (VA b (Mt Mh) L aO aC (VO (jK (.agg L.toArray) (L.toArray) b rfl rfl aC oc nb rfl (fun W8 b => ln ?_))))
  replace b := b.jv (Kb (Db St))
  refine ke (ki ?_)
  obtain rfl := sj hm
  exact mP (v := (.agg L.toArray)) rfl rfl (jD b.has Mh L rfl aO aC) ⟨_, _, _, rfl, (b.lU (Db (Kb Sn))), (jX.refl _), Lo.refl, (ST.kI b (mz.mem (Db (Kb Sn)))), (.slice A1 a.Kids.length c2), rfl, rfl, x⟩
 refine kg (Wa (lS (Wf nm (VB b (Mt Mh) rfl rfl dH (V (kK aD rfl x) (Wm (jT ?_)))))))
 refine jH (kA (fun i E W => ∃ I H T D J b7, (E 15 = .int .i64 (i : Nat) ∧ E 14 = .int .i64 (a.Kids.length : Nat)) ∧ jX μ0 J ∧ Lo (keys d0) w μ0 J ∧ ST false (keys d0) w W J ((u, Ol (lB D) 186) :: ((b5, Ol C3 30) :: ((b3, Ol L 30) :: (T ++ b7)))) ∧ E 0 = (.pointer (some ⟨u, 0, none⟩)) ∧ E 3 = (.pointer (some ⟨b3, 0, none⟩)) ∧ E 4 = (.pointer (some ⟨b5, 0, none⟩)) ∧ E 5 = I ∧ E 13 = (.slice A1 a.Kids.length c2) ∧ kB 30 jt 5 J I H T ∧ nH c9 a (a.Kids.drop i) H D = some r) a.Kids.length x.len ⟨(.slice none 0 0), ([]), [], a0, μ0, _, ⟨rfl, rfl⟩, (jX.refl _), Lo.refl, (b.jv (Sb (Pb (Pb Pz)) St)), rfl, rfl, rfl, rfl, rfl, (kB.nil _ _ _ _), hm⟩ dc dc dc (fun _ _ _ h => by obtain ⟨_, _, _, _, _, _, aa, _⟩ := h; exact aa) ?_ ?_)
 ·rintro f0 E W d7 ⟨I, H, T, D, J, b7, ⟨eI, eN⟩, z, d, b, a2, a3, G, b0, b9, K, c⟩
  obtain ⟨t, f9, e5, e4, e6⟩ := ku d7
  rw [e5] at c
  refine bg (VQ (lI (i := (f0 : Int)) (x0 := t) jt.out aD aC b9 eI (x.mono jC.mono z) (aG _) e4) (fun h7 ⟨_, ⟨h8, rfl, c0⟩, d8⟩ => V (jx rfl (jS b.has d8 aO aC)) (VE (jU b aQ (fun g3 h5 b => ?_)))))
  obtain ⟨a7, a9, rfl⟩ := c0.form
  let a6 := (C1 t.Op t.K t.jr.ju t.jr.jy a7 t.Kids.length a9)
  refine VO (jK (.agg a6.toArray) (a6.toArray) b rfl rfl aC oc nb rfl (fun g4 b => ln (jG (Wh b0 (Wh a2 (VA b Mh a6 aO aC (bS c fun g d9 c => ?_)))))))
  refine VE (eD b (Cb (Pb Pz) Cn) call134 (fun O => (e9 u D t (.slice a7 t.Kids.length a9) _ _ O (c0.mono jC.mono (jX.refl _)) d9)) ?_)
  rintro _ h9 f4 g0 b b6 m ⟨i2, b1, rfl, c1⟩
  obtain rfl := b1.symm
  replace b := b.perm (Tb Tn)
  obtain ⟨M, U, rfl⟩ := c1.form
  let d1 : Value := (.slice M ((g.1).Kids).length U)
  refine VE (jY (cs := #[(.int .i64 ((g.1).Op)), (.int .i64 ((g.1).K)), (.string (((g.1).jr).ju)), (.string (((g.1).jr).jy)), d1]) b (lM rfl) (mf aD aC aQ) (fun g8 h6 b => ?_))
  replace b := b.perm (Nr (Qb (Qb (Qb (Qb (Qb Qz))))) Nz)
  refine bS c fun f1 d5 c => VE (pp (B := T) jC b dc aD lL.1 lL.2.1 rfl lL.2.2.1 lL.2.2.2 rfl rfl (K.mono jC b6) (xt.lit jC (l := [g.1]) (.cons (ys := [(.int .i64 ((g.1).Op)), (.int .i64 ((g.1).K)), (.string (((g.1).jr).ju)), (.string (((g.1).jr).jy)), d1]) (jt.mk ⟨d1, rfl, c1⟩) .nil) rfl nb (b.at_ (Ma Mh))) d5 (fun g9 f2 e8 b d4 => Wa (jT (kl (jH ?_)))))
  replace b := b.jv (Kr (Db (Kb (Db St))))
  exact ⟨eI, f2, f1, e8, g.2, f4, _, ⟨rfl, eN⟩, (z.trans b6), (d.trans m), (b.jv (Sb (Pr Pz) (Sb (Pr Pz) (Sb (Pr Pz) St)))), a2, a3, G, rfl, b9, d4, (by rw [e6]; exact c)⟩
 rintro E W ⟨I, H, T, D, J, b7, ⟨eI, eN⟩, z, d, b, a2, a3, G, b0, b9, K, c⟩
 rw [aM] at c
 refine jH (jL (sg (V (jE nn a3) (VB b (Mt (Mt Mh)) rfl rfl bR (Wi rfl (ln (CI c rfl (fun d6 c => ?_) (fun d6 c => ?_))))))))
 ·refine sg (Wh a2 (V (jE rG a3) (VB b (Mt (Mt Mh)) rfl rfl bR (Wh b0 ?_))))
  replace b := b.perm (Nr (Qb (Qb (Qb Qz))) Nz)
  obtain ⟨i5, b, c5, n, e2⟩ := ST.tS jC b K
  refine bS c fun j e0 c => ?_
  let f3 : Value := (.string (((j.1).jr).jy))
  let d3 : Value := (.string (((j.1).jr).ju))
  refine VE (eD b (Cb Pz Cn) call151 (fun O => (Aq u D a.K I H _ _ O (e2.mono jC.mono (jX.refl _)) e0)) ?_)
  rintro _ i0 i6 g1 b c6 p ⟨i3, b2, rfl, c3⟩
  obtain rfl := b2.symm
  replace b := b.perm (Tb Tn)
  obtain ⟨N, Y, rfl⟩ := c3.form
  let b8 : Value := (.slice N ((j.1).Kids).length Y)
  let a5 : Value := (.agg #[(.int .i64 ((j.1).Op)), (.int .i64 ((j.1).K)), d3, f3, b8])
  replace b := b.perm (Nb (Pb Pz) Nz)
  refine VO (jK a5 (#[(.int .i64 ((j.1).Op)), (.int .i64 ((j.1).K)), d3, f3, b8]) b G rfl aC oc nb rfl (fun h2 b => ln ?_))
  replace b := b.jv (Kb (Kb (Db St)))
  refine ke (ki ?_)
  obtain rfl := sj c
  exact mP (v := a5) rfl G (jD b.has Mh [(.int .i64 ((j.1).Op)), (.int .i64 ((j.1).K)), d3, f3, b8] rfl aO aC) ⟨_, _, _, rfl, (b.lU (Db (Kb Sn))), ((z.trans c5).trans c6), ((d.trans n).trans p), (ST.kI b (mz.mem (Db (Kb Sn)))), b8, rfl, rfl, c3⟩
 refine kg (Wh a2 (V (jE nn a3) (VB b (Mt (Mt Mh)) rfl rfl bR (Wh b0 ?_))))
 replace b := b.perm (Nr (Qb (Qb (Qb Qz))) Nz)
 obtain ⟨i7, b, c7, q, e3⟩ := ST.tS jC b K
 refine bS c fun k e1 c => ?_
 let f5 : Value := (.int .i64 ((k.1).Op))
 let e7 : Value := (.string (((k.1).jr).jy))
 let d2 : Value := (.string (((k.1).jr).ju))
 refine VE (eD b (Cb Pz Cn) call152 (fun O => (tR u D a.Op I H _ _ O (e3.mono jC.mono (jX.refl _)) e1)) ?_)
 rintro _ i1 i8 g2 b c8 s ⟨i4, b4, rfl, c4⟩
 obtain rfl := b4.symm
 replace b := b.perm (Tb Tn)
 obtain ⟨Q, Z, rfl⟩ := c4.form
 let R : Value := (.slice Q ((k.1).Kids).length Z)
 let a4 : Value := (.agg #[f5, (.int .i64 ((k.1).K)), d2, e7, R])
 replace b := b.perm (Nb (Pb Pz) Nz)
 refine VO (jK a4 (#[f5, (.int .i64 ((k.1).K)), d2, e7, R]) b G rfl aC oc nb rfl (fun h4 b => ln ?_))
 replace b := b.jv (Kb (Kb (Db St)))
 refine ke ?_
 obtain rfl := sj c
 exact mP (v := a4) rfl G (jD b.has Mh [f5, (.int .i64 ((k.1).K)), d2, e7, R] rfl aO aC) ⟨_, _, _, rfl, (b.lU (Db (Kb Sn))), ((z.trans c7).trans c8), ((d.trans q).trans s), (ST.kI b (mz.mem (Db (Kb Sn)))), R, rfl, rfl, c4⟩
theorem xo : ∀ (n : Nat) (c : Nat) (j : kG) (g : Formula) (a : Value) (r : (Formula × kG)) (w : World) {k : jW} (y : ny k ((c, Ol (lB j) 186) :: []) w) (i : Sl jt 5 k a g.Kids) (_ : nc n j g = some r),
  lO false pg0 134 [(.pointer (some ⟨c, 0, none⟩)), (.agg #[(.int .i64 g.Op), (.int .i64 g.K), (.string g.jr.ju), (.string g.jr.jy), a])] w k ((c, Ol (lB j) 186) :: []) (fun v u x => ∃ t, v = (.agg #[(.int .i64 ((r.1).Op)), (.int .i64 ((r.1).K)), (.string (((r.1).jr).ju)), (.string (((r.1).jr).jy)), t]) ∧ u = ((c, Ol (lB (r.2)) 186) :: []) ∧ Sl jt 5 x t ((r.1).Kids))
 | 0 => by intros; rename_i h; simp only [nc] at h; cases h
 | n + 1 => zr (nc n) (xo n)
theorem Fz (c : Formula) (u : Value) (r : (Formula × Int)) (w : World) {Z : jW} (L : ny Z [] w) (k : Sl jt 5 Z u c.Kids) (hm : xJ c = some r) :
  lO false pg0 96 [(.agg #[(.int .i64 c.Op), (.int .i64 c.K), (.string c.jr.ju), (.string c.jr.jy), u])] w Z [] (fun v L1 μ1 => ∃ q, v = (.tuple #[(.agg #[(.int .i64 ((r.1).Op)), (.int .i64 ((r.1).K)), (.string (((r.1).jr).ju)), (.string (((r.1).jr).jy)), q]), (.int .i64 (r.2))]) ∧ L1 = [] ∧ Sl jt 5 μ1 q ((r.1).Kids)) := by
 refine uB L 27 func96 rfl (fun b => sg ?_)
 obtain ⟨H, I, rfl⟩ := k.form
 let n := (C1 c.Op c.K c.jr.ju c.jr.jy H c.Kids.length I)
 refine VE (kv b rfl (fun W4 P b => VE (jU b aQ (fun W6 p b => Wa (lS (VA b (Mt Mh) n aO aC (bS hm fun r7 a5 hm => VE (Eg b call61 (wh c (.slice H c.Kids.length I) _ _ (k.mono jC.mono b.jF) a5) (fun W9 b => V (nt rfl) (ln (CI hm rfl (fun Q hm => ?_) (fun Q hm => ?_))))))))))))
 ·refine sg (V (lf (v := (.agg C3.toArray)) pu (kH aQ bA (tq _ bA) kr)) (VO (jK (.agg C3.toArray) (C3.toArray) b rfl rfl aC oc nb rfl (fun b6 b => Wa (ln ?_)))))
  replace b := b.jv (Kb (Db St))
  refine ke (ki ?_)
  obtain rfl := sj hm
  exact rf (v0 := (.agg C3.toArray)) (v1 := (.int .i64 11)) rfl rfl (jD b.has Mh C3 rfl aO aC) rfl ⟨_, _, _, rfl, (b.lU Sn), (jX.refl _), Lo.refl, (ST.kI b (mz.mem Sn)), (.slice none 0 0), rfl, rfl, (Sl.nil _ _ _)⟩
 refine kg (V (lf (v := (.agg (lB K6).toArray)) pu (kH zeroValue186 iQ (SR _ iQ) kr)) (VE (kv b rfl (fun b7 s b => Wa (lr (Wm (VA b (Mt (Mt Mh)) n aO aC (bS hm fun a U hm => ?_))))))))
 let m : Value := (.int .i64 ((a.1).K))
 let l : Value := (.int .i64 ((a.1).Op))
 let h : Value := (.string (((a.1).jr).jy))
 let a2 : Value := (.string (((a.1).jr).ju))
 refine VE (eD b (Cb Pz Cn) call134 (fun O => ((xo kd) s K6 c (.slice H c.Kids.length I) _ _ O (k.mono jC.mono (jX.refl _)) U)) ?_)
 rintro _ c7 a9 R b D d ⟨c9, y, rfl, z⟩
 obtain rfl := y.symm
 replace b := b.perm (Tb Tn)
 refine VE (jU b aQ (fun c0 K b => ?_))
 obtain ⟨i, j, rfl⟩ := z.form
 let a0 : Value := (.slice i ((a.1).Kids).length j)
 let N : Value := (.agg #[l, m, a2, h, a0])
 refine VO (jK N (#[l, m, a2, h, a0]) b rfl rfl aC oc nb rfl (fun c1 b => ln ?_))
 replace b := b.jv (Kb (Kb (Kb (Db St))))
 refine jL (sg (Wm (Wn (Wf KJ (VB b (Mt Mh) rfl rfl isAgg96 (Wi rfl (Wm (LJ hm (fun M E W => ∃ J, ST false (keys []) w W a9 ((K, Ob #[l, m, a2, h, a0] 30) :: ((p, Ol C3 30) :: J)) ∧ E 2 = (.pointer (some ⟨p, 0, none⟩)) ∧ E 5 = (.pointer (some ⟨K, 0, none⟩)) ∧ E 24 = (.bool M)) 4 ?_ (fun M t G => ?_)))))))))
 ·rintro c8 E W ⟨J, b, B, a3, a4⟩ x
  refine ln (CI x a4 (fun T x => ?_) (fun T x => ?_))
  ·refine sg (V (lf (v := (.agg C3.toArray)) pu (kH aQ bA (tq _ bA) kr)) ?_)
   replace b := b.perm (Nb (Pb Pz) Nz)
   refine VO (jK (.agg C3.toArray) (C3.toArray) b B rfl aC oc nb rfl (fun c3 b => Wa (ln ?_)))
   replace b := b.jv (Kb (Db St))
   refine ke (ki ?_)
   obtain rfl := sj x
   exact rf (v0 := (.agg C3.toArray)) (v1 := (.int .i64 12)) rfl B (jD b.has Mh C3 rfl aO aC) rfl ⟨_, _, _, rfl, (b.lU Sn), D, d, (ST.kI b (mz.mem Sn)), (.slice none 0 0), rfl, rfl, (Sl.nil _ _ _)⟩
  refine kg (V (jx a3 (jD b.has Mh [l, m, a2, h, a0] rfl aO aC)) ?_)
  replace b := b.perm (Nb (Pb Pz) Nz)
  refine VO (jK N (#[l, m, a2, h, a0]) b B rfl aC oc nb rfl (fun c4 b => Wa (ln ?_)))
  replace b := b.jv (Kb (Db St))
  refine ke ?_
  obtain rfl := sj x
  exact rf (v0 := N) (v1 := (.int .i64 0)) rfl B (jD b.has Mh [l, m, a2, h, a0] rfl aO aC) rfl ⟨_, _, _, rfl, (b.lU Sn), D, d, (ST.kI b (mz.mem Sn)), a0, rfl, rfl, z⟩
 refine bC t (fun g t => ?_) (fun g t => ?_)
 ·refine un g (un g (un g (V (jO (cB g) rfl) ?_)))
  obtain rfl := sj t
  exact G _ _ ⟨_, (b.jv (Kb (Db St))), rfl, rfl, rfl⟩
 refine ug g (jx rfl (jD b.has Mh [l, m, a2, h, a0] rfl aO aC)) (bS t fun c6 Y t => tM g (Eg b call61 (wh a.1 a0 _ _ (z.mono jC.mono b.jF) Y) (fun c5 b => ug g (nt rfl) (V (jP (cB g) rfl) ?_))))
 obtain rfl := sj t
 exact G _ _ ⟨_, (b.jv (Kb (Db St))), rfl, rfl, rfl⟩
theorem Iy (a : Formula) (k : Value) (c : Formula) (t : Value) (r : (Formula × Int)) (w : World) {N : jW} (q : ny N [] w) (i : Sl jt 5 N k a.Kids) (j : Sl jt 5 N t c.Kids) (hm : xS a c = some r) :
  lO false pg0 97 [(.agg #[(.int .i64 a.Op), (.int .i64 a.K), (.string a.jr.ju), (.string a.jr.jy), k]), (.agg #[(.int .i64 c.Op), (.int .i64 c.K), (.string c.jr.ju), (.string c.jr.jy), t])] w N [] (fun v Z μ1 => ∃ Y, v = (.tuple #[(.agg #[(.int .i64 ((r.1).Op)), (.int .i64 ((r.1).K)), (.string (((r.1).jr).ju)), (.string (((r.1).jr).jy)), Y]), (.int .i64 (r.2))]) ∧ Z = [] ∧ Sl jt 5 μ1 Y ((r.1).Kids)) := by
 refine uB q 13 func97 rfl (fun b => sg ?_)
 obtain ⟨u, z, rfl⟩ := i.form
 let a3 : Value := (.slice u a.Kids.length z)
 refine VE (kv b rfl (fun W4 W b => ?_))
 obtain ⟨y, G, rfl⟩ := j.form
 let n : Value := (.slice y c.Kids.length G)
 refine VE (kv b rfl (fun W8 b7 b => VE (jU b aQ (fun a5 b9 b => Wa (lr (VA b (Mt (Mt Mh)) (C1 a.Op a.K a.jr.ju a.jr.jy u a.Kids.length z) aO aC (VA b (Mt Mh) (C1 c.Op c.K c.jr.ju c.jr.jy y c.Kids.length G) aO aC (VE (jY (cs := #[(.int .i64 a.Op), (.int .i64 a.K), (.string a.jr.ju), (.string a.jr.jy), a3, (.int .i64 c.Op), (.int .i64 c.K), (.string c.jr.ju), (.string c.jr.jy), n]) b (ov rfl rfl) (mf aD aC aQ) (fun E I b => V (lf (v := (.agg #[(.int .i64 2), (.int .i64 0), (.string zS), (.string zS), (.slice (some ⟨I, 0, none⟩) 2 2)])) (ov rfl rfl) (kH aQ bA (tq _ bA) kr)) ?_))))))))))
 obtain ⟨P, b, K, d, U⟩ := ST.tS (B := [(I, Ob #[(.int .i64 a.Op), (.int .i64 a.K), (.string a.jr.ju), (.string a.jr.jy), a3, (.int .i64 c.Op), (.int .i64 c.K), (.string c.jr.ju), (.string c.jr.jy), n] 30)]) jC b (kB.lit jC (l := [a, c]) (.cons (ys := C1 a.Op a.K a.jr.ju a.jr.jy u a.Kids.length z) (jt.mk ⟨a3, rfl, i⟩) (.cons (ys := C1 c.Op c.K c.jr.ju c.jr.jy y c.Kids.length G) (jt.mk ⟨n, rfl, j⟩) .nil)) rfl nb rfl)
 refine bS hm fun g T hm => ?_
 let p : Value := (.int .i64 ((g.1).Op))
 let a2 : Value := (.string (((g.1).jr).jy))
 let m : Value := (.string (((g.1).jr).ju))
 refine VE (eD b (bT _) call96 (fun s => (Fz (⟨2, 0, K0, [a, c]⟩ : Formula) (.slice (some ⟨I, 0, none⟩) 2 2) _ _ s (U.mono jC.mono (jX.refl _)) T)) ?_ (L0 := []))
 rintro _ a9 R a4 b M h ⟨O, H, rfl, J⟩
 obtain rfl := H.symm
 refine Wx rfl (Wx rfl ?_)
 obtain ⟨x, D, rfl⟩ := J.form
 let a0 : Value := (.slice x ((g.1).Kids).length D)
 let Q : Value := (.agg #[p, (.int .i64 ((g.1).K)), m, a2, a0])
 refine VO (jK Q (#[p, (.int .i64 ((g.1).K)), m, a2, a0]) b rfl rfl aC oc nb rfl (fun L b => Wa (ln ?_)))
 replace b := b.jv (Kb (Db (Db St)))
 refine ke ?_
 obtain rfl := sj hm
 exact rf (v0 := Q) (v1 := (.int .i64 g.2)) rfl rfl (jD b.has Mh [p, (.int .i64 ((g.1).K)), m, a2, a0] rfl aO aC) rfl ⟨_, _, _, rfl, (b.lU Sn), (K.trans M), (d.trans h), (ST.kI b (mz.mem Sn)), a0, rfl, rfl, J⟩
theorem Kq (d1 : Value) (a0 : List Formula) (r : (Formula × Int)) (w : World) {μ0 : jW} (h0 : ny μ0 [] w) (c7 : Sl jt 5 μ0 d1 a0) (hm : vW a0 = some r) :
  lO false pg0 73 [d1] w μ0 [] (fun v L1 μ1 => ∃ y1, v = (.tuple #[(.agg #[(.int .i64 ((r.1).Op)), (.int .i64 ((r.1).K)), (.string (((r.1).jr).ju)), (.string (((r.1).jr).jy)), y1]), (.int .i64 (r.2))]) ∧ L1 = [] ∧ Sl jt 5 μ1 y1 ((r.1).Kids)) := by
 let e5 := (a0.drop (Int.toNat 1))
 refine uB h0 36 func73 rfl (fun b => sg (VE (jU b aQ (fun W2 L b => Wa (lr (Wm (bS hm fun x6 e3 hm => VQ (lI (i := 0) (x0 := x6) jt.out aD aC rfl rfl c7 (kk e3) (kj e3)) (fun p3 ⟨_, ⟨v8, rfl, f2⟩, f1⟩ => V (jx rfl (jS b.has f1 aO aC)) (bS hm fun j e6 hm => ?_)))))))))
 refine VE (eD b (bT _) call96 (fun hh => (Fz x6 v8 _ _ hh (f2.mono jC.mono (jX.refl _)) e6)) ?_ (L0 := []))
 rintro _ i4 a9 i0 b a4 m ⟨i5, b6, rfl, d0⟩
 obtain rfl := b6.symm
 refine Wm (Wx rfl (Wx rfl (VE (jU b aQ (fun i2 O b => ?_)))))
 obtain ⟨c2, c5, rfl⟩ := d0.form
 let d2 : Value := (.slice c2 ((j.1).Kids).length c5)
 refine VO (jK (.agg #[(.int .i64 ((j.1).Op)), (.int .i64 ((j.1).K)), (.string (((j.1).jr).ju)), (.string (((j.1).jr).jy)), d2]) (#[(.int .i64 ((j.1).Op)), (.int .i64 ((j.1).K)), (.string (((j.1).jr).ju)), (.string (((j.1).jr).jy)), d2]) b rfl rfl aC oc nb rfl (fun i3 b => Wa (lS (Wm (bS hm fun _ c8 hm => VQ (BY (i := 1) aD aC rfl rfl (c7.mono jC.mono a4) (uX c8) (uS c8)) (fun f3 b5 => V (kK aD rfl b5.1) (Wm (ln (CJ hm (fun u E W => ∃ q U c3, jX a9 U ∧ Lo (keys []) w a9 U ∧ ST false (keys []) w W U ((O, Ob #[(.int .i64 u.2.1), (.int .i64 u.2.2.1), (.string u.2.2.2.1.ju), (.string u.2.2.2.1.jy), q] 30) :: ((L, Ol C3 30) :: c3)) ∧ E 2 = (.pointer (some ⟨L, 0, none⟩)) ∧ E 4 = (.pointer (some ⟨O, 0, none⟩)) ∧ E 5 = (.int .i64 u.1) ∧ Sl jt 5 U q u.2.2.2.2) (fun u d7 => ?_) ?_)))))))))
 ·refine kA (fun i E W => ∃ s G H y x N z R, (E 18 = .int .i64 (i : Nat) ∧ E 17 = .int .i64 (e5.length : Nat)) ∧ jX a9 z ∧ Lo (keys []) w a9 z ∧ ST false (keys []) w W z ((O, Ob #[(.int .i64 G), (.int .i64 H), (.string y.ju), (.string y.jy), x] 30) :: ((L, Ol C3 30) :: R)) ∧ E 2 = (.pointer (some ⟨L, 0, none⟩)) ∧ E 4 = (.pointer (some ⟨O, 0, none⟩)) ∧ E 5 = (.int .i64 s) ∧ E 16 = f3 ∧ Sl jt 5 z x N ∧ tF (e5.drop i) s G H y N = some u) e5.length b5.1.len ⟨j.2, ((j.1).Op), ((j.1).K), ((j.1).jr), d2, ((j.1).Kids), a9, _, ⟨rfl, rfl⟩, (jX.refl _), Lo.refl, (b.jv St), rfl, rfl, rfl, rfl, d0, d7⟩ dc dc dc (fun _ _ _ h => by obtain ⟨_, _, _, _, _, _, _, _, aa, _⟩ := h; exact aa) ?_ ?_
  ·rintro e7 E W d6 ⟨s, G, H, y, x, N, z, R, ⟨eI, eN⟩, t, d, b, a2, D, a3, b4, I, c⟩
   obtain ⟨a, f6, e1, e0, e2⟩ := ku d6
   rw [e1] at c
   refine bg (VQ (lI (i := (e7 : Int)) (x0 := a) jt.out aD aC b4 eI (b5.1.mono jC.mono t) (aG _) e0) (fun h1 ⟨_, ⟨h4, rfl, c0⟩, d8⟩ => V (jx rfl (jS b.has d8 aO aC)) (VE (jU b aQ (fun g2 g8 b => ?_)))))
   obtain ⟨Y, Z, rfl⟩ := c0.form
   let b8 := (C1 a.Op a.K a.jr.ju a.jr.jy Y a.Kids.length Z)
   refine VO (jK (.agg b8.toArray) (b8.toArray) b rfl rfl aC oc nb rfl (fun g3 b => lS (Wh a3 (Wi rfl (ln (CI c rfl (fun d5 c => ?_) (fun d5 c => ?_)))))))
   ·refine mW (mK (RU (by simp) (mK (qG (jH ?_)))))
    obtain rfl := sj c
    exact ⟨x, z, _, t, d, (b.jv (Db St)), a2, D, a3, I⟩
   refine kn (jG (V (jx D (jD b.has (Mt Mh) [(.int .i64 G), (.int .i64 H), (.string y.ju), (.string y.jy), x] rfl aO aC)) (VA b Mh b8 aO aC (bS c fun g d9 c => ?_))))
   refine VE (eD b (bT _) call97 (fun hh => (Iy (⟨G, H, y, N⟩ : Formula) x a (.slice Y a.Kids.length Z) _ _ hh (I.mono jC.mono (jX.refl _)) (c0.mono jC.mono (jX.refl _)) d9)) ?_ (L0 := []))
   rintro _ h5 f0 f9 b c9 n ⟨h8, a5, rfl, c1⟩
   obtain rfl := a5.symm
   refine Wm (Wx rfl (Wx rfl ?_))
   obtain ⟨b0, b3, rfl⟩ := c1.form
   let d3 : Value := (.slice b0 ((g.1).Kids).length b3)
   replace b := b.perm (Nb (Pb Pz) Nz)
   refine VO (jK (.agg #[(.int .i64 ((g.1).Op)), (.int .i64 ((g.1).K)), (.string (((g.1).jr).ju)), (.string (((g.1).jr).jy)), d3]) (#[(.int .i64 ((g.1).Op)), (.int .i64 ((g.1).K)), (.string (((g.1).jr).ju)), (.string (((g.1).jr).jy)), d3]) b D rfl aC oc nb rfl (fun g7 b => Wa (jT (kl (jH ?_)))))
   replace b := b.jv (Kb (Db St))
   exact ⟨eI, g.2, ((g.1).Op), ((g.1).K), ((g.1).jr), d3, ((g.1).Kids), f0, _, ⟨rfl, eN⟩, (t.trans c9), (d.trans n), (b.jv St), a2, D, rfl, b4, c1, (by rw [e2]; exact c)⟩
  rintro E W ⟨s, G, H, y, x, N, z, R, ⟨eI, eN⟩, t, d, b, a2, D, a3, b4, I, c⟩
  rw [aM] at c
  refine jH ?_
  obtain rfl := sj c
  exact ⟨x, z, _, t, d, (b.jv St), a2, D, a3, I⟩
 rintro ⟨e8, Q, T, k, M⟩ E W ⟨q, U, c3, a8, l, b, p, e4, c6, b9⟩ B
 refine jL (sg (Wh c6 (Wi rfl (ln (CI B rfl (fun d4 B => ?_) (fun d4 B => ?_))))))
 ·refine sg (V (lf (v := (.agg C3.toArray)) pu (kH aQ bA (tq _ bA) kr)) (Wh c6 ?_))
  replace b := b.perm (Nb (Pb Pz) Nz)
  refine VO (jK (.agg C3.toArray) (C3.toArray) b p rfl aC oc nb rfl (fun g0 b => Wa (ln ?_)))
  replace b := b.jv (Kb (Db St))
  refine ke (ki ?_)
  obtain rfl := sj B
  exact rf (v0 := (.agg C3.toArray)) (v1 := (.int .i64 e8)) rfl p (jD b.has Mh C3 rfl aO aC) rfl ⟨_, _, _, rfl, (b.lU Sn), (a4.trans a8), (m.trans l), (ST.kI b (mz.mem Sn)), (.slice none 0 0), rfl, rfl, (Sl.nil _ _ _)⟩
 refine kg (V (jx e4 (jD b.has Mh [(.int .i64 Q), (.int .i64 T), (.string k.ju), (.string k.jy), q] rfl aO aC)) ?_)
 obtain ⟨J, K, rfl⟩ := b9.form
 let P := (C1 Q T k.ju k.jy J M.length K)
 replace b := b.perm (Nb (Pb Pz) Nz)
 refine VO (jK (.agg P.toArray) (P.toArray) b p rfl aC oc nb rfl (fun g1 b => Wa (ln ?_)))
 replace b := b.jv (Kb (Db St))
 refine ke ?_
 obtain rfl := sj B
 exact rf (v0 := (.agg P.toArray)) (v1 := (.int .i64 0)) rfl p (jD b.has Mh P rfl aO aC) rfl ⟨_, _, _, rfl, (b.lU Sn), (a4.trans a8), (m.trans l), (ST.kI b (mz.mem Sn)), (.slice J M.length K), rfl, rfl, b9⟩
theorem Mv (k : kL) (G H : Value) (p : js) (r : (Formula × Int)) (w : World) {μ0 : jW} (h0 : ny μ0 [] w) (t : Sl kz 15 μ0 G k.jN) (y : Sl lF 8 μ0 H k.ky) (hm : Au k p = some r) :
  lO false pg0 44 [(.agg #[(.string k.Name), G, H]), (.agg (jw p).toArray)] w μ0 [] (fun v L1 μ1 => ∃ y1, v = (.tuple #[(.agg #[(.int .i64 ((r.1).Op)), (.int .i64 ((r.1).K)), (.string (((r.1).jr).ju)), (.string (((r.1).jr).jy)), y1]), (.int .i64 (r.2))]) ∧ L1 = [] ∧ Sl jt 5 μ1 y1 ((r.1).Kids)) := by
 refine uB h0 41 func44 rfl (fun b => sg ?_)
 obtain ⟨A1, c2, rfl⟩ := t.form
 obtain ⟨A3, c4, rfl⟩ := y.form
 let f5 := (C9 k.Name A1 k.jN.length c2 A3 k.ky.length c4)
 refine VE (kv b rfl (fun W6 b5 b => VE (kv b rfl (fun W8 b7 b => VE (jU b aQ (fun i4 b9 b => Wa (lr (VA b (Mt (Mt Mh)) f5 ir fT (VA b (Mt Mh) (jw p) bQ aN (bS hm fun a e7 hm => ?_))))))))))
 let b8 : Value := (.int .i64 (((a.1).jB).K))
 let q : Value := (.int .i64 (((a.1).jB).Op))
 let b1 := (((a.1).jB).jr)
 let s : Value := (.string (b1.jy))
 let d8 : Value := (.string (b1.ju))
 let a0 := (((a.1).Signed).js)
 refine VE (eD b (bT _) call71 (fun L => (J9 k (.slice A1 k.jN.length c2) (.slice A3 k.ky.length c4) p _ _ L (t.mono kC.mono (jX.refl _)) (y.mono mI.mono (jX.refl _)) e7)) ?_ (L0 := []))
 rintro _ j4 j8 i2 b I d ⟨j6, j7, a5, rfl, e9, c5⟩
 obtain rfl := a5.symm
 refine Wm (Wx rfl (Wx rfl (VE (jU b fD (fun i6 j3 b => ?_)))))
 obtain ⟨d9, e1, rfl⟩ := e9.form
 let f8 : Value := (.slice d9 (((a.1).Signed).Tag).length e1)
 obtain ⟨z, D, rfl⟩ := c5.form
 let a2 : Value := (.slice z (((a.1).jB).Kids).length D)
 refine VO (jK (.agg #[(.int .i64 (a0.Kind)), (.string ((a0.Head).ju)), (.string ((a0.Head).jy)), (.string (a0.kE)), (.string ((a0.B).ju)), (.string ((a0.B).jy)), (.string ((a0.C).ju)), (.string ((a0.C).jy)), (.string (a0.kM)), f8, q, b8, d8, s, a2]) (#[(.int .i64 (a0.Kind)), (.string ((a0.Head).ju)), (.string ((a0.Head).jy)), (.string (a0.kE)), (.string ((a0.B).ju)), (.string ((a0.B).jy)), (.string ((a0.C).ju)), (.string ((a0.C).jy)), (.string (a0.kM)), f8, q, b8, d8, s, a2]) b rfl rfl dT oc nb rfl (fun i7 b => Wa (lS (Wm (V (nt rfl) (ln (CI hm rfl (fun e6 hm => ?_) (fun e6 hm => ?_))))))))
 ·refine sg (V (lf (v := (.agg C3.toArray)) pu (kH aQ bA (tq _ bA) kr)) ?_)
  replace b := b.perm (Nb (Pb Pz) Nz)
  refine VO (jK (.agg C3.toArray) (C3.toArray) b rfl rfl aC oc nb rfl (fun i8 b => Wa (ln ?_)))
  replace b := b.jv (Kb (Db (Db (Db St))))
  refine ke (ki ?_)
  obtain rfl := sj hm
  exact rf (v0 := (.agg C3.toArray)) (v1 := (.int .i64 42)) rfl rfl (jD b.has Mh C3 rfl aO aC) rfl ⟨_, _, _, rfl, (b.lU Sn), I, d, (ST.kI b (mz.mem Sn)), (.slice none 0 0), rfl, rfl, (Sl.nil _ _ _)⟩
 refine kg (Wf JR (VA b Mh [q, b8, d8, s, a2] aO aC (VE (jY (cs := #[q, b8, d8, s, a2]) b (lM rfl) (mf aD aC aQ) (fun i9 e0 b => Wa (ln ?_))))))
 replace b := b.jv (Kb (Db St))
 refine jL (sg (VA b (Mt (Mt (Mt Mh))) f5 ir fT (VA b (Mt (Mt Mh)) (jw p) bQ aN (bS hm fun c6 e8 hm => ?_))))
 refine VE (eD b (bT _) call72 (fun L => (IJ k (.slice A1 k.jN.length c2) (.slice A3 k.ky.length c4) p _ _ L (t.mono kC.mono I) (y.mono mI.mono I) e8)) ?_ (L0 := []))
 rintro _ j5 e2 i3 b a8 O ⟨f6, a6, rfl, R⟩
 obtain rfl := a6.symm
 refine V (kK dx rfl R) (Wm (ln ?_))
 replace b := b.jv (Kb (Kb (Db (Db St))))
 replace b := b.Ey
 refine kA (fun i E W => ∃ Q N K Z, (E 27 = .int .i64 (i : Nat) ∧ E 26 = .int .i64 (c6.length : Nat)) ∧ ST false (keys []) w W e2 ((b9, Ol C3 30) :: (K ++ Z)) ∧ E 4 = (.pointer (some ⟨b9, 0, none⟩)) ∧ E 8 = Q ∧ E 25 = f6 ∧ kB 30 jt 5 e2 Q N K ∧ uk (c6.drop i) N = some r) c6.length R.len ⟨(.slice (some ⟨e0, 0, none⟩) 1 1), ([(a.1).jB]), [(e0, Ob #[q, b8, d8, s, a2] 30)], _, ⟨rfl, rfl⟩, (b.jv (Sb (Pr Pz) St)), rfl, rfl, rfl, (kB.lit jC (l := [(a.1).jB]) (.cons (ys := [q, b8, d8, s, a2]) (jt.mk ⟨a2, rfl, (c5.mono jC.mono a8)⟩) .nil) rfl nb rfl), hm⟩ dc dc dc (fun _ _ _ h => by obtain ⟨_, _, _, _, aa, _⟩ := h; exact aa) ?_ ?_
 ·rintro f0 E W d0 ⟨Q, N, K, Z, ⟨eI, eN⟩, b, T, a3, a4, U, j⟩
  obtain ⟨c, f7, d6, d5, d7⟩ := ku d0
  rw [d6] at j
  refine bg (VQ (lI (i := (f0 : Int)) (x0 := c) lF.out dx ee a4 eI R (aG _) d5) (fun h2 ⟨_, ⟨h5, h6, rfl, a9, d3⟩, d1⟩ => V (jx rfl (jS b.has d1 jq ee)) (VE (jU b gV (fun g0 g8 b => ?_)))))
  obtain ⟨u, x, rfl⟩ := a9.form
  let c7 := (C1 c.jB.Op c.jB.K c.jB.jr.ju c.jB.jr.jy u c.jB.Kids.length x)
  obtain ⟨b2, b6, rfl⟩ := d3.form
  let c0 := (C8 c.jr.ju c.jr.jy c.jB.Op c.jB.K c.jB.jr.ju c.jB.jr.jy u c.jB.Kids.length x b2 c.mu.length b6)
  refine VO (jK (.agg c0.toArray) (c0.toArray) b rfl rfl ee oc nb rfl (fun g1 b => ln (jG (Wh a3 (Wf JL (VA b Mh c7 aO aC (VE (jY (cs := c7.toArray) b (lM rfl) (mf aD aC aQ) (fun g2 g9 b => ?_)))))))))
  replace b := b.perm (Nr (Qb (Qb (Qb Qz))) Nz)
  refine bS j fun f1 c9 j => VE (pp (B := K) jC b dc aD lL.1 lL.2.1 rfl lL.2.2.1 lL.2.2.2 rfl rfl U (xt.lit jC (l := [c.jB]) (.cons (ys := C1 c.jB.Op c.jB.K c.jB.jr.ju c.jB.jr.jy u c.jB.Kids.length x) (jt.mk ⟨(.slice u c.jB.Kids.length x), rfl, a9⟩) .nil) rfl nb (b.at_ (Ma Mh))) c9 (fun g3 f2 e3 b c8 => Wa (jT (kl (jH ?_)))))
  replace b := b.jv (Kr (Db (Db St)))
  exact ⟨eI, f2, f1, e3, _, ⟨rfl, eN⟩, (b.jv (Sb (Pr Pz) St)), T, rfl, a4, c8, (by rw [d7]; exact j)⟩
 rintro E W ⟨Q, N, K, Z, ⟨eI, eN⟩, b, T, a3, a4, U, j⟩
 rw [aM] at j
 refine jH (sg (Wh a3 ?_))
 replace b := b.perm (Nr (Qb Qz) Nz)
 obtain ⟨i0, b, c1, m, d4⟩ := ST.tS jC b U
 refine bS j fun g d2 j => ?_
 let g4 : Value := (.int .i64 ((g.1).Op))
 let f4 : Value := (.string (((g.1).jr).jy))
 let f3 : Value := (.string (((g.1).jr).ju))
 refine VE (eD b (bT _) call73 (fun L => (Kq Q N _ _ L (d4.mono jC.mono (jX.refl _)) d2)) ?_ (L0 := []))
 rintro _ h7 i1 f9 b c3 n ⟨h8, Y, rfl, b0⟩
 obtain rfl := Y.symm
 refine Wx rfl (Wx rfl ?_)
 obtain ⟨J, M, rfl⟩ := b0.form
 let P : Value := (.slice J ((g.1).Kids).length M)
 let b4 : Value := (.agg #[g4, (.int .i64 ((g.1).K)), f3, f4, P])
 refine VO (jK b4 (#[g4, (.int .i64 ((g.1).K)), f3, f4, P]) b T rfl aC oc nb rfl (fun g7 b => Wa (lt ?_)))
 obtain rfl := sj j
 exact rf (v0 := b4) (v1 := (.int .i64 g.2)) rfl T (jD b.has Mh [g4, (.int .i64 ((g.1).K)), f3, f4, P] rfl aO aC) rfl ⟨_, _, _, rfl, (b.lU Sn), (((I.trans a8).trans c1).trans c3), (((d.trans O).trans m).trans n), (ST.kI b (mz.mem Sn)), P, rfl, rfl, b0⟩
theorem GQ (N : jr) (Q D : Nat) (t : Value) (B : List (jr × (List (ByteArray × Bool)))) (a : Value) (j : List js) (i : Value) (z : List (jr × (List js))) (c : Value) (k : List (ByteArray × (List js))) (g : Value) (u : List jM) (I : Int) (T : Nat) (Y : ByteArray) (r : Bool) (w : World) (M : pD (fun (x : jr) => (.agg (jA x).toArray)) (lN Value.string (fun (x : Bool) => (Value.bool x))) (hp w) t B) (G : Sl (Pl jw) 9 (hp w) a j) (K : pD (fun (x : jr) => (.agg (jA x).toArray)) (jV 49 jw 9) (hp w) i z) (H : pD Value.string (jV 49 jw 9) (hp w) c k) (J : Sl (Pl kq) 3 (hp w) g u) (U : At (hp w) (.pointer (some ⟨D, 0, none⟩)) [t, a, i, c, g, (.int .i64 I)]) (Z : At (hp w) (.pointer (some ⟨Q, 0, none⟩)) [(.pointer (some ⟨D, 0, none⟩))]) (d : At (hp w) (.pointer (some ⟨T, 0, none⟩)) [(.string Y)]) (hm : pQ N B j z k u I Y = some r) :
  jZ true pg0 70 [(.agg (jA N).toArray), (.pointer (some ⟨Q, 0, none⟩)), (.pointer (some ⟨T, 0, none⟩))] w (.bool r) := by
 refine cG 9 func70 rfl (fun b => sg (VE (kv b rfl (fun W2 h b => Wa (lr (V (jx rfl (ni b.has (y := (.pointer (some ⟨D, 0, none⟩))) Z isAgg106)) (VA b Mh (jA N) bG aS (V (jx rfl (ni b.has (y := (.string Y)) d bV)) (bS hm fun l a2 hm => VE (Eg b call60 (A0 D t B a j i z c k g u I N Y _ _ (M.mono b.jF) (G.mono (Pl.mono _) b.jF) (K.mono b.jF) (H.mono b.jF) (J.mono (Pl.mono _) b.jF) (U.mono b.jF) a2) (fun W5 b => Wa ?_)))))))))))
 refine ln ?_
 exact ke (rQ hm b)
theorem DQ (g : Value) (i r : List js) (w : World) (a : Sl (Pl jw) 9 (hp w) g i) (hm : rE i = some r) :
  lC true pg0 45 [g] w 49 jw 9 r := by
 unfold rE at hm
 refine wm 8 func45 rfl (fun b => sg (Wa (lS (Wm ?_))))
 obtain ⟨y, B, rfl⟩ := a.form
 refine V (Bm aH rfl rfl) (ln ?_)
 rcases y with _ | z
 ·have u := a.isNil
  replace hm : some [] = some r := by rw [u] at hm; simpa [mn, maxLen] using hm
  refine wT (rfl) (sg (Wa (lt (ki ?_))))
  obtain rfl := sj hm
  exact lj (v := (.slice none 0 0)) rfl rfl ⟨_, [], rfl, b.oa (fun p d => by cases d) (by simp), jV.nil _ _ _⟩
 ·refine tw (rfl) (kg (VE (jY (cs := #[]) b pu (xm [] aH aN cK dc rfl (by simp) rfl rfl) (fun G k b => Wm (bS hm fun H t hm => VE (mR (enc := jw) (v := (.slice (some ⟨k, 0, none⟩) 0 0)) (vs := (.slice (some z) i.length B)) (R := [(k, Ob #[] 49)]) b kc dc mH aH lh.1 lh.2.1 rfl lh.2.2.1 lh.2.2.2 rfl rfl (jV.lit (l := []) (enc := jw) rfl dc rfl rfl) (a.mono (Pl.mono _) b.jF) t (fun D x j b c => Wa (lt ?_))))))))
  obtain rfl := sj hm
  exact lj (v := x) rfl rfl ⟨_, j, rfl, b.oa (fun p d => (Ml d)) c.nd, c⟩
theorem Bi (g : Value) (t : List js) (j : Value) (B : js → Option Bool) (r : Int) (w : World) (c : Sl (Pl jw) 9 (hp w) g t) (D : zZ pg0 j (hp w) (fun (x : js) => [(.agg (jw x).toArray)]) (fun (r : Bool) => (.bool r)) B) (hm : uj t B = some r) :
  jZ false pg0 69 [g, j] w (.int .i64 r) := by
 refine cG 19 func69 rfl (fun b => sg (Wa (lS (Wm (V (kK aH rfl c) (Wm (ln (kA (fun i E W => ∃ k, (E 8 = .int .i64 (i : Nat) ∧ E 7 = .int .i64 (t.length : Nat)) ∧ ST false kw w W (hp w) k ∧ E 0 = g ∧ E 1 = j ∧ oH B (t.drop i) i = some r) t.length c.len ⟨_, ⟨rfl, rfl⟩, (b.jv St), rfl, rfl, hm⟩ dc dc dc (fun _ _ _ h => by obtain ⟨_, l, _⟩ := h; exact l) ?_ ?_))))))))
 ·rintro Q E W H ⟨k, ⟨d, m⟩, b, u, y, a⟩
  obtain ⟨z, T, M, K, N⟩ := ku H
  rw [M] at a
  refine bg (Wh d (Wa (lr (Wh y (Wh u (Wm (VQ (mZ (enc := jw) (i := (Q : Int)) (x0 := z) aH aN rfl rfl c (aG _) K) (fun Y I => V (jx rfl (jS b.has I bQ aN)) (bS a fun Z J a => ?_)))))))))
  refine VE (O2 z b D (jX.refl _) rfl (ue rfl) J (fun U b => ln (CI a rfl (fun G a => ?_) (fun G a => ?_))))
  ·refine sg (Wm (Wa (lt (mc (ki (mc (ki ?_)))))))
   obtain rfl := sj a
   exact rP b
  exact kQ (kl (jH ⟨d, _, ⟨rfl, m⟩, (b.jv St), u, y, (by rw [N]; exact a)⟩))
 rintro E W ⟨k, ⟨d, m⟩, b, u, y, a⟩
 rw [aM] at a
 exact jH (sg (Wa (lt (rQ a b))))
theorem wN (j : Value) (a0 : List js) (t : LO) (H : Value) (f1 : js → Option Bool) (r : List js) (w : World) {μ0 : jW} (h0 : ny μ0 (t ++ []) w) (T : jV 49 jw 9 j a0 t) (a4 : zZ pg0 H μ0 (fun (x : js) => [(.agg (jw x).toArray)]) (fun (r : Bool) => (.bool r)) f1) (hm : pk a0 f1 = some r) :
  kR false pg0 41 [j, H] w (t ++ []) (fun v L1 W' => ∃ q S2, v = q ∧ L1 = (S2 ++ []) ∧ jV 49 jw 9 q r S2) := by
 refine yF h0 42 func41 rfl (fun d => sg (Wa (lr (Wm (Wm (bS hm fun n d3 hm => VE (Eg d call69 (Bi j a0 H f1 _ _ (T.sl kc (fun b o h => d.at_ (Ml h))) (a4.mono d.jF) d3) (fun W3 d => Wa (ln ?_)))))))))
 refine jL (sg (Wm (Wi rfl (ln (CI hm rfl (fun d2 hm => ?_) (fun d2 hm => ?_))))))
 ·refine sg (Wm (Wa (lt (ki ?_))))
  obtain rfl := sj hm
  exact lj (v := j) rfl rfl ⟨_, _, rfl, (d.lU (Kr Sn)), j, t, rfl, rfl, T⟩
 refine kS (Wm (Wi rfl (Wa (ln (lz (mX (fun m E W => ∃ U I B D a2, ST false (keys (t ++ [])) w W μ0 (I ++ a2) ∧ E 0 = j ∧ E 1 = H ∧ E 5 = (.int .i64 B) ∧ E 6 = (.int .i64 D) ∧ jV 49 jw 9 j U I ∧ nx f1 m U B D = some r) kd ⟨a0, t, n, (wi0 .i64 (n + 1)), _, (d.jv St), rfl, rfl, rfl, rfl, T, hm⟩ ?_))))))
 rintro m E W ⟨U, I, B, D, a2, d, y, Q, G, K, g, a⟩
 cases m with
 | zero => rw [nx] at a; cases a
 | succ c8 =>
  refine jL (sg (Wh K (Wh y (V (oE aH rfl g) (Wi rfl (ln (CI a rfl (fun L a => ?_) (fun L a => ?_))))))))
  ·refine kn (jL (CJ a (fun Y E W => ∃ J a3, ST false (keys (t ++ [])) w W μ0 (J ++ a3) ∧ E 0 = j ∧ E 1 = H ∧ E 5 = (.int .i64 Y.2) ∧ E 6 = (.int .i64 D) ∧ jV 49 jw 9 j Y.1 J) (fun Y c => ?_) ?_))
   ·refine bg (Wh y (Wh K (bS c fun k M c => VQ (oT (i := D) (x0 := k) aH aN rfl rfl g (kk M) (kj M)) (fun e4 R => V (jx rfl (uL d.has (fun p h => (Ml h)) g kc R (kj M) bQ aN)) (VE (jU d cK (fun d7 e2 d => VO (jK (.agg (jw k).toArray) ((jw k).toArray) d rfl rfl aN (mH k) nb rfl (fun d8 d => lr (Wh Q ?_))))))))))
    refine VA d Mh (jw k) bQ aN (bS c fun e6 b5 c => VE (O2 k d a4 (jX.refl _) rfl (ue rfl) b5 (fun d9 d => V (nt rfl) (ln (CI c rfl (fun O c => ?_) (fun O c => ?_))))))
    ·refine sg (Wh y (Wh G (VA d Mh (jw k) bQ aN (bS c fun d0 N c => VQ (oT (i := B) (x0 := d0) aH aN rfl rfl g (kk N) (kj N)) (fun e5 b4 => ?_)))))
     replace d := d.perm (Nr (Qb Qz) Nz)
     refine VO (CE (u := (.agg (jw k).toArray)) (x1 := k)  d g kc mH rfl rfl rfl b4 (kj N) aN (fun e0 c1 d s => ln ?_))
     replace d := d.jv (Kr (Db St))
     refine jG (Wh G (Wi rfl (Wa (jT (kl (jH ?_))))))
     obtain rfl := sj c
     exact ⟨c1, _, (d.jv St), y, Q, rfl, K, s⟩
    refine kQ (kl (jH ?_))
    obtain rfl := sj c
    exact ⟨I, _, (d.jv (Db St)), y, Q, G, K, g⟩
   rintro ⟨c7, c9⟩ E W ⟨J, a3, d, c3, c4, c5, c6, b6⟩ P
   exact jG (Wh c6 (Wi rfl (Wa (ln ⟨c8, bn _, c7, J, c9, (wi0 .i64 (D + 1)), _, (d.jv St), c3, c4, c5, rfl, b6, P⟩))))
  refine mW (mK (mK (qG (jH (sg (Wh y (Wh G (bS a fun _ Z a => VQ (zA (i := B) aH aN rfl rfl g (uX Z) (uS Z)) (fun e7 b7 => VO (B7 (z := Pm)  d g kc mH aH cK b7 rfl rfl (fun e1 c2 d a9 => lr (Wh y ?_))))))))))))
  refine Wh G (bS a fun _ l a => VQ (Bt (i := B) aH aN rfl rfl a9 kc (uX l) (uS l)) (fun a5 b9 => Wa (lt ?_)))
  obtain rfl := sj a
  exact lj (v := a5) rfl rfl ⟨_, _, rfl, (d.lU (Kr Sn)), a5, c2, rfl, rfl, b9⟩
theorem Iu (a : js) (r : Bool) (w : World) (hm : xR a = some r) :
  jZ true pg0 46 [(.agg (jw a).toArray)] w (.bool r) := by
 refine cG 6 func46 rfl (fun b => sg (VE (kv b rfl (fun g j b => Wa (lr (VA b Mh (jw a) bQ aN (bS hm fun k c hm => VE (Eg b call47 (yU a _ _  c) (fun i b => V (nt rfl) (Wa (jT ?_)))))))))))
 refine jH ?_
 exact ke (rQ hm b)
theorem M3 (c : Value) (k : List js) (a : LO) (g : Value) (t : (js × js) → Option Int) (r : List js) (w : World) {y : jW} (u : ny y (a ++ []) w) (i : jV 49 jw 9 c k a) (j : JJ pg0 g y (fun (x : (js × js)) => [(.agg (jw x.1).toArray), (.agg (jw x.2).toArray)]) (fun (r : Int) => (.int .i64 r)) t) (hm : zG t k = some r) :
  kR true pg0 48 [c, g] w (a ++ []) (fun v z W' => ∃ S, v = (.tuple #[]) ∧ z = (S ++ []) ∧ jV 49 jw 9 c r S) := KB (P := pg0) (ρ := Py) SU 9 bQ aN jw kc mH u.H u.S i j hm
theorem EQ (c : js) (r : List Int) (w : World) (hm : wJ c = some r) :
  lC true pg0 80 [(.agg (jw c).toArray)] w 5 (lm .u8) 1 r := by
 refine wm 53 func80 rfl (fun d => sg (VE (kv d rfl (fun W2 b1 d => Wa (lS (VA d Mh (jw c) bQ aN (bS hm fun r3 g3 hm => VE (Eg d call47 (yU c _ _  g3) (fun W5 d => V (nt rfl) (jT ?_))))))))))
 refine jH (CI hm rfl (fun g0 hm => ?_) (fun g0 hm => ?_))
 ·refine sg (Wa (ln ?_))
  replace d := d.jv (Db St)
  refine ke (ki ?_)
  obtain rfl := sj hm
  exact lj (v := (.slice none 0 0)) rfl rfl ⟨_, [], rfl, d.oa (fun p m => by cases m) (by simp), jV.nil _ _ _⟩
 refine kg (V (lf (v := (.agg #[(.slice none 0 0)])) pu (kH zeroValue168 gh (PI _ gh) kr)) (VE (kv d rfl (fun W8 g d => Wa (lr (Wm (Wf qC (VB d (Mt Mh) rfl rfl bR (bS hm fun r9 e2 hm => ?_)))))))))
 refine VE (eM d (Cb Pz (C0 Cn)) call113 (fun l _ => (rD g (.slice none 0 0) ([]) [] c.Kind _ _ l (jV.nil _ _ _) e2)) ?_)
 rintro _ k3 k5 j9 d g7 a6 h ⟨g4, f9, I, rfl, e4⟩
 obtain rfl := I.symm
 replace d := d.perm (Tb (Tr Tn))
 refine lr (Wm (Wf qN (VA d (Mt (Ma Mh)) (jA c.Head) bG aS (bS hm fun N e3 hm => ?_))))
 refine VE (eM d (Cb Pz (Cr Qz Cn)) call114 (fun l _ => (vr g g4 r9.2 f9 c.Head _ _ l e4 e3)) ?_)
 rintro _ k4 d1 k0 d g8 a7 h ⟨G, D, J, rfl, i⟩
 obtain rfl := J.symm
 replace d := d.perm (Tb (Tr Tn))
 refine ln (jL (CJ hm (fun a3 E W => ∃ B H K Q, jX d1 K ∧ ST true kw w W K ((g, Ob #[B] 168) :: (H ++ Q)) ∧ E 3 = (.pointer (some ⟨g, 0, none⟩)) ∧ jV 5 (lm .u8) 1 B a3 H) (fun a3 a => ?_) ?_))
 ·refine sg (Wf qC (VB d (Mt (Ma Mh)) rfl rfl bR (ln (bg (Wi rfl (Wa (ln (CI a rfl (fun b0 a => ?_) (fun b0 a => ?_)))))))))
  ·refine jG (Wm (Wf wH (VB d (Mt (Ma Mh)) rfl rfl bV (bS a fun i3 b6 a => ?_))))
   refine VE (eM d (Cb Pz (Cr Qz Cn)) call115 (fun l _ => (yG g G N.2 D c.kE _ _ l i b6)) ?_)
   rintro _ i8 f5 g9 d T q h ⟨e9, d3, k, rfl, c5⟩
   obtain rfl := k.symm
   replace d := d.perm (Tb (Tr Tn))
   refine jT (kl (jH ?_))
   obtain rfl := sj a
   exact ⟨e9, d3, f5, _, T, (d.jv (Kb (Kr (Db St)))), rfl, c5⟩
  refine sg (Wi rfl (Wa (ln (CI a rfl (fun b2 a => ?_) (fun b2 a => ?_)))))
  ·refine jG (Wm (Wf nz (VA d (Mt (Ma Mh)) (jA c.B) bG aS (bS a fun i4 b9 a => ?_))))
   refine VE (eM d (Cb Pz (Cr Qz Cn)) call114 (fun l _ => (vr g G N.2 D c.B _ _ l i b9)) ?_)
   rintro _ i9 f6 h0 d U s h ⟨f0, d4, t, rfl, c6⟩
   obtain rfl := t.symm
   replace d := d.perm (Tb (Tr Tn))
   refine jT (kl (jH ?_))
   obtain rfl := sj a
   exact ⟨f0, d4, f6, _, U, (d.jv (Kb (Kr (Db St)))), rfl, c6⟩
  refine sg (Wi rfl (Wa (ln (CI a rfl (fun b3 a => ?_) (fun b3 a => ?_)))))
  ·refine sg (Wm (Wf nz (VA d (Mt (Ma Mh)) (jA c.B) bG aS (bS a fun e6 c0 a => ?_))))
   refine VE (eM d (Cb Pz (Cr Qz Cn)) call114 (fun l _ => (vr g G N.2 D c.B _ _ l i c0)) ?_)
   rintro _ j0 j7 h1 d Y L h ⟨f1, d5, u, rfl, c7⟩
   obtain rfl := u.symm
   replace d := d.perm (Tb (Tr Tn))
   refine ln (jG (Wm (Wf uv (VB d (Mt (Ma Mh)) rfl rfl bV (bS a fun i5 c1 a => ?_)))))
   refine VE (eM d (Cb Pz (Cr Qz Cn)) call115 (fun l _ => (yG g f1 e6.2 d5 c.kM _ _ l c7 c1)) ?_)
   rintro _ j3 f7 h2 d Z O h ⟨f2, d6, x, rfl, c8⟩
   obtain rfl := x.symm
   replace d := d.perm (Tb (Tr Tn))
   refine jT (kl (jH ?_))
   obtain rfl := sj a
   exact ⟨f2, d6, f7, _, (Y.trans Z), (d.jv (Kb (Kr (Db St)))), rfl, c8⟩
  refine sg (Wi rfl (Wa (ln (CI a rfl (fun b4 a => ?_) (fun b4 a => ?_)))))
  ·refine sg (Wm (Wf nz (VA d (Mt (Ma Mh)) (jA c.B) bG aS (bS a fun e7 c2 a => ?_))))
   refine VE (eM d (Cb Pz (Cr Qz Cn)) call114 (fun l _ => (vr g G N.2 D c.B _ _ l i c2)) ?_)
   rintro _ j4 j8 h3 d a1 P h ⟨f3, d7, y, rfl, c9⟩
   obtain rfl := y.symm
   replace d := d.perm (Tb (Tr Tn))
   refine ln (jG (Wm (Wf sE (VA d (Mt (Ma Mh)) (jA c.C) bG aS (bS a fun i6 c3 a => ?_)))))
   refine VE (eM d (Cb Pz (Cr Qz Cn)) call114 (fun l _ => (vr g f3 e7.2 d7 c.C _ _ l c9 c3)) ?_)
   rintro _ j5 f8 h4 d a2 R h ⟨f4, d8, z, rfl, d0⟩
   obtain rfl := z.symm
   replace d := d.perm (Tb (Tr Tn))
   refine jT (kl (jH ?_))
   obtain rfl := sj a
   exact ⟨f4, d8, f8, _, (a1.trans a2), (d.jv (Kb (Kr (Db St)))), rfl, d0⟩
  refine kQ (kl (jH ?_))
  obtain rfl := sj a
  exact ⟨G, D, d1, _, (jX.refl _), (d.jv (Kb (Kr (Db St)))), rfl, i⟩
 rintro e5 E W ⟨B, H, K, Q, g1, d, d9, c4⟩ j
 refine sg (Wh d9 (bS j fun i2 b5 j => VE (rH d call116 (AR g B e5 _ _ (c4.sl (fun _ => rfl) (fun b o m => d.at_ (Mt (Ml m)))) (At.of (d.at_ Mh) _ rfl) b5) (fun h5 e8 j6 d2 d g2 n M => Wa (ln ?_)))))
 replace d := d.jv (Kr (Db (Dr St)))
 refine ke ?_
 obtain rfl := sj j
 exact lj (v := e8) rfl rfl ⟨_, d2, rfl, d.oa (fun p m => (Ml m)) M.nd, M⟩
theorem Hv (g i : js) (r : Int) (w : World) (hm : tJ g i = some r) :
  jZ true pg0 49 [(.agg (jw g).toArray), (.agg (jw i).toArray)] w (.int .i64 r) := by
 refine cG 10 func49 rfl (fun d => sg (VE (kv d rfl (fun T Y d => VE (kv d rfl (fun U Z d => Wa (ln (jL ?_))))))))
 replace d := d.drew
 have h := d.has.jv (Kb (Kb Sn))
 refine kO h kp (XH 0 rfl h (fun _ l => jx rfl (jD l (Mt Mh) (jw g) rfl bQ aN)) (XH 2 rfl h (fun _ l => jx rfl (jD l Mh (jw i) rfl bQ aN)) (bS hm fun y t hm => XE 1 rfl (rH d call80 (EQ g _ _  t) (fun I B N G d a n j => ?_)))))
 have h := d.has.qX a (Dr (Kb (Kb Sn)))
 refine ⟨h, (bS hm fun z u hm => XE 3 rfl (rH d call80 (EQ i _ _  u) (fun J D Q H d c p k => ?_)))⟩
 have h := d.has.qX (a.trans c) (Dr (Dr (Kb (Kb Sn))))
 refine ⟨h, (bS hm fun M x hm => XE 4 rfl (Eg d call79 (Bv B y D z _ _ (j.sl (fun _ => rfl) (fun b o m => d.at_ (Ma (Ml m)))) (k.sl (fun _ => rfl) (fun b o m => d.at_ (Ml m))) x) (fun K d => ?_)))⟩
 have h := d.has.qX (a.trans c) (Dr (Dr (Kb (Kb Sn))))
 refine ⟨h, (X 5 rfl h (mw rfl) (kP kr (jH ?_)))⟩
 exact ke (rQ hm d)
theorem CC (j : Value) (a0 : List js) (x : LO) (r : List js) (w : World) {μ0 : jW} (h0 : ny μ0 (x ++ []) w) (B : jV 49 jw 9 j a0 x) (hm : sM a0 = some r) :
  kR true pg0 50 [j] w (x ++ []) (fun v L1 W' => ∃ y1 S2, v = y1 ∧ L1 = (S2 ++ []) ∧ jV 49 jw 9 y1 r S2) := by
 refine yF h0 61 func50 rfl (fun b => sg (Wa (lS (Wm (V (oE aH rfl B) (Wi rfl (ln (CI hm rfl (fun g0 hm => ?_) (fun g0 hm => ?_)))))))))
 ·refine sg (Wm (Wa (lt (ki ?_))))
  obtain rfl := sj hm
  exact lj (v := j) rfl rfl ⟨_, _, rfl, (b.lU (Kr Sn)), j, x, rfl, rfl, B⟩
 refine kS (Wa (ln (lz (mX (fun m E W => ∃ t b4, ST true (keys (x ++ [])) w W μ0 (x ++ b4) ∧ E 0 = j ∧ E 3 = (.int .i64 t) ∧ og a0 m t = some r) kd ⟨1, _, (b.jv St), rfl, rfl, hm⟩ ?_))))
 rintro m E W ⟨t, b4, b, D, H, a⟩
 cases m with
 | zero => rw [og] at a; cases a
 | succ f5 =>
  refine jL (sg (Wh H (Wh D (V (oE aH rfl B) (Wi rfl (ln (CI a rfl (fun d0 a => ?_) (fun d0 a => ?_))))))))
  ·refine kn (jL (lz (jL ?_)))
   replace b := b.drew
   have d := b.has.jv (Kr Sn)
   refine kO d kp (X 0 rfl d (jz D) (X 1 rfl d (jz H) (bS a fun c3 Z a => XQ 2 rfl d (oT (i := t) (x0 := c3) aH aN rfl rfl B (kk Z) (kj Z)) (fun g7 d6 => XH 3 rfl d (fun _ l => jx rfl (uL l (fun p h => (Ml h)) B kc d6 (kj Z) bQ aN)) (X 4 rfl d (jz D) (X 5 rfl d (jz H) (X 6 rfl d (kh rfl rfl rfl) (bS a fun c4 n a => XQ 7 rfl d (oT (i := (wi0 .i64 (t - 1))) (x0 := c4) aH aN rfl rfl B (kk n) (kj n)) (fun g8 d7 => XH 8 rfl d (fun _ l => jx rfl (uL l (fun p h => (Ml h)) B kc d7 (kj n) bQ aN)) (X 9 rfl d (uT rfl rfl (nl fk) (rh (wO _ c3 c4))) (kP kr (jH ?_))))))))))))
   refine CI a rfl (fun d1 a => ?_) (fun d1 a => ?_)
   ·refine sg (Wh D (Wh H (bS a fun _ O a => VQ (zA (i := t) aH aN rfl rfl B (uX O) (uS O)) (fun c1 M => Wa (lS (Wa (ln ?_)))))))
    refine CJ a (fun U E W => ∃ q b5, ST true (keys (x ++ [])) w W μ0 (q ++ b5) ∧ E 0 = j ∧ E 3 = (.int .i64 U.2) ∧ jV 49 jw 9 j U.1 q) (fun U d4 => ?_) ?_
    ·refine lz (mX (fun m E W => ∃ s K Y y b6, ST true (keys (x ++ [])) w W μ0 (K ++ b6) ∧ E 0 = j ∧ E 3 = (.int .i64 Y) ∧ E 4 = c1 ∧ E 5 = (.int .i64 y) ∧ jV 49 jw 9 j s K ∧ nY t m s Y y = some U) kd ⟨a0, x, t, 1, _, (b.jv St), D, H, rfl, rfl, B, d4⟩ ?_)
     rintro m E W ⟨s, K, Y, y, b6, b, Q, T, I, J, g, k⟩
     cases m with
     | zero => rw [nY] at k; cases k
     | succ f6 =>
      refine jL (sg (Wh J (Wh I (V (H4 aH rfl M g) (Wi rfl (ln (CI k rfl (fun d2 k => ?_) (fun d2 k => ?_))))))))
      ·refine kn (jL (CJ k (fun L E W => ∃ N b7, ST true (keys (x ++ [])) w W μ0 (N ++ b7) ∧ E 0 = j ∧ E 3 = (.int .i64 L.2) ∧ E 4 = c1 ∧ E 5 = (.int .i64 y) ∧ jV 49 jw 9 j L.1 N) (fun L c => ?_) ?_))
       ·refine lz (jL ?_)
        replace b := b.drew
        have d := b.has.jv (Kr Sn)
        refine kO d kp (X 0 rfl d (jz I) (X 1 rfl d (jz J) (bS c fun c6 a2 c => XQ 2 rfl d (zL (i := y) (x0 := c6) aH aN rfl rfl g M (kk a2) (kj a2)) (fun g9 d8 => XH 3 rfl d (fun _ l => jx rfl (uL l (fun p h => (Ml h)) g kc d8 (Ba (kj a2)) bQ aN)) (X 4 rfl d (jz I) (X 5 rfl d (jz J) (X 6 rfl d (kh rfl rfl rfl) (bS c fun c7 a3 c => XQ 7 rfl d (zL (i := (wi0 .i64 (y - 1))) (x0 := c7) aH aN rfl rfl g M (kk a3) (kj a3)) (fun h1 d9 => XH 8 rfl d (fun _ l => jx rfl (uL l (fun p h => (Ml h)) g kc d9 (Ba (kj a3)) bQ aN)) (X 9 rfl d (Hc rfl rfl (nl fk) (Cc (wO _ c6 c7))) (kP kr (jH ?_))))))))))))
        refine CI c rfl (fun d3 c => ?_) (fun d3 c => ?_)
        ·refine sg (Wh Q (Wh T (Wh I (Wh J (bS c fun a9 a4 c => VQ (zL (i := y) (x0 := a9) aH aN rfl rfl g M (kk a4) (kj a4)) (fun h2 e0 => V (jx rfl (uL b.has (fun p h => (Ml h)) g kc e0 (Ba (kj a4)) bQ aN)) (bS c fun f8 a5 c => VQ (oT (i := Y) (x0 := f8) aH aN rfl rfl g (kk a5) (kj a5)) (fun h3 e1 => VO (CE (u := (.agg (jw a9).toArray)) (x1 := a9)  b g kc mH rfl rfl rfl e1 (kj a5) aN (fun g3 e8 b c9 => ln (jG ?_)))))))))))
         refine Wh T (Wi rfl (Wa (jT (kl (jH ?_)))))
         obtain rfl := sj c
         exact ⟨e8, _, (b.jv St), Q, rfl, I, J, c9⟩
        refine kQ (kl (jH ?_))
        obtain rfl := sj c
        exact ⟨K, _, (b.jv St), Q, T, I, J, g⟩
       rintro ⟨f4, f7⟩ E W ⟨N, b7, b, f0, f1, f2, f3, e4⟩ d5
       exact jG (Wh f3 (Wi rfl (Wa (ln ⟨f6, bn _, f4, N, f7, (wi0 .i64 (y + 1)), _, (b.jv St), f0, f1, f2, rfl, e4, d5⟩))))
      refine mW (mK (mK (qG (jH ?_))))
      obtain rfl := sj k
      exact ⟨K, _, (b.jv St), Q, T, g⟩
    rintro ⟨g4, c5⟩ E W ⟨q, b5, b, b9, c0, b3⟩ G
    refine sg (Wh b9 (Wh c0 (bS G fun _ P G => VQ (zA (i := c5) aH aN rfl rfl b3 (uX P) (uS P)) (fun h4 e2 => VO (B7 (z := Pm)  b b3 kc mH aH cK e2 rfl rfl (fun g2 e7 b c8 => lr (Wh b9 (Wh c0 (bS G fun _ R G => VQ (Bt (i := c5) aH aN rfl rfl c8 kc (uX R) (uS R)) (fun c2 e3 => ?_))))))))))
    refine Wa (lt (mc (ki (ki (mc (ki ?_))))))
    obtain rfl := sj G
    exact lj (v := c2) rfl rfl ⟨_, _, rfl, (b.lU (Kr Sn)), c2, e7, rfl, rfl, e3⟩
   exact kQ (kl (jH (jG (Wh H (Wi rfl (Wa (ln ⟨f5, bn _, (wi0 .i64 (t + 1)), _, (b.jv St), D, rfl, a⟩)))))))
  refine mW (mK (mK (qG (jH (sg (Wh D (Wa (lt ?_))))))))
  obtain rfl := sj a
  exact lj (v := j) rfl rfl ⟨_, _, rfl, (b.lU (Kr Sn)), j, x, rfl, rfl, B⟩
theorem CV (i : Value) (t r : List js) (w : World) (B : Sl (Pl jw) 9 (hp w) i t) (hm : uD t = some r) :
  lC false pg0 27 [i] w 49 jw 9 r := by
 refine wm 11 func27 rfl (fun b => sg (Wa (lr (Wm (bS hm fun y T hm => VE (rH b call45 (lC.lG (DQ i t _ _ (B.mono (Pl.mono _) b.jF) T)) (fun W3 v7 z R8 b a5 q Q => bS hm fun U D hm => ?_)))))))
 refine VE (eM b (Cr Qz Cn) call41 (fun h _ => (wN v7 y R8 (.func (.func 46) #[] #[]) (fun (x : js) => xR x) _ _ h Q ⟨46, #[], #[], rfl, call46, fun W x r u hm => (Iu x r W  hm).lG⟩ D)) ?_)
 rintro _ R b9 L b E l d ⟨k, K, a, rfl, I⟩
 obtain rfl := a.symm
 replace b := b.perm (Tr Tn)
 refine Wa (lr (Wm (bS hm fun Y G hm => ?_)))
 refine VE (eM b (Cr Qz Cn) call48 (fun h _ => kR.lG (M3 k U K (.func (.func 49) #[] #[]) (fun (x : (js × js)) => tJ x.1 x.2) _ _ h I ⟨49, #[], rfl, call49, fun W x r u hm => Hv x.1 x.2 r W  hm⟩ G)) ?_)
 rintro _ b6 c0 a9 b a2 m d ⟨M, c, rfl, J⟩
 obtain rfl := c.symm
 replace b := b.perm (Tr Tn)
 refine lr (Wm (bS hm fun P H hm => ?_))
 refine VE (eM b (Cr Qz Cn) call50 (fun h _ => kR.lG (CC k Y M _ _ h J H)) ?_)
 rintro _ b7 c1 O b a3 n d ⟨Z, N, g, rfl, j⟩
 obtain rfl := g.symm
 replace b := b.perm (Tr Tn)
 refine Wa (lt ?_)
 obtain rfl := sj hm
 exact lj (v := Z) rfl rfl ⟨_, N, rfl, b.oa (fun p s => (Ml s)) j.nd, j⟩
theorem Ec (k : kL) (H K c1 : Value) (P : List js) (a2 : ByteArray) (r : List js) (w : World) (g : Sl kz 15 (hp w) H k.jN) (J : Sl lF 8 (hp w) K k.ky) (h5 : Sl (Pl jw) 9 (hp w) c1 P) (hm : pj k P a2 = some r) :
  lC false pg0 26 [(.agg #[(.string k.Name), H, K]), c1, (.string a2)] w 49 jw 9 r := by
 refine wm 47 func26 rfl (fun d => sg ?_)
 obtain ⟨A1, c2, rfl⟩ := g.form
 let c8 : Value := (.slice A1 k.jN.length c2)
 obtain ⟨A3, c4, rfl⟩ := J.form
 let b1 := (C9 k.Name A1 k.jN.length c2 A3 k.ky.length c4)
 refine VE (kv d rfl (fun W6 L d => Wa (lr (Wm (Wm (bS hm fun B i5 hm => ?_))))))
 refine VE (AT d (bT _) call43 (fun _ _ _ _ => (JT c1 P a2 _ _ (h5.mono (Pl.mono _) d.jF) i5)) (fun W9 l1 g4 l0 d a5 af ae h4 => ?_) (L0 := []))
 obtain ⟨N, q, e0, f9, e1, g0, e2, g1, e3, g2, e4, g3, Q, c0, rfl, h6, h7, h8, h9, i0⟩ := h4
 replace c0 := c0.symm; subst c0
 replace d := d.perm (Tb (Tb (Tb (Tr (Tr (Tr (Tr (Tr Tn))))))))
 refine Wa (lr (Wa (lS (Wf AM (VB d (Mt (Mt (Mt (Ma (Ma (Ma (Ma (Ma Mh)))))))) rfl rfl isAgg22 (V (kK er rfl g) (Wm ?_)))))))
 refine ln (kA (fun i E W => ∃ D I G s b4, (E 19 = .int .i64 (i : Nat) ∧ E 18 = .int .i64 (k.jN.length : Nat)) ∧ jX g4 s ∧ ST false kw w W s ((N, Ob #[(.pointer (some ⟨q, 0, none⟩))] 106) :: ((q, Ob #[e0, e1, e2, e3, e4, (.int .i64 B.2.2.2.2.2.1)] 135) :: ((Q, Ob #[(.string B.2.2.2.2.2.2)] 9) :: ((L, Ol b1 25) :: (G ++ (f9 ++ (g0 ++ (g1 ++ (g2 ++ (g3 ++ b4)))))))))) ∧ E 3 = (.pointer (some ⟨L, 0, none⟩)) ∧ E 7 = (.func (.func 70) #[] #[(.pointer (some ⟨N, 0, none⟩)), (.pointer (some ⟨Q, 0, none⟩))]) ∧ E 8 = D ∧ E 17 = c8 ∧ jV 49 jw 9 D I G ∧ qT k B (k.jN.drop i) I = some r) k.jN.length g.len ⟨(.slice none 0 0), ([]), [], g4, _, ⟨rfl, rfl⟩, (jX.refl _), (d.jv (Kb (Kb (Kb (Sb (Pr (Pr (Pr (Pr (Pr Pz))))) St))))), rfl, rfl, rfl, rfl, (jV.nil _ _ _), hm⟩ dc dc dc (fun _ _ _ h => by obtain ⟨_, _, _, _, _, aa, _⟩ := h; exact aa) ?_ ?_)
 ·let b6 : Value := (.func (.func 70) #[] #[(.pointer (some ⟨N, 0, none⟩)), (.pointer (some ⟨Q, 0, none⟩))])
  rintro d8 E W f0 ⟨D, I, G, s, b4, ⟨O, eN⟩, u, d, Y, Z, a3, a4, M, j⟩
  obtain ⟨a, i6, f8, f7, c6⟩ := ku f0
  rw [f8] at j
  refine bg (VQ (lI (i := (d8 : Int)) (x0 := a) kz.out er dT a4 O (g.mono kC.mono (a5.trans u)) (aG _) f7) (fun k1 ⟨_, ⟨k4, k5, rfl, f5, f6⟩, f1⟩ => V (jx rfl (jS d.has f1 ja dT)) (VE (jU d fD (fun i9 d0 d => ?_)))))
  obtain ⟨b2, b7, rfl⟩ := f5.form
  obtain ⟨b3, b9, rfl⟩ := f6.form
  let a0 := (C4 a.Signed.js.Kind a.Signed.js.Head.ju a.Signed.js.Head.jy a.Signed.js.kE a.Signed.js.B.ju a.Signed.js.B.jy a.Signed.js.C.ju a.Signed.js.C.jy a.Signed.js.kM b2 a.Signed.Tag.length b7 a.jB.Op a.jB.K a.jB.jr.ju a.jB.jr.jy b3 a.jB.Kids.length b9)
  refine VO (jK (.agg a0.toArray) (a0.toArray) d rfl rfl dT oc nb rfl (fun j0 d => lr (V (jx Y (jD d.has (Mt (Mt (Mt (Mt Mh)))) b1 rfl ir fT)) (Wf AK (Wf Bd (VA d Mh (jw a.Signed.js) bQ aN (bS j fun c f2 j => ?_)))))))
  let e5 : Value := (.string (((c.1).jr).jy))
  let d1 : Value := (.string (((c.1).jr).ju))
  refine VE (eD d (bT _) call44 (fun hh => (Mv k c8 (.slice A3 k.ky.length c4) a.Signed.js _ _ hh (g.mono kC.mono (a5.trans u)) (J.mono mI.mono (a5.trans u)) f2)) ?_ (L0 := []))
  rintro _ k6 c3 i8 d a9 ab ⟨k8, a6, rfl, c7⟩
  obtain rfl := a6.symm
  refine Wm (Wx rfl (Wx rfl (VE (jU d aQ (fun j4 k0 d => ?_)))))
  obtain ⟨T, U, rfl⟩ := c7.form
  let b8 : Value := (.slice T ((c.1).Kids).length U)
  refine VO (jK (.agg #[(.int .i64 ((c.1).Op)), (.int .i64 ((c.1).K)), d1, e5, b8]) (#[(.int .i64 ((c.1).Op)), (.int .i64 ((c.1).K)), d1, e5, b8]) d rfl rfl aC oc nb rfl (fun j5 d => Wa (lr (Wm (Wi rfl (Wm (LJ j (fun d9 E W => ∃ c9, ST false kw w W c3 ((d0, Ol a0 63) :: ((N, Ob #[(.pointer (some ⟨q, 0, none⟩))] 106) :: ((q, Ob #[e0, e1, e2, e3, e4, (.int .i64 B.2.2.2.2.2.1)] 135) :: ((Q, Ob #[(.string B.2.2.2.2.2.2)] 9) :: ((L, Ol b1 25) :: (G ++ (f9 ++ (g0 ++ (g1 ++ (g2 ++ (g3 ++ c9))))))))))) ∧ E 3 = (.pointer (some ⟨L, 0, none⟩)) ∧ E 7 = b6 ∧ E 8 = D ∧ E 10 = (.pointer (some ⟨d0, 0, none⟩)) ∧ E 17 = c8 ∧ E 18 = (.int .i64 (k.jN.length : Int)) ∧ E 19 = (.int .i64 (d8 : Int)) ∧ E 37 = (.bool d9)) 4 ?_ (fun d9 z b0 => ?_))))))))
  ·rintro k7 E W ⟨c9, d, d2, d3, d4, h2, d5, d6, d7, h3⟩ y
   refine ln (CI y h3 (fun e8 y => ?_) (fun e8 y => ?_))
   ·refine jG (Wh d4 (V (jE AK h2) (Wf Bd (VA d Mh (jw a.Signed.js) bQ aN (VE (jY (cs := (jw a.Signed.js).toArray) d (lM rfl) (mf aH aN cK) (fun j6 h1 d => ?_)))))))
    replace d := d.perm (Nr (Qb (Qb (Qb (Qb (Qb (Qb Qz)))))) Nz)
    refine bS y fun i1 e9 y => VE (mR (enc := jw) (v := D) (vs := (.slice (some ⟨h1, 0, none⟩) 1 1)) (R := G) d kc dc mH aH lh.1 lh.2.1 rfl lh.2.2.1 lh.2.2.2 rfl rfl M (Sl.lit (enc := jw) (l := [a.Signed.js]) kc rfl nb rfl (d.at_ (Ma Mh))) e9 (fun j7 i2 g7 d e7 => Wa (jT (kl (jH ?_)))))
    replace d := d.jv (Kr (Db (Db St)))
    exact ⟨d7, i2, i1, g7, c3, _, ⟨rfl, d6⟩, (u.trans a9), (d.jv (Sb (Pr Pz) (Sb (Pr Pz) (Sb (Pr Pz) (Sb (Pr Pz) St))))), d2, d3, rfl, d5, e7, (by rw [c6]; exact y)⟩
   refine kQ (kl (jH ?_))
   replace d := d.jv (Db St)
   exact ⟨d7, D, I, G, c3, _, ⟨rfl, d6⟩, (u.trans a9), (d.jv St), d2, d3, d4, d5, M, (by rw [c6]; exact y)⟩
  refine bC z (fun t z => ?_) (fun t z => ?_)
  ·refine ug t (jx rfl (jD d.has Mh [(.int .i64 ((c.1).Op)), (.int .i64 ((c.1).K)), d1, e5, b8] rfl aO aC)) (ug t (jz Z) (bS z fun k2 f3 z => tM t (Eg d call34 (Ch c.1 b8 b6 (fun (x : jr) => pQ x B.1 B.2.1 B.2.2.1 B.2.2.2.1 B.2.2.2.2.1 B.2.2.2.2.2.1 B.2.2.2.2.2.2) _ _ (c7.mono jC.mono d.jF) ⟨70, #[], #[(.pointer (some ⟨N, 0, none⟩)), (.pointer (some ⟨Q, 0, none⟩))], rfl, call70, fun W x r n hm => (GQ x N q e0 B.1 e1 B.2.1 e2 B.2.2.1 e3 B.2.2.2.1 e4 B.2.2.2.2.1 B.2.2.2.2.2.1 Q B.2.2.2.2.2.2 r W (h6.at (fun b o m => n _ _ ((fun b o m => d.at_ (Mt (Mt (Mt (Mt (Mt (Mt (Ma (Ml m))))))))) b o m))) (h7.sl kc (fun b o m => n _ _ ((fun b o m => d.at_ (Mt (Mt (Mt (Mt (Mt (Mt (Ma (Ma (Ml m)))))))))) b o m))) (h8.at (fun b o m => n _ _ ((fun b o m => d.at_ (Mt (Mt (Mt (Mt (Mt (Mt (Ma (Ma (Ma (Ml m))))))))))) b o m))) (h9.at (fun b o m => n _ _ ((fun b o m => d.at_ (Mt (Mt (Mt (Mt (Mt (Mt (Ma (Ma (Ma (Ma (Ml m)))))))))))) b o m))) ((i0.DH qu).mono (Pl.mono _) (lR (fun b o m => n _ _ ((fun b o m => d.at_ (Mt (Mt (Mt (Mt (Mt (Mt (Ma (Ma (Ma (Ma (Ma (Ml m))))))))))))) b o m)))) (At.of (n _ _ (d.at_ (Mt (Mt (Mt Mh))))) _ rfl) (At.of (n _ _ (d.at_ (Mt (Mt Mh)))) _ rfl) (At.of (n _ _ (d.at_ (Mt (Mt (Mt (Mt Mh)))))) _ rfl) hm).lG⟩ f3) (fun j8 d => V (jO (cB t) rfl) ?_))))
   obtain rfl := sj z
   exact b0 _ _ ⟨_, (d.jv (Db St)), Y, Z, a3, rfl, a4, eN, O, rfl⟩
  refine un t (un t (un t (V (jP (cB t) rfl) ?_)))
  obtain rfl := sj z
  exact b0 _ _ ⟨_, (d.jv (Db St)), Y, Z, a3, rfl, a4, eN, O, rfl⟩
 rintro E W ⟨D, I, G, s, b4, ⟨O, eN⟩, u, d, Y, Z, a3, a4, M, j⟩
 rw [aM] at j
 refine jH ?_
 replace d := d.jv (Db (Db (Db (Db (Kr (Dr (Dr (Dr (Dr (Dr St))))))))))
 refine sg (Wh a3 (bS j fun k3 f4 j => VE (rH d call27 (CV D I _ _ (M.sl kc (fun b o m => d.at_ (Ml m))) f4) (fun j9 i3 k9 g8 d i4 ad c5 => Wa (ln ?_)))))
 replace d := d.jv (Kr (Dr St))
 refine ke ?_
 obtain rfl := sj j
 exact lj (v := i3) rfl rfl ⟨_, g8, rfl, d.oa (fun p m => (Ml m)) c5.nd, c5⟩
theorem Fc (c : js) (g : Nat) (a : Value) (j : List js) (r : Bool) (w : World) (k : Sl (Pl jw) 9 (hp w) a j) (i : At (hp w) (.pointer (some ⟨g, 0, none⟩)) [a]) (hm : uU c j = some r) :
  jZ true pg0 42 [(.agg (jw c).toArray), (.pointer (some ⟨g, 0, none⟩))] w (.bool r) := by
 refine cG 7 func42 rfl (fun b => sg (VE (kv b rfl (fun u z b => Wa (lr (V (jx rfl (ni b.has (y := a) i dY)) (VA b Mh (jw c) bQ aN (bS hm fun B t hm => VE (Eg b call29 (yI a j c _ _ (k.mono (Pl.mono _) b.jF) t) (fun x b => Wa (jT ?_)))))))))))
 refine jH ?_
 exact ke (rQ hm b)
theorem Cw (g : Value) (u : List js) (a : LO) (k : Value) (i r : List js) (w : World) {N : jW} (T : ny N (a ++ []) w) (B : jV 49 jw 9 g u a) (j : Sl (Pl jw) 9 N k i) (hm : vk u i = some r) :
  kR false pg0 25 [g, k] w (a ++ []) (fun v Q W' => ∃ M I, v = M ∧ Q = (I ++ []) ∧ jV 49 jw 9 M r I) := by
 refine yF T 8 func25 rfl (fun b => sg ?_)
 obtain ⟨G, J, rfl⟩ := j.form
 refine VE (kv b rfl (fun W4 y b => Wa (lr (Wm (V (qJ (by exact ue rfl) rfl) (bS hm fun s K hm => ?_))))))
 refine VE (AT b (Cr (Qb Qz) Cn) call41 (fun hH p l h => (wN g u a (.func (.func 42) #[] #[(.pointer (some ⟨y, 0, none⟩))]) (fun (x : js) => uU x i) _ _ ⟨hH, p, jX.refl _⟩ B ⟨42, #[], #[(.pointer (some ⟨y, 0, none⟩))], rfl, call42, fun W x r n hm => (Fc x y (.slice G i.length J) i r W (j.mono (Pl.mono _) (l.trans n)) (At.of (n _ _ (h _ _ Mh)) _ rfl) hm).lG⟩ K)) (fun W7 Z q Y b U m d z => ?_))
 obtain ⟨t, H, c, rfl, D⟩ := z
 replace c := c.symm; subst c
 replace b := b.perm (Tr Tn)
 refine Wa (ln ?_)
 replace b := b.jv (Kr (Db St))
 refine ke ?_
 obtain rfl := sj hm
 exact lj (v := t) rfl rfl ⟨_, _, rfl, (b.lU (Kr Sn)), t, H, rfl, rfl, D⟩
theorem BT (I : Int) (r : List js) (w : World) (hm : se I = some r) :
  lC true pg0 51 [(.slice none 0 0), (.int .i64 I)] w 49 jw 9 r := by
 refine wm 27 func51 rfl (fun b => sg (Wa (lS (Wm (Wi rfl (ln (CI hm rfl (fun K hm => ?_) (fun K hm => ?_))))))))
 ·cases hm
 refine kn (jL (CJ hm (fun u E W => ∃ g c t, ST true kw w W (hp w) (c ++ t) ∧ E 0 = g ∧ jV 49 jw 9 g u c) (fun u a => ?_) ?_))
 ·refine sg (Wm (Wm (V (JE aH rfl) (Wm (V (zq aH rfl) (Wi rfl (Wi rfl (Wa (lr (Wm ?_))))))))))
  refine Wi rfl (ln (CI a rfl (fun y a => ?_) (fun y a => ?_)))
  ·refine jG (Wm (Wm (V (JE aH rfl) (V (MI aH aN rfl rfl) (Wm (bS a fun T B a => VE (Ji (enc := jw) (z := Pm) b kc dc aH dD lh.1 lh.2.1 lh.2.2.1 lh.2.2.2 rfl rfl rfl B (fun N U H b x => Wm (V (zq aH rfl) (bS a fun _ j a => VQ (Bt (i := 0) aH aN rfl rfl x kc (uX j) (uS j)) (fun M G => Wa (ln ?_))))))))))))
   obtain rfl := sj a
   exact ⟨M, H, _, (b.jv St), rfl, G⟩
  refine kn ?_
  obtain rfl := sj a
  exact ⟨(.slice none 0 0), [], _, (b.jv St), rfl, (jV.nil _ _ _)⟩
 rintro Q E W ⟨g, c, t, b, J, k⟩ D
 refine sg (Wh J (Wa (lt ?_)))
 obtain rfl := sj D
 exact lj (v := g) rfl rfl ⟨_, c, rfl, b.oa (fun p d => (Ml d)) k.nd, k⟩
theorem yW (t : Value) (z : List (List js)) (r : List js) (w : World) (j : Sl (GI jw 9) 1 (hp w) t z) (hm : qR z = some r) :
  lC true pg0 28 [t] w 49 jw 9 r := by
 refine wm 36 func28 rfl (fun b => sg (Wa (lr (Wa (lS (Wm ?_))))))
 refine V (kK gj rfl j) (Wm (ln (kA (fun i E W => ∃ u Q, (E 11 = .int .i64 (i : Nat) ∧ E 10 = .int .i64 (z.length : Nat)) ∧ ST true kw w W (hp w) Q ∧ E 0 = t ∧ E 3 = (.int .i64 u) ∧ E 9 = t ∧ oz z (z.drop i) u = some r) z.length j.len ⟨0, _, ⟨rfl, rfl⟩, (b.jv St), rfl, rfl, rfl, hm⟩ dc dc dc (fun _ _ _ h => by obtain ⟨_, _, l, _⟩ := h; exact l) ?_ ?_)))
 ·rintro d1 E W b9 ⟨u, Q, ⟨d, m⟩, b, T, U, Y, a⟩
  obtain ⟨n, e0, c4, c3, c5⟩ := ku b9
  rw [c4] at a
  refine bg (VQ (JC (enc := jw) (k2 := 9) (i := (d1 : Int)) (x0 := n) gj eo Y d j (aG _) c3) (fun e2 ⟨d3, c0, c2⟩ => V (jx rfl (ni b.has (y := d3) c0 dY)) (Wa (lr (Wh U (Wm (V (kK aH rfl c2) (Wi rfl (Wa ?_)))))))))
  refine lr (Wm (Wi rfl (ln (CI a rfl (fun b7 a => ?_) (fun b7 a => ?_)))))
  ·cases a
  exact kQ (kl (jH ⟨d, (wi0 .i64 (u + (n.length : Int))), _, ⟨rfl, m⟩, (b.jv St), T, rfl, Y, (by rw [c5]; exact a)⟩))
 rintro E W ⟨u, Q, ⟨d, m⟩, b, T, U, Y, a⟩
 rw [aM] at a
 refine jH (sg (Wh U (bS a fun d2 c1 a => VE (rH b call51 (BT u _ _  c1) (fun e1 d4 q d0 b a4 s b6 => Wa (lS (Wh T (V (kK gj rfl j) (Wm ?_)))))))))
 refine ln (CJ a (fun K E W => ∃ G x N, ST true kw w W q (x ++ N) ∧ E 6 = G ∧ jV 49 jw 9 G K x) (fun K O => ?_) ?_)
 ·refine kA (fun i E W => ∃ k D g H, (E 27 = .int .i64 (i : Nat) ∧ E 26 = .int .i64 (z.length : Nat)) ∧ ST true kw w W q (g ++ H) ∧ E 6 = k ∧ E 25 = t ∧ jV 49 jw 9 k D g ∧ ow (z.drop i) D = some K) z.length j.len ⟨d4, d2, d0, _, ⟨rfl, rfl⟩, (b.jv St), rfl, rfl, b6, O⟩ dc dc dc (fun _ _ _ h => by obtain ⟨_, _, _, _, l, _⟩ := h; exact l) ?_ ?_
  ·rintro c6 E W a3 ⟨k, D, g, H, ⟨d, m⟩, b, I, J, B, c⟩
   obtain ⟨c9, d5, b0, a9, b1⟩ := ku a3
   rw [b0] at c
   refine bg (VQ (JC (enc := jw) (k2 := 9) (i := (c6 : Int)) (x0 := c9) gj eo J d (j.mono (GI.mono _ _) a4) (aG _) a9) (fun d8 ⟨Z, P, a8⟩ => V (jx rfl (ni b.has (y := Z) P dY)) (Wa (ln (jG (Wh I (Wm (bS c fun c7 a2 c => VE (mR (enc := jw) (v := k) (vs := Z) (R := g) b kc dc mH aH lh.1 lh.2.1 rfl lh.2.2.1 lh.2.2.2 rfl rfl B (a8.mono (Pl.mono _) b.jF) a2 (fun d6 c8 b4 b L => Wa (jT ?_)))))))))))
   exact kl (jH ⟨d, c8, c7, b4, _, ⟨rfl, m⟩, (b.jv St), rfl, J, L, (by rw [b1]; exact c)⟩)
  rintro E W ⟨k, D, g, H, ⟨d, m⟩, b, I, J, B, c⟩
  rw [aM] at c
  refine jH ?_
  obtain rfl := sj c
  exact ⟨k, g, _, (b.jv St), I, B⟩
 rintro d7 E W ⟨G, x, N, b, b5, M⟩ a5
 refine sg (Wh b5 (Wa (lt ?_)))
 obtain rfl := sj a5
 exact lj (v := G) rfl rfl ⟨_, x, rfl, b.oa (fun p hq => (Ml hq)) M.nd, M⟩
theorem tm {n : Type} (I0 : n → LO → Prop) (g8 : Value) (f0 : n → (Int × kF) → Option (Bool × n)) (s0 : n) (L : LO) (g0 : Nat) (c : ByteArray) (k : Value) (D : List kD) (t : Value) (H : List nF) (a : ByteArray) (i : Value) (z : List kD) (j : Value) (B : List nF) (Z a0 : Int) (J : jr) (K : Value) (Y : List Formula) (e8 : Int) (a6 : kT) (b0 e3 c4 : Int) (c5 : Value) (e7 : List Key) (r : n) (w : World) {μ0 : jW} (h0 : ny μ0 (L ++ []) w) (o9 : Aj pg0 g8 μ0 I0 (fun (μ : jW) (vs : List Value) (x : (Int × kF)) => ∃ zs : List Value, vs = [(.int .i64 x.1), .agg zs.toArray] ∧ oW μ zs x.2) (fun (r : Bool) => (.bool r)) f0) (p0 : I0 s0 L) (a8 : Sl kz 15 μ0 k D) (b1 : Sl lF 8 μ0 t H) (a5 : Sl kz 15 μ0 i z) (a7 : Sl lF 8 μ0 j B) (h5 : Sl jt 5 μ0 K Y) (o7 : Sl qt 2 μ0 c5 e7) (e0 : At μ0 (.pointer (some ⟨g0, 0, none⟩)) [(.string c), k, t, (.string a), i, j, (.int .i64 Z), (.int .i64 a0), (.string J.ju), (.string J.jy), K, (.int .i64 e8), (.int .i64 a6.nT), (.int .i64 a6.nD), (.int .i64 b0), (.int .i64 e3), (.int .i64 c4), c5]) (hm : mU f0 s0 c D H a z B Z a0 J Y e8 a6 b0 e3 c4 e7 = some r) :
  kR false pg0 24 [g8, (.pointer (some ⟨g0, 0, none⟩))] w (L ++ []) (fun v L1 W' => ∃ S1, v = (.tuple #[]) ∧ L1 = (S1 ++ []) ∧ I0 r S1) := by
 refine yF h0 53 func24 rfl (fun d => sg (Wa (Wa (lr (Wa (ln (re (lz (mX (fun m E W => ∃ c1 T f7 c2 U f8 O g3 f9 h6 i3, jX μ0 h6 ∧ ST false (keys (L ++ [])) w W h6 (f8 ++ (f7 ++ (f9 ++ i3))) ∧ E 0 = g8 ∧ E 1 = (.pointer (some ⟨g0, 0, none⟩)) ∧ E 3 = c1 ∧ E 4 = c2 ∧ E 5 = (.int .i64 O) ∧ jV 49 jw 9 c1 T f7 ∧ jV 49 jw 9 c2 U f8 ∧ I0 g3 f9 ∧ mN c D H a z B f0 m T U O g3 = some r) kd ⟨(.slice none 0 0), ([]), [], (.slice none 0 0), ([]), [], 0, s0, L, μ0, _, (jX.refl _), (d.jv St), rfl, rfl, rfl, rfl, rfl, (jV.nil _ _ _), (jV.nil _ _ _), p0, hm⟩ ?_)))))))))
 rintro m E W ⟨c1, T, f7, c2, U, f8, O, g3, f9, h6, i3, G, d, g1, s, d8, d9, g2, e1, e2, h8, I⟩
 cases m with
 | zero => rw [mN] at I; cases I
 | succ p1 =>
  refine jL (bg (VQ (qz [(.string c), k, t] El s (e0.mono G) rfl) (fun r1 j6 => V (jx rfl (jS d.has j6 ir fT)) (Wh d9 (VQ (qz [(.string a), i, j] AN s (e0.mono G) rfl) (fun r2 j7 => VQ (qz [(.string a)] Cp rfl j7 rfl) (fun r3 j8 => V (jx rfl (ni d.has (y := (.string a)) j8 bV)) (bS I fun m8 k2 I => VE (rH d call26 (Ec (⟨c, D, H⟩ : kL) k t c2 U a _ _ (a8.mono kC.mono (G.trans d.jF)) (b1.mono mI.mono (G.trans d.jF)) (e2.sl kc (fun b o h => d.at_ (Ml h))) k2) (fun q0 n5 s2 l3 d M aa i7 => Wh d8 (bS I fun b4 k3 I => ?_)))))))))))
  refine VE (AT d (Cr Qz Cn) call25 (fun hH hN ap q => (Cw n5 m8 l3 c1 T _ _ ⟨hH, hN, jX.refl _⟩ i7 (e1.sl kc (fun b o h => q b o (Ma (Ml h)))) k3)) (fun q1 r8 s3 p4 d N ab p i5 => ?_))
  obtain ⟨o1, p8, e4, rfl, b2⟩ := i5
  replace e4 := e4.symm; subst e4
  replace d := d.perm (Tr Tn)
  refine Wa (lr (VQ (qz [(.string a), i, j] AN s (e0.mono ((G.trans M).trans N)) rfl) (fun r4 j9 => V (jx rfl (jS d.has j9 ir fT)) (Wh d8 (VQ (qz [(.string c), k, t] El s (e0.mono ((G.trans M).trans N)) rfl) (fun r5 k0 => VQ (qz [(.string c)] Cp rfl k0 rfl) (fun r6 k1 => V (jx rfl (ni d.has (y := (.string c)) k1 bV)) (bS I fun m9 k4 I => VE (rH d call26 (Ec (⟨a, z, B⟩ : kL) i j c1 T c _ _ (a5.mono kC.mono (((G.trans M).trans N).trans d.jF)) (a7.mono mI.mono (((G.trans M).trans N).trans d.jF)) (e1.sl kc (fun b o h => d.at_ (Ma (Ma (Ml h))))) k4) (fun q2 n6 s4 l4 d e9 ad i8 => Wh d9 (bS I fun b5 k5 I => ?_)))))))))))
  refine VE (AT d (Cr Qz Cn) call25 (fun hH hN ap q => (Cw n6 m9 l4 c2 U _ _ ⟨hH, hN, jX.refl _⟩ i8 (e2.sl kc (fun b o h => q b o (Ma (Ml h)))) k5)) (fun q3 r9 o3 p5 d f1 ae p i6 => ?_))
  obtain ⟨o2, p9, e5, rfl, b3⟩ := i6
  replace e5 := e5.symm; subst e5
  replace d := d.perm (Tr Tn)
  refine Wa (lS (Wm (V (oE aH rfl b2) (Wm (V (oE aH rfl b3) (Wi rfl (Wi rfl (Wm (LJ I (fun P E W => ∃ g4 g7 a9 R h7, jX o3 R ∧ ST false (keys (L ++ [])) w W R (a9 ++ (f8 ++ (f7 ++ h7))) ∧ E 0 = g8 ∧ E 1 = (.pointer (some ⟨g0, 0, none⟩)) ∧ E 3 = c1 ∧ E 4 = c2 ∧ E 5 = (.int .i64 O) ∧ E 6 = g4 ∧ E 7 = g7 ∧ E 42 = (.bool P.2.2.1) ∧ Sl (Pl jw) 9 R g4 P.1 ∧ Sl (Pl jw) 9 R g7 P.2.1 ∧ I0 P.2.2.2 a9) 8 ?_ (fun P Q f6 => ?_))))))))))
  ·rintro ⟨a3, a4, s1, n4⟩ E W ⟨g4, g7, a9, R, h7, h9, d, m0, m1, m2, m3, m4, m5, m6, m7, g9, h1, h2⟩ u
   refine ln (CI u m7 (fun j5 u => ?_) (fun j5 u => ?_))
   ·refine ke (ki (mc (ki (ki (mc (ki ?_))))))
    obtain rfl := sj u
    exact oN rfl ⟨_, _, rfl, (d.lU (Kr Sn)), a9, rfl, rfl, h2⟩
   refine kn (jG (Wh m2 (Wh m5 ?_)))
   obtain ⟨c6, d2, rfl⟩ := e1.form
   obtain ⟨c7, d3, rfl⟩ := g9.form
   refine VE (jY (cs := #[(.slice c6 T.length d2), (.slice c7 a3.length d3)]) d (ov rfl rfl) (mf gj eo gx) (fun q4 l8 d => bS u fun n0 k6 u => VE (rH d call28 (lC.lG (yW (.slice (some ⟨l8, 0, none⟩) 2 2) ([T, a3]) _ _ (GI.lit (l := [T, a3]) (vs := [(.slice c6 T.length d2), (.slice c7 a3.length d3)]) rfl nb (d.at_ Mh) (.cons (e1.sl kc (fun b o h => d.at_ (Mt (Ma (Ma (Ml h)))))) (.cons (g9.mono (Pl.mono _) d.jF) .nil))) k6)) (fun q5 n7 s5 p6 d f2 af i9 => bS u fun n1 k7 u => VE (rH d call27 (CV n7 n0 _ _ (i9.sl kc (fun b o h => d.at_ (Ml h))) k7) (fun q6 n8 s6 l5 d f3 ag j0 => Wh m3 (Wh m6 ?_)))))))
   obtain ⟨c8, d4, rfl⟩ := e2.form
   obtain ⟨c9, d5, rfl⟩ := h1.form
   refine VE (jY (cs := #[(.slice c8 U.length d4), (.slice c9 a4.length d5)]) d (ov rfl rfl) (mf gj eo gx) (fun q7 l9 d => bS u fun n2 k8 u => VE (rH d call28 (lC.lG (yW (.slice (some ⟨l9, 0, none⟩) 2 2) ([U, a4]) _ _ (GI.lit (l := [U, a4]) (vs := [(.slice c8 U.length d4), (.slice c9 a4.length d5)]) rfl nb (d.at_ Mh) (.cons (e2.sl kc (fun b o h => d.at_ (Mt (Ma (Ma (Mt (Ma (Ml h)))))))) (.cons (h1.mono (Pl.mono _) ((f2.trans f3).trans d.jF)) .nil))) k8)) (fun q8 n9 s7 p7 d i0 ah j3 => bS u fun n3 k9 u => VE (rH d call27 (CV n9 n2 _ _ (j3.sl kc (fun b o h => d.at_ (Ml h))) k9) (fun q9 o0 o4 l6 d i1 ai j4 => Wa (Wa (jT (kl (jH ?_))))))))))
   replace d := d.jv (Kr (Dr (Db (Kr (Dr (Db (Kr (Dr (Dr St)))))))))
   exact jG (Wh m4 (Wi rfl (Wa (ln ⟨p1, bn _, n8, n1, l5, o0, n3, l6, (wi0 .i64 (O + 1)), n4, a9, o4, _, (((((((((G.trans M).trans N).trans e9).trans f1).trans h9).trans f2).trans f3).trans i0).trans i1), (d.jv St), m0, m1, rfl, rfl, rfl, j0, j4, h2, u⟩))))
  refine bC Q (fun g Q => ?_) (fun g Q => ?_)
  ·refine un g (un g (un g (un g (un g (un g (un g (V (jO (cB g) rfl) ?_)))))))
   obtain rfl := sj Q
   replace d := d.perm (Nr (Qr Qz) Nz)
   obtain ⟨s8, d, i2, aj, l1⟩ := ST.CX d b2 kc
   obtain ⟨o5, d, f4, ak, l2⟩ := ST.CX d b3 kc
   exact f6 _ _ ⟨o1, o2, f9, o5, _, (i2.trans f4), (d.jv (Sr (Qr (Qr Qz)) St)), g1, s, d8, d9, g2, rfl, rfl, rfl, (l1.mono (Pl.mono _) f4), l2, h8⟩
  refine ug g (jz g1) (ug g (jz g2) (ug g (jz rfl) (ug g (jz rfl) ?_)))
  obtain ⟨d0, d6, rfl⟩ := b2.form
  let b8 : Value := (.slice d0 b4.length d6)
  obtain ⟨d1, d7, rfl⟩ := b3.form
  let e6 : Value := (.slice d1 b5.length d7)
  refine ug g (lf (v := (.agg #[b8, e6])) (ov rfl rfl) (CS zeroValue43 eQ eo kr)) ?_
  replace d := d.perm (Nr (Qr Qz) Nz)
  obtain ⟨s9, d, f5, al, h3⟩ := ST.CX d b2 kc
  obtain ⟨t0, d, a2, an, h4⟩ := ST.CX d b3 kc
  refine bS Q fun r7 l0 Q => T8 rfl (cB g) (QR g3 (O, (⟨b4, b5⟩ : kF)) _ d (Nr (Qr (Qr Qz)) Nz) o9 ((((((G.trans M).trans N).trans e9).trans f1).trans f5).trans a2) h8 (fun hs => ⟨_, rfl, It.mono _ _ _ _ hs (oW.mk ⟨b8, e6, rfl, (h3.mono (Pl.mono _) a2), h4⟩)⟩) rfl (uW rfl rfl) l0 (fun r0 o6 l7 d c0 ao i4 => ug g (nt rfl) (V (jP (cB g) rfl) ?_)))
  obtain rfl := sj Q
  exact f6 _ _ ⟨b8, e6, l7, o6, _, ((f5.trans a2).trans c0), (d.jv St), g1, s, d8, d9, g2, rfl, rfl, rfl, (h3.mono (Pl.mono _) (a2.trans c0)), (h4.mono (Pl.mono _) c0), i4⟩
set_option maxHeartbeats 4000000 in
theorem DM (a : na) (Q T H N I d4 : Value) (r : ((List kT) × Bool)) (w : World) (z : Sl kz 15 (hp w) Q a.ju.jN) (B : Sl lF 8 (hp w) T a.ju.ky) (t : Sl kz 15 (hp w) H a.Client.jN) (y : Sl lF 8 (hp w) N a.Client.ky) (u : Sl jt 5 (hp w) I a.Formula.Kids) (G : Sl qt 2 (hp w) d4 a.Keys) (hm : sR a = some r) :
  kR false pg0 30 [(.agg #[(.string a.ju.Name), Q, T, (.string a.Client.Name), H, N, (.int .i64 a.Formula.Op), (.int .i64 a.Formula.K), (.string a.Formula.jr.ju), (.string a.Formula.jr.jy), I, (.int .i64 a.uY), (.int .i64 a.nu.nT), (.int .i64 a.nu.nD), (.int .i64 a.pa), (.int .i64 a.sH), (.int .i64 a.qp), d4])] w [] (fun v L1 W' => ∃ y1 S2, v = (.tuple #[y1, (.bool (r.2))]) ∧ L1 = (S2 ++ []) ∧ jV 31 lP 2 y1 r.1 S2) := by
 let b6 := ((List kT) × kT × (List js))
 have d := ST.start (dd := false) w
 refine EM (n := 43) func30 rfl rfl nb (yl (jG ?_))
 obtain ⟨A1, c2, rfl⟩ := z.form
 let c1 : Value := (.slice A1 a.ju.jN.length c2)
 obtain ⟨A3, c4, rfl⟩ := B.form
 let c9 : Value := (.slice A3 a.ju.ky.length c4)
 obtain ⟨A5, c6, rfl⟩ := t.form
 let b8 : Value := (.slice A5 a.Client.jN.length c6)
 obtain ⟨A7, c8, rfl⟩ := y.form
 let c3 : Value := (.slice A7 a.Client.ky.length c8)
 obtain ⟨A9, Z, rfl⟩ := u.form
 let c5 : Value := (.slice A9 a.Formula.Kids.length Z)
 obtain ⟨Y, a1, rfl⟩ := G.form
 let g6 : Value := (.slice Y a.Keys.length a1)
 let a0 := (C2 a.ju.Name A1 a.ju.jN.length c2 A3 a.ju.ky.length c4 a.Client.Name A5 a.Client.jN.length c6 A7 a.Client.ky.length c8 a.Formula.Op a.Formula.K a.Formula.jr.ju a.Formula.jr.jy A9 a.Formula.Kids.length Z a.uY a.nu.nT a.nu.nD a.pa a.sH a.qp Y a.Keys.length a1)
 refine VE (kv d rfl (fun n1 e4 d => VE (jU d zeroValue64 (fun n2 d2 d => VE (jU d gp (fun n3 d3 d => ln (yl (jG (VE (jU d gx (fun n4 e5 d => ln (yl (jG (VE (jU d zeroValue64 (fun n5 e6 d => ln ?_))))))))))))))))
 refine yl (jG (V (lf (v := (.agg (lP K5).toArray)) pu (CS jk fh dW kr)) (VE (jU d jk (fun n6 e7 d => VO (jK (.agg (lP K5).toArray) ((lP K5).toArray) d rfl rfl sizeOf31 (GD K5) nb rfl (fun n7 d => ln (yl (sg (VA d (Mt (Mt (Mt (Mt (Mt Mh))))) a0 fI eL (bS hm fun o2 i6 hm => VE (Eg d call53 (AX a c1 c9 b8 c3 c5 g6 (.slice none 0 0) ([]) _ _ (z.mono kC.mono d.jF) (B.mono mI.mono d.jF) (t.mono kC.mono d.jF) (y.mono mI.mono d.jF) (u.mono jC.mono d.jF) (G.mono yg.mono d.jF) (Sl.nil _ _ _) i6) (fun n8 d => ln ?_)))))))))))))
 refine CI hm rfl (fun i5 hm => ?_) (fun i5 hm => ?_)
 ·refine sg ?_
  replace d := d.perm (Nb (Pb (Pb (Pb (Pb Pz)))) Nz)
  refine VO (jK (.slice none 0 0) (#[(.slice none 0 0)]) d rfl rfl sizeOf64 oc nb rfl (fun n9 d => ?_))
  replace d := d.perm (Nb (Pb (Pb (Pb (Pb Pz)))) Nz)
  refine VO (jK (.bool true) (#[(.bool true)]) d rfl rfl iL (Ee true) nb rfl (fun o0 d => ln ?_))
  replace d := d.jv (Kb (Kb (Db (Db (Db (Db St))))))
  refine ke (ki (MN ?_))
  obtain rfl := sj hm
  refine Ce (v0 := (.slice none 0 0)) (v1 := (.bool true)) rfl rfl (jJ d.has (Mt Mh) rfl isAgg64) rfl (jJ d.has Mh rfl jl) ?_
  replace d := d.OJ
  exact ⟨_, _, rfl, (d.Ih (Kr Sn)), (.slice none 0 0), [], rfl, rfl, (jV.nil _ _ _)⟩
 refine kn (N1 (yl (jG (VA d (Mt (Mt (Mt (Mt (Mt Mh))))) a0 fI eL (bS hm fun a8 i7 hm => ?_)))))
 refine VE (AT d (bT _) call8 (fun _ _ _ _ => kR.lG (wk a c1 c9 b8 c3 c5 g6 _ _ (z.mono kC.mono d.jF) (B.mono mI.mono d.jF) (t.mono kC.mono d.jF) (y.mono mI.mono d.jF) (u.mono jC.mono d.jF) (G.mono yg.mono d.jF) i7)) (fun o1 o3 k0 n0 d D al ai i4 => ?_) (L0 := []))
 obtain ⟨i2, f9, rfl⟩ := i4
 replace f9 := f9.symm; subst f9
 replace d := d.perm (Tb Tn)
 refine ln (H0 (HY d rfl call24 (fun lp ad Lp W ab d => ?_)))
 let j3 : Value := (.func (.yield lp) #[] #[])
 have hy : Aj pg0 j3 k0 (FY lp Lp (fun (s : b6) (R : LO) => ∃ U J a4 a3, R = ((e6, Ob #[U] 64) :: ((e7, Ol (lP s.2.1) 31) :: ((e5, Ob #[a4] 42) :: ((d3, Ob #[(.bool false)] 4) :: ((d2, Ob #[(.slice none 0 0)] 64) :: ((e4, Ol a0 34) :: (J ++ (a3 ++ [])))))))) ∧ jV 31 lP 2 U s.1 J ∧ jV 49 jw 9 a4 s.2.2 a3) (fun (s : (Bool × (List kT))) (R : LO) => ∃ a6 a9, R = ((d3, Ob #[(.bool s.1)] 4) :: ((d2, Ob #[a6] 64) :: (a9 ++ []))) ∧ jV 31 lP 2 a6 s.2 a9)) (fun (μ : jW) (vs : List Value) (x : (Int × kF)) => ∃ zs : List Value, vs = [(.int .i64 x.1), .agg zs.toArray] ∧ oW μ zs x.2) (fun b => .bool b) (xP (fun (s : b6) (x : (Int × kF)) => rN a x.1 x.2 s.1 s.2.1 s.2.2)) := by
  refine Ia ab (by rintro _ _ _ ⟨_, rfl, _⟩; rfl) dc (fun w s x vs h2 R0 j0 a2 aj ae af hI d ag a7 => ?_)
  obtain ⟨_, rfl, j5⟩ := ag
  obtain ⟨i9, k⟩ := x
  let b5 := (k.nD.length : Int)
  let b4 := (k.nT.length : Int)
  obtain ⟨m4, m5, rfl, aa, P⟩ := j5.out
  obtain ⟨b1, f6, h1⟩ := s
  obtain ⟨U, J, a4, a3, rfl, d7, g4⟩ := hI
  replace a7 : rN a i9 k b1 f6 h1 = some h2 := a7
  unfold Mi
  generalize GN lp = M
  refine jG (VE (jU d zeroValue43 (fun k4 h0 d => ?_)))
  obtain ⟨f7, f8, rfl⟩ := aa.form
  let j4 : Value := (.slice f7 k.nT.length f8)
  obtain ⟨e8, f0, rfl⟩ := P.form
  let j1 : Value := (.slice e8 k.nD.length f0)
  refine VO (jK (.agg #[j4, j1]) (#[j4, j1]) d rfl rfl sizeOf43 oc nb rfl (fun k5 d => ln ⟨d.mj lp ae af, fun o => ?_⟩))
  replace d := d.frame o ae af aj
  generalize w.putObj lp o = w at d ⊢
  refine bg (VB d (Mt (Mt (Mt Mh))) rfl rfl dY (V (oD (i := 1) eQ eo rfl rfl dc dc) (VB d Mh rfl rfl dY ?_)))
  replace d := d.perm (Nr (Qb (Qb (Qb (Qb (Qb (Qb (Qb (Qr Qz)))))))) Nz)
  refine bS a7 fun b2 h4 a7 => VE (mR (enc := jw) (v := a4) (vs := j1) (R := a3) d kc dc mH aH lh.1 lh.2.1 rfl lh.2.2.1 lh.2.2.2 rfl rfl g4 (P.mono (Pl.mono _) d.jF) h4 (fun k6 m6 g8 d f2 => ?_))
  obtain ⟨d8, d9, rfl⟩ := f2.form
  let g5 : Value := (.slice d8 b2.length d9)
  replace d := d.perm (Nb (Pr (Pb (Pb (Pb Pz)))) Nz)
  refine VO (jK g5 (#[g5]) d rfl rfl eo oc nb rfl (fun k7 d => lS (Wm (ln (lz (mX (fun m E W => ∃ b3 g g7, ST false (keys ((e6, Ob #[U] 64) :: ((e7, Ol (lP f6) 31) :: ((e5, Ob #[a4] 42) :: ((d3, Ob #[(.bool false)] 4) :: ((d2, Ob #[(.slice none 0 0)] 64) :: ((e4, Ol a0 34) :: (J ++ (a3 ++ []))))))))) w W j0 ((e7, Ol (lP g) 31) :: ((e5, Ob #[g5] 42) :: ((h0, Ob #[j4, j1] 43) :: ((e6, Ob #[U] 64) :: ((d3, Ob #[(.bool false)] 4) :: ((d2, Ob #[(.slice none 0 0)] 64) :: ((e4, Ol a0 34) :: (g8 ++ (J ++ g7))))))))) ∧ E 1 = (.pointer (some ⟨e4, 0, none⟩)) ∧ E 2 = (.pointer (some ⟨d2, 0, none⟩)) ∧ E 3 = (.pointer (some ⟨d3, 0, none⟩)) ∧ E 4 = (.pointer (some ⟨e5, 0, none⟩)) ∧ E 5 = (.pointer (some ⟨e6, 0, none⟩)) ∧ E 6 = (.pointer (some ⟨e7, 0, none⟩)) ∧ E 8 = (.pointer (some ⟨h0, 0, none⟩)) ∧ E 21 = (.int .i64 b3) ∧ nL k b1 a b2 m b3 g = some h2) kd ⟨0, f6, _, (d.jv (Sb (Pb (Pr (Pb (Pb Pz)))) (Kb (Sb (Pr Pz) (Sb (Pr Pz) (Sb (Pr Pz) (Sb (Pr Pz) (Sb (Pr Pz) St)))))))), rfl, rfl, rfl, rfl, rfl, rfl, rfl, rfl, a7⟩ ?_))))))
  rintro m E W ⟨b3, g, g7, d, e0, e1, e2, e3, b0, K, a5, d0, c⟩
  cases m with
  | zero => rw [nL] at c; cases c
  | succ f5 =>
   refine sg (V (kh d0 rfl rfl) (ln (jL (CI c rfl (fun h5 c => ?_) (fun h5 c => ?_)))))
   ·refine kn (jL (bg (Wh d0 (Wa (ln ?_)))))
    replace d := d.drew
    have p := d.has.jv (Db (Db (Kb Sn)))
    have q := d.has.jv (Kb Sn)
    refine tE 9 p q kp (kf 0 rfl kr (.inl rfl) rfl dc (fun _ _ h => ⟨h.1, km br h.2⟩) ⟨p, fun _ => q⟩ (fun _ _ _ _ => jz rfl) (bC c (fun d5 c => ?_) (fun d5 c => ?_)))
    ·refine kf 1 rfl kr (.inl rfl) rfl dc (fun _ _ h => ⟨h.1, km br h.2⟩) ⟨p, fun _ => q⟩ (fun _ _ _ _ => oD (i := 0) fh dW K (DG (j := 0) d5 rfl) dc dc) (kf 2 rfl kr (.inl rfl) rfl dc (fun _ _ h => ⟨h.1, km br h.2⟩) ⟨p, fun _ => q⟩ (fun l W L hs => have hS := (hs.2 (L.Bb 9 [2] kr rfl)); jx rfl (jJ hS Mh rfl bR)) (kf 3 rfl kr (.inl rfl) rfl dc (fun _ _ h => ⟨h.1, km br h.2⟩) ⟨p, fun _ => q⟩ (fun _ _ _ _ => jz rfl) (bC c (fun g0 c => ?_) (fun g0 c => ?_))))
     ·refine kf 4 rfl kr (.inl rfl) rfl dc (fun _ _ h => ⟨h.1, km br h.2⟩) ⟨p, fun _ => q⟩ (fun _ _ _ _ => oD (i := 0) eQ eo a5 (DG (j := 0) g0 rfl) dc dc) (kf 5 rfl kr (.inl rfl) rfl dc (fun _ _ h => ⟨h.1, km br h.2⟩) ⟨p, fun _ => q⟩ (fun l W L hs => have hS := hs.1; jx rfl (jJ hS Mh rfl dY)) (kf 6 rfl kr (.inl rfl) rfl dc (fun _ _ h => ⟨h.1, km br h.2⟩) ⟨p, fun _ => q⟩ (fun _ _ _ _ => kK aH rfl aa) (kf 7 rfl kr (.inl rfl) rfl dc (fun _ _ h => ⟨h.1, km br h.2⟩) ⟨p, fun _ => q⟩ (fun _ _ _ _ => kh rfl rfl rfl) (kf 8 rfl kr (.inl rfl) rfl dc (fun _ _ h => ⟨h.1, km br h.2⟩) ⟨p, fun _ => q⟩ (fun _ _ _ _ => oD (i := 0) fh dW K (DG (j := 0) d5 rfl) dc dc) (XO 9 rfl (jK (.int .i64 (wi0 .i64 (g.nT + b4))) ((lP (⟨(wi0 .i64 (g.nT + b4)), g.nD⟩ : kT)).toArray) d rfl rfl dW (wQ _ (wi0 .i64 (g.nT + b4))) nb rfl (fun k8 d => ?_)))))))
      have p := d.has.jv (Db (Db (Kb Sn)))
      exact ⟨⟨p, fun h => xr kr h⟩, (kP kr (kl (jH (jG (V (kh d0 rfl rfl) (Wm (ln ⟨f5, bn _, (wi0 .i64 (b3 + 1)), (⟨(wi0 .i64 (g.nT + b4)), g.nD⟩ : kT), _, (d.jv St), e0, e1, e2, e3, b0, K, a5, rfl, c⟩)))))))⟩
     refine bC c (fun g1 c => ?_) (fun g1 c => ?_)
     ·let j7 := (⟨(wi0 .i64 (g.nT + b5)), g.nD⟩ : kT)
      refine kf 4 rfl kr (.inl rfl) rfl dc (fun _ _ h => ⟨h.1, km br h.2⟩) ⟨p, fun _ => q⟩ (fun _ _ _ _ => oD (i := 1) eQ eo a5 (DG (j := 1) g1 rfl) dc dc) (kf 5 rfl kr (.inl rfl) rfl dc (fun _ _ h => ⟨h.1, km br h.2⟩) ⟨p, fun _ => q⟩ (fun l W L hs => have hS := hs.1; jx rfl (jJ hS Mh rfl dY)) (kf 6 rfl kr (.inl rfl) rfl dc (fun _ _ h => ⟨h.1, km br h.2⟩) ⟨p, fun _ => q⟩ (fun _ _ _ _ => kK aH rfl P) (kf 7 rfl kr (.inl rfl) rfl dc (fun _ _ h => ⟨h.1, km br h.2⟩) ⟨p, fun _ => q⟩ (fun _ _ _ _ => kh rfl rfl rfl) (kf 8 rfl kr (.inl rfl) rfl dc (fun _ _ h => ⟨h.1, km br h.2⟩) ⟨p, fun _ => q⟩ (fun _ _ _ _ => oD (i := 0) fh dW K (DG (j := 0) d5 rfl) dc dc) (XO 9 rfl (jK (.int .i64 (wi0 .i64 (g.nT + b5))) ((lP j7).toArray) d rfl rfl dW (wQ _ (wi0 .i64 (g.nT + b5))) nb rfl (fun k9 d => ?_)))))))
      have p := d.has.jv (Db (Db (Kb Sn)))
      exact ⟨⟨p, fun h => xr kr h⟩, (kP kr (kl (jH (jG (V (kh d0 rfl rfl) (Wm (ln ⟨f5, bn _, (wi0 .i64 (b3 + 1)), j7, _, (d.jv St), e0, e1, e2, e3, b0, K, a5, rfl, c⟩)))))))⟩
     cases c
    refine bC c (fun d6 c => ?_) (fun d6 c => ?_)
    ·refine kf 1 rfl kr (.inl rfl) rfl dc (fun _ _ h => ⟨h.1, km br h.2⟩) ⟨p, fun _ => q⟩ (fun _ _ _ _ => oD (i := 1) fh dW K (DG (j := 1) d6 rfl) dc dc) (kf 2 rfl kr (.inl rfl) rfl dc (fun _ _ h => ⟨h.1, km br h.2⟩) ⟨p, fun _ => q⟩ (fun l W L hs => have hS := (hs.2 (L.Bb 9 [2] kr rfl)); jx rfl (jJ hS Mh rfl bR)) (kf 3 rfl kr (.inl rfl) rfl dc (fun _ _ h => ⟨h.1, km br h.2⟩) ⟨p, fun _ => q⟩ (fun _ _ _ _ => jz rfl) (bC c (fun g2 c => ?_) (fun g2 c => ?_))))
     ·let j8 := (⟨g.nT, (wi0 .i64 (g.nD + b4))⟩ : kT)
      refine kf 4 rfl kr (.inl rfl) rfl dc (fun _ _ h => ⟨h.1, km br h.2⟩) ⟨p, fun _ => q⟩ (fun _ _ _ _ => oD (i := 0) eQ eo a5 (DG (j := 0) g2 rfl) dc dc) (kf 5 rfl kr (.inl rfl) rfl dc (fun _ _ h => ⟨h.1, km br h.2⟩) ⟨p, fun _ => q⟩ (fun l W L hs => have hS := hs.1; jx rfl (jJ hS Mh rfl dY)) (kf 6 rfl kr (.inl rfl) rfl dc (fun _ _ h => ⟨h.1, km br h.2⟩) ⟨p, fun _ => q⟩ (fun _ _ _ _ => kK aH rfl aa) (kf 7 rfl kr (.inl rfl) rfl dc (fun _ _ h => ⟨h.1, km br h.2⟩) ⟨p, fun _ => q⟩ (fun _ _ _ _ => kh rfl rfl rfl) (kf 8 rfl kr (.inl rfl) rfl dc (fun _ _ h => ⟨h.1, km br h.2⟩) ⟨p, fun _ => q⟩ (fun _ _ _ _ => oD (i := 1) fh dW K (DG (j := 1) d6 rfl) dc dc) (XO 9 rfl (jK (.int .i64 (wi0 .i64 (g.nD + b4))) ((lP j8).toArray) d rfl rfl dW (wQ _ (wi0 .i64 (g.nD + b4))) nb rfl (fun l0 d => ?_)))))))
      have p := d.has.jv (Db (Db (Kb Sn)))
      exact ⟨⟨p, fun h => xr kr h⟩, (kP kr (kl (jH (jG (V (kh d0 rfl rfl) (Wm (ln ⟨f5, bn _, (wi0 .i64 (b3 + 1)), j8, _, (d.jv St), e0, e1, e2, e3, b0, K, a5, rfl, c⟩)))))))⟩
     refine bC c (fun g3 c => ?_) (fun g3 c => ?_)
     ·let j9 := (⟨g.nT, (wi0 .i64 (g.nD + b5))⟩ : kT)
      refine kf 4 rfl kr (.inl rfl) rfl dc (fun _ _ h => ⟨h.1, km br h.2⟩) ⟨p, fun _ => q⟩ (fun _ _ _ _ => oD (i := 1) eQ eo a5 (DG (j := 1) g3 rfl) dc dc) (kf 5 rfl kr (.inl rfl) rfl dc (fun _ _ h => ⟨h.1, km br h.2⟩) ⟨p, fun _ => q⟩ (fun l W L hs => have hS := hs.1; jx rfl (jJ hS Mh rfl dY)) (kf 6 rfl kr (.inl rfl) rfl dc (fun _ _ h => ⟨h.1, km br h.2⟩) ⟨p, fun _ => q⟩ (fun _ _ _ _ => kK aH rfl P) (kf 7 rfl kr (.inl rfl) rfl dc (fun _ _ h => ⟨h.1, km br h.2⟩) ⟨p, fun _ => q⟩ (fun _ _ _ _ => kh rfl rfl rfl) (kf 8 rfl kr (.inl rfl) rfl dc (fun _ _ h => ⟨h.1, km br h.2⟩) ⟨p, fun _ => q⟩ (fun _ _ _ _ => oD (i := 1) fh dW K (DG (j := 1) d6 rfl) dc dc) (XO 9 rfl (jK (.int .i64 (wi0 .i64 (g.nD + b5))) ((lP j9).toArray) d rfl rfl dW (wQ _ (wi0 .i64 (g.nD + b5))) nb rfl (fun l1 d => ?_)))))))
      have p := d.has.jv (Db (Db (Kb Sn)))
      exact ⟨⟨p, fun h => xr kr h⟩, (kP kr (kl (jH (jG (V (kh d0 rfl rfl) (Wm (ln ⟨f5, bn _, (wi0 .i64 (b3 + 1)), j9, _, (d.jv St), e0, e1, e2, e3, b0, K, a5, rfl, c⟩)))))))⟩
     cases c
    cases c
   refine mW (mK (mK (qG (jH ?_))))
   replace d := d.jv (Kb (Kb (Db St)))
   refine sg (V (jx b0 (jJ d.has (Mt (Mt Mh)) rfl isAgg64)) (V (jx K (jD d.has Mh (lP g) rfl isAgg31 sizeOf31)) (VE (jY (cs := (lP g).toArray) d (lM rfl) (mf iu sizeOf31 jk) (fun l2 i3 d => ?_)))))
   replace d := d.perm (Nr (Qb (Qb (Qb (Qb (Qb (Qb (Qb (Qr Qz)))))))) Nz)
   refine bS c fun d1 h6 c => VE (mR (enc := lP) (v := U) (vs := (.slice (some ⟨i3, 0, none⟩) 1 1)) (R := J) d Di dc GD iu Gw.1 Gw.2.1 rfl Gw.2.2.1 Gw.2.2.2 rfl rfl d7 (Sl.lit (enc := lP) (l := [g]) Di rfl nb rfl (d.at_ (Ma Mh))) h6 (fun l3 m7 g9 d f3 => ?_))
   obtain ⟨b9, c7, rfl⟩ := f3.form
   let b7 : Value := (.slice b9 d1.length c7)
   replace d := d.perm (Nb (Pr (Pb (Pb (Pb Pz)))) Nz)
   refine VO (jK b7 (#[b7]) d b0 rfl sizeOf64 oc nb rfl (fun l4 d => ln ?_))
   replace d := d.jv (Kb (Kr (Db St)))
   refine sg (V (jx e0 (jD d.has (Mt (Ma (Mt (Mt (Mt (Mt Mh)))))) a0 rfl fI eL)) (V (jx e3 (jJ d.has (Mt (Ma (Mt Mh))) rfl dY)) (bS c fun m2 h8 c => VE (Eg d call53 (AX a c1 c9 b8 c3 c5 g6 g5 b2 _ _ (z.mono kC.mono ((D.trans a2).trans d.jF)) (B.mono mI.mono ((D.trans a2).trans d.jF)) (t.mono kC.mono ((D.trans a2).trans d.jF)) (y.mono mI.mono ((D.trans a2).trans d.jF)) (u.mono jC.mono ((D.trans a2).trans d.jF)) (G.mono yg.mono ((D.trans a2).trans d.jF)) (f2.sl kc (fun b o hq => d.at_ (Mt (Ma (Mt (Mt (Mt (Mt (Mt (Ml hq)))))))))) h8) (fun l5 d => ln (CI c rfl (fun h7 c => ?_) (fun h7 c => ?_)))))))
   ·refine sg (V (jx b0 (jJ d.has Mh rfl isAgg64)) ?_)
    replace d := d.perm (Nb (Pb (Pr (Pb (Pb (Pb Pz))))) Nz)
    refine VO (jK b7 (#[b7]) d e1 rfl sizeOf64 oc nb rfl (fun l6 d => ?_))
    replace d := d.perm (Nb (Pb (Pb (Pr (Pb (Pb Pz))))) Nz)
    refine VO (jK (.bool true) (#[(.bool true)]) d e2 rfl iL (Ee true) nb rfl (fun l7 d => lt (mc (ki (LI ?_)))))
    obtain rfl := sj c
    exact ⟨_, (d.lU (Kb (Kb (Db (Kr Sn))))), rfl, ⟨b7, g9, rfl, f3⟩⟩
   refine kQ (kl (jH ?_))
   obtain rfl := sj c
   exact ⟨_, (d.lU (Kb (Sb (Pr Pz) (Sb (Pr Pz) (Sb (Pr Pz) (Sb (Pr Pz) (Sb (Pr Pz) (Kr (Kr Sn))))))))), rfl, ⟨b7, g9, g5, g8, rfl, f3, f2⟩⟩
 refine bS hm fun m3 h9 hm => ?_
 let c0 := (#[(.slice none 0 0)] : Array Value)
 refine FG (args := [j3, (.pointer (some ⟨i2, 0, none⟩))]) d (Cr (Cb Pz (Cb (Pb (Pb (Pb Pz))) (Cb (Pb (Pb Pz)) (Cb (Pb (Pb Pz)) (Cb (Pb (Pb Pz)) (Cb (Pb (Pb Pz)) (Cb (Pb (Pb Pz)) Cn))))))) Cn) rfl (fun hH hN O ak => (tm (FY lp Lp (fun (s : b6) (R : LO) => ∃ U J a4 a3, R = ((e6, Ob #[U] 64) :: ((e7, Ol (lP s.2.1) 31) :: ((e5, Ob #[a4] 42) :: ((d3, Ob #[(.bool false)] 4) :: ((d2, Obj.cells c0 64 (0, 0)) :: ((e4, Ol a0 34) :: (J ++ (a3 ++ [])))))))) ∧ jV 31 lP 2 U s.1 J ∧ jV 49 jw 9 a4 s.2.2 a3) (fun (s : (Bool × (List kT))) (R : LO) => ∃ a6 a9, R = ((d3, Ob #[(.bool s.1)] 4) :: ((d2, Ob #[a6] 64) :: (a9 ++ []))) ∧ jV 31 lP 2 a6 s.2 a9)) j3 (xP (fun (s : b6) (x : (Int × kF)) => rN a x.1 x.2 s.1 s.2.1 s.2.2)) (Sum.inl (([]), K5, ([]))) ((lp, (Obj.loop Lp)) :: ((e6, Obj.cells c0 64 (0, 0)) :: ((e7, Ol (lP K5) 31) :: ((e5, Obj.cells c0 42 (0, 0)) :: ((d3, Ob #[(.bool false)] 4) :: ((d2, Obj.cells c0 64 (0, 0)) :: ((e4, Ol a0 34) :: []))))))) i2 a8.1 c1 a.ju.jN c9 a.ju.ky a8.2.1 b8 a.Client.jN c3 a.Client.ky a8.2.2.1 a8.2.2.2.1 a8.2.2.2.2.1 c5 a.Formula.Kids a8.2.2.2.2.2.1 a8.2.2.2.2.2.2.1 a8.2.2.2.2.2.2.2.1 a8.2.2.2.2.2.2.2.2.1 a8.2.2.2.2.2.2.2.2.2 g6 a.Keys _ _ ⟨hH, hN, jX.refl _⟩ (hy.mono O) ⟨_, rfl, ⟨(.slice none 0 0), [], (.slice none 0 0), [], rfl, (jV.nil _ _ _), (jV.nil _ _ _)⟩⟩ (z.mono kC.mono (D.trans O)) (B.mono mI.mono (D.trans O)) (t.mono kC.mono (D.trans O)) (y.mono mI.mono (D.trans O)) (u.mono jC.mono (D.trans O)) (G.mono yg.mono (D.trans O)) (At.of (ak _ _ (Mt Mh)) _ rfl) h9)) (fun l8 m8 m9 k2 d j6 ah h3 => ?_)
 obtain ⟨k3, f4, rfl, i1⟩ := h3
 replace f4 := f4.symm; subst f4
 simp only [aJ, bE, aV] at d
 refine KU ab.st ab.pe d i1 (fun s W R0 o hq hI d => ?_) (fun s W R0 o hq hI d => ?_)
 ·subst hq
  try dsimp only at hm
  obtain ⟨b1, f6, h1⟩ := s
  obtain ⟨U, J, a4, a3, rfl, d7, g4⟩ := hI
  try simp only [aJ, bE, aV] at d
  refine kl (jH ?_)
  replace d := d.jv (Kb (Db (Db (Kb (Kb (Db (Kr (Dr (Db (Kb (Db St)))))))))))
  generalize LC [{ target := .collected ad, args := #[] }] = M
  refine sg (VB d Mh rfl rfl isAgg64 ?_)
  obtain ⟨e9, f1, rfl⟩ := d7.form
  let j2 : Value := (.slice e9 b1.length f1)
  replace d := d.perm (Nb (Pb (Pb Pz)) Nz)
  refine VO (jK j2 (#[j2]) d rfl rfl sizeOf64 oc nb rfl (fun l9 d => ?_))
  replace d := d.perm (Nb (Pb (Pb Pz)) Nz)
  refine VO (jK (.bool false) (#[(.bool false)]) d rfl rfl iL (Ee false) nb rfl (fun m0 d => ln ?_))
  replace d := d.jv (Kb (Kb (Db St)))
  refine ke (Dh d (Nb (Pb (Pb (Pr Pz))) Nz) (fun W d => ?_))
  obtain rfl := sj hm
  exact Ce (v0 := j2) (v1 := (.bool false)) rfl rfl (jJ d.has (Mt (Mt Mh)) rfl isAgg64) rfl (jJ d.has (Mt Mh) rfl jl) ⟨_, _, rfl, (d.Ih (Db (Db (Db (Kr Sn))))), j2, J, rfl, rfl, d7⟩
 subst hq
 try dsimp only at hm
 obtain ⟨i8, m1⟩ := s
 obtain ⟨a6, a9, rfl, i0⟩ := hI
 try simp only [aJ, bE, aV] at d
 refine mc (ki (Dh d (Nb (Pb (Pb (Pr (Pb Pz)))) Nz) (fun W d => ?_)))
 obtain rfl := sj hm
 exact Ce (v0 := a6) (v1 := (.bool i8)) rfl rfl (jJ d.has (Mt (Mt Mh)) rfl isAgg64) rfl (jJ d.has (Mt Mh) rfl jl) ⟨_, _, rfl, (d.Ih (Db (Db (Db (Kr Sn))))), a6, a9, rfl, rfl, i0⟩
theorem Cz (a : na) (y B i x j G : Value) (r : (Int × Bool)) (w : World) (t : Sl kz 15 (hp w) y a.ju.jN) (z : Sl lF 8 (hp w) B a.ju.ky) (c : Sl kz 15 (hp w) i a.Client.jN) (k : Sl lF 8 (hp w) x a.Client.ky) (g : Sl jt 5 (hp w) j a.Formula.Kids) (D : Sl qt 2 (hp w) G a.Keys) (hm : sb a = some r) :
  jZ false pg0 14 [(.agg #[(.string a.ju.Name), y, B, (.string a.Client.Name), i, x, (.int .i64 a.Formula.Op), (.int .i64 a.Formula.K), (.string a.Formula.jr.ju), (.string a.Formula.jr.jy), j, (.int .i64 a.uY), (.int .i64 a.nu.nT), (.int .i64 a.nu.nD), (.int .i64 a.pa), (.int .i64 a.sH), (.int .i64 a.qp), G])] w (.tuple #[(.int .i64 r.1), (.bool r.2)]) := by
 refine cG 15 func14 rfl (fun b => sg ?_)
 obtain ⟨M, Y, rfl⟩ := t.form
 obtain ⟨N, Z, rfl⟩ := z.form
 obtain ⟨Q, h, rfl⟩ := c.form
 obtain ⟨T, l, rfl⟩ := k.form
 obtain ⟨U, J, rfl⟩ := g.form
 obtain ⟨I, K, rfl⟩ := D.form
 refine VE (kv b rfl (fun E O b => Wa (Wa (lr (VA b Mh (C2 a.ju.Name M a.ju.jN.length Y N a.ju.ky.length Z a.Client.Name Q a.Client.jN.length h T a.Client.ky.length l a.Formula.Op a.Formula.K a.Formula.jr.ju a.Formula.jr.jy U a.Formula.Kids.length J a.uY a.nu.nT a.nu.nD a.pa a.sH a.qp I a.Keys.length K) fI eL (bS hm fun p a5 hm => ?_))))))
 refine VE (AT b (bT _) call30 (fun _ _ _ _ => (DM a (.slice M a.ju.jN.length Y) (.slice N a.ju.ky.length Z) (.slice Q a.Client.jN.length h) (.slice T a.Client.ky.length l) (.slice U a.Formula.Kids.length J) (.slice I a.Keys.length K) _ _ (t.mono kC.mono b.jF) (z.mono mI.mono b.jF) (c.mono kC.mono b.jF) (k.mono mI.mono b.jF) (g.mono jC.mono b.jF) (D.mono yg.mono b.jF) a5)) (fun L P W a9 b q m d a3 => ?_) (L0 := []))
 obtain ⟨R, s, H, rfl, n⟩ := a3
 replace H := H.symm; subst H
 replace b := b.perm (Tr Tn)
 refine Wm (Wx rfl (Wx rfl (Wa (Wa (ln ?_)))))
 replace b := b.jv (Kr (Db St))
 refine jL (sg (Wm (V (nt rfl) (ln (CI hm rfl (fun a4 hm => ?_) (fun a4 hm => ?_))))))
 ·refine sg (Wa (Wa (ln ?_)))
  replace b := b.jv (Dr St)
  refine ke (ki ?_)
  obtain rfl := sj hm
  exact Cf (v := (.int .i64 0)) (u := (.bool false)) rfl rfl rfl ⟨rfl, b.ex⟩
 refine kg (Wm (V (oE iu rfl n) (Wa (Wa (ln ?_)))))
 replace b := b.jv (Dr St)
 refine ke ?_
 obtain rfl := sj hm
 exact Cf (v := (.int .i64 (p.1.length : Int))) (u := (.bool true)) rfl rfl rfl ⟨rfl, b.ex⟩
theorem Al (a : na) (I J D H G a9 : Value) (p : Int) (N : js) (r : (Int × Bool)) (w : World) (y : Sl kz 15 (hp w) I a.ju.jN) (z : Sl lF 8 (hp w) J a.ju.ky) (k : Sl kz 15 (hp w) D a.Client.jN) (u : Sl lF 8 (hp w) H a.Client.ky) (t : Sl jt 5 (hp w) G a.Formula.Kids) (U : Sl qt 2 (hp w) a9 a.Keys) (hm : rr a p N = some r) :
  jZ false pg0 11 [(.agg #[(.string a.ju.Name), I, J, (.string a.Client.Name), D, H, (.int .i64 a.Formula.Op), (.int .i64 a.Formula.K), (.string a.Formula.jr.ju), (.string a.Formula.jr.jy), G, (.int .i64 a.uY), (.int .i64 a.nu.nT), (.int .i64 a.nu.nD), (.int .i64 a.pa), (.int .i64 a.sH), (.int .i64 a.qp), a9]), (.int .i64 p), (.agg (jw N).toArray)] w (.tuple #[(.int .i64 r.1), (.bool r.2)]) := by
 have d := ST.start (dd := false) w
 refine EM (n := 28) func11 rfl rfl nb (yl (jG ?_))
 obtain ⟨A1, c2, rfl⟩ := y.form
 obtain ⟨A3, c4, rfl⟩ := z.form
 obtain ⟨A5, c6, rfl⟩ := k.form
 obtain ⟨A7, c8, rfl⟩ := u.form
 obtain ⟨A9, d1, rfl⟩ := t.form
 obtain ⟨d0, d2, rfl⟩ := U.form
 refine VE (kv d rfl (fun k2 k8 d => VE (kv d rfl (fun k3 a3 d => VE (kv d rfl (fun k4 a4 d => VE (jU d iZ (fun k5 Q d => VE (jU d gp (fun k6 T d => ln (N1 (yl (jG (VA d (Mt (Mt (Mt (Mt Mh)))) (C2 a.ju.Name A1 a.ju.jN.length c2 A3 a.ju.ky.length c4 a.Client.Name A5 a.Client.jN.length c6 A7 a.Client.ky.length c8 a.Formula.Op a.Formula.K a.Formula.jr.ju a.Formula.jr.jy A9 a.Formula.Kids.length d1 a.uY a.nu.nT a.nu.nD a.pa a.sH a.qp d0 a.Keys.length d2) fI eL (bS hm fun Z g4 hm => ?_)))))))))))))))
 refine VE (AT d (bT _) call8 (fun _ _ _ _ => kR.lG (wk a (.slice A1 a.ju.jN.length c2) (.slice A3 a.ju.ky.length c4) (.slice A5 a.Client.jN.length c6) (.slice A7 a.Client.ky.length c8) (.slice A9 a.Formula.Kids.length d1) (.slice d0 a.Keys.length d2) _ _ (y.mono kC.mono d.jF) (z.mono mI.mono d.jF) (k.mono kC.mono d.jF) (u.mono mI.mono d.jF) (t.mono jC.mono d.jF) (U.mono yg.mono d.jF) g4)) (fun k7 k9 h4 k1 d Y aj ag g3 => ?_) (L0 := []))
 obtain ⟨f7, c9, rfl⟩ := g3
 replace c9 := c9.symm; subst c9
 replace d := d.perm (Tb Tn)
 refine ln ?_
 replace d := d.jv (Kb (Kb (Kb (Kb (Kb (Db St))))))
 refine H0 (HY d rfl call24 (fun O aa Lp W L d => ?_))
 let e5 : Value := (.func (.yield O) #[] #[])
 have hy : Aj pg0 e5 h4 (FY O Lp (fun (s : Unit) (R : LO) => R = ((T, Ob #[(.bool false)] 4) :: ((Q, Ob #[(.int .i64 0)] 3) :: ((a4, Ol (jw N) 49) :: ((a3, Ob #[(.int .i64 p)] 3) :: []))))) (fun (s : (Bool × Int)) (R : LO) => R = ((T, Ob #[(.bool s.1)] 4) :: ((Q, Ob #[(.int .i64 s.2)] 3) :: [])))) (fun (μ : jW) (vs : List Value) (x : (Int × kF)) => ∃ zs : List Value, vs = [(.int .i64 x.1), .agg zs.toArray] ∧ oW μ zs x.2) (fun b => .bool b) (xP (fun (s : Unit) (x : (Int × kF)) => oC p N x.1 x.2)) := by
  let e4 := (#[(.int .i64 0)] : Array Value)
  let e3 := (#[(.bool false)] : Array Value)
  let e2 := (#[(.int .i64 p)] : Array Value)
  let e1 := ((jw N).toArray : Array Value)
  let a2 := ((T, Obj.cells e3 4 (0, 0)) :: ((Q, Obj.cells e4 3 (0, 0)) :: ((a4, Obj.cells e1 49 (0, 0)) :: ((a3, Obj.cells e2 3 (0, 0)) :: []))))
  refine Ia L (by rintro _ _ _ ⟨_, rfl, _⟩; rfl) dc (fun w s x vs g7 R0 e0 h2 ah ab ad hI d ae b0 => ?_)
  obtain ⟨_, rfl, h1⟩ := ae
  obtain ⟨P, B⟩ := x
  obtain ⟨j3, j4, rfl, q, v⟩ := h1.out
  obtain ⟨⟩ := s
  subst hI
  replace b0 : oC p N P B = some g7 := b0
  unfold Mi
  generalize GN O = M
  refine sg (Wa (ln (jG (VE (jU d zeroValue43 (fun h7 c1 d => ?_))))))
  obtain ⟨b1, b3, rfl⟩ := q.form
  let a7 : Value := (.slice b1 B.nT.length b3)
  obtain ⟨b2, b4, rfl⟩ := v.form
  let b8 : Value := (.slice b2 B.nD.length b4)
  refine VO (jK (.agg #[a7, b8]) (#[a7, b8]) d rfl rfl sizeOf43 oc nb rfl (fun h8 d => ln ⟨d.mj O ab ad, fun o => ?_⟩))
  replace d := d.frame o ab ad ah
  generalize w.putObj O o = w at d ⊢
  refine lz (jL ?_)
  replace d := d.drew
  have h := d.has.jv (Kb (Db (Db (Kb (Kb Sn)))))
  refine kO h kp (XH 0 rfl h (fun _ m => jx rfl (jJ m (Mt (Mt Mh)) rfl bR)) (X 1 rfl h (kh rfl rfl rfl) (X 2 rfl h (jz rfl) (PJ b0 (fun d9 E W => ∃ d5, ST false (keys a2) w W e0 ((c1, Ob #[a7, b8] 43) :: ((T, Obj.cells e3 4 (0, 0)) :: ((Q, Obj.cells e4 3 (0, 0)) :: ((a4, Obj.cells e1 49 (0, 0)) :: ((a3, Obj.cells e2 3 (0, 0)) :: d5))))) ∧ E 4 = (.pointer (some ⟨a3, 0, none⟩)) ∧ E 5 = (.pointer (some ⟨a4, 0, none⟩)) ∧ E 6 = (.pointer (some ⟨Q, 0, none⟩)) ∧ E 7 = (.pointer (some ⟨T, 0, none⟩)) ∧ E 8 = (.int .i64 P) ∧ E 9 = (.pointer (some ⟨c1, 0, none⟩)) ∧ E 19 = (.bool d9)) (bm 13 63) 7 ?_ (fun d9 a6 c0 => ?_)))))
  ·rintro j8 E W ⟨d5, d, b7, b5, c3, c5, c7, d7, f8⟩ f2
   have h := d.has.jv (Kb (Db (Db (Kb (Kb Sn)))))
   refine X 6 rfl h (jz f8) (PJ f2 (fun d8 E W => ∃ d6, ST false (keys a2) w W e0 ((c1, Ob #[a7, b8] 43) :: ((T, Obj.cells e3 4 (0, 0)) :: ((Q, Obj.cells e4 3 (0, 0)) :: ((a4, Obj.cells e1 49 (0, 0)) :: ((a3, Obj.cells e2 3 (0, 0)) :: d6))))) ∧ E 4 = (.pointer (some ⟨a3, 0, none⟩)) ∧ E 5 = (.pointer (some ⟨a4, 0, none⟩)) ∧ E 6 = (.pointer (some ⟨Q, 0, none⟩)) ∧ E 7 = (.pointer (some ⟨T, 0, none⟩)) ∧ E 8 = (.int .i64 P) ∧ E 26 = (.bool d8)) (bm 13 8191) 0 ?_ (fun d8 g b6 => ?_))
   ·rintro j9 E W ⟨d6, d, i6, i7, f9, g0, g1, g2⟩ a5
    refine kP kr (jH ?_)
    replace d := d.jv (Db St)
    refine CI a5 g2 (fun f1 a5 => ?_) (fun f1 a5 => ?_)
    ·refine sg (Wh g1 ?_)
     replace d := d.perm (Nb (Pb Pz) Nz)
     refine VO (jK (.int .i64 P) (#[(.int .i64 P)]) d f9 rfl dW (wQ _ P) nb rfl (fun h9 d => ?_))
     replace d := d.perm (Nb (Pb Pz) Nz)
     refine VO (jK (.bool true) (#[(.bool true)]) d g0 rfl iL (Ee true) nb rfl (fun i0 d => lt (mc (ki (LI ?_)))))
     obtain rfl := sj a5
     exact ⟨_, (d.lU (Kb (Kb Sn))), rfl, rfl⟩
    refine kQ (kl (jH ?_))
    obtain rfl := sj a5
    exact ⟨_, (d.lU (Kb (Kb (Kb (Kb Sn))))), rfl, rfl⟩
   refine bC g (fun c g => ?_) (fun c g => ?_)
   ·refine sZ 7 rfl rfl (cB c) h (fun _ m => jx b7 (jJ m (Mt (Mt Mh)) rfl bR)) (bC g (fun d3 g => ?_) (fun d3 g => ?_))
    ·refine Xg 8 rfl rfl (cB c) h (oD (i := 0) eQ eo d7 (DG (j := 0) d3 rfl) dc dc) (sZ 9 rfl rfl (cB c) h (fun _ m => jx rfl (jJ m Mh rfl dY)) (sZ 10 rfl rfl (cB c) h (fun _ m => jx b5 (jD m (Mt Mh) (jw N) rfl bQ aN)) (bS g fun i8 f3 g => BG 11 rfl rfl (cB c) (Eg d call29 (jZ.lG (yI a7 B.nT N _ _ (q.mono (Pl.mono _) d.jF) f3)) (fun i1 d => ?_)))))
     have h := d.has.jv (Kb (Db (Db (Kb (Kb Sn)))))
     refine ⟨h, (X 12 rfl h (jO (cB c) rfl) ?_)⟩
     obtain rfl := sj g
     refine ml kr (b6 _ _ ⟨_, (d.jv St), b7, b5, c3, c5, c7, rfl⟩)
    refine bC g (fun d4 g => ?_) (fun d4 g => ?_)
    ·refine Xg 8 rfl rfl (cB c) h (oD (i := 1) eQ eo d7 (DG (j := 1) d4 rfl) dc dc) (sZ 9 rfl rfl (cB c) h (fun _ m => jx rfl (jJ m Mh rfl dY)) (sZ 10 rfl rfl (cB c) h (fun _ m => jx b5 (jD m (Mt Mh) (jw N) rfl bQ aN)) (bS g fun i9 f4 g => BG 11 rfl rfl (cB c) (Eg d call29 (jZ.lG (yI b8 B.nD N _ _ (v.mono (Pl.mono _) d.jF) f4)) (fun i2 d => ?_)))))
     have h := d.has.jv (Kb (Db (Db (Kb (Kb Sn)))))
     refine ⟨h, (X 12 rfl h (jO (cB c) rfl) ?_)⟩
     obtain rfl := sj g
     refine ml kr (b6 _ _ ⟨_, (d.jv St), b7, b5, c3, c5, c7, rfl⟩)
    cases g
   refine Xn 7 rfl rfl (cB c) h (Xn 8 rfl rfl (cB c) h (Xn 9 rfl rfl (cB c) h (Xn 10 rfl rfl (cB c) h (Xn 11 rfl rfl (cB c) h (X 12 rfl h (jP (cB c) rfl) ?_)))))
   obtain rfl := sj g
   refine ml kr (b6 _ _ ⟨_, (d.jv St), b7, b5, c3, c5, c7, rfl⟩)
  refine bC a6 (fun K a6 => ?_) (fun K a6 => ?_)
  ·refine sZ 3 rfl rfl (cB K) h (fun _ m => jx rfl (jJ m (Mt (Mt Mh)) rfl bR)) (Xg 4 rfl rfl (cB K) h (kh rfl rfl rfl) (X 5 rfl h (jO (cB K) rfl) ?_))
   obtain rfl := sj a6
   refine ml kr (c0 _ _ ⟨_, (d.jv St), rfl, rfl, rfl, rfl, rfl, rfl, rfl⟩)
  refine Xn 3 rfl rfl (cB K) h (Xn 4 rfl rfl (cB K) h (X 5 rfl h (jP (cB K) rfl) ?_))
  obtain rfl := sj a6
  refine ml kr (c0 _ _ ⟨_, (d.jv St), rfl, rfl, rfl, rfl, rfl, rfl, rfl⟩)
 refine bS hm fun j0 f5 hm => ?_
 let a0 := ((T, Ob #[(.bool false)] 4) :: ((Q, Ob #[(.int .i64 0)] 3) :: ((a4, Ol (jw N) 49) :: ((a3, Ob #[(.int .i64 p)] 3) :: []))))
 refine FG (args := [e5, (.pointer (some ⟨f7, 0, none⟩))]) d (Cr (Cb Pz (Cb (Pb (Pb Pz)) (Cb (Pb (Pb Pz)) (Cb (Pb (Pb Pz)) (Cb (Pb (Pb Pz)) Cn))))) Cn) rfl (fun hH hN l ai => (tm (FY O Lp (fun (s : Unit) (R : LO) => R = a0) (fun (s : (Bool × Int)) (R : LO) => R = ((T, Ob #[(.bool s.1)] 4) :: ((Q, Ob #[(.int .i64 s.2)] 3) :: [])))) e5 (xP (fun (s : Unit) (x : (Int × kF)) => oC p N x.1 x.2)) (Sum.inl ()) ((O, (Obj.loop Lp)) :: a0) f7 Z.1 (.slice A1 a.ju.jN.length c2) a.ju.jN (.slice A3 a.ju.ky.length c4) a.ju.ky Z.2.1 (.slice A5 a.Client.jN.length c6) a.Client.jN (.slice A7 a.Client.ky.length c8) a.Client.ky Z.2.2.1 Z.2.2.2.1 Z.2.2.2.2.1 (.slice A9 a.Formula.Kids.length d1) a.Formula.Kids Z.2.2.2.2.2.1 Z.2.2.2.2.2.2.1 Z.2.2.2.2.2.2.2.1 Z.2.2.2.2.2.2.2.2.1 Z.2.2.2.2.2.2.2.2.2 (.slice d0 a.Keys.length d2) a.Keys _ _ ⟨hH, hN, jX.refl _⟩ (hy.mono l) ⟨_, rfl, rfl⟩ (y.mono kC.mono (Y.trans l)) (z.mono mI.mono (Y.trans l)) (k.mono kC.mono (Y.trans l)) (u.mono mI.mono (Y.trans l)) (t.mono jC.mono (Y.trans l)) (U.mono yg.mono (Y.trans l)) (At.of (ai _ _ (Mt Mh)) _ rfl) f5)) (fun i3 j7 k0 h5 d h3 af f0 => ?_)
 obtain ⟨h6, b9, rfl, f6⟩ := f0
 replace b9 := b9.symm; subst b9
 simp only [aJ, bE, aV] at d
 refine KU L.st L.pe d f6 (fun s W R0 o hq hI d => ?_) (fun s W R0 o hq hI d => ?_)
 ·subst hq
  try dsimp only at hm
  obtain ⟨⟩ := s
  subst hI
  try simp only [aJ, bE, aV] at d
  refine kl (jH ?_)
  replace d := d.jv (Kb (Kb (Db (Db (Db (Kb (Db St)))))))
  generalize LC [{ target := .collected aa, args := #[] }] = M
  refine sg ?_
  replace d := d.perm (Nb (Pb Pz) Nz)
  refine VO (jK (.int .i64 0) (#[(.int .i64 0)]) d rfl rfl dW (wQ _ 0) nb rfl (fun i4 d => ?_))
  replace d := d.perm (Nb (Pb Pz) Nz)
  refine VO (jK (.bool false) (#[(.bool false)]) d rfl rfl iL (Ee false) nb rfl (fun i5 d => lt (Dh d (Nb (Pb (Pb Pz)) Nz) (fun W d => ?_))))
  obtain rfl := sj hm
  exact Ce (v0 := (.int .i64 0)) (v1 := (.bool false)) rfl rfl (jJ d.has (Mt (Mt Mh)) rfl bR) rfl (jJ d.has (Mt Mh) rfl jl) ⟨rfl, d.ex⟩
 subst hq
 try dsimp only at hm
 obtain ⟨g8, g9⟩ := s
 subst hI
 try simp only [aJ, bE, aV] at d
 refine mc (ki (Dh d (Nb (Pb (Pb (Pb Pz))) Nz) (fun W d => ?_)))
 obtain rfl := sj hm
 exact Ce (v0 := (.int .i64 g9)) (v1 := (.bool g8)) rfl rfl (jJ d.has (Mt (Mt Mh)) rfl bR) rfl (jJ d.has (Mt Mh) rfl jl) ⟨rfl, d.ex⟩
theorem IF (a : na) (y B i x j G : Value) (r : ((List kT) × Bool)) (w : World) (t : Sl kz 15 (hp w) y a.ju.jN) (z : Sl lF 8 (hp w) B a.ju.ky) (c : Sl kz 15 (hp w) i a.Client.jN) (k : Sl lF 8 (hp w) x a.Client.ky) (g : Sl jt 5 (hp w) j a.Formula.Kids) (D : Sl qt 2 (hp w) G a.Keys) (hm : xW a = some r) :
  kR false pg0 17 [(.agg #[(.string a.ju.Name), y, B, (.string a.Client.Name), i, x, (.int .i64 a.Formula.Op), (.int .i64 a.Formula.K), (.string a.Formula.jr.ju), (.string a.Formula.jr.jy), j, (.int .i64 a.uY), (.int .i64 a.nu.nT), (.int .i64 a.nu.nD), (.int .i64 a.pa), (.int .i64 a.sH), (.int .i64 a.qp), G])] w [] (fun v L1 W' => ∃ p S2, v = (.tuple #[p, (.bool (r.2))]) ∧ L1 = (S2 ++ []) ∧ jV 31 lP 2 p r.1 S2) := by
 refine wm 8 func17 rfl (fun b => sg ?_)
 obtain ⟨N, Z, rfl⟩ := t.form
 obtain ⟨Q, h, rfl⟩ := z.form
 obtain ⟨T, l, rfl⟩ := c.form
 obtain ⟨U, m, rfl⟩ := k.form
 obtain ⟨Y, J, rfl⟩ := g.form
 obtain ⟨I, K, rfl⟩ := D.form
 refine VE (kv b rfl (fun O R b => Wa (Wa (lr (VA b Mh (C2 a.ju.Name N a.ju.jN.length Z Q a.ju.ky.length h a.Client.Name T a.Client.jN.length l U a.Client.ky.length m a.Formula.Op a.Formula.K a.Formula.jr.ju a.Formula.jr.jy Y a.Formula.Kids.length J a.uY a.nu.nT a.nu.nD a.pa a.sH a.qp I a.Keys.length K) fI eL (bS hm fun a9 a5 hm => ?_))))))
 refine VE (AT b (bT _) call30 (fun _ _ _ _ => (DM a (.slice N a.ju.jN.length Z) (.slice Q a.ju.ky.length h) (.slice T a.Client.jN.length l) (.slice U a.Client.ky.length m) (.slice Y a.Formula.Kids.length J) (.slice I a.Keys.length K) _ _ (t.mono kC.mono b.jF) (z.mono mI.mono b.jF) (c.mono kC.mono b.jF) (k.mono mI.mono b.jF) (g.mono jC.mono b.jF) (D.mono yg.mono b.jF) a5)) (fun P W b9 L b E n d a4 => ?_) (L0 := []))
 obtain ⟨M, s, H, rfl, q⟩ := a4
 replace H := H.symm; subst H
 replace b := b.perm (Tr Tn)
 refine Wx rfl (Wx rfl (Wa (Wa (ln ?_))))
 replace b := b.jv (Kr (Db St))
 refine ke ?_
 obtain rfl := sj hm
 exact Cf (v := M) (u := (.bool a9.2)) rfl rfl rfl ⟨_, _, rfl, (b.Ih (Kr Sn)), M, s, rfl, rfl, q⟩
theorem D0 (x : Int) (t : kF) (a c : Value) (g : Nat) (k : Int) (r : (Bool × Int)) (w : World) {u : jW} (H : ny u ((g, Ob #[(.int .i64 k)] 3) :: []) w) (i : Sl (Pl jw) 9 u a t.nT) (j : Sl (Pl jw) 9 u c t.nD) (hm : qo x t k = some r) :
  kR true pg0 18 [(.int .i64 x), (.agg #[a, c]), (.pointer (some ⟨g, 0, none⟩))] w ((g, Ob #[(.int .i64 k)] 3) :: []) (fun v B W' => v = (.bool (r.1)) ∧ B = ((g, Ob #[(.int .i64 (r.2))] 3) :: [])) := by
 refine yF H 8 func18 rfl (fun b => sg ?_)
 obtain ⟨y, D, rfl⟩ := i.form
 obtain ⟨z, G, rfl⟩ := j.form
 refine VE (kv b rfl (fun I K b => Wa (ln ?_)))
 replace b := b.jv (Db St)
 refine sg (VB b Mh rfl rfl bR (Wi rfl (VO (jK (.int .i64 (wi0 .i64 (k + 1))) (#[(.int .i64 (wi0 .i64 (k + 1)))]) b rfl rfl dW (wQ _ (wi0 .i64 (k + 1))) nb rfl (fun J b => lr (Wa (lt ?_)))))))
 obtain rfl := sj hm
 exact lj (v := (.bool true)) rfl rfl ⟨_, _, rfl, (b.lU (Kb Sn)), rfl, rfl⟩
set_option maxHeartbeats 4000000 in
theorem IA (r : Bool) (w : World) (hm : um  = some r) :
  jZ false pg0 5 [] w (.bool r) := by
 have d := ST.start (dd := false) w
 unfold um at hm
 refine cF 109 func5 rfl (jL (jG (V (mw rfl) (jT (jH (jL (jG (V (lf (qs := #[(0, (.string K4))]) (v := (.agg #[(.string K4), (.slice none 0 0), (.slice none 0 0)])) (lM rfl) (kH zeroValue25 fG (RO _ fG) (by kernel_rfl))) (V (lf (qs := #[(0, (.string K3))]) (v := (.agg #[(.string K3), (.slice none 0 0), (.slice none 0 0)])) (lM rfl) (kH zeroValue25 fG (RO _ fG) (by kernel_rfl))) (V (lf (qs := #[(0, (.int .i64 2))]) (v := (.agg Bk.toArray)) (lM rfl) (kH aQ bA (tq _ bA) (by kernel_rfl))) (V (lf (qs := #[(0, (.agg #[(.string K4), (.slice none 0 0), (.slice none 0 0)])), (1, (.agg #[(.string K3), (.slice none 0 0), (.slice none 0 0)])), (2, (.agg Bk.toArray))]) (v := (.agg Po.toArray)) (ER rfl rfl rfl) (kH zeroValue34 fZ (TD _ fZ) (by kernel_rfl))) (VE (jU d zeroValue34 (fun W2 b1 d => VO (jK (.agg Po.toArray) (Po.toArray) d rfl rfl eL (by simp [Value.cells, Value.oneCell']) nb rfl (fun W3 d => jT ?_))))))))))))))))
 refine jH (jL (jG (V (jx rfl (jD d.has Mh Po rfl fI eL)) (bS hm fun r4 o3 hm => VE (Eg d call14 (Cz (⟨KN, (⟨K3, [], []⟩ : kL), K9, 0, K5, 0, 0, 0, []⟩ : na) (.slice none 0 0) (.slice none 0 0) (.slice none 0 0) (.slice none 0 0) (.slice none 0 0) (.slice none 0 0) _ _ (Sl.nil _ _ _) (Sl.nil _ _ _) (Sl.nil _ _ _) (Sl.nil _ _ _) (Sl.nil _ _ _) (Sl.nil _ _ _) o3) (fun W6 d => V (jz rfl) (V (qv rfl rfl) (V (qv rfl rfl) (V (mw rfl) (V (mw rfl) (jT (jH (jL (jG ?_))))))))))))))
 refine V (lf (qs := #[(0, (.string K1)), (1, (.string K2))]) (v := (.agg (jA K7).toArray)) (ov rfl rfl) (kH et dr (Jj _ dr) (by kernel_rfl))) (V (lf (qs := #[(0, (.int .i64 1)), (1, (.agg (jA K7).toArray)), (2, (.string K3))]) (v := (.agg (jw xq).toArray)) (ER rfl rfl rfl) (kH cK dP (Q2 _ dP) (by kernel_rfl))) (VE (jU d cK (fun W8 b7 d => VO (jK (.agg (jw xq).toArray) ((jw xq).toArray) d rfl rfl aN (mH xq) nb rfl (fun W9 d => jT (jH (jL ?_))))))))
 replace d := d.drew
 have m := d.has.jv (Kb Sn)
 refine kO m kp (XH 0 rfl m (fun _ hS => jx rfl (jD hS Mh (jw xq) rfl bQ aN)) (X 3 rfl m (lf (qs := #[(0, (.int .i64 2))]) (v := (.agg Bk.toArray)) (lM rfl) (kH aQ bA (tq _ bA) (by kernel_rfl))) (bS hm fun a n6 hm => XE 1 rfl (Kl (enc := (lm .u8)) (z := 0) d (fun _ => rfl) (by decide) cT sL.1 sL.2.1 sL.2.2.1 sL.2.2.2 rfl rfl rfl n6 (fun q8 r9 q7 d c9 => ?_)))))
 have m := d.has.jv (Dr (Kb Sn))
 refine ⟨m, ?_⟩
 have L := c9.form
 obtain ⟨j, k, rfl⟩ := L
 refine X 2 rfl m (lf (qs := #[(0, (.agg (jw xq).toArray)), (1, (.slice j a.length k))]) (v := (.agg #[(.int .i64 1), (.string (K7.ju)), (.string (K7.jy)), (.string K3), (.string (K0.ju)), (.string (K0.jy)), (.string (K0.ju)), (.string (K0.jy)), (.string zS), (.slice j a.length k)])) (ov rfl rfl) (kH jm iq (TB _ iq) (by kernel_rfl))) (X 4 rfl m (lf (qs := #[(0, (.agg #[(.int .i64 1), (.string (K7.ju)), (.string (K7.jy)), (.string K3), (.string (K0.ju)), (.string (K0.jy)), (.string (K0.ju)), (.string (K0.jy)), (.string zS), (.slice j a.length k)])), (1, (.agg Bk.toArray))]) (v := (.agg (C5 j a.length k).toArray)) (ov rfl rfl) (kH fD fY (Rw _ fY) (by kernel_rfl))) ?_)
 have p1 := c9.Pj d (fun p n => (Ml n))
 have L := ST.CX d c9 (fun _ => rfl)
 obtain ⟨s1, d, d2, ah, a6⟩ := L
 refine XE 5 rfl (jY (qs := #[(0, (.agg (C5 j a.length k).toArray))]) (cs := (C5 j a.length k).toArray) d (lM rfl) (xm [(.agg (C5 j a.length k).toArray)] er dT fD (by decide) rfl (by intro v hv; simp only [aP, cO, eZ] at hv; rcases hv with rfl <;> rfl) rfl rfl) (fun q9 u d => ?_))
 have m := d.has.qX d2 (Db (Kb Sn))
 refine ⟨m, (X 6 rfl m (jE AN rfl) (X 7 rfl m (jE AM rfl) ?_))⟩
 replace d := d.perm (Nb (Pb (Pb Pz)) Nz)
 refine XO 8 rfl (jK (.slice (some ⟨u, 0, none⟩) 1 1) (#[(.string K4), (.slice none 0 0), (.slice none 0 0), (.string K3), (.slice (some ⟨u, 0, none⟩) 1 1), (.slice none 0 0), (.int .i64 2), (.int .i64 0), (.string zS), (.string zS), (.slice none 0 0), (.int .i64 0), (.int .i64 0), (.int .i64 0), (.int .i64 0), (.int .i64 0), (.int .i64 0), (.slice none 0 0)]) d rfl rfl sizeOf22 (by simp [Value.cells, Value.oneCell']) nb rfl (fun r0 d => ?_))
 have m := d.has.qX d2 (Db (Db (Kb Sn)))
 refine ⟨m, (kP (by kernel_rfl) (jH (jL (jG (V (jE qN rfl) (V (jx rfl (jD d.has (Mt (Mt Mh)) (jA K7) rfl bG aS)) (V (lf (qs := #[(0, (.int .i64 1)), (2, (.agg (jA K7).toArray))]) (v := (.agg #[(.int .i64 1), (.int .i64 0), (.string (K7.ju)), (.string (K7.jy)), (.slice none 0 0)])) (ov rfl rfl) (kH aQ bA (tq _ bA) (by kernel_rfl))) (V (jE JQ rfl) (VO (jK (.agg #[(.int .i64 1), (.int .i64 0), (.string (K7.ju)), (.string (K7.jy)), (.slice none 0 0)]) ((C6 u).toArray) d rfl rfl aC (by simp [Value.cells, Value.oneCell']) nb rfl (fun r1 d => jT (jH (jL (jG (V (jx rfl (jD d.has Mh (C6 u) rfl fI eL)) ?_)))))))))))))))⟩
 refine bS hm fun i6 n7 hm => VE (Eg d call14 (Cz (⟨KN, (⟨K3, [(⟨(⟨xq, a⟩ : Signed), K9⟩ : kD)], []⟩ : kL), NW, 0, K5, 0, 0, 0, []⟩ : na) (.slice none 0 0) (.slice none 0 0) (.slice (some ⟨u, 0, none⟩) 1 1) (.slice none 0 0) (.slice none 0 0) (.slice none 0 0) _ _ (Sl.nil _ _ _) (Sl.nil _ _ _) ((kB.lit kC (l := [(⟨(⟨xq, a⟩ : Signed), K9⟩ : kD)]) (.cons (ys := C5 j a.length k) (kz.mk ⟨(.slice j a.length k), (.slice none 0 0), rfl, a6, (Sl.nil _ _ _)⟩) .nil) rfl nb rfl).sl kC d.jF (fun b o n => (by rw [bO] at n; cases n; exact d.at_ (Mt Mh)))) (Sl.nil _ _ _) (Sl.nil _ _ _) (Sl.nil _ _ _) n7) (fun r2 d => V (jz rfl) (V (qv rfl rfl) (V (qv rfl rfl) (V (mw rfl) (V (mw rfl) (jT (jH (jL (jG (V (jx rfl (jD d.has Mh (C6 u) rfl fI eL)) (V (jx rfl (jD d.has (Mt (Mt Mh)) (jw xq) rfl bQ aN)) (bS hm fun a9 n8 hm => VE (Eg d call11 (Al (⟨KN, (⟨K3, [(⟨(⟨xq, a⟩ : Signed), K9⟩ : kD)], []⟩ : kL), NW, 0, K5, 0, 0, 0, []⟩ : na) (.slice none 0 0) (.slice none 0 0) (.slice (some ⟨u, 0, none⟩) 1 1) (.slice none 0 0) (.slice none 0 0) (.slice none 0 0) 1 xq _ _ (Sl.nil _ _ _) (Sl.nil _ _ _) ((kB.lit kC (l := [(⟨(⟨xq, a⟩ : Signed), K9⟩ : kD)]) (.cons (ys := C5 j a.length k) (kz.mk ⟨(.slice j a.length k), (.slice none 0 0), rfl, a6, (Sl.nil _ _ _)⟩) .nil) rfl nb rfl).sl kC d.jF (fun b o n => (by rw [bO] at n; cases n; exact d.at_ (Mt Mh)))) (Sl.nil _ _ _) (Sl.nil _ _ _) (Sl.nil _ _ _) n8) (fun r3 d => ?_)))))))))))))))
 refine V (jz rfl) (V (qv rfl rfl) (V (qv rfl rfl) (V (mw rfl) (V (mw rfl) (jT (jH (jL (jG (V (jx rfl (jD d.has Mh (C6 u) rfl fI eL)) (V (jx rfl (jD d.has (Mt (Mt Mh)) (jw xq) rfl bQ aN)) (bS hm fun c7 n9 hm => VE (Eg d call11 (Al (⟨KN, (⟨K3, [(⟨(⟨xq, a⟩ : Signed), K9⟩ : kD)], []⟩ : kL), NW, 0, K5, 0, 0, 0, []⟩ : na) (.slice none 0 0) (.slice none 0 0) (.slice (some ⟨u, 0, none⟩) 1 1) (.slice none 0 0) (.slice none 0 0) (.slice none 0 0) 0 xq _ _ (Sl.nil _ _ _) (Sl.nil _ _ _) ((kB.lit kC (l := [(⟨(⟨xq, a⟩ : Signed), K9⟩ : kD)]) (.cons (ys := C5 j a.length k) (kz.mk ⟨(.slice j a.length k), (.slice none 0 0), rfl, a6, (Sl.nil _ _ _)⟩) .nil) rfl nb rfl).sl kC d.jF (fun b o n => (by rw [bO] at n; cases n; exact d.at_ (Mt Mh)))) (Sl.nil _ _ _) (Sl.nil _ _ _) (Sl.nil _ _ _) n9) (fun r5 d => V (jz rfl) (V (qv rfl rfl) ?_))))))))))))))
 refine V (qv rfl rfl) (V (mw rfl) (V (mw rfl) (jT (jH ?_))))
 replace d := d.jv (Kb (Kb (Db St)))
 refine jL (jG (V (jx rfl (jD d.has Mh (C6 u) rfl fI eL)) (bS hm fun b0 o0 hm => ?_)))
 have ab := d.size
 refine VE (AT d (bT _) call17 (fun _ _ _ _ => (IF (⟨KN, (⟨K3, [(⟨(⟨xq, a⟩ : Signed), K9⟩ : kD)], []⟩ : kL), NW, 0, K5, 0, 0, 0, []⟩ : na) (.slice none 0 0) (.slice none 0 0) (.slice (some ⟨u, 0, none⟩) 1 1) (.slice none 0 0) (.slice none 0 0) (.slice none 0 0) _ _ (Sl.nil _ _ _) (Sl.nil _ _ _) ((kB.lit kC (l := [(⟨(⟨xq, a⟩ : Signed), K9⟩ : kD)]) (.cons (ys := C5 j a.length k) (kz.mk ⟨(.slice j a.length k), (.slice none 0 0), rfl, a6, (Sl.nil _ _ _)⟩) .nil) rfl nb rfl).sl kC d.jF (fun b o n => (by rw [bO] at n; cases n; exact d.at_ (Mt Mh)))) (Sl.nil _ _ _) (Sl.nil _ _ _) (Sl.nil _ _ _) o0)) (fun r6 s0 s2 q6 d d3 ai q n5 => ?_) (L0 := []))
 obtain ⟨P, O, d0, rfl, d1⟩ := n5
 replace d0 := d0.symm; subst d0
 replace d := d.perm (Tr Tn)
 refine V (jz rfl) (V (qv rfl rfl) (V (qv rfl rfl) (V (mw rfl) (V (mw rfl) (jT (jH (jL (jG (VE (jU d iZ (fun r7 c d => VO (jK (.int .i64 0) (#[(.int .i64 0)]) d rfl rfl dW (wQ _ 0) nb rfl (fun r8 d => jT (jH (jL (jL ?_))))))))))))))))
 refine jG (V (jx rfl (jD d.has (Mt (Ma Mh)) (C6 u) rfl fI eL)) (bS hm fun y l4 hm => ?_))
 have ab := d.size
 refine VE (AT d (bT _) call8 (fun _ _ _ _ => kR.lG (wk (⟨KN, (⟨K3, [(⟨(⟨xq, a⟩ : Signed), K9⟩ : kD)], []⟩ : kL), NW, 0, K5, 0, 0, 0, []⟩ : na) (.slice none 0 0) (.slice none 0 0) (.slice (some ⟨u, 0, none⟩) 1 1) (.slice none 0 0) (.slice none 0 0) (.slice none 0 0) _ _ (Sl.nil _ _ _) (Sl.nil _ _ _) ((kB.lit kC (l := [(⟨(⟨xq, a⟩ : Signed), K9⟩ : kD)]) (.cons (ys := C5 j a.length k) (kz.mk ⟨(.slice j a.length k), (.slice none 0 0), rfl, (a6.mono (Pl.mono _) d3), (Sl.nil _ _ _)⟩) .nil) rfl nb rfl).sl kC d.jF (fun b o n => (by rw [bO] at n; cases n; exact d.at_ (Mt (Ma (Mt Mh)))))) (Sl.nil _ _ _) (Sl.nil _ _ _) (Sl.nil _ _ _) l4)) (fun o8 p3 q5 o5 d i5 ae q k1 => ?_) (L0 := []))
 obtain ⟨e4, b2, rfl⟩ := k1
 replace b2 := b2.symm; subst b2
 replace d := d.perm (Tb Tn)
 refine V (mw rfl) (jT (jH ?_))
 replace d := d.jv (Kb (Kb (Kr (Db St))))
 refine jL (jG (V (jz rfl) (V (Iq underlying40 ⟨_, _, _, rfl⟩ rfl rfl) (jT (jH (wT rfl (jG (V (jz rfl) (V (qJ (by exact ue rfl) rfl) (bS hm fun K l5 hm => ?_))))))))))
 have ab := d.size
 refine VE (E6 (args := [(.func (.func 18) #[] #[(.pointer (some ⟨c, 0, none⟩))])]) (caps := #[(.pointer (some ⟨e4, 0, none⟩))]) _ _ d (Cr (Cb (Pb Pz) Cn) Cn) rfl call24 (by exact ue rfl) (fun hH hN ag aa => (tm (fun (s : Int) (R : List (Nat × Obj)) => R = ((c, Obj.cells (#[(.int .i64 (s))] : Array Value) 3 (0, 0)) :: [])) (.func (.func 18) #[] #[(.pointer (some ⟨c, 0, none⟩))]) (fun (s : Int) (x : (Int × kF)) => qo x.1 x.2 s) 0 ((c, Obj.cells (#[(.int .i64 0)] : Array Value) 3 (0, 0)) :: []) e4 y.1 (.slice none 0 0) ([]) (.slice none 0 0) ([]) y.2.1 (.slice (some ⟨u, 0, none⟩) 1 1) ([(⟨(⟨xq, a⟩ : Signed), K9⟩ : kD)]) (.slice none 0 0) ([]) y.2.2.1 y.2.2.2.1 y.2.2.2.2.1 (.slice none 0 0) ([]) y.2.2.2.2.2.1 y.2.2.2.2.2.2.1 y.2.2.2.2.2.2.2.1 y.2.2.2.2.2.2.2.2.1 y.2.2.2.2.2.2.2.2.2 (.slice none 0 0) ([]) _ _ ⟨hH, hN, jX.refl _⟩ (Aj.fn call18 (fun W s x vs r R hs hI hH hN ad hm => by
   obtain ⟨_, rfl, o1⟩ := ad
   have L := o1.out
   obtain ⟨t0, t1, rfl, j0, j1⟩ := L
   obtain ⟨rfl⟩ := hI
   refine kR.mono (kR.lG <| D0 x.1 x.2 t0 t1 c s r W ⟨hH, hN, jX.refl _⟩ j0 j1  hm) ?_
   rintro v L1 W' ⟨rfl, rfl⟩
   exact ⟨rfl, rfl⟩)) rfl (Sl.nil _ _ _) (Sl.nil _ _ _) ((kB.lit kC (l := [(⟨(⟨xq, a⟩ : Signed), K9⟩ : kD)]) (.cons (ys := C5 j a.length k) (kz.mk ⟨(.slice j a.length k), (.slice none 0 0), rfl, (a6.mono (Pl.mono _) (d3.trans i5)), (Sl.nil _ _ _)⟩) .nil) rfl nb rfl).sl kC ag (fun b o n => (by rw [bO] at n; cases n; exact aa _ _ (Mt (Ma Mh))))) (Sl.nil _ _ _) (Sl.nil _ _ _) (Sl.nil _ _ _) (At.of (aa _ _ Mh) _ rfl) l5)) (fun o9 p4 B o6 d o2 af q k2 => ?_))
 obtain ⟨o7, b3, rfl, l6⟩ := k2
 replace b3 := b3.symm; subst b3
 obtain rfl := l6
 simp only [aJ, bE, aV] at d
 refine jT (jH ?_)
 replace d := d.jv (Kb (Db (Kr (Db St))))
 refine jL (jG (V (jz rfl) (V (kh rfl rfl rfl) (V (jz rfl) (LJ hm (fun j9 E W => ∃  (d4 : List (Nat × Obj)), ST false kw w W B ((c, Obj.cells (#[(.int .i64 K)] : Array Value) 3 (0, 0)) :: (O ++ d4)) ∧ E 0 = (.bool false) ∧ E 5 = (.int .i64 i6.1) ∧ E 6 = (.bool i6.2) ∧ E 7 = (.int .i64 a9.1) ∧ E 8 = (.bool a9.2) ∧ E 10 = (.bool c7.2) ∧ E 11 = P ∧ E 12 = (.bool b0.2) ∧ E 13 = (.pointer (some ⟨c, 0, none⟩)) ∧ E 71 = (.bool j9)) 2 ?_ (fun j9 a5 c6 => ?_))))))
 ·rintro p5 E W ⟨d4, d, e5, l7, e6, e7, e8, e9, f0, f1, f2, l8⟩ k3
  refine V (jz l8) (LJ k3 (fun j8 E W => ∃  (d5 : List (Nat × Obj)), ST false kw w W B ((c, Obj.cells (#[(.int .i64 K)] : Array Value) 3 (0, 0)) :: (O ++ d5)) ∧ E 0 = (.bool false) ∧ E 6 = (.bool i6.2) ∧ E 7 = (.int .i64 a9.1) ∧ E 8 = (.bool a9.2) ∧ E 10 = (.bool c7.2) ∧ E 11 = P ∧ E 12 = (.bool b0.2) ∧ E 13 = (.pointer (some ⟨c, 0, none⟩)) ∧ E 75 = (.bool j8)) 3 ?_ (fun j8 a4 c5 => ?_))
  ·rintro p6 E W ⟨d5, d, f3, l9, f4, f5, f6, f7, f8, f9, m0⟩ k4
   refine V (jz m0) (LJ k4 (fun j7 E W => ∃  (d6 : List (Nat × Obj)), ST false kw w W B ((c, Obj.cells (#[(.int .i64 K)] : Array Value) 3 (0, 0)) :: (O ++ d6)) ∧ E 0 = (.bool false) ∧ E 7 = (.int .i64 a9.1) ∧ E 8 = (.bool a9.2) ∧ E 10 = (.bool c7.2) ∧ E 11 = P ∧ E 12 = (.bool b0.2) ∧ E 13 = (.pointer (some ⟨c, 0, none⟩)) ∧ E 78 = (.bool j7)) 2 ?_ (fun j7 a3 c4 => ?_))
   ·rintro p7 E W ⟨d6, d, g0, m1, g1, g2, g3, g4, g7, m2⟩ k5
    refine V (jz m2) (LJ k5 (fun j6 E W => ∃  (d7 : List (Nat × Obj)), ST false kw w W B ((c, Obj.cells (#[(.int .i64 K)] : Array Value) 3 (0, 0)) :: (O ++ d7)) ∧ E 0 = (.bool false) ∧ E 8 = (.bool a9.2) ∧ E 10 = (.bool c7.2) ∧ E 11 = P ∧ E 12 = (.bool b0.2) ∧ E 13 = (.pointer (some ⟨c, 0, none⟩)) ∧ E 82 = (.bool j6)) 3 ?_ (fun j6 a2 c3 => ?_))
    ·rintro p8 E W ⟨d7, d, g8, m3, g9, h0, h1, h2, m4⟩ k6
     refine V (jz m4) (LJ k6 (fun j5 E W => ∃  (d8 : List (Nat × Obj)), ST false kw w W B ((c, Obj.cells (#[(.int .i64 K)] : Array Value) 3 (0, 0)) :: (O ++ d8)) ∧ E 0 = (.bool false) ∧ E 10 = (.bool c7.2) ∧ E 11 = P ∧ E 12 = (.bool b0.2) ∧ E 13 = (.pointer (some ⟨c, 0, none⟩)) ∧ E 85 = (.bool j5)) 2 ?_ (fun j5 a1 c2 => ?_))
     ·rintro p9 E W ⟨d8, d, h3, m5, h4, h5, h6, m6⟩ k7
      refine V (jz m6) (LJ k7 (fun j4 E W => ∃  (d9 : List (Nat × Obj)), ST false kw w W B ((c, Obj.cells (#[(.int .i64 K)] : Array Value) 3 (0, 0)) :: (O ++ d9)) ∧ E 0 = (.bool false) ∧ E 11 = P ∧ E 12 = (.bool b0.2) ∧ E 13 = (.pointer (some ⟨c, 0, none⟩)) ∧ E 89 = (.bool j4)) 3 ?_ (fun j4 a0 c1 => ?_))
      ·rintro q0 E W ⟨d9, d, h7, h8, m7, h9, m8⟩ k8
       refine V (jz m8) (LJ k8 (fun j3 E W => ∃  (e0 : List (Nat × Obj)), ST false kw w W B ((c, Obj.cells (#[(.int .i64 K)] : Array Value) 3 (0, 0)) :: (O ++ e0)) ∧ E 0 = (.bool false) ∧ E 11 = P ∧ E 13 = (.pointer (some ⟨c, 0, none⟩)) ∧ E 92 = (.bool j3)) 2 ?_ (fun j3 Z c0 => ?_))
       ·rintro q1 E W ⟨e0, d, i0, c8, i1, m9⟩ k9
        refine V (jz m9) (LJ k9 (fun i9 E W => ∃  (e1 : List (Nat × Obj)), ST false kw w W B ((c, Obj.cells (#[(.int .i64 K)] : Array Value) 3 (0, 0)) :: (O ++ e1)) ∧ E 0 = (.bool false) ∧ E 11 = P ∧ E 13 = (.pointer (some ⟨c, 0, none⟩)) ∧ E 97 = (.bool i9)) 4 ?_ (fun i9 Y b9 => ?_))
        ·rintro q2 E W ⟨e1, d, i2, n0, i3, n1⟩ l0
         refine V (jz n1) (LJ l0 (fun i8 E W => ∃  (e2 : List (Nat × Obj)), ST false kw w W B ((c, Obj.cells (#[(.int .i64 K)] : Array Value) 3 (0, 0)) :: e2) ∧ E 0 = (.bool false) ∧ E 13 = (.pointer (some ⟨c, 0, none⟩)) ∧ E 104 = (.bool i8)) 6 ?_ (fun i8 J b6 => ?_))
         ·rintro q3 E W ⟨e2, d, i4, n2, n3⟩ l1
          refine V (jz n3) (LJ l1 (fun i7 E W => ∃  (e3 : List (Nat × Obj)), ST false kw w W B e3 ∧ E 0 = (.bool false) ∧ E 108 = (.bool i7)) 3 ?_ (fun i7 U b5 => ?_))
          ·rintro q4 E W ⟨e3, d, p0, n4⟩ l2
           refine V (mw n4) (jT (jH (ke ?_)))
           have h := sj l2; subst h
           exact rP d
          refine bC U (fun I U => ?_) (fun I U => ?_)
          ·refine Vg rfl (cB I) (jx n2 (jJ d.has Mh rfl bR)) (Vg rfl (cB I) (kh rfl rfl rfl) (V (jO (cB I) rfl) ?_))
           have h := sj U; subst h
           exact b5 _ _ ⟨_, (d.jv (Db St)), i4, rfl⟩
          refine Vn rfl (cB I) (Vn rfl (cB I) (V (jP (cB I) rfl) ?_))
          have h := sj U; subst h
          exact b5 _ _ ⟨_, (d.jv (Db St)), i4, rfl⟩
         refine bC J (fun g J => ?_) (fun g J => ?_)
         ·refine Vg rfl (cB g) (jz n0) (bS J fun k0 b4 J => Ti rfl (cB g) (oT (i := 0) (x0 := k0) iu sizeOf31 rfl rfl d1 (kk b4) (kj b4)) (fun p2 l3 => Vg rfl (cB g) (jx rfl (uL d.has (fun p n => (Mt (Ml n))) d1 Di l3 (kj b4) isAgg31 sizeOf31)) (Vg rfl (cB g) (lf (qs := #[(0, (.int .i64 0)), (1, (.int .i64 1))]) (v := (.agg (lP (⟨0, 1⟩ : kT)).toArray)) (ov rfl rfl) (CS jk fh dW (by kernel_rfl))) (Vg rfl (cB g) (uT rfl rfl (nl eqGuardType31) (rh (KA _ k0 (⟨0, 1⟩ : kT)))) (V (jO (cB g) rfl) ?_)))))
          have h := sj J; subst h
          exact b6 _ _ ⟨_, (d.jv (Kb (Dr St))), i2, i3, rfl⟩
         refine Vn rfl (cB g) (Vn rfl (cB g) (Vn rfl (cB g) (Vn rfl (cB g) (Vn rfl (cB g) (V (jP (cB g) rfl) ?_)))))
         have h := sj J; subst h
         exact b6 _ _ ⟨_, (d.jv (Kb (Dr St))), i2, i3, rfl⟩
        refine bC Y (fun t Y => ?_) (fun t Y => ?_)
        ·refine Vg rfl (cB t) (jz c8) (Vg rfl (cB t) (oE iu rfl d1) (Vg rfl (cB t) (kh rfl rfl rfl) (V (jO (cB t) rfl) ?_)))
         have h := sj Y; subst h
         exact b9 _ _ ⟨_, (d.jv St), i0, c8, i1, rfl⟩
        refine Vn rfl (cB t) (Vn rfl (cB t) (Vn rfl (cB t) (V (jP (cB t) rfl) ?_)))
        have h := sj Y; subst h
        exact b9 _ _ ⟨_, (d.jv St), i0, c8, i1, rfl⟩
       refine bC Z (fun T Z => ?_) (fun T Z => ?_)
       ·refine Vg rfl (cB T) (jz m7) (V (jO (cB T) rfl) ?_)
        have h := sj Z; subst h
        exact c0 _ _ ⟨_, (d.jv St), h7, h8, h9, rfl⟩
       refine Vn rfl (cB T) (V (jP (cB T) rfl) ?_)
       have h := sj Z; subst h
       exact c0 _ _ ⟨_, (d.jv St), h7, h8, h9, rfl⟩
      refine bC a0 (fun H a0 => ?_) (fun H a0 => ?_)
      ·refine Vg rfl (cB H) (jz m5) (Vg rfl (cB H) (nt rfl) (V (jO (cB H) rfl) ?_))
       have h := sj a0; subst h
       exact c1 _ _ ⟨_, (d.jv St), h3, h4, h5, h6, rfl⟩
      refine Vn rfl (cB H) (Vn rfl (cB H) (V (jP (cB H) rfl) ?_))
      have h := sj a0; subst h
      exact c1 _ _ ⟨_, (d.jv St), h3, h4, h5, h6, rfl⟩
     refine bC a1 (fun Q a1 => ?_) (fun Q a1 => ?_)
     ·refine Vg rfl (cB Q) (jz m3) (V (jO (cB Q) rfl) ?_)
      have h := sj a1; subst h
      exact c2 _ _ ⟨_, (d.jv St), g8, g9, h0, h1, h2, rfl⟩
     refine Vn rfl (cB Q) (V (jP (cB Q) rfl) ?_)
     have h := sj a1; subst h
     exact c2 _ _ ⟨_, (d.jv St), g8, g9, h0, h1, h2, rfl⟩
    refine bC a2 (fun G a2 => ?_) (fun G a2 => ?_)
    ·refine Vg rfl (cB G) (jz m1) (Vg rfl (cB G) (kh rfl rfl rfl) (V (jO (cB G) rfl) ?_))
     have h := sj a2; subst h
     exact c3 _ _ ⟨_, (d.jv St), g0, g1, g2, g3, g4, g7, rfl⟩
    refine Vn rfl (cB G) (Vn rfl (cB G) (V (jP (cB G) rfl) ?_))
    have h := sj a2; subst h
    exact c3 _ _ ⟨_, (d.jv St), g0, g1, g2, g3, g4, g7, rfl⟩
   refine bC a3 (fun N a3 => ?_) (fun N a3 => ?_)
   ·refine Vg rfl (cB N) (jz l9) (V (jO (cB N) rfl) ?_)
    have h := sj a3; subst h
    exact c4 _ _ ⟨_, (d.jv St), f3, f4, f5, f6, f7, f8, f9, rfl⟩
   refine Vn rfl (cB N) (V (jP (cB N) rfl) ?_)
   have h := sj a3; subst h
   exact c4 _ _ ⟨_, (d.jv St), f3, f4, f5, f6, f7, f8, f9, rfl⟩
  refine bC a4 (fun D a4 => ?_) (fun D a4 => ?_)
  ·refine Vg rfl (cB D) (jz l7) (Vg rfl (cB D) (kh rfl rfl rfl) (V (jO (cB D) rfl) ?_))
   have h := sj a4; subst h
   exact c5 _ _ ⟨_, (d.jv St), e5, e6, e7, e8, e9, f0, f1, f2, rfl⟩
  refine Vn rfl (cB D) (Vn rfl (cB D) (V (jP (cB D) rfl) ?_))
  have h := sj a4; subst h
  exact c5 _ _ ⟨_, (d.jv St), e5, e6, e7, e8, e9, f0, f1, f2, rfl⟩
 refine bC a5 (fun M a5 => ?_) (fun M a5 => ?_)
 ·refine Vg rfl (cB M) (jz rfl) (V (jO (cB M) rfl) ?_)
  have h := sj a5; subst h
  exact c6 _ _ ⟨_, (d.jv St), rfl, rfl, rfl, rfl, rfl, rfl, rfl, rfl, rfl, rfl⟩
 refine Vn rfl (cB M) (V (jP (cB M) rfl) ?_)
 have h := sj a5; subst h
 exact c6 _ _ ⟨_, (d.jv St), rfl, rfl, rfl, rfl, rfl, rfl, rfl, rfl, rfl, rfl⟩
theorem DI (k : Value) (u : List js) (r : Int) (w : World) (j : Sl (Pl jw) 9 (hp w) k u) (hm : vL u = some r) :
  jZ true pg0 35 [k] w (.int .i64 r) := by
 refine cG 54 func35 rfl (fun b => sg (Wa (lr (Wa (lS (Wm ?_))))))
 refine V (kK aH rfl j) (Wm (ln (kA (fun i E W => ∃ g t, (E 8 = .int .i64 (i : Nat) ∧ E 7 = .int .i64 (u.length : Nat)) ∧ ST true kw w W (hp w) t ∧ E 3 = (.int .i64 g) ∧ E 6 = k ∧ rK (u.drop i) g = some r) u.length j.len ⟨0, _, ⟨rfl, rfl⟩, (b.jv St), rfl, rfl, hm⟩ dc dc dc (fun _ _ _ h => by obtain ⟨_, _, l, _⟩ := h; exact l) ?_ ?_)))
 ·rintro I E W z ⟨g, t, ⟨d, m⟩, b, x, y, c⟩
  obtain ⟨a, J, G, D, H⟩ := ku z
  rw [G] at c
  refine bg (VQ (mZ (enc := jw) (i := (I : Int)) (x0 := a) aH aN y d j (aG _) D) (fun Q B => V (jx rfl (jS b.has B bQ aN)) (VE (jU b cK (fun K N b => VO (jK (.agg (jw a).toArray) ((jw a).toArray) b rfl rfl aN (mH a) nb rfl (fun M b => ln (jG (Wh x (Wf qN (Wf pn (VB b Mh rfl rfl bV (V (oA bZ rfl) ?_)))))))))))))
  refine Wi rfl (Wf qN (Wf uw (VB b Mh rfl rfl bV (V (oA bZ rfl) (Wi rfl (Wf wH (VB b Mh rfl rfl bV (V (oA bZ rfl) (Wi rfl (Wf nz (Wf pn (VB b Mh rfl rfl bV (V (oA bZ rfl) (Wi rfl ?_))))))))))))))
  refine Wf nz (Wf uw (VB b Mh rfl rfl bV (V (oA bZ rfl) (Wi rfl (Wf sE (Wf pn (VB b Mh rfl rfl bV (V (oA bZ rfl) (Wi rfl (Wf sE (Wf uw (VB b Mh rfl rfl bV (V (oA bZ rfl) (Wi rfl ?_))))))))))))))
  refine Wf uv (VB b Mh rfl rfl bV (V (oA bZ rfl) (Wi rfl (Wi rfl (Wa (jT (kl (jH ?_))))))))
  replace b := b.jv (Db St)
  exact ⟨d, (wi0 .i64 (g + (wi0 .i64 ((wi0 .i64 ((wi0 .i64 ((wi0 .i64 ((wi0 .i64 ((wi0 .i64 ((wi0 .i64 ((wi0 .i64 (20 + (a.Head.ju.size : Int))) + (a.Head.jy.size : Int))) + (a.kE.size : Int))) + (a.B.ju.size : Int))) + (a.B.jy.size : Int))) + (a.C.ju.size : Int))) + (a.C.jy.size : Int))) + (a.kM.size : Int))))), _, ⟨rfl, m⟩, (b.jv St), rfl, y, (by rw [H]; exact c)⟩
 rintro E W ⟨g, t, ⟨d, m⟩, b, x, y, c⟩
 rw [aM] at c
 exact jH (sg (Wh x (Wa (lt (rQ c b)))))
theorem xO (H : Value) (Q : List Key) (u : Value) (J : List Signed) (r : Int) (w : World) (B : Sl qt 2 (hp w) H Q) (D : Sl tz 10 (hp w) u J) (hm : uq Q J = some r) :
  jZ true pg0 21 [H, u] w (.int .i64 r) := by
 refine cG 45 func21 rfl (fun b => sg (Wa (lr (Wa (lS (Wm ?_))))))
 refine V (kK underlying32 rfl B) (Wm (ln (kA (fun i E W => ∃ t N, (E 12 = .int .i64 (i : Nat) ∧ E 11 = .int .i64 (Q.length : Nat)) ∧ ST true kw w W (hp w) N ∧ E 1 = u ∧ E 5 = (.int .i64 t) ∧ E 10 = H ∧ qk J (Q.drop i) t = some r) Q.length B.len ⟨0, _, ⟨rfl, rfl⟩, (b.jv St), rfl, rfl, rfl, hm⟩ dc dc dc (fun _ _ _ h => by obtain ⟨_, _, n, _⟩ := h; exact n) ?_ ?_)))
 ·rintro c3 E W b5 ⟨t, N, ⟨m, p⟩, b, U, Y, Z, g⟩
  obtain ⟨k, d4, b9, b7, c0⟩ := ku b5
  rw [b9] at g
  refine bg (VQ (lI (i := (c3 : Int)) (x0 := k) qt.out underlying32 sizeOf86 Z m B (aG _) b7) (fun d8 ⟨_, ⟨d9, rfl, a2⟩, b6⟩ => V (jx rfl (jS b.has b6 isAgg86 sizeOf86)) (VE (jU b zeroValue86 (fun d5 d7 b => ?_)))))
  obtain ⟨s, v, rfl⟩ := a2.form
  refine VO (jK (.agg #[(.string k.kE), (.slice s k.Key.length v)]) (#[(.string k.kE), (.slice s k.Key.length v)]) b rfl rfl sizeOf86 oc nb rfl (fun d6 b => ln (jG (Wh Y (Wf RY (VB b Mh rfl rfl bV (V (oA bZ rfl) (Wi rfl (Wf RB (VB b Mh rfl rfl isAgg59 (V (kK cT rfl a2) (Wi rfl (Wi rfl (Wa ?_))))))))))))))
  refine jT (kl (jH ?_))
  replace b := b.jv (Db St)
  exact ⟨m, (wi0 .i64 (t + (wi0 .i64 ((wi0 .i64 (10 + (k.kE.size : Int))) + (k.Key.length : Int))))), _, ⟨rfl, p⟩, (b.jv St), U, rfl, Z, (by rw [c0]; exact g)⟩
 rintro E W ⟨t, N, ⟨m, p⟩, b, U, Y, Z, g⟩
 rw [aM] at g
 refine jH (jL (sg (Wh U (V (kK jc rfl D) (Wm (ln (CJ g (fun G E W => ∃ M, ST true kw w W (hp w) M ∧ E 5 = (.int .i64 G)) (fun G a5 => ?_) ?_)))))))
 ·refine kA (fun i E W => ∃ j x, (E 29 = .int .i64 (i : Nat) ∧ E 28 = .int .i64 (J.length : Nat)) ∧ ST true kw w W (hp w) x ∧ E 5 = (.int .i64 j) ∧ E 27 = u ∧ rS (J.drop i) j = some G) J.length D.len ⟨t, _, ⟨rfl, rfl⟩, (b.jv St), Y, rfl, a5⟩ dc dc dc (fun _ _ _ h => by obtain ⟨_, _, n, _⟩ := h; exact n) ?_ ?_
  ·rintro c1 E W a3 ⟨j, x, ⟨m, p⟩, b, y, z, c⟩
   obtain ⟨a, c4, a9, P, R⟩ := ku a3
   rw [a9] at c
   refine bg (VQ (lI (i := (c1 : Int)) (x0 := a) tz.out jc iW z m D (aG _) P) (fun d0 ⟨_, ⟨d1, rfl, I⟩, L⟩ => V (jx rfl (jS b.has L isAgg61 iW)) (VE (jU b jm (fun c5 c9 b => ?_)))))
   obtain ⟨K, T, rfl⟩ := I.form
   let a0 := (C7 a.js.Kind a.js.Head.ju a.js.Head.jy a.js.kE a.js.B.ju a.js.B.jy a.js.C.ju a.js.C.jy a.js.kM K a.Tag.length T)
   refine VO (jK (.agg a0.toArray) (a0.toArray) b rfl rfl iW oc nb rfl (fun c6 b => ln ?_))
   replace b := b.drew
   have d := b.has.jv (Kb Sn)
   refine kO d kp (X 0 rfl d (jz y) (X 1 rfl d (jE Bd rfl) (XH 2 rfl d (fun _ q => jx rfl (jD q Mh (jw a.js) rfl bQ aN)) (X 5 rfl d (jE Q3 rfl) (XH 6 rfl d (fun _ q => jx rfl (jJ q Mh rfl isAgg59)) (X 7 rfl d (kK cT rfl I) (XE 3 rfl (jY (cs := (jw a.js).toArray) b (lM rfl) (mf aH aN cK) (fun c7 b3 b => ?_)))))))))
   have d := b.has.jv (Db (Kb Sn))
   refine ⟨d, (bS c fun c2 O c => XE 4 rfl (Eg b call35 (DI (.slice (some ⟨b3, 0, none⟩) 1 1) ([a.js]) _ _ (Sl.lit (enc := jw) (l := [a.js]) kc rfl nb rfl (b.at_ Mh)) O) (fun c8 b => ?_)))⟩
   have d := b.has.jv (Db (Kb Sn))
   refine ⟨d, (X 8 rfl d (kh rfl rfl rfl) (X 9 rfl d (kh rfl rfl rfl) (X 10 rfl d (mw rfl) (kP kr (kl (jH ?_))))))⟩
   replace b := b.jv (Db (Db St))
   exact ⟨m, (wi0 .i64 (j + (wi0 .i64 (c2 + (a.Tag.length : Int))))), _, ⟨rfl, p⟩, (b.jv St), rfl, z, (by rw [R]; exact c)⟩
  rintro E W ⟨j, x, ⟨m, p⟩, b, y, z, c⟩
  rw [aM] at c
  refine jH ?_
  obtain rfl := sj c
  exact ⟨_, (b.jv St), y⟩
 rintro d3 E W ⟨M, b, b4⟩ a4
 exact sg (Wh b4 (Wa (lt (rQ a4 b))))
theorem EP (I : (List Formula) → Option Int) (N : ∀ (j : Value) (u : List Formula) (r : Int) (w : World) (t : Sl jt 5 (hp w) j u), I u = some r → jZ false pg0 20 [j] w (.int .i64 r)) (j : Value) (u : List Formula) (r : Int) (w : World) (t : Sl jt 5 (hp w) j u) (hm : wC I u = some r) :
  jZ false pg0 20 [j] w (.int .i64 r) := by
 refine cG 31 func20 rfl (fun l => sg (Wa (lr (Wa (lS (Wm ?_))))))
 refine V (kK aD rfl t) (Wm (ln (kA (fun i E W => ∃ x z, (E 8 = .int .i64 (i : Nat) ∧ E 7 = .int .i64 (u.length : Nat)) ∧ ST false kw w W (hp w) z ∧ E 3 = (.int .i64 x) ∧ E 6 = j ∧ rR I (u.drop i) x = some r) u.length t.len ⟨0, _, ⟨rfl, rfl⟩, (l.jv St), rfl, rfl, hm⟩ dc dc dc (fun _ _ _ h => by obtain ⟨_, _, p, _⟩ := h; exact p) ?_ ?_)))
 ·rintro Z E W M ⟨x, z, ⟨n, s⟩, l, D, G, g⟩
  obtain ⟨c, P, T, Q, U⟩ := ku M
  let a0 := ((c.jr.ju.size : Int) + (c.jr.jy.size : Int))
  rw [T] at g
  refine bg (VQ (lI (i := (Z : Int)) (x0 := c) jt.out aD aC G n t (aG _) Q) (fun a5 ⟨_, ⟨O, rfl, H⟩, J⟩ => V (jx rfl (jS l.has J aO aC)) (VE (jU l aQ (fun L a4 l => ?_)))))
  obtain ⟨y, B, rfl⟩ := H.form
  let q := (C1 c.Op c.K c.jr.ju c.jr.jy y c.Kids.length B)
  refine VO (jK (.agg q.toArray) (q.toArray) l rfl rfl aC oc nb rfl (fun a2 l => ln ?_))
  replace l := l.drew
  have d := l.has.jv (Kb Sn)
  refine kO d kp (X 0 rfl d (jz D) (X 1 rfl d (jE tQ rfl) (X 2 rfl d (jE pn rfl) (XH 3 rfl d (fun _ m => jx rfl (jJ m Mh rfl bV)) (X 4 rfl d (oA bZ rfl) (X 5 rfl d (jE tQ rfl) (X 6 rfl d (jE uw rfl) (XH 7 rfl d (fun _ m => jx rfl (jJ m Mh rfl bV)) (X 8 rfl d (oA bZ rfl) (X 9 rfl d (kh rfl rfl rfl) (X 10 rfl d (IS (k := .i64) (a := (wi0 .i64 a0)) (b := 16) (v := (.int .i64 (wi0 .i64 (Int.tdiv (wi0 .i64 a0) 16)))) rfl rfl dc rfl) (X 11 rfl d (kh rfl rfl rfl) (X 12 rfl d (jE nm rfl) (XH 13 rfl d (fun _ m => jx rfl (jJ m Mh rfl dH)) ?_))))))))))))))
  refine bS g fun Y K g => XE 14 rfl (Eg l call20 (N (.slice y c.Kids.length B) c.Kids _ _ (H.mono jC.mono l.jF) K) (fun a3 l => ?_))
  have d := l.has.jv (Kb Sn)
  refine ⟨d, (X 15 rfl d (kh rfl rfl rfl) (X 16 rfl d (kh rfl rfl rfl) (X 17 rfl d (mw rfl) (kP kr (kl (jH ?_))))))⟩
  replace l := l.jv (Db St)
  exact ⟨n, (wi0 .i64 (x + (wi0 .i64 ((wi0 .i64 (1 + (wi0 .i64 (Int.tdiv (wi0 .i64 a0) 16)))) + Y)))), _, ⟨rfl, s⟩, (l.jv St), rfl, G, (by rw [U]; exact g)⟩
 rintro E W ⟨x, z, ⟨n, s⟩, l, D, G, g⟩
 rw [aM] at g
 exact jH (sg (Wh D (Wa (lt (rQ g l)))))
theorem xZ : ∀ (n : Nat) (a : Value) (c : List Formula) (r : Int) (w : World) (g : Sl jt 5 (hp w) a c) (_ : oM n c = some r),
  jZ false pg0 20 [a] w (.int .i64 r)
 | 0 => by intros; rename_i h; simp only [oM] at h; cases h
 | n + 1 => EP (oM n) (xZ n)
set_option maxHeartbeats 4000000 in
theorem vO (x : kL) (J N : Value) (r : Int) (w : World) (y : Sl kz 15 (hp w) J x.jN) (G : Sl lF 8 (hp w) N x.ky) (hm : vV x = some r) :
  jZ false pg0 19 [(.agg #[(.string x.Name), J, N])] w (.int .i64 r) := by
 refine cG 61 func19 rfl (fun d => sg ?_)
 obtain ⟨A1, c2, rfl⟩ := y.form
 obtain ⟨A3, c4, rfl⟩ := G.form
 let g6 := (C9 x.Name A1 x.jN.length c2 A3 x.ky.length c4)
 refine VE (kv d rfl (fun W6 P d => Wa (lr (Wf Cp (VB d Mh rfl rfl bV (V (oA bZ rfl) (Wa (lS ?_))))))))
 refine Wf AM (VB d Mh rfl rfl isAgg22 (V (kK er rfl y) (Wm (ln (kA (fun i E W => ∃ I b1, (E 14 = .int .i64 (i : Nat) ∧ E 13 = .int .i64 (x.jN.length : Nat)) ∧ ST false kw w W (hp w) ((P, Ol g6 25) :: b1) ∧ E 1 = (.pointer (some ⟨P, 0, none⟩)) ∧ E 3 = (.int .i64 I) ∧ E 12 = (.slice A1 x.jN.length c2) ∧ rL x (x.jN.drop i) I = some r) x.jN.length y.len ⟨(x.Name.size : Int), _, ⟨rfl, rfl⟩, (d.jv St), rfl, rfl, rfl, hm⟩ dc dc dc (fun _ _ _ h => by obtain ⟨_, _, v, _⟩ := h; exact v) ?_ ?_)))))
 ·rintro d5 E W e1 ⟨I, b1, ⟨q, L⟩, d, U, M, Y, H⟩
  obtain ⟨a, h9, e9, e8, f0⟩ := ku e1
  rw [e9] at H
  refine bg (VQ (lI (i := (d5 : Int)) (x0 := a) kz.out er dT Y q y (aG _) e8) (fun j4 ⟨_, ⟨j8, j9, rfl, Q, T⟩, e2⟩ => V (jx rfl (jS d.has e2 ja dT)) (VE (jU d fD (fun i0 f4 d => ?_)))))
  obtain ⟨t, u, rfl⟩ := Q.form
  let g5 : Value := (.slice t a.Signed.Tag.length u)
  let b8 := (C7 a.Signed.js.Kind a.Signed.js.Head.ju a.Signed.js.Head.jy a.Signed.js.kE a.Signed.js.B.ju a.Signed.js.B.jy a.Signed.js.C.ju a.Signed.js.C.jy a.Signed.js.kM t a.Signed.Tag.length u)
  obtain ⟨g, j, rfl⟩ := T.form
  let d9 : Value := (.slice g a.jB.Kids.length j)
  let s := (C1 a.jB.Op a.jB.K a.jB.jr.ju a.jB.jr.jy g a.jB.Kids.length j)
  let a0 := (C4 a.Signed.js.Kind a.Signed.js.Head.ju a.Signed.js.Head.jy a.Signed.js.kE a.Signed.js.B.ju a.Signed.js.B.jy a.Signed.js.C.ju a.Signed.js.C.jy a.Signed.js.kM t a.Signed.Tag.length u a.jB.Op a.jB.K a.jB.jr.ju a.jB.jr.jy g a.jB.Kids.length j)
  refine VO (jK (.agg a0.toArray) (a0.toArray) d rfl rfl dT oc nb rfl (fun i1 d => ln ?_))
  replace d := d.drew
  have m := d.has.jv (Kb Sn)
  refine kO m kp (X 0 rfl m (jz M) (X 1 rfl m (jE AK rfl) (XH 2 rfl m (fun _ p => jx rfl (jD p Mh b8 rfl isAgg61 iW)) (X 5 rfl m (jE JR rfl) (XH 6 rfl m (fun _ p => jx rfl (jD p Mh s rfl aO aC)) (PJ H (fun b4 E W => ∃ O b2 b9, ST false kw w W (hp w) ((f4, Ol a0 63) :: ((P, Ol g6 25) :: (b2 ++ b9))) ∧ E 1 = (.pointer (some ⟨P, 0, none⟩)) ∧ E 3 = (.int .i64 I) ∧ E 12 = (.slice A1 x.jN.length c2) ∧ E 13 = (.int .i64 (x.jN.length : Int)) ∧ E 14 = (.int .i64 (d5 : Int)) ∧ E 18 = (.int .i64 I) ∧ E 22 = (.int .i64 b4.1) ∧ E 25 = O ∧ kB 30 jt 5 (hp w) O b4.2 b2) (bm 13 255) 5 ?_ (fun b4 z Z => ?_)))))))
  ·rintro ⟨g7, g3⟩ E W ⟨O, b2, b9, d, f6, j3, f7, f8, f9, g0, g1, g2, e7⟩ R
   refine bS R fun g4 e3 R => XE 8 rfl (Eg d call20 ((xZ kd) O g3 _ _ (e7.sl jC d.jF (fun b o n => d.at_ (Mt (Mt (Ml n))))) e3) (fun i2 d => ?_) (ha := Tk g2))
   have m := d.has.jv (Kb Sn)
   refine ⟨m, (X 9 rfl m (kh rfl rfl rfl) (X 10 rfl m (kh g1 rfl rfl) (X 11 rfl m (kh g0 rfl rfl) (X 12 rfl m (mw rfl) (kP kr (kl (jH ?_)))))))⟩
   replace d := d.jv (Db (Kb (Dr St)))
   exact ⟨f9, (wi0 .i64 (I + (wi0 .i64 (g7 + (wi0 .i64 (20 * g4)))))), _, ⟨rfl, f8⟩, (d.jv St), f6, rfl, f7, (by rw [f0]; exact R)⟩
  refine zQ 3 7 rfl rfl kr (.inl rfl) (.inl rfl) rfl rfl dc dc ?_ ?_
  ·refine jY (cs := b8.toArray) d (lM rfl) (mf jc iW jm) (fun i3 b3 d => ?_)
   let d8 : Value := (.slice (some ⟨b3, 0, none⟩) 1 1)
   have m := d.has.jv (Db (Kb Sn))
   refine ⟨m, (zQ 4 7 rfl rfl kr (.inl rfl) (.inl rfl) rfl rfl dc dc ?_ ?_)⟩
   ·refine bS z fun j5 e4 z => E5 (args := [(.slice none 0 0), d8]) d rfl call21 (by exact uW rfl rfl) (jZ.lG (xO (.slice none 0 0) ([]) d8 ([a.Signed]) _ _ (Sl.nil _ _ _) ((kB.lit Az (l := [a.Signed]) (.cons (ys := C7 a.Signed.js.Kind a.Signed.js.Head.ju a.Signed.js.Head.jy a.Signed.js.kE a.Signed.js.B.ju a.Signed.js.B.jy a.Signed.js.C.ju a.Signed.js.C.jy a.Signed.js.kM t a.Signed.Tag.length u) (tz.mk ⟨g5, rfl, Q⟩) .nil) rfl nb rfl).sl Az d.jF (fun b o n => (by rw [bO] at n; cases n; exact d.at_ Mh))) e4)) (fun i4 d => ?_)
    have m := d.has.jv (Db (Kb Sn))
    refine ⟨m, (XE 7 rfl (jY (cs := s.toArray) d (lM rfl) (mf aD aC aQ) (fun i5 c0 d => ?_)))⟩
    have m := d.has.jv (Db (Db (Kb Sn)))
    refine ⟨m, ?_⟩
    obtain rfl := sj z
    replace d := d.Ey
    refine ml kr (Z _ _ ⟨(.slice (some ⟨c0, 0, none⟩) 1 1), [(c0, Ol s 30)], _, (d.jv (Sb (Pr (Pb Pz)) (Sb (Pr (Pb Pz)) (Kr (Db St))))), U, M, Y, L, q, rfl, rfl, rfl, (kB.lit jC (l := [a.jB]) (.cons (ys := C1 a.jB.Op a.jB.K a.jB.jr.ju a.jB.jr.jy g a.jB.Kids.length j) (jt.mk ⟨d9, rfl, T⟩) .nil) rfl nb rfl)⟩)
   ·refine jY (cs := s.toArray) d (lM rfl) (mf aD aC aQ) (fun i6 c1 d => ?_)
    have m := d.has.jv (Db (Db (Kb Sn)))
    refine ⟨m, (bS z fun j6 e5 z => XE 4 rfl (Eg d call21 (jZ.lG (xO (.slice none 0 0) ([]) d8 ([a.Signed]) _ _ (Sl.nil _ _ _) ((kB.lit Az (l := [a.Signed]) (.cons (ys := C7 a.Signed.js.Kind a.Signed.js.Head.ju a.Signed.js.Head.jy a.Signed.js.kE a.Signed.js.B.ju a.Signed.js.B.jy a.Signed.js.C.ju a.Signed.js.C.jy a.Signed.js.kM t a.Signed.Tag.length u) (tz.mk ⟨g5, rfl, Q⟩) .nil) rfl nb rfl).sl Az d.jF (fun b o n => (by rw [bO] at n; cases n; exact d.at_ (Mt Mh)))) e5)) (fun i7 d => ?_)))⟩
    have m := d.has.jv (Db (Db (Kb Sn)))
    refine ⟨m, ?_⟩
    obtain rfl := sj z
    replace d := d.Ey
    refine ml kr (Z _ _ ⟨(.slice (some ⟨c1, 0, none⟩) 1 1), [(c1, Ol s 30)], _, (d.jv (Sb (Pr (Pb Pz)) (Sb (Pr (Pb Pz)) (Kr (Db St))))), U, M, Y, L, q, rfl, rfl, rfl, (kB.lit jC (l := [a.jB]) (.cons (ys := C1 a.jB.Op a.jB.K a.jB.jr.ju a.jB.jr.jy g a.jB.Kids.length j) (jt.mk ⟨d9, rfl, T⟩) .nil) rfl nb rfl)⟩)
  ·refine jY (cs := s.toArray) d (lM rfl) (mf aD aC aQ) (fun i8 c3 d => ?_)
   have m := d.has.jv (Db (Kb Sn))
   refine ⟨m, (XE 3 rfl (jY (cs := b8.toArray) d (lM rfl) (mf jc iW jm) (fun i9 f5 d => ?_)))⟩
   have m := d.has.jv (Db (Db (Kb Sn)))
   refine ⟨m, (bS z fun j7 e6 z => XE 4 rfl (Eg d call21 (jZ.lG (xO (.slice none 0 0) ([]) (.slice (some ⟨f5, 0, none⟩) 1 1) ([a.Signed]) _ _ (Sl.nil _ _ _) ((kB.lit Az (l := [a.Signed]) (.cons (ys := C7 a.Signed.js.Kind a.Signed.js.Head.ju a.Signed.js.Head.jy a.Signed.js.kE a.Signed.js.B.ju a.Signed.js.B.jy a.Signed.js.C.ju a.Signed.js.C.jy a.Signed.js.kM t a.Signed.Tag.length u) (tz.mk ⟨g5, rfl, Q⟩) .nil) rfl nb rfl).sl Az d.jF (fun b o n => (by rw [bO] at n; cases n; exact d.at_ Mh))) e6)) (fun j0 d => ?_)))⟩
   have m := d.has.jv (Db (Db (Kb Sn)))
   refine ⟨m, ?_⟩
   obtain rfl := sj z
   replace d := d.perm (Nb (Pb Pz) Nz)
   replace d := d.Ey
   refine ml kr (Z _ _ ⟨(.slice (some ⟨c3, 0, none⟩) 1 1), [(c3, Ol s 30)], _, (d.jv (Sb (Pr (Pb Pz)) (Sb (Pr (Pb Pz)) (Kr (Db St))))), U, M, Y, L, q, rfl, rfl, rfl, (kB.lit jC (l := [a.jB]) (.cons (ys := C1 a.jB.Op a.jB.K a.jB.jr.ju a.jB.jr.jy g a.jB.Kids.length j) (jt.mk ⟨d9, rfl, T⟩) .nil) rfl nb rfl)⟩)
 rintro E W ⟨I, b1, ⟨q, L⟩, d, U, M, Y, H⟩
 rw [aM] at H
 refine jH (jL (sg (V (jE Jx U) (VB d Mh rfl rfl isAgg23 (V (kK dx rfl G) (Wm (ln ?_)))))))
 replace d := d.jv (Db St)
 refine CJ H (fun a7 E W => ∃ b6, ST false kw w W (hp w) b6 ∧ E 3 = (.int .i64 a7)) (fun a7 c8 => ?_) ?_
 ·refine kA (fun i E W => ∃ K a2, (E 34 = .int .i64 (i : Nat) ∧ E 33 = .int .i64 (x.ky.length : Nat)) ∧ ST false kw w W (hp w) a2 ∧ E 3 = (.int .i64 K) ∧ E 32 = (.slice A3 x.ky.length c4) ∧ rU (x.ky.drop i) K = some a7) x.ky.length G.len ⟨I, _, ⟨rfl, rfl⟩, (d.jv St), M, rfl, c8⟩ dc dc dc (fun _ _ _ h => by obtain ⟨_, _, v, _⟩ := h; exact v) ?_ ?_
  ·rintro f1 E W c6 ⟨K, a2, ⟨q, L⟩, d, a4, a5, k⟩
   obtain ⟨c, g8, d3, d2, d4⟩ := ku c6
   rw [d3] at k
   refine bg (VQ (lI (i := (f1 : Int)) (x0 := c) lF.out dx ee a5 q G (aG _) d2) (fun h5 ⟨_, ⟨h6, h7, rfl, a9, b0⟩, c9⟩ => V (jx rfl (jS d.has c9 jq ee)) (VE (jU d gV (fun g9 h4 d => ?_)))))
   obtain ⟨B, D, rfl⟩ := a9.form
   let d6 := (C1 c.jB.Op c.jB.K c.jB.jr.ju c.jB.jr.jy B c.jB.Kids.length D)
   obtain ⟨a1, a3, rfl⟩ := b0.form
   let c5 := (C8 c.jr.ju c.jr.jy c.jB.Op c.jB.K c.jB.jr.ju c.jB.jr.jy B c.jB.Kids.length D a1 c.mu.length a3)
   refine VO (jK (.agg c5.toArray) (c5.toArray) d rfl rfl ee oc nb rfl (fun h0 d => ln ?_))
   replace d := d.drew
   have m := d.has.jv (Kb Sn)
   refine kO m kp (X 0 rfl m (jz a4) (X 1 rfl m (jE N2 rfl) (X 2 rfl m (jE pn rfl) (XH 3 rfl m (fun _ p => jx rfl (jJ p Mh rfl bV)) (X 4 rfl m (oA bZ rfl) (X 5 rfl m (jE N2 rfl) (X 6 rfl m (jE uw rfl) (XH 7 rfl m (fun _ p => jx rfl (jJ p Mh rfl bV)) (X 8 rfl m (oA bZ rfl) (X 9 rfl m (kh rfl rfl rfl) (X 10 rfl m (jE JL rfl) (XH 11 rfl m (fun _ p => jx rfl (jD p Mh d6 rfl aO aC)) (X 16 rfl m (jE J3 rfl) (XH 17 rfl m (fun _ p => jx rfl (jJ p Mh rfl dY)) ?_))))))))))))))
   refine XE 12 rfl (jY (cs := d6.toArray) d (lM rfl) (mf aD aC aQ) (fun h1 d7 d => ?_))
   have m := d.has.jv (Db (Kb Sn))
   refine ⟨m, (bS k fun f2 d0 k => XE 13 rfl (Eg d call20 ((xZ kd) (.slice (some ⟨d7, 0, none⟩) 1 1) ([c.jB]) _ _ ((kB.lit jC (l := [c.jB]) (.cons (ys := C1 c.jB.Op c.jB.K c.jB.jr.ju c.jB.jr.jy B c.jB.Kids.length D) (jt.mk ⟨(.slice B c.jB.Kids.length D), rfl, a9⟩) .nil) rfl nb rfl).sl jC d.jF (fun b o n => (by rw [bO] at n; cases n; exact d.at_ Mh))) d0) (fun h2 d => ?_)))⟩
   have m := d.has.jv (Db (Kb Sn))
   refine ⟨m, (X 14 rfl m (kh rfl rfl rfl) (X 15 rfl m (kh rfl rfl rfl) (bS k fun f3 d1 k => XE 18 rfl (Eg d call35 (jZ.lG (DI (.slice a1 c.mu.length a3) c.mu _ _ (b0.mono (Pl.mono _) d.jF) d1)) (fun h3 d => ?_)))))⟩
   have m := d.has.jv (Db (Kb Sn))
   refine ⟨m, (X 19 rfl m (kh rfl rfl rfl) (X 20 rfl m (kh rfl rfl rfl) (X 21 rfl m (mw rfl) (kP kr (kl (jH ?_))))))⟩
   replace d := d.jv (Db (Db St))
   exact ⟨q, (wi0 .i64 (K + (wi0 .i64 ((wi0 .i64 ((wi0 .i64 ((c.jr.ju.size : Int) + (c.jr.jy.size : Int))) + (wi0 .i64 (20 * f2)))) + f3)))), _, ⟨rfl, L⟩, (d.jv St), rfl, a5, (by rw [d4]; exact k)⟩
  rintro E W ⟨K, a2, ⟨q, L⟩, d, a4, a5, k⟩
  rw [aM] at k
  refine jH ?_
  obtain rfl := sj k
  exact ⟨_, (d.jv St), a4⟩
 rintro h8 E W ⟨b6, d, e0⟩ c7
 exact sg (Wh e0 (Wa (lt (rQ c7 d))))
theorem IK (a : na) (B D x z y J : Value) (r : Int) (w : World) (t : Sl kz 15 (hp w) B a.ju.jN) (u : Sl lF 8 (hp w) D a.ju.ky) (c : Sl kz 15 (hp w) x a.Client.jN) (i : Sl lF 8 (hp w) z a.Client.ky) (g : Sl jt 5 (hp w) y a.Formula.Kids) (I : Sl qt 2 (hp w) J a.Keys) (hm : xY a = some r) :
  jZ false pg0 6 [(.agg #[(.string a.ju.Name), B, D, (.string a.Client.Name), x, z, (.int .i64 a.Formula.Op), (.int .i64 a.Formula.K), (.string a.Formula.jr.ju), (.string a.Formula.jr.jy), y, (.int .i64 a.uY), (.int .i64 a.nu.nT), (.int .i64 a.nu.nD), (.int .i64 a.pa), (.int .i64 a.sH), (.int .i64 a.qp), J])] w (.int .i64 r) := by
 refine cG 20 func6 rfl (fun d => sg ?_)
 obtain ⟨A1, c2, rfl⟩ := t.form
 obtain ⟨A3, n, rfl⟩ := u.form
 let a3 := (C9 a.ju.Name A1 a.ju.jN.length c2 A3 a.ju.ky.length n)
 obtain ⟨N, U, rfl⟩ := c.form
 let a5 : Value := (.slice N a.Client.jN.length U)
 obtain ⟨Q, Y, rfl⟩ := i.form
 let b8 : Value := (.slice Q a.Client.ky.length Y)
 let a4 := (C9 a.Client.Name N a.Client.jN.length U Q a.Client.ky.length Y)
 obtain ⟨G, k, rfl⟩ := g.form
 let q : Value := (.slice G a.Formula.Kids.length k)
 let a0 := (C1 a.Formula.Op a.Formula.K a.Formula.jr.ju a.Formula.jr.jy G a.Formula.Kids.length k)
 obtain ⟨p, a2, rfl⟩ := I.form
 refine VE (kv d rfl (fun e8 c7 d => Wa (ln (jL ?_))))
 replace d := d.drew
 have h := d.has.jv (Kb Sn)
 refine kO h kp (X 0 rfl h (jE El rfl) (XH 1 rfl h (fun _ m => jx rfl (jD m Mh a3 rfl ir fT)) (X 3 rfl h (jE AN rfl) (XH 4 rfl h (fun _ m => jx rfl (jD m Mh a4 rfl ir fT)) (X 7 rfl h (jE JQ rfl) (XH 8 rfl h (fun _ m => jx rfl (jD m Mh a0 rfl aO aC)) (X 13 rfl h (jE RG rfl) (XH 14 rfl h (fun _ m => jx rfl (jJ m Mh rfl isAgg32)) (PJ hm (fun Z E W => ∃ M T s, ST false kw w W (hp w) ((c7, Ol (C2 a.ju.Name A1 a.ju.jN.length c2 A3 a.ju.ky.length n a.Client.Name N a.Client.jN.length U Q a.Client.ky.length Y a.Formula.Op a.Formula.K a.Formula.jr.ju a.Formula.jr.jy G a.Formula.Kids.length k a.uY a.nu.nT a.nu.nD a.pa a.sH a.qp p a.Keys.length a2) 34) :: (T ++ s)) ∧ E 2 = (.int .i64 0) ∧ E 9 = (.int .i64 Z.1) ∧ E 12 = M ∧ E 17 = (.slice p a.Keys.length a2) ∧ kB 30 jt 5 (hp w) M Z.2 T) (bm 18 25599) 6 ?_ (fun Z j K => ?_))))))))))
 ·rintro ⟨e7, c5⟩ E W ⟨M, T, s, d, d9, c0, c1, c3, b9⟩ H
  refine bS H fun e0 O H => XE 10 rfl (Eg d call20 ((xZ kd) M c5 _ _ (b9.sl jC d.jF (fun b o hq => d.at_ (Mt (Ml hq)))) O) (fun c9 d => ?_) (ha := Tk c1))
  have h := d.has.jv (Kb Sn)
  refine ⟨h, (X 11 rfl h (kh rfl rfl rfl) (X 12 rfl h (kh c0 rfl rfl) (bS H fun e1 P H => XE 15 rfl (Eg d call21 (jZ.lG (xO (.slice p a.Keys.length a2) a.Keys (.slice none 0 0) ([]) _ _ (I.mono yg.mono d.jF) (Sl.nil _ _ _) P)) (fun d0 d => ?_) (ha := TR c3 rfl)))))⟩
  have h := d.has.jv (Kb Sn)
  refine ⟨h, (X 16 rfl h (kh rfl rfl rfl) (X 17 rfl h (mw rfl) (kP kr (jH ?_))))⟩
  exact ke (rQ H d)
 refine zQ 2 9 rfl rfl kr (.inl rfl) (.inl rfl) rfl rfl dc dc ?_ ?_
 ·refine bS j fun e2 R j => E5 (args := [(.agg a3.toArray)]) d rfl call19 (by exact ue rfl) (vO a.ju (.slice A1 a.ju.jN.length c2) (.slice A3 a.ju.ky.length n) _ _ (t.mono kC.mono d.jF) (u.mono mI.mono d.jF) R) (fun d1 d => ?_)
  have h := d.has.jv (Kb Sn)
  refine ⟨h, (zQ 5 9 rfl rfl kr (.inl rfl) (.inl rfl) rfl rfl dc dc ?_ ?_)⟩
  ·refine bS j fun e3 b4 j => E5 (args := [(.agg a4.toArray)]) d rfl call19 (by exact ue rfl) (vO a.Client a5 b8 _ _ (c.mono kC.mono d.jF) (i.mono mI.mono d.jF) b4) (fun d2 d => ?_)
   have h := d.has.jv (Kb Sn)
   refine ⟨h, (X 6 rfl h (kh rfl rfl rfl) (XE 9 rfl (jY (cs := a0.toArray) d (lM rfl) (mf aD aC aQ) (fun d3 v d => ?_))))⟩
   have h := d.has.jv (Db (Kb Sn))
   refine ⟨h, ?_⟩
   obtain rfl := sj j
   replace d := d.Ey
   refine ml kr (K _ _ ⟨(.slice (some ⟨v, 0, none⟩) 1 1), [(v, Ol a0 30)], _, (d.jv (Sb (Pr Pz) St)), rfl, rfl, rfl, rfl, (kB.lit jC (l := [a.Formula]) (.cons (ys := C1 a.Formula.Op a.Formula.K a.Formula.jr.ju a.Formula.jr.jy G a.Formula.Kids.length k) (jt.mk ⟨q, rfl, g⟩) .nil) rfl nb rfl)⟩)
  ·refine jY (cs := a0.toArray) d (lM rfl) (mf aD aC aQ) (fun d4 a9 d => ?_)
   have h := d.has.jv (Db (Kb Sn))
   refine ⟨h, (bS j fun e4 b5 j => XE 5 rfl (Eg d call19 (vO a.Client a5 b8 _ _ (c.mono kC.mono d.jF) (i.mono mI.mono d.jF) b5) (fun d5 d => ?_)))⟩
   have h := d.has.jv (Db (Kb Sn))
   refine ⟨h, (X 6 rfl h (kh rfl rfl rfl) ?_)⟩
   obtain rfl := sj j
   replace d := d.Ey
   refine ml kr (K _ _ ⟨(.slice (some ⟨a9, 0, none⟩) 1 1), [(a9, Ol a0 30)], _, (d.jv (Sb (Pr Pz) St)), rfl, rfl, rfl, rfl, (kB.lit jC (l := [a.Formula]) (.cons (ys := C1 a.Formula.Op a.Formula.K a.Formula.jr.ju a.Formula.jr.jy G a.Formula.Kids.length k) (jt.mk ⟨q, rfl, g⟩) .nil) rfl nb rfl)⟩)
 ·refine jY (cs := a0.toArray) d (lM rfl) (mf aD aC aQ) (fun d6 L d => ?_)
  have h := d.has.jv (Db (Kb Sn))
  refine ⟨h, (bS j fun e5 b6 j => XE 2 rfl (Eg d call19 (vO a.ju (.slice A1 a.ju.jN.length c2) (.slice A3 a.ju.ky.length n) _ _ (t.mono kC.mono d.jF) (u.mono mI.mono d.jF) b6) (fun d7 d => ?_)))⟩
  have h := d.has.jv (Db (Kb Sn))
  refine ⟨h, (bS j fun e6 b7 j => XE 5 rfl (Eg d call19 (vO a.Client a5 b8 _ _ (c.mono kC.mono d.jF) (i.mono mI.mono d.jF) b7) (fun d8 d => ?_)))⟩
  have h := d.has.jv (Db (Kb Sn))
  refine ⟨h, (X 6 rfl h (kh rfl rfl rfl) ?_)⟩
  obtain rfl := sj j
  replace d := d.Ey
  refine ml kr (K _ _ ⟨(.slice (some ⟨L, 0, none⟩) 1 1), [(L, Ol a0 30)], _, (d.jv (Sb (Pr Pz) St)), rfl, rfl, rfl, rfl, (kB.lit jC (l := [a.Formula]) (.cons (ys := C1 a.Formula.Op a.Formula.K a.Formula.jr.ju a.Formula.jr.jy G a.Formula.Kids.length k) (jt.mk ⟨q, rfl, g⟩) .nil) rfl nb rfl)⟩)
theorem vP (M : ByteArray) (r : Bool) (w : World) (hm : rn M = some r) :
  jZ true pg0 55 [(.string M)] w (.bool r) := by
 refine cG 49 func55 rfl (fun b => sg (Wa (lS (Wm (V (rB rfl rfl rfl) (Wm (LJ hm (fun c7 E W => ∃ L3, ST true kw w W (hp w) L3 ∧ E 0 = (.string M) ∧ E 11 = (.bool c7)) 4 ?_ (fun c7 K a5 => ?_))))))))
 ·rintro x2 E W ⟨L3, b, p, e6⟩ f7
  refine Wh e6 (LJ f7 (fun c6 E W => ∃ d3, ST true kw w W (hp w) d3 ∧ E 0 = (.string M) ∧ E 16 = (.bool c6)) 4 ?_ (fun c6 x a4 => ?_))
  ·rintro g4 E W ⟨d3, b, n, f4⟩ f0
   refine Wh f4 (LJ f0 (fun c5 E W => ∃ d4, ST true kw w W (hp w) d4 ∧ E 0 = (.string M) ∧ E 21 = (.bool c5)) 4 ?_ (fun c5 u a3 => ?_))
   ·rintro g7 E W ⟨d4, b, f5, f6⟩ Q
    refine ln (CI Q f6 (fun e9 Q => ?_) (fun e9 Q => ?_))
    ·refine sg (Wa (lt (ki ?_)))
     obtain rfl := sj Q
     exact rP b
    refine kS (Wa (ln (lz (mX (fun m E W => ∃ y L, ST true kw w W (hp w) L ∧ E 0 = (.string M) ∧ E 3 = (.int .i64 y) ∧ qg M m y = some r) kd ⟨0, _, (b.jv St), f5, rfl, Q⟩ ?_))))
    rintro m E W ⟨y, L, b, T, U, c⟩
    cases m with
    | zero => rw [qg] at c; cases c
    | succ f1 =>
     refine jL (sg (Wh U (Wh T (V (oA bZ rfl) (Wi rfl (ln (CI c rfl (fun c8 c => ?_) (fun c8 c => ?_))))))))
     ·refine kn (jL (bg (Wh T (Wh U (bS c fun d a9 c => V (Ax (i := y) bZ rfl rfl (zB a9) (Df a9)) (Wa (lr ?_)))))))
      refine Wm (Wi rfl (Wm (LJ c (fun c4 E W => ∃ O, ST true kw w W (hp w) O ∧ E 0 = (.string M) ∧ E 3 = (.int .i64 y) ∧ E 4 = (.int .u8 (d.toNat : Int)) ∧ E 36 = (.bool c4)) 3 ?_ (fun c4 J a2 => ?_))))
      ·rintro f2 E W ⟨O, b, h, l, N, d5⟩ d0
       refine Wh d5 (LJ d0 (fun c2 E W => ∃ P, ST true kw w W (hp w) P ∧ E 0 = (.string M) ∧ E 3 = (.int .i64 y) ∧ E 4 = (.int .u8 (d.toNat : Int)) ∧ E 44 = (.bool c2)) 7 ?_ (fun c2 H Z => ?_))
       ·rintro g1 E W ⟨P, b, b9, c0, d6, d7⟩ d1
        refine Wh d7 (LJ d1 (fun c1 E W => ∃ R, ST true kw w W (hp w) R ∧ E 0 = (.string M) ∧ E 3 = (.int .i64 y) ∧ E 48 = (.bool c1)) 3 ?_ (fun c1 G Y => ?_))
        ·rintro g2 E W ⟨R, b, d8, d9, e0⟩ D
         refine ln (CI D e0 (fun c9 D => ?_) (fun c9 D => ?_))
         ·refine sg (Wa (lt (mc (ki (ki (mc (ki ?_)))))))
          obtain rfl := sj D
          exact rP b
         exact kQ (kl (jH (jG (Wh d9 (Wi rfl (Wa (ln ⟨f1, bn _, (wi0 .i64 (y + 1)), _, (b.jv St), d8, rfl, D⟩)))))))
        refine bC G (fun k G => ?_) (fun k G => ?_)
        ·refine ug k (jz d6) (ug k (kh rfl rfl rfl) (V (jO (cB k) rfl) ?_))
         obtain rfl := sj G
         exact Y _ _ ⟨_, (b.jv St), b9, c0, rfl⟩
        refine un k (un k (V (jP (cB k) rfl) ?_))
        obtain rfl := sj G
        exact Y _ _ ⟨_, (b.jv St), b9, c0, rfl⟩
       refine bC H (fun a H => ?_) (fun a H => ?_)
       ·refine ug a (jz N) (ug a (kh rfl rfl rfl) (ug a (jz rfl) (LJ H (fun c3 E W => ∃ b6, ST true kw w W (hp w) b6 ∧ E 0 = (.string M) ∧ E 3 = (.int .i64 y) ∧ E 4 = (.int .u8 (d.toNat : Int)) ∧ E 37 = (.bool f2) ∧ E 43 = (.bool c3)) 3 ?_ (fun c3 I q => ?_))))
        ·rintro g3 E W ⟨b6, b, e1, e2, e3, e4, e7⟩ d2
         refine V (jO (e4.trans (cB a)) e7) ?_
         obtain rfl := sj d2
         exact Z _ _ ⟨_, (b.jv St), e1, e2, e3, rfl⟩
        refine bC I (fun t I => ?_) (fun t I => ?_)
        ·refine un t (un t (ug a (jO (cB t) rfl) ?_))
         obtain rfl := sj I
         exact q _ _ ⟨_, (b.jv St), h, l, N, rfl, rfl⟩
        refine ug t (jz N) (ug t (kh rfl rfl rfl) (ug a (jP (cB t) rfl) ?_))
        obtain rfl := sj I
        exact q _ _ ⟨_, (b.jv St), h, l, N, rfl, rfl⟩
       refine un a (un a (un a (Vu rfl rfl (Vu rfl rfl (un a (V (jP (cB a) rfl) ?_))))))
       obtain rfl := sj H
       exact Z _ _ ⟨_, (b.jv St), h, l, N, rfl⟩
      refine bC J (fun j J => ?_) (fun j J => ?_)
      ·refine un j (un j (V (jO (cB j) rfl) ?_))
       obtain rfl := sj J
       exact a2 _ _ ⟨_, (b.jv St), T, U, rfl, rfl⟩
      refine ug j (jz rfl) (ug j (kh rfl rfl rfl) (V (jP (cB j) rfl) ?_))
      obtain rfl := sj J
      exact a2 _ _ ⟨_, (b.jv St), T, U, rfl, rfl⟩
     exact mW (mK (mK (qG (jH (sg (Wa (lt (rQ c b))))))))
   refine bC u (fun g u => ?_) (fun g u => ?_)
   ·refine un g (un g (un g (V (jO (cB g) rfl) ?_)))
    obtain rfl := sj u
    exact a3 _ _ ⟨_, (b.jv St), n, rfl⟩
   refine ug g (jz n) (bS u fun f8 s u => ug g (Ax (i := 0) bZ rfl rfl (zB s) (Df s)) (ug g (kh rfl rfl rfl) (V (jP (cB g) rfl) ?_)))
   obtain rfl := sj u
   exact a3 _ _ ⟨_, (b.jv St), n, rfl⟩
  refine bC x (fun B x => ?_) (fun B x => ?_)
  ·refine un B (un B (un B (V (jO (cB B) rfl) ?_)))
   obtain rfl := sj x
   exact a4 _ _ ⟨_, (b.jv St), p, rfl⟩
  refine ug B (jz p) (bS x fun f9 v x => ug B (Ax (i := 0) bZ rfl rfl (zB v) (Df v)) (ug B (kh rfl rfl rfl) (V (jP (cB B) rfl) ?_)))
  obtain rfl := sj x
  exact a4 _ _ ⟨_, (b.jv St), p, rfl⟩
 refine bC K (fun z K => ?_) (fun z K => ?_)
 ·refine un z (un z (un z (V (jO (cB z) rfl) ?_)))
  obtain rfl := sj K
  exact a5 _ _ ⟨_, (b.jv St), rfl, rfl⟩
 refine ug z (jz rfl) (ug z (oA bZ rfl) (ug z (kh rfl rfl rfl) (V (jP (cB z) rfl) ?_)))
 obtain rfl := sj K
 exact a5 _ _ ⟨_, (b.jv St), rfl, rfl⟩
theorem xQ (i : jr) (r : Bool) (w : World) (hm : sT i = some r) :
  jZ true pg0 54 [(.agg (jA i).toArray)] w (.bool r) := by
 refine cG 11 func54 rfl (fun b => sg (VE (kv b rfl (fun H J b => Wa (lr (Wf pn (VB b Mh rfl rfl bV (bS hm fun K y hm => VE (Eg b call55 (vP i.ju _ _  y) (fun I b => Wm (LJ hm (fun k E W => ∃ j, ST true kw w W (hp w) j ∧ E 2 = (.bool false) ∧ E 10 = (.bool k)) 4 ?_ (fun k a g => ?_))))))))))))
 ·rintro G E W ⟨j, b, B, x⟩ t
  exact Wg x (lt (rQ t b))
 refine bC a (fun c a => ?_) (fun c a => ?_)
 ·refine ug c (jE uw rfl) (ug c (jx rfl (jJ b.has Mh rfl bV)) (bS a fun D u a => tM c (Eg b call55 (vP i.jy _ _  u) (fun z b => V (jO (cB c) rfl) ?_))))
  obtain rfl := sj a
  exact g _ _ ⟨_, (b.jv (Db St)), rfl, rfl⟩
 refine un c (un c (un c (V (jP (cB c) rfl) ?_)))
 obtain rfl := sj a
 exact g _ _ ⟨_, (b.jv (Db St)), rfl, rfl⟩
theorem Eo (t u : jr) (r : Bool) (w : World) (hm : wG t u = some r) :
  jZ true pg0 56 [(.agg (jA t).toArray), (.agg (jA u).toArray)] w (.bool r) := by
 refine cG 24 func56 rfl (fun b => sg (VE (kv b rfl (fun T Y b => VE (kv b rfl (fun U Z b => Wa (lr (Wf pn (VB b (Mt Mh) rfl rfl bV (Wf pn (VB b Mh rfl rfl bV (V (rB rfl rfl rfl) ?_))))))))))))
 refine Wm (LJ hm (fun z E W => ∃ x, ST true kw w W (hp w) x ∧ E 4 = (.bool false) ∧ E 23 = (.bool z)) 13 ?_ (fun z g j => ?_))
 ·rintro N E W ⟨x, b, M, H⟩ D
  exact Wg H (lt (rQ D b))
 refine bC g (fun a g => ?_) (fun a g => ?_)
 ·refine un a (un a (un a (un a (un a (un a (Vu rfl rfl (Vu rfl rfl (Vu rfl rfl (Vu rfl rfl (Vu rfl rfl (un a (V (jO (cB a) rfl) ?_))))))))))))
  obtain rfl := sj g
  exact j _ _ ⟨_, (b.jv (Db (Db St))), rfl, rfl⟩
 refine ug a (jE pn rfl) (ug a (jx rfl (jJ b.has (Mt Mh) rfl bV)) (ug a (jE pn rfl) (ug a (jx rfl (jJ b.has Mh rfl bV)) (ug a (rB rfl rfl rfl) (ug a (jz rfl) (LJ g (fun B E W => ∃ y, ST true kw w W (hp w) y ∧ E 4 = (.bool false) ∧ E 10 = (.bool (qe t.ju u.ju)) ∧ E 22 = (.bool B)) 6 ?_ (fun B i k => ?_)))))))
 ·rintro Q E W ⟨y, b, I, J, K⟩ G
  refine V (jP (J.trans (cB a)) K) ?_
  obtain rfl := sj G
  exact j _ _ ⟨_, (b.jv St), I, rfl⟩
 refine bC i (fun c i => ?_) (fun c i => ?_)
 ·refine ug c (jE uw rfl) (ug c (jx rfl (jJ b.has (Mt Mh) rfl bV)) (ug c (jE uw rfl) (ug c (jx rfl (jJ b.has Mh rfl bV)) (ug c (rB rfl rfl rfl) (ug a (jO (cB c) rfl) ?_)))))
  obtain rfl := sj i
  exact k _ _ ⟨_, (b.jv (Db (Db St))), rfl, rfl, rfl⟩
 refine un c (un c (un c (un c (un c (ug a (jP (cB c) rfl) ?_)))))
 obtain rfl := sj i
 exact k _ _ ⟨_, (b.jv (Db (Db St))), rfl, rfl, rfl⟩
theorem DK (g : js) (r : Bool) (w : World) (hm : vS g = some r) :
  jZ true pg0 31 [(.agg (jw g).toArray)] w (.bool r) := by
 refine cG 93 func31 rfl (fun b => sg (VE (kv b rfl (fun W2 M b => Wa (lr (VE (jU b et (fun W4 h b => lS ?_))))))))
 refine Wf qN (VA b (Mt Mh) (jA g.Head) bG aS (bS hm fun r5 h4 hm => VE (Eg b call54 (xQ g.Head _ _  h4) (fun W7 b => V (nt rfl) (ln (CI hm rfl (fun h2 hm => ?_) (fun h2 hm => ?_)))))))
 ·refine sg (Wa (ln ?_))
  replace b := b.jv (Db (Db St))
  refine ke (ki ?_)
  obtain rfl := sj hm
  exact rP b
 refine kS (Wf qC (VB b (Mt Mh) rfl rfl bR (Wi rfl (ln (CI hm rfl (fun h3 hm => ?_) (fun h3 hm => ?_))))))
 ·refine sg (Wf wH (VB b (Mt Mh) rfl rfl bV (bS hm fun i6 f7 hm => VE (Eg b call55 (vP g.kE _ _  f7) (fun i3 b => Wm (LJ hm (fun e1 E W => ∃ c8, ST true kw w W (hp w) ((h, Ol (jA K0) 27) :: ((M, Ol (jw g) 49) :: c8)) ∧ E 1 = (.pointer (some ⟨M, 0, none⟩)) ∧ E 2 = (.bool false) ∧ E 3 = (.pointer (some ⟨h, 0, none⟩)) ∧ E 19 = (.bool e1)) 5 ?_ (fun e1 T p => ?_)))))))
  ·rintro i8 E W ⟨c8, b, l, d6, f9, g0⟩ f0
   refine Wh g0 (LJ f0 (fun e0 E W => ∃ c9, ST true kw w W (hp w) ((M, Ol (jw g) 49) :: c9) ∧ E 1 = (.pointer (some ⟨M, 0, none⟩)) ∧ E 2 = (.bool false) ∧ E 25 = (.bool e0)) 5 ?_ (fun e0 Q a5 => ?_))
   ·rintro i9 E W ⟨c9, b, g1, d7, g2⟩ f1
    refine Wh g2 (LJ f1 (fun d9 E W => ∃ d0, ST true kw w W (hp w) d0 ∧ E 2 = (.bool false) ∧ E 30 = (.bool d9)) 4 ?_ (fun d9 N a4 => ?_))
    ·rintro j0 E W ⟨d0, b, i5, g3⟩ f2
     refine Wg g3 (lt (ki ?_))
     obtain rfl := sj f2
     exact rP b
    refine bC N (fun x N => ?_) (fun x N => ?_)
    ·refine ug x (jE uv g1) (ug x (jx rfl (jJ b.has Mh rfl bV)) (ug x (rB rfl rfl rfl) (V (jO (cB x) rfl) ?_)))
     obtain rfl := sj N
     exact a4 _ _ ⟨_, (b.jv (Db St)), d7, rfl⟩
    refine un x (un x (un x (V (jP (cB x) rfl) ?_)))
    obtain rfl := sj N
    exact a4 _ _ ⟨_, (b.jv (Db St)), d7, rfl⟩
   refine bC Q (fun k Q => ?_) (fun k Q => ?_)
   ·refine ug k (jE sE l) (ug k (jx rfl (jD b.has (Mt Mh) (jA g.C) rfl bG aS)) (ug k (jx f9 (jD b.has Mh (jA K0) rfl bG aS)) (ug k (uT rfl rfl (nl dS) (rh (pG _ g.C K0))) (V (jO (cB k) rfl) ?_))))
    obtain rfl := sj Q
    exact a5 _ _ ⟨_, (b.jv (Db St)), l, d6, rfl⟩
   refine un k (un k (un k (un k (V (jP (cB k) rfl) ?_))))
   obtain rfl := sj Q
   exact a5 _ _ ⟨_, (b.jv (Db St)), l, d6, rfl⟩
  refine bC T (fun j T => ?_) (fun j T => ?_)
  ·refine ug j (jE nz rfl) (ug j (jx rfl (jD b.has (Mt Mh) (jA g.B) rfl bG aS)) (ug j (jx rfl (jD b.has Mh (jA K0) rfl bG aS)) (ug j (uT rfl rfl (nl dS) (rh (pG _ g.B K0))) (V (jO (cB j) rfl) ?_))))
   obtain rfl := sj T
   exact p _ _ ⟨_, (b.jv St), rfl, rfl, rfl, rfl⟩
  refine un j (un j (un j (un j (V (jP (cB j) rfl) ?_))))
  obtain rfl := sj T
  exact p _ _ ⟨_, (b.jv St), rfl, rfl, rfl, rfl⟩
 let a0 := ((jw g).toArray : Array Value)
 let d : Value := (.pointer (some ⟨M, 0, none⟩))
 refine kS (Wf wH (VB b (Mt Mh) rfl rfl bV (V (rB rfl rfl rfl) (Wm (LJ hm (fun c1 E W => ∃ d1, ST true kw w W (hp w) ((h, Ol (jA K0) 27) :: ((M, Obj.cells a0 49 (0, 0)) :: d1)) ∧ E 1 = d ∧ E 3 = (.pointer (some ⟨h, 0, none⟩)) ∧ E 39 = (.bool c1)) 5 ?_ (fun c1 I a3 => ?_))))))
 ·rintro j3 E W ⟨d1, b, u, d8, g4⟩ i
  refine ln (CI i g4 (fun e7 i => ?_) (fun e7 i => ?_))
  ·refine sg (Wa (ln ?_))
   replace b := b.jv (Db (Db St))
   refine ke (ki ?_)
   obtain rfl := sj i
   exact rP b
  refine kS (V (jE qC u) (VB b (Mt Mh) rfl rfl bR (Wi rfl (ln (CI i rfl (fun e8 i => ?_) (fun e8 i => ?_))))))
  ·refine sg (V (jE sE u) (VA b (Mt Mh) (jA g.C) bG aS (V (jx d8 (jD b.has Mh (jA K0) rfl bG aS)) (V (uT rfl rfl (nl dS) (rh (pG _ g.C K0))) (Wm (LJ i (fun e2 E W => ∃ d2, ST true kw w W (hp w) d2 ∧ E 51 = (.bool e2)) 4 ?_ (fun e2 U q => ?_)))))))
   ·rintro j4 E W ⟨d2, b, g7⟩ f3
    refine Wg g7 (lt (ki ?_))
    obtain rfl := sj f3
    exact rP b
   refine bC U (fun y U => ?_) (fun y U => ?_)
   ·refine ug y (jE uv u) (ug y (jx rfl (jJ b.has (Mt Mh) rfl bV)) (ug y (rB rfl rfl rfl) (V (jO (cB y) rfl) ?_)))
    obtain rfl := sj U
    exact q _ _ ⟨_, (b.jv (Db (Db St))), rfl⟩
   refine un y (un y (un y (V (jP (cB y) rfl) ?_)))
   obtain rfl := sj U
   exact q _ _ ⟨_, (b.jv (Db (Db St))), rfl⟩
  refine kS (V (jE qC u) (VB b (Mt Mh) rfl rfl bR (Wi rfl (ln (CI i rfl (fun e9 i => ?_) (fun e9 i => ?_))))))
  ·refine sg (V (jE sE u) (VA b (Mt Mh) (jA g.C) bG aS (V (jx d8 (jD b.has Mh (jA K0) rfl bG aS)) (V (uT rfl rfl (nl dS) (rh (pG _ g.C K0))) (Wm (LJ i (fun e4 E W => ∃ d3, ST true kw w W (hp w) ((M, Obj.cells a0 49 (0, 0)) :: d3) ∧ E 1 = d ∧ E 67 = (.bool e4)) 8 ?_ (fun e4 Y a9 => ?_)))))))
   ·rintro j5 E W ⟨d3, b, g8, g9⟩ f4
    refine Wh g9 (LJ f4 (fun e3 E W => ∃ d4, ST true kw w W (hp w) d4 ∧ E 72 = (.bool e3)) 4 ?_ (fun e3 J s => ?_))
    ·rintro j6 E W ⟨d4, b, h0⟩ f5
     refine Wg h0 (lt (ki ?_))
     obtain rfl := sj f5
     exact rP b
    refine bC J (fun z J => ?_) (fun z J => ?_)
    ·refine ug z (jE uv g8) (ug z (jx rfl (jJ b.has Mh rfl bV)) (bS J fun i7 f8 J => tM z (Eg b call55 (vP g.kM _ _  f8) (fun i4 b => V (jO (cB z) rfl) ?_))))
     obtain rfl := sj J
     exact s _ _ ⟨_, (b.jv (Db St)), rfl⟩
    refine un z (un z (un z (V (jP (cB z) rfl) ?_)))
    obtain rfl := sj J
    exact s _ _ ⟨_, (b.jv (Db St)), rfl⟩
   refine bC Y (fun a Y => ?_) (fun a Y => ?_)
   ·refine ug a (jE nz u) (ug a (jE pn rfl) (ug a (jx rfl (jJ b.has (Mt Mh) rfl bV)) (ug a (jE qN u) (ug a (jE pn rfl) (ug a (jx rfl (jJ b.has (Mt Mh) rfl bV)) (ug a (rB rfl rfl rfl) (V (jO (cB a) rfl) ?_)))))))
    obtain rfl := sj Y
    exact a9 _ _ ⟨_, (b.jv (Db St)), u, rfl⟩
   refine un a (un a (un a (un a (un a (un a (un a (V (jP (cB a) rfl) ?_)))))))
   obtain rfl := sj Y
   exact a9 _ _ ⟨_, (b.jv (Db St)), u, rfl⟩
  refine kn ?_
  replace b := b.jv (Db St)
  refine sg (V (jE qC u) (VB b Mh rfl rfl bR (Wi rfl (Wm (LJ i (fun c0 E W => ∃ d5, ST true kw w W (hp w) ((M, Obj.cells a0 49 (0, 0)) :: d5) ∧ E 1 = d ∧ E 80 = (.bool c0)) 4 ?_ (fun c0 K a2 => ?_))))))
  ·rintro j7 E W ⟨d5, b, m, h1⟩ f6
   refine Wh h1 (LJ f6 (fun R E W => ∃ v, ST true kw w W (hp w) ((M, Obj.cells a0 49 (0, 0)) :: v) ∧ E 1 = d ∧ E 85 = (.bool R)) 4 ?_ (fun R H n => ?_))
   ·rintro i1 E W ⟨v, b, O, e5⟩ c3
    refine Wh e5 (LJ c3 (fun P E W => ∃ L, ST true kw w W (hp w) L ∧ E 92 = (.bool P)) 6 ?_ (fun P G Z => ?_))
    ·rintro i2 E W ⟨L, b, e6⟩ c4
     exact Wg e6 (lt (rQ c4 b))
    refine bC G (fun c G => ?_) (fun c G => ?_)
    ·refine ug c (jE nz O) (ug c (jx rfl (jD b.has Mh (jA g.B) rfl bG aS)) (ug c (jE sE O) (ug c (jx rfl (jD b.has Mh (jA g.C) rfl bG aS)) (bS G fun h8 c5 G => tM c (Eg b call56 (Eo g.B g.C _ _  c5) (fun h5 b => V (jO (cB c) rfl) ?_))))))
     obtain rfl := sj G
     exact Z _ _ ⟨_, (b.jv (Db St)), rfl⟩
    refine un c (un c (un c (un c (un c (V (jP (cB c) rfl) ?_)))))
    obtain rfl := sj G
    exact Z _ _ ⟨_, (b.jv (Db St)), rfl⟩
   refine bC H (fun D H => ?_) (fun D H => ?_)
   ·refine ug D (jE sE m) (ug D (jx rfl (jD b.has Mh (jA g.C) rfl bG aS)) (bS H fun h9 c6 H => tM D (Eg b call54 (xQ g.C _ _  c6) (fun h6 b => V (jO (cB D) rfl) ?_))))
    obtain rfl := sj H
    exact n _ _ ⟨_, (b.jv St), m, rfl⟩
   refine un D (un D (un D (V (jP (cB D) rfl) ?_)))
   obtain rfl := sj H
   exact n _ _ ⟨_, (b.jv St), m, rfl⟩
  refine bC K (fun B K => ?_) (fun B K => ?_)
  ·refine ug B (jE uv u) (ug B (jx rfl (jJ b.has Mh rfl bV)) (ug B (rB rfl rfl rfl) (V (jO (cB B) rfl) ?_)))
   obtain rfl := sj K
   exact a2 _ _ ⟨_, (b.jv St), u, rfl⟩
  refine un B (un B (un B (V (jP (cB B) rfl) ?_)))
  obtain rfl := sj K
  exact a2 _ _ ⟨_, (b.jv St), u, rfl⟩
 refine bC I (fun t I => ?_) (fun t I => ?_)
 ·refine un t (un t (un t (un t (V (jO (cB t) rfl) ?_))))
  obtain rfl := sj I
  exact a3 _ _ ⟨_, (b.jv St), rfl, rfl, rfl⟩
 refine ug t (jE nz rfl) (ug t (jx rfl (jD b.has (Mt Mh) (jA g.B) rfl bG aS)) (bS I fun i0 c7 I => tM t (Eg b call54 (xQ g.B _ _  c7) (fun h7 b => ug t (nt rfl) (V (jP (cB t) rfl) ?_)))))
 obtain rfl := sj I
 exact a3 _ _ ⟨_, (b.jv St), rfl, rfl, rfl⟩
theorem vh (x : Int) (r : ByteArray) (w : World) (hm : qx x = some r) :
  jZ true pg0 117 [(.int .i64 x)] w (.string r) := by
 refine cG 22 func117 rfl (fun d => sg (Wa (lr (Wa (ln (jL (lz (mX (fun m E W => ∃ c j t, ST true kw w W (hp w) t ∧ E 0 = (.int .i64 c) ∧ E 3 = (.string j) ∧ tf m c j = some r) kd ⟨x, zS, _, (d.jv St), rfl, rfl, hm⟩ ?_))))))))
 rintro m E W ⟨c, j, t, d, i, u, g⟩
 let N := (Int.tmod c 128)
 cases m with
 | zero => rw [tf] at g; cases g
 | succ D =>
  refine jL (sg (Wh i (Wi rfl (ln (CI g rfl (fun y g => ?_) (fun y g => ?_))))))
  ·refine kn (bg (Wh u (Wh i (V (IS (k := .i64) (a := c) (b := 128) (v := (.int .i64 N)) rfl rfl dc rfl) (Wi rfl (V (pT (k' := .i64) (a := (wi0 .i64 (128 + N))) dD fi rfl) (VE (jY (cs := [(.int .u8 (IntKind.u8.wrap (wi0 .i64 (128 + N))))].toArray) d (lM rfl) (mf cT sizeOf5 jb) (fun H J d => V (Lc cT fi bZ rfl (Sl.lit (enc := (lm .u8)) (l := [(IntKind.u8.wrap (wi0 .i64 (128 + N)))]) (fun _ => rfl) rfl nb rfl (d.at_ Mh))) (bS g fun G z g => V (wR rfl rfl z) (Wa ?_)))))))))))
   refine ln ?_
   replace d := d.jv (Db St)
   exact jG (Wh i (V (IS (k := .i64) (a := c) (b := 128) (v := (.int .i64 (wi0 .i64 (Int.tdiv c 128)))) rfl rfl dc rfl) (Wa (jT (kl (jH ⟨D, bn _, (wi0 .i64 (Int.tdiv c 128)), G, _, (d.jv St), rfl, rfl, g⟩))))))
  refine mW (mK (mK (qG (jH (sg (Wh u (Wh i (V (pT (k' := .i64) (a := c) dD fi rfl) (VE (jY (cs := [(.int .u8 (IntKind.u8.wrap c))].toArray) d (lM rfl) (mf cT sizeOf5 jb) (fun I K d => V (Lc cT fi bZ rfl (Sl.lit (enc := (lm .u8)) (l := [(IntKind.u8.wrap c)]) (fun _ => rfl) rfl nb rfl (d.at_ Mh))) (bS g fun M B g => V (wR rfl rfl B) (Wa (ln ?_))))))))))))))
  exact ke (rQ g d)
theorem yY (a r : ByteArray) (w : World) (hm : tY a = some r) :
  jZ true pg0 119 [(.string a)] w (.string r) := by
 refine cG 8 func119 rfl (fun b => sg (Wa (lr (Wm (V (oA bZ rfl) (bS hm fun j c hm => VE (Eg b call117 (vh (a.size : Int) _ _  c) (fun i b => Wm (bS hm fun k g hm => V (wR rfl rfl g) ?_)))))))))
 exact Wa (lt (rQ hm b))
theorem xN (a : jr) (r : ByteArray) (w : World) (hm : sU a = some r) :
  jZ true pg0 118 [(.agg (jA a).toArray)] w (.string r) := by
 refine cG 10 func118 rfl (fun b => sg (VE (kv b rfl (fun y z b => Wa (ln (jL ?_))))))
 replace b := b.drew
 have d := b.has.jv (Kb Sn)
 refine kO d kp (X 0 rfl d (jE pn rfl) (XH 1 rfl d (fun _ h => jx rfl (jJ h Mh rfl bV)) (X 3 rfl d (jE uw rfl) (XH 4 rfl d (fun _ h => jx rfl (jJ h Mh rfl bV)) (bS hm fun t c hm => XE 2 rfl (Eg b call119 (yY a.ju _ _  c) (fun j b => ?_)))))))
 have d := b.has.jv (Kb Sn)
 refine ⟨d, (bS hm fun u g hm => XE 5 rfl (Eg b call119 (yY a.jy _ _  g) (fun k b => ?_)))⟩
 have d := b.has.jv (Kb Sn)
 refine ⟨d, (bS hm fun x i hm => X 6 rfl d (wR rfl rfl i) (X 7 rfl d (mw rfl) (kP kr (jH ?_))))⟩
 exact ke (rQ hm b)
theorem Iz (g : js) (r : ByteArray) (w : World) (hm : Ab g = some r) :
  jZ true pg0 83 [(.agg (jw g).toArray)] w (.string r) := by
 refine cG 41 func83 rfl (fun b => sg (VE (kv b rfl (fun W2 l b => Wa (ln (jL ?_))))))
 replace b := b.drew
 have d := b.has.jv (Kb Sn)
 refine kO d kp (X 0 rfl d (jE qC rfl) (XH 1 rfl d (fun _ h => jx rfl (jJ h Mh rfl bR)) (X 3 rfl d (jE qN rfl) (XH 4 rfl d (fun _ h => jx rfl (jD h Mh (jA g.Head) rfl bG aS)) (bS hm fun a9 H hm => XE 2 rfl (Eg b call117 (vh g.Kind _ _  H) (fun a3 b => ?_)))))))
 have d := b.has.jv (Kb Sn)
 refine ⟨d, (bS hm fun q I hm => XE 5 rfl (Eg b call118 (xN g.Head _ _  I) (fun a4 b => ?_)))⟩
 have d := b.has.jv (Kb Sn)
 refine ⟨d, (bS hm fun P Q hm => X 6 rfl d (wR rfl rfl Q) (X 7 rfl d (mw rfl) (kP kr (jH (jL (sg (Wf qC (VB b Mh rfl rfl bR (Wi rfl (ln (CI hm rfl (fun y hm => ?_) (fun y hm => ?_))))))))))))⟩
 ·refine sg (Wm (Wf wH (VB b Mh rfl rfl bV (bS hm fun s J hm => VE (Eg b call119 (yY g.kE _ _  J) (fun a5 b => bS hm fun R T hm => V (wR rfl rfl T) (Wa (ln ?_))))))))
  replace b := b.jv (Db St)
  refine ke (ki ?_)
  obtain rfl := sj hm
  exact rP b
 refine kg (Wm (Wf nz (VA b Mh (jA g.B) bG aS (bS hm fun v K hm => VE (Eg b call118 (xN g.B _ _  K) (fun m b => bS hm fun b9 U hm => V (wR rfl rfl U) (Wa (ln (jL ?_)))))))))
 refine CJ hm (fun x E W => ∃ i, ST true kw w W (hp w) ((l, Ol (jw g) 49) :: i) ∧ E 1 = (.pointer (some ⟨l, 0, none⟩)) ∧ E 3 = (.string x)) (fun x c => ?_) ?_
 ·refine sg (Wf qC (VB b Mh rfl rfl bR (Wi rfl (ln (CI c rfl (fun B c => ?_) (fun B c => ?_))))))
  ·refine jG (Wm (Wf uv (VB b Mh rfl rfl bV (bS c fun O N c => VE (Eg b call119 (yY g.kM _ _  N) (fun p b => bS c fun c1 Z c => V (wR rfl rfl Z) (Wa (ln ?_))))))))
   obtain rfl := sj c
   exact ⟨_, (b.jv St), rfl, rfl⟩
  refine kn ?_
  obtain rfl := sj c
  exact ⟨_, (b.jv St), rfl, rfl⟩
 rintro c2 E W ⟨i, b, k, t⟩ D
 refine jL (CJ D (fun u E W => ∃ j, ST true kw w W (hp w) j ∧ E 3 = (.string u)) (fun u a => ?_) ?_)
 ·refine sg (V (jE qC k) (VB b Mh rfl rfl bR (Wi rfl (ln (CI a rfl (fun z a => ?_) (fun z a => ?_))))))
  ·refine jG (Wh t (V (jE sE k) (VA b Mh (jA g.C) bG aS (bS a fun L M a => VE (Eg b call118 (xN g.C _ _  M) (fun n b => bS a fun c0 Y a => V (wR rfl rfl Y) (Wa (ln ?_))))))))
   obtain rfl := sj a
   exact ⟨_, (b.jv (Db St)), rfl⟩
  refine kn ?_
  obtain rfl := sj a
  exact ⟨_, (b.jv (Db St)), t⟩
 rintro c3 E W ⟨j, b, a2⟩ G
 exact sg (Wh a2 (Wa (lt (rQ G b))))
theorem DF (a : js) (r : ByteArray) (w : World) (hm : vK a = some r) :
  jZ true pg0 57 [(.agg (jw a).toArray)] w (.string r) := by
 refine cG 8 func57 rfl (fun b => sg (VE (kv b rfl (fun j u b => Wa (lS (VA b Mh (jw a) bQ aN (bS hm fun x g hm => VE (Eg b call31 (DK a _ _  g) (fun k b => V (nt rfl) (jT ?_))))))))))
 refine jH (CI hm rfl (fun c hm => ?_) (fun c hm => ?_))
 ·refine sg (Wa (ln ?_))
  replace b := b.jv (Db St)
  refine ke (ki ?_)
  obtain rfl := sj hm
  exact rP b
 refine kg (VA b Mh (jw a) bQ aN (bS hm fun y i hm => VE (Eg b call83 (Iz a _ _  i) (fun t b => Wa (ln ?_)))))
 exact ke (rQ hm b)
theorem Bx (a c : js) (r : Int) (w : World) (hm : sO a c = some r) :
  jZ true pg0 32 [(.agg (jw a).toArray), (.agg (jw c).toArray)] w (.int .i64 r) := by
 refine cG 17 func32 rfl (fun b => sg (VE (kv b rfl (fun u z b => VE (kv b rfl (fun x B b => Wa (lr (VA b (Mt Mh) (jw a) bQ aN (bS hm fun D j hm => VE (Eg b call57 (DF a _ _  j) (fun y b => Wa (jT ?_))))))))))))
 refine jH ?_
 replace b := b.jv (Kb (Db St))
 refine sg (VA b Mh (jw c) bQ aN (bS hm fun G k hm => VE (Eg b call57 (DF c _ _  k) (fun t b => Wa (ln ?_)))))
 replace b := b.jv (Db St)
 refine jL (sg (Wm (Wm (V (rB rfl rfl rfl) (ln (CI hm rfl (fun g hm => ?_) (fun g hm => ?_)))))))
 ·refine sg (Wa (lt (ki ?_)))
  obtain rfl := sj hm
  exact rP b
 refine kS (Wm (Wm (V (rB rfl rfl rfl) (ln (CI hm rfl (fun i hm => ?_) (fun i hm => ?_))))))
 ·refine sg (Wa (lt (ki ?_)))
  obtain rfl := sj hm
  exact rP b
 exact kg (Wa (lt (rQ hm b)))
theorem Fm (D : Value) (a0 r : List js) (w : World) (e3 : Sl (Pl jw) 9 (hp w) D a0) (hm : xK a0 = some r) :
  lC true pg0 15 [D] w 49 jw 9 r := by
 refine wm 51 func15 rfl (fun d => sg (Wa (lr (Wa (ln (re (lz (mX (fun m E W => ∃ x a3 u c5, ST true kw w W (hp w) (u ++ c5) ∧ E 0 = D ∧ E 3 = x ∧ jV 49 jw 9 x a3 u ∧ tI a0 m a3 = some r) kd ⟨(.slice none 0 0), ([]), [], _, (d.jv St), rfl, rfl, (jV.nil _ _ _), hm⟩ ?_))))))))
 rintro m E W ⟨x, a3, u, c5, d, d1, g2, J, a5⟩
 cases m with
 | zero => rw [tI] at a5; cases a5
 | succ j5 =>
  refine bg (VE (jU d cK (fun k0 t d => lr (Wa (lS (Wh d1 ?_))))))
  let b8 : Value := (.pointer (some ⟨t, 0, none⟩))
  refine V (kK aH rfl e3) (Wm (ln (CJ a5 (fun a9 E W => ∃ c6, ST true kw w W (hp w) ((t, Ol (jw a9.2) 49) :: (u ++ c6)) ∧ E 0 = D ∧ E 3 = x ∧ E 4 = b8 ∧ E 5 = (.bool a9.1)) (fun a9 e9 => ?_) ?_)))
  ·refine kA (fun i E W => ∃ G y b1, (E 10 = .int .i64 (i : Nat) ∧ E 9 = .int .i64 (a0.length : Nat)) ∧ ST true kw w W (hp w) ((t, Ol (jw y) 49) :: (u ++ b1)) ∧ E 0 = D ∧ E 3 = x ∧ E 4 = b8 ∧ E 5 = (.bool G) ∧ E 8 = D ∧ rO a3 (a0.drop i) G y = some a9) a0.length e3.len ⟨false, Pm, _, ⟨rfl, rfl⟩, (d.jv St), d1, g2, rfl, rfl, rfl, e9⟩ dc dc dc (fun _ _ _ h => by obtain ⟨_, _, _, aa, _⟩ := h; exact aa) ?_ ?_
   ·rintro a2 E W e8 ⟨G, y, b1, ⟨s, eN⟩, d, U, M, Y, Z, q, z⟩
    let g5 := ((jw y).toArray : Array Value)
    obtain ⟨c, j9, f9, f8, c4⟩ := ku e8
    let c3 := ((jw c).toArray : Array Value)
    rw [f9] at z
    refine bg (VQ (mZ (enc := jw) (i := (a2 : Int)) (x0 := c) aH aN q s e3 (aG _) f8) (fun k9 f3 => V (jx rfl (jS d.has f3 bQ aN)) (VE (jU d cK (fun k3 K d => VO (jK (.agg (jw c).toArray) ((jw c).toArray) d rfl rfl aN (mH c) nb rfl (fun k4 d => ln (jL ?_))))))))
    let j2 : Value := (.int .i64 (a2 : Int))
    let j1 : Value := (.int .i64 (a0.length : Int))
    let g6 : Value := (.pointer (some ⟨K, 0, none⟩))
    replace d := d.drew
    have b := d.has.jv (Kb (Kb (Kr Sn)))
    refine kO b kp (XH 0 rfl b (fun _ n => jx rfl (jD n Mh (jw c) rfl bQ aN)) (bS z fun j6 f5 z => XE 1 rfl (Eg d call31 (DK c _ _  f5) (fun k5 d => ?_))))
    have b := d.has.jv (Kb (Kb (Kr Sn)))
    refine ⟨b, (X 2 rfl b (jz rfl) (PJ z (fun e0 E W => ∃ c7, ST true kw w W (hp w) ((K, Obj.cells c3 49 (0, 0)) :: ((t, Obj.cells g5 49 (0, 0)) :: (u ++ c7))) ∧ E 0 = D ∧ E 3 = x ∧ E 4 = b8 ∧ E 5 = (.bool G) ∧ E 7 = g6 ∧ E 8 = D ∧ E 9 = j1 ∧ E 10 = j2 ∧ E 31 = (.bool e0)) (bm 28 262143) 10 ?_ (fun e0 T c1 => ?_)))⟩
    ·rintro j8 E W ⟨c7, d, b2, b3, L, O, P, b4, b5, b6, g8⟩ f0
     have b := d.has.jv (Kb (Kb (Kr Sn)))
     refine X 18 rfl b (jz g8) (PJ f0 (fun d8 E W => ∃ c8, ST true kw w W (hp w) ((K, Obj.cells c3 49 (0, 0)) :: ((t, Obj.cells g5 49 (0, 0)) :: (u ++ c8))) ∧ E 0 = D ∧ E 3 = x ∧ E 4 = b8 ∧ E 5 = (.bool G) ∧ E 7 = g6 ∧ E 8 = D ∧ E 9 = j1 ∧ E 10 = j2 ∧ E 41 = (.bool d8)) (bm 28 268435455) 0 ?_ (fun d8 Q b9 => ?_))
     ·rintro l4 E W ⟨c8, d, d3, d4, b7, g9, h0, d5, d6, d7, h1⟩ N
      refine kP kr (jH (CI N h1 (fun e7 N => ?_) (fun e7 N => ?_)))
      ·refine sg (V (jx h0 (jD d.has Mh (jw c) rfl bQ aN)) ?_)
       replace d := d.perm (Nb (Pb Pz) Nz)
       refine VO (jK (.agg (jw c).toArray) ((jw c).toArray) d b7 rfl aN (mH c) nb rfl (fun k6 d => ln ?_))
       replace d := d.jv (Kb (Db St))
       exact jG (Wa (jT (kl (jH ⟨d7, true, c, _, ⟨rfl, d6⟩, (d.jv St), d3, d4, b7, rfl, d5, (by rw [c4]; exact N)⟩))))
      refine kQ (kl (jH ?_))
      replace d := d.jv (Db St)
      exact ⟨d7, G, y, _, ⟨rfl, d6⟩, (d.jv St), d3, d4, b7, g9, d5, (by rw [c4]; exact N)⟩
     refine bC Q (fun j Q => ?_) (fun j Q => ?_)
     ·refine Xg 19 rfl rfl (cB j) b (jz O) (Xg 20 rfl rfl (cB j) b (nt rfl) (Xg 21 rfl rfl (cB j) b (jz rfl) (PJ Q (fun d9 E W => ∃ c9, ST true kw w W (hp w) ((K, Obj.cells c3 49 (0, 0)) :: ((t, Obj.cells g5 49 (0, 0)) :: (u ++ c9))) ∧ E 0 = D ∧ E 3 = x ∧ E 4 = b8 ∧ E 5 = (.bool G) ∧ E 7 = g6 ∧ E 8 = D ∧ E 9 = j1 ∧ E 10 = j2 ∧ E 32 = (.bool j8) ∧ E 40 = (.bool d9)) (bm 28 134217727) 1 ?_ (fun d9 I c0 => ?_))))
      ·rintro l5 E W ⟨c9, d, h2, h3, h4, h5, h6, h7, h8, h9, i0, i1⟩ f1
       have b := d.has.jv (Kb (Kb (Kr Sn)))
       refine X 27 rfl b (jO (i0.trans (cB j)) i1) ?_
       obtain rfl := sj f1
       refine ml kr (b9 _ _ ⟨_, (d.jv St), h2, h3, h4, h5, h6, h7, h8, h9, rfl⟩)
      refine bC I (fun k I => ?_) (fun k I => ?_)
      ·refine Xn 22 rfl rfl (cB k) b (Xn 23 rfl rfl (cB k) b (Xn 24 rfl rfl (cB k) b (Xn 25 rfl rfl (cB k) b (Xg 26 rfl rfl (cB j) b (jO (cB k) rfl) ?_))))
       obtain rfl := sj I
       refine ml kr (c0 _ _ ⟨_, (d.jv St), b2, b3, L, O, P, b4, b5, b6, rfl, rfl⟩)
      refine sZ 22 rfl rfl (cB k) b (fun _ n => jx P (jD n Mh (jw c) rfl bQ aN)) (sZ 23 rfl rfl (cB k) b (fun _ n => jx L (jD n (Mt Mh) (jw y) rfl bQ aN)) (bS I fun l1 f6 I => BG 24 rfl rfl (cB k) (Eg d call32 (Bx c y _ _  f6) (fun k7 d => ?_))))
      have b := d.has.jv (Kb (Kb (Kr Sn)))
      refine ⟨b, (Xg 25 rfl rfl (cB k) b (kh rfl rfl rfl) (Xg 26 rfl rfl (cB j) b (jP (cB k) rfl) ?_))⟩
      obtain rfl := sj I
      refine ml kr (c0 _ _ ⟨_, (d.jv St), b2, b3, L, O, P, b4, b5, b6, rfl, rfl⟩)
     refine Xn 19 rfl rfl (cB j) b (Xn 20 rfl rfl (cB j) b (Xn 21 rfl rfl (cB j) b (Xu 22 rfl rfl rfl b (Xu 23 rfl rfl rfl b (Xu 24 rfl rfl rfl b (Xu 25 rfl rfl rfl b (Xn 26 rfl rfl (cB j) b (X 27 rfl b (jP (cB j) rfl) ?_))))))))
     obtain rfl := sj Q
     refine ml kr (b9 _ _ ⟨_, (d.jv St), b2, b3, L, O, P, b4, b5, b6, rfl⟩)
    refine bC T (fun g T => ?_) (fun g T => ?_)
    ·refine Xg 3 rfl rfl (cB g) b (jz M) (Xg 4 rfl rfl (cB g) b (oE aH rfl J) (Xg 5 rfl rfl (cB g) b (kh rfl rfl rfl) (Xg 6 rfl rfl (cB g) b (jz rfl) (PJ T (fun e1 E W => ∃ d0, ST true kw w W (hp w) ((K, Obj.cells c3 49 (0, 0)) :: ((t, Obj.cells g5 49 (0, 0)) :: (u ++ d0))) ∧ E 0 = D ∧ E 3 = x ∧ E 4 = b8 ∧ E 5 = (.bool G) ∧ E 7 = g6 ∧ E 8 = D ∧ E 9 = j1 ∧ E 10 = j2 ∧ E 16 = (.bool j6) ∧ E 30 = (.bool e1)) (bm 28 131071) 11 ?_ (fun e1 B c2 => ?_)))))
     ·rintro l6 E W ⟨d0, d, i2, i3, i4, i5, i6, i7, i8, i9, j0, j3⟩ f2
      have b := d.has.jv (Kb (Kb (Kr Sn)))
      refine X 17 rfl b (jO (j0.trans (cB g)) j3) ?_
      obtain rfl := sj f2
      refine ml kr (c1 _ _ ⟨_, (d.jv St), i2, i3, i4, i5, i6, i7, i8, i9, rfl⟩)
     refine bC B (fun a B => ?_) (fun a B => ?_)
     ·refine Xn 7 rfl rfl (cB a) b (Xn 8 rfl rfl (cB a) b (Xn 9 rfl rfl (cB a) b (Xn 10 rfl rfl (cB a) b (Xn 11 rfl rfl (cB a) b (Xn 12 rfl rfl (cB a) b (Xn 13 rfl rfl (cB a) b (Xn 14 rfl rfl (cB a) b (Xn 15 rfl rfl (cB a) b (Xg 16 rfl rfl (cB g) b (jO (cB a) rfl) ?_)))))))))
      obtain rfl := sj B
      refine ml kr (c2 _ _ ⟨_, (d.jv St), U, M, Y, Z, rfl, q, eN, s, rfl, rfl⟩)
     refine Xg 7 rfl rfl (cB a) b (jz M) (Xg 8 rfl rfl (cB a) b (jz M) (Xg 9 rfl rfl (cB a) b (oE aH rfl J) (Xg 10 rfl rfl (cB a) b (kh rfl rfl rfl) (bS B fun e2 b0 B => qL 11 rfl kr (.inr ⟨6, false, 20, rfl, rfl, by decide, (cB a)⟩) rfl dc (fun _ _ h => h) b (oT (i := (wi0 .i64 ((a3.length : Int) - 1))) (x0 := e2) aH aN rfl rfl J (kk b0) (kj b0)) (fun l0 f4 => sZ 12 rfl rfl (cB a) b (fun _ n => jx rfl (uL n (fun p hq => (Mt (Mt (Ml hq)))) J kc f4 (kj b0) bQ aN)) (sZ 13 rfl rfl (cB a) b (fun _ n => jx rfl (jD n Mh (jw c) rfl bQ aN)) (bS B fun l2 f7 B => BG 14 rfl rfl (cB a) (Eg d call32 (Bx e2 c _ _  f7) (fun k8 d => ?_)))))))))
     have b := d.has.jv (Kb (Kb (Kr Sn)))
     refine ⟨b, (Xg 15 rfl rfl (cB a) b (kh rfl rfl rfl) (Xg 16 rfl rfl (cB g) b (jP (cB a) rfl) ?_))⟩
     obtain rfl := sj B
     refine ml kr (c2 _ _ ⟨_, (d.jv St), U, M, Y, Z, rfl, q, eN, s, rfl, rfl⟩)
    refine Xn 3 rfl rfl (cB g) b (Xn 4 rfl rfl (cB g) b (Xn 5 rfl rfl (cB g) b (Xn 6 rfl rfl (cB g) b (Xu 7 rfl rfl rfl b (Xu 8 rfl rfl rfl b (Xu 9 rfl rfl rfl b (Xu 10 rfl rfl rfl b (Xu 11 rfl rfl rfl b (Xu 12 rfl rfl rfl b (Xu 13 rfl rfl rfl b (Xu 14 rfl rfl rfl b (Xu 15 rfl rfl rfl b (Xn 16 rfl rfl (cB g) b (X 17 rfl b (jP (cB g) rfl) ?_))))))))))))))
    obtain rfl := sj T
    refine ml kr (c1 _ _ ⟨_, (d.jv St), U, M, Y, Z, rfl, q, eN, s, rfl⟩)
   rintro E W ⟨G, y, b1, ⟨s, eN⟩, d, U, M, Y, Z, q, z⟩
   rw [aM] at z
   refine jH ?_
   obtain rfl := sj z
   exact ⟨_, (d.jv St), U, M, Y, Z⟩
  rintro ⟨l3, a4⟩ E W ⟨c6, d, g3, d2, g4, g7⟩ H
  refine jL (sg (Wh g7 (V (nt rfl) (ln (CI H rfl (fun e5 H => ?_) (fun e5 H => ?_))))))
  ·refine sg (Wh d2 (Wa (ln ?_)))
   replace d := d.jv (Db St)
   refine ke (ki (mc (ki (mc (ki ?_)))))
   obtain rfl := sj H
   exact lj (v := x) rfl rfl ⟨_, u, rfl, d.oa (fun p hq => (Ml hq)) J.nd, J⟩
  refine kn (jG (Wh d2 (V (jx g4 (jD d.has Mh (jw a4) rfl bQ aN)) (VE (jY (cs := (jw a4).toArray) d (lM rfl) (mf aH aN cK) (fun k1 g1 d => ?_))))))
  replace d := d.perm (Nr (Qb (Qb Qz)) Nz)
  refine bS H fun j4 e6 H => VE (mR (enc := jw) (v := x) (vs := (.slice (some ⟨g1, 0, none⟩) 1 1)) (R := u) d kc dc mH aH lh.1 lh.2.1 rfl lh.2.2.1 lh.2.2.2 rfl rfl J (Sl.lit (enc := jw) (l := [a4]) kc rfl nb rfl (d.at_ (Ma Mh))) e6 (fun k2 j7 g0 d e4 => Wa (jT (kl (jH ?_)))))
  replace d := d.jv (Kr (Db (Db St)))
  exact ⟨j5, bn _, j7, j4, g0, _, (d.jv St), g3, rfl, e4, H⟩
theorem Kt (x : Value) (a0 r : List ByteArray) (w : World) (c0 : Sl (Pl tj) 1 (hp w) x a0) (hm : zu a0 = some r) :
  lC true pg0 87 [x] w 9 tj 1 r := by
 refine wm 48 func87 rfl (fun b => sg (Wa (lr (Wa (ln (re (lz (mX (fun m E W => ∃ u a2 j c1, ST true kw w W (hp w) (j ++ c1) ∧ E 0 = x ∧ E 3 = u ∧ jV 9 tj 1 u a2 j ∧ tK a0 m a2 = some r) kd ⟨(.slice none 0 0), ([]), [], _, (b.jv St), rfl, rfl, (jV.nil _ _ _), hm⟩ ?_))))))))
 rintro m E W ⟨u, a2, j, c1, b, c7, f6, G, Z⟩
 cases m with
 | zero => rw [tK] at Z; cases Z
 | succ i3 =>
  refine bg (Wa (lS (Wh c7 (V (kK dn rfl c0) (Wm (ln (CJ Z (fun b7 E W => ∃ c2, ST true kw w W (hp w) (j ++ c2) ∧ E 0 = x ∧ E 3 = u ∧ E 4 = (.string b7)) (fun b7 e5 => ?_) ?_)))))))
  ·refine kA (fun i E W => ∃ z s, (E 9 = .int .i64 (i : Nat) ∧ E 8 = .int .i64 (a0.length : Nat)) ∧ ST true kw w W (hp w) (j ++ s) ∧ E 0 = x ∧ E 3 = u ∧ E 4 = (.string z) ∧ E 7 = x ∧ rW a2 (a0.drop i) z = some b7) a0.length c0.len ⟨zS, _, ⟨rfl, rfl⟩, (b.jv St), c7, f6, rfl, rfl, e5⟩ dc dc dc (fun _ _ _ h => by obtain ⟨_, _, a6, _⟩ := h; exact a6) ?_ ?_
   ·rintro d E W e4 ⟨z, s, ⟨n, q⟩, b, Q, H, T, U, t⟩
    obtain ⟨I, i7, f3, f2, b9⟩ := ku e4
    rw [f3] at t
    refine bg (VQ (mZ (enc := tj) (i := (d : Int)) (x0 := I) dn fw U n c0 (aG _) f2) (fun j3 e9 => V (jx rfl (ni b.has (y := (.string I)) e9 bV)) (Wa (lr (Wm (bS t fun i4 f1 t => VE (Eg b call55 (vP I _ _  f1) (fun j0 b => Wm (LJ t (fun d7 E W => ∃ c3, ST true kw w W (hp w) (j ++ c3) ∧ E 0 = x ∧ E 3 = u ∧ E 4 = (.string z) ∧ E 6 = (.string I) ∧ E 7 = x ∧ E 8 = (.int .i64 (a0.length : Int)) ∧ E 9 = (.int .i64 (d : Int)) ∧ E 29 = (.bool d7)) 14 ?_ (fun d7 N a9 => ?_))))))))))
    ·rintro i6 E W ⟨c3, b, L, O, Y, a3, P, b5, b6, f8⟩ e6
     refine Wh f8 (LJ e6 (fun d5 E W => ∃ c4, ST true kw w W (hp w) (j ++ c4) ∧ E 0 = x ∧ E 3 = u ∧ E 4 = (.string z) ∧ E 6 = (.string I) ∧ E 7 = x ∧ E 8 = (.int .i64 (a0.length : Int)) ∧ E 9 = (.int .i64 (d : Int)) ∧ E 38 = (.bool d5)) 8 ?_ (fun d5 K a7 => ?_))
     ·rintro j5 E W ⟨c4, b, d0, d1, f9, g0, d2, d3, d4, g1⟩ J
      refine ln (CI J g1 (fun e3 J => ?_) (fun e3 J => ?_))
      ·exact jG (Wh g0 (Wa (jT (kl (jH ⟨d4, I, _, ⟨rfl, d3⟩, (b.jv St), d0, d1, rfl, d2, (by rw [b9]; exact J)⟩)))))
      exact kQ (kl (jH ⟨d4, z, _, ⟨rfl, d3⟩, (b.jv St), d0, d1, f9, d2, (by rw [b9]; exact J)⟩))
     refine bC K (fun g K => ?_) (fun g K => ?_)
     ·refine ug g (jz Y) (ug g (rB rfl rfl rfl) (ug g (jz rfl) (LJ K (fun d6 E W => ∃ c5, ST true kw w W (hp w) (j ++ c5) ∧ E 0 = x ∧ E 3 = u ∧ E 4 = (.string z) ∧ E 6 = (.string I) ∧ E 7 = x ∧ E 8 = (.int .i64 (a0.length : Int)) ∧ E 9 = (.int .i64 (d : Int)) ∧ E 30 = (.bool i6) ∧ E 37 = (.bool d6)) 4 ?_ (fun d6 M a8 => ?_))))
      ·rintro j6 E W ⟨c5, b, g2, g3, g4, g7, g8, g9, h0, h1, h2⟩ e7
       refine V (jO (h1.trans (cB g)) h2) ?_
       obtain rfl := sj e7
       exact a7 _ _ ⟨_, (b.jv St), g2, g3, g4, g7, g8, g9, h0, rfl⟩
      refine bC M (fun k M => ?_) (fun k M => ?_)
      ·refine un k (un k (un k (ug g (jO (cB k) rfl) ?_)))
       obtain rfl := sj M
       exact a8 _ _ ⟨_, (b.jv St), L, O, Y, a3, P, b5, b6, rfl, rfl⟩
      refine ug k (jz a3) (ug k (jz Y) (ug k (rB rfl rfl rfl) (ug g (jP (cB k) rfl) ?_)))
      obtain rfl := sj M
      exact a8 _ _ ⟨_, (b.jv St), L, O, Y, a3, P, b5, b6, rfl, rfl⟩
     refine un g (un g (un g (Vu rfl rfl (Vu rfl rfl (Vu rfl rfl (un g (V (jP (cB g) rfl) ?_)))))))
     obtain rfl := sj K
     exact a7 _ _ ⟨_, (b.jv St), L, O, Y, a3, P, b5, b6, rfl⟩
    refine bC N (fun c N => ?_) (fun c N => ?_)
    ·refine ug c (jz H) (ug c (oE dn rfl G) (ug c (kh rfl rfl rfl) (ug c (jz rfl) (LJ N (fun d8 E W => ∃ c6, ST true kw w W (hp w) (j ++ c6) ∧ E 0 = x ∧ E 3 = u ∧ E 4 = (.string z) ∧ E 6 = (.string I) ∧ E 7 = x ∧ E 8 = (.int .i64 (a0.length : Int)) ∧ E 9 = (.int .i64 (d : Int)) ∧ E 15 = (.bool i4) ∧ E 28 = (.bool d8)) 9 ?_ (fun d8 D b0 => ?_)))))
     ·rintro j7 E W ⟨c6, b, h3, h4, h5, h6, h7, h8, h9, i0, i1⟩ e8
      refine V (jO (i0.trans (cB c)) i1) ?_
      obtain rfl := sj e8
      exact a9 _ _ ⟨_, (b.jv St), h3, h4, h5, h6, h7, h8, h9, rfl⟩
     refine bC D (fun a D => ?_) (fun a D => ?_)
     ·refine un a (un a (un a (un a (un a (un a (un a (un a (ug c (jO (cB a) rfl) ?_))))))))
      obtain rfl := sj D
      exact b0 _ _ ⟨_, (b.jv St), Q, H, T, rfl, U, q, n, rfl, rfl⟩
     refine ug a (jz rfl) (ug a (jz H) (ug a (jz H) (ug a (oE dn rfl G) (ug a (kh rfl rfl rfl) (bS D fun d9 a5 D => TS a (oT (i := (wi0 .i64 ((a2.length : Int) - 1))) (x0 := d9) dn fw rfl rfl G (kk a5) (kj a5)) (fun j4 f0 => ug a (jx rfl (CH b.has (fun p hq => (Ml hq)) G (fun _ => rfl) f0 (kj a5) (y := (.string d9)) rfl bV)) (ug a (rB rfl rfl rfl) (ug c (jP (cB a) rfl) ?_))))))))
     obtain rfl := sj D
     exact b0 _ _ ⟨_, (b.jv St), Q, H, T, rfl, U, q, n, rfl, rfl⟩
    refine un c (un c (un c (un c (Vu rfl rfl (Vu rfl rfl (Vu rfl rfl (Vu rfl rfl (Vu rfl rfl (Vu rfl rfl (Vu rfl rfl (Vu rfl rfl (un c (V (jP (cB c) rfl) ?_)))))))))))))
    obtain rfl := sj N
    exact a9 _ _ ⟨_, (b.jv St), Q, H, T, rfl, U, q, n, rfl⟩
   rintro E W ⟨z, s, ⟨n, q⟩, b, Q, H, T, U, t⟩
   rw [aM] at t
   refine jH ?_
   obtain rfl := sj t
   exact ⟨_, (b.jv St), Q, H, T⟩
  rintro a4 E W ⟨c2, b, f7, c8, c9⟩ B
  refine jL (sg (Wh c9 (V (rB rfl rfl rfl) (ln (CI B rfl (fun e1 B => ?_) (fun e1 B => ?_))))))
  ·refine sg (Wh c8 (Wa (lt (ki (mc (ki (mc (ki ?_))))))))
   obtain rfl := sj B
   exact lj (v := u) rfl rfl ⟨_, j, rfl, b.oa (fun p hq => (Ml hq)) G.nd, G⟩
  refine kn (jG (Wh c8 (Wh c9 (VE (jY (cs := [(.string a4)].toArray) b (lM rfl) (mf dn fw zeroValue9) (fun i8 f5 b => ?_))))))
  replace b := b.perm (Nr (Qb Qz) Nz)
  refine bS B fun i2 e2 B => VE (mR (enc := tj) (v := u) (vs := (.slice (some ⟨f5, 0, none⟩) 1 1)) (R := j) b (fun _ => rfl) dc Ms dn BJ.1 BJ.2.1 rfl BJ.2.2.1 BJ.2.2.2 rfl rfl G (Sl.lit (enc := tj) (l := [a4]) (fun _ => rfl) rfl nb rfl (b.at_ (Ma Mh))) e2 (fun i9 i5 f4 b e0 => Wa (jT (kl (jH ?_)))))
  replace b := b.jv (Kr (Db St))
  exact ⟨i3, bn _, i5, i2, f4, _, (b.jv St), f7, rfl, e0, B⟩
theorem IE (B : Value) (G : List js) (r : List ByteArray) (w : World) (y : Sl (Pl jw) 9 (hp w) B G) (hm : xM G = some r) :
  lC true pg0 63 [B] w 9 tj 1 r := by
 refine wm 29 func63 rfl (fun d => sg (Wa (lr (Wa (lS (Wm ?_))))))
 refine V (kK aH rfl y) (Wm (ln (kA (fun i E W => ∃ g k j t, (E 8 = .int .i64 (i : Nat) ∧ E 7 = .int .i64 (G.length : Nat)) ∧ ST true kw w W (hp w) (j ++ t) ∧ E 3 = g ∧ E 6 = B ∧ jV 9 tj 1 g k j ∧ rZ (G.drop i) k = some r) G.length y.len ⟨(.slice none 0 0), ([]), [], _, ⟨rfl, rfl⟩, (d.jv St), rfl, rfl, (jV.nil _ _ _), hm⟩ dc dc dc (fun _ _ _ h => by obtain ⟨_, _, _, _, n, _⟩ := h; exact n) ?_ ?_)))
 ·rintro a5 E W T ⟨g, k, j, t, ⟨m, L⟩, d, u, x, z, c⟩
  obtain ⟨a, b4, Y, U, Z⟩ := ku T
  rw [Y] at c
  refine bg (VQ (mZ (enc := jw) (i := (a5 : Int)) (x0 := a) aH aN x m y (aG _) U) (fun b2 J => V (jx rfl (jS d.has J bQ aN)) (VE (jU d cK (fun P b1 d => VO (jK (.agg (jw a).toArray) ((jw a).toArray) d rfl rfl aN (mH a) nb rfl (fun a7 d => ln (jG (Wh u (Wf wH (VB d Mh rfl rfl bV (Wf qN (Wf pn ?_)))))))))))))
  refine VB d Mh rfl rfl bV (Wf nz (Wf pn (VB d Mh rfl rfl bV (Wf sE (Wf pn (VB d Mh rfl rfl bV (VE (jY (cs := #[(.string a.kE), (.string a.Head.ju), (.string a.B.ju), (.string a.C.ju)]) d (Rh rfl rfl rfl rfl) (mf dn fw zeroValue9) (fun a8 Q d => ?_)))))))))
  replace d := d.perm (Nr (Qb (Qb Qz)) Nz)
  refine bS c fun O I c => VE (mR (enc := tj) (v := g) (vs := (.slice (some ⟨Q, 0, none⟩) 4 4)) (R := j) d (fun _ => rfl) dc Ms dn BJ.1 BJ.2.1 rfl BJ.2.2.1 BJ.2.2.2 rfl rfl z (Sl.lit (enc := tj) (l := [a.kE, a.Head.ju, a.B.ju, a.C.ju]) (fun _ => rfl) rfl nb rfl (d.at_ (Ma Mh))) I (fun a9 a2 M d H => Wa (jT (kl (jH ?_)))))
  replace d := d.jv (Kr (Db (Db St)))
  exact ⟨m, a2, O, M, _, ⟨rfl, L⟩, (d.jv St), rfl, x, H, (by rw [Z]; exact c)⟩
 rintro E W ⟨g, k, j, t, ⟨m, L⟩, d, u, x, z, c⟩
 rw [aM] at c
 refine jH (sg (Wh u (bS c fun b3 K c => VE (rH d call87 (Kt g k _ _ (z.sl (fun _ => rfl) (fun b o s => d.at_ (Ml s))) K) (fun b0 a3 b5 N d a4 q D => Wa (ln ?_))))))
 replace d := d.jv (Kr (Dr St))
 refine ke ?_
 obtain rfl := sj c
 exact lj (v := a3) rfl rfl ⟨_, N, rfl, d.oa (fun p s => (Ml s)) D.nd, D⟩
theorem wS (y : Value) (H : List jM) (z : jr) (J : ByteArray) (r : Bool) (w : World) (G : Sl (Pl kq) 3 (hp w) y H) (hm : uE H z J = some r) :
  jZ true pg0 64 [y, (.agg (jA z).toArray), (.string J)] w (.bool r) := by
 refine cG 26 func64 rfl (fun b => sg (VE (kv b rfl (fun W2 M b => Wa (lS (Wm (V (kK cU rfl G) (Wm (ln ?_)))))))))
 refine kA (fun i E W => ∃ D, (E 11 = .int .i64 (i : Nat) ∧ E 10 = .int .i64 (H.length : Nat)) ∧ ST true kw w W (hp w) ((M, Ol (jA z) 27) :: D) ∧ E 2 = (.string J) ∧ E 4 = (.pointer (some ⟨M, 0, none⟩)) ∧ E 9 = y ∧ vJ z J (H.drop i) = some r) H.length G.len ⟨_, ⟨rfl, rfl⟩, (b.jv St), rfl, rfl, rfl, hm⟩ dc dc dc (fun _ _ _ h => by obtain ⟨_, l, _⟩ := h; exact l) ?_ ?_
 ·rintro T E W n ⟨D, ⟨d, m⟩, b, t, u, x, c⟩
  obtain ⟨k, R, q, p, a9⟩ := ku n
  rw [q] at c
  refine bg (VQ (mZ (enc := kq) (i := (T : Int)) (x0 := k) cU du x d G (aG _) p) (fun O Q => V (jx rfl (jS b.has Q gE du)) (VE (jU b eP (fun s L b => VO (jK (.agg (kq k).toArray) ((kq k).toArray) b rfl rfl du (zf k) nb rfl (fun v b => lr (Wf xj (VA b Mh (jA k.jr) bG aS (V (jx u (jD b.has (Mt Mh) (jA z) rfl bG aS)) (V (uT rfl rfl (nl dS) (rh (pG _ k.jr z))) ?_)))))))))))
  refine Wm (LJ c (fun K E W => ∃ I, ST true kw w W (hp w) ((M, Ol (jA z) 27) :: I) ∧ E 2 = (.string J) ∧ E 4 = (.pointer (some ⟨M, 0, none⟩)) ∧ E 9 = y ∧ E 10 = (.int .i64 (H.length : Int)) ∧ E 11 = (.int .i64 (T : Int)) ∧ E 24 = (.bool K)) 5 ?_ (fun K j B => ?_))
  ·rintro P E W ⟨I, b, U, Y, Z, a3, a4, a5⟩ g
   refine ln (CI g a5 (fun N g => ?_) (fun N g => ?_))
   ·refine sg (Wa (ln ?_))
    replace b := b.jv (Db St)
    refine ke (mc (ki (mc (ki ?_))))
    obtain rfl := sj g
    exact rP b
   exact kQ (kl (jH ⟨a4, _, ⟨rfl, a3⟩, (b.jv St), U, Y, Z, (by rw [a9]; exact g)⟩))
  refine bC j (fun a j => ?_) (fun a j => ?_)
  ·refine ug a (jE vY rfl) (ug a (jx rfl (jJ b.has Mh rfl bV)) (ug a (jz t) (ug a (rB rfl rfl rfl) (V (jO (cB a) rfl) ?_))))
   obtain rfl := sj j
   exact B _ _ ⟨_, (b.jv (Db St)), t, u, x, m, d, rfl⟩
  refine un a (un a (un a (un a (V (jP (cB a) rfl) ?_))))
  obtain rfl := sj j
  exact B _ _ ⟨_, (b.jv (Db St)), t, u, x, m, d, rfl⟩
 rintro E W ⟨D, ⟨d, m⟩, b, t, u, x, c⟩
 rw [aM] at c
 refine jH ?_
 replace b := b.jv (Db St)
 exact sg (Wa (lt (rQ c b)))
theorem JP (k : Value) (M : List jM) (t : js) (K : Value) (Y : List ByteArray) (H : ByteArray) (r : Bool) (w : World) (G : Sl (Pl kq) 3 (hp w) k M) (T : Sl (Pl tj) 1 (hp w) K Y) (hm : yR M t Y H = some r) :
  jZ true pg0 65 [k, (.agg (jw t).toArray), K, (.string H)] w (.bool r) := by
 refine cG 62 func65 rfl (fun b => sg (VE (kv b rfl (fun W2 d b => Wa (lS (Wf qC (VB b Mh rfl rfl bR (Wi rfl (ln ?_)))))))))
 refine CI hm rfl (fun d0 hm => ?_) (fun d0 hm => ?_)
 ·refine sg (Wf wH (VB b Mh rfl rfl bV (Wm (V (rB rfl rfl rfl) (Wa (ln ?_))))))
  replace b := b.jv (Db St)
  refine ke (ki ?_)
  obtain rfl := sj hm
  exact rP b
 refine kS (Wf qC (VB b Mh rfl rfl bR (Wi rfl (ln (CI hm rfl (fun d1 hm => ?_) (fun d1 hm => ?_))))))
 ·refine sg (Wm (Wf nz (VA b Mh (jA t.B) bG aS (Wm (bS hm fun r5 d3 hm => VE (Eg b call64 (wS k M t.B H _ _ (G.mono (Pl.mono _) b.jF) d3) (fun W7 b => Wa (ln ?_))))))))
  replace b := b.jv (Db St)
  refine ke (ki ?_)
  obtain rfl := sj hm
  exact rP b
 refine kS (Wf qC (VB b Mh rfl rfl bR (Wi rfl (ln (CI hm rfl (fun d2 hm => ?_) (fun d2 hm => ?_))))))
 ·refine sg (Wm (Wf nz (VA b Mh (jA t.B) bG aS (Wm (bS hm fun r9 c7 hm => VE (Eg b call64 (wS k M t.B H _ _ (G.mono (Pl.mono _) b.jF) c7) (fun e1 b => Wm (LJ hm (fun q E W => ∃ p, ST true kw w W (hp w) p ∧ E 8 = (.bool false) ∧ E 40 = (.bool q)) 6 ?_ (fun q u U => ?_)))))))))
  ·rintro e5 E W ⟨p, b, e3, c9⟩ c6
   refine Wg c9 (lt (ki ?_))
   obtain rfl := sj c6
   exact rP b
  refine bC u (fun c u => ?_) (fun c u => ?_)
  ·refine ug c (jz rfl) (ug c (jE sE rfl) (ug c (jx rfl (jD b.has Mh (jA t.C) rfl bG aS)) (ug c (jz rfl) (bS u fun e4 c8 u => tM c (Eg b call64 (wS k M t.C H _ _ (G.mono (Pl.mono _) b.jF) c8) (fun e2 b => V (jO (cB c) rfl) ?_))))))
   obtain rfl := sj u
   exact U _ _ ⟨_, (b.jv (Db St)), rfl, rfl⟩
  refine un c (un c (un c (un c (un c (V (jP (cB c) rfl) ?_)))))
  obtain rfl := sj u
  exact U _ _ ⟨_, (b.jv (Db St)), rfl, rfl⟩
 refine kS (Wm (V (kK dn rfl T) (Wm (ln (kA (fun i E W => ∃ Q, (E 43 = .int .i64 (i : Nat) ∧ E 42 = .int .i64 (Y.length : Nat)) ∧ ST true kw w W (hp w) ((d, Ol (jw t) 49) :: Q) ∧ E 0 = k ∧ E 3 = (.string H) ∧ E 5 = (.pointer (some ⟨d, 0, none⟩)) ∧ E 41 = K ∧ uA M t H (Y.drop i) = some r) Y.length T.len ⟨_, ⟨rfl, rfl⟩, (b.jv St), rfl, rfl, rfl, rfl, hm⟩ dc dc dc (fun _ _ _ h => by obtain ⟨_, m, _⟩ := h; exact m) ?_ ?_)))))
 ·rintro a4 E W L ⟨Q, ⟨l, n⟩, b, B, I, D, J, g⟩
  obtain ⟨z, d4, b4, R, b5⟩ := ku L
  rw [b4] at g
  refine bg (VQ (mZ (enc := tj) (i := (a4 : Int)) (x0 := z) dn fw J l T (aG _) R) (fun d7 a9 => V (jx rfl (ni b.has (y := (.string z)) a9 bV)) (Wa (lr (Wh B (V (jE nz D) (VA b Mh (jA t.B) bG aS (Wm (bS g fun d8 O g => ?_)))))))))
  refine VE (Eg b call64 (wS k M t.B z _ _ (G.mono (Pl.mono _) b.jF) O) (fun d5 b => Wm (LJ g (fun a5 E W => ∃ Z, ST true kw w W (hp w) ((d, Ol (jw t) 49) :: Z) ∧ E 0 = k ∧ E 3 = (.string H) ∧ E 5 = (.pointer (some ⟨d, 0, none⟩)) ∧ E 41 = K ∧ E 42 = (.int .i64 (Y.length : Int)) ∧ E 43 = (.int .i64 (a4 : Int)) ∧ E 60 = (.bool a5)) 8 ?_ (fun a5 j N => ?_))))
  ·rintro e0 E W ⟨Z, b, b9, c0, c1, c2, c3, c4, c5⟩ x
   refine ln (CI x c5 (fun s x => ?_) (fun s x => ?_))
   ·refine sg (Wa (ln ?_))
    replace b := b.jv (Db St)
    refine ke (mc (ki (mc (ki ?_))))
    obtain rfl := sj x
    exact rP b
   exact kQ (kl (jH ⟨c4, _, ⟨rfl, c3⟩, (b.jv St), b9, c0, c1, c2, (by rw [b5]; exact x)⟩))
  refine bC j (fun a j => ?_) (fun a j => ?_)
  ·refine ug a (jz B) (ug a (jz rfl) (ug a (jE uv D) (ug a (jx rfl (jJ b.has Mh rfl bV)) (ug a (lf (v := (.agg (jA (⟨z, t.kM⟩ : jr)).toArray)) (ov rfl rfl) (kH et dr (Jj _ dr) kr)) (ug a (jz I) (bS j fun d9 P j => tM a (Eg b call64 (wS k M (⟨z, t.kM⟩ : jr) H _ _ (G.mono (Pl.mono _) b.jF) P) (fun d6 b => V (jO (cB a) rfl) ?_))))))))
   obtain rfl := sj j
   exact N _ _ ⟨_, (b.jv St), B, I, D, J, n, l, rfl⟩
  refine un a (un a (un a (un a (un a (un a (un a (V (jP (cB a) rfl) ?_)))))))
  obtain rfl := sj j
  exact N _ _ ⟨_, (b.jv St), B, I, D, J, n, l, rfl⟩
 rintro E W ⟨Q, ⟨l, n⟩, b, B, I, D, J, g⟩
 rw [aM] at g
 refine jH ?_
 replace b := b.jv (Db St)
 exact sg (Wa (lt (rQ g b)))
theorem Ej (j k : jM) (r : Bool) (w : World) (hm : tN j k = some r) :
  jZ true pg0 88 [(.agg (kq j).toArray), (.agg (kq k).toArray)] w (.bool r) := by
 refine cG 24 func88 rfl (fun b => sg (VE (kv b rfl (fun Y d b => VE (kv b rfl (fun Z h b => Wa (lr (Wf xj (VA b (Mt Mh) (jA j.jr) bG aS (Wf xj (VA b Mh (jA k.jr) bG aS (bS hm fun N M hm => ?_))))))))))))
 refine VE (Eg b call56 (Eo j.jr k.jr _ _  M) (fun W7 b => Wm (LJ hm (fun z E W => ∃ x, ST true kw w W (hp w) x ∧ E 4 = (.bool false) ∧ E 23 = (.bool z)) 13 ?_ (fun z g t => ?_))))
 ·rintro T E W ⟨x, b, Q, H⟩ D
  exact Wg H (lt (rQ D b))
 refine bC g (fun a g => ?_) (fun a g => ?_)
 ·refine un a (un a (un a (un a (un a (un a (Vu rfl rfl (Vu rfl rfl (Vu rfl rfl (Vu rfl rfl (Vu rfl rfl (un a (V (jO (cB a) rfl) ?_))))))))))))
  obtain rfl := sj g
  exact t _ _ ⟨_, (b.jv (Db (Db St))), rfl, rfl⟩
 refine ug a (jE xj rfl) (ug a (jx rfl (jD b.has (Mt Mh) (jA j.jr) rfl bG aS)) (ug a (jE xj rfl) (ug a (jx rfl (jD b.has Mh (jA k.jr) rfl bG aS)) (ug a (uT rfl rfl (nl dS) (rh (pG _ j.jr k.jr))) (ug a (jz rfl) (LJ g (fun B E W => ∃ y, ST true kw w W (hp w) y ∧ E 4 = (.bool false) ∧ E 10 = (.bool N) ∧ E 22 = (.bool B)) 6 ?_ (fun B i u => ?_)))))))
 ·rintro U E W ⟨y, b, I, J, K⟩ G
  refine V (jP (J.trans (cB a)) K) ?_
  obtain rfl := sj G
  exact t _ _ ⟨_, (b.jv St), I, rfl⟩
 refine bC i (fun c i => ?_) (fun c i => ?_)
 ·refine ug c (jE vY rfl) (ug c (jx rfl (jJ b.has (Mt Mh) rfl bV)) (ug c (jE vY rfl) (ug c (jx rfl (jJ b.has Mh rfl bV)) (ug c (rB rfl rfl rfl) (ug a (jO (cB c) rfl) ?_)))))
  obtain rfl := sj i
  exact u _ _ ⟨_, (b.jv (Db (Db St))), rfl, rfl, rfl⟩
 refine un c (un c (un c (un c (un c (ug a (jP (cB c) rfl) ?_)))))
 obtain rfl := sj i
 exact u _ _ ⟨_, (b.jv (Db (Db St))), rfl, rfl, rfl⟩
theorem HQ (I : Value) (Q r : List jM) (w : World) (Y : Sl (Pl kq) 3 (hp w) I Q) (hm : zm Q = some r) :
  lC true pg0 66 [I] w 111 kq 3 r := by
 refine wm 56 func66 rfl (fun d => sg (Wa (lr (Wa (lS (Wm ?_))))))
 refine V (kK cU rfl Y) (Wm (ln (kA (fun i E W => ∃ y N x a9, (E 9 = .int .i64 (i : Nat) ∧ E 8 = .int .i64 (Q.length : Nat)) ∧ ST true kw w W (hp w) (x ++ a9) ∧ E 0 = I ∧ E 3 = y ∧ jV 111 kq 3 y N x ∧ oR Q (Q.drop i) N = some r) Q.length Y.len ⟨(.slice none 0 0), ([]), [], _, ⟨rfl, rfl⟩, (d.jv St), rfl, rfl, (jV.nil _ _ _), hm⟩ dc dc dc (fun _ _ _ h => by obtain ⟨_, _, _, _, n, _⟩ := h; exact n) ?_ ?_)))
 ·rintro a7 E W i6 ⟨y, N, x, a9, ⟨m, s⟩, d, b1, b2, z, D⟩
  obtain ⟨l2, l1, i7, k2, e4⟩ := ku i6
  rw [i7] at D
  refine bg (Wa (lS (Wh b1 (V (kK cU rfl Y) (Wm (ln (CJ D (fun c5 E W => ∃ c9, ST true kw w W (hp w) (x ++ c9) ∧ E 0 = I ∧ E 3 = y ∧ E 4 = (.int .i64 c5) ∧ E 8 = (.int .i64 (Q.length : Int)) ∧ E 9 = (.int .i64 (a7 : Int))) (fun c5 f5 => ?_) ?_)))))))
  ·let g5 : Value := (.int .i64 (a7 : Int))
   let a0 : Value := (.int .i64 (Q.length : Int))
   refine kA (fun i E W => ∃ B b0, (E 13 = .int .i64 (i : Nat) ∧ E 12 = .int .i64 (Q.length : Nat)) ∧ ST true kw w W (hp w) (x ++ b0) ∧ E 0 = I ∧ E 3 = y ∧ E 4 = (.int .i64 B) ∧ E 8 = a0 ∧ E 9 = g5 ∧ E 11 = I ∧ oS N Q (Q.drop i) i B = some c5) Q.length Y.len ⟨(-1), _, ⟨rfl, rfl⟩, (d.jv St), b1, b2, rfl, s, m, rfl, f5⟩ dc dc dc (fun _ _ _ h => by obtain ⟨_, _, n, _⟩ := h; exact n) ?_ ?_
   ·rintro H E W f4 ⟨B, b0, ⟨m, s⟩, d, L, J, a2, a3, a4, a5, G⟩
    let b8 : Value := (.int .i64 (H : Int))
    obtain ⟨j, j5, g7, g4, c7⟩ := ku f4
    rw [g7] at G
    refine bg (Wh m (VQ (mZ (enc := kq) (i := (H : Int)) (x0 := j) cU du a5 m Y (aG _) g4) (fun k4 f9 => V (jx rfl (jS d.has f9 gE du)) (VE (jU d eP (fun j8 Z d => Wa (VO (jK (.agg (kq j).toArray) ((kq j).toArray) d rfl rfl du (zf j) nb rfl (fun j9 d => ln (jL ?_))))))))))
    replace d := d.drew
    have b := d.has.jv (Kb (Kr Sn))
    refine kO b kp (X 0 rfl b (jz J) (X 1 rfl b (oE cU rfl z) (X 2 rfl b (kh rfl rfl rfl) (X 3 rfl b (jz rfl) (PJ G (fun e7 E W => ∃ d0, ST true kw w W (hp w) ((Z, Ol (kq j) 111) :: (x ++ d0)) ∧ E 0 = I ∧ E 3 = y ∧ E 4 = (.int .i64 B) ∧ E 5 = b8 ∧ E 6 = (.pointer (some ⟨Z, 0, none⟩)) ∧ E 8 = a0 ∧ E 9 = g5 ∧ E 11 = I ∧ E 12 = a0 ∧ E 13 = b8 ∧ E 30 = (.bool e7)) (bm 25 8191) 12 ?_ (fun e7 u c4 => ?_))))))
    ·rintro j3 E W ⟨d0, d, O, b4, T, b5, h0, b6, b7, b9, c0, c1, h1⟩ f6
     have b := d.has.jv (Kb (Kr Sn))
     refine X 13 rfl b (jz h1) (PJ f6 (fun e5 E W => ∃ d1, ST true kw w W (hp w) ((Z, Ol (kq j) 111) :: (x ++ d1)) ∧ E 0 = I ∧ E 3 = y ∧ E 4 = (.int .i64 B) ∧ E 5 = b8 ∧ E 8 = a0 ∧ E 9 = g5 ∧ E 11 = I ∧ E 12 = a0 ∧ E 13 = b8 ∧ E 42 = (.bool e5)) (bm 25 33554431) 0 ?_ (fun e5 M c2 => ?_))
     ·rintro k9 E W ⟨d1, d, d7, d8, h2, h3, d9, e0, e1, e2, e3, h4⟩ K
      refine kP kr (jH ?_)
      replace d := d.jv (Db St)
      refine CI K h4 (fun f3 K => ?_) (fun f3 K => ?_)
      ·exact jG (Wh h3 (Wa (jT (kl (jH ⟨e3, (H : Int), _, ⟨rfl, e2⟩, (d.jv St), d7, d8, rfl, d9, e0, e1, (by rw [c7]; exact K)⟩)))))
      exact kQ (kl (jH ⟨e3, B, _, ⟨rfl, e2⟩, (d.jv St), d7, d8, h2, d9, e0, e1, (by rw [c7]; exact K)⟩))
     refine bC M (fun g M => ?_) (fun g M => ?_)
     ·refine Xg 14 rfl rfl (cB g) b (jz T) (Xg 15 rfl rfl (cB g) b (kh rfl rfl rfl) (Xg 16 rfl rfl (cB g) b (jz rfl) (PJ M (fun e6 E W => ∃ d2, ST true kw w W (hp w) ((Z, Ol (kq j) 111) :: (x ++ d2)) ∧ E 0 = I ∧ E 3 = y ∧ E 4 = (.int .i64 B) ∧ E 5 = b8 ∧ E 8 = a0 ∧ E 9 = g5 ∧ E 11 = I ∧ E 12 = a0 ∧ E 13 = b8 ∧ E 31 = (.bool j3) ∧ E 41 = (.bool e6)) (bm 25 16777215) 1 ?_ (fun e6 t c3 => ?_))))
      ·rintro l0 E W ⟨d2, d, h5, h6, h7, h8, h9, i0, i1, i2, i3, i4, i5⟩ f7
       have b := d.has.jv (Kb (Kr Sn))
       refine X 24 rfl b (jO (i4.trans (cB g)) i5) ?_
       obtain rfl := sj f7
       refine ml kr (c2 _ _ ⟨_, (d.jv St), h5, h6, h7, h8, h9, i0, i1, i2, i3, rfl⟩)
      refine bC t (fun c t => ?_) (fun c t => ?_)
      ·refine Xn 17 rfl rfl (cB c) b (Xn 18 rfl rfl (cB c) b (Xn 19 rfl rfl (cB c) b (Xn 20 rfl rfl (cB c) b (Xn 21 rfl rfl (cB c) b (Xn 22 rfl rfl (cB c) b (Xg 23 rfl rfl (cB g) b (jO (cB c) rfl) ?_))))))
       obtain rfl := sj t
       refine ml kr (c3 _ _ ⟨_, (d.jv St), O, b4, T, b5, b6, b7, b9, c0, c1, rfl, rfl⟩)
      refine sZ 17 rfl rfl (cB c) b (fun _ q => jx h0 (jD q Mh (kq j) rfl gE du)) (Xg 18 rfl rfl (cB c) b (jz O) (Xg 19 rfl rfl (cB c) b (jz T) (bS t fun e8 c8 t => qL 20 rfl kr (.inr ⟨16, false, 34, rfl, rfl, by decide, (cB c)⟩) rfl dc (fun _ _ h => h) b (mZ (enc := kq) (i := B) (x0 := e8) cU du rfl rfl Y (kk c8) (kj c8)) (fun k5 g0 => sZ 21 rfl rfl (cB c) b (fun _ q => jx rfl (jS q g0 gE du)) (bS t fun k7 g2 t => BG 22 rfl rfl (cB c) (Eg d call88 (Ej j e8 _ _  g2) (fun k0 d => ?_)))))))
      have b := d.has.jv (Kb (Kr Sn))
      refine ⟨b, (Xg 23 rfl rfl (cB g) b (jP (cB c) rfl) ?_)⟩
      obtain rfl := sj t
      refine ml kr (c3 _ _ ⟨_, (d.jv St), O, b4, T, b5, b6, b7, b9, c0, c1, rfl, rfl⟩)
     refine Xn 14 rfl rfl (cB g) b (Xn 15 rfl rfl (cB g) b (Xn 16 rfl rfl (cB g) b (Xu 17 rfl rfl rfl b (Xu 18 rfl rfl rfl b (Xu 19 rfl rfl rfl b (Xu 20 rfl rfl rfl b (Xu 21 rfl rfl rfl b (Xu 22 rfl rfl rfl b (Xn 23 rfl rfl (cB g) b (X 24 rfl b (jP (cB g) rfl) ?_))))))))))
     obtain rfl := sj M
     refine ml kr (c2 _ _ ⟨_, (d.jv St), O, b4, T, b5, b6, b7, b9, c0, c1, rfl⟩)
    refine bC u (fun a u => ?_) (fun a u => ?_)
    ·refine Xn 4 rfl rfl (cB a) b (Xn 5 rfl rfl (cB a) b (Xn 6 rfl rfl (cB a) b (Xn 7 rfl rfl (cB a) b (Xn 8 rfl rfl (cB a) b (Xn 9 rfl rfl (cB a) b (Xn 10 rfl rfl (cB a) b (Xn 11 rfl rfl (cB a) b (X 12 rfl b (jO (cB a) rfl) ?_))))))))
     obtain rfl := sj u
     refine ml kr (c4 _ _ ⟨_, (d.jv St), L, J, a2, rfl, rfl, a3, a4, a5, s, m, rfl⟩)
    refine Xg 4 rfl rfl (cB a) b (jz J) (Xg 5 rfl rfl (cB a) b (jz J) (Xg 6 rfl rfl (cB a) b (oE cU rfl z) (Xg 7 rfl rfl (cB a) b (kh rfl rfl rfl) (bS u fun e9 P u => qL 8 rfl kr (.inr ⟨3, false, 21, rfl, rfl, by decide, (cB a)⟩) rfl dc (fun _ _ h => h) b (oT (i := (wi0 .i64 ((N.length : Int) - 1))) (x0 := e9) cU du rfl rfl z (kk P) (kj P)) (fun k6 g1 => sZ 9 rfl rfl (cB a) b (fun _ q => jx rfl (uL q (fun p hq => (Mt (Ml hq))) z qu g1 (kj P) gE du)) (sZ 10 rfl rfl (cB a) b (fun _ q => jx rfl (jD q Mh (kq j) rfl gE du)) (bS u fun k8 g3 u => BG 11 rfl rfl (cB a) (Eg d call88 (Ej e9 j _ _  g3) (fun k1 d => ?_)))))))))
    have b := d.has.jv (Kb (Kr Sn))
    refine ⟨b, (X 12 rfl b (jP (cB a) rfl) ?_)⟩
    obtain rfl := sj u
    refine ml kr (c4 _ _ ⟨_, (d.jv St), L, J, a2, rfl, rfl, a3, a4, a5, s, m, rfl⟩)
   rintro E W ⟨B, b0, ⟨m, s⟩, d, L, J, a2, a3, a4, a5, G⟩
   rw [aM] at G
   refine jH ?_
   obtain rfl := sj G
   exact ⟨_, (d.jv St), L, J, a2, a3, a4⟩
  rintro j0 E W ⟨c9, d, b3, d3, d4, d5, d6⟩ k
  refine sg (Wh d4 (Wi rfl (ln (CI k rfl (fun f1 k => ?_) (fun f1 k => ?_)))))
  ·refine jG (Wh d3 (Wh b3 (Wh d4 (bS k fun U c6 k => VQ (mZ (enc := kq) (i := j0) (x0 := U) cU du rfl rfl Y (kk c6) (kj c6)) (fun k3 f8 => V (jx rfl (jS d.has f8 gE du)) (VE (jY (cs := (kq U).toArray) d (lM rfl) (mf cU du eP) (fun j6 g9 d => ?_))))))))
   replace d := d.perm (Nr (Qb Qz) Nz)
   refine bS k fun i8 f2 k => VE (mR (enc := kq) (v := y) (vs := (.slice (some ⟨g9, 0, none⟩) 1 1)) (R := x) d qu dc zf cU uo.1 uo.2.1 rfl uo.2.2.1 uo.2.2.2 rfl rfl z (Sl.lit (enc := kq) (l := [U]) qu rfl nb rfl (d.at_ (Ma Mh))) f2 (fun j7 i9 g8 d f0 => Wa (jT (kl (jH ?_)))))
   replace d := d.jv (Kr (Db St))
   exact ⟨d6, i9, i8, g8, _, ⟨rfl, d5⟩, (d.jv St), b3, rfl, f0, (by rw [e4]; exact k)⟩
  exact kQ (kl (jH ⟨d6, y, N, x, _, ⟨rfl, d5⟩, (d.jv St), b3, d3, z, (by rw [e4]; exact k)⟩))
 rintro E W ⟨y, N, x, a9, ⟨m, s⟩, d, b1, b2, z, D⟩
 rw [aM] at D
 refine jH (sg (Wh b2 (Wa (lt ?_))))
 obtain rfl := sj D
 exact lj (v := y) rfl rfl ⟨_, x, rfl, d.oa (fun p hq => (Ml hq)) z.nd, z⟩
end Go.Proofs.YtjjjihkifgdhgaaGreat
