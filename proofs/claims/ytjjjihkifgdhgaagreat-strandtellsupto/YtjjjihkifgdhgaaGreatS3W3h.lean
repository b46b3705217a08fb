/- a part of a proof of StrandTells -/
import Derived.Test.YtjjjihkifgdhgaaGreatS3W2h
set_option linter.all false
namespace Go.Proofs.YtjjjihkifgdhgaaGreat
open Go.IntKind renaming wrap → wi0
open Go.Proofs.Tryz renaming prog → pg0
open Go.RowKit
set_option maxRecDepth 10000
open Tryz
theorem MJ (f8 : Value) (a0 : List js) (r : List jM) (w : World) (k8 : Sl (Pl jw) 9 (hp w) f8 a0) (hm : wV a0 = some r) :
  lC true pg0 38 [f8] w 111 kq 3 r := by
 refine wm 53 func38 rfl (fun d => sg (Wa (lr (Wm (bS hm fun r1 m0 hm => VE (rH d call15 (Fm f8 a0 _ _ (k8.mono (Pl.mono _) d.jF) m0) (fun W3 v7 ae R8 d n0 ad f3 => Wa (ln (jL ?_)))))))))
 refine jG (Wm (bS hm fun s l0 hm => VE (rH d call63 (IE v7 r1 _ _ (f3.sl kc (fun b o n => d.at_ (Ml n))) l0) (fun n2 q d7 d1 d m9 ab c8 => Wa (lr (Wa (ln (re (lz (mX (fun m E W => ∃ c0 b9 b7 d8, ST true kw w W d7 (b7 ++ (d1 ++ (R8 ++ d8))) ∧ E 3 = v7 ∧ E 4 = q ∧ E 5 = c0 ∧ jV 111 kq 3 c0 b9 b7 ∧ ul s r1 m b9 = some r) kd ⟨(.slice none 0 0), ([]), [], _, (d.jv St), rfl, rfl, rfl, (jV.nil _ _ _), hm⟩ ?_))))))))))
 rintro m E W ⟨c0, b9, b7, d8, d, e2, i3, i4, k0, Y⟩
 cases m with
 | zero => rw [ul] at Y; cases Y
 | succ k3 =>
  refine bg (Wa (lS (Wh e2 (V (oE aH rfl f3) (Wm (ln (CJ Y (fun b1 E W => ∃ T Z d9, ST true kw w W d7 (Z ++ (d1 ++ (R8 ++ d9))) ∧ E 3 = v7 ∧ E 4 = q ∧ E 5 = T ∧ E 6 = (.bool b1.2) ∧ jV 111 kq 3 T b1.1 Z) (fun b1 g8 => ?_) ?_)))))))
  ·refine kA (fun i E W => ∃ J Q H U c1, (E 17 = .int .i64 (i : Nat) ∧ E 16 = .int .i64 (r1.length : Nat)) ∧ ST true kw w W d7 (H ++ (d1 ++ (R8 ++ c1))) ∧ E 3 = v7 ∧ E 4 = q ∧ E 5 = J ∧ E 6 = (.bool U) ∧ E 15 = v7 ∧ jV 111 kq 3 J Q H ∧ vU s (r1.drop i) Q U = some b1) r1.length f3.len ⟨c0, b9, b7, false, _, ⟨rfl, rfl⟩, (d.jv St), e2, i3, i4, rfl, rfl, k0, g8⟩ dc dc dc (fun _ _ _ h => by obtain ⟨_, _, _, _, _, O, _⟩ := h; exact O) ?_ ?_
   ·rintro b0 E W g4 ⟨J, Q, H, U, c1, ⟨L, P⟩, d, c3, a3, c4, c5, c6, b5, u⟩
    obtain ⟨a, l1, h7, d4, h8⟩ := ku g4
    rw [h7] at u
    refine bg (VQ (oT (i := (b0 : Int)) (x0 := a) aH aN c6 L f3 (aG _) d4) (fun m1 h1 => V (jx rfl (uL d.has (fun p n => (Ma (Ma (Ml n)))) f3 kc h1 d4 bQ aN)) (VE (jU d cK (fun l4 a2 d => VO (jK (.agg (jw a).toArray) ((jw a).toArray) d rfl rfl aN (mH a) nb rfl (fun l5 d => lr (Wh a3 (V (oE dn rfl c8) (Wm (jT ?_)))))))))))
    let b8 : Value := (.int .i64 (r1.length : Int))
    refine jH (re (CJ u (fun b2 E W => ∃ b3 a1 e0, ST true kw w W d7 (a1 ++ (d1 ++ (R8 ++ e0))) ∧ E 3 = v7 ∧ E 4 = q ∧ E 5 = b3 ∧ E 6 = (.bool b2.2) ∧ E 15 = v7 ∧ E 16 = b8 ∧ E 17 = (.int .i64 (b0 : Int)) ∧ jV 111 kq 3 b3 b2.1 a1) (fun b2 h0 => ?_) ?_))
    ·refine kA (fun i E W => ∃ k G B K c2, (E 23 = .int .i64 (i : Nat) ∧ E 22 = .int .i64 (s.length : Nat)) ∧ ST true kw w W d7 ((a2, Ol (jw a) 49) :: (B ++ (d1 ++ (R8 ++ c2)))) ∧ E 3 = v7 ∧ E 4 = q ∧ E 5 = k ∧ E 6 = (.bool K) ∧ E 8 = (.pointer (some ⟨a2, 0, none⟩)) ∧ E 15 = v7 ∧ E 16 = b8 ∧ E 17 = (.int .i64 (b0 : Int)) ∧ E 21 = q ∧ jV 111 kq 3 k G B ∧ ur a s (s.drop i) G K = some b2) s.length c8.len ⟨J, Q, H, U, _, ⟨rfl, rfl⟩, (d.jv St), c3, a3, c4, c5, rfl, c6, P, L, rfl, b5, h0⟩ dc dc dc (fun _ _ _ h => by obtain ⟨_, _, _, _, _, O, _⟩ := h; exact O) ?_ ?_
     ·rintro f4 E W g7 ⟨k, G, B, K, c2, ⟨L, P⟩, d, a4, M, I, a5, N, a6, a7, a8, a9, D, j⟩
      obtain ⟨g, l2, h9, d5, d6⟩ := ku g7
      rw [h9] at j
      refine bg (VQ (oT (i := (f4 : Int)) (x0 := g) dn fw a9 L c8 (aG _) d5) (fun m2 h2 => V (jx rfl (CH d.has (fun p n => (Mt (Ma (Ml n)))) c8 (fun _ => rfl) h2 d5 (y := (.string g)) rfl bV)) (Wa (lr (Wh I (V (jE qN N) (VA d Mh (jA a.Head) bG aS (Wm (bS j fun m4 h4 j => ?_)))))))))
      refine VE (Eg d call64 (wS k G a.Head g _ _ (D.sl qu (fun b o n => d.at_ (Mt (Ml n)))) h4) (fun l6 d => V (nt rfl) (Wm (LJ j (fun f7 E W => ∃ e1, ST true kw w W d7 ((a2, Ol (jw a) 49) :: (B ++ (d1 ++ (R8 ++ e1)))) ∧ E 3 = v7 ∧ E 4 = q ∧ E 5 = k ∧ E 6 = (.bool K) ∧ E 8 = (.pointer (some ⟨a2, 0, none⟩)) ∧ E 10 = (.string g) ∧ E 15 = v7 ∧ E 16 = b8 ∧ E 17 = (.int .i64 (b0 : Int)) ∧ E 21 = q ∧ E 22 = (.int .i64 (s.length : Int)) ∧ E 23 = (.int .i64 (f4 : Int)) ∧ E 39 = (.bool f7)) 6 ?_ (fun f7 z c9 => ?_)))))
      ·rintro m7 E W ⟨e1, d, e4, e5, e6, j7, c7, j8, e7, e8, e9, f0, f1, f2, j9⟩ x
       refine ln (CI x j9 (fun g2 x => ?_) (fun g2 x => ?_))
       ·refine sg (Wh e6 (V (jE qN c7) (VA d Mh (jA a.Head) bG aS (Wh j8 (V (lf (v := (.agg (kq (⟨a.Head, g⟩ : jM)).toArray)) (ov rfl rfl) (kH eP eS (MG _ eS) kr)) (VE (jY (cs := (kq (⟨a.Head, g⟩ : jM)).toArray) d (lM rfl) (mf cU du eP) (fun l7 i2 d => ?_))))))))
        replace d := d.perm (Nr (Qb (Qb Qz)) Nz)
        refine bS x fun k2 g3 x => VE (mR (enc := kq) (v := k) (vs := (.slice (some ⟨i2, 0, none⟩) 1 1)) (R := B) d qu dc zf cU uo.1 uo.2.1 rfl uo.2.2.1 uo.2.2.2 rfl rfl D (Sl.lit (enc := kq) (l := [(⟨a.Head, g⟩ : jM)]) qu rfl nb rfl (d.at_ (Ma Mh))) g3 (fun l8 k5 i1 d g0 => Wa (ln ?_)))
        replace d := d.jv (Kr (Db St))
        exact jG (Wa (jT (kl (jH ⟨f2, k5, k2, i1, true, _, ⟨rfl, f1⟩, (d.jv (Sb (Pr Pz) St)), e4, e5, rfl, rfl, c7, e7, e8, e9, f0, g0, (by rw [d6]; exact x)⟩))))
       exact kQ (kl (jH ⟨f2, k, G, B, K, _, ⟨rfl, f1⟩, (d.jv St), e4, e5, e6, j7, c7, e7, e8, e9, f0, D, (by rw [d6]; exact x)⟩))
      refine bC z (fun c z => ?_) (fun c z => ?_)
      ·refine ug c (jz I) (ug c (jx N (jD d.has Mh (jw a) rfl bQ aN)) (ug c (jz M) (ug c (jz rfl) (bS z fun m5 h5 z => tM c (Eg d call65 (JP k G a q s g _ _ (D.sl qu (fun b o n => d.at_ (Mt (Ml n)))) (c8.sl (fun _ => rfl) (fun b o n => d.at_ (Mt (Ma (Ml n))))) h5) (fun l9 d => V (jO (cB c) rfl) ?_))))))
       obtain rfl := sj z
       exact c9 _ _ ⟨_, (d.jv St), a4, M, I, a5, N, rfl, a6, a7, a8, a9, P, L, rfl⟩
      refine un c (un c (un c (un c (un c (V (jP (cB c) rfl) ?_)))))
      obtain rfl := sj z
      exact c9 _ _ ⟨_, (d.jv St), a4, M, I, a5, N, rfl, a6, a7, a8, a9, P, L, rfl⟩
     rintro E W ⟨k, G, B, K, c2, ⟨L, P⟩, d, a4, M, I, a5, N, a6, a7, a8, a9, D, j⟩
     rw [aM] at j
     refine jH ?_
     obtain rfl := sj j
     exact ⟨k, B, _, (d.jv (Db St)), a4, M, I, a5, a6, a7, a8, D⟩
    rintro ⟨k1, k6⟩ E W ⟨b3, a1, e0, d, i8, i9, j0, j3, j4, j5, j6, h6⟩ g9
    exact kl (jH ⟨j6, b3, k1, a1, k6, _, ⟨rfl, j5⟩, (d.jv St), i8, i9, j0, j3, j4, h6, (by rw [h8]; exact g9)⟩)
   rintro E W ⟨J, Q, H, U, c1, ⟨L, P⟩, d, c3, a3, c4, c5, c6, b5, u⟩
   rw [aM] at u
   refine jH ?_
   obtain rfl := sj u
   exact ⟨J, H, _, (d.jv St), c3, a3, c4, c5, b5⟩
  rintro ⟨f5, m6⟩ E W ⟨T, Z, d9, d, i5, i6, e3, i7, d3⟩ t
  refine sg (Wh i7 (V (nt rfl) (ln (CI t rfl (fun g1 t => ?_) (fun g1 t => ?_)))))
  ·refine sg (Wh e3 (bS t fun m3 h3 t => VE (rH d call66 (HQ T f5 _ _ (d3.sl qu (fun b o n => d.at_ (Ml n))) h3) (fun l3 k4 m8 i0 d k9 aa d2 => Wa (ln ?_)))))
   replace d := d.jv (Kr (Dr (Dr (Dr St))))
   refine ke (mc (ki (mc (ki ?_))))
   obtain rfl := sj t
   exact lj (v := k4) rfl rfl ⟨_, i0, rfl, d.oa (fun p n => (Ml n)) d2.nd, d2⟩
  exact kQ (kl (jH ⟨k3, bn _, T, f5, Z, _, (d.jv St), i5, i6, e3, d3, t⟩))
theorem Iv (D : Value) (G : List jM) (I : ByteArray) (r : List jr) (w : World) (B : Sl (Pl kq) 3 (hp w) D G) (hm : vH G I = some r) :
  lC true pg0 37 [D, (.string I)] w 27 jA 2 r := by
 refine wm 25 func37 rfl (fun b => sg (Wa (lr (Wa (lS (Wm ?_))))))
 refine V (kK cU rfl B) (Wm (ln (kA (fun i E W => ∃ k y g z, (E 10 = .int .i64 (i : Nat) ∧ E 9 = .int .i64 (G.length : Nat)) ∧ ST true kw w W (hp w) (g ++ z) ∧ E 1 = (.string I) ∧ E 5 = k ∧ E 8 = D ∧ jV 27 jA 2 k y g ∧ qj I (G.drop i) y = some r) G.length B.len ⟨(.slice none 0 0), ([]), [], _, ⟨rfl, rfl⟩, (b.jv St), rfl, rfl, rfl, (jV.nil _ _ _), hm⟩ dc dc dc (fun _ _ _ h => by obtain ⟨_, _, _, _, m, _⟩ := h; exact m) ?_ ?_)))
 ·rintro a4 E W U ⟨k, y, g, z, ⟨d, n⟩, b, t, u, x, j, a⟩
  obtain ⟨c, b1, Z, Y, H⟩ := ku U
  rw [Z] at a
  refine bg (VQ (mZ (enc := kq) (i := (a4 : Int)) (x0 := c) cU du x d B (aG _) Y) (fun P N => V (jx rfl (jS b.has N gE du)) (VE (jU b eP (fun a5 a9 b => VO (jK (.agg (kq c).toArray) ((kq c).toArray) b rfl rfl du (zf c) nb rfl (fun s b => lr (Wf vY (VB b Mh rfl rfl bV (Wh t (V (rB rfl rfl rfl) ?_)))))))))))
  refine ln (CI a rfl (fun K a => ?_) (fun K a => ?_))
  ·refine jG (Wh u (Wf xj (VA b Mh (jA c.jr) bG aS (VE (jY (cs := (jA c.jr).toArray) b (lM rfl) (mf ep aS et) (fun L T b => ?_))))))
   replace b := b.perm (Nr (Qb (Qb Qz)) Nz)
   refine bS a fun a2 M a => VE (mR (enc := jA) (v := k) (vs := (.slice (some ⟨T, 0, none⟩) 1 1)) (R := g) b yt dc vZ ep vQ.1 vQ.2.1 rfl vQ.2.2.1 vQ.2.2.2 rfl rfl j (Sl.lit (enc := jA) (l := [c.jr]) yt rfl nb rfl (b.at_ (Ma Mh))) M (fun O a3 Q b J => Wa (jT (kl (jH ?_)))))
   replace b := b.jv (Kr (Db (Db St)))
   exact ⟨d, a3, a2, Q, _, ⟨rfl, n⟩, (b.jv St), t, rfl, x, J, (by rw [H]; exact a)⟩
  refine kQ (kl (jH ?_))
  replace b := b.jv (Db St)
  exact ⟨d, k, y, g, _, ⟨rfl, n⟩, (b.jv St), t, u, x, j, (by rw [H]; exact a)⟩
 rintro E W ⟨k, y, g, z, ⟨d, n⟩, b, t, u, x, j, a⟩
 rw [aM] at a
 refine jH (sg (Wh u (Wa (lt ?_))))
 obtain rfl := sj a
 exact lj (v := k) rfl rfl ⟨_, g, rfl, b.oa (fun p q => (Ml q)) j.nd, j⟩
theorem Eu (G : Formula → Option Int) (K : ∀ (j : Formula) (g : Value) (r : Int) (w : World) (c : Sl jt 5 (hp w) g j.Kids), G j = some r → jZ false pg0 127 [(.agg #[(.int .i64 j.Op), (.int .i64 j.K), (.string j.jr.ju), (.string j.jr.jy), g])] w (.int .i64 r)) (j : Formula) (g : Value) (r : Int) (w : World) (c : Sl jt 5 (hp w) g j.Kids) (hm : wI G j = some r) :
  jZ false pg0 127 [(.agg #[(.int .i64 j.Op), (.int .i64 j.K), (.string j.jr.ju), (.string j.jr.jy), g])] w (.int .i64 r) := by
 refine cG 19 func127 rfl (fun b => sg ?_)
 obtain ⟨U, Y, rfl⟩ := c.form
 refine VE (kv b rfl (fun W4 s b => Wa (lr (Wa (lS (Wf nm (VB b Mh rfl rfl dH (V (kK aD rfl c) ?_))))))))
 refine Wm (ln ?_)
 replace b := b.jv (Db St)
 refine kA (fun i E W => ∃ x z, (E 9 = .int .i64 (i : Nat) ∧ E 8 = .int .i64 (j.Kids.length : Nat)) ∧ ST false kw w W (hp w) z ∧ E 3 = (.int .i64 x) ∧ E 7 = (.slice U j.Kids.length Y) ∧ rT G (j.Kids.drop i) x = some r) j.Kids.length c.len ⟨1, _, ⟨rfl, rfl⟩, (b.jv St), rfl, rfl, hm⟩ dc dc dc (fun _ _ _ h => by obtain ⟨_, _, l, _⟩ := h; exact l) ?_ ?_
 ·rintro Z E W J ⟨x, z, ⟨d, m⟩, b, B, D, k⟩
  obtain ⟨a, q, N, M, Q⟩ := ku J
  rw [N] at k
  refine bg (VQ (lI (i := (Z : Int)) (x0 := a) jt.out aD aC D d c (aG _) M) (fun a5 ⟨_, ⟨p, rfl, y⟩, H⟩ => V (jx rfl (jS b.has H aO aC)) (VE (jU b aQ (fun n a4 b => ?_)))))
  obtain ⟨t, u, rfl⟩ := y.form
  let a0 := (C1 a.Op a.K a.jr.ju a.jr.jy t a.Kids.length u)
  refine VO (jK (.agg a0.toArray) (a0.toArray) b rfl rfl aC oc nb rfl (fun a2 b => ln (jG (Wh B (VA b Mh a0 aO aC (bS k fun T I k => VE (Eg b call127 (K a (.slice t a.Kids.length u) _ _ (y.mono jC.mono b.jF) I) (fun a3 b => Wi rfl (Wa (jT (kl (jH ?_))))))))))))
  replace b := b.jv (Db St)
  exact ⟨d, (wi0 .i64 (x + T)), _, ⟨rfl, m⟩, (b.jv St), rfl, D, (by rw [Q]; exact k)⟩
 rintro E W ⟨x, z, ⟨d, m⟩, b, B, D, k⟩
 rw [aM] at k
 exact jH (sg (Wh B (Wa (lt (rQ k b)))))
theorem DE : ∀ (n : Nat) (c : Formula) (a : Value) (r : Int) (w : World) (g : Sl jt 5 (hp w) a c.Kids) (_ : ri n c = some r),
  jZ false pg0 127 [(.agg #[(.int .i64 c.Op), (.int .i64 c.K), (.string c.jr.ju), (.string c.jr.jy), a])] w (.int .i64 r)
 | 0 => by intros; rename_i h; simp only [ri] at h; cases h
 | n + 1 => Eu (ri n) (DE n)
theorem Fj (I : Formula → Option Int) (N : ∀ (j : Formula) (g : Value) (r : Int) (w : World) (c : Sl jt 5 (hp w) g j.Kids), I j = some r → jZ false pg0 128 [(.agg #[(.int .i64 j.Op), (.int .i64 j.K), (.string j.jr.ju), (.string j.jr.jy), g])] w (.int .i64 r)) (j : Formula) (g : Value) (r : Int) (w : World) (c : Sl jt 5 (hp w) g j.Kids) (hm : xy I j = some r) :
  jZ false pg0 128 [(.agg #[(.int .i64 j.Op), (.int .i64 j.K), (.string j.jr.ju), (.string j.jr.jy), g])] w (.int .i64 r) := by
 refine cG 20 func128 rfl (fun b => sg ?_)
 obtain ⟨Y, Z, rfl⟩ := c.form
 refine VE (kv b rfl (fun W4 v b => Wa (lr (Wa (lS (Wf nm (VB b Mh rfl rfl dH (V (kK aD rfl c) ?_))))))))
 refine Wm (ln ?_)
 replace b := b.jv (Db St)
 refine kA (fun i E W => ∃ u B, (E 9 = .int .i64 (i : Nat) ∧ E 8 = .int .i64 (j.Kids.length : Nat)) ∧ ST false kw w W (hp w) B ∧ E 3 = (.int .i64 u) ∧ E 7 = (.slice Y j.Kids.length Z) ∧ sI I (j.Kids.drop i) u = some r) j.Kids.length c.len ⟨0, _, ⟨rfl, rfl⟩, (b.jv St), rfl, rfl, hm⟩ dc dc dc (fun _ _ _ h => by obtain ⟨_, _, l, _⟩ := h; exact l) ?_ ?_
 ·rintro n E W M ⟨u, B, ⟨d, m⟩, b, D, G, t⟩
  obtain ⟨a, s, T, Q, U⟩ := ku M
  rw [T] at t
  refine bg (VQ (lI (i := (n : Int)) (x0 := a) jt.out aD aC G d c (aG _) Q) (fun p ⟨_, ⟨q, rfl, z⟩, J⟩ => V (jx rfl (jS b.has J aO aC)) (VE (jU b aQ (fun a2 a5 b => ?_)))))
  obtain ⟨x, y, rfl⟩ := z.form
  let a0 := (C1 a.Op a.K a.jr.ju a.jr.jy x a.Kids.length y)
  refine VO (jK (.agg a0.toArray) (a0.toArray) b rfl rfl aC oc nb rfl (fun a3 b => ln (jG (Wh D (VA b Mh a0 aO aC (bS t fun H K t => VE (Eg b call128 (N a (.slice x a.Kids.length y) _ _ (z.mono jC.mono b.jF) K) (fun a4 b => V (NI (k := .i64) rfl rfl) (Wa (jT (kl (jH ?_))))))))))))
  replace b := b.jv (Db St)
  exact ⟨d, (if H > u then H else u), _, ⟨rfl, m⟩, (b.jv St), rfl, G, (by rw [U]; exact t)⟩
 rintro E W ⟨u, B, ⟨d, m⟩, b, D, G, t⟩
 rw [aM] at t
 exact jH (sg (Wh D (Wi rfl (Wa (lt (rQ t b))))))
theorem Eh : ∀ (n : Nat) (c : Formula) (a : Value) (r : Int) (w : World) (g : Sl jt 5 (hp w) a c.Kids) (_ : sn n c = some r),
  jZ false pg0 128 [(.agg #[(.int .i64 c.Op), (.int .i64 c.K), (.string c.jr.ju), (.string c.jr.jy), a])] w (.int .i64 r)
 | 0 => by intros; rename_i h; simp only [sn] at h; cases h
 | n + 1 => Fj (sn n) (Eh n)
set_option maxHeartbeats 4000000 in
theorem Fi (d8 : Formula → Option Bool) (i9 : ∀ (a : Formula) (x : Value) (r : Bool) (w : World) (k : Sl jt 5 (hp w) x a.Kids), d8 a = some r → jZ false pg0 129 [(.agg #[(.int .i64 a.Op), (.int .i64 a.K), (.string a.jr.ju), (.string a.jr.jy), x])] w (.bool r)) (a : Formula) (x : Value) (r : Bool) (w : World) (k : Sl jt 5 (hp w) x a.Kids) (hm : xv d8 a = some r) :
  jZ false pg0 129 [(.agg #[(.int .i64 a.Op), (.int .i64 a.K), (.string a.jr.ju), (.string a.jr.jy), x])] w (.bool r) := by
 refine cG 81 func129 rfl (fun b => sg ?_)
 obtain ⟨A1, c2, rfl⟩ := k.form
 let b8 := (C1 a.Op a.K a.jr.ju a.jr.jy A1 a.Kids.length c2)
 refine VE (kv b rfl (fun W4 H b => Wa (lr (Wf nm (VB b Mh rfl rfl dH (V (kK aD rfl k) (Wa (lS ?_))))))))
 refine Wf nn (VB b Mh rfl rfl bR (Wi rfl (ln (CI hm rfl (fun k0 hm => ?_) (fun k0 hm => ?_)))))
 ·refine sg (Wf tQ (VA b Mh (jA a.jr) bG aS (bS hm fun r6 k1 hm => VE (Eg b call54 (jZ.lG (xQ a.jr _ _  k1)) (fun W8 b => Wm (LJ hm (fun h2 E W => ∃ f9, ST false kw w W (hp w) ((H, Ol b8 30) :: f9) ∧ E 1 = (.pointer (some ⟨H, 0, none⟩)) ∧ E 2 = (.bool false) ∧ E 18 = (.bool h2)) 3 ?_ (fun h2 m c8 => ?_)))))))
  ·rintro l5 E W ⟨f9, b, j3, g7, j4⟩ i4
   refine Wh j4 (LJ i4 (fun h1 E W => ∃ g0, ST false kw w W (hp w) g0 ∧ E 2 = (.bool false) ∧ E 23 = (.bool h1)) 4 ?_ (fun h1 a5 c7 => ?_))
   ·rintro l6 E W ⟨g0, b, l4, j5⟩ i5
    refine Wg j5 (lt (ki ?_))
    obtain rfl := sj i5
    exact rP b
   refine bC a5 (fun B a5 => ?_) (fun B a5 => ?_)
   ·refine ug B (jE rG j3) (ug B (jx rfl (jJ b.has Mh rfl bR)) (ug B (kh rfl rfl rfl) (V (jO (cB B) rfl) ?_)))
    obtain rfl := sj a5
    exact c7 _ _ ⟨_, (b.jv (Db St)), g7, rfl⟩
   refine un B (un B (un B (V (jP (cB B) rfl) ?_)))
   obtain rfl := sj a5
   exact c7 _ _ ⟨_, (b.jv (Db St)), g7, rfl⟩
  refine bC m (fun a4 m => ?_) (fun a4 m => ?_)
  ·refine ug a4 (jz rfl) (ug a4 (kh rfl rfl rfl) (V (jO (cB a4) rfl) ?_))
   obtain rfl := sj m
   exact c8 _ _ ⟨_, (b.jv St), rfl, rfl, rfl⟩
  refine un a4 (un a4 (V (jP (cB a4) rfl) ?_))
  obtain rfl := sj m
  exact c8 _ _ ⟨_, (b.jv St), rfl, rfl, rfl⟩
 let a0 := (b8.toArray : Array Value)
 let d : Value := (.pointer (some ⟨H, 0, none⟩))
 refine kS (Wf nn (VB b Mh rfl rfl bR (Wi rfl (Wm (LJ hm (fun e6 E W => ∃ g1, ST false kw w W (hp w) ((H, Obj.cells a0 30 (0, 0)) :: g1) ∧ E 1 = d ∧ E 3 = (.int .i64 (a.Kids.length : Int)) ∧ E 31 = (.bool e6)) 4 ?_ (fun e6 Z c0 => ?_))))))
 ·let p : Value := (.int .i64 (a.Kids.length : Int))
  rintro l7 E W ⟨g1, b, d5, g8, j6⟩ i6
  refine Wh j6 (LJ i6 (fun e5 E W => ∃ g2, ST false kw w W (hp w) ((H, Obj.cells a0 30 (0, 0)) :: g2) ∧ E 1 = d ∧ E 3 = p ∧ E 37 = (.bool e5)) 5 ?_ (fun e5 Y b9 => ?_))
  ·rintro l8 E W ⟨g2, b, g9, d6, j7⟩ i7
   refine Wh j7 (LJ i7 (fun e4 E W => ∃ g3, ST false kw w W (hp w) ((H, Obj.cells a0 30 (0, 0)) :: g3) ∧ E 1 = d ∧ E 3 = p ∧ E 41 = (.bool e4)) 3 ?_ (fun e4 U b7 => ?_))
   ·rintro l9 E W ⟨g3, b, q, h0, j8⟩ n
    refine ln (CI n j8 (fun i3 n => ?_) (fun i3 n => ?_))
    ·refine sg (Wa (ln ?_))
     replace b := b.jv (Db St)
     refine ke (ki ?_)
     obtain rfl := sj n
     exact rP b
    refine kS (V (jE nn q) (VB b Mh rfl rfl bR (Wi rfl (Wm (LJ n (fun e3 E W => ∃ g4, ST false kw w W (hp w) ((H, Obj.cells a0 30 (0, 0)) :: g4) ∧ E 1 = d ∧ E 3 = p ∧ E 49 = (.bool e3)) 4 ?_ (fun e3 T b6 => ?_))))))
    ·rintro O E W ⟨g4, b, l, d7, j9⟩ i8
     refine Wh j9 (LJ i8 (fun d9 E W => ∃ c9, ST false kw w W (hp w) ((H, Obj.cells a0 30 (0, 0)) :: c9) ∧ E 1 = d ∧ E 69 = (.bool d9)) 19 ?_ (fun d9 K b1 => ?_))
     ·rintro l0 E W ⟨c9, b, h3, h4⟩ J
      refine ln (CI J h4 (fun e8 J => ?_) (fun e8 J => ?_))
      ·refine sg (Wa (ln ?_))
       replace b := b.jv (Db St)
       refine ke (ki ?_)
       obtain rfl := sj J
       exact rP b
      refine kS (V (jE nm h3) (VB b Mh rfl rfl dH (V (kK aD rfl k) (Wm (ln ?_)))))
      replace b := b.jv (Db St)
      refine kA (fun i E W => ∃ c1, (E 73 = .int .i64 (i : Nat) ∧ E 72 = .int .i64 (a.Kids.length : Nat)) ∧ ST false kw w W (hp w) c1 ∧ E 71 = (.slice A1 a.Kids.length c2) ∧ sP d8 (a.Kids.drop i) = some r) a.Kids.length k.len ⟨_, ⟨rfl, rfl⟩, (b.jv St), rfl, J⟩ dc dc dc (fun _ _ _ h => by obtain ⟨_, R, _⟩ := h; exact R) ?_ ?_
      ·rintro j0 E W f0 ⟨c1, ⟨P, eN⟩, b, s, j⟩
       obtain ⟨g, k2, f7, f6, f8⟩ := ku f0
       rw [f7] at j
       refine bg (VQ (lI (i := (j0 : Int)) (x0 := g) jt.out aD aC s P k (aG _) f6) (fun k7 ⟨_, ⟨k9, rfl, c6⟩, f4⟩ => V (jx rfl (jS b.has f4 aO aC)) (VE (jU b aQ (fun k3 k6 b => ?_)))))
       obtain ⟨a9, b0, rfl⟩ := c6.form
       let a2 := (C1 g.Op g.K g.jr.ju g.jr.jy a9 g.Kids.length b0)
       refine VO (jK (.agg a2.toArray) (a2.toArray) b rfl rfl aC oc nb rfl (fun k4 b => lr (VA b Mh a2 aO aC (bS j fun k8 f5 j => VE (Eg b call129 (i9 g (.slice a9 g.Kids.length b0) _ _ (c6.mono jC.mono b.jF) f5) (fun k5 b => V (nt rfl) (ln ?_)))))))
       replace b := b.jv (Db St)
       refine CI j rfl (fun e9 j => ?_) (fun e9 j => ?_)
       ·refine sg (Wa (lt (mc (ki (mc (ki ?_))))))
        obtain rfl := sj j
        exact rP b
       exact kQ (kl (jH ⟨P, _, ⟨rfl, eN⟩, (b.jv St), s, (by rw [f8]; exact j)⟩))
      rintro E W ⟨c1, ⟨P, eN⟩, b, s, j⟩
      rw [aM] at j
      exact jH (sg (Wa (lt (rQ j b))))
     refine bC K (fun u K => ?_) (fun u K => ?_)
     ·refine un u (un u (un u (un u (Vu rfl rfl (Vu rfl rfl (Vu rfl rfl (Vu rfl rfl (Vu rfl rfl (Vu rfl rfl (Vu rfl rfl (Vu rfl rfl (Vu rfl rfl (Vu rfl rfl (Vu rfl rfl ?_))))))))))))))
      refine Vu rfl rfl (Vu rfl rfl (un u (V (jO (cB u) rfl) ?_)))
      obtain rfl := sj K
      exact b1 _ _ ⟨_, (b.jv St), l, rfl⟩
     refine ug u (jE nn l) (ug u (jx rfl (jJ b.has Mh rfl bR)) (ug u (kh rfl rfl rfl) (ug u (jz rfl) (LJ K (fun e0 E W => ∃ d0, ST false kw w W (hp w) ((H, Obj.cells a0 30 (0, 0)) :: d0) ∧ E 1 = d ∧ E 50 = (.bool O) ∧ E 68 = (.bool e0)) 14 ?_ (fun e0 M b2 => ?_)))))
     ·rintro l1 E W ⟨d0, b, h5, h6, h7⟩ f1
      refine V (jP (h6.trans (cB u)) h7) ?_
      obtain rfl := sj f1
      exact b1 _ _ ⟨_, (b.jv St), h5, rfl⟩
     refine bC M (fun c M => ?_) (fun c M => ?_)
     ·refine ug c (jz d7) (ug c (kh rfl rfl rfl) (ug c (jz rfl) (LJ M (fun e2 E W => ∃ d1, ST false kw w W (hp w) ((H, Obj.cells a0 30 (0, 0)) :: d1) ∧ E 1 = d ∧ E 3 = p ∧ E 50 = (.bool O) ∧ E 54 = (.bool (a.Op == 4)) ∧ E 61 = (.bool e2)) 4 ?_ (fun e2 Q b5 => ?_))))
      ·rintro l2 E W ⟨d1, b, L, h8, d3, a3, h9⟩ f2
       refine Vg rfl (a3.trans (cB c)) (jz h9) (LJ f2 (fun e1 E W => ∃ d2, ST false kw w W (hp w) ((H, Obj.cells a0 30 (0, 0)) :: d2) ∧ E 1 = d ∧ E 50 = (.bool O) ∧ E 54 = (.bool (a.Op == 4)) ∧ E 67 = (.bool e1)) 5 ?_ (fun e1 N b4 => ?_))
       ·rintro l3 E W ⟨d2, b, i0, d4, i1, i2⟩ f3
        refine Vg rfl (d4.trans (cB u)) (jO (i1.trans (cB c)) i2) ?_
        obtain rfl := sj f3
        exact b2 _ _ ⟨_, (b.jv St), i0, d4, rfl⟩
       refine bC N (fun t N => ?_) (fun t N => ?_)
       ·refine un t (un t (un t (un t (Vg rfl (a3.trans (cB c)) (jO (cB t) rfl) ?_))))
        obtain rfl := sj N
        exact b4 _ _ ⟨_, (b.jv St), L, d3, a3, rfl⟩
       refine ug t (jE rG L) (ug t (jx rfl (jJ b.has Mh rfl bR)) (ug t (jz h8) (ug t (kh rfl rfl rfl) (Vg rfl (a3.trans (cB c)) (jP (cB t) rfl) ?_))))
       obtain rfl := sj N
       exact b4 _ _ ⟨_, (b.jv St), L, d3, a3, rfl⟩
      refine bC Q (fun y Q => ?_) (fun y Q => ?_)
      ·refine un y (un y (un y (ug c (jO (cB y) rfl) ?_)))
       obtain rfl := sj Q
       exact b5 _ _ ⟨_, (b.jv St), l, d7, rfl, rfl, rfl⟩
      refine ug y (jE rG l) (ug y (jx rfl (jJ b.has Mh rfl bR)) (ug y (kh rfl rfl rfl) (ug c (jP (cB y) rfl) ?_)))
      obtain rfl := sj Q
      exact b5 _ _ ⟨_, (b.jv St), l, d7, rfl, rfl, rfl⟩
     refine un c (un c (un c (Vu rfl rfl (Vu rfl rfl (Vu rfl rfl (un c (un c (Vu rfl rfl (Vu rfl rfl (Vu rfl rfl (Vu rfl rfl (un c (ug u (jP (cB c) rfl) ?_)))))))))))))
     obtain rfl := sj M
     exact b2 _ _ ⟨_, (b.jv St), l, rfl, rfl⟩
    refine bC T (fun G T => ?_) (fun G T => ?_)
    ·refine ug G (jE rG q) (ug G (jx rfl (jJ b.has Mh rfl bR)) (ug G (kh rfl rfl rfl) (V (jO (cB G) rfl) ?_)))
     obtain rfl := sj T
     exact b6 _ _ ⟨_, (b.jv St), q, h0, rfl⟩
    refine un G (un G (un G (V (jP (cB G) rfl) ?_)))
    obtain rfl := sj T
    exact b6 _ _ ⟨_, (b.jv St), q, h0, rfl⟩
   refine bC U (fun I U => ?_) (fun I U => ?_)
   ·refine un I (un I (V (jO (cB I) rfl) ?_))
    obtain rfl := sj U
    exact b7 _ _ ⟨_, (b.jv St), g9, d6, rfl⟩
   refine ug I (jz d6) (ug I (kh rfl rfl rfl) (V (jP (cB I) rfl) ?_))
   obtain rfl := sj U
   exact b7 _ _ ⟨_, (b.jv St), g9, d6, rfl⟩
  refine bC Y (fun z Y => ?_) (fun z Y => ?_)
  ·refine un z (un z (un z (un z (V (jO (cB z) rfl) ?_))))
   obtain rfl := sj Y
   exact b9 _ _ ⟨_, (b.jv St), d5, g8, rfl⟩
  refine ug z (jE tQ d5) (ug z (jx rfl (jD b.has Mh (jA a.jr) rfl bG aS)) (ug z (lf (v := (.agg (jA K0).toArray)) pu (kH et dr (Jj _ dr) kr)) (ug z (Hc rfl rfl (nl dS) (Cc (pG _ a.jr K0))) (V (jP (cB z) rfl) ?_))))
  obtain rfl := sj Y
  exact b9 _ _ ⟨_, (b.jv St), d5, g8, rfl⟩
 refine bC Z (fun D Z => ?_) (fun D Z => ?_)
 ·refine un D (un D (un D (V (jO (cB D) rfl) ?_)))
  obtain rfl := sj Z
  exact c0 _ _ ⟨_, (b.jv St), rfl, rfl, rfl⟩
 refine ug D (jE nn rfl) (ug D (jx rfl (jJ b.has Mh rfl bR)) (ug D (kh rfl rfl rfl) (V (jP (cB D) rfl) ?_)))
 obtain rfl := sj Z
 exact c0 _ _ ⟨_, (b.jv St), rfl, rfl, rfl⟩
theorem EB : ∀ (n : Nat) (c : Formula) (a : Value) (r : Bool) (w : World) (g : Sl jt 5 (hp w) a c.Kids) (_ : sF n c = some r),
  jZ false pg0 129 [(.agg #[(.int .i64 c.Op), (.int .i64 c.K), (.string c.jr.ju), (.string c.jr.jy), a])] w (.bool r)
 | 0 => by intros; rename_i h; simp only [sF] at h; cases h
 | n + 1 => Fi (sF n) (EB n)
theorem xX (a : Formula) (t : Value) (r : Bool) (w : World) (c : Sl jt 5 (hp w) t a.Kids) (hm : rk a = some r) :
  jZ false pg0 89 [(.agg #[(.int .i64 a.Op), (.int .i64 a.K), (.string a.jr.ju), (.string a.jr.jy), t])] w (.bool r) := by
 refine cG 15 func89 rfl (fun b => sg ?_)
 obtain ⟨u, x, rfl⟩ := c.form
 let d : Value := (.slice u a.Kids.length x)
 let a0 := (C1 a.Op a.K a.jr.ju a.jr.jy u a.Kids.length x)
 refine VE (kv b rfl (fun W4 Q b => Wa (lr (VA b Mh a0 aO aC (bS hm fun n Z hm => VE (Eg b call127 ((DE kd) a d _ _ (c.mono jC.mono b.jF) Z) (fun W7 b => Wi rfl (Wm (LJ hm (fun I E W => ∃ B, ST false kw w W (hp w) ((Q, Ol a0 30) :: B) ∧ E 1 = (.pointer (some ⟨Q, 0, none⟩)) ∧ E 2 = (.bool false) ∧ E 10 = (.bool I)) 4 ?_ (fun I j z => ?_))))))))))
 ·rintro l E W ⟨B, b, T, G, U⟩ J
  refine Wh U (LJ J (fun H E W => ∃ D, ST false kw w W (hp w) D ∧ E 2 = (.bool false) ∧ E 14 = (.bool H)) 3 ?_ (fun H i y => ?_))
  ·rintro m E W ⟨D, b, a3, Y⟩ K
   exact Wg Y (lt (rQ K b))
  refine bC i (fun g i => ?_) (fun g i => ?_)
  ·refine ug g (jx T (jD b.has Mh a0 rfl aO aC)) (bS i fun a4 M i => tM g (Eg b call129 ((EB kd) a d _ _ (c.mono jC.mono b.jF) M) (fun h b => V (jO (cB g) rfl) ?_)))
   obtain rfl := sj i
   exact y _ _ ⟨_, (b.jv (Db St)), G, rfl⟩
  refine un g (un g (V (jP (cB g) rfl) ?_))
  obtain rfl := sj i
  exact y _ _ ⟨_, (b.jv (Db St)), G, rfl⟩
 refine bC j (fun k j => ?_) (fun k j => ?_)
 ·refine ug k (jx rfl (jD b.has Mh a0 rfl aO aC)) (bS j fun a5 N j => tM k (Eg b call128 ((Eh kd) a d _ _ (c.mono jC.mono b.jF) N) (fun a2 b => ug k (kh rfl rfl rfl) (V (jO (cB k) rfl) ?_))))
  obtain rfl := sj j
  exact z _ _ ⟨_, (b.jv St), rfl, rfl, rfl⟩
 refine un k (un k (un k (V (jP (cB k) rfl) ?_)))
 obtain rfl := sj j
 exact z _ _ ⟨_, (b.jv St), rfl, rfl, rfl⟩
theorem yy (i : Formula) (g : Value) (x : Int) (r : Bool) (w : World) (c : Sl jt 5 (hp w) g i.Kids) (hm : vt i x = some r) :
  jZ true pg0 131 [(.agg #[(.int .i64 i.Op), (.int .i64 i.K), (.string i.jr.ju), (.string i.jr.jy), g]), (.int .i64 x)] w (.bool r) := by
 refine cG 15 func131 rfl (fun b => sg ?_)
 obtain ⟨B, D, rfl⟩ := c.form
 refine VE (kv b rfl (fun G H b => Wa (lr (Wf nn (VB b Mh rfl rfl bR (Wm (Wi rfl (Wm (LJ hm (fun t E W => ∃ u, ST true kw w W (hp w) u ∧ E 4 = (.bool false) ∧ E 14 = (.bool t)) 5 ?_ (fun t j k => ?_))))))))))
 ·rintro J E W ⟨u, b, I, y⟩ z
  exact Wg y (lt (rQ z b))
 refine bC j (fun a j => ?_) (fun a j => ?_)
 ·refine ug a (jE nm rfl) (ug a (jx rfl (jJ b.has Mh rfl dH)) (ug a (kK aD rfl c) (ug a (kh rfl rfl rfl) (V (jO (cB a) rfl) ?_))))
  obtain rfl := sj j
  exact k _ _ ⟨_, (b.jv (Db St)), rfl, rfl⟩
 refine un a (un a (un a (un a (V (jP (cB a) rfl) ?_))))
 obtain rfl := sj j
 exact k _ _ ⟨_, (b.jv (Db St)), rfl, rfl⟩
theorem D1 (I : Formula → Option ByteArray) (p : ∀ (a : Formula) (k : Value) (r : ByteArray) (w : World) (c : Sl jt 5 (hp w) k a.Kids), I a = some r → jZ false pg0 159 [(.agg #[(.int .i64 a.Op), (.int .i64 a.K), (.string a.jr.ju), (.string a.jr.jy), k])] w (.string r)) (a : Formula) (k : Value) (r : ByteArray) (w : World) (c : Sl jt 5 (hp w) k a.Kids) (hm : wF I a = some r) :
  jZ false pg0 159 [(.agg #[(.int .i64 a.Op), (.int .i64 a.K), (.string a.jr.ju), (.string a.jr.jy), k])] w (.string r) := by
 refine cG 44 func159 rfl (fun b => sg ?_)
 obtain ⟨A1, c2, rfl⟩ := c.form
 refine VE (kv b rfl (fun W4 m b => Wa (lr (Wf nn (VB b Mh rfl rfl bR (bS hm fun r5 b7 hm => VE (Eg b call117 (jZ.lG (vh a.Op _ _  b7)) (fun W7 b => Wa (ln (jL (jL ?_)))))))))))
 refine jG (Wf nn (VB b Mh rfl rfl bR (Wi rfl (ln (CI hm rfl (fun R hm => ?_) (fun R hm => ?_))))))
 ·refine sg (Wm (Wf tQ (VA b Mh (jA a.jr) bG aS (bS hm fun r9 a4 hm => VE (Eg b call118 (jZ.lG (xN a.jr _ _  a4)) (fun d3 b => bS hm fun d6 q hm => V (wR rfl rfl q) (Wa (ln ?_))))))))
  replace b := b.jv (Db St)
  refine ke (ki ?_)
  obtain rfl := sj hm
  exact rP b
 refine kn (jL (CJ hm (fun J E W => ∃ Y, ST false kw w W (hp w) ((m, Ol (C1 a.Op a.K a.jr.ju a.jr.jy A1 a.Kids.length c2) 30) :: Y) ∧ E 1 = (.pointer (some ⟨m, 0, none⟩)) ∧ E 3 = (.string J)) (fun J t => ?_) ?_))
 ·refine sg (Wf nn (VB b Mh rfl rfl bR (Wi rfl (ln (CI t rfl (fun K t => ?_) (fun K t => ?_))))))
  ·refine jG (Wm (Wf rG (VB b Mh rfl rfl bR (bS t fun c9 Q t => VE (Eg b call117 (jZ.lG (vh a.K _ _  Q)) (fun c5 b => bS t fun d0 U t => V (wR rfl rfl U) (Wa (ln ?_))))))))
   obtain rfl := sj t
   exact ⟨_, (b.jv St), rfl, rfl⟩
  refine kn ?_
  obtain rfl := sj t
  exact ⟨_, (b.jv St), rfl, rfl⟩
 rintro d7 E W ⟨Y, b, Z, P⟩ u
 refine sg (Wh P (V (jE nm Z) (VB b Mh rfl rfl dH (V (kK aD rfl c) (bS u fun d5 a5 u => VE (Eg b call117 (jZ.lG (vh (a.Kids.length : Int) _ _  a5)) (fun d4 b => bS u fun c0 s u => V (wR rfl rfl s) (Wa (ln (jL (jL ?_)))))))))))
 refine jG (V (jE nm Z) (VB b Mh rfl rfl dH (V (kK aD rfl c) (Wm (ln ?_)))))
 replace b := b.jv (Db St)
 refine kA (fun i E W => ∃ z B, (E 34 = .int .i64 (i : Nat) ∧ E 33 = .int .i64 (a.Kids.length : Nat)) ∧ ST false kw w W (hp w) B ∧ E 3 = (.string z) ∧ E 32 = (.slice A1 a.Kids.length c2) ∧ rX I (a.Kids.drop i) z = some r) a.Kids.length c.len ⟨c0, _, ⟨rfl, rfl⟩, (b.jv St), rfl, rfl, u⟩ dc dc dc (fun _ _ _ h => by obtain ⟨_, _, l, _⟩ := h; exact l) ?_ ?_
 ·rintro b9 E W a3 ⟨z, B, ⟨d, n⟩, b, D, G, g⟩
  obtain ⟨j, d2, v, a9, L⟩ := ku a3
  rw [v] at g
  refine bg (VQ (lI (i := (b9 : Int)) (x0 := j) jt.out aD aC G d c (aG _) a9) (fun c7 ⟨_, ⟨d1, rfl, H⟩, M⟩ => V (jx rfl (jS b.has M aO aC)) (VE (jU b aQ (fun c1 c6 b => ?_)))))
  obtain ⟨x, y, rfl⟩ := H.form
  let a0 := (C1 j.Op j.K j.jr.ju j.jr.jy x j.Kids.length y)
  refine VO (jK (.agg a0.toArray) (a0.toArray) b rfl rfl aC oc nb rfl (fun c3 b => ln (jG (Wh D (VA b Mh a0 aO aC (bS g fun c8 N g => VE (Eg b call159 (p j (.slice x j.Kids.length y) _ _ (H.mono jC.mono b.jF) N) (fun c4 b => bS g fun O T g => V (wR rfl rfl T) (Wa (jT (kl (jH ?_))))))))))))
  replace b := b.jv (Db St)
  exact ⟨d, O, _, ⟨rfl, n⟩, (b.jv St), rfl, G, (by rw [L]; exact g)⟩
 rintro E W ⟨z, B, ⟨d, n⟩, b, D, G, g⟩
 rw [aM] at g
 exact jH (sg (Wh D (Wa (lt (rQ g b)))))
theorem Ad : ∀ (n : Nat) (c : Formula) (a : Value) (r : ByteArray) (w : World) (g : Sl jt 5 (hp w) a c.Kids) (_ : px n c = some r),
  jZ false pg0 159 [(.agg #[(.int .i64 c.Op), (.int .i64 c.K), (.string c.jr.ju), (.string c.jr.jy), a])] w (.string r)
 | 0 => by intros; rename_i h; simp only [px] at h; cases h
 | n + 1 => D1 (px n) (Ad n)
theorem Gk (c : Formula) (u : Value) (a : Formula) (x : Value) (r : Int) (w : World) (k : Sl jt 5 (hp w) u c.Kids) (t : Sl jt 5 (hp w) x a.Kids) (hm : wj c a = some r) :
  jZ false pg0 149 [(.agg #[(.int .i64 c.Op), (.int .i64 c.K), (.string c.jr.ju), (.string c.jr.jy), u]), (.agg #[(.int .i64 a.Op), (.int .i64 a.K), (.string a.jr.ju), (.string a.jr.jy), x])] w (.int .i64 r) := by
 refine cG 21 func149 rfl (fun b => sg ?_)
 obtain ⟨B, D, rfl⟩ := k.form
 let d := (C1 c.Op c.K c.jr.ju c.jr.jy B c.Kids.length D)
 refine VE (kv b rfl (fun W4 s b => ?_))
 obtain ⟨y, z, rfl⟩ := t.form
 let a0 := (C1 a.Op a.K a.jr.ju a.jr.jy y a.Kids.length z)
 refine VE (kv b rfl (fun W8 h b => Wa (lr (Wa (lr (Wa (ln (jL ?_))))))))
 refine CJ hm (fun Q E W => ∃ G, ST false kw w W (hp w) ((h, Ol a0 30) :: G) ∧ E 3 = (.pointer (some ⟨h, 0, none⟩)) ∧ E 5 = (.string Q) ∧ E 6 = (.string zS)) (fun Q j => ?_) ?_
 ·refine sg (VA b (Mt Mh) d aO aC (bS j fun P a5 j => VE (Eg b call89 (xX c (.slice B c.Kids.length D) _ _ (k.mono jC.mono b.jF) a5) (fun q b => ln (CI j rfl (fun Z j => ?_) (fun Z j => ?_))))))
  ·refine jG (VA b (Mt Mh) d aO aC (bS j fun R l j => VE (Eg b call159 ((Ad kd) c (.slice B c.Kids.length D) _ _ (k.mono jC.mono b.jF) l) (fun v b => Wa (ln ?_)))))
   obtain rfl := sj j
   exact ⟨_, (b.jv (Kb (Db St))), rfl, rfl, rfl⟩
  refine kn ?_
  obtain rfl := sj j
  exact ⟨_, (b.jv (Kb (Db St))), rfl, rfl, rfl⟩
 rintro a9 E W ⟨G, b, I, J, m⟩ a2
 refine jL (CJ a2 (fun N E W => ∃ H, ST false kw w W (hp w) H ∧ E 5 = (.string a9) ∧ E 6 = (.string N)) (fun N i => ?_) ?_)
 ·refine sg (V (jx I (jD b.has Mh a0 rfl aO aC)) (bS i fun L a3 i => VE (Eg b call89 (xX a (.slice y a.Kids.length z) _ _ (t.mono jC.mono b.jF) a3) (fun n b => ln (CI i rfl (fun Y i => ?_) (fun Y i => ?_))))))
  ·refine jG (V (jx I (jD b.has Mh a0 rfl aO aC)) (bS i fun O a4 i => VE (Eg b call159 ((Ad kd) a (.slice y a.Kids.length z) _ _ (t.mono jC.mono b.jF) a4) (fun p b => Wa (ln ?_)))))
   obtain rfl := sj i
   exact ⟨_, (b.jv (Db St)), J, rfl⟩
  refine kn ?_
  obtain rfl := sj i
  exact ⟨_, (b.jv (Db St)), J, m⟩
 rintro c1 E W ⟨H, b, K, M⟩ g
 refine jL (sg (Wh K (Wh M (V (rB rfl rfl rfl) (ln (CI g rfl (fun T g => ?_) (fun T g => ?_)))))))
 ·refine sg (Wa (lt (ki ?_)))
  obtain rfl := sj g
  exact rP b
 refine kS (Wh K (Wh M (V (rB rfl rfl rfl) (ln (CI g rfl (fun U g => ?_) (fun U g => ?_))))))
 ·refine sg (Wa (lt (ki ?_)))
  obtain rfl := sj g
  exact rP b
 exact kg (Wa (lt (rQ g b)))
theorem Fh (s : Formula → Formula → Option Bool) (d8 : ∀ (a : Formula) (u : Value) (c : Formula) (x : Value) (r : Bool) (w : World) (k : Sl jt 5 (hp w) u a.Kids) (y : Sl jt 5 (hp w) x c.Kids), s a c = some r → jZ false pg0 150 [(.agg #[(.int .i64 a.Op), (.int .i64 a.K), (.string a.jr.ju), (.string a.jr.jy), u]), (.agg #[(.int .i64 c.Op), (.int .i64 c.K), (.string c.jr.ju), (.string c.jr.jy), x])] w (.bool r)) (a : Formula) (u : Value) (c : Formula) (x : Value) (r : Bool) (w : World) (k : Sl jt 5 (hp w) u a.Kids) (y : Sl jt 5 (hp w) x c.Kids) (hm : xw s a c = some r) :
  jZ false pg0 150 [(.agg #[(.int .i64 a.Op), (.int .i64 a.K), (.string a.jr.ju), (.string a.jr.jy), u]), (.agg #[(.int .i64 c.Op), (.int .i64 c.K), (.string c.jr.ju), (.string c.jr.jy), x])] w (.bool r) := by
 refine cG 53 func150 rfl (fun b => sg ?_)
 obtain ⟨Z, c2, rfl⟩ := k.form
 let m := (C1 a.Op a.K a.jr.ju a.jr.jy Z a.Kids.length c2)
 refine VE (kv b rfl (fun W4 I b => ?_))
 obtain ⟨A5, c6, rfl⟩ := y.form
 let a0 := (C1 c.Op c.K c.jr.ju c.jr.jy A5 c.Kids.length c6)
 refine VE (kv b rfl (fun W8 J b => Wa (lS (Wf nn (VB b (Mt Mh) rfl rfl bR (Wf nn (VB b Mh rfl rfl bR (Wi rfl (Wm (LJ hm (fun R E W => ∃ d1, ST false kw w W (hp w) ((J, Ol a0 30) :: ((I, Ol m 30) :: d1)) ∧ E 2 = (.pointer (some ⟨I, 0, none⟩)) ∧ E 3 = (.pointer (some ⟨J, 0, none⟩)) ∧ E 17 = (.bool R)) 6 ?_ (fun R G N => ?_)))))))))))
 ·let a3 : Value := (.pointer (some ⟨J, 0, none⟩))
  let a2 : Value := (.pointer (some ⟨I, 0, none⟩))
  rintro f1 E W ⟨d1, b, a5, n, e1⟩ d6
  refine Wh e1 (LJ d6 (fun P E W => ∃ d2, ST false kw w W (hp w) ((J, Ol a0 30) :: ((I, Ol m 30) :: d2)) ∧ E 2 = a2 ∧ E 3 = a3 ∧ E 24 = (.bool P)) 6 ?_ (fun P D M => ?_))
  ·rintro f2 E W ⟨d2, b, p, q, e2⟩ d7
   refine Wh e2 (LJ d7 (fun O E W => ∃ d3, ST false kw w W (hp w) ((J, Ol a0 30) :: ((I, Ol m 30) :: d3)) ∧ E 2 = a2 ∧ E 3 = a3 ∧ E 33 = (.bool O)) 8 ?_ (fun O B K => ?_))
   ·rintro f3 E W ⟨d3, b, d4, e3, e4⟩ H
    refine ln (CI H e4 (fun d5 H => ?_) (fun d5 H => ?_))
    ·refine sg (Wa (ln ?_))
     replace b := b.jv (Db (Db St))
     refine ke (ki ?_)
     obtain rfl := sj H
     exact rP b
    refine kS (V (jE nm d4) (VB b (Mt Mh) rfl rfl dH (V (kK aD rfl k) (Wm (ln (kA (fun i E W => ∃ Q, (E 37 = .int .i64 (i : Nat) ∧ E 36 = .int .i64 (a.Kids.length : Nat)) ∧ ST false kw w W (hp w) ((J, Ol a0 30) :: ((I, Ol m 30) :: Q)) ∧ E 2 = a2 ∧ E 3 = a3 ∧ sN c s (a.Kids.drop i) i = some r) a.Kids.length k.len ⟨_, ⟨rfl, rfl⟩, (b.jv St), d4, e3, H⟩ dc dc dc (fun _ _ _ h => by obtain ⟨_, L, _⟩ := h; exact L) ?_ ?_))))))
    ·rintro a9 E W c0 ⟨Q, ⟨v, eN⟩, b, T, U, g⟩
     obtain ⟨b5, e5, c9, c8, d0⟩ := ku c0
     rw [c9] at g
     refine bg (Wh v (Wa (ln (jL ?_))))
     replace b := b.drew
     have d := b.has.jv (Kb (Kb Sn))
     refine kO d kp (X 0 rfl d (jE nm T) (XH 1 rfl d (fun _ l => jx rfl (jJ l (Mt Mh) rfl dH)) (X 2 rfl d (jz rfl) (XQ 3 rfl d (lI (i := (a9 : Int)) (x0 := b5) jt.out aD aC rfl rfl k (aG _) c8) (fun e7 ⟨_, ⟨d9, rfl, c5⟩, c1⟩ => XH 4 rfl d (fun _ l => jx rfl (jS l c1 aO aC)) (X 5 rfl d (jE nm U) (XH 6 rfl d (fun _ l => jx rfl (jJ l Mh rfl dH)) (X 7 rfl d (jz rfl) (bS g fun b6 Y g => XQ 8 rfl d (lI (i := (a9 : Int)) (x0 := b6) jt.out aD aC rfl rfl y (kk Y) (kj Y)) (fun e8 ⟨_, ⟨e0, rfl, c7⟩, c3⟩ => XH 9 rfl d (fun _ l => jx rfl (jS l c3 aO aC)) (bS g fun e9 c4 g => XE 10 rfl (Eg b call150 (d8 b5 d9 b6 e0 _ _ (c5.mono jC.mono b.jF) (c7.mono jC.mono b.jF) c4) (fun e6 b => ?_)))))))))))))
     have d := b.has.jv (Kb (Kb Sn))
     refine ⟨d, (X 11 rfl d (nt rfl) (kP kr (jH (CI g rfl (fun b9 g => ?_) (fun b9 g => ?_)))))⟩
     ·refine sg (Wa (ln ?_))
      replace b := b.jv (Db (Db St))
      refine ke (mc (ki (mc (ki ?_))))
      obtain rfl := sj g
      exact rP b
     exact kQ (kl (jH ⟨v, _, ⟨rfl, eN⟩, (b.jv St), T, U, (by rw [d0]; exact g)⟩))
    rintro E W ⟨Q, ⟨v, eN⟩, b, T, U, g⟩
    rw [aM] at g
    refine jH ?_
    replace b := b.jv (Db (Db St))
    exact sg (Wa (lt (rQ g b)))
   refine bC B (fun j B => ?_) (fun j B => ?_)
   ·refine un j (un j (un j (un j (un j (un j (un j (V (jO (cB j) rfl) ?_)))))))
    obtain rfl := sj B
    exact K _ _ ⟨_, (b.jv St), p, q, rfl⟩
   refine ug j (jE nm p) (ug j (jx rfl (jJ b.has (Mt Mh) rfl dH)) (ug j (kK aD rfl k) (ug j (jE nm q) (ug j (jx rfl (jJ b.has Mh rfl dH)) (ug j (kK aD rfl y) (ug j (kh rfl rfl rfl) (V (jP (cB j) rfl) ?_)))))))
   obtain rfl := sj B
   exact K _ _ ⟨_, (b.jv St), p, q, rfl⟩
  refine bC D (fun t D => ?_) (fun t D => ?_)
  ·refine un t (un t (un t (un t (un t (V (jO (cB t) rfl) ?_)))))
   obtain rfl := sj D
   exact M _ _ ⟨_, (b.jv St), a5, n, rfl⟩
  refine ug t (jE tQ a5) (ug t (jx rfl (jD b.has (Mt Mh) (jA a.jr) rfl bG aS)) (ug t (jE tQ n) (ug t (jx rfl (jD b.has Mh (jA c.jr) rfl bG aS)) (ug t (Hc rfl rfl (nl dS) (Cc (pG _ a.jr c.jr))) (V (jP (cB t) rfl) ?_)))))
  obtain rfl := sj D
  exact M _ _ ⟨_, (b.jv St), a5, n, rfl⟩
 refine bC G (fun z G => ?_) (fun z G => ?_)
 ·refine un z (un z (un z (un z (un z (V (jO (cB z) rfl) ?_)))))
  obtain rfl := sj G
  exact N _ _ ⟨_, (b.jv St), rfl, rfl, rfl⟩
 refine ug z (jE rG rfl) (ug z (jx rfl (jJ b.has (Mt Mh) rfl bR)) (ug z (jE rG rfl) (ug z (jx rfl (jJ b.has Mh rfl bR)) (ug z (kh rfl rfl rfl) (V (jP (cB z) rfl) ?_)))))
 obtain rfl := sj G
 exact N _ _ ⟨_, (b.jv St), rfl, rfl, rfl⟩
theorem EI : ∀ (n : Nat) (g : Formula) (a : Value) (i : Formula) (c : Value) (r : Bool) (w : World) (j : Sl jt 5 (hp w) a g.Kids) (k : Sl jt 5 (hp w) c i.Kids) (_ : qP n g i = some r),
  jZ false pg0 150 [(.agg #[(.int .i64 g.Op), (.int .i64 g.K), (.string g.jr.ju), (.string g.jr.jy), a]), (.agg #[(.int .i64 i.Op), (.int .i64 i.K), (.string i.jr.ju), (.string i.jr.jy), c])] w (.bool r)
 | 0 => by intros; rename_i h; simp only [qP] at h; cases h
 | n + 1 => Fh (qP n) (EI n)
theorem Cq (T : Value) (a0 : List Formula) (L : Bool) (r : List Formula) (w : World) {μ0 : jW} (h0 : ny μ0 [] w) (c9 : Sl jt 5 μ0 T a0) (hm : vd a0 L = some r) :
  lO false pg0 132 [T, (.bool L)] w μ0 [] (fun v L1 μ1 => ∃ y1, v = y1 ∧ L1 = [] ∧ Sl jt 5 μ1 y1 (r)) := by
 refine uB h0 62 func132 rfl (fun d => sg (Wa (lr (Wa (lS (Wm ?_))))))
 refine V (kK aD rfl c9) (Wm (ln (kA (fun i E W => ∃ u M D x b1, (E 12 = .int .i64 (i : Nat) ∧ E 11 = .int .i64 (a0.length : Nat)) ∧ jX μ0 x ∧ Lo (keys []) w μ0 x ∧ ST false (keys []) w W x (D ++ b1) ∧ E 1 = (.bool L) ∧ E 5 = u ∧ E 10 = T ∧ kB 30 jt 5 x u M D ∧ mA L (a0.drop i) M = some r) a0.length c9.len ⟨(.slice none 0 0), ([]), [], μ0, _, ⟨rfl, rfl⟩, (jX.refl _), Lo.refl, (d.jv St), rfl, rfl, rfl, (kB.nil _ _ _ _), hm⟩ dc dc dc (fun _ _ _ h => by obtain ⟨_, _, _, _, _, aa, _⟩ := h; exact aa) ?_ ?_)))
 ·rintro U E W h7 ⟨u, M, D, x, b1, ⟨eI, eN⟩, K, q, d, d5, a4, b3, H, J⟩
  obtain ⟨a, l4, j5, j4, c6⟩ := ku h7
  rw [j5] at J
  refine bg (VQ (lI (i := (U : Int)) (x0 := a) jt.out aD aC b3 eI (c9.mono jC.mono K) (aG _) j4) (fun m8 ⟨_, ⟨n3, rfl, a2⟩, i1⟩ => V (jx rfl (jS d.has i1 aO aC)) (VE (jU d aQ (fun l6 G d => ?_)))))
  let g5 : Value := (.int .i64 (U : Int))
  let b8 : Value := (.int .i64 (a0.length : Int))
  let b2 : Value := (.pointer (some ⟨G, 0, none⟩))
  obtain ⟨k, t, rfl⟩ := a2.form
  let g6 : Value := (.slice k a.Kids.length t)
  let s := (C1 a.Op a.K a.jr.ju a.jr.jy k a.Kids.length t)
  refine VO (jK (.agg s.toArray) (s.toArray) d rfl rfl aC oc nb rfl (fun l7 d => lr (Wh a4 (V (sG aD rfl H) (Wa (ln (jL (CJ J (fun c3 E W => ∃ d0, ST false (keys []) w W x ((G, Ol s 30) :: (D ++ d0)) ∧ E 1 = (.bool L) ∧ E 5 = u ∧ E 7 = b2 ∧ E 8 = (.int .i64 c3) ∧ E 10 = T ∧ E 11 = b8 ∧ E 12 = g5) (fun c3 i0 => ?_) ?_))))))))
  ·refine lz (mX (fun m E W => ∃ Y d3, ST false (keys []) w W x ((G, Ol s 30) :: (D ++ d3)) ∧ E 1 = (.bool L) ∧ E 5 = u ∧ E 7 = b2 ∧ E 8 = (.int .i64 Y) ∧ E 10 = T ∧ E 11 = b8 ∧ E 12 = g5 ∧ pI M a m Y = some c3) kd ⟨(M.length : Int), _, (d.jv St), d5, a4, rfl, rfl, b3, eN, eI, i0⟩ ?_)
   rintro m E W ⟨Y, d3, d, f0, c1, c2, a5, f1, f2, f3, Z⟩
   cases m with
   | zero => rw [pI] at Z; cases Z
   | succ k5 =>
    refine jL (jL ?_)
    replace d := d.drew
    have n := d.has.jv (Kb (Kr Sn))
    refine kO n kp (X 0 rfl n (jz a5) (X 1 rfl n (kh rfl rfl rfl) (X 2 rfl n (jz rfl) (PJ Z (fun g3 E W => ∃ d4, ST false (keys []) w W x ((G, Ol s 30) :: (D ++ d4)) ∧ E 1 = (.bool L) ∧ E 5 = u ∧ E 7 = b2 ∧ E 8 = (.int .i64 Y) ∧ E 10 = T ∧ E 11 = b8 ∧ E 12 = g5 ∧ E 29 = (.bool g3)) (bm 12 4095) 0 ?_ (fun g3 z b0 => ?_)))))
    ·rintro o0 E W ⟨d4, d, f4, f5, f6, f7, f8, f9, g0, k3⟩ Q
     refine kP kr (jH (CI Q k3 (fun h6 Q => ?_) (fun h6 Q => ?_)))
     ·exact kn (lz (jG (Wh f7 (Wi rfl (Wa (jT (kl (jH ⟨k5, bn _, (wi0 .i64 (Y - 1)), _, (d.jv St), f4, f5, f6, rfl, f8, f9, g0, Q⟩))))))))
     refine mW (mK (mK (qG (jH ?_))))
     obtain rfl := sj Q
     exact ⟨_, (d.jv St), f4, f5, f6, f7, f8, f9, g0⟩
    refine bC z (fun c z => ?_) (fun c z => ?_)
    ·refine Xg 3 rfl rfl (cB c) n (jz c1) (Xg 4 rfl rfl (cB c) n (jz a5) (Xg 5 rfl rfl (cB c) n (kh rfl rfl rfl) (bS z fun l0 c8 z => qL 6 rfl kr (.inr ⟨2, true, 20, rfl, rfl, by decide, (cB c)⟩) rfl dc (fun _ _ h => h) n (lg (i := (wi0 .i64 (Y - 1))) jt.out aD aC rfl rfl H (kk c8) (kj c8)) (fun n0 ⟨_, ⟨k8, rfl, j0⟩, i3, l3⟩ => sZ 7 rfl rfl (cB c) n (fun _ R => jx rfl (jS (nA.hp _) (i3.mono (lR (fun b o hq => R.2 b o (Mt (Ml hq))))) aO aC)) (sZ 8 rfl rfl (cB c) n (fun _ R => jx c2 (jD R Mh s rfl aO aC)) (bS z fun n2 i5 z => BG 9 rfl rfl (cB c) (Eg d call149 (Gk l0 k8 a g6 _ _ (j0.mono jC.mono d.jF) (a2.mono jC.mono d.jF) i5) (fun m4 d => ?_))))))))
     have n := d.has.jv (Kb (Kr Sn))
     refine ⟨n, (Xg 10 rfl rfl (cB c) n (kh rfl rfl rfl) (X 11 rfl n (jO (cB c) rfl) ?_))⟩
     obtain rfl := sj z
     refine ml kr (b0 _ _ ⟨_, (d.jv St), f0, c1, c2, a5, f1, f2, f3, rfl⟩)
    refine Xn 3 rfl rfl (cB c) n (Xn 4 rfl rfl (cB c) n (Xn 5 rfl rfl (cB c) n (Xn 6 rfl rfl (cB c) n (Xn 7 rfl rfl (cB c) n (Xn 8 rfl rfl (cB c) n (Xn 9 rfl rfl (cB c) n (Xn 10 rfl rfl (cB c) n (X 11 rfl n (jP (cB c) rfl) ?_))))))))
    obtain rfl := sj z
    refine ml kr (b0 _ _ ⟨_, (d.jv St), f0, c1, c2, a5, f1, f2, f3, rfl⟩)
  rintro a3 E W ⟨d0, d, b4, d6, d7, b5, d8, d9, e0⟩ h8
  refine jL (jL ?_)
  replace d := d.drew
  have n := d.has.jv (Kb (Kr Sn))
  refine kO n kp (X 0 rfl n (jz b4) (X 1 rfl n (jz rfl) (PJ h8 (fun g2 E W => ∃ d1, ST false (keys []) w W x ((G, Ol s 30) :: (D ++ d1)) ∧ E 1 = (.bool L) ∧ E 5 = u ∧ E 7 = b2 ∧ E 8 = (.int .i64 a3) ∧ E 10 = T ∧ E 11 = b8 ∧ E 12 = g5 ∧ E 36 = (.bool g2)) (bm 14 31) 9 ?_ (fun g2 N a9 => ?_))))
  ·rintro n8 E W ⟨d1, d, e1, b6, b7, b9, e2, e3, e4, k0⟩ h9
   have n := d.has.jv (Kb (Kr Sn))
   refine X 5 rfl n (jz k0) (PJ h9 (fun g1 E W => ∃ d2, ST false (keys []) w W x ((G, Ol s 30) :: (D ++ d2)) ∧ E 1 = (.bool L) ∧ E 5 = u ∧ E 7 = b2 ∧ E 8 = (.int .i64 a3) ∧ E 10 = T ∧ E 11 = b8 ∧ E 12 = g5 ∧ E 45 = (.bool g1)) (bm 14 16383) 0 ?_ (fun g1 y a8 => ?_))
   ·rintro n9 E W ⟨d2, d, e5, c0, k1, e6, e7, e8, e9, k2⟩ j
    refine kP kr (jH (CI j k2 (fun h2 j => ?_) (fun h2 j => ?_)))
    ·refine mW (mK (qG (jH ?_)))
     replace d := d.jv (Db St)
     exact ⟨e9, u, M, D, x, _, ⟨rfl, e8⟩, K, q, (d.jv St), e5, c0, e7, H, (by rw [c6]; exact j)⟩
    refine kg (VE (jY (cs := #[]) d pu (xm [] aD aC aQ dc rfl (by simp) rfl rfl) (fun l8 j9 d => Wh c0 (Wh e6 (bS j fun _ c4 j => VQ (CU (i := a3) aD aC rfl rfl H (uX c4) (uS c4)) (fun n4 i6 => bS j fun m6 h3 j => VE (pp (B := [(j9, Ob #[] 30)]) jC d dc aD lL.1 lL.2.1 rfl lL.2.2.1 lL.2.2.2 rfl rfl (kB.lit jC (l := []) .nil rfl nb rfl) (xt.row i6 d (fun p hq => (Mt (Mt (Ml hq))))) h3 (fun l9 n5 j6 d g8 => Wa (ln (jL ?_))))))))))
    refine jG (Wm (V (jx k1 (jD d.has (Ma Mh) s rfl aO aC)) (VE (jY (cs := s.toArray) d (lM rfl) (mf aD aC aQ) (fun m0 m5 d => ?_)))))
    replace d := d.perm (Nr (Qb Qz) Nz)
    refine bS j fun m7 h4 j => VE (pp (B := j6) jC d dc aD lL.1 lL.2.1 rfl lL.2.2.1 lL.2.2.2 rfl rfl g8 (xt.lit jC (l := [a]) (.cons (ys := C1 a.Op a.K a.jr.ju a.jr.jy k a.Kids.length t) (jt.mk ⟨g6, rfl, a2⟩) .nil) rfl nb (d.at_ (Ma Mh))) h4 (fun m1 n6 j7 d g9 => Wa (ln ?_)))
    replace d := d.jv (Kr (Db (Db St)))
    refine jG (Wm (Wh c0 (Wh e6 ?_)))
    replace d := d.perm (Nr (Qr Qz) Nz)
    obtain ⟨l1, d, a7, O, i8⟩ := ST.tS jC d H
    exact bS j fun _ c5 j => VQ (BY (i := a3) aD aC rfl rfl i8 (uX c5) (uS c5)) (fun n7 i7 => bS j fun k4 h5 j => VE (pp (B := j7) jC d dc aD lL.1 lL.2.1 rfl lL.2.2.1 lL.2.2.2 rfl rfl (g9.mono jC a7) (xt.sl jC i7.1 d.jF) h5 (fun m2 k6 j8 d h1 => Wa (jT (kl (jH ⟨e9, k6, k4, j8, l1, _, ⟨rfl, e8⟩, (K.trans a7), (q.trans O), (d.jv St), e5, rfl, e7, h1, (by rw [c6]; exact j)⟩))))))
   refine bC y (fun g y => ?_) (fun g y => ?_)
   ·refine Xg 6 rfl rfl (cB g) n (jz b6) (Xg 7 rfl rfl (cB g) n (jz b9) (Xg 8 rfl rfl (cB g) n (kh rfl rfl rfl) (bS y fun k9 c7 y => qL 9 rfl kr (.inr ⟨5, true, 37, rfl, rfl, by decide, (cB g)⟩) rfl dc (fun _ _ h => h) n (lg (i := (wi0 .i64 (a3 - 1))) jt.out aD aC rfl rfl H (kk c7) (kj c7)) (fun m9 ⟨_, ⟨k7, rfl, i9⟩, i2, l2⟩ => sZ 10 rfl rfl (cB g) n (fun _ R => jx rfl (jS (nA.hp _) (i2.mono (lR (fun b o hq => R.2 b o (Mt (Ml hq))))) aO aC)) (sZ 11 rfl rfl (cB g) n (fun _ R => jx b7 (jD R Mh s rfl aO aC)) (bS y fun n1 i4 y => BG 12 rfl rfl (cB g) (Eg d call150 ((EI kd) k9 k7 a g6 _ _ (i9.mono jC.mono d.jF) (a2.mono jC.mono d.jF) i4) (fun m3 d => ?_))))))))
    have n := d.has.jv (Kb (Kr Sn))
    refine ⟨n, (X 13 rfl n (jO (cB g) rfl) ?_)⟩
    obtain rfl := sj y
    refine ml kr (a8 _ _ ⟨_, (d.jv St), e1, b6, b7, b9, e2, e3, e4, rfl⟩)
   refine Xn 6 rfl rfl (cB g) n (Xn 7 rfl rfl (cB g) n (Xn 8 rfl rfl (cB g) n (Xn 9 rfl rfl (cB g) n (Xn 10 rfl rfl (cB g) n (Xn 11 rfl rfl (cB g) n (Xn 12 rfl rfl (cB g) n (X 13 rfl n (jP (cB g) rfl) ?_)))))))
   obtain rfl := sj y
   refine ml kr (a8 _ _ ⟨_, (d.jv St), e1, b6, b7, b9, e2, e3, e4, rfl⟩)
  refine bC N (fun I N => ?_) (fun I N => ?_)
  ·refine Xg 2 rfl rfl (cB I) n (jz b5) (Xg 3 rfl rfl (cB I) n (kh rfl rfl rfl) (X 4 rfl n (jO (cB I) rfl) ?_))
   obtain rfl := sj N
   refine ml kr (a9 _ _ ⟨_, (d.jv St), b4, d6, d7, b5, d8, d9, e0, rfl⟩)
  refine Xn 2 rfl rfl (cB I) n (Xn 3 rfl rfl (cB I) n (X 4 rfl n (jP (cB I) rfl) ?_))
  obtain rfl := sj N
  refine ml kr (a9 _ _ ⟨_, (d.jv St), b4, d6, d7, b5, d8, d9, e0, rfl⟩)
 rintro E W ⟨u, M, D, x, b1, ⟨eI, eN⟩, K, q, d, d5, a4, b3, H, J⟩
 rw [aM] at J
 refine jH (sg (Wh a4 (Wa (lt ?_))))
 obtain rfl := sj J
 refine lj (v := u) rfl rfl ?_
 obtain ⟨o1, d, g4, P, j3⟩ := ST.tS jC d H
 exact ⟨_, _, _, rfl, (d.lU Sn), (K.trans g4), (q.trans P), (ST.kI d (mz.mem Sn)), u, rfl, rfl, j3⟩
set_option maxHeartbeats 4000000 in
theorem vi (t : Nat) (T : kY) (u : Int) (d0 : Value) (a2 : List Formula) (r : (Formula × kY)) (w : World) {μ0 : jW} (h0 : ny μ0 ((t, Ol (mo T) 143) :: []) w) (c9 : Sl jt 5 μ0 d0 a2) (hm : pb T u a2 = some r) :
  lO false pg0 130 [(.pointer (some ⟨t, 0, none⟩)), (.int .i64 u), d0] w μ0 ((t, Ol (mo T) 143) :: []) (fun v L1 μ1 => ∃ y1, v = (.agg #[(.int .i64 ((r.1).Op)), (.int .i64 ((r.1).K)), (.string (((r.1).jr).ju)), (.string (((r.1).jr).jy)), y1]) ∧ L1 = ((t, Ol (mo (r.2)) 143) :: []) ∧ Sl jt 5 μ1 y1 ((r.1).Kids)) := by
 let g6 : Value := (.pointer (some ⟨t, 0, none⟩))
 let a0 := ((mo T).toArray : Array Value)
 let e5 := ((t, Obj.cells a0 143 (0, 0)) :: [])
 refine uB h0 75 func130 rfl (fun d => sg (VE (jU d aQ (fun W2 b1 d => lr (Wa (lS (Wm ?_)))))))
 let g5 : Value := (.pointer (some ⟨b1, 0, none⟩))
 refine V (kK aD rfl c9) (Wm (ln (kA (fun i E W => ∃ J I H c3, (E 14 = .int .i64 (i : Nat) ∧ E 13 = .int .i64 (a2.length : Nat)) ∧ ST false (keys e5) w W μ0 ((b1, Ol C3 30) :: ((t, Obj.cells a0 143 (0, 0)) :: (H ++ c3))) ∧ E 0 = g6 ∧ E 1 = (.int .i64 u) ∧ E 6 = g5 ∧ E 7 = J ∧ E 12 = d0 ∧ kB 30 jt 5 μ0 J I H ∧ mY u T (a2.drop i) I = some r) a2.length c9.len ⟨(.slice none 0 0), ([]), [], _, ⟨rfl, rfl⟩, (d.jv St), rfl, rfl, rfl, rfl, rfl, (kB.nil _ _ _ _), hm⟩ dc dc dc (fun _ _ _ h => by obtain ⟨_, _, _, _, q, _⟩ := h; exact q) ?_ ?_)))
 ·rintro h8 E W f4 ⟨J, I, H, c3, ⟨p, L⟩, d, b2, N, Z, P, b3, G, c⟩
  obtain ⟨a, i8, g7, g4, d5⟩ := ku f4
  rw [g7] at c
  refine bg (VQ (lI (i := (h8 : Int)) (x0 := a) jt.out aD aC b3 p c9 (aG _) g4) (fun l3 ⟨_, ⟨l8, rfl, a3⟩, f7⟩ => V (jx rfl (jS d.has f7 aO aC)) (VE (jU d aQ (fun j4 k9 d => ?_)))))
  obtain ⟨y, z, rfl⟩ := a3.form
  let O := (C1 a.Op a.K a.jr.ju a.jr.jy y a.Kids.length z)
  refine VO (jK (.agg O.toArray) (O.toArray) d rfl rfl aC oc nb rfl (fun j5 d => lS (Wf nn (VB d Mh rfl rfl bR (Wh N (Wi rfl (ln (CI c rfl (fun e8 c => ?_) (fun e8 c => ?_)))))))))
  ·refine sg (Wh P (Wf nm (VB d Mh rfl rfl dH ?_)))
   replace d := d.perm (Nr (Qb (Qb (Qb Qz))) Nz)
   refine bS c fun i0 e9 c => VE (pp (B := H) jC d dc aD lL.1 lL.2.1 rfl lL.2.2.1 lL.2.2.2 rfl rfl G (xt.sl jC a3 d.jF) e9 (fun j6 i2 h2 d e6 => Wa (ln ?_)))
   replace d := d.jv (Kr (Db St))
   exact mW (mK (qG (jH ⟨p, i2, i0, h2, _, ⟨rfl, L⟩, (d.jv (Sb (Pr Pz) (Sb (Pr Pz) St))), b2, N, Z, rfl, b3, e6, (by rw [d5]; exact c)⟩)))
  refine kS (VA d Mh O aO aC (Wh N (Wi rfl (bS c fun l6 g0 c => VE (Eg d call131 (jZ.lG (yy a (.slice y a.Kids.length z) (wi0 .i64 (5 - u)) _ _ (a3.mono jC.mono d.jF) g0)) (fun j7 d => ln (CI c rfl (fun f0 c => ?_) (fun f0 c => ?_))))))))
  ·let d2 := (GU (wi0 .i64 (5 - u)))
   refine sg (Wh N (Wi rfl (V (lf (v := (.agg d2.toArray)) (lM rfl) (kH aQ bA (tq _ bA) kr)) ?_)))
   replace d := d.perm (Nb (Pb Pz) Nz)
   refine VO (jK (.agg d2.toArray) (d2.toArray) d Z rfl aC oc nb rfl (fun j8 d => ln ?_))
   replace d := d.jv (Kb (Db (Kb (Dr St))))
   refine ke (ki (mc (ki (mc (ki ?_)))))
   obtain rfl := sj c
   exact mP (v := (.agg d2.toArray)) rfl Z (jD d.has Mh d2 rfl aO aC) ⟨_, _, _, rfl, (d.lU (Db (Kb Sn))), (jX.refl _), Lo.refl, (ST.kI d (mz.mem (Db (Kb Sn)))), (.slice none 0 0), rfl, rfl, (Sl.nil _ _ _)⟩
  refine kn (jG (Wh P (VA d Mh O aO aC (VE (jY (cs := O.toArray) d (lM rfl) (mf aD aC aQ) (fun j9 l0 d => ?_))))))
  replace d := d.perm (Nr (Qb (Qb (Qb (Qb Qz)))) Nz)
  refine bS c fun i1 f1 c => VE (pp (B := H) jC d dc aD lL.1 lL.2.1 rfl lL.2.2.1 lL.2.2.2 rfl rfl G (xt.lit jC (l := [a]) (.cons (ys := C1 a.Op a.K a.jr.ju a.jr.jy y a.Kids.length z) (jt.mk ⟨(.slice y a.Kids.length z), rfl, a3⟩) .nil) rfl nb (d.at_ (Ma Mh))) f1 (fun k0 i3 h3 d e7 => Wa (jT (kl (jH ?_)))))
  replace d := d.jv (Kr (Db (Db St)))
  exact ⟨p, i3, i1, h3, _, ⟨rfl, L⟩, (d.jv (Sb (Pr Pz) (Sb (Pr Pz) St))), b2, N, Z, rfl, b3, e7, (by rw [d5]; exact c)⟩
 rintro E W ⟨J, I, H, c3, ⟨p, L⟩, d, b2, N, Z, P, b3, G, c⟩
 rw [aM] at c
 refine jH (jL (sg (Wh P (V (sG aD rfl G) (Wm (ln (RH c (fun e4 E W => ∃ d7, ST false (keys e5) w W μ0 ((b1, Ol C3 30) :: ((t, Obj.cells a0 143 (0, 0)) :: (H ++ d7))) ∧ E 0 = g6 ∧ E 1 = (.int .i64 u) ∧ E 6 = g5 ∧ E 7 = J) (fun e4 f6 b6 => ?_) ?_)))))))
 ·refine kA (fun i E W => ∃ c4, (E 40 = .int .i64 (i : Nat) ∧ E 39 = .int .i64 (I.length : Nat)) ∧ ST false (keys e5) w W μ0 ((b1, Ol C3 30) :: ((t, Obj.cells a0 143 (0, 0)) :: (H ++ c4))) ∧ E 0 = g6 ∧ E 1 = (.int .i64 u) ∧ E 6 = g5 ∧ E 7 = J ∧ E 38 = J ∧ pg u T (I.drop i) = some e4) I.length G.len ⟨_, ⟨rfl, rfl⟩, (d.jv St), b2, N, Z, P, rfl, f6⟩ dc dc dc (fun _ _ _ h => by obtain ⟨_, q, _⟩ := h; exact q) ?_ ?_
  ·rintro h9 E W f5 ⟨c4, ⟨p, L⟩, d, c6, R, a8, c7, c8, k⟩
   obtain ⟨j, i9, g9, g8, h1⟩ := ku f5
   rw [g9] at k
   refine bg (VQ (lg (i := (h9 : Int)) jt.out aD aC c8 p G (aG _) g8) (fun l5 ⟨_, ⟨m1, rfl, d4⟩, f9, i7⟩ => V (jx rfl (jS (nA.hp _) (f9.mono (lR (fun b o hq => d.has.2 b o (Mt (Mt (Ml hq)))))) aO aC)) (VE (jU d aQ (fun k5 l1 d => ?_)))))
   obtain ⟨a9, b0, rfl⟩ := d4.form
   let d9 := (C1 j.Op j.K j.jr.ju j.jr.jy a9 j.Kids.length b0)
   let s := (wi0 .i64 (5 - u))
   refine VO (jK (.agg d9.toArray) (d9.toArray) d rfl rfl aC oc nb rfl (fun k6 d => lr (VA d Mh d9 aO aC (Wh R (Wi rfl (bS k fun l7 g2 k => VE (Eg d call131 (jZ.lG (yy j (.slice a9 j.Kids.length b0) s _ _ (d4.mono jC.mono d.jF) g2)) (fun k7 d => ln ?_))))))))
   replace d := d.jv (Db St)
   refine CI k rfl (fun f3 k => ?_) (fun f3 k => ?_)
   ·refine sg (Wh R (Wi rfl (V (lf (v := (.agg (GU s).toArray)) (lM rfl) (kH aQ bA (tq _ bA) kr)) (VO (jK (.agg (GU s).toArray) ((GU s).toArray) d a8 rfl aC oc nb rfl (fun k8 d => ln ?_))))))
    replace d := d.jv (Kb (Kb (Dr St)))
    refine ke (mc (ki (mc (ki ?_))))
    obtain rfl := sj k
    replace b6 : some ((⟨(wi0 .i64 (5 - u)), 0, K0, []⟩ : Formula), T) = some r := b6
    obtain rfl := sj b6
    exact mP (v := (.agg (GU s).toArray)) rfl a8 (jD d.has Mh (GU s) rfl aO aC) ⟨_, _, _, rfl, (d.lU (Db (Kb Sn))), (jX.refl _), Lo.refl, (ST.kI d (mz.mem (Db (Kb Sn)))), (.slice none 0 0), rfl, rfl, (Sl.nil _ _ _)⟩
   exact kQ (kl (jH ⟨p, _, ⟨rfl, L⟩, (d.jv St), c6, R, a8, c7, c8, (by rw [h1]; exact k)⟩))
  rintro E W ⟨c4, ⟨p, L⟩, d, c6, R, a8, c7, c8, k⟩
  rw [aM] at k
  refine jH ?_
  obtain rfl := sj k
  exact ⟨_, rfl, _, (d.jv St), c6, R, a8, c7⟩
 rintro ⟨⟩ E W ⟨d7, d, e0, e1, e2, h4⟩ b5
 refine sg (Wh h4 ?_)
 replace d := d.perm (Nr (Qb (Qb Qz)) Nz)
 obtain ⟨m4, d, c0, m, g3⟩ := ST.tS jC d G
 refine bS b5 fun Q g1 b5 => ?_
 refine VE (eD d (bT _) call132 (fun hh => (Cq J I true _ _ hh (g3.mono jC.mono (jX.refl _)) g1)) ?_ (L0 := []))
 rintro _ l9 i5 j3 d c1 n ⟨i4, b7, rfl, Y⟩
 obtain rfl := b7.symm
 refine Wa (lr (Wh e0 (Wh e0 (Wn (Wf HM (VB d (Mt Mh) rfl rfl jl (Wm (LJ b5 (fun e3 E W => ∃ d8, ST false (keys e5) w W i5 ((b1, Ol C3 30) :: ((t, Obj.cells a0 143 (0, 0)) :: d8)) ∧ E 1 = (.int .i64 u) ∧ E 6 = g5 ∧ E 7 = i4 ∧ E 54 = g6 ∧ E 63 = (.bool e3)) 4 ?_ (fun e3 U c2 => ?_)))))))))
 ·rintro d1 E W ⟨d8, d, h5, b4, c5, h6, h7⟩ D
  refine V (mT h6) (Wf HM ?_)
  replace d := d.perm (Nb (Pb Pz) Nz)
  refine VO (jK (.bool d1) ((mo (⟨d1⟩ : kY)).toArray) d rfl h7 iL (Ee d1) nb rfl (fun k2 d => lS (Wh c5 (V (kK aD rfl Y) (Wi rfl (ln (CI D rfl (fun f2 D => ?_) (fun f2 D => ?_))))))))
  ·refine sg (Wh c5 (bS D fun g d6 D => VQ (lI (i := 0) (x0 := g) jt.out aD aC rfl rfl Y (kk d6) (kj d6)) (fun l4 ⟨_, ⟨m0, rfl, d3⟩, f8⟩ => V (jx rfl (jS d.has f8 aO aC)) ?_)))
   obtain ⟨a4, a5, rfl⟩ := d3.form
   let b8 := (C1 g.Op g.K g.jr.ju g.jr.jy a4 g.Kids.length a5)
   replace d := d.perm (Nb (Pb Pz) Nz)
   refine VO (jK (.agg b8.toArray) (b8.toArray) d b4 rfl aC oc nb rfl (fun k3 d => lt (ki ?_)))
   obtain rfl := sj D
   exact mP (v := (.agg b8.toArray)) rfl b4 (jD d.has Mh b8 rfl aO aC) ⟨_, _, _, rfl, (d.lU (Db (Kb Sn))), (c0.trans c1), (m.trans n), (ST.kI d (mz.mem (Db (Kb Sn)))), (.slice a4 g.Kids.length a5), rfl, rfl, d3⟩
  refine kg (Wh h5 (Wh c5 ?_))
  obtain ⟨K, M, rfl⟩ := Y.form
  let i6 := (Ta u K Q.length M)
  refine V (lf (v := (.agg i6.toArray)) (ov rfl rfl) (kH aQ bA (tq _ bA) kr)) ?_
  replace d := d.perm (Nb (Pb Pz) Nz)
  refine VO (jK (.agg i6.toArray) (i6.toArray) d b4 rfl aC oc nb rfl (fun k4 d => lt ?_))
  obtain rfl := sj D
  exact mP (v := (.agg i6.toArray)) rfl b4 (jD d.has Mh i6 rfl aO aC) ⟨_, _, _, rfl, (d.lU (Db (Kb Sn))), (c0.trans c1), (m.trans n), (ST.kI d (mz.mem (Db (Kb Sn)))), (.slice K Q.length M), rfl, rfl, Y⟩
 refine bC U (fun x U => ?_) (fun x U => ?_)
 ·refine un x (un x (un x (V (jO (cB x) rfl) ?_)))
  obtain rfl := sj U
  exact c2 _ _ ⟨_, (d.jv St), e1, e2, rfl, rfl, rfl⟩
 refine ug x (jz rfl) (ug x (kK aD rfl Y) (ug x (kh rfl rfl rfl) (V (jP (cB x) rfl) ?_)))
 obtain rfl := sj U
 exact c2 _ _ ⟨_, (d.jv St), e1, e2, rfl, rfl, rfl⟩
set_option maxHeartbeats 4000000 in
theorem zV (h6 : kY → Formula → Option (Formula × kY)) (m0 : ∀ (k : Nat) (a0 : kY) (g : Formula) (I : Value) (r : (Formula × kY)) (w : World) {μ0 : jW} (h0 : ny μ0 ((k, Ol (mo a0) 143) :: []) w) (G : Sl jt 5 μ0 I g.Kids), h6 a0 g = some r → lO false pg0 90 [(.pointer (some ⟨k, 0, none⟩)), (.agg #[(.int .i64 g.Op), (.int .i64 g.K), (.string g.jr.ju), (.string g.jr.jy), I])] w μ0 ((k, Ol (mo a0) 143) :: []) (fun v L1 μ1 => ∃ y1, v = (.agg #[(.int .i64 ((r.1).Op)), (.int .i64 ((r.1).K)), (.string (((r.1).jr).ju)), (.string (((r.1).jr).jy)), y1]) ∧ L1 = ((k, Ol (mo (r.2)) 143) :: []) ∧ Sl jt 5 μ1 y1 ((r.1).Kids))) (k : Nat) (a0 : kY) (g : Formula) (I : Value) (r : (Formula × kY)) (w : World) {μ0 : jW} (h0 : ny μ0 ((k, Ol (mo a0) 143) :: []) w) (G : Sl jt 5 μ0 I g.Kids) (hm : so h6 a0 g = some r) :
  lO false pg0 90 [(.pointer (some ⟨k, 0, none⟩)), (.agg #[(.int .i64 g.Op), (.int .i64 g.K), (.string g.jr.ju), (.string g.jr.jy), I])] w μ0 ((k, Ol (mo a0) 143) :: []) (fun v L1 μ1 => ∃ y1, v = (.agg #[(.int .i64 ((r.1).Op)), (.int .i64 ((r.1).K)), (.string (((r.1).jr).ju)), (.string (((r.1).jr).jy)), y1]) ∧ L1 = ((k, Ol (mo (r.2)) 143) :: []) ∧ Sl jt 5 μ1 y1 ((r.1).Kids)) := by
 let i0 : Value := (.pointer (some ⟨k, 0, none⟩))
 let b8 := ((k, Ol (mo a0) 143) :: [])
 refine uB h0 82 func90 rfl (fun d => sg ?_)
 obtain ⟨A1, c2, rfl⟩ := G.form
 let a1 := (C1 g.Op g.K g.jr.ju g.jr.jy A1 g.Kids.length c2)
 refine VE (kv d rfl (fun W4 b3 d => VE (jU d aQ (fun W6 b5 d => lS (Wf nn (VB d (Mt Mh) rfl rfl bR (Wi rfl (ln (CI hm rfl (fun n1 hm => ?_) (fun n1 hm => ?_))))))))))
 ·refine sg (VA d (Mt Mh) a1 aO aC (VO (jK (.agg a1.toArray) (a1.toArray) d rfl rfl aC oc nb rfl (fun W8 d => ln ?_))))
  replace d := d.jv (Kb (Db St))
  refine ke (ki ?_)
  obtain rfl := sj hm
  exact mP (v := (.agg a1.toArray)) rfl rfl (jD d.has Mh a1 rfl aO aC) ⟨_, _, _, rfl, (d.lU (Db (Kb Sn))), (jX.refl _), Lo.refl, (ST.kI d (mz.mem (Db (Kb Sn)))), (.slice A1 g.Kids.length c2), rfl, rfl, G⟩
 refine kg (Wa (lS (Wf nm (VB d (Mt Mh) rfl rfl dH (V (kK aD rfl G) (Wm (jT ?_)))))))
 let h9 : Value := (.pointer (some ⟨b5, 0, none⟩))
 refine jH (kA (fun i E W => ∃ b0 U a8 N Q f1, (E 19 = .int .i64 (i : Nat) ∧ E 18 = .int .i64 (g.Kids.length : Nat)) ∧ jX μ0 Q ∧ Lo (keys b8) w μ0 Q ∧ ST false (keys b8) w W Q ((k, Ol (mo N) 143) :: ((b5, Ol C3 30) :: ((b3, Ol a1 30) :: (a8 ++ f1)))) ∧ E 0 = i0 ∧ E 3 = (.pointer (some ⟨b3, 0, none⟩)) ∧ E 4 = h9 ∧ E 5 = b0 ∧ E 17 = (.slice A1 g.Kids.length c2) ∧ kB 30 jt 5 Q b0 U a8 ∧ nk h6 g (g.Kids.drop i) U N = some r) g.Kids.length G.len ⟨(.slice none 0 0), ([]), [], a0, μ0, _, ⟨rfl, rfl⟩, (jX.refl _), Lo.refl, (d.jv (Sb (Pb (Pb Pz)) St)), rfl, rfl, rfl, rfl, rfl, (kB.nil _ _ _ _), hm⟩ dc dc dc (fun _ _ _ h => by obtain ⟨_, _, _, _, _, _, q, _⟩ := h; exact q) ?_ ?_)
 ·rintro m1 E W j6 ⟨b0, U, a8, N, Q, f1, ⟨n, s⟩, H, m, d, c7, c8, c9, e2, f4, Y, u⟩
  obtain ⟨D, n3, l3, l2, l4⟩ := ku j6
  rw [l3] at u
  refine bg (VQ (lI (i := (m1 : Int)) (x0 := D) jt.out aD aC f4 n (G.mono jC.mono H) (aG _) l2) (fun q5 ⟨_, ⟨q9, rfl, f6⟩, j9⟩ => V (jx rfl (jS d.has j9 aO aC)) (VE (jU d aQ (fun o0 q1 d => ?_)))))
  obtain ⟨d9, e1, rfl⟩ := f6.form
  let g2 := (C1 D.Op D.K D.jr.ju D.jr.jy d9 D.Kids.length e1)
  refine VO (jK (.agg g2.toArray) (g2.toArray) d rfl rfl aC oc nb rfl (fun o1 d => ln (jG (Wh e2 (Wh c7 (VA d Mh g2 aO aC (bS u fun t k1 u => ?_)))))))
  refine VE (eD d (Cb (Pb Pz) Cn) call90 (fun p => (m0 k N D (.slice d9 D.Kids.length e1) _ _ p (f6.mono jC.mono (jX.refl _)) k1)) ?_)
  rintro _ r0 m8 n5 d f0 L ⟨r6, e3, rfl, f7⟩
  obtain rfl := e3.symm
  replace d := d.perm (Tb Tn)
  obtain ⟨b7, c3, rfl⟩ := f7.form
  let i1 : Value := (.slice b7 ((t.1).Kids).length c3)
  refine VE (jY (cs := #[(.int .i64 ((t.1).Op)), (.int .i64 ((t.1).K)), (.string (((t.1).jr).ju)), (.string (((t.1).jr).jy)), i1]) d (lM rfl) (mf aD aC aQ) (fun o3 q2 d => ?_))
  replace d := d.perm (Nr (Qb (Qb (Qb (Qb (Qb Qz))))) Nz)
  refine bS u fun m3 i5 u => VE (pp (B := a8) jC d dc aD lL.1 lL.2.1 rfl lL.2.2.1 lL.2.2.2 rfl rfl (Y.mono jC f0) (xt.lit jC (l := [t.1]) (.cons (ys := [(.int .i64 ((t.1).Op)), (.int .i64 ((t.1).K)), (.string (((t.1).jr).ju)), (.string (((t.1).jr).jy)), i1]) (jt.mk ⟨i1, rfl, f7⟩) .nil) rfl nb (d.at_ (Ma Mh))) i5 (fun o4 m5 l8 d i3 => Wa (jT (kl (jH ?_)))))
  replace d := d.jv (Kr (Db (Kb (Db St))))
  exact ⟨n, m5, m3, l8, t.2, m8, _, ⟨rfl, s⟩, (H.trans f0), (m.trans L), (d.jv (Sb (Pr Pz) (Sb (Pr Pz) (Sb (Pr Pz) St)))), c7, c8, c9, rfl, f4, i3, (by rw [l4]; exact u)⟩
 rintro E W ⟨b0, U, a8, N, Q, f1, ⟨n, s⟩, H, m, d, c7, c8, c9, e2, f4, Y, u⟩
 rw [aM] at u
 refine jH (jL (sg (V (jE nn c8) (VB d (Mt (Mt Mh)) rfl rfl bR (Wi rfl (ln (CI u rfl (fun i6 u => ?_) (fun i6 u => ?_))))))))
 ·refine sg (Wh c7 (V (jE nn c8) (VB d (Mt (Mt Mh)) rfl rfl bR (Wh e2 ?_))))
  replace d := d.perm (Nr (Qb (Qb (Qb Qz))) Nz)
  obtain ⟨s1, d, g7, O, k8⟩ := ST.tS jC d Y
  refine bS u fun x k2 u => ?_
  let l7 : Value := (.string (((x.1).jr).jy))
  let i2 : Value := (.string (((x.1).jr).ju))
  refine VE (eD d (Cb Pz Cn) call130 (fun p => (vi k N g.Op b0 U _ _ p (k8.mono jC.mono (jX.refl _)) k2)) ?_)
  rintro _ r1 s2 n6 d g8 P ⟨r7, e4, rfl, f8⟩
  obtain rfl := e4.symm
  replace d := d.perm (Tb Tn)
  obtain ⟨b9, c4, rfl⟩ := f8.form
  let g5 : Value := (.slice b9 ((x.1).Kids).length c4)
  let d7 : Value := (.agg #[(.int .i64 ((x.1).Op)), (.int .i64 ((x.1).K)), i2, l7, g5])
  replace d := d.perm (Nb (Pb Pz) Nz)
  refine VO (jK d7 (#[(.int .i64 ((x.1).Op)), (.int .i64 ((x.1).K)), i2, l7, g5]) d c9 rfl aC oc nb rfl (fun o6 d => ln ?_))
  replace d := d.jv (Kb (Kb (Db St)))
  refine ke (ki ?_)
  obtain rfl := sj u
  exact mP (v := d7) rfl c9 (jD d.has Mh [(.int .i64 ((x.1).Op)), (.int .i64 ((x.1).K)), i2, l7, g5] rfl aO aC) ⟨_, _, _, rfl, (d.lU (Db (Kb Sn))), ((H.trans g7).trans g8), ((m.trans O).trans P), (ST.kI d (mz.mem (Db (Kb Sn)))), g5, rfl, rfl, f8⟩
 refine kg (V (jE rG c8) (VB d (Mt (Mt Mh)) rfl rfl bR (Wa (ln ?_))))
 replace d := d.jv (Kb (Kb (Db St)))
 let o2 := ((mo N).toArray : Array Value)
 refine sg (Wa (lS (Wh e2 (V (sG aD rfl Y) (Wm (ln (CJ u (fun e9 E W => ∃ b1 f3 g3, ST false (keys b8) w W Q ((k, Obj.cells o2 143 (0, 0)) :: ((b5, Ol C3 30) :: (f3 ++ g3))) ∧ E 0 = i0 ∧ E 4 = h9 ∧ E 8 = (.int .i64 e9.1) ∧ E 9 = b1 ∧ kB 30 jt 5 Q b1 e9.2 f3) (fun e9 j8 => ?_) ?_)))))))
 ·refine kA (fun i E W => ∃ a5 a4 a9 T f2, (E 42 = .int .i64 (i : Nat) ∧ E 41 = .int .i64 (U.length : Nat)) ∧ ST false (keys b8) w W Q ((k, Obj.cells o2 143 (0, 0)) :: ((b5, Ol C3 30) :: (T ++ (a8 ++ f2)))) ∧ E 0 = i0 ∧ E 4 = h9 ∧ E 8 = (.int .i64 a5) ∧ E 9 = a4 ∧ E 40 = b0 ∧ kB 30 jt 5 Q a4 a9 T ∧ mQ (U.drop i) a5 a9 = some e9) U.length Y.len ⟨g.K, (.slice none 0 0), ([]), [], _, ⟨rfl, rfl⟩, (d.jv St), c7, c9, rfl, rfl, rfl, (kB.nil _ _ _ _), j8⟩ dc dc dc (fun _ _ _ h => by obtain ⟨_, _, _, _, _, q, _⟩ := h; exact q) ?_ ?_
  ·rintro m2 E W j7 ⟨a5, a4, a9, T, f2, ⟨n, s⟩, d, d2, d3, d4, d5, d6, a7, j⟩
   obtain ⟨a, n4, l6, l5, e8⟩ := ku j7
   rw [l6] at j
   refine bg (VQ (lg (i := (m2 : Int)) jt.out aD aC d6 n Y (aG _) l5) (fun q6 ⟨_, ⟨r5, rfl, b6⟩, k0, n2⟩ => V (jx rfl (jS (nA.hp _) (k0.mono (lR (fun b o hq => d.has.2 b o (Mt (Mt (Ma (Ml hq))))))) aO aC)) (VE (jU d aQ (fun p5 q3 d => ?_)))))
   obtain ⟨J, K, rfl⟩ := b6.form
   let n0 : Value := (.slice J a.Kids.length K)
   let b4 := (C1 a.Op a.K a.jr.ju a.jr.jy J a.Kids.length K)
   refine VO (jK (.agg b4.toArray) (b4.toArray) d rfl rfl aC oc nb rfl (fun p6 d => lr (VA d Mh b4 aO aC (bS j fun q7 k6 j => VE (Eg d call131 (jZ.lG (yy a n0 2 _ _ (b6.mono jC.mono d.jF) k6)) (fun p7 d => ln (CI j rfl (fun j3 j => ?_) (fun j3 j => ?_))))))))
   ·refine jG (Wh d4 (Wi rfl (Wa (jT (kl (jH ?_))))))
    replace d := d.jv (Db St)
    exact ⟨n, (wi0 .i64 (a5 - 1)), a4, a9, T, _, ⟨rfl, s⟩, (d.jv St), d2, d3, rfl, d5, d6, a7, (by rw [e8]; exact j)⟩
   refine sg (VA d Mh b4 aO aC (bS j fun q8 k7 j => VE (Eg d call131 (jZ.lG (yy a n0 3 _ _ (b6.mono jC.mono d.jF) k7)) (fun p8 d => V (nt rfl) (ln (CI j rfl (fun j4 j => ?_) (fun j4 j => ?_)))))))
   ·refine jG (Wh d5 (VA d Mh b4 aO aC (VE (jY (cs := b4.toArray) d (lM rfl) (mf aD aC aQ) (fun p9 q4 d => ?_)))))
    replace d := d.perm (Nr (Qb (Qb (Qb (Qb Qz)))) Nz)
    refine bS j fun m4 j5 j => VE (pp (B := T) jC d dc aD lL.1 lL.2.1 rfl lL.2.2.1 lL.2.2.2 rfl rfl a7 (xt.lit jC (l := [a]) (.cons (ys := C1 a.Op a.K a.jr.ju a.jr.jy J a.Kids.length K) (jt.mk ⟨n0, rfl, b6⟩) .nil) rfl nb (d.at_ (Ma Mh))) j5 (fun q0 m6 l9 d i4 => Wa (jT (kl (jH ?_)))))
    replace d := d.jv (Kr (Db (Db St)))
    exact ⟨n, a5, m6, m4, l9, _, ⟨rfl, s⟩, (d.jv (Sb (Pr Pz) (Sb (Pr Pz) St))), d2, d3, d4, rfl, d6, i4, (by rw [e8]; exact j)⟩
   refine kQ (kl (jH ?_))
   replace d := d.jv (Db St)
   exact ⟨n, a5, a4, a9, T, _, ⟨rfl, s⟩, (d.jv St), d2, d3, d4, d5, d6, a7, (by rw [e8]; exact j)⟩
  rintro E W ⟨a5, a4, a9, T, f2, ⟨n, s⟩, d, d2, d3, d4, d5, d6, a7, j⟩
  rw [aM] at j
  refine jH ?_
  obtain rfl := sj j
  exact ⟨a4, T, _, (d.jv (Kb (Kb (Kr (Dr St))))), d2, d3, d4, d5, a7⟩
 rintro ⟨b2, f5⟩ E W ⟨b1, f3, g3, d, g4, M, d0, d1, a6⟩ c
 refine jL (sg (Wh d0 (Wi rfl (ln (CI c rfl (fun i7 c => ?_) (fun i7 c => ?_))))))
 ·refine sg (V (lf (v := (.agg Bk.toArray)) (lM rfl) (kH aQ bA (tq _ bA) kr)) ?_)
  replace d := d.perm (Nb (Pb Pz) Nz)
  refine VO (jK (.agg Bk.toArray) (Bk.toArray) d M rfl aC oc nb rfl (fun o7 d => ln ?_))
  replace d := d.jv (Kb (Kb (Dr St)))
  refine ke (ki ?_)
  obtain rfl := sj c
  exact mP (v := (.agg Bk.toArray)) rfl M (jD d.has Mh Bk rfl aO aC) ⟨_, _, _, rfl, (d.lU (Db (Kb Sn))), H, m, (ST.kI d (mz.mem (Db (Kb Sn)))), (.slice none 0 0), rfl, rfl, (Sl.nil _ _ _)⟩
 refine kS (Wh d0 (Wh d1 (V (sG aD rfl a6) (Wi rfl (ln (CI c rfl (fun i8 c => ?_) (fun i8 c => ?_)))))))
 ·refine sg (V (lf (v := (.agg FA.toArray)) (lM rfl) (kH aQ bA (tq _ bA) kr)) ?_)
  replace d := d.perm (Nb (Pb Pz) Nz)
  refine VO (jK (.agg FA.toArray) (FA.toArray) d M rfl aC oc nb rfl (fun o8 d => ln ?_))
  replace d := d.jv (Kb (Kb (Dr St)))
  refine ke (ki ?_)
  obtain rfl := sj c
  exact mP (v := (.agg FA.toArray)) rfl M (jD d.has Mh FA rfl aO aC) ⟨_, _, _, rfl, (d.lU (Db (Kb Sn))), H, m, (ST.kI d (mz.mem (Db (Kb Sn)))), (.slice none 0 0), rfl, rfl, (Sl.nil _ _ _)⟩
 refine kS (Wh d0 (Wh d1 (V (sG aD rfl a6) (Wi rfl (ln (CI c rfl (fun i9 c => ?_) (fun i9 c => ?_)))))))
 ·refine sg (Wh g4 (Wh d1 ?_))
  replace d := d.perm (Nr (Qb (Qb Qz)) Nz)
  obtain ⟨s3, d, g9, R, k9⟩ := ST.tS jC d a6
  refine bS c fun y k3 c => ?_
  let m7 : Value := (.string (((y.1).jr).jy))
  let j1 : Value := (.string (((y.1).jr).ju))
  refine VE (eD d (Cb Pz Cn) call130 (fun p => (vi k N 2 b1 f5 _ _ p (k9.mono jC.mono (jX.refl _)) k3)) ?_)
  rintro _ r2 s4 n7 d h1 aa ⟨r8, e5, rfl, f9⟩
  obtain rfl := e5.symm
  replace d := d.perm (Tb Tn)
  obtain ⟨c0, c5, rfl⟩ := f9.form
  let g6 : Value := (.slice c0 ((y.1).Kids).length c5)
  let d8 : Value := (.agg #[(.int .i64 ((y.1).Op)), (.int .i64 ((y.1).K)), j1, m7, g6])
  replace d := d.perm (Nb (Pb Pz) Nz)
  refine VO (jK d8 (#[(.int .i64 ((y.1).Op)), (.int .i64 ((y.1).K)), j1, m7, g6]) d M rfl aC oc nb rfl (fun p0 d => lt (ki ?_)))
  obtain rfl := sj c
  exact mP (v := d8) rfl M (jD d.has Mh [(.int .i64 ((y.1).Op)), (.int .i64 ((y.1).K)), j1, m7, g6] rfl aO aC) ⟨_, _, _, rfl, (d.lU (Db (Kb Sn))), ((H.trans g9).trans h1), ((m.trans R).trans aa), (ST.kI d (mz.mem (Db (Kb Sn)))), g6, rfl, rfl, f9⟩
 refine kS (Wh d0 (Wi rfl (ln (CI c rfl (fun j0 c => ?_) (fun j0 c => ?_)))))
 ·refine sg (Wh g4 (Wh d1 ?_))
  replace d := d.perm (Nr (Qb (Qb Qz)) Nz)
  obtain ⟨s5, d, h2, ab, l0⟩ := ST.tS jC d a6
  refine bS c fun z k4 c => ?_
  let m9 : Value := (.string (((z.1).jr).jy))
  let j2 : Value := (.string (((z.1).jr).ju))
  refine VE (eD d (Cb Pz Cn) call130 (fun p => (vi k N 3 b1 f5 _ _ p (l0.mono jC.mono (jX.refl _)) k4)) ?_)
  rintro _ r3 s6 n8 d h3 ad ⟨r9, e6, rfl, g0⟩
  obtain rfl := e6.symm
  replace d := d.perm (Tb Tn)
  obtain ⟨c1, c6, rfl⟩ := g0.form
  let h7 : Value := (.slice c1 ((z.1).Kids).length c6)
  let e0 : Value := (.agg #[(.int .i64 ((z.1).Op)), (.int .i64 ((z.1).K)), j2, m9, h7])
  replace d := d.perm (Nb (Pb Pz) Nz)
  refine VO (jK e0 (#[(.int .i64 ((z.1).Op)), (.int .i64 ((z.1).K)), j2, m9, h7]) d M rfl aC oc nb rfl (fun p2 d => lt (ki ?_)))
  obtain rfl := sj c
  exact mP (v := e0) rfl M (jD d.has Mh [(.int .i64 ((z.1).Op)), (.int .i64 ((z.1).K)), j2, m9, h7] rfl aO aC) ⟨_, _, _, rfl, (d.lU (Db (Kb Sn))), ((H.trans h2).trans h3), ((m.trans ab).trans ad), (ST.kI d (mz.mem (Db (Kb Sn)))), h7, rfl, rfl, g0⟩
 refine kg (Wh d0 (Wh d1 ?_))
 replace d := d.perm (Nr (Qb (Qb Qz)) Nz)
 obtain ⟨s7, d, h4, ae, l1⟩ := ST.tS jC d a6
 refine bS c fun a3 k5 c => ?_
 refine VE (eD d (bT _) call132 (fun p => (Cq b1 f5 false _ _ p (l1.mono jC.mono (jX.refl _)) k5)) ?_ (L0 := []))
 rintro _ r4 s8 n9 d h5 af ⟨s0, e7, rfl, g1⟩
 obtain rfl := e7.symm
 obtain ⟨Z, a2, rfl⟩ := g1.form
 let h8 := (Tc b2 Z a3.length a2)
 refine V (lf (v := (.agg h8.toArray)) (ER rfl rfl rfl) (kH aQ bA (tq _ bA) kr)) ?_
 replace d := d.perm (Nb (Pb Pz) Nz)
 refine VO (jK (.agg h8.toArray) (h8.toArray) d M rfl aC oc nb rfl (fun p4 d => lt ?_))
 obtain rfl := sj c
 exact mP (v := (.agg h8.toArray)) rfl M (jD d.has Mh h8 rfl aO aC) ⟨_, _, _, rfl, (d.lU (Db (Kb Sn))), ((H.trans h4).trans h5), ((m.trans ae).trans af), (ST.kI d (mz.mem (Db (Kb Sn)))), (.slice Z a3.length a2), rfl, rfl, g1⟩
theorem xG : ∀ (n : Nat) (c : Nat) (j : kY) (g : Formula) (a : Value) (r : (Formula × kY)) (w : World) {k : jW} (y : ny k ((c, Ol (mo j) 143) :: []) w) (i : Sl jt 5 k a g.Kids) (_ : mV n j g = some r),
  lO false pg0 90 [(.pointer (some ⟨c, 0, none⟩)), (.agg #[(.int .i64 g.Op), (.int .i64 g.K), (.string g.jr.ju), (.string g.jr.jy), a])] w k ((c, Ol (mo j) 143) :: []) (fun v u x => ∃ t, v = (.agg #[(.int .i64 ((r.1).Op)), (.int .i64 ((r.1).K)), (.string (((r.1).jr).ju)), (.string (((r.1).jr).jy)), t]) ∧ u = ((c, Ol (mo (r.2)) 143) :: []) ∧ Sl jt 5 x t ((r.1).Kids))
 | 0 => by intros; rename_i h; simp only [mV] at h; cases h
 | n + 1 => zV (mV n) (xG n)
theorem G7 (c : Formula) (u : Value) (r : (Formula × Int)) (w : World) {Z : jW} (L : ny Z [] w) (k : Sl jt 5 Z u c.Kids) (hm : yD c = some r) :
  lO false pg0 67 [(.agg #[(.int .i64 c.Op), (.int .i64 c.K), (.string c.jr.ju), (.string c.jr.jy), u])] w Z [] (fun v L1 μ1 => ∃ q, v = (.tuple #[(.agg #[(.int .i64 ((r.1).Op)), (.int .i64 ((r.1).K)), (.string (((r.1).jr).ju)), (.string (((r.1).jr).jy)), q]), (.int .i64 (r.2))]) ∧ L1 = [] ∧ Sl jt 5 μ1 q ((r.1).Kids)) := by
 refine uB L 26 func67 rfl (fun b => sg ?_)
 obtain ⟨H, I, rfl⟩ := k.form
 let n := (C1 c.Op c.K c.jr.ju c.jr.jy H c.Kids.length I)
 refine VE (kv b rfl (fun W4 P b => VE (jU b aQ (fun W6 p b => Wa (lS (VA b (Mt Mh) n aO aC (bS hm fun r7 a5 hm => VE (Eg b call89 (xX c (.slice H c.Kids.length I) _ _ (k.mono jC.mono b.jF) a5) (fun W9 b => V (nt rfl) (ln (CI hm rfl (fun Q hm => ?_) (fun Q hm => ?_))))))))))))
 ·refine sg (V (lf (v := (.agg C3.toArray)) pu (kH aQ bA (tq _ bA) kr)) (VO (jK (.agg C3.toArray) (C3.toArray) b rfl rfl aC oc nb rfl (fun b6 b => Wa (ln ?_)))))
  replace b := b.jv (Kb (Db St))
  refine ke (ki ?_)
  obtain rfl := sj hm
  exact rf (v0 := (.agg C3.toArray)) (v1 := (.int .i64 11)) rfl rfl (jD b.has Mh C3 rfl aO aC) rfl ⟨_, _, _, rfl, (b.lU Sn), (jX.refl _), Lo.refl, (ST.kI b (mz.mem Sn)), (.slice none 0 0), rfl, rfl, (Sl.nil _ _ _)⟩
 refine kg (V (lf (v := (.agg (mo (⟨false⟩ : kY)).toArray)) pu (kH zeroValue143 iP (SF _ iP) kr)) (VE (kv b rfl (fun b7 s b => Wa (lr (Wm (VA b (Mt (Mt Mh)) n aO aC (bS hm fun a U hm => ?_))))))))
 let m : Value := (.int .i64 ((a.1).K))
 let l : Value := (.int .i64 ((a.1).Op))
 let h : Value := (.string (((a.1).jr).jy))
 let a2 : Value := (.string (((a.1).jr).ju))
 refine VE (eD b (Cb Pz Cn) call90 (fun O => ((xG kd) s (⟨false⟩ : kY) c (.slice H c.Kids.length I) _ _ O (k.mono jC.mono (jX.refl _)) U)) ?_)
 rintro _ c7 a9 R b D d ⟨c9, y, rfl, z⟩
 obtain rfl := y.symm
 replace b := b.perm (Tb Tn)
 refine VE (jU b aQ (fun c0 K b => ?_))
 obtain ⟨i, j, rfl⟩ := z.form
 let a0 : Value := (.slice i ((a.1).Kids).length j)
 let N : Value := (.agg #[l, m, a2, h, a0])
 refine VO (jK N (#[l, m, a2, h, a0]) b rfl rfl aC oc nb rfl (fun c1 b => ln ?_))
 replace b := b.jv (Kb (Kb (Kb (Db St))))
 refine jL (sg (Wm (Wn (Wf HM (VB b (Mt Mh) rfl rfl jl (Wm (LJ hm (fun M E W => ∃ J, ST false (keys []) w W a9 ((K, Ob #[l, m, a2, h, a0] 30) :: ((p, Ol C3 30) :: J)) ∧ E 2 = (.pointer (some ⟨p, 0, none⟩)) ∧ E 5 = (.pointer (some ⟨K, 0, none⟩)) ∧ E 23 = (.bool M)) 4 ?_ (fun M t G => ?_))))))))
 ·rintro c8 E W ⟨J, b, B, a3, a4⟩ x
  refine ln (CI x a4 (fun T x => ?_) (fun T x => ?_))
  ·refine sg (V (lf (v := (.agg C3.toArray)) pu (kH aQ bA (tq _ bA) kr)) ?_)
   replace b := b.perm (Nb (Pb Pz) Nz)
   refine VO (jK (.agg C3.toArray) (C3.toArray) b B rfl aC oc nb rfl (fun c3 b => Wa (ln ?_)))
   replace b := b.jv (Kb (Db St))
   refine ke (ki ?_)
   obtain rfl := sj x
   exact rf (v0 := (.agg C3.toArray)) (v1 := (.int .i64 12)) rfl B (jD b.has Mh C3 rfl aO aC) rfl ⟨_, _, _, rfl, (b.lU Sn), D, d, (ST.kI b (mz.mem Sn)), (.slice none 0 0), rfl, rfl, (Sl.nil _ _ _)⟩
  refine kg (V (jx a3 (jD b.has Mh [l, m, a2, h, a0] rfl aO aC)) ?_)
  replace b := b.perm (Nb (Pb Pz) Nz)
  refine VO (jK N (#[l, m, a2, h, a0]) b B rfl aC oc nb rfl (fun c4 b => Wa (ln ?_)))
  replace b := b.jv (Kb (Db St))
  refine ke ?_
  obtain rfl := sj x
  exact rf (v0 := N) (v1 := (.int .i64 0)) rfl B (jD b.has Mh [l, m, a2, h, a0] rfl aO aC) rfl ⟨_, _, _, rfl, (b.lU Sn), D, d, (ST.kI b (mz.mem Sn)), a0, rfl, rfl, z⟩
 refine bC t (fun g t => ?_) (fun g t => ?_)
 ·refine un g (un g (un g (V (jO (cB g) rfl) ?_)))
  obtain rfl := sj t
  exact G _ _ ⟨_, (b.jv (Kb (Db St))), rfl, rfl, rfl⟩
 refine ug g (jx rfl (jD b.has Mh [l, m, a2, h, a0] rfl aO aC)) (bS t fun c6 Y t => tM g (Eg b call89 (xX a.1 a0 _ _ (z.mono jC.mono b.jF) Y) (fun c5 b => ug g (nt rfl) (V (jP (cB g) rfl) ?_))))
 obtain rfl := sj t
 exact G _ _ ⟨_, (b.jv (Kb (Db St))), rfl, rfl, rfl⟩
theorem Fq (k : Value) (u : List js) (g : js) (r : Bool) (w : World) (j : Sl (Pl jw) 9 (hp w) k u) (hm : xH u g = some r) :
  jZ true pg0 36 [k, (.agg (jw g).toArray)] w (.bool r) := by
 refine cG 17 func36 rfl (fun b => sg (VE (kv b rfl (fun Y J b => Wa (lS (Wm (V (kK aH rfl j) (Wm (ln ?_)))))))))
 refine kA (fun i E W => ∃ t, (E 9 = .int .i64 (i : Nat) ∧ E 8 = .int .i64 (u.length : Nat)) ∧ ST true kw w W (hp w) ((J, Ol (jw g) 49) :: t) ∧ E 3 = (.pointer (some ⟨J, 0, none⟩)) ∧ E 7 = k ∧ wZ g (u.drop i) = some r) u.length j.len ⟨_, ⟨rfl, rfl⟩, (b.jv St), rfl, rfl, hm⟩ dc dc dc (fun _ _ _ h => by obtain ⟨_, l, _⟩ := h; exact l) ?_ ?_
 ·rintro K E W B ⟨t, ⟨d, m⟩, b, x, y, a⟩
  obtain ⟨c, M, H, G, I⟩ := ku B
  rw [H] at a
  refine bg (VQ (mZ (enc := jw) (i := (K : Int)) (x0 := c) aH aN y d j (aG _) G) (fun U D => V (jx rfl (jS b.has D bQ aN)) (VE (jU b cK (fun N T b => VO (jK (.agg (jw c).toArray) ((jw c).toArray) b rfl rfl aN (mH c) nb rfl (fun Q b => lr (VA b Mh (jw c) bQ aN (V (jx x (jD b.has (Mt Mh) (jw g) rfl bQ aN)) (V (uT rfl rfl (nl fk) (rh (wO _ c g))) (jT ?_)))))))))))
  refine jH ?_
  replace b := b.jv (Db St)
  refine CI a rfl (fun z a => ?_) (fun z a => ?_)
  ·refine sg (Wa (ln ?_))
   replace b := b.jv (Db St)
   refine ke (mc (ki (mc (ki ?_))))
   obtain rfl := sj a
   exact rP b
  exact kQ (kl (jH ⟨d, _, ⟨rfl, m⟩, (b.jv St), x, y, (by rw [I]; exact a)⟩))
 rintro E W ⟨t, ⟨d, m⟩, b, x, y, a⟩
 rw [aM] at a
 refine jH ?_
 replace b := b.jv (Db St)
 exact sg (Wa (lt (rQ a b)))
set_option maxHeartbeats 4000000 in
theorem L4 (Y : kL) (b3 c5 : Value) (p : js) (r : (Formula × Int)) (w : World) {μ0 : jW} (h0 : ny μ0 [] w) (I : Sl kz 15 μ0 b3 Y.jN) (Q : Sl lF 8 μ0 c5 Y.ky) (hm : Aw Y p = some r) :
  lO false pg0 39 [(.agg #[(.string Y.Name), b3, c5]), (.agg (jw p).toArray)] w μ0 [] (fun v L1 μ1 => ∃ y1, v = (.tuple #[(.agg #[(.int .i64 ((r.1).Op)), (.int .i64 ((r.1).K)), (.string (((r.1).jr).ju)), (.string (((r.1).jr).jy)), y1]), (.int .i64 (r.2))]) ∧ L1 = [] ∧ Sl jt 5 μ1 y1 ((r.1).Kids)) := by
 refine uB h0 62 func39 rfl (fun b => sg ?_)
 obtain ⟨A1, c2, rfl⟩ := I.form
 obtain ⟨A3, c4, rfl⟩ := Q.form
 refine VE (kv b rfl (fun W6 b5 b => VE (kv b rfl (fun W8 R b => VE (jU b aQ (fun p4 b9 b => Wa (lS (Wf AM (VB b (Mt (Mt Mh)) rfl rfl isAgg22 (V (kK er rfl I) (Wm (ln ?_))))))))))))
 refine kA (fun i E W => ∃ e6, (E 15 = .int .i64 (i : Nat) ∧ E 14 = .int .i64 (Y.jN.length : Nat)) ∧ ST false (keys []) w W μ0 ((b9, Ol C3 30) :: ((R, Ol (jw p) 49) :: ((b5, Ol (C9 Y.Name A1 Y.jN.length c2 A3 Y.ky.length c4) 25) :: e6))) ∧ E 2 = (.pointer (some ⟨b5, 0, none⟩)) ∧ E 3 = (.pointer (some ⟨R, 0, none⟩)) ∧ E 4 = (.pointer (some ⟨b9, 0, none⟩)) ∧ E 13 = (.slice A1 Y.jN.length c2) ∧ vT p Y (Y.jN.drop i) = some r) Y.jN.length I.len ⟨_, ⟨rfl, rfl⟩, (b.jv St), rfl, rfl, rfl, rfl, hm⟩ dc dc dc (fun _ _ _ h => by obtain ⟨_, O, _⟩ := h; exact O) ?_ ?_
 ·let f2 : Value := (.pointer (some ⟨b9, 0, none⟩))
  rintro k8 E W i4 ⟨e6, ⟨L, eN⟩, b, f0, d2, b0, f1, t⟩
  obtain ⟨c, l6, j7, j6, j8⟩ := ku i4
  rw [j7] at t
  refine bg (VQ (lI (i := (k8 : Int)) (x0 := c) kz.out er dT f1 L I (aG _) j6) (fun n6 ⟨_, ⟨n9, o0, rfl, j4, f3⟩, i7⟩ => V (jx rfl (jS b.has i7 ja dT)) (VE (jU b fD (fun m1 n5 b => ?_)))))
  obtain ⟨g0, g4, rfl⟩ := j4.form
  obtain ⟨c7, d0, rfl⟩ := f3.form
  let a0 := (C4 c.Signed.js.Kind c.Signed.js.Head.ju c.Signed.js.Head.jy c.Signed.js.kE c.Signed.js.B.ju c.Signed.js.B.jy c.Signed.js.C.ju c.Signed.js.C.jy c.Signed.js.kM g0 c.Signed.Tag.length g4 c.jB.Op c.jB.K c.jB.jr.ju c.jB.jr.jy c7 c.jB.Kids.length d0)
  refine VO (jK (.agg a0.toArray) (a0.toArray) b rfl rfl dT oc nb rfl (fun m2 b => lS (Wf AK (Wf Bd (VA b Mh (jw c.Signed.js) bQ aN (V (jx d2 (jD b.has (Mt (Mt Mh)) (jw p) rfl bQ aN)) (V (Hc rfl rfl (nl fk) (Cc (wO _ c.Signed.js p))) (ln (CI t rfl (fun i1 t => ?_) (fun i1 t => ?_))))))))))
  ·refine mW (mK (qG (jH ?_)))
   replace b := b.jv (Db St)
   exact ⟨L, _, ⟨rfl, eN⟩, (b.jv St), f0, d2, b0, f1, (by rw [j8]; exact t)⟩
  refine kg (Wf JR (VA b Mh (C1 c.jB.Op c.jB.K c.jB.jr.ju c.jB.jr.jy c7 c.jB.Kids.length d0) aO aC (bS t fun j i9 t => ?_)))
  refine VE (eD b (bT _) call67 (fun hh => (G7 c.jB (.slice c7 c.jB.Kids.length d0) _ _ hh (f3.mono jC.mono (jX.refl _)) i9)) ?_ (L0 := []))
  rintro _ o1 c0 l9 b c3 m ⟨o6, e0, rfl, f8⟩
  obtain rfl := e0.symm
  refine Wm (Wx rfl (Wx rfl (VE (jU b aQ (fun m4 a5 b => ?_)))))
  let g5 : Value := (.pointer (some ⟨a5, 0, none⟩))
  obtain ⟨e4, e8, rfl⟩ := f8.form
  let g6 : Value := (.slice e4 ((j.1).Kids).length e8)
  refine VO (jK (.agg #[(.int .i64 ((j.1).Op)), (.int .i64 ((j.1).K)), (.string (((j.1).jr).ju)), (.string (((j.1).jr).jy)), g6]) (#[(.int .i64 ((j.1).Op)), (.int .i64 ((j.1).K)), (.string (((j.1).jr).ju)), (.string (((j.1).jr).jy)), g6]) b rfl rfl aC oc nb rfl (fun m5 b => Wa (ln ?_)))
  replace b := b.jv (Kb (Db St))
  refine jL (sg (V (jE Jx f0) (VB b (Mt (Mt (Mt Mh))) rfl rfl isAgg23 (V (kK dx rfl Q) (Wm (ln ?_))))))
  replace b := b.jv (Kb (Kb (Kb (Db St))))
  refine CJ t (fun T E W => ∃ d9 c1 g1, jX c0 c1 ∧ Lo (keys []) w c0 c1 ∧ ST false (keys []) w W c1 ((a5, Ob #[(.int .i64 T.2.1), (.int .i64 T.2.2.1), (.string T.2.2.2.1.ju), (.string T.2.2.2.1.jy), d9] 30) :: ((b9, Ol C3 30) :: g1)) ∧ E 4 = f2 ∧ E 8 = g5 ∧ E 9 = (.int .i64 T.1) ∧ Sl jt 5 c1 d9 T.2.2.2.2) (fun T i6 => ?_) ?_
  ·refine kA (fun i E W => ∃ P u x g U z J e7, (E 33 = .int .i64 (i : Nat) ∧ E 32 = .int .i64 (Y.ky.length : Nat)) ∧ jX c0 J ∧ Lo (keys []) w c0 J ∧ ST false (keys []) w W J ((a5, Ob #[(.int .i64 u), (.int .i64 x), (.string g.ju), (.string g.jy), U] 30) :: ((b9, Ol C3 30) :: ((R, Ol (jw p) 49) :: e7))) ∧ E 3 = (.pointer (some ⟨R, 0, none⟩)) ∧ E 4 = f2 ∧ E 8 = g5 ∧ E 9 = (.int .i64 P) ∧ E 31 = (.slice A3 Y.ky.length c4) ∧ Sl jt 5 J U z ∧ sQ p (Y.ky.drop i) P u x g z = some T) Y.ky.length Q.len ⟨j.2, ((j.1).Op), ((j.1).K), ((j.1).jr), g6, ((j.1).Kids), c0, _, ⟨rfl, rfl⟩, (jX.refl _), Lo.refl, (b.jv St), d2, b0, rfl, rfl, rfl, f8, i6⟩ dc dc dc (fun _ _ _ h => by obtain ⟨_, _, _, _, _, _, _, _, O, _⟩ := h; exact O) ?_ ?_
   ·rintro h4 E W i5 ⟨P, u, x, g, U, z, J, e7, ⟨L, eN⟩, Z, d, b, d4, d5, d6, b1, d7, a3, K⟩
    obtain ⟨a, l7, k0, j9, f7⟩ := ku i5
    rw [k0] at K
    refine bg (VQ (lI (i := (h4 : Int)) (x0 := a) lF.out dx ee d7 L (Q.mono mI.mono (c3.trans Z)) (aG _) j9) (fun n7 ⟨_, ⟨o2, o3, rfl, f5, f6⟩, i8⟩ => V (jx rfl (jS b.has i8 jq ee)) (VE (jU b gV (fun m8 g3 b => ?_)))))
    obtain ⟨D, G, rfl⟩ := f5.form
    let h6 : Value := (.slice D a.jB.Kids.length G)
    obtain ⟨c8, d1, rfl⟩ := f6.form
    let b8 := (C8 a.jr.ju a.jr.jy a.jB.Op a.jB.K a.jB.jr.ju a.jB.jr.jy D a.jB.Kids.length G c8 a.mu.length d1)
    refine VO (jK (.agg b8.toArray) (b8.toArray) b rfl rfl ee oc nb rfl (fun m9 b => lr (Wh b1 (Wi rfl (Wm (LJ K (fun h5 E W => ∃ g2, ST false (keys []) w W J ((g3, Ol b8 82) :: ((a5, Ob #[(.int .i64 u), (.int .i64 x), (.string g.ju), (.string g.jy), U] 30) :: ((b9, Ol C3 30) :: ((R, Ol (jw p) 49) :: g2)))) ∧ E 3 = (.pointer (some ⟨R, 0, none⟩)) ∧ E 4 = f2 ∧ E 8 = g5 ∧ E 9 = (.int .i64 P) ∧ E 11 = (.pointer (some ⟨g3, 0, none⟩)) ∧ E 31 = (.slice A3 Y.ky.length c4) ∧ E 32 = (.int .i64 (Y.ky.length : Int)) ∧ E 33 = (.int .i64 (h4 : Int)) ∧ E 44 = (.bool h5)) 5 ?_ (fun h5 N e3 => ?_)))))))
    ·rintro o5 E W ⟨g2, b, g8, g9, d8, k5, k6, h1, h2, h3, k7⟩ M
     refine ln (CI M k7 (fun i3 M => ?_) (fun i3 M => ?_))
     ·refine jG (V (jx d8 (jD b.has (Mt Mh) [(.int .i64 u), (.int .i64 x), (.string g.ju), (.string g.jy), U] rfl aO aC)) (V (jE JL k6) (VA b Mh (C1 a.jB.Op a.jB.K a.jB.jr.ju a.jB.jr.jy D a.jB.Kids.length G) aO aC ?_)))
      obtain ⟨a4, a6, rfl⟩ := a3.form
      refine VE (jY (cs := #[(.int .i64 u), (.int .i64 x), (.string g.ju), (.string g.jy), (.slice a4 z.length a6), (.int .i64 a.jB.Op), (.int .i64 a.jB.K), (.string a.jB.jr.ju), (.string a.jB.jr.jy), h6]) b (ov rfl rfl) (mf aD aC aQ) (fun n0 c9 b => V (lf (v := (.agg #[(.int .i64 2), (.int .i64 0), (.string zS), (.string zS), (.slice (some ⟨c9, 0, none⟩) 2 2)])) (ov rfl rfl) (kH aQ bA (tq _ bA) kr)) ?_))
      obtain ⟨o8, b, h7, q, j5⟩ := ST.tS (B := [(c9, Ob #[(.int .i64 u), (.int .i64 x), (.string g.ju), (.string g.jy), (.slice a4 z.length a6), (.int .i64 a.jB.Op), (.int .i64 a.jB.K), (.string a.jB.jr.ju), (.string a.jB.jr.jy), h6] 30)]) jC b (kB.lit jC (l := [(⟨u, x, g, z⟩ : Formula), a.jB]) (.cons (ys := C1 u x g.ju g.jy a4 z.length a6) (jt.mk ⟨(.slice a4 z.length a6), rfl, a3⟩) (.cons (ys := C1 a.jB.Op a.jB.K a.jB.jr.ju a.jB.jr.jy D a.jB.Kids.length G) (jt.mk ⟨h6, rfl, f5⟩) .nil)) rfl nb rfl)
      refine bS M fun k j0 M => ?_
      refine VE (eD b (bT _) call67 (fun hh => (G7 (⟨2, 0, K0, [(⟨u, x, g, z⟩ : Formula), a.jB]⟩ : Formula) (.slice (some ⟨c9, 0, none⟩) 2 2) _ _ hh (j5.mono jC.mono (jX.refl _)) j0)) ?_ (L0 := []))
      rintro _ o4 l0 m0 b h8 s ⟨o7, e1, rfl, f9⟩
      obtain rfl := e1.symm
      refine Wm (Wx rfl (Wx rfl ?_))
      obtain ⟨e5, e9, rfl⟩ := f9.form
      let h9 : Value := (.slice e5 ((k.1).Kids).length e9)
      replace b := b.perm (Nb (Pb Pz) Nz)
      refine VO (jK (.agg #[(.int .i64 ((k.1).Op)), (.int .i64 ((k.1).K)), (.string (((k.1).jr).ju)), (.string (((k.1).jr).jy)), h9]) (#[(.int .i64 ((k.1).Op)), (.int .i64 ((k.1).K)), (.string (((k.1).jr).ju)), (.string (((k.1).jr).jy)), h9]) b d8 rfl aC oc nb rfl (fun n2 b => Wa (jT (kl (jH ?_)))))
      replace b := b.jv (Kb (Db St))
      exact ⟨h3, k.2, ((k.1).Op), ((k.1).K), ((k.1).jr), h9, ((k.1).Kids), l0, _, ⟨rfl, h2⟩, ((Z.trans h7).trans h8), ((d.trans q).trans s), (b.jv St), g8, g9, d8, rfl, h1, f9, (by rw [f7]; exact M)⟩
     refine kQ (kl (jH ?_))
     replace b := b.jv (Db St)
     exact ⟨h3, P, u, x, g, U, z, J, _, ⟨rfl, h2⟩, Z, d, (b.jv St), g8, g9, d8, k5, h1, a3, (by rw [f7]; exact M)⟩
    refine bC N (fun y N => ?_) (fun y N => ?_)
    ·refine ug y (jE J3 rfl) (ug y (jx rfl (jJ b.has Mh rfl dY)) (ug y (jx d4 (jD b.has (Mt (Mt (Mt Mh))) (jw p) rfl bQ aN)) (bS N fun n8 j3 N => tM y (Eg b call36 (jZ.lG (Fq (.slice c8 a.mu.length d1) a.mu p _ _ (f6.mono (Pl.mono _) b.jF) j3)) (fun n3 b => V (jO (cB y) rfl) ?_)))))
     obtain rfl := sj N
     exact e3 _ _ ⟨_, (b.jv St), d4, d5, d6, b1, rfl, d7, eN, L, rfl⟩
    refine un y (un y (un y (un y (V (jP (cB y) rfl) ?_))))
    obtain rfl := sj N
    exact e3 _ _ ⟨_, (b.jv St), d4, d5, d6, b1, rfl, d7, eN, L, rfl⟩
   rintro E W ⟨P, u, x, g, U, z, J, e7, ⟨L, eN⟩, Z, d, b, d4, d5, d6, b1, d7, a3, K⟩
   rw [aM] at K
   refine jH ?_
   obtain rfl := sj K
   exact ⟨U, J, _, Z, d, (b.jv (Kb (Kb (Db St)))), d5, d6, b1, a3⟩
  rintro ⟨k9, b4, b6, H, b2⟩ E W ⟨d9, c1, g1, e2, n, b, d3, k4, g7, f4⟩ a2
  refine jL (sg (Wh g7 (Wi rfl (ln (CI a2 rfl (fun i2 a2 => ?_) (fun i2 a2 => ?_))))))
  ·refine sg (V (lf (v := (.agg C3.toArray)) pu (kH aQ bA (tq _ bA) kr)) (Wh g7 ?_))
   replace b := b.perm (Nb (Pb Pz) Nz)
   refine VO (jK (.agg C3.toArray) (C3.toArray) b d3 rfl aC oc nb rfl (fun m6 b => Wa (ln ?_)))
   replace b := b.jv (Kb (Db St))
   refine ke (ki (mc (ki (mc (ki ?_)))))
   obtain rfl := sj a2
   exact rf (v0 := (.agg C3.toArray)) (v1 := (.int .i64 k9)) rfl d3 (jD b.has Mh C3 rfl aO aC) rfl ⟨_, _, _, rfl, (b.lU Sn), (c3.trans e2), (m.trans n), (ST.kI b (mz.mem Sn)), (.slice none 0 0), rfl, rfl, (Sl.nil _ _ _)⟩
  refine kg (V (jx k4 (jD b.has Mh [(.int .i64 b4), (.int .i64 b6), (.string H.ju), (.string H.jy), d9] rfl aO aC)) ?_)
  obtain ⟨a8, a9, rfl⟩ := f4.form
  let c6 := (C1 b4 b6 H.ju H.jy a8 b2.length a9)
  replace b := b.perm (Nb (Pb Pz) Nz)
  refine VO (jK (.agg c6.toArray) (c6.toArray) b d3 rfl aC oc nb rfl (fun m7 b => Wa (ln ?_)))
  replace b := b.jv (Kb (Db St))
  refine ke (mc (ki (mc (ki ?_))))
  obtain rfl := sj a2
  exact rf (v0 := (.agg c6.toArray)) (v1 := (.int .i64 0)) rfl d3 (jD b.has Mh c6 rfl aO aC) rfl ⟨_, _, _, rfl, (b.lU Sn), (c3.trans e2), (m.trans n), (ST.kI b (mz.mem Sn)), (.slice a8 b2.length a9), rfl, rfl, f4⟩
 rintro E W ⟨e6, ⟨L, eN⟩, b, f0, d2, b0, f1, t⟩
 rw [aM] at t
 refine jH ?_
 replace b := b.jv (Kb (Db (Db St)))
 refine sg (V (lf (v := (.agg C3.toArray)) pu (kH aQ bA (tq _ bA) kr)) (VO (jK (.agg C3.toArray) (C3.toArray) b b0 rfl aC oc nb rfl (fun n4 b => Wa (lt ?_)))))
 obtain rfl := sj t
 exact rf (v0 := (.agg C3.toArray)) (v1 := (.int .i64 42)) rfl b0 (jD b.has Mh C3 rfl aO aC) rfl ⟨_, _, _, rfl, (b.lU Sn), (jX.refl _), Lo.refl, (ST.kI b (mz.mem Sn)), (.slice none 0 0), rfl, rfl, (Sl.nil _ _ _)⟩
theorem Km (k : Value) (u : List jr) (g : jr) (r : Bool) (w : World) (j : Sl (Pl jA) 2 (hp w) k u) (hm : zy u g = some r) :
  jZ true pg0 68 [k, (.agg (jA g).toArray)] w (.bool r) := by
 refine cG 17 func68 rfl (fun b => sg (VE (kv b rfl (fun Y J b => Wa (lS (Wm (V (kK ep rfl j) (Wm (ln ?_)))))))))
 refine kA (fun i E W => ∃ t, (E 9 = .int .i64 (i : Nat) ∧ E 8 = .int .i64 (u.length : Nat)) ∧ ST true kw w W (hp w) ((J, Ol (jA g) 27) :: t) ∧ E 3 = (.pointer (some ⟨J, 0, none⟩)) ∧ E 7 = k ∧ wY g (u.drop i) = some r) u.length j.len ⟨_, ⟨rfl, rfl⟩, (b.jv St), rfl, rfl, hm⟩ dc dc dc (fun _ _ _ h => by obtain ⟨_, l, _⟩ := h; exact l) ?_ ?_
 ·rintro K E W B ⟨t, ⟨d, m⟩, b, x, y, a⟩
  obtain ⟨c, M, H, G, I⟩ := ku B
  rw [H] at a
  refine bg (VQ (mZ (enc := jA) (i := (K : Int)) (x0 := c) ep aS y d j (aG _) G) (fun U D => V (jx rfl (jS b.has D bG aS)) (VE (jU b et (fun N T b => VO (jK (.agg (jA c).toArray) ((jA c).toArray) b rfl rfl aS (vZ c) nb rfl (fun Q b => lr (VA b Mh (jA c) bG aS (V (jx x (jD b.has (Mt Mh) (jA g) rfl bG aS)) (V (uT rfl rfl (nl dS) (rh (pG _ c g))) (jT ?_)))))))))))
  refine jH ?_
  replace b := b.jv (Db St)
  refine CI a rfl (fun z a => ?_) (fun z a => ?_)
  ·refine sg (Wa (ln ?_))
   replace b := b.jv (Db St)
   refine ke (mc (ki (mc (ki ?_))))
   obtain rfl := sj a
   exact rP b
  exact kQ (kl (jH ⟨d, _, ⟨rfl, m⟩, (b.jv St), x, y, (by rw [I]; exact a)⟩))
 rintro E W ⟨t, ⟨d, m⟩, b, x, y, a⟩
 rw [aM] at a
 refine jH ?_
 replace b := b.jv (Db St)
 exact sg (Wa (lt (rQ a b)))
theorem Fe (N : Formula → (List jr) → Option Bool) (a5 : ∀ (g : Formula) (k : Value) (t : Value) (H : List jr) (r : Bool) (w : World) (c : Sl jt 5 (hp w) k g.Kids) (J : Sl (Pl jA) 2 (hp w) t H), N g H = some r → jZ false pg0 40 [(.agg #[(.int .i64 g.Op), (.int .i64 g.K), (.string g.jr.ju), (.string g.jr.jy), k]), t] w (.bool r)) (g : Formula) (k t : Value) (H : List jr) (r : Bool) (w : World) (c : Sl jt 5 (hp w) k g.Kids) (J : Sl (Pl jA) 2 (hp w) t H) (hm : xx N g H = some r) :
  jZ false pg0 40 [(.agg #[(.int .i64 g.Op), (.int .i64 g.K), (.string g.jr.ju), (.string g.jr.jy), k]), t] w (.bool r) := by
 refine cG 45 func40 rfl (fun b => sg ?_)
 obtain ⟨A1, c2, rfl⟩ := c.form
 refine VE (kv b rfl (fun W4 n b => Wa (lS (Wf nn (VB b Mh rfl rfl bR (Wi rfl (ln (CI hm rfl (fun a9 hm => ?_) (fun a9 hm => ?_)))))))))
 ·refine sg (Wm (Wf tQ (VA b Mh (jA g.jr) bG aS (bS hm fun r6 s hm => VE (Eg b call68 (jZ.lG (Km t H g.jr _ _ (J.mono (Pl.mono _) b.jF) s)) (fun W8 b => Wa (ln ?_)))))))
  replace b := b.jv (Db St)
  refine ke (ki ?_)
  obtain rfl := sj hm
  exact rP b
 refine kg (Wa (lS (Wf nm (VB b Mh rfl rfl dH (V (kK aD rfl c) (Wm (jT ?_)))))))
 refine jH (kA (fun i E W => ∃ y I, (E 18 = .int .i64 (i : Nat) ∧ E 17 = .int .i64 (g.Kids.length : Nat)) ∧ ST false kw w W (hp w) ((n, Ol (C1 g.Op g.K g.jr.ju g.jr.jy A1 g.Kids.length c2) 30) :: I) ∧ E 1 = t ∧ E 2 = (.pointer (some ⟨n, 0, none⟩)) ∧ E 5 = (.int .i64 y) ∧ E 16 = (.slice A1 g.Kids.length c2) ∧ rc N H g (g.Kids.drop i) y = some r) g.Kids.length c.len ⟨0, _, ⟨rfl, rfl⟩, (b.jv St), rfl, rfl, rfl, rfl, hm⟩ dc dc dc (fun _ _ _ h => by obtain ⟨_, _, l, _⟩ := h; exact l) ?_ ?_)
 ·rintro v E W a4 ⟨y, I, ⟨d, m⟩, b, D, u, x, G, a⟩
  obtain ⟨j, c1, q, p, M⟩ := ku a4
  rw [q] at a
  refine bg (VQ (lI (i := (v : Int)) (x0 := j) jt.out aD aC G d c (aG _) p) (fun b7 ⟨_, ⟨c0, rfl, K⟩, Y⟩ => V (jx rfl (jS b.has Y aO aC)) (VE (jU b aQ (fun L R b => ?_)))))
  obtain ⟨z, B, rfl⟩ := K.form
  let a0 := (C1 j.Op j.K j.jr.ju j.jr.jy z j.Kids.length B)
  refine VO (jK (.agg a0.toArray) (a0.toArray) b rfl rfl aC oc nb rfl (fun O b => lr (VA b Mh a0 aO aC (Wh D (bS a fun b9 Z a => VE (Eg b call40 (a5 j (.slice z j.Kids.length B) t H _ _ (K.mono jC.mono b.jF) (J.mono (Pl.mono _) b.jF) Z) (fun P b => ln ?_)))))))
  replace b := b.jv (Db St)
  refine CI a rfl (fun Q a => ?_) (fun Q a => ?_)
  ·exact jG (Wh x (Wi rfl (Wa (jT (kl (jH ⟨d, (wi0 .i64 (y + 1)), _, ⟨rfl, m⟩, (b.jv St), D, u, rfl, G, (by rw [M]; exact a)⟩))))))
  exact kQ (kl (jH ⟨d, y, _, ⟨rfl, m⟩, (b.jv St), D, u, x, G, (by rw [M]; exact a)⟩))
 rintro E W ⟨y, I, ⟨d, m⟩, b, D, u, x, G, a⟩
 rw [aM] at a
 refine jH (jL (sg (V (jE nn u) (VB b Mh rfl rfl bR (Wi rfl (ln (CI a rfl (fun T a => ?_) (fun T a => ?_))))))))
 ·refine sg (Wh x (V (jE nm u) (VB b Mh rfl rfl dH (V (kK aD rfl c) (Wi rfl (Wa (ln ?_)))))))
  replace b := b.jv (Db St)
  refine ke (ki ?_)
  obtain rfl := sj a
  exact rP b
 refine kS (V (jE nn u) (VB b Mh rfl rfl bR (Wi rfl (ln (CI a rfl (fun U a => ?_) (fun U a => ?_))))))
 ·refine sg (Wh x (Wi rfl (Wa (ln ?_))))
  replace b := b.jv (Db St)
  refine ke (ki ?_)
  obtain rfl := sj a
  exact rP b
 refine kg (Wh x (V (jE rG u) (VB b Mh rfl rfl bR (Wi rfl (Wa (ln ?_))))))
 exact ke (rQ a b)
theorem EH : ∀ (n : Nat) (c : Formula) (a : Value) (g : Value) (j : List jr) (r : Bool) (w : World) (i : Sl jt 5 (hp w) a c.Kids) (k : Sl (Pl jA) 2 (hp w) g j) (_ : su n c j = some r),
  jZ false pg0 40 [(.agg #[(.int .i64 c.Op), (.int .i64 c.K), (.string c.jr.ju), (.string c.jr.jy), a]), g] w (.bool r)
 | 0 => by intros; rename_i h; simp only [su] at h; cases h
 | n + 1 => Fe (su n) (EH n)
theorem ve (k : kL) (D I b4 : Value) (L : List js) (a2 : ByteArray) (r : List js) (w : World) (g : Sl kz 15 (hp w) D k.jN) (H : Sl lF 8 (hp w) I k.ky) (g2 : Sl (Pl jw) 9 (hp w) b4 L) (hm : wM k L a2 = some r) :
  lC false pg0 23 [(.agg #[(.string k.Name), D, I]), b4, (.string a2)] w 49 jw 9 r := by
 refine wm 48 func23 rfl (fun d => sg ?_)
 obtain ⟨A1, c2, rfl⟩ := g.form
 let b8 : Value := (.slice A1 k.jN.length c2)
 obtain ⟨A3, c4, rfl⟩ := H.form
 let O := (C9 k.Name A1 k.jN.length c2 A3 k.ky.length c4)
 refine VE (kv d rfl (fun W6 q d => Wa (lr (Wm (bS hm fun r7 h0 hm => VE (rH d call38 (lC.lG (MJ b4 L _ _ (g2.mono (Pl.mono _) d.jF) h0)) (fun W9 h1 j8 j6 d Y ae g0 => Wm (bS hm fun f1 g3 hm => VE (rH d call37 (lC.lG (Iv h1 r7 a2 _ _ (g0.sl qu (fun b o m => d.at_ (Ml m))) g3)) (fun j7 d5 f2 f0 d Z af g1 => Wa (ln ?_)))))))))))
 replace d := d.jv (Kr (Dr St))
 refine sg (Wa (lS (Wf AM (VB d (Ma Mh) rfl rfl isAgg22 (V (kK er rfl g) (Wm (ln (kA (fun i E W => ∃ z G B a4 P, (E 20 = .int .i64 (i : Nat) ∧ E 19 = .int .i64 (k.jN.length : Nat)) ∧ jX f2 a4 ∧ ST false kw w W a4 ((q, Ol O 25) :: (B ++ (f0 ++ P))) ∧ E 3 = (.pointer (some ⟨q, 0, none⟩)) ∧ E 7 = d5 ∧ E 8 = z ∧ E 18 = b8 ∧ jV 49 jw 9 z G B ∧ qW k f1 (k.jN.drop i) G = some r) k.jN.length g.len ⟨(.slice none 0 0), ([]), [], f2, _, ⟨rfl, rfl⟩, (jX.refl _), (d.jv (Sb (Pr Pz) St)), rfl, rfl, rfl, rfl, (jV.nil _ _ _), hm⟩ dc dc dc (fun _ _ _ h => by obtain ⟨_, _, _, _, _, aa, _⟩ := h; exact aa) ?_ ?_))))))))
 ·rintro d3 E W e1 ⟨z, G, B, a4, P, ⟨s, eN⟩, u, d, N, Q, T, U, J, j⟩
  obtain ⟨a, h2, e9, e8, b9⟩ := ku e1
  rw [e9] at j
  refine bg (VQ (lI (i := (d3 : Int)) (x0 := a) kz.out er dT U s (g.mono kC.mono ((Y.trans Z).trans u)) (aG _) e8) (fun i4 ⟨_, ⟨i8, i9, rfl, e6, e7⟩, e2⟩ => V (jx rfl (jS d.has e2 ja dT)) (VE (jU d fD (fun h4 c5 d => ?_)))))
  obtain ⟨a8, b2, rfl⟩ := e6.form
  obtain ⟨a9, b3, rfl⟩ := e7.form
  let a0 := (C4 a.Signed.js.Kind a.Signed.js.Head.ju a.Signed.js.Head.jy a.Signed.js.kE a.Signed.js.B.ju a.Signed.js.B.jy a.Signed.js.C.ju a.Signed.js.C.jy a.Signed.js.kM a8 a.Signed.Tag.length b2 a.jB.Op a.jB.K a.jB.jr.ju a.jB.jr.jy a9 a.jB.Kids.length b3)
  refine VO (jK (.agg a0.toArray) (a0.toArray) d rfl rfl dT oc nb rfl (fun h5 d => lr (V (jx N (jD d.has (Mt Mh) O rfl ir fT)) (Wf AK (Wf Bd (VA d Mh (jw a.Signed.js) bQ aN (bS j fun c e3 j => ?_)))))))
  let c6 : Value := (.string (((c.1).jr).jy))
  let c1 : Value := (.string (((c.1).jr).ju))
  refine VE (eD d (bT _) call39 (fun hh => (L4 k b8 (.slice A3 k.ky.length c4) a.Signed.js _ _ hh (g.mono kC.mono ((Y.trans Z).trans u)) (H.mono mI.mono ((Y.trans Z).trans u)) e3)) ?_ (L0 := []))
  rintro _ j0 b6 h3 d a5 ab ⟨j4, a3, rfl, c0⟩
  obtain rfl := a3.symm
  refine Wm (Wx rfl (Wx rfl (VE (jU d aQ (fun h7 i3 d => ?_)))))
  obtain ⟨K, M, rfl⟩ := c0.form
  let n : Value := (.slice K ((c.1).Kids).length M)
  refine VO (jK (.agg #[(.int .i64 ((c.1).Op)), (.int .i64 ((c.1).K)), c1, c6, n]) (#[(.int .i64 ((c.1).Op)), (.int .i64 ((c.1).K)), c1, c6, n]) d rfl rfl aC oc nb rfl (fun h8 d => Wa (lr (Wm (Wi rfl (Wm (LJ j (fun d4 E W => ∃ c3, ST false kw w W b6 ((c5, Ol a0 63) :: ((q, Ol O 25) :: (B ++ (f0 ++ c3)))) ∧ E 3 = (.pointer (some ⟨q, 0, none⟩)) ∧ E 7 = d5 ∧ E 8 = z ∧ E 10 = (.pointer (some ⟨c5, 0, none⟩)) ∧ E 18 = b8 ∧ E 19 = (.int .i64 (k.jN.length : Int)) ∧ E 20 = (.int .i64 (d3 : Int)) ∧ E 38 = (.bool d4)) 4 ?_ (fun d4 y a6 => ?_))))))))
  ·rintro j3 E W ⟨c3, d, c7, c8, c9, f8, d0, d1, d2, f9⟩ x
   refine ln (CI x f9 (fun d9 x => ?_) (fun d9 x => ?_))
   ·refine jG (Wh c9 (V (jE AK f8) (Wf Bd (VA d Mh (jw a.Signed.js) bQ aN (VE (jY (cs := (jw a.Signed.js).toArray) d (lM rfl) (mf aH aN cK) (fun h9 f7 d => ?_)))))))
    replace d := d.perm (Nr (Qb (Qb (Qb Qz))) Nz)
    refine bS x fun g4 e0 x => VE (mR (enc := jw) (v := z) (vs := (.slice (some ⟨f7, 0, none⟩) 1 1)) (R := B) d kc dc mH aH lh.1 lh.2.1 rfl lh.2.2.1 lh.2.2.2 rfl rfl J (Sl.lit (enc := jw) (l := [a.Signed.js]) kc rfl nb rfl (d.at_ (Ma Mh))) e0 (fun i0 g7 f3 d d8 => Wa (jT (kl (jH ?_)))))
    replace d := d.jv (Kr (Db (Db St)))
    exact ⟨d2, g7, g4, f3, b6, _, ⟨rfl, d1⟩, (u.trans a5), (d.jv (Sb (Pr Pz) St)), c7, c8, rfl, d0, d8, (by rw [b9]; exact x)⟩
   refine kQ (kl (jH ?_))
   replace d := d.jv (Db St)
   exact ⟨d2, z, G, B, b6, _, ⟨rfl, d1⟩, (u.trans a5), (d.jv St), c7, c8, c9, d0, J, (by rw [b9]; exact x)⟩
  refine bC y (fun t y => ?_) (fun t y => ?_)
  ·refine ug t (jx rfl (jD d.has Mh [(.int .i64 ((c.1).Op)), (.int .i64 ((c.1).K)), c1, c6, n] rfl aO aC)) (ug t (jz Q) (bS y fun i5 e4 y => tM t (Eg d call40 ((EH kd) c.1 n d5 f1 _ _ (c0.mono jC.mono d.jF) (g1.sl yt (fun b o m => d.at_ (Mt (Mt (Mt (Ma (Ml m))))))) e4) (fun i1 d => V (jO (cB t) rfl) ?_))))
   obtain rfl := sj y
   exact a6 _ _ ⟨_, (d.jv (Db St)), N, Q, T, rfl, U, eN, s, rfl⟩
  refine un t (un t (un t (V (jP (cB t) rfl) ?_)))
  obtain rfl := sj y
  exact a6 _ _ ⟨_, (d.jv (Db St)), N, Q, T, rfl, U, eN, s, rfl⟩
 rintro E W ⟨z, G, B, a4, P, ⟨s, eN⟩, u, d, N, Q, T, U, J, j⟩
 rw [aM] at j
 refine jH ?_
 replace d := d.jv (Db (Kr (Dr St)))
 refine sg (Wh T (bS j fun i6 e5 j => VE (rH d call15 (lC.lG (Fm z G _ _ (J.sl kc (fun b o m => d.at_ (Ml m))) e5)) (fun i2 g8 j5 f4 d g9 ad b7 => Wa (ln ?_)))))
 replace d := d.jv (Kr (Dr St))
 refine ke ?_
 obtain rfl := sj j
 exact lj (v := g8) rfl rfl ⟨_, f4, rfl, d.oa (fun p m => (Ml m)) b7.nd, b7⟩
theorem rj (G : Value) (H : List js) (z : Value) (J r : List js) (w : World) (D : Sl (Pl jw) 9 (hp w) G H) (Z : Sl (Pl jw) 9 (hp w) z J) (hm : vI H J = some r) :
  lC true pg0 22 [G, z] w 49 jw 9 r := by
 refine wm 24 func22 rfl (fun b => sg (Wa (lr (Wa (lS (Wm ?_))))))
 refine V (kK aH rfl D) (Wm (ln (kA (fun i E W => ∃ j t g B, (E 10 = .int .i64 (i : Nat) ∧ E 9 = .int .i64 (H.length : Nat)) ∧ ST true kw w W (hp w) (g ++ B) ∧ E 1 = z ∧ E 5 = j ∧ E 8 = G ∧ jV 49 jw 9 j t g ∧ qi J (H.drop i) t = some r) H.length D.len ⟨(.slice none 0 0), ([]), [], _, ⟨rfl, rfl⟩, (b.jv St), rfl, rfl, rfl, (jV.nil _ _ _), hm⟩ dc dc dc (fun _ _ _ h => by obtain ⟨_, _, _, _, m, _⟩ := h; exact m) ?_ ?_)))
 ·rintro s E W a2 ⟨j, t, g, B, ⟨d, n⟩, b, u, x, y, k, a⟩
  obtain ⟨c, b6, a4, a3, I⟩ := ku a2
  rw [a4] at a
  refine bg (VQ (mZ (enc := jw) (i := (s : Int)) (x0 := c) aH aN y d D (aG _) a3) (fun b4 Q => V (jx rfl (jS b.has Q bQ aN)) (VE (jU b cK (fun O b3 b => VO (jK (.agg (jw c).toArray) ((jw c).toArray) b rfl rfl aN (mH c) nb rfl (fun a9 b => lr (Wh u (VA b Mh (jw c) bQ aN (bS a fun b5 T a => VE (Eg b call36 (Fq z J c _ _ (Z.mono (Pl.mono _) b.jF) T) (fun P b => ?_))))))))))))
  refine V (nt rfl) (ln (CI a rfl (fun M a => ?_) (fun M a => ?_)))
  ·refine jG (Wh x (VA b Mh (jw c) bQ aN (VE (jY (cs := (jw c).toArray) b (lM rfl) (mf aH aN cK) (fun b1 Y b => ?_)))))
   replace b := b.perm (Nr (Qb (Qb Qz)) Nz)
   refine bS a fun a5 N a => VE (mR (enc := jw) (v := j) (vs := (.slice (some ⟨Y, 0, none⟩) 1 1)) (R := g) b kc dc mH aH lh.1 lh.2.1 rfl lh.2.2.1 lh.2.2.2 rfl rfl k (Sl.lit (enc := jw) (l := [c]) kc rfl nb rfl (b.at_ (Ma Mh))) N (fun b2 q U b K => Wa (jT (kl (jH ?_)))))
   replace b := b.jv (Kr (Db (Db St)))
   exact ⟨d, q, a5, U, _, ⟨rfl, n⟩, (b.jv St), u, rfl, y, K, (by rw [I]; exact a)⟩
  refine kQ (kl (jH ?_))
  replace b := b.jv (Db St)
  exact ⟨d, j, t, g, _, ⟨rfl, n⟩, (b.jv St), u, x, y, k, (by rw [I]; exact a)⟩
 rintro E W ⟨j, t, g, B, ⟨d, n⟩, b, u, x, y, k, a⟩
 rw [aM] at a
 refine jH (sg (Wh x (Wa (lt ?_))))
 obtain rfl := sj a
 exact lj (v := j) rfl rfl ⟨_, g, rfl, b.oa (fun p L => (Ml L)) k.nd, k⟩
set_option maxHeartbeats 4000000 in
theorem HA (a : na) (b0 b1 a2 a9 a3 d9 : Value) (r : List nw) (w : World) {μ0 : jW} (h0 : ny μ0 [] w) (D : Sl kz 15 μ0 b0 a.ju.jN) (G : Sl lF 8 μ0 b1 a.ju.ky) (k : Sl kz 15 μ0 a2 a.Client.jN) (t : Sl lF 8 μ0 a9 a.Client.ky) (c5 : Sl jt 5 μ0 a3 a.Formula.Kids) (l0 : Sl qt 2 μ0 d9 a.Keys) (hm : xg a = some r) :
  lO false pg0 7 [(.agg #[(.string a.ju.Name), b0, b1, (.string a.Client.Name), a2, a9, (.int .i64 a.Formula.Op), (.int .i64 a.Formula.K), (.string a.Formula.jr.ju), (.string a.Formula.jr.jy), a3, (.int .i64 a.uY), (.int .i64 a.nu.nT), (.int .i64 a.nu.nD), (.int .i64 a.pa), (.int .i64 a.sH), (.int .i64 a.qp), d9])] w μ0 [] (fun v L1 μ1 => ∃ y1, v = y1 ∧ L1 = [] ∧ Sl nW 2 μ1 y1 (r)) := by
 refine uB h0 53 func7 rfl (fun d => sg ?_)
 obtain ⟨A1, c2, rfl⟩ := D.form
 obtain ⟨A3, c4, rfl⟩ := G.form
 let f0 := (C9 a.ju.Name A1 a.ju.jN.length c2 A3 a.ju.ky.length c4)
 obtain ⟨A5, c6, rfl⟩ := k.form
 let e7 : Value := (.slice A5 a.Client.jN.length c6)
 obtain ⟨A7, c8, rfl⟩ := t.form
 let e9 := (C9 a.Client.Name A5 a.Client.jN.length c6 A7 a.Client.ky.length c8)
 let e8 : Value := (.slice A7 a.Client.ky.length c8)
 obtain ⟨A9, m0, rfl⟩ := c5.form
 obtain ⟨l4, m1, rfl⟩ := l0.form
 let a0 := (C2 a.ju.Name A1 a.ju.jN.length c2 A3 a.ju.ky.length c4 a.Client.Name A5 a.Client.jN.length c6 A7 a.Client.ky.length c8 a.Formula.Op a.Formula.K a.Formula.jr.ju a.Formula.jr.jy A9 a.Formula.Kids.length m0 a.uY a.nu.nT a.nu.nD a.pa a.sH a.qp l4 a.Keys.length m1)
 refine VE (kv d rfl (fun aq f1 d => Wa (lr (Wa (Wa (lr (Wa (ln ?_))))))))
 refine re (lz (mX (fun m E W => ∃ x U c7 y Y c9 b6 i3 c1 b7 l5, jX μ0 b7 ∧ Lo (keys []) w μ0 b7 ∧ ST false (keys []) w W b7 ((f1, Ol a0 34) :: (c9 ++ (c7 ++ (c1 ++ l5)))) ∧ E 1 = (.pointer (some ⟨f1, 0, none⟩)) ∧ E 3 = x ∧ E 4 = y ∧ E 5 = b6 ∧ jV 49 jw 9 x U c7 ∧ jV 49 jw 9 y Y c9 ∧ kB 46 nW 2 b7 b6 i3 c1 ∧ pL a m U Y i3 = some r) kd ⟨(.slice none 0 0), ([]), [], (.slice none 0 0), ([]), [], (.slice none 0 0), ([]), [], μ0, _, (jX.refl _), Lo.refl, (d.jv St), rfl, rfl, rfl, rfl, (jV.nil _ _ _), (jV.nil _ _ _), (kB.nil _ _ _ _), hm⟩ ?_))
 rintro m E W ⟨x, U, c7, y, Y, c9, b6, i3, c1, b7, l5, j, L, d, a4, b4, b5, d1, Z, a1, l1, d3⟩
 cases m with
 | zero => rw [pL] at d3; cases d3
 | succ s8 =>
  refine lz (jL ?_)
  replace d := d.drew
  have h := d.has.jv (Kb Sn)
  refine kO h kp (X 0 rfl h (jE El a4) (XH 1 rfl h (fun _ hS => jx rfl (jD hS Mh f0 rfl ir fT)) (X 2 rfl h (jz b5) (X 3 rfl h (jE AN a4) (X 4 rfl h (jE Cp rfl) (XH 5 rfl h (fun _ hS => jx rfl (jJ hS Mh rfl bV)) (X 7 rfl h (jz b4) (X 9 rfl h (jE AN a4) (XH 10 rfl h (fun _ hS => jx rfl (jD hS Mh e9 rfl ir fT)) (X 11 rfl h (jz b4) (X 12 rfl h (jE El a4) (X 13 rfl h (jE Cp rfl) (XH 14 rfl h (fun _ hS => jx rfl (jJ hS Mh rfl bV)) (X 16 rfl h (jz b5) ?_))))))))))))))
  refine PJ d3 (fun d4 E W => ∃ d0 j3 e0 j4 e1 e2 e3 b9 l6, jX b7 b9 ∧ Lo (keys []) w b7 b9 ∧ ST false (keys []) w W b9 ((d0, Ob #[e2, e3] 46) :: ((f1, Ol a0 34) :: (e1 ++ (e0 ++ (c9 ++ (c7 ++ (c1 ++ l6))))))) ∧ E 1 = (.pointer (some ⟨f1, 0, none⟩)) ∧ E 3 = x ∧ E 4 = y ∧ E 5 = b6 ∧ E 6 = (.pointer (some ⟨d0, 0, none⟩)) ∧ E 25 = (.agg #[j3, j4]) ∧ jV 49 jw 9 j3 d4.1 e0 ∧ jV 49 jw 9 j4 d4.2.1 e1 ∧ Sl (Pl jw) 9 b9 e2 d4.2.2.1 ∧ Fr w.heap.size e2 ∧ Sl (Pl jw) 9 b9 e3 d4.2.2.2 ∧ Fr w.heap.size e3) (bm 21 1048575) 1 ?_ (fun d4 c b3 => ?_)
  ·rintro ⟨H, I, y9, z0⟩ E W ⟨d0, j3, e0, j4, e1, e2, e3, b9, l6, a6, O, d, m2, m3, m4, m5, d2, s0, e4, e5, v0, u8, v1, u9⟩ o6
   obtain ⟨M, Q, rfl⟩ := e4.form
   let b8 : Value := (.slice M H.length Q)
   obtain ⟨N, T, rfl⟩ := e5.form
   let e6 : Value := (.slice N I.length T)
   refine XO 20 rfl (jK (.agg #[b8, e6]) (#[b8, e6]) d d2 s0 iD oc nb rfl (fun v9 d => ?_))
   have h := d.has.qX a6 (Db (Kb Sn))
   refine ⟨h, (kP kr (jH (jL (sg (V (jE GG d2) (VB d Mh rfl rfl dY (V (oE aH rfl e4) (Wi rfl (Wm (LJ o6 (fun m9 E W => ∃ l7, ST false (keys []) w W b9 ((d0, Ob #[b8, e6] 46) :: ((f1, Ol a0 34) :: (e1 ++ (e0 ++ (c9 ++ (c7 ++ (c1 ++ l7))))))) ∧ E 1 = (.pointer (some ⟨f1, 0, none⟩)) ∧ E 3 = x ∧ E 4 = y ∧ E 5 = b6 ∧ E 6 = (.pointer (some ⟨d0, 0, none⟩)) ∧ E 35 = (.bool m9)) 5 ?_ (fun m9 c0 f7 => ?_)))))))))))⟩
   ·rintro ab E W ⟨l7, d, s1, s2, s3, m6, i2, s4⟩ u
    refine ln (CI u s4 (fun o0 u => ?_) (fun o0 u => ?_))
    ·refine sg (Wh m6 (Wa (ln ?_)))
     replace d := d.jv (Db (Db (Dr (Dr (Dr (Dr St))))))
     refine ke (ki (mc (ki (mc (ki ?_)))))
     obtain rfl := sj u
     refine lj (v := b6) rfl rfl ?_
     obtain ⟨ac, d, n0, an, q1⟩ := ST.tS uP d (l1.mono uP a6)
     exact ⟨_, _, _, rfl, (d.lU Sn), ((j.trans a6).trans n0), ((L.trans O).trans an), (ST.kI d (mz.mem Sn)), b6, rfl, rfl, q1⟩
    refine kg (Wh m6 (V (jx i2 (jD d.has Mh [b8, e6] rfl isAgg46 iD)) ?_))
    replace d := d.perm (Nr (Qb (Qb (Qr Qz))) Nz)
    obtain ⟨ad, d, f2, ao, l2⟩ := ST.CX d e4 kc
    replace d := d.perm (Nr (Qb (Qb Qz)) Nz)
    obtain ⟨u2, d, c3, ap, l3⟩ := ST.CX d e5 kc
    refine VE (jY (cs := #[b8, e6]) d (lM rfl) (mf fJ iD eJ) (fun w0 y8 d => ?_))
    replace d := d.perm (Nr (Qb (Qb (Qb (Qr (Qr Qz))))) Nz)
    refine bS u fun s5 o1 u => VE (pp (B := c1) uP d dc fJ Gx.1 Gx.2.1 rfl Gx.2.2.1 Gx.2.2.2 rfl rfl (l1.mono uP ((a6.trans f2).trans c3)) (xt.lit uP (l := [(⟨H, I⟩ : nw)]) (.cons (ys := [b8, e6]) (nW.mk ⟨b8, e6, rfl, (l2.mono (Pl.mono _) c3), l3⟩) .nil) rfl nb (d.at_ (Ma Mh))) o1 (fun w1 t3 q3 d n1 => Wa (ln ?_)))
    replace d := d.jv (Kr (Db St))
    refine jL ?_
    replace d := d.drew
    have h := d.has.jv (Dr (Kb Sn))
    refine kO h kp (X 1 rfl h (jz s2) (X 3 rfl h (jE GG i2) (XH 4 rfl h (fun _ hS => jx rfl (jJ hS Mh rfl dY)) (XE 0 rfl (jY (cs := #[]) d pu (xm [] aH aN cK dc rfl (by simp) rfl rfl) (fun w2 l8 d => ?_))))))
    have h := d.has.jv (Db (Dr (Kb Sn)))
    refine ⟨h, (bS u fun z1 o2 u => XE 2 rfl (mR (enc := jw) (v := (.slice (some ⟨l8, 0, none⟩) 0 0)) (vs := x) (R := [(l8, Ob #[] 49)]) d kc dc mH aH lh.1 lh.2.1 rfl lh.2.2.1 lh.2.2.2 rfl rfl (jV.lit (l := []) (enc := jw) rfl dc rfl rfl) (Z.Ps kc d (fun p n => (Mt (Ma (Mt (Mt (Ma (Ml n)))))))) o2 (fun w3 t4 q4 d n2 => ?_)))⟩
    have h := d.has.jv (Dr (Dr (Kb Sn)))
    refine ⟨h, (bS u fun s6 o3 u => XE 5 rfl (mR (enc := jw) (v := t4) (vs := b8) (R := q4) d kc dc mH aH lh.1 lh.2.1 rfl lh.2.2.1 lh.2.2.2 rfl rfl n2 (l2.mono (Pl.mono _) (c3.trans d.jF)) o3 (fun w4 t5 q5 d n3 => ?_)))⟩
    have h := d.has.jv (Dr (Dr (Kb Sn)))
    refine ⟨h, (X 6 rfl h (mw rfl) (kP kr (jH ?_)))⟩
    replace d := d.jv (Kr (Kr (Kb (Kb (Kr (Dr St))))))
    replace d := d.drew
    have h := d.has.jv (Dr (Dr (Kb Sn)))
    refine kO h kp (X 1 rfl h (jz s3) (X 3 rfl h (jE Jp i2) (XH 4 rfl h (fun _ hS => jx rfl (jJ hS Mh rfl dY)) (XE 0 rfl (jY (cs := #[]) d pu (xm [] aH aN cK dc rfl (by simp) rfl rfl) (fun w5 l9 d => ?_))))))
    have h := d.has.jv (Db (Dr (Dr (Kb Sn))))
    refine ⟨h, (bS u fun z2 o4 u => XE 2 rfl (mR (enc := jw) (v := (.slice (some ⟨l9, 0, none⟩) 0 0)) (vs := y) (R := [(l9, Ob #[] 49)]) d kc dc mH aH lh.1 lh.2.1 rfl lh.2.2.1 lh.2.2.2 rfl rfl (jV.lit (l := []) (enc := jw) rfl dc rfl rfl) (a1.Ps kc d (fun p n => (Mt (Ma (Ma (Mt (Mt (Ml n)))))))) o4 (fun w6 t6 q6 d n4 => ?_)))⟩
    have h := d.has.jv (Dr (Dr (Dr (Kb Sn))))
    refine ⟨h, (bS u fun s7 o5 u => XE 5 rfl (mR (enc := jw) (v := t6) (vs := e6) (R := q6) d kc dc mH aH lh.1 lh.2.1 rfl lh.2.2.1 lh.2.2.2 rfl rfl n4 (l3.mono (Pl.mono _) d.jF) o5 (fun w7 t7 q7 d n5 => ?_)))⟩
    have h := d.has.jv (Dr (Dr (Dr (Kb Sn))))
    refine ⟨h, (X 6 rfl h (mw rfl) (kP kr (kl (jH ?_))))⟩
    replace d := d.jv (Kr (Kr (Kr (Db (Kb (Dr St))))))
    exact ⟨s8, bn _, t5, s6, q5, t7, s7, q7, t3, s5, q3, u2, _, (((j.trans a6).trans f2).trans c3), (((L.trans O).trans ao).trans ap), (d.jv (Sb (Pr (Pr (Pr Pz))) St)), s1, rfl, rfl, rfl, n3, n5, n1, u⟩
   refine bC c0 (fun z c0 => ?_) (fun z c0 => ?_)
   ·refine ug z (jE Jp d2) (ug z (jx rfl (jJ d.has Mh rfl dY)) (ug z (oE aH rfl e5) (ug z (kh rfl rfl rfl) (V (jO (cB z) rfl) ?_))))
    obtain rfl := sj c0
    exact f7 _ _ ⟨_, (d.jv St), m2, m3, m4, m5, d2, rfl⟩
   refine un z (un z (un z (un z (V (jP (cB z) rfl) ?_))))
   obtain rfl := sj c0
   exact f7 _ _ ⟨_, (d.jv St), m2, m3, m4, m5, d2, rfl⟩
  refine zQ 6 19 rfl rfl kr (.inl rfl) (.inl rfl) rfl rfl dc dc ?_ ?_
  ·refine bS c fun m7 o7 c => yz (args := [(.agg f0.toArray), y, (.string a.Client.Name)]) _ d rfl call23 (by exact Pv rfl rfl rfl) (ve a.ju (.slice A1 a.ju.jN.length c2) (.slice A3 a.ju.ky.length c4) y Y a.Client.Name _ _ (D.mono kC.mono (j.trans d.jF)) (G.mono mI.mono (j.trans d.jF)) (a1.sl kc (fun b o n => d.at_ (Mt (Ml n)))) o7) (fun w8 j5 ae v3 d g q k1 => ?_)
   have h := d.has.qX g (Dr (Kb Sn))
   refine ⟨h, (zQ 8 19 rfl rfl kr (.inl rfl) (.inl rfl) rfl rfl dc dc ?_ ?_)⟩
   ·refine bS c fun a5 o8 c => yz (args := [j5, x]) _ d rfl call22 (by exact uW rfl rfl) (lC.lG (rj j5 m7 x U _ _ (k1.sl kc (fun b o n => d.at_ (Ml n))) (Z.sl kc (fun b o n => d.at_ (Ma (Mt (Ma (Ml n)))))) o8)) (fun w9 z3 af h1 d i s b2 => ?_)
    have h := d.has.qX (g.trans i) (Dr (Dr (Kb Sn)))
    refine ⟨h, (zQ 15 19 rfl rfl kr (.inl rfl) (.inl rfl) rfl rfl dc dc ?_ ?_)⟩
    ·refine bS c fun m8 o9 c => yz (args := [(.agg e9.toArray), x, (.string a.ju.Name)]) _ d rfl call23 (by exact Pv rfl rfl rfl) (ve a.Client e7 e8 x U a.ju.Name _ _ (k.mono kC.mono (((j.trans g).trans i).trans d.jF)) (t.mono mI.mono (((j.trans g).trans i).trans d.jF)) (Z.sl kc (fun b o n => d.at_ (Ma (Ma (Mt (Ma (Ml n))))))) o9) (fun x0 j6 ag v4 d J P k2 => ?_)
     have h := d.has.qX ((g.trans i).trans J) (Dr (Dr (Dr (Kb Sn))))
     refine ⟨h, (zQ 17 19 rfl rfl kr (.inl rfl) (.inl rfl) rfl rfl dc dc ?_ ?_)⟩
     ·refine bS c fun i4 p0 c => yz (args := [j6, y]) _ d rfl call22 (by exact uW rfl rfl) (lC.lG (rj j6 m8 y Y _ _ (k2.sl kc (fun b o n => d.at_ (Ml n))) (a1.sl kc (fun b o n => d.at_ (Ma (Ma (Ma (Mt (Ml n))))))) p0)) (fun x1 z4 u3 q8 d d5 ar k3 => ?_)
      have h := d.has.qX (((g.trans i).trans J).trans d5) (Dr (Dr (Dr (Dr (Kb Sn)))))
      refine ⟨h, ?_⟩
      obtain ⟨f8, h2, rfl⟩ := b2.form
      obtain ⟨f9, h3, rfl⟩ := k3.form
      refine X 18 rfl h (lf (v := (.agg #[(.slice f8 a5.length h2), (.slice f9 i4.length h3)])) (ov rfl rfl) (kH eJ dX (JN _ dX) kr)) (XE 19 rfl (jU d eJ (fun x2 r5 d => ?_)))
      have h := d.has.qX (((g.trans i).trans J).trans d5) (Db (Dr (Dr (Dr (Dr (Kb Sn))))))
      refine ⟨h, ?_⟩
      obtain rfl := sj c
      refine ml kr (b3 _ _ ⟨r5, (.slice f8 a5.length h2), h1, (.slice f9 i4.length h3), q8, (.slice none 0 0), (.slice none 0 0), u3, _, (((g.trans i).trans J).trans d5), (((q.trans s).trans P).trans ar), (d.jv (Kb (Sb (Pr (Pr (Pr (Pr Pz)))) (Kr (Dr (Kr (Dr St))))))), a4, b4, b5, d1, rfl, rfl, b2, k3, (Sl.nil _ _ _), (Fr.nil _), (Sl.nil _ _ _), (Fr.nil _)⟩)
     ·refine jU d eJ (fun x3 r6 d => ?_)
      have h := d.has.qX ((g.trans i).trans J) (Db (Dr (Dr (Dr (Kb Sn)))))
      refine ⟨h, (bS c fun i5 p1 c => XE 17 rfl (rH d call22 (lC.lG (rj j6 m8 y Y _ _ (k2.sl kc (fun b o n => d.at_ (Mt (Ml n)))) (a1.sl kc (fun b o n => d.at_ (Mt (Ma (Ma (Ma (Mt (Ml n)))))))) p1)) (fun x4 z5 u4 q9 d f3 au k4 => ?_)))⟩
      have h := d.has.qX (((g.trans i).trans J).trans f3) (Dr (Db (Dr (Dr (Dr (Kb Sn))))))
      refine ⟨h, ?_⟩
      obtain ⟨g0, h4, rfl⟩ := b2.form
      obtain ⟨g1, h5, rfl⟩ := k4.form
      refine X 18 rfl h (lf (v := (.agg #[(.slice g0 a5.length h4), (.slice g1 i5.length h5)])) (ov rfl rfl) (kH eJ dX (JN _ dX) kr)) ?_
      obtain rfl := sj c
      refine ml kr (b3 _ _ ⟨r6, (.slice g0 a5.length h4), h1, (.slice g1 i5.length h5), q9, (.slice none 0 0), (.slice none 0 0), u4, _, (((g.trans i).trans J).trans f3), (((q.trans s).trans P).trans au), (d.jv (Sb (Pr Pz) (Sb (Pr (Pr (Pr (Pr Pz)))) (Kr (Dr (Kr (Dr St))))))), a4, b4, b5, d1, rfl, rfl, b2, k4, (Sl.nil _ _ _), (Fr.nil _), (Sl.nil _ _ _), (Fr.nil _)⟩)
    ·refine jU d eJ (fun x5 r7 d => ?_)
     have h := d.has.qX (g.trans i) (Db (Dr (Dr (Kb Sn))))
     refine ⟨h, (bS c fun s9 p2 c => XE 15 rfl (rH d call23 (ve a.Client e7 e8 x U a.ju.Name _ _ (k.mono kC.mono (((j.trans g).trans i).trans d.jF)) (t.mono mI.mono (((j.trans g).trans i).trans d.jF)) (Z.sl kc (fun b o n => d.at_ (Mt (Ma (Ma (Mt (Ma (Ml n)))))))) p2) (fun x6 t8 ah v5 d d6 av n6 => ?_)))⟩
     have h := d.has.qX ((g.trans i).trans d6) (Dr (Db (Dr (Dr (Kb Sn)))))
     refine ⟨h, (bS c fun i6 p3 c => XE 17 rfl (rH d call22 (lC.lG (rj t8 s9 y Y _ _ (n6.sl kc (fun b o n => d.at_ (Ml n))) (a1.sl kc (fun b o n => d.at_ (Ma (Mt (Ma (Ma (Mt (Ml n)))))))) p3)) (fun x7 z6 u5 r0 d f4 aw k5 => ?_)))⟩
     have h := d.has.qX (((g.trans i).trans d6).trans f4) (Dr (Dr (Db (Dr (Dr (Kb Sn))))))
     refine ⟨h, ?_⟩
     obtain ⟨g2, h6, rfl⟩ := b2.form
     obtain ⟨g3, h7, rfl⟩ := k5.form
     refine X 18 rfl h (lf (v := (.agg #[(.slice g2 a5.length h6), (.slice g3 i6.length h7)])) (ov rfl rfl) (kH eJ dX (JN _ dX) kr)) ?_
     obtain rfl := sj c
     refine ml kr (b3 _ _ ⟨r7, (.slice g2 a5.length h6), h1, (.slice g3 i6.length h7), r0, (.slice none 0 0), (.slice none 0 0), u5, _, (((g.trans i).trans d6).trans f4), (((q.trans s).trans av).trans aw), (d.jv (Sb (Pr (Pr Pz)) (Sb (Pr (Pr (Pr (Pr Pz)))) (Kr (Dr (Kr (Dr St))))))), a4, b4, b5, d1, rfl, rfl, b2, k5, (Sl.nil _ _ _), (Fr.nil _), (Sl.nil _ _ _), (Fr.nil _)⟩)
   ·refine jU d eJ (fun x8 r8 d => ?_)
    have h := d.has.qX g (Db (Dr (Kb Sn)))
    refine ⟨h, (bS c fun i7 p4 c => XE 8 rfl (rH d call22 (lC.lG (rj j5 m7 x U _ _ (k1.sl kc (fun b o n => d.at_ (Mt (Ml n)))) (Z.sl kc (fun b o n => d.at_ (Mt (Ma (Mt (Ma (Ml n))))))) p4)) (fun x9 z7 ai r1 d a7 ay k6 => ?_)))⟩
    have h := d.has.qX (g.trans a7) (Dr (Db (Dr (Kb Sn))))
    refine ⟨h, (bS c fun t0 p5 c => XE 15 rfl (rH d call23 (ve a.Client e7 e8 x U a.ju.Name _ _ (k.mono kC.mono (((j.trans g).trans a7).trans d.jF)) (t.mono mI.mono (((j.trans g).trans a7).trans d.jF)) (Z.sl kc (fun b o n => d.at_ (Ma (Mt (Ma (Mt (Ma (Ml n)))))))) p5) (fun y0 t9 aj v6 d d7 az n7 => ?_)))⟩
    have h := d.has.qX ((g.trans a7).trans d7) (Dr (Dr (Db (Dr (Kb Sn)))))
    refine ⟨h, (bS c fun i8 p6 c => XE 17 rfl (rH d call22 (lC.lG (rj t9 t0 y Y _ _ (n7.sl kc (fun b o n => d.at_ (Ml n))) (a1.sl kc (fun b o n => d.at_ (Ma (Ma (Mt (Ma (Mt (Ml n)))))))) p6)) (fun y2 z8 u6 r2 d f5 aE k7 => ?_)))⟩
    have h := d.has.qX (((g.trans a7).trans d7).trans f5) (Dr (Dr (Dr (Db (Dr (Kb Sn))))))
    refine ⟨h, ?_⟩
    obtain ⟨g4, h8, rfl⟩ := k6.form
    obtain ⟨g7, h9, rfl⟩ := k7.form
    refine X 18 rfl h (lf (v := (.agg #[(.slice g4 i7.length h8), (.slice g7 i8.length h9)])) (ov rfl rfl) (kH eJ dX (JN _ dX) kr)) ?_
    obtain rfl := sj c
    refine ml kr (b3 _ _ ⟨r8, (.slice g4 i7.length h8), r1, (.slice g7 i8.length h9), r2, (.slice none 0 0), (.slice none 0 0), u6, _, (((g.trans a7).trans d7).trans f5), (((q.trans ay).trans az).trans aE), (d.jv (Sb (Pr (Pr (Pr Pz))) (Sb (Pr (Pr (Pr (Pr Pz)))) (Kr (Dr (Kr (Dr St))))))), a4, b4, b5, d1, rfl, rfl, k6, k7, (Sl.nil _ _ _), (Fr.nil _), (Sl.nil _ _ _), (Fr.nil _)⟩)
  ·refine jU d eJ (fun y3 r9 d => ?_)
   have h := d.has.jv (Db (Kb Sn))
   refine ⟨h, (bS c fun t1 p7 c => XE 6 rfl (rH d call23 (ve a.ju (.slice A1 a.ju.jN.length c2) (.slice A3 a.ju.ky.length c4) y Y a.Client.Name _ _ (D.mono kC.mono (j.trans d.jF)) (G.mono mI.mono (j.trans d.jF)) (a1.sl kc (fun b o n => d.at_ (Mt (Mt (Ml n))))) p7) (fun y4 u0 ak v7 d K ba n8 => ?_)))⟩
   have h := d.has.qX K (Dr (Db (Kb Sn)))
   refine ⟨h, (bS c fun i9 p8 c => XE 8 rfl (rH d call22 (lC.lG (rj u0 t1 x U _ _ (n8.sl kc (fun b o n => d.at_ (Ml n))) (Z.sl kc (fun b o n => d.at_ (Ma (Mt (Mt (Ma (Ml n))))))) p8)) (fun y5 z9 al r3 d a8 bb k8 => ?_)))⟩
   have h := d.has.qX (K.trans a8) (Dr (Dr (Db (Kb Sn))))
   refine ⟨h, (bS c fun t2 p9 c => XE 15 rfl (rH d call23 (ve a.Client e7 e8 x U a.ju.Name _ _ (k.mono kC.mono (((j.trans K).trans a8).trans d.jF)) (t.mono mI.mono (((j.trans K).trans a8).trans d.jF)) (Z.sl kc (fun b o n => d.at_ (Ma (Ma (Mt (Mt (Ma (Ml n)))))))) p9) (fun y6 u1 am v8 d d8 bc n9 => ?_)))⟩
   have h := d.has.qX ((K.trans a8).trans d8) (Dr (Dr (Dr (Db (Kb Sn)))))
   refine ⟨h, (bS c fun j0 q0 c => XE 17 rfl (rH d call22 (lC.lG (rj u1 t2 y Y _ _ (n9.sl kc (fun b o n => d.at_ (Ml n))) (a1.sl kc (fun b o n => d.at_ (Ma (Ma (Ma (Mt (Mt (Ml n)))))))) q0)) (fun y7 aa u7 r4 d f6 bd k9 => ?_)))⟩
   have h := d.has.qX (((K.trans a8).trans d8).trans f6) (Dr (Dr (Dr (Dr (Db (Kb Sn))))))
   refine ⟨h, ?_⟩
   obtain ⟨g8, i0, rfl⟩ := k8.form
   obtain ⟨g9, i1, rfl⟩ := k9.form
   refine X 18 rfl h (lf (v := (.agg #[(.slice g8 i9.length i0), (.slice g9 j0.length i1)])) (ov rfl rfl) (kH eJ dX (JN _ dX) kr)) ?_
   obtain rfl := sj c
   refine ml kr (b3 _ _ ⟨r9, (.slice g8 i9.length i0), r3, (.slice g9 j0.length i1), r4, (.slice none 0 0), (.slice none 0 0), u7, _, (((K.trans a8).trans d8).trans f6), (((ba.trans bb).trans bc).trans bd), (d.jv (Sb (Pr (Pr (Pr (Pr Pz)))) (Sb (Pr (Pr (Pr (Pr Pz)))) (Kr (Dr (Kr (Dr St))))))), a4, b4, b5, d1, rfl, rfl, k8, k9, (Sl.nil _ _ _), (Fr.nil _), (Sl.nil _ _ _), (Fr.nil _)⟩)
theorem EG (t : Value) (y : List js) (u : Value) (K : List js) (r : Bool) (w : World) (c : Sl (Pl jw) 9 (hp w) t y) (z : Sl (Pl jw) 9 (hp w) u K) (hm : wE y K = some r) :
  jZ true pg0 10 [t, u] w (.bool r) := by
 refine cG 26 func10 rfl (fun d => sg (Wa (lS (Wm (V (kK aH rfl c) (Wm (V (kK aH rfl z) (Wi rfl (jT ?_)))))))))
 refine jH (CI hm rfl (fun U hm => ?_) (fun U hm => ?_))
 ·refine sg (Wa (lt (ki ?_)))
  obtain rfl := sj hm
  exact rP d
 refine kS (Wm (V (kK aH rfl c) (Wm (ln (kA (fun i E W => ∃ g, (E 13 = .int .i64 (i : Nat) ∧ E 12 = .int .i64 (y.length : Nat)) ∧ ST true kw w W (hp w) g ∧ E 0 = t ∧ E 1 = u ∧ uG K (y.drop i) i = some r) y.length c.len ⟨_, ⟨rfl, rfl⟩, (d.jv St), rfl, rfl, hm⟩ dc dc dc (fun _ _ _ h => by obtain ⟨_, m, _⟩ := h; exact m) ?_ ?_)))))
 ·rintro I E W M ⟨g, ⟨l, p⟩, d, j, k, a⟩
  obtain ⟨J, a3, Q, N, T⟩ := ku M
  rw [Q] at a
  refine bg (Wh l (Wa (ln (jL ?_))))
  replace d := d.drew
  have b := d.has.jv Sn
  refine kO b kp (X 0 rfl b (jz j) (X 1 rfl b (jz rfl) (XQ 2 rfl b (mZ (enc := jw) (i := (I : Int)) (x0 := J) aH aN rfl rfl c (aG _) N) (fun Y G => XH 3 rfl b (fun _ n => jx rfl (jS n G bQ aN)) (X 4 rfl b (jz k) (X 5 rfl b (jz rfl) (bS a fun B x a => XQ 6 rfl b (mZ (enc := jw) (i := (I : Int)) (x0 := B) aH aN rfl rfl z (kk x) (kj x)) (fun Z H => XH 7 rfl b (fun _ n => jx rfl (jS n H bQ aN)) (X 8 rfl b (Hc rfl rfl (nl fk) (Cc (wO _ J B))) (kP kr (jH (CI a rfl (fun D a => ?_) (fun D a => ?_)))))))))))))
  ·refine sg (Wa (lt (mc (ki (mc (ki ?_))))))
   obtain rfl := sj a
   exact rP d
  exact kQ (kl (jH ⟨l, _, ⟨rfl, p⟩, (d.jv St), j, k, (by rw [T]; exact a)⟩))
 rintro E W ⟨g, ⟨l, p⟩, d, j, k, a⟩
 rw [aM] at a
 exact jH (sg (Wa (lt (rQ a d))))
set_option maxHeartbeats 4000000 in
theorem A6 (a0 : Int) (D : kF) (T U : Value) (j : Nat) (M : Bool) (k : Nat) (G : Int) (K : Nat) (Y : Value) (Z : List nw) (t : Nat) (H : Int) (r : (Bool × Bool × Int)) (w : World) {μ0 : jW} (h0 : ny μ0 ((j, Ob #[(.bool M)] 4) :: ((k, Ob #[(.int .i64 G)] 3) :: ((t, Ob #[(.int .u8 H)] 5) :: []))) w) (N : Sl (Pl jw) 9 μ0 T D.nT) (Q : Sl (Pl jw) 9 μ0 U D.nD) (b7 : Sl nW 2 μ0 Y Z) (a2 : At μ0 (.pointer (some ⟨K, 0, none⟩)) [Y]) (hm : od a0 D M G Z H = some r) :
  kR true pg0 9 [(.int .i64 a0), (.agg #[T, U]), (.pointer (some ⟨j, 0, none⟩)), (.pointer (some ⟨k, 0, none⟩)), (.pointer (some ⟨K, 0, none⟩)), (.pointer (some ⟨t, 0, none⟩))] w ((j, Ob #[(.bool M)] 4) :: ((k, Ob #[(.int .i64 G)] 3) :: ((t, Ob #[(.int .u8 H)] 5) :: []))) (fun v L1 W' => v = (.bool (r.1)) ∧ L1 = ((j, Ob #[(.bool (r.2.1))] 4) :: ((k, Ob #[(.int .i64 (r.2.2))] 3) :: ((t, Ob #[(.int .u8 H)] 5) :: [])))) := by
 let d0 : Value := (.pointer (some ⟨K, 0, none⟩))
 let R : Value := (.pointer (some ⟨t, 0, none⟩))
 let c2 : Value := (.pointer (some ⟨k, 0, none⟩))
 let c1 : Value := (.pointer (some ⟨j, 0, none⟩))
 let O := (#[(.bool M)] : Array Value)
 let b8 := (#[(.int .u8 H)] : Array Value)
 let s := (#[(.int .i64 G)] : Array Value)
 let P := ((j, Obj.cells O 4 (0, 0)) :: ((k, Obj.cells s 3 (0, 0)) :: ((t, Obj.cells b8 5 (0, 0)) :: [])))
 refine yF h0 47 func9 rfl (fun m => sg ?_)
 obtain ⟨A1, Z, rfl⟩ := N.form
 obtain ⟨A3, c4, rfl⟩ := Q.form
 let a3 := (#[(.slice A1 D.nT.length Z), (.slice A3 D.nD.length c4)] : Array Value)
 refine VE (kv m rfl (fun W6 L m => Wa (ln (jL ?_))))
 let c9 : Value := (.pointer (some ⟨L, 0, none⟩))
 replace m := m.drew
 have b := m.has.jv (Kb (Db (Kb Sn)))
 have d := m.has.jv (Db (Kb Sn))
 refine tE 32 b d kp (kf 0 rfl kr (.inl rfl) rfl dc (fun _ _ h => ⟨h.1, km br h.2⟩) ⟨b, fun _ => d⟩ (fun l W n q => have p := (q.2 (n.Bb 32 [0] kr rfl)); jx rfl (jJ p Mh rfl jl)) (kf 1 rfl kr (.inl rfl) rfl dc (fun _ _ h => ⟨h.1, km br h.2⟩) ⟨b, fun _ => d⟩ (fun _ _ _ _ => jz rfl) (PJ hm (fun e6 E W => ∃ d2, ST true (keys P) w W μ0 ((L, Obj.cells a3 43 (0, 0)) :: ((j, Obj.cells O 4 (0, 0)) :: ((k, Obj.cells s 3 (0, 0)) :: ((t, Obj.cells b8 5 (0, 0)) :: d2)))) ∧ E 2 = c1 ∧ E 3 = c2 ∧ E 4 = d0 ∧ E 5 = R ∧ E 7 = c9 ∧ E 14 = (.bool e6)) (bm 33 63) 27 ?_ (fun e6 J a7 => ?_))))
 ·rintro j0 E W ⟨d2, m, d6, a9, b0, d7, d8, g1⟩ e9
  have b := m.has.jv (Kb (Db (Kb Sn)))
  have d := m.has.jv (Db (Kb Sn))
  refine kf 6 rfl kr (.inl rfl) rfl dc (fun _ _ h => ⟨h.1, km br h.2⟩) ⟨b, fun _ => d⟩ (fun _ _ _ _ => jz g1) (PJ e9 (fun e5 E W => ∃ d3, ST true (keys P) w W μ0 ((L, Obj.cells a3 43 (0, 0)) :: ((j, Obj.cells O 4 (0, 0)) :: ((k, Obj.cells s 3 (0, 0)) :: ((t, Obj.cells b8 5 (0, 0)) :: d3)))) ∧ E 2 = c1 ∧ E 3 = c2 ∧ E 4 = d0 ∧ E 5 = R ∧ E 7 = c9 ∧ E 20 = (.bool e5)) (bm 33 4095) 21 ?_ (fun e5 I a6 => ?_))
  ·rintro j3 E W ⟨d3, m, d9, b1, b2, e0, b3, g2⟩ f0
   have b := m.has.jv (Kb (Db (Kb Sn)))
   have d := m.has.jv (Db (Kb Sn))
   refine kf 12 rfl kr (.inl rfl) rfl dc (fun _ _ h => ⟨h.1, km br h.2⟩) ⟨b, fun _ => d⟩ (fun _ _ _ _ => jz g2) (PJ f0 (fun e4 E W => ∃ d4, ST true (keys P) w W μ0 ((L, Obj.cells a3 43 (0, 0)) :: ((j, Obj.cells O 4 (0, 0)) :: ((k, Obj.cells s 3 (0, 0)) :: ((t, Obj.cells b8 5 (0, 0)) :: d4)))) ∧ E 2 = c1 ∧ E 3 = c2 ∧ E 4 = d0 ∧ E 5 = R ∧ E 7 = c9 ∧ E 30 = (.bool e4)) (bm 33 4194303) 11 ?_ (fun e4 B a5 => ?_))
   ·rintro j4 E W ⟨d4, m, e1, b4, g3, e2, g4, g7⟩ f1
    have b := m.has.jv (Kb (Db (Kb Sn)))
    have d := m.has.jv (Db (Kb Sn))
    refine kf 22 rfl kr (.inl rfl) rfl dc (fun _ _ h => ⟨h.1, km br h.2⟩) ⟨b, fun _ => d⟩ (fun _ _ _ _ => jz g7) (PJ f1 (fun e3 E W => ∃ d5, ST true (keys P) w W μ0 ((L, Obj.cells a3 43 (0, 0)) :: ((j, Obj.cells O 4 (0, 0)) :: ((k, Obj.cells s 3 (0, 0)) :: ((t, Obj.cells b8 5 (0, 0)) :: d5)))) ∧ E 2 = c1 ∧ E 3 = c2 ∧ E 5 = R ∧ E 40 = (.bool e3)) (bm 33 4294967295) 1 ?_ (fun e3 z a4 => ?_))
    ·rintro c6 E W ⟨d5, m, g8, b6, g9, h1⟩ f2
     replace m := m.perm (Nb (Pb Pz) Nz)
     refine XO 32 rfl (jK (.bool c6) (#[(.bool c6)]) m g8 h1 iL (Ee c6) nb rfl (fun h6 m => ?_))
     have b := m.has.jv (Db (Kb (Kb Sn)))
     refine ⟨⟨b, fun h => xr kr h⟩, (kP kr (jH ?_))⟩
     replace m := m.jv (Kb (Db St))
     refine sg (V (jx b6 (jJ m.has (Mt Mh) rfl bR)) (Wi rfl ?_))
     replace m := m.perm (Nb (Pb Pz) Nz)
     refine VO (jK (.int .i64 (wi0 .i64 (G + 1))) (#[(.int .i64 (wi0 .i64 (G + 1)))]) m b6 rfl dW (wQ _ (wi0 .i64 (G + 1))) nb rfl (fun h7 m => lr (V (jx b6 (jJ m.has Mh rfl bR)) (V (jx g9 (jJ m.has (Mt (Mt Mh)) rfl isAgg5)) (V (pT (k' := .u8) (a := H) fi dD rfl) (Wi rfl (Wa (lt ?_))))))))
     obtain rfl := sj f2
     exact lj (v := (.bool (decide ((wi0 .i64 (G + 1)) ≤ (wi0 .i64 H))))) rfl rfl ⟨_, _, rfl, (m.lU (Sb (Pb Pz) (Kb (Kb Sn)))), rfl, rfl⟩
    refine bC z (fun g z => ?_) (fun g z => ?_)
    ·refine kf 23 rfl kr (.inr ⟨22, true, 31, rfl, rfl, by decide, (cB g)⟩) rfl dc (fun _ _ h => ⟨h.1, km br h.2⟩) ⟨b, fun _ => d⟩ (fun _ _ _ _ => oD (i := 1) eQ eo g4 rfl dc dc) (kf 24 rfl kr (.inr ⟨22, true, 31, rfl, rfl, by decide, (cB g)⟩) rfl dc (fun _ _ h => ⟨h.1, km br h.2⟩) ⟨b, fun _ => d⟩ (fun l W n q => have p := q.1; jx rfl (jJ p Mh rfl dY)) (kf 25 rfl kr (.inr ⟨22, true, 31, rfl, rfl, by decide, (cB g)⟩) rfl dc (fun _ _ h => ⟨h.1, km br h.2⟩) ⟨b, fun _ => d⟩ (fun l W n q => have p := q.1; jx g3 (ni p (y := Y) a2 isAgg37)) (kf 26 rfl kr (.inr ⟨22, true, 31, rfl, rfl, by decide, (cB g)⟩) rfl dc (fun _ _ h => ⟨h.1, km br h.2⟩) ⟨b, fun _ => d⟩ (fun l W n q => have p := q.1; jx b4 (jJ p (Mt Mh) rfl bR)) (bS z fun e7 c7 z => qL 27 rfl kr (.inr ⟨22, true, 31, rfl, rfl, by decide, (cB g)⟩) rfl dc (fun _ _ h => ⟨h.1, km br h.2⟩) ⟨b, fun _ => d⟩ (lI (i := G) (x0 := e7) nW.out fJ iD rfl rfl b7 (kk c7) (kj c7)) (fun i1 ⟨_, ⟨i7, b9, rfl, h3, f9⟩, f3⟩ => qL 28 rfl kr (.inr ⟨22, true, 31, rfl, rfl, by decide, (cB g)⟩) rfl dc (fun _ _ h => ⟨h.1, km br h.2⟩) ⟨b, fun _ => d⟩ (qz [b9] Jp rfl f3 rfl) (fun i2 f4 => kf 29 rfl kr (.inr ⟨22, true, 31, rfl, rfl, by decide, (cB g)⟩) rfl dc (fun _ _ h => ⟨h.1, km br h.2⟩) ⟨b, fun _ => d⟩ (fun l W n q => have p := q.1; jx rfl (ni p (y := b9) f4 dY)) (bS z fun i5 f7 z => BG 30 rfl rfl (cB g) (Eg m call10 (EG (.slice A3 D.nD.length c4) D.nD b9 e7.B _ _ (Q.mono (Pl.mono _) m.jF) (f9.mono (Pl.mono _) m.jF) f7) (fun h8 m => ?_)))))))))
     have b := m.has.jv (Kb (Db (Kb Sn)))
     have d := m.has.jv (Db (Kb Sn))
     refine ⟨⟨b, fun _ => d⟩, (kf 31 rfl kr (.inl rfl) rfl dc (fun _ _ h => ⟨h.1, km br h.2⟩) ⟨b, fun _ => d⟩ (fun _ _ _ _ => jO (cB g) rfl) ?_)⟩
     obtain rfl := sj z
     refine ml kr (a4 _ _ ⟨_, (m.jv St), e1, b4, e2, rfl⟩)
    refine qF 23 rfl kr rfl rfl dc (cB g) rfl dc (fun _ _ h => ⟨h.1, km br h.2⟩) ⟨b, fun _ => d⟩ (qF 24 rfl kr rfl rfl dc (cB g) rfl dc (fun _ _ h => ⟨h.1, km br h.2⟩) ⟨b, fun _ => d⟩ (qF 25 rfl kr rfl rfl dc (cB g) rfl dc (fun _ _ h => ⟨h.1, km br h.2⟩) ⟨b, fun _ => d⟩ (qF 26 rfl kr rfl rfl dc (cB g) rfl dc (fun _ _ h => ⟨h.1, km br h.2⟩) ⟨b, fun _ => d⟩ (qF 27 rfl kr rfl rfl dc (cB g) rfl dc (fun _ _ h => ⟨h.1, km br h.2⟩) ⟨b, fun _ => d⟩ (qF 28 rfl kr rfl rfl dc (cB g) rfl dc (fun _ _ h => ⟨h.1, km br h.2⟩) ⟨b, fun _ => d⟩ (qF 29 rfl kr rfl rfl dc (cB g) rfl dc (fun _ _ h => ⟨h.1, km br h.2⟩) ⟨b, fun _ => d⟩ (qF 30 rfl kr rfl rfl dc (cB g) rfl dc (fun _ _ h => ⟨h.1, km br h.2⟩) ⟨b, fun _ => d⟩ (kf 31 rfl kr (.inl rfl) rfl dc (fun _ _ h => ⟨h.1, km br h.2⟩) ⟨b, fun _ => d⟩ (fun _ _ _ _ => jP (cB g) rfl) ?_))))))))
    obtain rfl := sj z
    refine ml kr (a4 _ _ ⟨_, (m.jv St), e1, b4, e2, rfl⟩)
   refine bC B (fun c B => ?_) (fun c B => ?_)
   ·refine kf 13 rfl kr (.inr ⟨12, true, 21, rfl, rfl, by decide, (cB c)⟩) rfl dc (fun _ _ h => ⟨h.1, km br h.2⟩) ⟨b, fun _ => d⟩ (fun _ _ _ _ => oD (i := 0) eQ eo b3 rfl dc dc) (kf 14 rfl kr (.inr ⟨12, true, 21, rfl, rfl, by decide, (cB c)⟩) rfl dc (fun _ _ h => ⟨h.1, km br h.2⟩) ⟨b, fun _ => d⟩ (fun l W n q => have p := q.1; jx rfl (jJ p Mh rfl dY)) (kf 15 rfl kr (.inr ⟨12, true, 21, rfl, rfl, by decide, (cB c)⟩) rfl dc (fun _ _ h => ⟨h.1, km br h.2⟩) ⟨b, fun _ => d⟩ (fun l W n q => have p := q.1; jx b2 (ni p (y := Y) a2 isAgg37)) (kf 16 rfl kr (.inr ⟨12, true, 21, rfl, rfl, by decide, (cB c)⟩) rfl dc (fun _ _ h => ⟨h.1, km br h.2⟩) ⟨b, fun _ => d⟩ (fun l W n q => have p := q.1; jx b1 (jJ p (Mt Mh) rfl bR)) (bS B fun e8 c8 B => qL 17 rfl kr (.inr ⟨12, true, 21, rfl, rfl, by decide, (cB c)⟩) rfl dc (fun _ _ h => ⟨h.1, km br h.2⟩) ⟨b, fun _ => d⟩ (lI (i := G) (x0 := e8) nW.out fJ iD rfl rfl b7 (kk c8) (kj c8)) (fun i3 ⟨_, ⟨c5, i8, rfl, g0, h4⟩, f5⟩ => qL 18 rfl kr (.inr ⟨12, true, 21, rfl, rfl, by decide, (cB c)⟩) rfl dc (fun _ _ h => ⟨h.1, km br h.2⟩) ⟨b, fun _ => d⟩ (qz [c5] GG rfl f5 rfl) (fun i4 f6 => kf 19 rfl kr (.inr ⟨12, true, 21, rfl, rfl, by decide, (cB c)⟩) rfl dc (fun _ _ h => ⟨h.1, km br h.2⟩) ⟨b, fun _ => d⟩ (fun l W n q => have p := q.1; jx rfl (ni p (y := c5) f6 dY)) (bS B fun i6 f8 B => BG 20 rfl rfl (cB c) (Eg m call10 (EG (.slice A1 D.nT.length Z) D.nT c5 e8.A _ _ (N.mono (Pl.mono _) m.jF) (g0.mono (Pl.mono _) m.jF) f8) (fun h9 m => ?_)))))))))
    have b := m.has.jv (Kb (Db (Kb Sn)))
    have d := m.has.jv (Db (Kb Sn))
    refine ⟨⟨b, fun _ => d⟩, (kf 21 rfl kr (.inl rfl) rfl dc (fun _ _ h => ⟨h.1, km br h.2⟩) ⟨b, fun _ => d⟩ (fun _ _ _ _ => jO (cB c) rfl) ?_)⟩
    obtain rfl := sj B
    refine ml kr (a5 _ _ ⟨_, (m.jv St), d9, b1, b2, e0, b3, rfl⟩)
   refine qF 13 rfl kr rfl rfl dc (cB c) rfl dc (fun _ _ h => ⟨h.1, km br h.2⟩) ⟨b, fun _ => d⟩ (qF 14 rfl kr rfl rfl dc (cB c) rfl dc (fun _ _ h => ⟨h.1, km br h.2⟩) ⟨b, fun _ => d⟩ (qF 15 rfl kr rfl rfl dc (cB c) rfl dc (fun _ _ h => ⟨h.1, km br h.2⟩) ⟨b, fun _ => d⟩ (qF 16 rfl kr rfl rfl dc (cB c) rfl dc (fun _ _ h => ⟨h.1, km br h.2⟩) ⟨b, fun _ => d⟩ (qF 17 rfl kr rfl rfl dc (cB c) rfl dc (fun _ _ h => ⟨h.1, km br h.2⟩) ⟨b, fun _ => d⟩ (qF 18 rfl kr rfl rfl dc (cB c) rfl dc (fun _ _ h => ⟨h.1, km br h.2⟩) ⟨b, fun _ => d⟩ (qF 19 rfl kr rfl rfl dc (cB c) rfl dc (fun _ _ h => ⟨h.1, km br h.2⟩) ⟨b, fun _ => d⟩ (qF 20 rfl kr rfl rfl dc (cB c) rfl dc (fun _ _ h => ⟨h.1, km br h.2⟩) ⟨b, fun _ => d⟩ (kf 21 rfl kr (.inl rfl) rfl dc (fun _ _ h => ⟨h.1, km br h.2⟩) ⟨b, fun _ => d⟩ (fun _ _ _ _ => jP (cB c) rfl) ?_))))))))
   obtain rfl := sj B
   refine ml kr (a5 _ _ ⟨_, (m.jv St), d9, b1, b2, e0, b3, rfl⟩)
  refine bC I (fun u I => ?_) (fun u I => ?_)
  ·refine kf 7 rfl kr (.inr ⟨6, true, 15, rfl, rfl, by decide, (cB u)⟩) rfl dc (fun _ _ h => ⟨h.1, km br h.2⟩) ⟨b, fun _ => d⟩ (fun l W n q => have p := q.1; jx a9 (jJ p (Mt Mh) rfl bR)) (kf 8 rfl kr (.inr ⟨6, true, 15, rfl, rfl, by decide, (cB u)⟩) rfl dc (fun _ _ h => ⟨h.1, km br h.2⟩) ⟨b, fun _ => d⟩ (fun l W n q => have p := q.1; jx b0 (ni p (y := Y) a2 isAgg37)) (kf 9 rfl kr (.inr ⟨6, true, 15, rfl, rfl, by decide, (cB u)⟩) rfl dc (fun _ _ h => ⟨h.1, km br h.2⟩) ⟨b, fun _ => d⟩ (fun _ _ _ _ => kK fJ rfl b7) (kf 10 rfl kr (.inr ⟨6, true, 15, rfl, rfl, by decide, (cB u)⟩) rfl dc (fun _ _ h => ⟨h.1, km br h.2⟩) ⟨b, fun _ => d⟩ (fun _ _ _ _ => kh rfl rfl rfl) (kf 11 rfl kr (.inl rfl) rfl dc (fun _ _ h => ⟨h.1, km br h.2⟩) ⟨b, fun _ => d⟩ (fun _ _ _ _ => jO (cB u) rfl) ?_))))
   obtain rfl := sj I
   refine ml kr (a6 _ _ ⟨_, (m.jv St), d6, a9, b0, d7, d8, rfl⟩)
  refine qF 7 rfl kr rfl rfl dc (cB u) rfl dc (fun _ _ h => ⟨h.1, km br h.2⟩) ⟨b, fun _ => d⟩ (qF 8 rfl kr rfl rfl dc (cB u) rfl dc (fun _ _ h => ⟨h.1, km br h.2⟩) ⟨b, fun _ => d⟩ (qF 9 rfl kr rfl rfl dc (cB u) rfl dc (fun _ _ h => ⟨h.1, km br h.2⟩) ⟨b, fun _ => d⟩ (qF 10 rfl kr rfl rfl dc (cB u) rfl dc (fun _ _ h => ⟨h.1, km br h.2⟩) ⟨b, fun _ => d⟩ (kf 11 rfl kr (.inl rfl) rfl dc (fun _ _ h => ⟨h.1, km br h.2⟩) ⟨b, fun _ => d⟩ (fun _ _ _ _ => jP (cB u) rfl) ?_))))
  obtain rfl := sj I
  refine ml kr (a6 _ _ ⟨_, (m.jv St), d6, a9, b0, d7, d8, rfl⟩)
 refine bC J (fun x J => ?_) (fun x J => ?_)
 ·refine kf 2 rfl kr (.inr ⟨1, true, 10, rfl, rfl, by decide, (cB x)⟩) rfl dc (fun _ _ h => ⟨h.1, km br h.2⟩) ⟨b, fun _ => d⟩ (fun _ _ _ _ => jz rfl) (kf 3 rfl kr (.inr ⟨1, true, 10, rfl, rfl, by decide, (cB x)⟩) rfl dc (fun _ _ h => ⟨h.1, km br h.2⟩) ⟨b, fun _ => d⟩ (fun l W n q => have p := q.1; jx rfl (jJ p (Mt Mh) rfl bR)) (kf 4 rfl kr (.inr ⟨1, true, 10, rfl, rfl, by decide, (cB x)⟩) rfl dc (fun _ _ h => ⟨h.1, km br h.2⟩) ⟨b, fun _ => d⟩ (fun _ _ _ _ => kh rfl rfl rfl) (kf 5 rfl kr (.inl rfl) rfl dc (fun _ _ h => ⟨h.1, km br h.2⟩) ⟨b, fun _ => d⟩ (fun _ _ _ _ => jO (cB x) rfl) ?_)))
  obtain rfl := sj J
  refine ml kr (a7 _ _ ⟨_, (m.jv St), rfl, rfl, rfl, rfl, rfl, rfl⟩)
 refine qF 2 rfl kr rfl rfl dc (cB x) rfl dc (fun _ _ h => ⟨h.1, km br h.2⟩) ⟨b, fun _ => d⟩ (qF 3 rfl kr rfl rfl dc (cB x) rfl dc (fun _ _ h => ⟨h.1, km br h.2⟩) ⟨b, fun _ => d⟩ (qF 4 rfl kr rfl rfl dc (cB x) rfl dc (fun _ _ h => ⟨h.1, km br h.2⟩) ⟨b, fun _ => d⟩ (kf 5 rfl kr (.inl rfl) rfl dc (fun _ _ h => ⟨h.1, km br h.2⟩) ⟨b, fun _ => d⟩ (fun _ _ _ _ => jP (cB x) rfl) ?_)))
 obtain rfl := sj J
 refine ml kr (a7 _ _ ⟨_, (m.jv St), rfl, rfl, rfl, rfl, rfl, rfl⟩)
set_option maxHeartbeats 4000000 in
theorem DO (c : na) (a4 a6 M a3 N d3 : Value) (L : Int) (r : Bool) (w : World) (u : Sl kz 15 (hp w) a4 c.ju.jN) (z : Sl lF 8 (hp w) a6 c.ju.ky) (g : Sl kz 15 (hp w) M c.Client.jN) (t : Sl lF 8 (hp w) a3 c.Client.ky) (j : Sl jt 5 (hp w) N c.Formula.Kids) (I : Sl qt 2 (hp w) d3 c.Keys) (hm : ud c L = some r) :
  jZ false pg0 3 [(.agg #[(.string c.ju.Name), a4, a6, (.string c.Client.Name), M, a3, (.int .i64 c.Formula.Op), (.int .i64 c.Formula.K), (.string c.Formula.jr.ju), (.string c.Formula.jr.jy), N, (.int .i64 c.uY), (.int .i64 c.nu.nT), (.int .i64 c.nu.nD), (.int .i64 c.pa), (.int .i64 c.sH), (.int .i64 c.qp), d3]), (.int .u8 L)] w (.bool r) := by
 refine cG 66 func3 rfl (fun b => sg ?_)
 obtain ⟨A1, c2, rfl⟩ := u.form
 let b7 : Value := (.slice A1 c.ju.jN.length c2)
 obtain ⟨A3, c4, rfl⟩ := z.form
 let c1 : Value := (.slice A3 c.ju.ky.length c4)
 obtain ⟨A5, c6, rfl⟩ := g.form
 let b6 : Value := (.slice A5 c.Client.jN.length c6)
 obtain ⟨A7, c8, rfl⟩ := t.form
 let b8 : Value := (.slice A7 c.Client.ky.length c8)
 obtain ⟨A9, U, rfl⟩ := j.form
 let b9 : Value := (.slice A9 c.Formula.Kids.length U)
 obtain ⟨T, Y, rfl⟩ := I.form
 let c3 : Value := (.slice T c.Keys.length Y)
 let a0 := (C2 c.ju.Name A1 c.ju.jN.length c2 A3 c.ju.ky.length c4 c.Client.Name A5 c.Client.jN.length c6 A7 c.Client.ky.length c8 c.Formula.Op c.Formula.K c.Formula.jr.ju c.Formula.jr.jy A9 c.Formula.Kids.length U c.uY c.nu.nT c.nu.nD c.pa c.sH c.qp T c.Keys.length Y)
 refine VE (kv b rfl (fun o0 P b => VE (kv b rfl (fun o1 e9 b => Wa (lS (bS hm fun p3 k9 hm => VE (Eg b call5 (IA  _ _  k9) (fun o2 b => V (nt rfl) (ln (CI hm rfl (fun k5 hm => ?_) (fun k5 hm => ?_)))))))))))
 ·refine sg (Wa (ln ?_))
  replace b := b.jv (Db (Db St))
  refine ke (ki ?_)
  obtain rfl := sj hm
  exact rP b
 refine kS (VA b (Mt Mh) a0 fI eL (bS hm fun p4 l0 hm => VE (Eg b call6 (IK c b7 c1 b6 b8 b9 c3 _ _ (u.mono kC.mono b.jF) (z.mono mI.mono b.jF) (g.mono kC.mono b.jF) (t.mono mI.mono b.jF) (j.mono jC.mono b.jF) (I.mono yg.mono b.jF) l0) (fun o3 b => Wi rfl (ln (CI hm rfl (fun k6 hm => ?_) (fun k6 hm => ?_)))))))
 ·refine sg (Wa (ln ?_))
  replace b := b.jv (Db (Db St))
  refine ke (ki ?_)
  obtain rfl := sj hm
  exact rP b
 refine kg (VA b (Mt Mh) a0 fI eL (bS hm fun K l1 hm => ?_))
 let g5 : Value := (.int .i64 (K.length : Int))
 refine VE (eD b (bT _) call7 (fun hh => (HA c b7 c1 b6 b8 b9 c3 _ _ hh (u.mono kC.mono (jX.refl _)) (z.mono mI.mono (jX.refl _)) (g.mono kC.mono (jX.refl _)) (t.mono mI.mono (jX.refl _)) (j.mono jC.mono (jX.refl _)) (I.mono yg.mono (jX.refl _)) l1)) ?_ (L0 := []))
 rintro _ p6 q1 n6 b B ad ⟨q0, f5, rfl, d2⟩
 obtain rfl := f5.symm
 refine VE (jU b zeroValue37 (fun o5 f0 b => ?_))
 obtain ⟨b1, b3, rfl⟩ := d2.form
 let m : Value := (.slice b1 K.length b3)
 refine VO (jK m (#[m]) b rfl rfl sizeOf37 oc nb rfl (fun o6 b => lr (VE (jU b iZ (fun o7 f1 b => VE (jU b gp (fun o8 f2 b => ?_)))))))
 replace b := b.perm (Nb (Pb Pz) Nz)
 refine VO (jK (.int .i64 0) (#[(.int .i64 0)]) b rfl rfl dW (wQ _ 0) nb rfl (fun o9 b => ?_))
 replace b := b.perm (Nb (Pb Pz) Nz)
 refine VO (jK (.bool true) (#[(.bool true)]) b rfl rfl iL (Ee true) nb rfl (fun p0 b => lr (VA b (Mt (Mt (Mt (Mt Mh)))) a0 fI eL (bS hm fun l l2 hm => ?_))))
 refine VE (AT b (bT _) call8 (fun _ _ _ _ => kR.lG (wk c b7 c1 b6 b8 b9 c3 _ _ (u.mono kC.mono (B.trans b.jF)) (z.mono mI.mono (B.trans b.jF)) (g.mono kC.mono (B.trans b.jF)) (t.mono mI.mono (B.trans b.jF)) (j.mono jC.mono (B.trans b.jF)) (I.mono yg.mono (B.trans b.jF)) l2)) (fun p1 p7 q2 n7 b G ae q k3 => ?_) (L0 := []))
 obtain ⟨k1, f6, rfl⟩ := k3
 replace f6 := f6.symm; subst f6
 replace b := b.perm (Tb Tn)
 refine V (qJ (by exact SH rfl rfl rfl rfl) rfl) ?_
 replace b := b.perm (Nb (Pb (Pb (Pb Pz))) Nz)
 obtain ⟨q3, b, H, af, k8⟩ := ST.Gh (R := [(f0, Ob #[m] 37)]) b
 let e8 := ((e9, Ob #[(.int .u8 L)] 5) :: [])
 have f4 := At.of (k8 _ _ (.head _)) _ rfl
 refine bS hm fun p5 l3 hm => ?_
 refine VE (E6 (args := [(.func (.func 9) #[] #[(.pointer (some ⟨f2, 0, none⟩)), (.pointer (some ⟨f1, 0, none⟩)), (.pointer (some ⟨f0, 0, none⟩)), (.pointer (some ⟨e9, 0, none⟩))])]) (caps := #[(.pointer (some ⟨k1, 0, none⟩))]) _ _ b (Cr (Cb (Pb Pz) (Cb (Pb Pz) (Cb (Pb Pz) Cn))) Cn) rfl call24 (by exact ue rfl) (fun hH hN d ab => (tm (fun (s : (Bool × Int)) (R : LO) => R = ((f2, Ob #[(.bool (s.1))] 4) :: ((f1, Ob #[(.int .i64 (s.2))] 3) :: e8))) (.func (.func 9) #[] #[(.pointer (some ⟨f2, 0, none⟩)), (.pointer (some ⟨f1, 0, none⟩)), (.pointer (some ⟨f0, 0, none⟩)), (.pointer (some ⟨e9, 0, none⟩))]) (fun (s : (Bool × Int)) (x : (Int × kF)) => od x.1 x.2 s.1 s.2 K L) (true, 0) ((f2, Ob #[(.bool true)] 4) :: ((f1, Ob #[(.int .i64 0)] 3) :: e8)) k1 l.1 b7 c.ju.jN c1 c.ju.ky l.2.1 b6 c.Client.jN b8 c.Client.ky l.2.2.1 l.2.2.2.1 l.2.2.2.2.1 b9 c.Formula.Kids l.2.2.2.2.2.1 l.2.2.2.2.2.2.1 l.2.2.2.2.2.2.2.1 l.2.2.2.2.2.2.2.2.1 l.2.2.2.2.2.2.2.2.2 c3 c.Keys _ _ ⟨hH, hN, jX.refl _⟩ (Aj.fn call9 (fun W s x vs r R hs hI hH hN aa hm => by
   obtain ⟨_, rfl, l8⟩ := aa
   obtain ⟨t0, t1, rfl, j0, j1⟩ := l8.out
   obtain ⟨rfl⟩ := hI
   refine kR.mono (kR.lG <| A6 x.1 x.2 t0 t1 f2 s.1 f1 s.2 f0 m K e9 L r W ⟨hH, hN, jX.refl _⟩ j0 j1 (d2.mono uP.mono (((G.trans H).trans d).trans hs)) (f4.mono (d.trans hs)) hm) ?_
   rintro v L1 W' ⟨rfl, rfl⟩
   exact ⟨rfl, rfl⟩)) rfl (u.mono kC.mono (((B.trans G).trans H).trans d)) (z.mono mI.mono (((B.trans G).trans H).trans d)) (g.mono kC.mono (((B.trans G).trans H).trans d)) (t.mono mI.mono (((B.trans G).trans H).trans d)) (j.mono jC.mono (((B.trans G).trans H).trans d)) (I.mono yg.mono (((B.trans G).trans H).trans d)) (At.of (ab _ _ Mh) _ rfl) l3)) (fun p2 p8 f3 n8 b Q ag q k4 => ?_))
 obtain ⟨n9, f7, rfl, l4⟩ := k4
 replace f7 := f7.symm; subst f7
 obtain rfl := l4
 simp only [aJ, bE, aV] at b
 refine ln ?_
 replace b := b.jv (Kb (Kb (Kb (Db St))))
 let c0 : Value := (.pointer (some ⟨P, 0, none⟩))
 refine jL (sg (VB b Mh rfl rfl jl (V (nt rfl) (Wm (LJ hm (fun g8 E W => ∃ k0, ST false kw w W f3 ((P, Ol a0 34) :: k0) ∧ E 2 = c0 ∧ E 5 = (.pointer (some ⟨f0, 0, none⟩)) ∧ E 36 = (.bool g8)) 9 ?_ (fun g8 a9 e4 => ?_))))))
 ·rintro p9 E W ⟨k0, b, l5, l6, l7⟩ e2
  refine ln (CI e2 l7 (fun k7 e2 => ?_) (fun k7 e2 => ?_))
  ·refine sg (Wa (ln ?_))
   replace b := b.jv (Db St)
   refine ke (ki ?_)
   obtain rfl := sj e2
   exact rP b
  refine kS (V (jx l6 (ni b.has (y := m) (f4.mono Q) isAgg37)) (V (kK fJ rfl d2) (Wm (ln (kA (fun i E W => ∃ e5, (E 39 = .int .i64 (i : Nat) ∧ E 38 = .int .i64 (K.length : Nat)) ∧ ST false kw w W f3 ((P, Ol a0 34) :: e5) ∧ E 2 = c0 ∧ E 37 = m ∧ oQ c (K.drop i) i = some r) K.length d2.len ⟨_, ⟨rfl, rfl⟩, (b.jv St), l5, rfl, e2⟩ dc dc dc (fun _ _ _ h => by obtain ⟨_, p, _⟩ := h; exact p) ?_ ?_)))))
  ·rintro c9 E W j6 ⟨e5, ⟨n, eN⟩, b, g2, e7, a2⟩
   let c5 : Value := (.int .i64 (c9 : Int))
   obtain ⟨a5, n3, j8, j7, j9⟩ := ku j6
   rw [j8] at a2
   refine bg (Wh n (VQ (lI (i := (c9 : Int)) (x0 := a5) nW.out fJ iD e7 n (d2.mono uP.mono ((G.trans H).trans Q)) (aG _) j7) (fun m7 ⟨_, ⟨n0, n1, rfl, d1, h6⟩, h3⟩ => V (jx rfl (jS b.has h3 isAgg46 iD)) (VE (jU b eJ (fun m0 m5 b => Wa ?_))))))
   obtain ⟨d4, d5, rfl⟩ := d1.form
   let c7 : Value := (.slice d4 a5.A.length d5)
   obtain ⟨f8, g1, rfl⟩ := h6.form
   refine VO (jK (.agg #[c7, (.slice f8 a5.B.length g1)]) (#[c7, (.slice f8 a5.B.length g1)]) b rfl rfl iD oc nb rfl (fun m1 b => lr (Wf GG (VB b Mh rfl rfl dY (V (kK aH rfl d1) (Wm (ln ?_)))))))
   replace b := b.jv (Db St)
   refine re (RH a2 (fun g4 E W => ∃ f9, ST false kw w W f3 ((P, Ol a0 34) :: f9) ∧ E 2 = c0 ∧ E 37 = m ∧ E 38 = g5 ∧ E 39 = c5) (fun g4 h2 e1 => ?_) ?_)
   ·refine kA (fun i E W => ∃ e6, (E 47 = .int .i64 (i : Nat) ∧ E 46 = .int .i64 (a5.A.length : Nat)) ∧ ST false kw w W f3 ((P, Ol a0 34) :: e6) ∧ E 2 = c0 ∧ E 8 = c5 ∧ E 37 = m ∧ E 38 = g5 ∧ E 39 = c5 ∧ E 45 = c7 ∧ oP c c9 (a5.A.drop i) = some g4) a5.A.length d1.len ⟨_, ⟨rfl, rfl⟩, (b.jv St), g2, rfl, e7, eN, n, rfl, h2⟩ dc dc dc (fun _ _ _ h => by obtain ⟨_, p, _⟩ := h; exact p) ?_ ?_
    ·rintro g3 E W h0 ⟨e6, ⟨n, eN⟩, b, d0, d6, d7, d8, d9, e0, J⟩
     obtain ⟨O, l9, h8, h7, h9⟩ := ku h0
     rw [h8] at J
     refine bg (VQ (mZ (enc := jw) (i := (g3 : Int)) (x0 := O) aH aN e0 n d1 (aG _) h7) (fun m8 h4 => V (jx rfl (jS b.has h4 bQ aN)) (VE (jU b cK (fun m2 m6 b => VO (jK (.agg (jw O).toArray) ((jw O).toArray) b rfl rfl aN (mH O) nb rfl (fun m3 b => lr (V (jx d0 (jD b.has (Mt Mh) a0 rfl fI eL)) (VA b Mh (jw O) bQ aN (bS J fun m9 h5 J => VE (Eg b call11 (Al c b7 c1 b6 b8 b9 c3 0 O _ _ (u.mono kC.mono ((((B.trans G).trans H).trans Q).trans b.jF)) (z.mono mI.mono ((((B.trans G).trans H).trans Q).trans b.jF)) (g.mono kC.mono ((((B.trans G).trans H).trans Q).trans b.jF)) (t.mono mI.mono ((((B.trans G).trans H).trans Q).trans b.jF)) (j.mono jC.mono ((((B.trans G).trans H).trans Q).trans b.jF)) (I.mono yg.mono ((((B.trans G).trans H).trans Q).trans b.jF)) h5) (fun m4 b => ?_))))))))))))
     refine Wm (Wx rfl (Wx rfl (Wa (Wa (ln ?_)))))
     replace b := b.jv (Db St)
     refine sg (Wm (Wh d6 (Wi rfl (Wm (LJ J (fun g7 E W => ∃ g0, ST false kw w W f3 ((P, Ol a0 34) :: g0) ∧ E 2 = c0 ∧ E 8 = c5 ∧ E 37 = m ∧ E 38 = g5 ∧ E 39 = c5 ∧ E 45 = c7 ∧ E 46 = (.int .i64 (a5.A.length : Int)) ∧ E 47 = (.int .i64 (g3 : Int)) ∧ E 63 = (.bool g7)) 3 ?_ (fun g7 a8 e3 => ?_))))))
     ·rintro n2 E W ⟨g0, b, i4, i5, i6, i7, i8, i9, j3, j4, j5⟩ a7
      refine ln (CI a7 j5 (fun g9 a7 => ?_) (fun g9 a7 => ?_))
      ·refine sg (Wa (ln ?_))
       replace b := b.jv (Db St)
       refine ke (mc (ki (mc (ki (mc (ki (mc (ki ?_))))))))
       obtain rfl := sj a7
       replace e1 : some false = some r := e1
       obtain rfl := sj e1
       exact rP b
      exact kQ (kl (jH ⟨j4, _, ⟨rfl, j3⟩, (b.jv St), i4, i5, i6, i7, i8, i9, (by rw [h9]; exact a7)⟩))
     refine bC a8 (fun Z a8 => ?_) (fun Z a8 => ?_)
     ·refine un Z (un Z (V (jO (cB Z) rfl) ?_))
      obtain rfl := sj a8
      exact e3 _ _ ⟨_, (b.jv St), d0, d6, d7, d8, d9, e0, eN, n, rfl⟩
     refine ug Z (jz rfl) (ug Z (nt rfl) (V (jP (cB Z) rfl) ?_))
     obtain rfl := sj a8
     exact e3 _ _ ⟨_, (b.jv St), d0, d6, d7, d8, d9, e0, eN, n, rfl⟩
    rintro E W ⟨e6, ⟨n, eN⟩, b, d0, d6, d7, d8, d9, e0, J⟩
    rw [aM] at J
    refine jH ?_
    obtain rfl := sj J
    exact ⟨_, rfl, _, (b.jv St), d0, d7, d8, d9⟩
   rintro ⟨⟩ E W ⟨f9, b, i0, i1, i2, i3⟩ h1
   exact kl (jH ⟨i3, _, ⟨rfl, i2⟩, (b.jv St), i0, i1, (by rw [j9]; exact h1)⟩)
  rintro E W ⟨e5, ⟨n, eN⟩, b, g2, e7, a2⟩
  rw [aM] at a2
  refine jH ?_
  replace b := b.jv (Db St)
  exact sg (Wa (lt (rQ a2 b)))
 refine bC a9 (fun D a9 => ?_) (fun D a9 => ?_)
 ·refine un D (un D (un D (un D (un D (un D (un D (un D (V (jO (cB D) rfl) ?_))))))))
  obtain rfl := sj a9
  exact e4 _ _ ⟨_, (b.jv (Db (Db (Db St)))), rfl, rfl, rfl⟩
 refine ug D (jx rfl (jJ b.has (Mt Mh) rfl bR)) (ug D (jx rfl (ni b.has (y := m) (f4.mono Q) isAgg37)) (ug D (kK fJ rfl d2) (ug D (jx rfl (jJ b.has (Mt (Mt Mh)) rfl isAgg5)) (ug D (pT (k' := .u8) (a := L) fi dD rfl) (ug D (kh rfl rfl rfl) (ug D (R7 (k := .i64) rfl rfl) (ug D (kh rfl rfl rfl) (V (jP (cB D) rfl) ?_))))))))
 obtain rfl := sj a9
 exact e4 _ _ ⟨_, (b.jv (Db (Db (Db St)))), rfl, rfl, rfl⟩
end Go.Proofs.YtjjjihkifgdhgaaGreat
