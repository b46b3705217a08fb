/- a part of a proof of WeighTells -/
import Derived.Test.YtbnbdigcbldfhaaGreatW3W1h
set_option linter.all false
namespace Go.Proofs.YtbnbdigcbldfhaaGreat
open Go.IntKind renaming wrap → wi0
open Go.Proofs.Tryz renaming prog → pg0
open Go.RowKit
set_option maxRecDepth 10000
open Tryz
theorem AB (x : Value) (a0 r : List ByteArray) (w : World) (b9 : Sl (Pl iL) 1 (hp w) x a0) (hm : qY a0 = some r) :
  iz true pg0 131 [x] w 9 iL 1 r := by
 refine oE 48 func131 rfl (fun b => sg (Wa (lr (Wa (ln (nH (ji (lT (fun m E W => ∃ u a2 j c0, ST true gN w W (hp w) (j ++ c0) ∧ E 0 = x ∧ E 3 = u ∧ gI 9 iL 1 u a2 j ∧ nj a0 m a2 = some r) jj ⟨(.slice none 0 0), ([]), [], _, (b.gq St), rfl, rfl, (gI.nil _ _ _), hm⟩ ?_))))))))
 rintro m E W ⟨u, a2, j, c0, b, c6, f5, G, Z⟩
 cases m with
 | zero => rw [nj] at Z; cases Z
 | succ i0 =>
  refine bg (Wa (lS (Wh c6 (V (kF az rfl b9) (Wm (ln (CJ Z (fun b7 E W => ∃ c1, ST true gN w W (hp w) (j ++ c1) ∧ E 0 = x ∧ E 3 = u ∧ E 4 = (.string b7)) (fun b7 e4 => ?_) ?_)))))))
  ·refine im (fun i E W => ∃ z q, (E 9 = .int .i64 (i : Nat) ∧ E 8 = .int .i64 (a0.length : Nat)) ∧ ST true gN w W (hp w) (j ++ q) ∧ E 0 = x ∧ E 3 = u ∧ E 4 = (.string z) ∧ E 7 = x ∧ mj a2 (a0.drop i) z = some b7) a0.length b9.len ⟨zS, _, ⟨rfl, rfl⟩, (b.gq St), c6, f5, rfl, rfl, e4⟩ dc dc dc (fun _ _ _ h => by obtain ⟨_, _, a6, _⟩ := h; exact a6) ?_ ?_
   ·rintro d E W e3 ⟨z, q, ⟨n, o⟩, b, Q, H, T, U, t⟩
    obtain ⟨I, i4, f2, f1, b8⟩ := hX e3
    rw [f2] at t
    refine bg (VQ (iZ (enc := iL) (i := (d : Int)) (x0 := I) az bU U n b9 (aj _) f1) (fun i8 e8 => V (gu rfl (kT b.has (y := (.string I)) e8 aG)) (Wa (lr (Wm (bS t fun i1 f0 t => VE (Eg b call138 (oL I _ _  f0) (fun i7 b => Wm (LJ t (fun d6 E W => ∃ c2, ST true gN w W (hp w) (j ++ c2) ∧ E 0 = x ∧ E 3 = u ∧ E 4 = (.string z) ∧ E 6 = (.string I) ∧ E 7 = x ∧ E 8 = (.int .i64 (a0.length : Int)) ∧ E 9 = (.int .i64 (d : Int)) ∧ E 29 = (.bool d6)) 14 ?_ (fun d6 N a9 => ?_))))))))))
    ·rintro i3 E W ⟨c2, b, s, A, Y, a3, L, O, P, f7⟩ e5
     refine Wh f7 (LJ e5 (fun d4 E W => ∃ c3, ST true gN w W (hp w) (j ++ c3) ∧ E 0 = x ∧ E 3 = u ∧ E 4 = (.string z) ∧ E 6 = (.string I) ∧ E 7 = x ∧ E 8 = (.int .i64 (a0.length : Int)) ∧ E 9 = (.int .i64 (d : Int)) ∧ E 38 = (.bool d4)) 8 ?_ (fun d4 K a7 => ?_))
     ·rintro j0 E W ⟨c3, b, c9, d0, f8, f9, d1, d2, d3, g0⟩ J
      refine ln (CI J g0 (fun e2 J => ?_) (fun e2 J => ?_))
      ·exact gE (Wh f9 (Wa (gM (gU (gC ⟨d3, I, _, ⟨rfl, d2⟩, (b.gq St), c9, d0, rfl, d1, (by rw [b8]; exact J)⟩)))))
      exact ic (gU (gC ⟨d3, z, _, ⟨rfl, d2⟩, (b.gq St), c9, d0, f8, d1, (by rw [b8]; exact J)⟩))
     refine bC K (fun g K => ?_) (fun g K => ?_)
     ·refine ug g (gy Y) (ug g (lY rfl rfl rfl) (ug g (gy rfl) (LJ K (fun d5 E W => ∃ c4, ST true gN w W (hp w) (j ++ c4) ∧ E 0 = x ∧ E 3 = u ∧ E 4 = (.string z) ∧ E 6 = (.string I) ∧ E 7 = x ∧ E 8 = (.int .i64 (a0.length : Int)) ∧ E 9 = (.int .i64 (d : Int)) ∧ E 30 = (.bool i3) ∧ E 37 = (.bool d5)) 4 ?_ (fun d5 M a8 => ?_))))
      ·rintro j3 E W ⟨c4, b, g1, g2, g3, g4, g5, g6, g7, g8, g9⟩ e6
       refine V (gK (g8.trans (cB g)) g9) ?_
       obtain rfl := sj e6
       exact a7 _ _ ⟨_, (b.gq St), g1, g2, g3, g4, g5, g6, g7, rfl⟩
      refine bC M (fun k M => ?_) (fun k M => ?_)
      ·refine un k (un k (un k (ug g (gK (cB k) rfl) ?_)))
       obtain rfl := sj M
       exact a8 _ _ ⟨_, (b.gq St), s, A, Y, a3, L, O, P, rfl, rfl⟩
      refine ug k (gy a3) (ug k (gy Y) (ug k (lY rfl rfl rfl) (ug g (gJ (cB k) rfl) ?_)))
      obtain rfl := sj M
      exact a8 _ _ ⟨_, (b.gq St), s, A, Y, a3, L, O, P, rfl, rfl⟩
     refine un g (un g (un g (Vu rfl rfl (Vu rfl rfl (Vu rfl rfl (un g (V (gJ (cB g) rfl) ?_)))))))
     obtain rfl := sj K
     exact a7 _ _ ⟨_, (b.gq St), s, A, Y, a3, L, O, P, rfl⟩
    refine bC N (fun c N => ?_) (fun c N => ?_)
    ·refine ug c (gy H) (ug c (iu az rfl G) (ug c (iX rfl rfl rfl) (ug c (gy rfl) (LJ N (fun d7 E W => ∃ c5, ST true gN w W (hp w) (j ++ c5) ∧ E 0 = x ∧ E 3 = u ∧ E 4 = (.string z) ∧ E 6 = (.string I) ∧ E 7 = x ∧ E 8 = (.int .i64 (a0.length : Int)) ∧ E 9 = (.int .i64 (d : Int)) ∧ E 15 = (.bool i1) ∧ E 28 = (.bool d7)) 9 ?_ (fun d7 D b0 => ?_)))))
     ·rintro j4 E W ⟨c5, b, h0, h1, h2, h3, h4, h5, h6, h7, h8⟩ e7
      refine V (gK (h7.trans (cB c)) h8) ?_
      obtain rfl := sj e7
      exact a9 _ _ ⟨_, (b.gq St), h0, h1, h2, h3, h4, h5, h6, rfl⟩
     refine bC D (fun a D => ?_) (fun a D => ?_)
     ·refine un a (un a (un a (un a (un a (un a (un a (un a (ug c (gK (cB a) rfl) ?_))))))))
      obtain rfl := sj D
      exact b0 _ _ ⟨_, (b.gq St), Q, H, T, rfl, U, o, n, rfl, rfl⟩
     refine ug a (gy rfl) (ug a (gy H) (ug a (gy H) (ug a (iu az rfl G) (ug a (iX rfl rfl rfl) (bS D fun d8 a5 D => FE a (ie (i := (wi0 .i64 ((a2.length : Int) - 1))) (x0 := d8) az bU rfl rfl G (iD a5) (hZ a5)) (fun i9 e9 => ug a (gu rfl (oF b.has (fun p hq => (Ml hq)) G (fun _ => rfl) e9 (hZ a5) (y := (.string d8)) rfl aG)) (ug a (lY rfl rfl rfl) (ug c (gJ (cB a) rfl) ?_))))))))
     obtain rfl := sj D
     exact b0 _ _ ⟨_, (b.gq St), Q, H, T, rfl, U, o, n, rfl, rfl⟩
    refine un c (un c (un c (un c (Vu rfl rfl (Vu rfl rfl (Vu rfl rfl (Vu rfl rfl (Vu rfl rfl (Vu rfl rfl (Vu rfl rfl (Vu rfl rfl (un c (V (gJ (cB c) rfl) ?_)))))))))))))
    obtain rfl := sj N
    exact a9 _ _ ⟨_, (b.gq St), Q, H, T, rfl, U, o, n, rfl⟩
   rintro E W ⟨z, q, ⟨n, o⟩, b, Q, H, T, U, t⟩
   rw [au] at t
   refine gC ?_
   obtain rfl := sj t
   exact ⟨_, (b.gq St), Q, H, T⟩
  rintro a4 E W ⟨c1, b, f6, c7, c8⟩ B
  refine gH (sg (Wh c8 (V (lY rfl rfl rfl) (ln (CI B rfl (fun e0 B => ?_) (fun e0 B => ?_))))))
  ·refine sg (Wh c7 (Wa (lt (iv (jU (iv (jU (iv ?_))))))))
   obtain rfl := sj B
   exact ij (v := u) rfl rfl ⟨_, j, rfl, b.jd (fun p hq => (Ml hq)) G.nd, G⟩
  refine kn (gE (Wh c7 (Wh c8 (VE (gS (cs := [(.string a4)].toArray) b (kk rfl) (jB az bU ey) (fun i5 f4 b => ?_))))))
  replace b := b.perm (Nr (Qb Qz) Nz)
  refine bS B fun h9 e1 B => VE (jn (enc := iL) (v := u) (vs := (.slice (some ⟨f4, 0, none⟩) 1 1)) (R := j) b (fun _ => rfl) dc uk az mH.1 mH.2.1 rfl mH.2.2.1 mH.2.2.2 rfl rfl G (Sl.lit (enc := iL) (l := [a4]) (fun _ => rfl) rfl nb rfl (b.at_ (Ma Mh))) e1 (fun i6 i2 f3 b d9 => Wa (gM (gU (gC ?_)))))
  replace b := b.gq (Kr (Db St))
  exact ⟨i0, bn _, i2, h9, f3, _, (b.gq St), f6, rfl, d9, B⟩
theorem yP (B : Value) (G : List gm) (r : List ByteArray) (w : World) (y : Sl (Pl gp) 9 (hp w) B G) (hm : nE G = some r) :
  iz true pg0 64 [B] w 9 iL 1 r := by
 refine oE 29 func64 rfl (fun d => sg (Wa (lr (Wa (lS (Wm ?_))))))
 refine V (kF ai rfl y) (Wm (ln (im (fun i E W => ∃ g k j t, (E 8 = .int .i64 (i : Nat) ∧ E 7 = .int .i64 (G.length : Nat)) ∧ ST true gN w W (hp w) (j ++ t) ∧ E 3 = g ∧ E 6 = B ∧ gI 9 iL 1 g k j ∧ mq (G.drop i) k = some r) G.length y.len ⟨(.slice none 0 0), ([]), [], _, ⟨rfl, rfl⟩, (d.gq St), rfl, rfl, (gI.nil _ _ _), hm⟩ dc dc dc (fun _ _ _ h => by obtain ⟨_, _, _, _, n, _⟩ := h; exact n) ?_ ?_)))
 ·rintro a5 E W T ⟨g, k, j, t, ⟨m, A⟩, d, u, x, z, c⟩
  obtain ⟨a, b4, Y, U, Z⟩ := hX T
  rw [Y] at c
  refine bg (VQ (iZ (enc := gp) (i := (a5 : Int)) (x0 := a) ai ag x m y (aj _) U) (fun b2 J => V (gu rfl (jM d.has J aM ag)) (VE (iw d aT (fun O b1 d => VO (gO (.agg (gp a).toArray) ((gp a).toArray) d rfl rfl ag (js a) nb rfl (fun P d => ln (gE (Wh u (Wf mE (VB d Mh rfl rfl aG (Wf jz (Wf kz ?_)))))))))))))
  refine VB d Mh rfl rfl aG (Wf iK (Wf kz (VB d Mh rfl rfl aG (Wf kp (Wf kz (VB d Mh rfl rfl aG (VE (gS (cs := #[(.string a.gP), (.string a.Head.gF), (.string a.B.gF), (.string a.C.gF)]) d (zi rfl rfl rfl rfl) (jB az bU ey) (fun a8 Q d => ?_)))))))))
  replace d := d.perm (Nr (Qb (Qb Qz)) Nz)
  refine bS c fun L I c => VE (jn (enc := iL) (v := g) (vs := (.slice (some ⟨Q, 0, none⟩) 4 4)) (R := j) d (fun _ => rfl) dc uk az mH.1 mH.2.1 rfl mH.2.2.1 mH.2.2.2 rfl rfl z (Sl.lit (enc := iL) (l := [a.gP, a.Head.gF, a.B.gF, a.C.gF]) (fun _ => rfl) rfl nb rfl (d.at_ (Ma Mh))) I (fun a9 a2 M d H => Wa (gM (gU (gC ?_)))))
  replace d := d.gq (Kr (Db (Db St)))
  exact ⟨m, a2, L, M, _, ⟨rfl, A⟩, (d.gq St), rfl, x, H, (by rw [Z]; exact c)⟩
 rintro E W ⟨g, k, j, t, ⟨m, A⟩, d, u, x, z, c⟩
 rw [au] at c
 refine gC (sg (Wh u (bS c fun b3 K c => VE (lB d call131 (AB g k _ _ (z.sl (fun _ => rfl) (fun b o s => d.at_ (Ml s))) K) (fun b0 a3 b5 N d a4 q D => Wa (ln ?_))))))
 replace d := d.gq (Kr (Dr St))
 refine iq ?_
 obtain rfl := sj c
 exact ij (v := a3) rfl rfl ⟨_, N, rfl, d.jd (fun p s => (Ml s)) D.nd, D⟩
theorem pA (y : Value) (H : List gr) (z : gl) (J : ByteArray) (r : Bool) (w : World) (G : Sl (Pl gG) 3 (hp w) y H) (hm : lO H z J = some r) :
  iC true pg0 63 [y, (.agg (gn z).toArray), (.string J)] w (.bool r) := by
 refine cG 26 func63 rfl (fun b => sg (VE (iP b rfl (fun W2 M b => Wa (lS (Wm (V (kF aV rfl G) (Wm (ln ?_)))))))))
 refine im (fun i E W => ∃ D, (E 11 = .int .i64 (i : Nat) ∧ E 10 = .int .i64 (H.length : Nat)) ∧ ST true gN w W (hp w) ((M, Ol (gn z) 28) :: D) ∧ E 2 = (.string J) ∧ E 4 = (.pointer (some ⟨M, 0, none⟩)) ∧ E 9 = y ∧ oO z J (H.drop i) = some r) H.length G.len ⟨_, ⟨rfl, rfl⟩, (b.gq St), rfl, rfl, rfl, hm⟩ dc dc dc (fun _ _ _ h => by obtain ⟨_, l, _⟩ := h; exact l) ?_ ?_
 ·rintro T E W n ⟨D, ⟨d, m⟩, b, t, u, x, c⟩
  obtain ⟨k, O, p, o, a9⟩ := hX n
  rw [p] at c
  refine bg (VQ (iZ (enc := gG) (i := (T : Int)) (x0 := k) aV bz x d G (aj _) o) (fun A Q => V (gu rfl (jM b.has Q dN bz)) (VE (iw b cu (fun q v b => VO (gO (.agg (gG k).toArray) ((gG k).toArray) b rfl rfl bz (pB k) nb rfl (fun s b => lr (Wf qG (VA b Mh (gn k.gl) ah ae (V (gu u (gD b.has (Mt Mh) (gn z) rfl ah ae)) (V (od rfl rfl (jw ck) (lR (jZ _ k.gl z))) ?_)))))))))))
  refine Wm (LJ c (fun K E W => ∃ I, ST true gN w W (hp w) ((M, Ol (gn z) 28) :: I) ∧ E 2 = (.string J) ∧ E 4 = (.pointer (some ⟨M, 0, none⟩)) ∧ E 9 = y ∧ E 10 = (.int .i64 (H.length : Int)) ∧ E 11 = (.int .i64 (T : Int)) ∧ E 24 = (.bool K)) 5 ?_ (fun K j B => ?_))
  ·rintro L E W ⟨I, b, U, Y, Z, a3, a4, a5⟩ g
   refine ln (CI g a5 (fun N g => ?_) (fun N g => ?_))
   ·refine sg (Wa (ln ?_))
    replace b := b.gq (Db St)
    refine iq (jU (iv (jU (iv ?_))))
    obtain rfl := sj g
    exact rP b
   exact ic (gU (gC ⟨a4, _, ⟨rfl, a3⟩, (b.gq St), U, Y, Z, (by rw [a9]; exact g)⟩))
  refine bC j (fun a j => ?_) (fun a j => ?_)
  ·refine ug a (gA pP rfl) (ug a (gu rfl (gL b.has Mh rfl aG)) (ug a (gy t) (ug a (lY rfl rfl rfl) (V (gK (cB a) rfl) ?_))))
   obtain rfl := sj j
   exact B _ _ ⟨_, (b.gq (Db St)), t, u, x, m, d, rfl⟩
  refine un a (un a (un a (un a (V (gJ (cB a) rfl) ?_))))
  obtain rfl := sj j
  exact B _ _ ⟨_, (b.gq (Db St)), t, u, x, m, d, rfl⟩
 rintro E W ⟨D, ⟨d, m⟩, b, t, u, x, c⟩
 rw [au] at c
 refine gC ?_
 replace b := b.gq (Db St)
 exact sg (Wa (lt (rQ c b)))
theorem zt (k : Value) (M : List gr) (t : gm) (K : Value) (Y : List ByteArray) (H : ByteArray) (r : Bool) (w : World) (G : Sl (Pl gG) 3 (hp w) k M) (T : Sl (Pl iL) 1 (hp w) K Y) (hm : oq M t Y H = some r) :
  iC true pg0 65 [k, (.agg (gp t).toArray), K, (.string H)] w (.bool r) := by
 refine cG 62 func65 rfl (fun b => sg (VE (iP b rfl (fun W2 d b => Wa (lS (Wf jk (VB b Mh rfl rfl bj (Wi rfl (ln ?_)))))))))
 refine CI hm rfl (fun c9 hm => ?_) (fun c9 hm => ?_)
 ·refine sg (Wf mE (VB b Mh rfl rfl aG (Wm (V (lY rfl rfl rfl) (Wa (ln ?_))))))
  replace b := b.gq (Db St)
  refine iq (iv ?_)
  obtain rfl := sj hm
  exact rP b
 refine kS (Wf jk (VB b Mh rfl rfl bj (Wi rfl (ln (CI hm rfl (fun d0 hm => ?_) (fun d0 hm => ?_))))))
 ·refine sg (Wm (Wf iK (VA b Mh (gn t.B) ah ae (Wm (bS hm fun r5 d2 hm => VE (Eg b call63 (pA k M t.B H _ _ (G.mono (Pl.mono _) b.iG) d2) (fun W7 b => Wa (ln ?_))))))))
  replace b := b.gq (Db St)
  refine iq (iv ?_)
  obtain rfl := sj hm
  exact rP b
 refine kS (Wf jk (VB b Mh rfl rfl bj (Wi rfl (ln (CI hm rfl (fun d1 hm => ?_) (fun d1 hm => ?_))))))
 ·refine sg (Wm (Wf iK (VA b Mh (gn t.B) ah ae (Wm (bS hm fun r9 c6 hm => VE (Eg b call63 (pA k M t.B H _ _ (G.mono (Pl.mono _) b.iG) c6) (fun e0 b => Wm (LJ hm (fun p E W => ∃ o, ST true gN w W (hp w) o ∧ E 8 = (.bool false) ∧ E 40 = (.bool p)) 6 ?_ (fun p u U => ?_)))))))))
  ·rintro e4 E W ⟨o, b, e2, c8⟩ c5
   refine Wg c8 (lt (iv ?_))
   obtain rfl := sj c5
   exact rP b
  refine bC u (fun c u => ?_) (fun c u => ?_)
  ·refine ug c (gy rfl) (ug c (gA kp rfl) (ug c (gu rfl (gD b.has Mh (gn t.C) rfl ah ae)) (ug c (gy rfl) (bS u fun e3 c7 u => oM c (Eg b call63 (pA k M t.C H _ _ (G.mono (Pl.mono _) b.iG) c7) (fun e1 b => V (gK (cB c) rfl) ?_))))))
   obtain rfl := sj u
   exact U _ _ ⟨_, (b.gq (Db St)), rfl, rfl⟩
  refine un c (un c (un c (un c (un c (V (gJ (cB c) rfl) ?_)))))
  obtain rfl := sj u
  exact U _ _ ⟨_, (b.gq (Db St)), rfl, rfl⟩
 refine kS (Wm (V (kF az rfl T) (Wm (ln (im (fun i E W => ∃ Q, (E 43 = .int .i64 (i : Nat) ∧ E 42 = .int .i64 (Y.length : Nat)) ∧ ST true gN w W (hp w) ((d, Ol (gp t) 108) :: Q) ∧ E 0 = k ∧ E 3 = (.string H) ∧ E 5 = (.pointer (some ⟨d, 0, none⟩)) ∧ E 41 = K ∧ nQ M t H (Y.drop i) = some r) Y.length T.len ⟨_, ⟨rfl, rfl⟩, (b.gq St), rfl, rfl, rfl, rfl, hm⟩ dc dc dc (fun _ _ _ h => by obtain ⟨_, m, _⟩ := h; exact m) ?_ ?_)))))
 ·rintro a4 E W s ⟨Q, ⟨l, n⟩, b, B, I, D, J, g⟩
  obtain ⟨z, d3, P, O, R⟩ := hX s
  rw [P] at g
  refine bg (VQ (iZ (enc := iL) (i := (a4 : Int)) (x0 := z) az bU J l T (aj _) O) (fun d6 a9 => V (gu rfl (kT b.has (y := (.string z)) a9 aG)) (Wa (lr (Wh B (V (gA iK D) (VA b Mh (gn t.B) ah ae (Wm (bS g fun d7 A g => ?_)))))))))
  refine VE (Eg b call63 (pA k M t.B z _ _ (G.mono (Pl.mono _) b.iG) A) (fun d4 b => Wm (LJ g (fun a5 E W => ∃ Z, ST true gN w W (hp w) ((d, Ol (gp t) 108) :: Z) ∧ E 0 = k ∧ E 3 = (.string H) ∧ E 5 = (.pointer (some ⟨d, 0, none⟩)) ∧ E 41 = K ∧ E 42 = (.int .i64 (Y.length : Int)) ∧ E 43 = (.int .i64 (a4 : Int)) ∧ E 60 = (.bool a5)) 8 ?_ (fun a5 j N => ?_))))
  ·rintro d9 E W ⟨Z, b, b8, b9, c0, c1, c2, c3, c4⟩ x
   refine ln (CI x c4 (fun q x => ?_) (fun q x => ?_))
   ·refine sg (Wa (ln ?_))
    replace b := b.gq (Db St)
    refine iq (jU (iv (jU (iv ?_))))
    obtain rfl := sj x
    exact rP b
   exact ic (gU (gC ⟨c3, _, ⟨rfl, c2⟩, (b.gq St), b8, b9, c0, c1, (by rw [R]; exact x)⟩))
  refine bC j (fun a j => ?_) (fun a j => ?_)
  ·refine ug a (gy B) (ug a (gy rfl) (ug a (gA ml D) (ug a (gu rfl (gL b.has Mh rfl aG)) (ug a (ko (v := (.agg (gn (⟨z, t.gZ⟩ : gl)).toArray)) (mB rfl rfl) (jq bt bD (zY _ bD) kr)) (ug a (gy I) (bS j fun d8 L j => oM a (Eg b call63 (pA k M (⟨z, t.gZ⟩ : gl) H _ _ (G.mono (Pl.mono _) b.iG) L) (fun d5 b => V (gK (cB a) rfl) ?_))))))))
   obtain rfl := sj j
   exact N _ _ ⟨_, (b.gq St), B, I, D, J, n, l, rfl⟩
  refine un a (un a (un a (un a (un a (un a (un a (V (gJ (cB a) rfl) ?_)))))))
  obtain rfl := sj j
  exact N _ _ ⟨_, (b.gq St), B, I, D, J, n, l, rfl⟩
 rintro E W ⟨Q, ⟨l, n⟩, b, B, I, D, J, g⟩
 rw [au] at g
 refine gC ?_
 replace b := b.gq (Db St)
 exact sg (Wa (lt (rQ g b)))
theorem vu (j k : gr) (r : Bool) (w : World) (hm : nk j k = some r) :
  iC true pg0 187 [(.agg (gG j).toArray), (.agg (gG k).toArray)] w (.bool r) := by
 refine cG 24 func187 rfl (fun b => sg (VE (iP b rfl (fun Y d b => VE (iP b rfl (fun Z h b => Wa (lr (Wf qG (VA b (Mt Mh) (gn j.gl) ah ae (Wf qG (VA b Mh (gn k.gl) ah ae (bS hm fun N M hm => ?_))))))))))))
 refine VE (Eg b call107 (qK j.gl k.gl _ _  M) (fun W7 b => Wm (LJ hm (fun z E W => ∃ x, ST true gN w W (hp w) x ∧ E 4 = (.bool false) ∧ E 23 = (.bool z)) 13 ?_ (fun z g t => ?_))))
 ·rintro T E W ⟨x, b, Q, H⟩ D
  exact Wg H (lt (rQ D b))
 refine bC g (fun a g => ?_) (fun a g => ?_)
 ·refine un a (un a (un a (un a (un a (un a (Vu rfl rfl (Vu rfl rfl (Vu rfl rfl (Vu rfl rfl (Vu rfl rfl (un a (V (gK (cB a) rfl) ?_))))))))))))
  obtain rfl := sj g
  exact t _ _ ⟨_, (b.gq (Db (Db St))), rfl, rfl⟩
 refine ug a (gA qG rfl) (ug a (gu rfl (gD b.has (Mt Mh) (gn j.gl) rfl ah ae)) (ug a (gA qG rfl) (ug a (gu rfl (gD b.has Mh (gn k.gl) rfl ah ae)) (ug a (od rfl rfl (jw ck) (lR (jZ _ j.gl k.gl))) (ug a (gy rfl) (LJ g (fun B E W => ∃ y, ST true gN w W (hp w) y ∧ E 4 = (.bool false) ∧ E 10 = (.bool N) ∧ E 22 = (.bool B)) 6 ?_ (fun B i u => ?_)))))))
 ·rintro U E W ⟨y, b, I, J, K⟩ G
  refine V (gJ (J.trans (cB a)) K) ?_
  obtain rfl := sj G
  exact t _ _ ⟨_, (b.gq St), I, rfl⟩
 refine bC i (fun c i => ?_) (fun c i => ?_)
 ·refine ug c (gA pP rfl) (ug c (gu rfl (gL b.has (Mt Mh) rfl aG)) (ug c (gA pP rfl) (ug c (gu rfl (gL b.has Mh rfl aG)) (ug c (lY rfl rfl rfl) (ug a (gK (cB c) rfl) ?_)))))
  obtain rfl := sj i
  exact u _ _ ⟨_, (b.gq (Db (Db St))), rfl, rfl, rfl⟩
 refine un c (un c (un c (un c (un c (ug a (gJ (cB c) rfl) ?_)))))
 obtain rfl := sj i
 exact u _ _ ⟨_, (b.gq (Db (Db St))), rfl, rfl, rfl⟩
theorem yg (I : Value) (Q r : List gr) (w : World) (Y : Sl (Pl gG) 3 (hp w) I Q) (hm : qO Q = some r) :
  iz true pg0 126 [I] w 38 gG 3 r := by
 refine oE 56 func126 rfl (fun d => sg (Wa (lr (Wa (lS (Wm ?_))))))
 refine V (kF aV rfl Y) (Wm (ln (im (fun i E W => ∃ y N x a9, (E 9 = .int .i64 (i : Nat) ∧ E 8 = .int .i64 (Q.length : Nat)) ∧ ST true gN w W (hp w) (x ++ a9) ∧ E 0 = I ∧ E 3 = y ∧ gI 38 gG 3 y N x ∧ kq Q (Q.drop i) N = some r) Q.length Y.len ⟨(.slice none 0 0), ([]), [], _, ⟨rfl, rfl⟩, (d.gq St), rfl, rfl, (gI.nil _ _ _), hm⟩ dc dc dc (fun _ _ _ h => by obtain ⟨_, _, _, _, n, _⟩ := h; exact n) ?_ ?_)))
 ·rintro a7 E W i3 ⟨y, N, x, a9, ⟨m, q⟩, d, P, b2, z, D⟩
  obtain ⟨k9, k8, i4, j9, e3⟩ := hX i3
  rw [i4] at D
  refine bg (Wa (lS (Wh P (V (kF aV rfl Y) (Wm (ln (CJ D (fun c4 E W => ∃ c8, ST true gN w W (hp w) (x ++ c8) ∧ E 0 = I ∧ E 3 = y ∧ E 4 = (.int .i64 c4) ∧ E 8 = (.int .i64 (Q.length : Int)) ∧ E 9 = (.int .i64 (a7 : Int))) (fun c4 f4 => ?_) ?_)))))))
  ·let j1 : Value := (.int .i64 (a7 : Int))
   let a0 : Value := (.int .i64 (Q.length : Int))
   refine im (fun i E W => ∃ B O, (E 13 = .int .i64 (i : Nat) ∧ E 12 = .int .i64 (Q.length : Nat)) ∧ ST true gN w W (hp w) (x ++ O) ∧ E 0 = I ∧ E 3 = y ∧ E 4 = (.int .i64 B) ∧ E 8 = a0 ∧ E 9 = j1 ∧ E 11 = I ∧ kv N Q (Q.drop i) i B = some c4) Q.length Y.len ⟨(-1), _, ⟨rfl, rfl⟩, (d.gq St), P, b2, rfl, q, m, rfl, f4⟩ dc dc dc (fun _ _ _ h => by obtain ⟨_, _, n, _⟩ := h; exact n) ?_ ?_
   ·rintro H E W f3 ⟨B, O, ⟨m, q⟩, d, s, J, a2, a3, a4, a5, G⟩
    let i9 : Value := (.int .i64 (H : Int))
    obtain ⟨j, j0, g4, g3, c6⟩ := hX f3
    rw [g4] at G
    refine bg (Wh m (VQ (iZ (enc := gG) (i := (H : Int)) (x0 := j) aV bz a5 m Y (aj _) g3) (fun k1 f8 => V (gu rfl (jM d.has f8 dN bz)) (VE (iw d cu (fun j5 Z d => Wa (VO (gO (.agg (gG j).toArray) ((gG j).toArray) d rfl rfl bz (pB j) nb rfl (fun j6 d => ln (gH ?_))))))))))
    replace d := d.drew
    have b := d.has.gq (Kb (Kr Sn))
    refine iy b gW (X 0 rfl b (gy J) (X 1 rfl b (iu aV rfl z) (X 2 rfl b (iX rfl rfl rfl) (X 3 rfl b (gy rfl) (PJ G (fun e6 E W => ∃ c9, ST true gN w W (hp w) ((Z, Ol (gG j) 38) :: (x ++ c9)) ∧ E 0 = I ∧ E 3 = y ∧ E 4 = (.int .i64 B) ∧ E 5 = i9 ∧ E 6 = (.pointer (some ⟨Z, 0, none⟩)) ∧ E 8 = a0 ∧ E 9 = j1 ∧ E 11 = I ∧ E 12 = a0 ∧ E 13 = i9 ∧ E 30 = (.bool e6)) (bm 25 8191) 12 ?_ (fun e6 u c3 => ?_))))))
    ·rintro i8 E W ⟨c9, d, A, b4, T, b5, g7, b6, b7, b8, b9, c0, g8⟩ f5
     have b := d.has.gq (Kb (Kr Sn))
     refine X 13 rfl b (gy g8) (PJ f5 (fun e4 E W => ∃ d0, ST true gN w W (hp w) ((Z, Ol (gG j) 38) :: (x ++ d0)) ∧ E 0 = I ∧ E 3 = y ∧ E 4 = (.int .i64 B) ∧ E 5 = i9 ∧ E 8 = a0 ∧ E 9 = j1 ∧ E 11 = I ∧ E 12 = a0 ∧ E 13 = i9 ∧ E 42 = (.bool e4)) (bm 25 33554431) 0 ?_ (fun e4 M c1 => ?_))
     ·rintro k6 E W ⟨d0, d, d6, d7, g9, h0, d8, d9, e0, e1, e2, h1⟩ K
      refine iI kr (gC ?_)
      replace d := d.gq (Db St)
      refine CI K h1 (fun f2 K => ?_) (fun f2 K => ?_)
      ·exact gE (Wh h0 (Wa (gM (gU (gC ⟨e2, (H : Int), _, ⟨rfl, e1⟩, (d.gq St), d6, d7, rfl, d8, d9, e0, (by rw [c6]; exact K)⟩)))))
      exact ic (gU (gC ⟨e2, B, _, ⟨rfl, e1⟩, (d.gq St), d6, d7, g9, d8, d9, e0, (by rw [c6]; exact K)⟩))
     refine bC M (fun g M => ?_) (fun g M => ?_)
     ·refine Xg 14 rfl rfl (cB g) b (gy T) (Xg 15 rfl rfl (cB g) b (iX rfl rfl rfl) (Xg 16 rfl rfl (cB g) b (gy rfl) (PJ M (fun e5 E W => ∃ d1, ST true gN w W (hp w) ((Z, Ol (gG j) 38) :: (x ++ d1)) ∧ E 0 = I ∧ E 3 = y ∧ E 4 = (.int .i64 B) ∧ E 5 = i9 ∧ E 8 = a0 ∧ E 9 = j1 ∧ E 11 = I ∧ E 12 = a0 ∧ E 13 = i9 ∧ E 31 = (.bool i8) ∧ E 41 = (.bool e5)) (bm 25 16777215) 1 ?_ (fun e5 t c2 => ?_))))
      ·rintro k7 E W ⟨d1, d, h2, h3, h4, h5, h6, h7, h8, h9, i0, i1, i2⟩ f6
       have b := d.has.gq (Kb (Kr Sn))
       refine X 24 rfl b (gK (i1.trans (cB g)) i2) ?_
       obtain rfl := sj f6
       refine iH kr (c1 _ _ ⟨_, (d.gq St), h2, h3, h4, h5, h6, h7, h8, h9, i0, rfl⟩)
      refine bC t (fun c t => ?_) (fun c t => ?_)
      ·refine Xn 17 rfl rfl (cB c) b (Xn 18 rfl rfl (cB c) b (Xn 19 rfl rfl (cB c) b (Xn 20 rfl rfl (cB c) b (Xn 21 rfl rfl (cB c) b (Xn 22 rfl rfl (cB c) b (Xg 23 rfl rfl (cB g) b (gK (cB c) rfl) ?_))))))
       obtain rfl := sj t
       refine iH kr (c2 _ _ ⟨_, (d.gq St), A, b4, T, b5, b6, b7, b8, b9, c0, rfl, rfl⟩)
      refine nn 17 rfl rfl (cB c) b (fun _ o => gu g7 (gD o Mh (gG j) rfl dN bz)) (Xg 18 rfl rfl (cB c) b (gy A) (Xg 19 rfl rfl (cB c) b (gy T) (bS t fun e7 c7 t => um 20 rfl kr (.inr ⟨16, false, 34, rfl, rfl, by decide, (cB c)⟩) rfl dc (fun _ _ h => h) b (iZ (enc := gG) (i := B) (x0 := e7) aV bz rfl rfl Y (iD c7) (hZ c7)) (fun k2 f9 => nn 21 rfl rfl (cB c) b (fun _ o => gu rfl (jM o f9 dN bz)) (bS t fun k4 g1 t => uG 22 rfl rfl (cB c) (Eg d call187 (vu j e7 _ _  g1) (fun j7 d => ?_)))))))
      have b := d.has.gq (Kb (Kr Sn))
      refine ⟨b, (Xg 23 rfl rfl (cB g) b (gJ (cB c) rfl) ?_)⟩
      obtain rfl := sj t
      refine iH kr (c2 _ _ ⟨_, (d.gq St), A, b4, T, b5, b6, b7, b8, b9, c0, rfl, rfl⟩)
     refine Xn 14 rfl rfl (cB g) b (Xn 15 rfl rfl (cB g) b (Xn 16 rfl rfl (cB g) b (Xu 17 rfl rfl rfl b (Xu 18 rfl rfl rfl b (Xu 19 rfl rfl rfl b (Xu 20 rfl rfl rfl b (Xu 21 rfl rfl rfl b (Xu 22 rfl rfl rfl b (Xn 23 rfl rfl (cB g) b (X 24 rfl b (gJ (cB g) rfl) ?_))))))))))
     obtain rfl := sj M
     refine iH kr (c1 _ _ ⟨_, (d.gq St), A, b4, T, b5, b6, b7, b8, b9, c0, rfl⟩)
    refine bC u (fun a u => ?_) (fun a u => ?_)
    ·refine Xn 4 rfl rfl (cB a) b (Xn 5 rfl rfl (cB a) b (Xn 6 rfl rfl (cB a) b (Xn 7 rfl rfl (cB a) b (Xn 8 rfl rfl (cB a) b (Xn 9 rfl rfl (cB a) b (Xn 10 rfl rfl (cB a) b (Xn 11 rfl rfl (cB a) b (X 12 rfl b (gK (cB a) rfl) ?_))))))))
     obtain rfl := sj u
     refine iH kr (c3 _ _ ⟨_, (d.gq St), s, J, a2, rfl, rfl, a3, a4, a5, q, m, rfl⟩)
    refine Xg 4 rfl rfl (cB a) b (gy J) (Xg 5 rfl rfl (cB a) b (gy J) (Xg 6 rfl rfl (cB a) b (iu aV rfl z) (Xg 7 rfl rfl (cB a) b (iX rfl rfl rfl) (bS u fun e8 L u => um 8 rfl kr (.inr ⟨3, false, 21, rfl, rfl, by decide, (cB a)⟩) rfl dc (fun _ _ h => h) b (ie (i := (wi0 .i64 ((N.length : Int) - 1))) (x0 := e8) aV bz rfl rfl z (iD L) (hZ L)) (fun k3 g0 => nn 9 rfl rfl (cB a) b (fun _ o => gu rfl (je o (fun p hq => (Mt (Ml hq))) z kD g0 (hZ L) dN bz)) (nn 10 rfl rfl (cB a) b (fun _ o => gu rfl (gD o Mh (gG j) rfl dN bz)) (bS u fun k5 g2 u => uG 11 rfl rfl (cB a) (Eg d call187 (vu e8 j _ _  g2) (fun j8 d => ?_)))))))))
    have b := d.has.gq (Kb (Kr Sn))
    refine ⟨b, (X 12 rfl b (gJ (cB a) rfl) ?_)⟩
    obtain rfl := sj u
    refine iH kr (c3 _ _ ⟨_, (d.gq St), s, J, a2, rfl, rfl, a3, a4, a5, q, m, rfl⟩)
   rintro E W ⟨B, O, ⟨m, q⟩, d, s, J, a2, a3, a4, a5, G⟩
   rw [au] at G
   refine gC ?_
   obtain rfl := sj G
   exact ⟨_, (d.gq St), s, J, a2, a3, a4⟩
  rintro i7 E W ⟨c8, d, b3, d2, d3, d4, d5⟩ k
  refine sg (Wh d3 (Wi rfl (ln (CI k rfl (fun f0 k => ?_) (fun f0 k => ?_)))))
  ·refine gE (Wh d2 (Wh b3 (Wh d3 (bS k fun U c5 k => VQ (iZ (enc := gG) (i := i7) (x0 := U) aV bz rfl rfl Y (iD c5) (hZ c5)) (fun k0 f7 => V (gu rfl (jM d.has f7 dN bz)) (VE (gS (cs := (gG U).toArray) d (kk rfl) (jB aV bz cu) (fun j3 g6 d => ?_))))))))
   replace d := d.perm (Nr (Qb Qz) Nz)
   refine bS k fun i5 f1 k => VE (jn (enc := gG) (v := y) (vs := (.slice (some ⟨g6, 0, none⟩) 1 1)) (R := x) d kD dc pB aV mS.1 mS.2.1 rfl mS.2.2.1 mS.2.2.2 rfl rfl z (Sl.lit (enc := gG) (l := [U]) kD rfl nb rfl (d.at_ (Ma Mh))) f1 (fun j4 i6 g5 d e9 => Wa (gM (gU (gC ?_)))))
   replace d := d.gq (Kr (Db St))
   exact ⟨d5, i6, i5, g5, _, ⟨rfl, d4⟩, (d.gq St), b3, rfl, e9, (by rw [e3]; exact k)⟩
  exact ic (gU (gC ⟨d5, y, N, x, _, ⟨rfl, d4⟩, (d.gq St), b3, d2, z, (by rw [e3]; exact k)⟩))
 rintro E W ⟨y, N, x, a9, ⟨m, q⟩, d, P, b2, z, D⟩
 rw [au] at D
 refine gC (sg (Wh b2 (Wa (lt ?_))))
 obtain rfl := sj D
 exact ij (v := y) rfl rfl ⟨_, x, rfl, d.jd (fun p hq => (Ml hq)) z.nd, z⟩
theorem BM (f7 : Value) (a0 : List gm) (r : List gr) (w : World) (k5 : Sl (Pl gp) 9 (hp w) f7 a0) (hm : rV a0 = some r) :
  iz true pg0 58 [f7] w 38 gG 3 r := by
 refine oE 53 func58 rfl (fun d => sg (Wa (lr (Wm (bS hm fun r1 l7 hm => VE (lB d call23 (tk f7 a0 _ _ (k5.mono (Pl.mono _) d.iG) l7) (fun W3 q ao R8 d m7 af f2 => Wa (ln (gH ?_)))))))))
 refine gE (Wm (bS hm fun A k7 hm => VE (lB d call64 (yP q r1 _ _ (f2.sl ia (fun b o n => d.at_ (Ml n))) k7) (fun m9 s d6 d0 d m6 ad c7 => Wa (lr (Wa (ln (nH (ji (lT (fun m E W => ∃ b9 b8 b7 d7, ST true gN w W d6 (b7 ++ (d0 ++ (R8 ++ d7))) ∧ E 3 = q ∧ E 4 = s ∧ E 5 = b9 ∧ gI 38 gG 3 b9 b8 b7 ∧ nJ A r1 m b8 = some r) jj ⟨(.slice none 0 0), ([]), [], _, (d.gq St), rfl, rfl, rfl, (gI.nil _ _ _), hm⟩ ?_))))))))))
 rintro m E W ⟨b9, b8, b7, d7, d, e1, i0, i1, j7, Y⟩
 cases m with
 | zero => rw [nJ] at Y; cases Y
 | succ k0 =>
  refine bg (Wa (lS (Wh e1 (V (iu ai rfl f2) (Wm (ln (CJ Y (fun b1 E W => ∃ T Z d8, ST true gN w W d6 (Z ++ (d0 ++ (R8 ++ d8))) ∧ E 3 = q ∧ E 4 = s ∧ E 5 = T ∧ E 6 = (.bool b1.2) ∧ gI 38 gG 3 T b1.1 Z) (fun b1 g5 => ?_) ?_)))))))
  ·refine im (fun i E W => ∃ J Q H U c0, (E 17 = .int .i64 (i : Nat) ∧ E 16 = .int .i64 (r1.length : Nat)) ∧ ST true gN w W d6 (H ++ (d0 ++ (R8 ++ c0))) ∧ E 3 = q ∧ E 4 = s ∧ E 5 = J ∧ E 6 = (.bool U) ∧ E 15 = q ∧ gI 38 gG 3 J Q H ∧ oS A (r1.drop i) Q U = some b1) r1.length f2.len ⟨b9, b8, b7, false, _, ⟨rfl, rfl⟩, (d.gq St), e1, i0, i1, rfl, rfl, j7, g5⟩ dc dc dc (fun _ _ _ h => by obtain ⟨_, _, _, _, _, O, _⟩ := h; exact O) ?_ ?_
   ·rintro b0 E W g3 ⟨J, Q, H, U, c0, ⟨L, P⟩, d, c2, a3, c3, c4, c5, b5, u⟩
    obtain ⟨a, k8, h4, d3, h5⟩ := hX g3
    rw [h4] at u
    refine bg (VQ (ie (i := (b0 : Int)) (x0 := a) ai ag c5 L f2 (aj _) d3) (fun l8 g8 => V (gu rfl (je d.has (fun p n => (Ma (Ma (Ml n)))) f2 ia g8 d3 aM ag)) (VE (iw d aT (fun l1 a2 d => VO (gO (.agg (gp a).toArray) ((gp a).toArray) d rfl rfl ag (js a) nb rfl (fun l2 d => lr (Wh a3 (V (iu az rfl c7) (Wm (gM ?_)))))))))))
    let c9 : Value := (.int .i64 (r1.length : Int))
    refine gC (nH (CJ u (fun b2 E W => ∃ b3 a1 d9, ST true gN w W d6 (a1 ++ (d0 ++ (R8 ++ d9))) ∧ E 3 = q ∧ E 4 = s ∧ E 5 = b3 ∧ E 6 = (.bool b2.2) ∧ E 15 = q ∧ E 16 = c9 ∧ E 17 = (.int .i64 (b0 : Int)) ∧ gI 38 gG 3 b3 b2.1 a1) (fun b2 g7 => ?_) ?_))
    ·refine im (fun i E W => ∃ k G B K c1, (E 23 = .int .i64 (i : Nat) ∧ E 22 = .int .i64 (A.length : Nat)) ∧ ST true gN w W d6 ((a2, Ol (gp a) 108) :: (B ++ (d0 ++ (R8 ++ c1)))) ∧ E 3 = q ∧ E 4 = s ∧ E 5 = k ∧ E 6 = (.bool K) ∧ E 8 = (.pointer (some ⟨a2, 0, none⟩)) ∧ E 15 = q ∧ E 16 = c9 ∧ E 17 = (.int .i64 (b0 : Int)) ∧ E 21 = s ∧ gI 38 gG 3 k G B ∧ nK a A (A.drop i) G K = some b2) A.length c7.len ⟨J, Q, H, U, _, ⟨rfl, rfl⟩, (d.gq St), c2, a3, c3, c4, rfl, c5, P, L, rfl, b5, g7⟩ dc dc dc (fun _ _ _ h => by obtain ⟨_, _, _, _, _, O, _⟩ := h; exact O) ?_ ?_
     ·rintro f3 E W g4 ⟨k, G, B, K, c1, ⟨L, P⟩, d, a4, M, I, a5, N, a6, a7, a8, a9, D, j⟩
      obtain ⟨g, k9, h6, d4, d5⟩ := hX g4
      rw [h6] at j
      refine bg (VQ (ie (i := (f3 : Int)) (x0 := g) az bU a9 L c7 (aj _) d4) (fun l9 g9 => V (gu rfl (oF d.has (fun p n => (Mt (Ma (Ml n)))) c7 (fun _ => rfl) g9 d4 (y := (.string g)) rfl aG)) (Wa (lr (Wh I (V (gA jz N) (VA d Mh (gn a.Head) ah ae (Wm (bS j fun m1 h1 j => ?_)))))))))
      refine VE (Eg d call63 (pA k G a.Head g _ _ (D.sl kD (fun b o n => d.at_ (Mt (Ml n)))) h1) (fun l3 d => V (mZ rfl) (Wm (LJ j (fun f6 E W => ∃ e0, ST true gN w W d6 ((a2, Ol (gp a) 108) :: (B ++ (d0 ++ (R8 ++ e0)))) ∧ E 3 = q ∧ E 4 = s ∧ E 5 = k ∧ E 6 = (.bool K) ∧ E 8 = (.pointer (some ⟨a2, 0, none⟩)) ∧ E 10 = (.string g) ∧ E 15 = q ∧ E 16 = c9 ∧ E 17 = (.int .i64 (b0 : Int)) ∧ E 21 = s ∧ E 22 = (.int .i64 (A.length : Int)) ∧ E 23 = (.int .i64 (f3 : Int)) ∧ E 39 = (.bool f6)) 6 ?_ (fun f6 z c8 => ?_)))))
      ·rintro m4 E W ⟨e0, d, e3, e4, e5, j4, c6, j5, e6, e7, e8, e9, f0, f1, j6⟩ x
       refine ln (CI x j6 (fun g1 x => ?_) (fun g1 x => ?_))
       ·refine sg (Wh e5 (V (gA jz c6) (VA d Mh (gn a.Head) ah ae (Wh j5 (V (ko (v := (.agg (gG (⟨a.Head, g⟩ : gr)).toArray)) (mB rfl rfl) (jq cu bq (xJ _ bq) kr)) (VE (gS (cs := (gG (⟨a.Head, g⟩ : gr)).toArray) d (kk rfl) (jB aV bz cu) (fun l4 h9 d => ?_))))))))
        replace d := d.perm (Nr (Qb (Qb Qz)) Nz)
        refine bS x fun j9 g2 x => VE (jn (enc := gG) (v := k) (vs := (.slice (some ⟨h9, 0, none⟩) 1 1)) (R := B) d kD dc pB aV mS.1 mS.2.1 rfl mS.2.2.1 mS.2.2.2 rfl rfl D (Sl.lit (enc := gG) (l := [(⟨a.Head, g⟩ : gr)]) kD rfl nb rfl (d.at_ (Ma Mh))) g2 (fun l5 k2 h8 d f9 => Wa (ln ?_)))
        replace d := d.gq (Kr (Db St))
        exact gE (Wa (gM (gU (gC ⟨f1, k2, j9, h8, true, _, ⟨rfl, f0⟩, (d.gq (Sb (Pr Pz) St)), e3, e4, rfl, rfl, c6, e6, e7, e8, e9, f9, (by rw [d5]; exact x)⟩))))
       exact ic (gU (gC ⟨f1, k, G, B, K, _, ⟨rfl, f0⟩, (d.gq St), e3, e4, e5, j4, c6, e6, e7, e8, e9, D, (by rw [d5]; exact x)⟩))
      refine bC z (fun c z => ?_) (fun c z => ?_)
      ·refine ug c (gy I) (ug c (gu N (gD d.has Mh (gp a) rfl aM ag)) (ug c (gy M) (ug c (gy rfl) (bS z fun m2 h2 z => oM c (Eg d call65 (zt k G a s A g _ _ (D.sl kD (fun b o n => d.at_ (Mt (Ml n)))) (c7.sl (fun _ => rfl) (fun b o n => d.at_ (Mt (Ma (Ml n))))) h2) (fun l6 d => V (gK (cB c) rfl) ?_))))))
       obtain rfl := sj z
       exact c8 _ _ ⟨_, (d.gq St), a4, M, I, a5, N, rfl, a6, a7, a8, a9, P, L, rfl⟩
      refine un c (un c (un c (un c (un c (V (gJ (cB c) rfl) ?_)))))
      obtain rfl := sj z
      exact c8 _ _ ⟨_, (d.gq St), a4, M, I, a5, N, rfl, a6, a7, a8, a9, P, L, rfl⟩
     rintro E W ⟨k, G, B, K, c1, ⟨L, P⟩, d, a4, M, I, a5, N, a6, a7, a8, a9, D, j⟩
     rw [au] at j
     refine gC ?_
     obtain rfl := sj j
     exact ⟨k, B, _, (d.gq (Db St)), a4, M, I, a5, a6, a7, a8, D⟩
    rintro ⟨j8, k3⟩ E W ⟨b3, a1, d9, d, i5, i6, i7, i8, i9, j0, j3, h3⟩ g6
    exact gU (gC ⟨j3, b3, j8, a1, k3, _, ⟨rfl, j0⟩, (d.gq St), i5, i6, i7, i8, i9, h3, (by rw [h5]; exact g6)⟩)
   rintro E W ⟨J, Q, H, U, c0, ⟨L, P⟩, d, c2, a3, c3, c4, c5, b5, u⟩
   rw [au] at u
   refine gC ?_
   obtain rfl := sj u
   exact ⟨J, H, _, (d.gq St), c2, a3, c3, c4, b5⟩
  rintro ⟨f4, m3⟩ E W ⟨T, Z, d8, d, i2, i3, e2, i4, d2⟩ t
  refine sg (Wh i4 (V (mZ rfl) (ln (CI t rfl (fun g0 t => ?_) (fun g0 t => ?_)))))
  ·refine sg (Wh e2 (bS t fun m0 h0 t => VE (lB d call126 (yg T f4 _ _ (d2.sl kD (fun b o n => d.at_ (Ml n))) h0) (fun l0 k1 m5 h7 d k6 ab d1 => Wa (ln ?_)))))
   replace d := d.gq (Kr (Dr (Dr (Dr St))))
   refine iq (jU (iv (jU (iv ?_))))
   obtain rfl := sj t
   exact ij (v := k1) rfl rfl ⟨_, h7, rfl, d.jd (fun p n => (Ml n)) d1.nd, d1⟩
  exact ic (gU (gC ⟨k0, bn _, T, f4, Z, _, (d.gq St), i2, i3, e2, d2, t⟩))
theorem yO (a : gm) (r : List gl) (w : World) (hm : pU a = some r) :
  iz true pg0 59 [(.agg (gp a).toArray)] w 28 gn 2 r := by
 let M : Value := (.string a.B.gY)
 let K : Value := (.string a.B.gF)
 let J : Value := (.string a.Head.gY)
 let I : Value := (.string a.Head.gF)
 refine oE 27 func59 rfl (fun b => sg (VE (iP b rfl (fun z G b => Wa (lS (VA b Mh (gp a) aM ag (bS hm fun H u hm => VE (Eg b call68 (rJ a _ _  u) (fun B b => V (mZ rfl) (gM ?_))))))))))
 refine gC (CI hm rfl (fun k hm => ?_) (fun k hm => ?_))
 ·refine sg (Wa (ln ?_))
  replace b := b.gq (Db St)
  refine iq (iv ?_)
  obtain rfl := sj hm
  exact ij (v := (.slice none 0 0)) rfl rfl ⟨_, [], rfl, b.jd (fun p d => by cases d) (by simp), gI.nil _ _ _⟩
 refine kS (Wf jk (VB b Mh rfl rfl bj (Wi rfl (ln (CI hm rfl (fun t hm => ?_) (fun t hm => ?_))))))
 ·refine sg (Wf jz (VA b Mh (gn a.Head) ah ae (VE (gS (cs := (gn a.Head).toArray) b (kk rfl) (jB aO ae bt) (fun D j b => Wa (ln ?_))))))
  replace b := b.gq (Kb (Db St))
  refine iq (iv ?_)
  obtain rfl := sj hm
  exact ij (v := (.slice (some ⟨j, 0, none⟩) 1 1)) rfl rfl ⟨_, [(j, Ol (gn a.Head) 28)], rfl, b.jd (fun p d => by rw [aA] at d; subst d; exact Mh) (by simp), (gI.lit (l := [a.Head]) (enc := gn) rfl dc rfl rfl)⟩
 refine kS (Wf jk (VB b Mh rfl rfl bj (Wi rfl (ln (CI hm rfl (fun i hm => ?_) (fun i hm => ?_))))))
 ·refine sg (Wf jz (VA b Mh (gn a.Head) ah ae (Wf iK (VA b Mh (gn a.B) ah ae (Wf kp (VA b Mh (gn a.C) ah ae (VE (gS (cs := #[I, J, K, M, (.string a.C.gF), (.string a.C.gY)]) b (xF rfl rfl rfl) (jB aO ae bt) (fun x c b => Wa (ln ?_))))))))))
  replace b := b.gq (Kb (Db St))
  refine iq (iv ?_)
  obtain rfl := sj hm
  exact ij (v := (.slice (some ⟨c, 0, none⟩) 3 3)) rfl rfl ⟨_, [(c, Ob #[I, J, K, M, (.string a.C.gF), (.string a.C.gY)] 28)], rfl, b.jd (fun p d => by rw [aA] at d; subst d; exact Mh) (by simp), (gI.lit (l := [a.Head, a.B, a.C]) (enc := gn) rfl dc rfl rfl)⟩
 refine kg (Wf jz (VA b Mh (gn a.Head) ah ae (Wf iK (VA b Mh (gn a.B) ah ae (VE (gS (cs := #[I, J, K, M]) b (mB rfl rfl) (jB aO ae bt) (fun y g b => Wa (ln ?_))))))))
 replace b := b.gq (Kb (Db St))
 refine iq ?_
 obtain rfl := sj hm
 exact ij (v := (.slice (some ⟨g, 0, none⟩) 2 2)) rfl rfl ⟨_, [(g, Ob #[I, J, K, M] 28)], rfl, b.jd (fun p d => by rw [aA] at d; subst d; exact Mh) (by simp), (gI.lit (l := [a.Head, a.B]) (enc := gn) rfl dc rfl rfl)⟩
theorem Ar (D : Value) (a0 r : List gl) (w : World) (e2 : Sl (Pl gn) 2 (hp w) D a0) (hm : tg a0 = some r) :
  iz true pg0 60 [D] w 28 gn 2 r := by
 refine oE 49 func60 rfl (fun d => sg (Wa (lr (Wa (ln (nH (ji (lT (fun m E W => ∃ u a3 t c4, ST true gN w W (hp w) (t ++ c4) ∧ E 0 = D ∧ E 3 = u ∧ gI 28 gn 2 u a3 t ∧ nh a0 m a3 = some r) jj ⟨(.slice none 0 0), ([]), [], _, (d.gq St), rfl, rfl, (gI.nil _ _ _), hm⟩ ?_))))))))
 rintro m E W ⟨u, a3, t, c4, d, d0, g1, J, a5⟩
 cases m with
 | zero => rw [nh] at a5; cases a5
 | succ j0 =>
  refine bg (VE (iw d bt (fun j7 k d => lr (Wa (lS (Wh d0 ?_))))))
  let c2 : Value := (.pointer (some ⟨k, 0, none⟩))
  refine V (kF aO rfl e2) (Wm (ln (CJ a5 (fun a9 E W => ∃ c5, ST true gN w W (hp w) ((k, Ol (gn a9.2) 28) :: (t ++ c5)) ∧ E 0 = D ∧ E 3 = u ∧ E 4 = c2 ∧ E 5 = (.bool a9.1)) (fun a9 e8 => ?_) ?_)))
  ·refine im (fun i E W => ∃ G x b1, (E 10 = .int .i64 (i : Nat) ∧ E 9 = .int .i64 (a0.length : Nat)) ∧ ST true gN w W (hp w) ((k, Ol (gn x) 28) :: (t ++ b1)) ∧ E 0 = D ∧ E 3 = u ∧ E 4 = c2 ∧ E 5 = (.bool G) ∧ E 8 = D ∧ mh a3 (a0.drop i) G x = some a9) a0.length e2.len ⟨false, K0, _, ⟨rfl, rfl⟩, (d.gq St), d0, g1, rfl, rfl, rfl, e8⟩ dc dc dc (fun _ _ _ h => by obtain ⟨_, _, _, ab, _⟩ := h; exact ab) ?_ ?_
   ·rintro a2 E W e7 ⟨G, x, b1, ⟨q, O⟩, d, U, M, Y, Z, o, z⟩
    let j2 := ((gn x).toArray : Array Value)
    obtain ⟨c, j6, f8, f7, c3⟩ := hX e7
    let j1 := ((gn c).toArray : Array Value)
    rw [f8] at z
    refine bg (VQ (iZ (enc := gn) (i := (a2 : Int)) (x0 := c) aO ae o q e2 (aj _) f7) (fun k6 f2 => V (gu rfl (jM d.has f2 ah ae)) (VE (iw d bt (fun k0 K d => VO (gO (.agg (gn c).toArray) ((gn c).toArray) d rfl rfl ae (kX c) nb rfl (fun k1 d => ln (gH ?_))))))))
    let l6 : Value := (.int .i64 (a2 : Int))
    let l5 : Value := (.int .i64 (a0.length : Int))
    let P : Value := (.pointer (some ⟨K, 0, none⟩))
    replace d := d.drew
    have b := d.has.gq (Kb (Kb (Kr Sn)))
    refine iy b gW (XH 0 rfl b (fun _ n => gu rfl (gD n Mh (gn c) rfl ah ae)) (bS z fun j3 f4 z => XE 1 rfl (Eg d call88 (pX c _ _  f4) (fun k2 d => ?_))))
    have b := d.has.gq (Kb (Kb (Kr Sn)))
    refine ⟨b, (X 2 rfl b (gy rfl) (PJ z (fun d9 E W => ∃ c6, ST true gN w W (hp w) ((K, Obj.cells j1 28 (0, 0)) :: ((k, Obj.cells j2 28 (0, 0)) :: (t ++ c6))) ∧ E 0 = D ∧ E 3 = u ∧ E 4 = c2 ∧ E 5 = (.bool G) ∧ E 7 = P ∧ E 8 = D ∧ E 9 = l5 ∧ E 10 = l6 ∧ E 30 = (.bool d9)) (bm 26 131071) 9 ?_ (fun d9 T c0 => ?_)))⟩
    ·rintro j5 E W ⟨c6, d, b2, b3, s, A, L, b4, b5, b6, g5⟩ e9
     have b := d.has.gq (Kb (Kb (Kr Sn)))
     refine X 17 rfl b (gy g5) (PJ e9 (fun d7 E W => ∃ c7, ST true gN w W (hp w) ((K, Obj.cells j1 28 (0, 0)) :: ((k, Obj.cells j2 28 (0, 0)) :: (t ++ c7))) ∧ E 0 = D ∧ E 3 = u ∧ E 4 = c2 ∧ E 5 = (.bool G) ∧ E 7 = P ∧ E 8 = D ∧ E 9 = l5 ∧ E 10 = l6 ∧ E 39 = (.bool d7)) (bm 26 67108863) 0 ?_ (fun d7 Q b8 => ?_))
     ·rintro l1 E W ⟨c7, d, d2, d3, b7, g6, g7, d4, d5, d6, g8⟩ N
      refine iI kr (gC (CI N g8 (fun e6 N => ?_) (fun e6 N => ?_)))
      ·refine sg (V (gu g7 (gD d.has Mh (gn c) rfl ah ae)) ?_)
       replace d := d.perm (Nb (Pb Pz) Nz)
       refine VO (gO (.agg (gn c).toArray) ((gn c).toArray) d b7 rfl ae (kX c) nb rfl (fun k3 d => ln ?_))
       replace d := d.gq (Kb (Db St))
       exact gE (Wa (gM (gU (gC ⟨d6, true, c, _, ⟨rfl, d5⟩, (d.gq St), d2, d3, b7, rfl, d4, (by rw [c3]; exact N)⟩))))
      refine ic (gU (gC ?_))
      replace d := d.gq (Db St)
      exact ⟨d6, G, x, _, ⟨rfl, d5⟩, (d.gq St), d2, d3, b7, g6, d4, (by rw [c3]; exact N)⟩
     refine bC Q (fun j Q => ?_) (fun j Q => ?_)
     ·refine Xg 18 rfl rfl (cB j) b (gy A) (Xg 19 rfl rfl (cB j) b (mZ rfl) (Xg 20 rfl rfl (cB j) b (gy rfl) (PJ Q (fun d8 E W => ∃ c8, ST true gN w W (hp w) ((K, Obj.cells j1 28 (0, 0)) :: ((k, Obj.cells j2 28 (0, 0)) :: (t ++ c8))) ∧ E 0 = D ∧ E 3 = u ∧ E 4 = c2 ∧ E 5 = (.bool G) ∧ E 7 = P ∧ E 8 = D ∧ E 9 = l5 ∧ E 10 = l6 ∧ E 31 = (.bool j5) ∧ E 38 = (.bool d8)) (bm 26 33554431) 1 ?_ (fun d8 I b9 => ?_))))
      ·rintro l2 E W ⟨c8, d, g9, h0, h1, h2, h3, h4, h5, h6, h7, h8⟩ f0
       have b := d.has.gq (Kb (Kb (Kr Sn)))
       refine X 25 rfl b (gK (h7.trans (cB j)) h8) ?_
       obtain rfl := sj f0
       refine iH kr (b8 _ _ ⟨_, (d.gq St), g9, h0, h1, h2, h3, h4, h5, h6, rfl⟩)
      refine bC I (fun y I => ?_) (fun y I => ?_)
      ·refine Xn 21 rfl rfl (cB y) b (Xn 22 rfl rfl (cB y) b (Xn 23 rfl rfl (cB y) b (Xg 24 rfl rfl (cB j) b (gK (cB y) rfl) ?_)))
       obtain rfl := sj I
       refine iH kr (b9 _ _ ⟨_, (d.gq St), b2, b3, s, A, L, b4, b5, b6, rfl, rfl⟩)
      refine nn 21 rfl rfl (cB y) b (fun _ n => gu L (gD n Mh (gn c) rfl ah ae)) (nn 22 rfl rfl (cB y) b (fun _ n => gu s (gD n (Mt Mh) (gn x) rfl ah ae)) (bS I fun k8 f5 I => uG 23 rfl rfl (cB y) (Eg d call107 (qK c x _ _  f5) (fun k4 d => ?_))))
      have b := d.has.gq (Kb (Kb (Kr Sn)))
      refine ⟨b, (Xg 24 rfl rfl (cB j) b (gJ (cB y) rfl) ?_)⟩
      obtain rfl := sj I
      refine iH kr (b9 _ _ ⟨_, (d.gq St), b2, b3, s, A, L, b4, b5, b6, rfl, rfl⟩)
     refine Xn 18 rfl rfl (cB j) b (Xn 19 rfl rfl (cB j) b (Xn 20 rfl rfl (cB j) b (Xu 21 rfl rfl rfl b (Xu 22 rfl rfl rfl b (Xu 23 rfl rfl rfl b (Xn 24 rfl rfl (cB j) b (X 25 rfl b (gJ (cB j) rfl) ?_)))))))
     obtain rfl := sj Q
     refine iH kr (b8 _ _ ⟨_, (d.gq St), b2, b3, s, A, L, b4, b5, b6, rfl⟩)
    refine bC T (fun g T => ?_) (fun g T => ?_)
    ·refine Xg 3 rfl rfl (cB g) b (gy M) (Xg 4 rfl rfl (cB g) b (iu aO rfl J) (Xg 5 rfl rfl (cB g) b (iX rfl rfl rfl) (Xg 6 rfl rfl (cB g) b (gy rfl) (PJ T (fun e0 E W => ∃ c9, ST true gN w W (hp w) ((K, Obj.cells j1 28 (0, 0)) :: ((k, Obj.cells j2 28 (0, 0)) :: (t ++ c9))) ∧ E 0 = D ∧ E 3 = u ∧ E 4 = c2 ∧ E 5 = (.bool G) ∧ E 7 = P ∧ E 8 = D ∧ E 9 = l5 ∧ E 10 = l6 ∧ E 16 = (.bool j3) ∧ E 29 = (.bool e0)) (bm 26 65535) 10 ?_ (fun e0 B c1 => ?_)))))
     ·rintro l3 E W ⟨c9, d, h9, i0, i1, i2, i3, i4, i5, i6, i7, i8⟩ f1
      have b := d.has.gq (Kb (Kb (Kr Sn)))
      refine X 16 rfl b (gK (i7.trans (cB g)) i8) ?_
      obtain rfl := sj f1
      refine iH kr (c0 _ _ ⟨_, (d.gq St), h9, i0, i1, i2, i3, i4, i5, i6, rfl⟩)
     refine bC B (fun a B => ?_) (fun a B => ?_)
     ·refine Xn 7 rfl rfl (cB a) b (Xn 8 rfl rfl (cB a) b (Xn 9 rfl rfl (cB a) b (Xn 10 rfl rfl (cB a) b (Xn 11 rfl rfl (cB a) b (Xn 12 rfl rfl (cB a) b (Xn 13 rfl rfl (cB a) b (Xn 14 rfl rfl (cB a) b (Xg 15 rfl rfl (cB g) b (gK (cB a) rfl) ?_))))))))
      obtain rfl := sj B
      refine iH kr (c1 _ _ ⟨_, (d.gq St), U, M, Y, Z, rfl, o, O, q, rfl, rfl⟩)
     refine Xg 7 rfl rfl (cB a) b (gy M) (Xg 8 rfl rfl (cB a) b (gy M) (Xg 9 rfl rfl (cB a) b (iu aO rfl J) (Xg 10 rfl rfl (cB a) b (iX rfl rfl rfl) (bS B fun e1 b0 B => um 11 rfl kr (.inr ⟨6, false, 20, rfl, rfl, by decide, (cB a)⟩) rfl dc (fun _ _ h => h) b (ie (i := (wi0 .i64 ((a3.length : Int) - 1))) (x0 := e1) aO ae rfl rfl J (iD b0) (hZ b0)) (fun k7 f3 => nn 12 rfl rfl (cB a) b (fun _ n => gu rfl (je n (fun p hq => (Mt (Mt (Ml hq)))) J kP f3 (hZ b0) ah ae)) (nn 13 rfl rfl (cB a) b (fun _ n => gu rfl (gD n Mh (gn c) rfl ah ae)) (bS B fun k9 f6 B => uG 14 rfl rfl (cB a) (Eg d call107 (qK e1 c _ _  f6) (fun k5 d => ?_)))))))))
     have b := d.has.gq (Kb (Kb (Kr Sn)))
     refine ⟨b, (Xg 15 rfl rfl (cB g) b (gJ (cB a) rfl) ?_)⟩
     obtain rfl := sj B
     refine iH kr (c1 _ _ ⟨_, (d.gq St), U, M, Y, Z, rfl, o, O, q, rfl, rfl⟩)
    refine Xn 3 rfl rfl (cB g) b (Xn 4 rfl rfl (cB g) b (Xn 5 rfl rfl (cB g) b (Xn 6 rfl rfl (cB g) b (Xu 7 rfl rfl rfl b (Xu 8 rfl rfl rfl b (Xu 9 rfl rfl rfl b (Xu 10 rfl rfl rfl b (Xu 11 rfl rfl rfl b (Xu 12 rfl rfl rfl b (Xu 13 rfl rfl rfl b (Xu 14 rfl rfl rfl b (Xn 15 rfl rfl (cB g) b (X 16 rfl b (gJ (cB g) rfl) ?_)))))))))))))
    obtain rfl := sj T
    refine iH kr (c0 _ _ ⟨_, (d.gq St), U, M, Y, Z, rfl, o, O, q, rfl⟩)
   rintro E W ⟨G, x, b1, ⟨q, O⟩, d, U, M, Y, Z, o, z⟩
   rw [au] at z
   refine gC ?_
   obtain rfl := sj z
   exact ⟨_, (d.gq St), U, M, Y, Z⟩
  rintro ⟨l0, a4⟩ E W ⟨c5, d, g2, d1, g3, g4⟩ H
  refine gH (sg (Wh g4 (V (mZ rfl) (ln (CI H rfl (fun e4 H => ?_) (fun e4 H => ?_))))))
  ·refine sg (Wh d1 (Wa (ln ?_)))
   replace d := d.gq (Db St)
   refine iq (iv (jU (iv (jU (iv ?_)))))
   obtain rfl := sj H
   exact ij (v := u) rfl rfl ⟨_, t, rfl, d.jd (fun p hq => (Ml hq)) J.nd, J⟩
  refine kn (gE (Wh d1 (V (gu g3 (gD d.has Mh (gn a4) rfl ah ae)) (VE (gS (cs := (gn a4).toArray) d (kk rfl) (jB aO ae bt) (fun j8 g0 d => ?_))))))
  replace d := d.perm (Nr (Qb (Qb Qz)) Nz)
  refine bS H fun i9 e5 H => VE (jn (enc := gn) (v := u) (vs := (.slice (some ⟨g0, 0, none⟩) 1 1)) (R := t) d kP dc kX aO kA.1 kA.2.1 rfl kA.2.2.1 kA.2.2.2 rfl rfl J (Sl.lit (enc := gn) (l := [a4]) kP rfl nb rfl (d.at_ (Ma Mh))) e5 (fun j9 j4 f9 d e3 => Wa (gM (gU (gC ?_)))))
  replace d := d.gq (Kr (Db (Db St)))
  exact ⟨j0, bn _, j4, i9, f9, _, (d.gq St), g2, rfl, e3, H⟩
theorem sU (G : Value) (H : List gr) (B : gl) (r : List ByteArray) (w : World) (D : Sl (Pl gG) 3 (hp w) G H) (hm : mG H B = some r) :
  iz true pg0 61 [G, (.agg (gn B).toArray)] w 9 iL 1 r := by
 refine oE 25 func61 rfl (fun b => sg (VE (iP b rfl (fun W2 o b => Wa (lr (Wa (lS ?_)))))))
 refine Wm (V (kF aV rfl D) (Wm (ln (im (fun i E W => ∃ k y g z, (E 10 = .int .i64 (i : Nat) ∧ E 9 = .int .i64 (H.length : Nat)) ∧ ST true gN w W (hp w) ((o, Ol (gn B) 28) :: (g ++ z)) ∧ E 3 = (.pointer (some ⟨o, 0, none⟩)) ∧ E 5 = k ∧ E 8 = G ∧ gI 9 iL 1 k y g ∧ kJ B (H.drop i) y = some r) H.length D.len ⟨(.slice none 0 0), ([]), [], _, ⟨rfl, rfl⟩, (b.gq St), rfl, rfl, rfl, (gI.nil _ _ _), hm⟩ dc dc dc (fun _ _ _ h => by obtain ⟨_, _, _, _, m, _⟩ := h; exact m) ?_ ?_))))
 ·rintro a5 E W U ⟨k, y, g, z, ⟨d, n⟩, b, t, u, x, j, a⟩
  obtain ⟨c, b3, Z, Y, I⟩ := hX U
  rw [Z] at a
  refine bg (VQ (iZ (enc := gG) (i := (a5 : Int)) (x0 := c) aV bz x d D (aj _) Y) (fun P N => V (gu rfl (jM b.has N dN bz)) (VE (iw b cu (fun s O b => VO (gO (.agg (gG c).toArray) ((gG c).toArray) b rfl rfl bz (pB c) nb rfl (fun A b => lr (Wf qG (VA b Mh (gn c.gl) ah ae (V (gu t (gD b.has (Mt Mh) (gn B) rfl ah ae)) (V (od rfl rfl (jw ck) (lR (jZ _ c.gl B))) ?_)))))))))))
  refine ln (CI a rfl (fun K a => ?_) (fun K a => ?_))
  ·refine gE (Wh u (Wf pP (VB b Mh rfl rfl aG (VE (gS (cs := [(.string c.gP)].toArray) b (kk rfl) (jB az bU ey) (fun L T b => ?_))))))
   replace b := b.perm (Nr (Qb (Qb (Qb Qz))) Nz)
   refine bS a fun a2 M a => VE (jn (enc := iL) (v := k) (vs := (.slice (some ⟨T, 0, none⟩) 1 1)) (R := g) b (fun _ => rfl) dc uk az mH.1 mH.2.1 rfl mH.2.2.1 mH.2.2.2 rfl rfl j (Sl.lit (enc := iL) (l := [c.gP]) (fun _ => rfl) rfl nb rfl (b.at_ (Ma Mh))) M (fun a9 a3 Q b J => Wa (gM (gU (gC ?_)))))
   replace b := b.gq (Kr (Db (Db St)))
   exact ⟨d, a3, a2, Q, _, ⟨rfl, n⟩, (b.gq (Sb (Pr Pz) St)), t, rfl, x, J, (by rw [I]; exact a)⟩
  refine ic (gU (gC ?_))
  replace b := b.gq (Db St)
  exact ⟨d, k, y, g, _, ⟨rfl, n⟩, (b.gq St), t, u, x, j, (by rw [I]; exact a)⟩
 rintro E W ⟨k, y, g, z, ⟨d, n⟩, b, t, u, x, j, a⟩
 rw [au] at a
 refine gC ?_
 replace b := b.gq (Db St)
 refine sg (Wh u (Wa (lt ?_)))
 obtain rfl := sj a
 exact ij (v := k) rfl rfl ⟨_, g, rfl, b.jd (fun p q => (Ml q)) j.nd, j⟩
set_option maxHeartbeats 4000000 in
theorem sL (f4 : Value) (a0 : List gm) (r : List gx) (w : World) (n3 : Sl (Pl gp) 9 (hp w) f4 a0) (hm : mL a0 = some r) :
  iz true pg0 13 [f4] w 30 gw 5 r := by
 refine oE 89 func13 rfl (fun d => sg (Wa (lr (Wm (bS hm fun P u2 hm => VE (lB d call23 (tk f4 a0 _ _ (n3.mono (Pl.mono _) d.iG) u2) (fun W3 q ba R8 d t3 aE b5 => Wa (ln (gH ?_)))))))))
 refine gE (Wm (bS hm fun m2 t4 hm => VE (lB d call58 (BM f4 a0 _ _ (n3.mono (Pl.mono _) (t3.trans d.iG)) t4) (fun y5 N t1 O d w5 av m9 => Wa (lr (Wa (lS ?_)))))))
 refine Wm (V (iu ai rfl b5) (Wm (ln (im (fun i E W => ∃ b3 d9 d6 f5 g2, (E 20 = .int .i64 (i : Nat) ∧ E 19 = .int .i64 (P.length : Nat)) ∧ ig t1 f5 ∧ ST true gN w W f5 (d6 ++ (O ++ (R8 ++ g2))) ∧ E 3 = q ∧ E 4 = N ∧ E 5 = b3 ∧ E 18 = q ∧ gI 28 gn 2 b3 d9 d6 ∧ kG m2 P (P.drop i) d9 = some r) P.length b5.len ⟨(.slice none 0 0), ([]), [], t1, _, ⟨rfl, rfl⟩, (ig.refl _), (d.gq St), rfl, rfl, rfl, rfl, (gI.nil _ _ _), hm⟩ dc dc dc (fun _ _ _ h => by obtain ⟨_, _, _, _, _, A, _⟩ := h; exact A) ?_ ?_))))
 ·rintro t5 E W s1 ⟨b3, d9, d6, f5, g2, ⟨s, L⟩, f7, d, g3, g4, g5, g6, f0, t⟩
  obtain ⟨b4, x5, s5, m1, s6⟩ := hX s1
  rw [s5] at t
  refine bg (VQ (ie (i := (t5 : Int)) (x0 := b4) ai ag g6 s b5 (aj _) m1) (fun y3 s2 => V (gu rfl (je d.has (fun p n => (Ma (Ma (Ml n)))) b5 ia s2 m1 aM ag)) (VE (iw d aT (fun x7 y2 d => VO (gO (.agg (gp b4).toArray) ((gp b4).toArray) d rfl rfl ag (js b4) nb rfl (fun x8 d => ln (gE (Wh g5 (VA d Mh (gp b4) aM ag (bS t fun y4 s3 t => VE (lB d call59 (yO b4 _ _  s3) (fun x9 t7 t9 x6 d o0 af r8 => ?_)))))))))))))
  replace d := d.perm (Nr (Qr (Qb Qz)) Nz)
  refine bS t fun t6 s0 t => VE (jn (enc := gn) (v := b3) (vs := t7) (R := d6) d kP dc kX aO kA.1 kA.2.1 rfl kA.2.2.1 kA.2.2.2 rfl rfl f0 (r8.FZ kP d (fun p n => (Ma (Ml n)))) s0 (fun y0 t8 t2 d r9 => Wa (gM (gU (gC ?_)))))
  replace d := d.gq (Kr (Dr (Db St)))
  exact ⟨s, t8, t6, t2, t9, _, ⟨rfl, L⟩, (f7.trans o0), (d.gq St), g3, g4, rfl, g6, r9, (by rw [s6]; exact t)⟩
 rintro E W ⟨b3, d9, d6, f5, g2, ⟨s, L⟩, f7, d, g3, g4, g5, g6, f0, t⟩
 rw [au] at t
 refine gC (sg (Wa (lS (Wh g5 (bS t fun J s4 t => VE (lB d call60 (Ar b3 d9 _ _ (f0.sl kP (fun b o n => d.at_ (Ml n))) s4) (fun y1 a2 g7 Q d u1 ao d2 => V (iu aO rfl d2) (Wm (gM ?_)))))))))
 let a6 : Value := (.int .i64 (J.length : Int))
 refine gC ?_
 replace d := d.gq (Kr (Dr St))
 refine CJ t (fun f1 E W => ∃ d4 b7 f6 g8, ig g7 f6 ∧ ST true gN w W f6 (b7 ++ g8) ∧ E 8 = d4 ∧ gI 30 gw 5 d4 f1 b7) (fun f1 o2 => ?_) ?_
 ·refine im (fun i E W => ∃ u d3 k a5 e4, (E 32 = .int .i64 (i : Nat) ∧ E 31 = .int .i64 (J.length : Nat)) ∧ ig g7 a5 ∧ ST true gN w W a5 (k ++ (Q ++ (O ++ (R8 ++ e4)))) ∧ E 3 = q ∧ E 4 = N ∧ E 8 = u ∧ E 30 = a2 ∧ gI 30 gw 5 u d3 k ∧ ly m2 P (J.drop i) d3 = some f1) J.length d2.len ⟨(.slice none 0 0), ([]), [], g7, _, ⟨rfl, rfl⟩, (ig.refl _), (d.gq St), g3, g4, rfl, rfl, (gI.nil _ _ _), o2⟩ dc dc dc (fun _ _ _ h => by obtain ⟨_, _, _, _, _, A, _⟩ := h; exact A) ?_ ?_
  ·rintro I E W n8 ⟨u, d3, k, a5, e4, ⟨s, L⟩, b0, d, e7, b8, b9, c0, d8, G⟩
   let j2 : Value := (.int .i64 (I : Int))
   obtain ⟨a, u4, p2, f9, p3⟩ := hX n8
   rw [p2] at G
   refine bg (VQ (ie (i := (I : Int)) (x0 := a) aO ae c0 s d2 (aj _) f9) (fun w7 o8 => V (gu rfl (je d.has (fun p n => (Ma (Ml n))) d2 kP o8 f9 ah ae)) (VE (iw d bt (fun u8 y d => VO (gO (.agg (gn a).toArray) ((gn a).toArray) d rfl rfl ae (kX a) nb rfl (fun u9 d => ln (gH ?_))))))))
   let b6 : Value := (.pointer (some ⟨y, 0, none⟩))
   replace d := d.drew
   have m := d.has.gq (Kb Sn)
   refine iy m gW (XH 0 rfl m (fun _ hS => gu rfl (gD hS Mh (gn a) rfl ah ae)) (X 1 rfl m (gy b8) (XH 2 rfl m (fun _ hS => gu rfl (gD hS Mh (gn a) rfl ah ae)) (PJ G (fun f3 E W => ∃ c D g9, ig a5 D ∧ ST true gN w W D ((c, Ol (gw f3.2) 30) :: ((y, Ol (gn a) 28) :: (k ++ (Q ++ (O ++ (R8 ++ g9)))))) ∧ E 3 = q ∧ E 4 = N ∧ E 8 = u ∧ E 10 = b6 ∧ E 11 = (.pointer (some ⟨c, 0, none⟩)) ∧ E 30 = a2 ∧ E 31 = a6 ∧ E 32 = j2 ∧ E 41 = (.agg (gw f3.1).toArray)) (bm 8 127) 1 ?_ (fun f3 K e3 => ?_)))))
   ·let j1 := ((gn a).toArray : Array Value)
    rintro ⟨d5, x2⟩ E W ⟨c, D, g9, b1, d, h5, q1, q2, q3, h6, q4, q5, q6, q7⟩ o3
    let e6 : Value := (.pointer (some ⟨c, 0, none⟩))
    refine XO 7 rfl (gO (.agg (gw d5).toArray) ((gw d5).toArray) d h6 q7 aU (jO d5) nb rfl (fun v0 d => ?_))
    have m := d.has.qP b1 (Db (Kb Sn))
    refine ⟨m, (iI kr (gC (gH (sg (Wh h5 (V (iu ai rfl b5) (Wm (ln (CJ o3 (fun f2 E W => ∃ h0, ST true gN w W D ((c, Ol (gw f2) 30) :: (k ++ (Q ++ (O ++ (R8 ++ h0))))) ∧ E 3 = q ∧ E 4 = N ∧ E 8 = u ∧ E 11 = e6 ∧ E 30 = a2 ∧ E 31 = a6 ∧ E 32 = j2) (fun f2 o4 => ?_) ?_)))))))))⟩
    ·refine im (fun i E W => ∃ B e5, (E 44 = .int .i64 (i : Nat) ∧ E 43 = .int .i64 (P.length : Nat)) ∧ ST true gN w W D ((c, Ol (gw B) 30) :: ((y, Obj.cells j1 28 (0, 0)) :: (k ++ (Q ++ (O ++ (R8 ++ e5)))))) ∧ E 3 = q ∧ E 4 = N ∧ E 8 = u ∧ E 10 = b6 ∧ E 11 = e6 ∧ E 30 = a2 ∧ E 31 = a6 ∧ E 32 = j2 ∧ E 42 = q ∧ jV a (P.drop i) B = some f2) P.length b5.len ⟨d5, _, ⟨rfl, rfl⟩, (d.gq St), h5, q1, q2, q3, h6, q4, q5, q6, rfl, o4⟩ dc dc dc (fun _ _ _ h => by obtain ⟨_, _, A, _⟩ := h; exact A) ?_ ?_
     ·rintro a8 E W n9 ⟨B, e5, ⟨s, L⟩, d, c1, c2, c3, c4, a4, c5, c6, c7, c8, H⟩
      let w2 : Value := (.int .i64 (a8 : Int))
      obtain ⟨x, u5, p4, g0, g1⟩ := hX n9
      let w1 := ((gp x).toArray : Array Value)
      rw [p4] at H
      let p6 : Value := (.int .i64 (P.length : Int))
      refine bg (VQ (ie (i := (a8 : Int)) (x0 := x) ai ag c8 s b5 (aj _) g0) (fun w8 o9 => V (gu rfl (je d.has (fun p n => (Mt (Mt (Ma (Ma (Ma (Ml n))))))) b5 ia o9 g0 aM ag)) (VE (iw d aT (fun v3 a3 d => VO (gO (.agg (gp x).toArray) ((gp x).toArray) d rfl rfl ag (js x) nb rfl (fun v4 d => ln (gH (CJ H (fun m8 E W => ∃ h1, ST true gN w W D ((a3, Obj.cells w1 108 (0, 0)) :: ((c, Ol (gw m8) 30) :: ((y, Obj.cells j1 28 (0, 0)) :: (k ++ (Q ++ (O ++ (R8 ++ h1))))))) ∧ E 3 = q ∧ E 4 = N ∧ E 8 = u ∧ E 10 = b6 ∧ E 11 = e6 ∧ E 13 = (.pointer (some ⟨a3, 0, none⟩)) ∧ E 30 = a2 ∧ E 31 = a6 ∧ E 32 = j2 ∧ E 42 = q ∧ E 43 = p6 ∧ E 44 = w2) (fun m8 a1 => ?_) ?_)))))))))
      ·refine sg (Wf jz (VA d Mh (gn x.Head) ah ae (V (gu c4 (gD d.has (Mt (Mt Mh)) (gn a) rfl ah ae)) (V (od rfl rfl (jw ck) (lR (jZ _ x.Head a))) (ln (CI a1 rfl (fun n7 a1 => ?_) (fun n7 a1 => ?_)))))))
       ·refine gE (V (gA sn a4) (VB d (Mt Mh) rfl rfl bj (Wi rfl (V (gA sn a4) ?_))))
        replace d := d.perm (Nb (Pb Pz) Nz)
        refine VO (gO (.int .i64 (wi0 .i64 (B.ke + 1))) ((gw (⟨B.gl, (wi0 .i64 (B.ke + 1)), B.jg, B.oI⟩ : gx)).toArray) d rfl rfl dL (sG _ (wi0 .i64 (B.ke + 1))) nb rfl (fun v8 d => ln ?_))
        obtain rfl := sj a1
        exact ⟨_, (d.gq (Sb (Pb Pz) St)), c1, c2, c3, c4, a4, rfl, c5, c6, c7, c8, L, s⟩
       refine kn ?_
       obtain rfl := sj a1
       exact ⟨_, (d.gq St), c1, c2, c3, c4, a4, rfl, c5, c6, c7, c8, L, s⟩
      rintro M E W ⟨h1, d, h7, h8, h9, e8, i0, c9, i1, i2, i3, i4, i5, i6⟩ o5
      refine gH (CJ o5 (fun m6 E W => ∃ h2, ST true gN w W D ((a3, Obj.cells w1 108 (0, 0)) :: ((c, Ol (gw m6) 30) :: ((y, Obj.cells j1 28 (0, 0)) :: (k ++ (Q ++ (O ++ (R8 ++ h2))))))) ∧ E 3 = q ∧ E 4 = N ∧ E 8 = u ∧ E 10 = b6 ∧ E 11 = e6 ∧ E 13 = (.pointer (some ⟨a3, 0, none⟩)) ∧ E 30 = a2 ∧ E 31 = a6 ∧ E 32 = j2 ∧ E 42 = q ∧ E 43 = p6 ∧ E 44 = w2) (fun m6 o7 => ?_) ?_)
      ·refine sg (V (gA jk c9) (VB d Mh rfl rfl bj (Wi rfl (Wm (LJ o7 (fun m7 E W => ∃ h4, ST true gN w W D ((a3, Obj.cells w1 108 (0, 0)) :: ((c, Ol (gw M) 30) :: ((y, Obj.cells j1 28 (0, 0)) :: (k ++ (Q ++ (O ++ (R8 ++ h4))))))) ∧ E 3 = q ∧ E 4 = N ∧ E 8 = u ∧ E 10 = b6 ∧ E 11 = e6 ∧ E 13 = (.pointer (some ⟨a3, 0, none⟩)) ∧ E 30 = a2 ∧ E 31 = a6 ∧ E 32 = j2 ∧ E 42 = q ∧ E 43 = p6 ∧ E 44 = w2 ∧ E 64 = (.bool m7)) 5 ?_ (fun m7 Z e2 => ?_))))))
       ·rintro x4 E W ⟨h4, d, l0, l1, l2, l3, d1, l4, l5, l6, l7, l8, l9, m0, r7⟩ Y
        refine ln (CI Y r7 (fun n6 Y => ?_) (fun n6 Y => ?_))
        ·refine gE (V (gA oR d1) (VB d (Mt Mh) rfl rfl bj (Wi rfl (V (gA oR d1) ?_))))
         replace d := d.perm (Nb (Pb Pz) Nz)
         refine VO (gO (.int .i64 (wi0 .i64 (M.jg + 1))) ((gw (⟨M.gl, M.ke, (wi0 .i64 (M.jg + 1)), M.oI⟩ : gx)).toArray) d rfl rfl dL (sG _ (wi0 .i64 (M.jg + 1))) nb rfl (fun v6 d => ln ?_))
         obtain rfl := sj Y
         exact ⟨_, (d.gq (Sb (Pb Pz) St)), l0, l1, l2, l3, d1, l4, l5, l6, l7, l8, l9, m0⟩
        refine kn ?_
        obtain rfl := sj Y
        exact ⟨_, (d.gq St), l0, l1, l2, l3, d1, l4, l5, l6, l7, l8, l9, m0⟩
       refine bC Z (fun j Z => ?_) (fun j Z => ?_)
       ·refine ug j (gA iK c9) (ug j (gu rfl (gD d.has Mh (gn x.B) rfl ah ae)) (ug j (gu e8 (gD d.has (Mt (Mt Mh)) (gn a) rfl ah ae)) (ug j (od rfl rfl (jw ck) (lR (jZ _ x.B a))) (V (gK (cB j) rfl) ?_))))
        obtain rfl := sj Z
        exact e2 _ _ ⟨_, (d.gq St), h7, h8, h9, e8, i0, c9, i1, i2, i3, i4, i5, i6, rfl⟩
       refine un j (un j (un j (un j (V (gJ (cB j) rfl) ?_))))
       obtain rfl := sj Z
       exact e2 _ _ ⟨_, (d.gq St), h7, h8, h9, e8, i0, c9, i1, i2, i3, i4, i5, i6, rfl⟩
      rintro z E W ⟨h2, d, i7, i8, i9, e9, j0, j3, j4, j5, j6, j7, j8, j9⟩ o6
      let u3 := (⟨z.gl, z.ke, (wi0 .i64 (z.jg + 1)), z.oI⟩ : gx)
      refine sg (V (gA jk j3) (VB d Mh rfl rfl bj (Wi rfl (Wm (LJ o6 (fun m5 E W => ∃ h3, ST true gN w W D ((c, Ol (gw z) 30) :: ((y, Obj.cells j1 28 (0, 0)) :: (k ++ (Q ++ (O ++ (R8 ++ h3)))))) ∧ E 3 = q ∧ E 4 = N ∧ E 8 = u ∧ E 10 = b6 ∧ E 11 = e6 ∧ E 30 = a2 ∧ E 31 = a6 ∧ E 32 = j2 ∧ E 42 = q ∧ E 43 = p6 ∧ E 44 = w2 ∧ E 77 = (.bool m5)) 5 ?_ (fun m5 U e1 => ?_))))))
      ·rintro x3 E W ⟨h3, d, k0, k1, k2, k3, d0, k4, k5, k6, k7, k8, k9, r6⟩ T
       refine ln (CI T r6 (fun n5 T => ?_) (fun n5 T => ?_))
       ·exact gE (V (gA oR d0) (VB d Mh rfl rfl bj (Wi rfl (V (gA oR d0) (VO (gO (.int .i64 (wi0 .i64 (z.jg + 1))) ((gw u3).toArray) d rfl rfl dL (sG _ (wi0 .i64 (z.jg + 1))) nb rfl (fun v5 d => gM (gU (gC ⟨k9, u3, _, ⟨rfl, k8⟩, (d.gq St), k0, k1, k2, k3, d0, k4, k5, k6, k7, (by rw [g1]; exact T)⟩)))))))))
       exact ic (gU (gC ⟨k9, z, _, ⟨rfl, k8⟩, (d.gq St), k0, k1, k2, k3, d0, k4, k5, k6, k7, (by rw [g1]; exact T)⟩))
      refine bC U (fun g U => ?_) (fun g U => ?_)
      ·refine ug g (gA kp j3) (ug g (gu rfl (gD d.has Mh (gn x.C) rfl ah ae)) (ug g (gu e9 (gD d.has (Mt (Mt Mh)) (gn a) rfl ah ae)) (ug g (od rfl rfl (jw ck) (lR (jZ _ x.C a))) (V (gK (cB g) rfl) ?_))))
       obtain rfl := sj U
       exact e1 _ _ ⟨_, (d.gq (Db St)), i7, i8, i9, e9, j0, j4, j5, j6, j7, j8, j9, rfl⟩
      refine un g (un g (un g (un g (V (gJ (cB g) rfl) ?_))))
      obtain rfl := sj U
      exact e1 _ _ ⟨_, (d.gq (Db St)), i7, i8, i9, e9, j0, j4, j5, j6, j7, j8, j9, rfl⟩
     rintro E W ⟨B, e5, ⟨s, L⟩, d, c1, c2, c3, c4, a4, c5, c6, c7, c8, H⟩
     rw [au] at H
     refine gC ?_
     obtain rfl := sj H
     exact ⟨_, (d.gq (Kb (Db St))), c1, c2, c3, a4, c5, c6, c7⟩
    rintro a9 E W ⟨h0, d, q8, q9, r0, r2, r3, r4, r5⟩ d7
    refine gE (Wh r0 (V (gu r2 (gD d.has Mh (gw a9) rfl cU aU)) (VE (gS (cs := (gw a9).toArray) d (kk rfl) (jB bd aU bE) (fun v1 p7 d => ?_)))))
    replace d := d.perm (Nr (Qb (Qb Qz)) Nz)
    refine bS d7 fun s7 n4 d7 => VE (jn (enc := gw) (v := u) (vs := (.slice (some ⟨p7, 0, none⟩) 1 1)) (R := k) d kV dc jO bd rl.1 rl.2.1 rfl rl.2.2.1 rl.2.2.2 rfl rfl d8 (Sl.lit (enc := gw) (l := [a9]) kV rfl nb rfl (d.at_ (Ma Mh))) n4 (fun v2 s8 p5 d n0 => Wa (gM (gU (gC ?_)))))
    replace d := d.gq (Kr (Db (Db St)))
    exact ⟨r5, s8, s7, p5, D, _, ⟨rfl, r4⟩, (b0.trans b1), (d.gq St), q8, q9, rfl, r3, n0, (by rw [p3]; exact d7)⟩
   refine Cy 3 6 rfl rfl kr (.inl rfl) (.inl rfl) rfl rfl dc dc ?_ ?_
   ·refine bS K fun m3 p0 K => xd (args := [N, (.agg (gn a).toArray)]) _ d rfl call61 (by exact sb rfl rfl) (sU N m2 a _ _ (m9.sl kD (fun b o n => d.at_ (Mt (Ma (Ma (Ml n)))))) p0) (fun v9 w9 s9 u6 d b2 ab n1 => ?_)
    have m := d.has.qP b2 (Dr (Kb Sn))
    refine ⟨m, (X 4 rfl m (iu az rfl n1) (X 5 rfl m (ko (v := (.agg (gw (⟨a, 0, 0, (m3.length : Int)⟩ : gx)).toArray)) (mB rfl rfl) (jq bE bK (zM _ bK) kr)) (XE 6 rfl (iw d bE (fun w0 p8 d => ?_)))))⟩
    have m := d.has.qP b2 (Db (Dr (Kb Sn)))
    refine ⟨m, ?_⟩
    obtain rfl := sj K
    refine iH kr (e3 _ _ ⟨p8, s9, _, b2, (d.gq (Kb (Dr St))), e7, b8, b9, rfl, rfl, c0, L, s, rfl⟩)
   ·refine iw d bE (fun w3 p9 d => ?_)
    have m := d.has.gq (Db (Kb Sn))
    refine ⟨m, (bS K fun m4 p1 K => XE 3 rfl (lB d call61 (sU N m2 a _ _ (m9.sl kD (fun b o n => d.at_ (Mt (Mt (Ma (Ma (Ml n))))))) p1) (fun w4 x1 t0 u7 d e0 ad n2 => ?_)))⟩
    have m := d.has.qP e0 (Dr (Db (Kb Sn)))
    refine ⟨m, (X 4 rfl m (iu az rfl n2) (X 5 rfl m (ko (v := (.agg (gw (⟨a, 0, 0, (m4.length : Int)⟩ : gx)).toArray)) (mB rfl rfl) (jq bE bK (zM _ bK) kr)) ?_))⟩
    obtain rfl := sj K
    refine iH kr (e3 _ _ ⟨p9, t0, _, e0, (d.gq (Dr St)), e7, b8, b9, rfl, rfl, c0, L, s, rfl⟩)
  rintro E W ⟨u, d3, k, a5, e4, ⟨s, L⟩, b0, d, e7, b8, b9, c0, d8, G⟩
  rw [au] at G
  refine gC ?_
  obtain rfl := sj G
  exact ⟨u, k, a5, _, b0, (d.gq (Kr (Dr (Dr (Dr St))))), b9, d8⟩
 rintro w6 E W ⟨d4, b7, f6, g8, u0, d, q0, f8⟩ o1
 refine sg (Wh q0 (Wa (lt ?_)))
 obtain rfl := sj o1
 exact ij (v := d4) rfl rfl ⟨_, b7, rfl, d.jd (fun p n => (Ml n)) f8.nd, f8⟩
theorem wU (B : Value) (a0 : List gm) (r : List gl) (w : World) (g1 : Sl (Pl gp) 9 (hp w) B a0) (hm : oK a0 = some r) :
  iz true pg0 17 [B] w 28 gn 2 r := by
 refine oE 55 func17 rfl (fun b => sg (Wa (lr (Wa (lS (Wm ?_))))))
 refine bS hm fun r1 l2 hm => VE (lB b call13 (sL B a0 _ _ (g1.mono (Pl.mono _) b.iG) l2) (fun W3 o P R8 b l1 ad f4 => V (iu bd rfl f4) (Wm (ln (im (fun i E W => ∃ j L g b1 b7, (E 12 = .int .i64 (i : Nat) ∧ E 11 = .int .i64 (r1.length : Nat)) ∧ ig P b1 ∧ ST true gN w W b1 (g ++ (R8 ++ b7)) ∧ E 0 = B ∧ E 3 = j ∧ E 10 = o ∧ gI 28 gn 2 j L g ∧ kw a0 (r1.drop i) L = some r) r1.length f4.len ⟨(.slice none 0 0), ([]), [], P, _, ⟨rfl, rfl⟩, (ig.refl _), (b.gq St), rfl, rfl, rfl, (gI.nil _ _ _), hm⟩ dc dc dc (fun _ _ _ h => by obtain ⟨_, _, _, _, _, m, _⟩ := h; exact m) ?_ ?_)))))
 ·rintro G E W g4 ⟨j, L, g, b1, b7, ⟨d, n⟩, Y, b, c0, c1, c2, Q, x⟩
  obtain ⟨c, l3, h4, c7, c8⟩ := hX g4
  rw [h4] at x
  refine bg (VQ (ie (i := (G : Int)) (x0 := c) bd aU c2 d f4 (aj _) c7) (fun m5 h1 => V (gu rfl (je b.has (fun p O => (Ma (Ml O))) f4 kV h1 c7 cU aU)) (VE (iw b bE (fun l6 k b => VO (gO (.agg (gw c).toArray) ((gw c).toArray) b rfl rfl aU (jO c) nb rfl (fun l7 b => lr (Wa (ln (gH ?_))))))))))
  let d1 : Value := (.int .i64 (G : Int))
  let d0 : Value := (.int .i64 (r1.length : Int))
  let q : Value := (.pointer (some ⟨k, 0, none⟩))
  refine sg (Wh c0 (bS x fun a9 h3 x => VE (lB b call23 (tk B a0 _ _ (g1.mono (Pl.mono _) ((l1.trans Y).trans b.iG)) h3) (fun l8 c6 D b9 b b2 ab a7 => V (iu ai rfl a7) (Wm (ln (CJ x (fun c5 E W => ∃ d2, ST true gN w W D ((k, Ol (gw c) 30) :: (g ++ (R8 ++ d2))) ∧ E 0 = B ∧ E 3 = j ∧ E 5 = q ∧ E 6 = (.bool c5) ∧ E 10 = o ∧ E 11 = d0 ∧ E 12 = d1) (fun c5 g8 => ?_) ?_)))))))
  ·let f9 := ((gw c).toArray : Array Value)
   refine im (fun i E W => ∃ H b8, (E 19 = .int .i64 (i : Nat) ∧ E 18 = .int .i64 (a9.length : Nat)) ∧ ST true gN w W D ((k, Obj.cells f9 30 (0, 0)) :: (b9 ++ (g ++ (R8 ++ b8)))) ∧ E 0 = B ∧ E 3 = j ∧ E 5 = q ∧ E 6 = (.bool H) ∧ E 10 = o ∧ E 11 = d0 ∧ E 12 = d1 ∧ E 17 = c6 ∧ kY c (a9.drop i) H = some c5) a9.length a7.len ⟨true, _, ⟨rfl, rfl⟩, (b.gq (Sb (Pr Pz) St)), c0, c1, rfl, rfl, c2, n, d, rfl, g8⟩ dc dc dc (fun _ _ _ h => by obtain ⟨_, _, m, _⟩ := h; exact m) ?_ ?_
   ·rintro c3 E W g5 ⟨H, b8, ⟨d, n⟩, b, s, a2, T, U, a3, a4, a5, A, z⟩
    obtain ⟨Z, l4, h5, c9, h6⟩ := hX g5
    rw [h5] at z
    refine bg (VQ (ie (i := (c3 : Int)) (x0 := Z) ai ag A d a7 (aj _) c9) (fun m6 h2 => V (gu rfl (je b.has (fun p O => (Mt (Ml O))) a7 ia h2 c9 aM ag)) (VE (iw b aT (fun m1 m3 b => VO (gO (.agg (gp Z).toArray) ((gp Z).toArray) b rfl rfl ag (js Z) nb rfl (fun m2 b => ln (gE (Wh U (Wm (LJ z (fun f7 E W => ∃ d5, ST true gN w W D ((k, Obj.cells f9 30 (0, 0)) :: (b9 ++ (g ++ (R8 ++ d5)))) ∧ E 0 = B ∧ E 3 = j ∧ E 5 = q ∧ E 6 = (.bool H) ∧ E 10 = o ∧ E 11 = d0 ∧ E 12 = d1 ∧ E 17 = c6 ∧ E 18 = (.int .i64 (a9.length : Int)) ∧ E 19 = (.int .i64 (c3 : Int)) ∧ E 35 = (.bool f7)) 11 ?_ (fun f7 M b5 => ?_))))))))))))
    ·rintro l0 E W ⟨d5, b, i3, i4, i5, m4, i6, i7, i8, i9, j0, j3, j4⟩ g9
     exact Wg j4 (gM (gU (gC ⟨j3, l0, _, ⟨rfl, j0⟩, (b.gq St), i3, i4, i5, rfl, i6, i7, i8, i9, (by rw [h6]; exact g9)⟩)))
    refine bC M (fun a M => ?_) (fun a M => ?_)
    ·refine ug a (gA jz rfl) (ug a (gu rfl (gD b.has Mh (gn Z.Head) rfl ah ae)) (ug a (gA rz T) (ug a (gu rfl (gD b.has (Mt Mh) (gn c.gl) rfl ah ae)) (ug a (za rfl rfl (jw ck) (vJ (jZ _ Z.Head c.gl))) (ug a (gy rfl) (LJ M (fun f8 E W => ∃ d6, ST true gN w W D ((k, Obj.cells f9 30 (0, 0)) :: (b9 ++ (g ++ (R8 ++ d6)))) ∧ E 0 = B ∧ E 3 = j ∧ E 5 = q ∧ E 6 = (.bool H) ∧ E 10 = o ∧ E 11 = d0 ∧ E 12 = d1 ∧ E 17 = c6 ∧ E 18 = (.int .i64 (a9.length : Int)) ∧ E 19 = (.int .i64 (c3 : Int)) ∧ E 24 = (.bool H) ∧ E 34 = (.bool f8)) 4 ?_ (fun f8 N b6 => ?_)))))))
     ·rintro m9 E W ⟨d6, b, j5, j6, j7, j8, j9, k0, k1, k2, k3, k4, k5, k6⟩ h0
      refine V (gK (k5.trans (cB a)) k6) ?_
      obtain rfl := sj h0
      exact b5 _ _ ⟨_, (b.gq St), j5, j6, j7, j8, j9, k0, k1, k2, k3, k4, rfl⟩
     refine bC N (fun u N => ?_) (fun u N => ?_)
     ·refine un u (un u (un u (ug a (gK (cB u) rfl) ?_)))
      obtain rfl := sj N
      exact b6 _ _ ⟨_, (b.gq (Db St)), s, a2, T, U, a3, a4, a5, A, n, d, rfl, rfl⟩
     refine ug u (gA jk rfl) (ug u (gu rfl (gL b.has Mh rfl bj)) (ug u (iX rfl rfl rfl) (ug a (gJ (cB u) rfl) ?_)))
     obtain rfl := sj N
     exact b6 _ _ ⟨_, (b.gq (Db St)), s, a2, T, U, a3, a4, a5, A, n, d, rfl, rfl⟩
    refine un a (un a (un a (un a (un a (un a (Vu rfl rfl (Vu rfl rfl (Vu rfl rfl (un a (V (gJ (cB a) rfl) ?_))))))))))
    obtain rfl := sj M
    exact b5 _ _ ⟨_, (b.gq (Db St)), s, a2, T, U, a3, a4, a5, A, n, d, rfl⟩
   rintro E W ⟨H, b8, ⟨d, n⟩, b, s, a2, T, U, a3, a4, a5, A, z⟩
   rw [au] at z
   refine gC ?_
   obtain rfl := sj z
   exact ⟨_, (b.gq (Kb (Dr St))), s, a2, T, U, a3, a4, a5⟩
  rintro k9 E W ⟨d2, b, d7, d8, b0, d9, e0, e1, e2⟩ g6
  refine sg (V (gA sn b0) (VB b Mh rfl rfl bj (Wi rfl (Wm (LJ g6 (fun f6 E W => ∃ d3, ST true gN w W D ((k, Ol (gw c) 30) :: (g ++ (R8 ++ d3))) ∧ E 0 = B ∧ E 3 = j ∧ E 5 = q ∧ E 6 = (.bool k9) ∧ E 10 = o ∧ E 11 = d0 ∧ E 12 = d1 ∧ E 44 = (.bool f6)) 4 ?_ (fun f6 K b4 => ?_))))))
  ·rintro m7 E W ⟨d3, b, e3, e4, e5, h9, e6, e7, e8, i0⟩ g7
   refine Wh i0 (LJ g7 (fun f5 E W => ∃ d4, ST true gN w W D ((k, Ol (gw c) 30) :: (g ++ (R8 ++ d4))) ∧ E 0 = B ∧ E 3 = j ∧ E 5 = q ∧ E 10 = o ∧ E 11 = d0 ∧ E 12 = d1 ∧ E 47 = (.bool f5)) 2 ?_ (fun f5 J b3 => ?_))
   ·rintro m8 E W ⟨d4, b, e9, f0, i1, f1, f2, f3, i2⟩ y
    refine ln (CI y i2 (fun g2 y => ?_) (fun g2 y => ?_))
    ·refine gE (Wh f0 (V (gA rz i1) (VA b Mh (gn c.gl) ah ae (VE (gS (cs := (gn c.gl).toArray) b (kk rfl) (jB aO ae bt) (fun l9 h8 b => ?_))))))
     replace b := b.perm (Nr (Qb (Qb Qz)) Nz)
     refine bS y fun k7 g3 y => VE (jn (enc := gn) (v := j) (vs := (.slice (some ⟨h8, 0, none⟩) 1 1)) (R := g) b kP dc kX aO kA.1 kA.2.1 rfl kA.2.2.1 kA.2.2.2 rfl rfl Q (Sl.lit (enc := gn) (l := [c.gl]) kP rfl nb rfl (b.at_ (Ma Mh))) g3 (fun m0 k8 h7 b g0 => Wa (gM (gU (gC ?_)))))
     replace b := b.gq (Kr (Db (Db St)))
     exact ⟨f3, k8, k7, h7, D, _, ⟨rfl, f2⟩, (Y.trans b2), (b.gq St), e9, rfl, f1, g0, (by rw [c8]; exact y)⟩
    refine ic (gU (gC ?_))
    replace b := b.gq (Db St)
    exact ⟨f3, j, L, g, D, _, ⟨rfl, f2⟩, (Y.trans b2), (b.gq St), e9, f0, f1, Q, (by rw [c8]; exact y)⟩
   refine bC J (fun I J => ?_) (fun I J => ?_)
   ·refine ug I (gy h9) (V (gK (cB I) rfl) ?_)
    obtain rfl := sj J
    exact b3 _ _ ⟨_, (b.gq St), e3, e4, e5, e6, e7, e8, rfl⟩
   refine un I (V (gJ (cB I) rfl) ?_)
   obtain rfl := sj J
   exact b3 _ _ ⟨_, (b.gq St), e3, e4, e5, e6, e7, e8, rfl⟩
  refine bC K (fun t K => ?_) (fun t K => ?_)
  ·refine ug t (gA oR b0) (ug t (gu rfl (gL b.has Mh rfl bj)) (ug t (iX rfl rfl rfl) (V (gK (cB t) rfl) ?_)))
   obtain rfl := sj K
   exact b4 _ _ ⟨_, (b.gq St), d7, d8, b0, d9, e0, e1, e2, rfl⟩
  refine un t (un t (un t (V (gJ (cB t) rfl) ?_)))
  obtain rfl := sj K
  exact b4 _ _ ⟨_, (b.gq St), d7, d8, b0, d9, e0, e1, e2, rfl⟩
 rintro E W ⟨j, L, g, b1, b7, ⟨d, n⟩, Y, b, c0, c1, c2, Q, x⟩
 rw [au] at x
 refine gC ?_
 replace b := b.gq (Kr (Dr St))
 refine sg (Wh c1 (Wa (lt ?_)))
 obtain rfl := sj x
 exact ij (v := j) rfl rfl ⟨_, g, rfl, b.jd (fun p O => (Ml O)) Q.nd, Q⟩
theorem zm (t : Value) (y : List gl) (u : Value) (K : List gl) (r : Bool) (w : World) (c : Sl (Pl gn) 2 (hp w) t y) (z : Sl (Pl gn) 2 (hp w) u K) (hm : qF y K = some r) :
  iC true pg0 15 [t, u] w (.bool r) := by
 refine cG 26 func15 rfl (fun d => sg (Wa (lS (Wm (V (kF aO rfl c) (Wm (V (kF aO rfl z) (Wi rfl (gM ?_)))))))))
 refine gC (CI hm rfl (fun U hm => ?_) (fun U hm => ?_))
 ·refine sg (Wa (lt (iv ?_)))
  obtain rfl := sj hm
  exact rP d
 refine kS (Wm (V (kF aO rfl c) (Wm (ln (im (fun i E W => ∃ g, (E 13 = .int .i64 (i : Nat) ∧ E 12 = .int .i64 (y.length : Nat)) ∧ ST true gN w W (hp w) g ∧ E 0 = t ∧ E 1 = u ∧ nN K (y.drop i) i = some r) y.length c.len ⟨_, ⟨rfl, rfl⟩, (d.gq St), rfl, rfl, hm⟩ dc dc dc (fun _ _ _ h => by obtain ⟨_, m, _⟩ := h; exact m) ?_ ?_)))))
 ·rintro I E W M ⟨g, ⟨l, o⟩, d, j, k, a⟩
  obtain ⟨J, a3, Q, N, T⟩ := hX M
  rw [Q] at a
  refine bg (Wh l (Wa (ln (gH ?_))))
  replace d := d.drew
  have b := d.has.gq Sn
  refine iy b gW (X 0 rfl b (gy j) (X 1 rfl b (gy rfl) (XQ 2 rfl b (iZ (enc := gn) (i := (I : Int)) (x0 := J) aO ae rfl rfl c (aj _) N) (fun Y G => XH 3 rfl b (fun _ n => gu rfl (jM n G ah ae)) (X 4 rfl b (gy k) (X 5 rfl b (gy rfl) (bS a fun B x a => XQ 6 rfl b (iZ (enc := gn) (i := (I : Int)) (x0 := B) aO ae rfl rfl z (iD x) (hZ x)) (fun Z H => XH 7 rfl b (fun _ n => gu rfl (jM n H ah ae)) (X 8 rfl b (za rfl rfl (jw ck) (vJ (jZ _ J B))) (iI kr (gC (CI a rfl (fun D a => ?_) (fun D a => ?_)))))))))))))
  ·refine sg (Wa (lt (jU (iv (jU (iv ?_))))))
   obtain rfl := sj a
   exact rP d
  exact ic (gU (gC ⟨l, _, ⟨rfl, o⟩, (d.gq St), j, k, (by rw [T]; exact a)⟩))
 rintro E W ⟨g, ⟨l, o⟩, d, j, k, a⟩
 rw [au] at a
 exact gC (sg (Wa (lt (rQ a d))))
theorem vt (t : Value) (U : List gm) (r : Bool) (w : World) (I : Sl (Pl gp) 9 (hp w) t U) (hm : nL U = some r) :
  iC false pg0 3 [t] w (.bool r) := by
 refine cG 77 func3 rfl (fun d => sg (Wa (lS (bS hm fun r1 g9 hm => VE (Eg d call10 (yJ  _ _  g9) (fun W3 d => V (mZ rfl) (ln (CI hm rfl (fun g6 hm => ?_) (fun g6 hm => ?_)))))))))
 ·refine sg (Wa (lt (iv ?_)))
  obtain rfl := sj hm
  exact rP d
 refine kS (Wm (bS hm fun r5 h0 hm => VE (Eg d call11 (iC.kC (yW t U _ _ (I.mono (Pl.mono _) d.iG) h0)) (fun W7 d => Wi rfl (ln (CI hm rfl (fun g7 hm => ?_) (fun g7 hm => ?_)))))))
 ·refine sg (Wa (lt (iv ?_)))
  obtain rfl := sj hm
  exact rP d
 refine kg (Wm (bS hm fun L f8 hm => VE (lB d call12 (ph t U _ _ (I.mono (Pl.mono _) d.iG) f8) (fun j5 f1 j9 e9 d K ao N => Wm (bS hm fun h1 f9 hm => VE (lB d call13 (iz.kC (sL t U _ _ (I.mono (Pl.mono _) (K.trans d.iG)) f9)) (fun j6 f2 q f0 d Z av z => Wa (Wa (ln (gH ?_))))))))))
 refine sg (Wm (V (iu bd rfl N) (Wm (V (iu bd rfl z) (Wi rfl (ln (CI hm rfl (fun f7 hm => ?_) (fun f7 hm => ?_))))))))
 ·refine sg (Wa (ln ?_))
  replace d := d.gq (Dr (Dr St))
  refine iq (iv ?_)
  obtain rfl := sj hm
  exact rP d
 refine kg (V (ko (v := (.agg (gw K8).toArray)) vm (jq bE bK (zM _ bK) kr)) (VE (iw d bE (fun j7 s d => VO (gO (.agg (gw K8).toArray) ((gw K8).toArray) d rfl rfl aU (jO K8) nb rfl (fun j8 d => lS (Wm (V (iu bd rfl N) (Wm ?_)))))))))
 refine ln (im (fun i E W => ∃ B a9, (E 26 = .int .i64 (i : Nat) ∧ E 25 = .int .i64 (L.length : Nat)) ∧ ST false gN w W q ((s, Ol (gw B) 30) :: (f0 ++ (e9 ++ a9))) ∧ E 0 = t ∧ E 3 = f1 ∧ E 4 = f2 ∧ E 5 = (.pointer (some ⟨s, 0, none⟩)) ∧ iT h1 U (L.drop i) i B = some r) L.length N.len ⟨K8, _, ⟨rfl, rfl⟩, (d.gq St), rfl, rfl, rfl, rfl, hm⟩ dc dc dc (fun _ _ _ h => by obtain ⟨_, _, ab, _⟩ := h; exact ab) ?_ ?_)
 ·rintro J E W d5 ⟨B, a9, ⟨A, eN⟩, d, G, Y, H, M, c⟩
  obtain ⟨c9, h2, e7, b5, b6⟩ := hX d5
  rw [e7] at c
  refine bg (Wh A (Wa (ln (gH (gH ?_)))))
  replace d := d.drew
  have l := d.has.gq (Db (Kr (Kr Sn)))
  refine iy l gW (X 0 rfl l (gy Y) (X 1 rfl l (gy rfl) (XQ 2 rfl l (ie (i := (J : Int)) (x0 := c9) bd aU rfl rfl N (aj _) b5) (fun i3 d8 => XH 3 rfl l (fun _ n => gu rfl (je n (fun p m => (Ma (Ml m))) N kV d8 b5 cU aU)) (X 4 rfl l (gy H) (X 5 rfl l (gy rfl) (bS c fun d0 O c => XQ 6 rfl l (ie (i := (J : Int)) (x0 := d0) bd aU rfl rfl z (iD O) (hZ O)) (fun i4 d9 => XH 7 rfl l (fun _ n => gu rfl (je n (fun p m => (Ml m)) z kV d9 (hZ O) cU aU)) (X 8 rfl l (za rfl rfl (jw eqGuardType30) (vJ (ue _ c9 d0))) (iI kr (gC (CI c rfl (fun d3 c => ?_) (fun d3 c => ?_)))))))))))))
  ·refine sg (Wa (ln ?_))
   replace d := d.gq (Db (Dr (Dr St)))
   refine iq (iv (jU (iv (jU (iv ?_)))))
   obtain rfl := sj c
   exact rP d
  refine kn (gH ?_)
  replace d := d.drew
  have l := d.has.gq (Kb (Kr Sn))
  refine iy l gW (X 0 rfl l (gy rfl) (X 1 rfl l (iX rfl rfl rfl) (X 2 rfl l (gy rfl) (PJ c (fun c6 E W => ∃ b7, ST false gN w W q ((s, Ol (gw B) 30) :: (f0 ++ (e9 ++ b7))) ∧ E 0 = t ∧ E 3 = f1 ∧ E 4 = f2 ∧ E 5 = (.pointer (some ⟨s, 0, none⟩)) ∧ E 6 = (.int .i64 (J : Int)) ∧ E 25 = (.int .i64 (L.length : Int)) ∧ E 26 = (.int .i64 (J : Int)) ∧ E 49 = (.bool c6)) (bm 12 4095) 0 ?_ (fun c6 x a5 => ?_)))))
  ·rintro i9 E W ⟨b7, d, c0, c1, P, R, f3, c2, c3, f4⟩ u
   refine iI kr (gC (CI u f4 (fun d4 u => ?_) (fun d4 u => ?_)))
   ·exact gE (Wh P (Wh f3 (bS u fun T a2 u => VQ (ie (i := (J : Int)) (x0 := T) bd aU rfl rfl z (iD a2) (hZ a2)) (fun i5 e0 => V (gu rfl (je d.has (fun p m => (Mt (Ml m))) z kV e0 (hZ a2) cU aU)) (VO (gO (.agg (gw T).toArray) ((gw T).toArray) d R rfl aU (jO T) nb rfl (fun h5 d => gM (gU (gC ⟨c3, T, _, ⟨rfl, c2⟩, (d.gq St), c0, c1, P, R, (by rw [b6]; exact u)⟩)))))))))
   exact ic (gU (gC ⟨c3, B, _, ⟨rfl, c2⟩, (d.gq St), c0, c1, P, R, (by rw [b6]; exact u)⟩))
  refine bC x (fun a x => ?_) (fun a x => ?_)
  ·refine Xn 3 rfl rfl (cB a) l (Xn 4 rfl rfl (cB a) l (Xn 5 rfl rfl (cB a) l (Xn 6 rfl rfl (cB a) l (Xn 7 rfl rfl (cB a) l (Xn 8 rfl rfl (cB a) l (Xn 9 rfl rfl (cB a) l (Xn 10 rfl rfl (cB a) l (X 11 rfl l (gK (cB a) rfl) ?_))))))))
   obtain rfl := sj x
   refine iH kr (a5 _ _ ⟨_, (d.gq St), G, Y, H, M, rfl, eN, A, rfl⟩)
  refine Xg 3 rfl rfl (cB a) l (gy H) (Xg 4 rfl rfl (cB a) l (gy rfl) (bS x fun b2 a3 x => um 5 rfl kr (.inr ⟨2, false, 40, rfl, rfl, by decide, (cB a)⟩) rfl dc (fun _ _ h => h) l (ie (i := (J : Int)) (x0 := b2) bd aU rfl rfl z (iD a3) (hZ a3)) (fun i6 e1 => um 6 rfl kr (.inr ⟨2, false, 40, rfl, rfl, by decide, (cB a)⟩) rfl dc (fun _ _ h => h) l (rB [(.int .i64 b2.jg)] oR rfl (tE.at z kV e1 (hZ a3)) rfl) (fun i7 e2 => nn 7 rfl rfl (cB a) l (fun _ n => gu rfl (kT (mu.hp _) (y := (.int .i64 b2.jg)) (e2.mono (pt (fun b o m => n.2 b o (Mt (Ml m))))) bj)) (Xg 8 rfl rfl (cB a) l (gA oR M) (nn 9 rfl rfl (cB a) l (fun _ n => gu rfl (gL n Mh rfl bj)) (Xg 10 rfl rfl (cB a) l (iX rfl rfl rfl) (X 11 rfl l (gJ (cB a) rfl) ?_))))))))
  obtain rfl := sj x
  refine iH kr (a5 _ _ ⟨_, (d.gq St), G, Y, H, M, rfl, eN, A, rfl⟩)
 rintro E W ⟨B, a9, ⟨A, eN⟩, d, G, Y, H, M, c⟩
 rw [au] at c
 refine gC ?_
 replace d := d.gq (Kb (Kr (Dr St)))
 refine sg (Wh G (bS c fun Q e3 c => VE (Eg d call14 (si t U _ _ (I.mono (Pl.mono _) ((K.trans Z).trans d.iG)) e3) (fun h6 d => Wm (Wx rfl (Wx rfl (VE (iw d bE (fun h7 i2 d => VO (gO (.agg (gw Q.1).toArray) ((gw Q.1).toArray) d rfl rfl aU (jO Q.1) nb rfl (fun h8 d => Wa (lr ?_))))))))))))
 refine VA d Mh (gw Q.1) cU aU (V (gu M (gD d.has (Mt Mh) (gw B) rfl cU aU)) (V (od rfl rfl (jw eqGuardType30) (lR (ue _ Q.1 B))) (Wm (LJ c (fun c8 E W => ∃ b8, ST false gN w W q b8 ∧ E 0 = t ∧ E 69 = (.bool c8)) 6 ?_ (fun c8 D a7 => ?_)))))
 ·rintro j0 E W ⟨b8, d, c4, f5⟩ d6
  refine Wh f5 (LJ d6 (fun c7 E W => ∃ b3 b9, ig q b3 ∧ ST false gN w W b3 b9 ∧ E 76 = (.bool c7)) 6 ?_ (fun c7 k a6 => ?_))
  ·rintro j3 E W ⟨b3, b9, g8, d, f6⟩ d7
   exact Wg f6 (lt (rQ d7 d))
  refine bC k (fun j k => ?_) (fun j k => ?_)
  ·refine ug j (gy c4) (bS k fun g0 e4 k => oM j (lB d call16 (qh t U _ _ (I.mono (Pl.mono _) ((K.trans Z).trans d.iG)) e4) (fun h9 g2 j4 h3 d a4 ad d1 => ug j (gy c4) (bS k fun g1 e5 k => oM j (lB d call17 (iz.kC (wU t U _ _ (I.mono (Pl.mono _) (((K.trans Z).trans a4).trans d.iG)) e5)) (fun i0 g3 g5 h4 d c5 af d2 => bS k fun i8 e6 k => oM j (Eg d call15 (iC.kC (zm g2 g0 g3 g1 _ _ (d1.sl kP (fun b o m => d.at_ (Ma (Ml m)))) (d2.sl kP (fun b o m => d.at_ (Ml m))) e6)) (fun i1 d => V (gK (cB j) rfl) ?_))))))))
   obtain rfl := sj k
   exact a6 _ _ ⟨g5, _, (a4.trans c5), (d.gq (Dr (Dr St))), rfl⟩
  refine un j (un j (un j (un j (un j (V (gJ (cB j) rfl) ?_)))))
  obtain rfl := sj k
  exact a6 _ _ ⟨q, _, (ig.refl _), (d.gq St), rfl⟩
 refine bC D (fun g D => ?_) (fun g D => ?_)
 ·refine ug g (gy rfl) (ug g (gy H) (ug g (iu bd rfl z) (ug g (iX rfl rfl rfl) (ug g (En underlying4 rfl rfl rfl) (V (gK (cB g) rfl) ?_)))))
  obtain rfl := sj D
  exact a7 _ _ ⟨_, (d.gq (Db (Db (Dr St)))), G, rfl⟩
 refine un g (un g (un g (un g (un g (V (gJ (cB g) rfl) ?_)))))
 obtain rfl := sj D
 exact a7 _ _ ⟨_, (d.gq (Db (Db (Dr St)))), G, rfl⟩
end Go.Proofs.YtbnbdigcbldfhaaGreat
