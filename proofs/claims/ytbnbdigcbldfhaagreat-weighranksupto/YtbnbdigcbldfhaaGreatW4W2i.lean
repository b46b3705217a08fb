/- a part of a proof of WeighRanks -/
import Derived.Test.YtbnbdigcbldfhaaGreatW4W1i
set_option linter.all false
namespace Go.Proofs.YtbnbdigcbldfhaaGreat
open Go.Proofs.Tryz renaming prog → pg0
open Go.RowKit
set_option maxRecDepth 10000
open Tryz
theorem Ah (x : Value) (a0 r : List ByteArray) (w : World) (b9 : Sl (Pl iQ) 1 (hp w) x a0) (hm : qT a0 = some r) :
  iS true pg0 131 [x] w 9 iQ 1 r := by
 refine qH 48 func131 rfl (fun b => sg (Wa (lr (Wa (ln (ou (jl (mc (fun m E W => ∃ u a2 j c0, ST true ia w W (hp w) (j ++ c0) ∧ E 0 = x ∧ E 3 = u ∧ gM 9 iQ 1 u a2 j ∧ nc a0 m a2 = some r) jg ⟨(.slice none 0 0), ([]), [], _, (b.gy St), rfl, rfl, (gM.nil _ _ _), hm⟩ ?_))))))))
 rintro m E W ⟨u, a2, j, c0, b, c6, f5, G, Z⟩
 cases m with
 | zero => rw [nc] at Z; cases Z
 | succ i0 =>
  refine bg (Wa (lS (Wh c6 (V (lB aB rfl b9) (Wm (ln (CJ Z (fun b7 E W => ∃ c1, ST true ia w W (hp w) (j ++ c1) ∧ E 0 = x ∧ E 3 = u ∧ E 4 = (.string b7)) (fun b7 e4 => ?_) ?_)))))))
  ·refine iL (fun i E W => ∃ z q, (E 9 = .int .i64 (i : Nat) ∧ E 8 = .int .i64 (a0.length : Nat)) ∧ ST true ia w W (hp w) (j ++ q) ∧ E 0 = x ∧ E 3 = u ∧ E 4 = (.string z) ∧ E 7 = x ∧ lZ a2 (a0.drop i) z = some b7) a0.length b9.len ⟨zS, _, ⟨rfl, rfl⟩, (b.gy St), c6, f5, rfl, rfl, e4⟩ dc dc dc (fun _ _ _ h => by obtain ⟨_, _, a6, _⟩ := h; exact a6) ?_ ?_
   ·rintro d E W e3 ⟨z, q, ⟨n, o⟩, b, Q, H, T, U, t⟩
    obtain ⟨I, i4, f2, f1, b8⟩ := iB e3
    rw [f2] at t
    refine bg (VQ (jL (enc := iQ) (i := (d : Int)) (x0 := I) aB bQ U n b9 (ay _) f1) (fun i8 e8 => V (gA rfl (kI b.has (y := (.string I)) e8 aF)) (Wa (lr (Wm (bS t fun i1 f0 t => VE (Eg b call138 (oI I _ _  f0) (fun i7 b => Wm (LJ t (fun d6 E W => ∃ c2, ST true ia w W (hp w) (j ++ c2) ∧ E 0 = x ∧ E 3 = u ∧ E 4 = (.string z) ∧ E 6 = (.string I) ∧ E 7 = x ∧ E 8 = (.int .i64 (a0.length : Int)) ∧ E 9 = (.int .i64 (d : Int)) ∧ E 29 = (.bool d6)) 14 ?_ (fun d6 N a9 => ?_))))))))))
    ·rintro i3 E W ⟨c2, b, s, A, Y, a3, L, O, P, f7⟩ e5
     refine Wh f7 (LJ e5 (fun d4 E W => ∃ c3, ST true ia w W (hp w) (j ++ c3) ∧ E 0 = x ∧ E 3 = u ∧ E 4 = (.string z) ∧ E 6 = (.string I) ∧ E 7 = x ∧ E 8 = (.int .i64 (a0.length : Int)) ∧ E 9 = (.int .i64 (d : Int)) ∧ E 38 = (.bool d4)) 8 ?_ (fun d4 K a7 => ?_))
     ·rintro j0 E W ⟨c3, b, c9, d0, f8, f9, d1, d2, d3, g0⟩ J
      refine ln (CI J g0 (fun e2 J => ?_) (fun e2 J => ?_))
      ·exact gJ (Wh f9 (Wa (gT (im (gI ⟨d3, I, _, ⟨rfl, d2⟩, (b.gy St), c9, d0, rfl, d1, (by rw [b8]; exact J)⟩)))))
      exact iv (im (gI ⟨d3, z, _, ⟨rfl, d2⟩, (b.gy St), c9, d0, f8, d1, (by rw [b8]; exact J)⟩))
     refine bC K (fun g K => ?_) (fun g K => ?_)
     ·refine ug g (gF Y) (ug g (mr rfl rfl rfl) (ug g (gF rfl) (LJ K (fun d5 E W => ∃ c4, ST true ia w W (hp w) (j ++ c4) ∧ E 0 = x ∧ E 3 = u ∧ E 4 = (.string z) ∧ E 6 = (.string I) ∧ E 7 = x ∧ E 8 = (.int .i64 (a0.length : Int)) ∧ E 9 = (.int .i64 (d : Int)) ∧ E 30 = (.bool i3) ∧ E 37 = (.bool d5)) 4 ?_ (fun d5 M a8 => ?_))))
      ·rintro j3 E W ⟨c4, b, g1, g2, g3, g4, g5, g6, g7, g8, g9⟩ e6
       refine V (gQ (g8.trans (cB g)) g9) ?_
       obtain rfl := sj e6
       exact a7 _ _ ⟨_, (b.gy St), g1, g2, g3, g4, g5, g6, g7, rfl⟩
      refine bC M (fun k M => ?_) (fun k M => ?_)
      ·refine un k (un k (un k (ug g (gQ (cB k) rfl) ?_)))
       obtain rfl := sj M
       exact a8 _ _ ⟨_, (b.gy St), s, A, Y, a3, L, O, P, rfl, rfl⟩
      refine ug k (gF a3) (ug k (gF Y) (ug k (mr rfl rfl rfl) (ug g (gP (cB k) rfl) ?_)))
      obtain rfl := sj M
      exact a8 _ _ ⟨_, (b.gy St), s, A, Y, a3, L, O, P, rfl, rfl⟩
     refine un g (un g (un g (Vu rfl rfl (Vu rfl rfl (Vu rfl rfl (un g (V (gP (cB g) rfl) ?_)))))))
     obtain rfl := sj K
     exact a7 _ _ ⟨_, (b.gy St), s, A, Y, a3, L, O, P, rfl⟩
    refine bC N (fun c N => ?_) (fun c N => ?_)
    ·refine ug c (gF H) (ug c (jf aB rfl G) (ug c (jm rfl rfl rfl) (ug c (gF rfl) (LJ N (fun d7 E W => ∃ c5, ST true ia w W (hp w) (j ++ c5) ∧ E 0 = x ∧ E 3 = u ∧ E 4 = (.string z) ∧ E 6 = (.string I) ∧ E 7 = x ∧ E 8 = (.int .i64 (a0.length : Int)) ∧ E 9 = (.int .i64 (d : Int)) ∧ E 15 = (.bool i1) ∧ E 28 = (.bool d7)) 9 ?_ (fun d7 D b0 => ?_)))))
     ·rintro j4 E W ⟨c5, b, h0, h1, h2, h3, h4, h5, h6, h7, h8⟩ e7
      refine V (gQ (h7.trans (cB c)) h8) ?_
      obtain rfl := sj e7
      exact a9 _ _ ⟨_, (b.gy St), h0, h1, h2, h3, h4, h5, h6, rfl⟩
     refine bC D (fun a D => ?_) (fun a D => ?_)
     ·refine un a (un a (un a (un a (un a (un a (un a (un a (ug c (gQ (cB a) rfl) ?_))))))))
      obtain rfl := sj D
      exact b0 _ _ ⟨_, (b.gy St), Q, H, T, rfl, U, o, n, rfl, rfl⟩
     refine ug a (gF rfl) (ug a (gF H) (ug a (gF H) (ug a (jf aB rfl G) (ug a (jm rfl rfl rfl) (bS D fun d8 a5 D => Ft a (iW (i := (IntKind.i64.wrap ((a2.length : Int) - 1))) (x0 := d8) aB bQ rfl rfl G (jk a5) (iF a5)) (fun i9 e9 => ug a (gA rfl (oD b.has (fun p hq => (Ml hq)) G (fun _ => rfl) e9 (iF a5) (y := (.string d8)) rfl aF)) (ug a (mr rfl rfl rfl) (ug c (gP (cB a) rfl) ?_))))))))
     obtain rfl := sj D
     exact b0 _ _ ⟨_, (b.gy St), Q, H, T, rfl, U, o, n, rfl, rfl⟩
    refine un c (un c (un c (un c (Vu rfl rfl (Vu rfl rfl (Vu rfl rfl (Vu rfl rfl (Vu rfl rfl (Vu rfl rfl (Vu rfl rfl (Vu rfl rfl (un c (V (gP (cB c) rfl) ?_)))))))))))))
    obtain rfl := sj N
    exact a9 _ _ ⟨_, (b.gy St), Q, H, T, rfl, U, o, n, rfl⟩
   rintro E W ⟨z, q, ⟨n, o⟩, b, Q, H, T, U, t⟩
   rw [aI] at t
   refine gI ?_
   obtain rfl := sj t
   exact ⟨_, (b.gy St), Q, H, T⟩
  rintro a4 E W ⟨c1, b, f6, c7, c8⟩ B
  refine gO (sg (Wh c8 (V (mr rfl rfl rfl) (ln (CI B rfl (fun e0 B => ?_) (fun e0 B => ?_))))))
  ·refine sg (Wh c7 (Wa (lt (iw (ko (iw (ko (iw ?_))))))))
   obtain rfl := sj B
   exact iC (v := u) rfl rfl ⟨_, j, rfl, b.kp (fun p hq => (Ml hq)) G.nd, G⟩
  refine kn (gJ (Wh c7 (Wh c8 (VE (ig (cs := [(.string a4)].toArray) b (lk rfl) (kz aB bQ fl) (fun i5 f4 b => ?_))))))
  replace b := b.perm (Nr (Qb Qz) Nz)
  refine bS B fun h9 e1 B => VE (jJ (enc := iQ) (v := u) (vs := (.slice (some ⟨f4, 0, none⟩) 1 1)) (R := j) b (fun _ => rfl) dc uP aB nW.1 nW.2.1 rfl nW.2.2.1 nW.2.2.2 rfl rfl G (Sl.lit (enc := iQ) (l := [a4]) (fun _ => rfl) rfl nb rfl (b.at_ (Ma Mh))) e1 (fun i6 i2 f3 b d9 => Wa (gT (im (gI ?_)))))
  replace b := b.gy (Kr (Db St))
  exact ⟨i0, bl _, i2, h9, f3, _, (b.gy St), f6, rfl, d9, B⟩
theorem yq (B : Value) (G : List gu) (r : List ByteArray) (w : World) (y : Sl (Pl gv) 9 (hp w) B G) (hm : nv G = some r) :
  iS true pg0 64 [B] w 9 iQ 1 r := by
 refine qH 29 func64 rfl (fun d => sg (Wa (lr (Wa (lS (Wm ?_))))))
 refine V (lB aj rfl y) (Wm (ln (iL (fun i E W => ∃ g k j t, (E 8 = .int .i64 (i : Nat) ∧ E 7 = .int .i64 (G.length : Nat)) ∧ ST true ia w W (hp w) (j ++ t) ∧ E 3 = g ∧ E 6 = B ∧ gM 9 iQ 1 g k j ∧ mg (G.drop i) k = some r) G.length y.len ⟨(.slice none 0 0), ([]), [], _, ⟨rfl, rfl⟩, (d.gy St), rfl, rfl, (gM.nil _ _ _), hm⟩ dc dc dc (fun _ _ _ h => by obtain ⟨_, _, _, _, n, _⟩ := h; exact n) ?_ ?_)))
 ·rintro a5 E W T ⟨g, k, j, t, ⟨m, A⟩, d, u, x, z, c⟩
  obtain ⟨a, b4, Y, U, Z⟩ := iB T
  rw [Y] at c
  refine bg (VQ (jL (enc := gv) (i := (a5 : Int)) (x0 := a) aj ae x m y (ay _) U) (fun b2 J => V (gA rfl (lI d.has J aN ae)) (VE (iZ d aT (fun O b1 d => VO (ib (.agg (gv a).toArray) ((gv a).toArray) d rfl rfl ae (jF a) nb rfl (fun P d => ln (gJ (Wh u (Wf mB (VB d Mh rfl rfl aF (Wf jT (Wf jY ?_)))))))))))))
  refine VB d Mh rfl rfl aF (Wf iM (Wf jY (VB d Mh rfl rfl aF (Wf kD (Wf jY (VB d Mh rfl rfl aF (VE (ig (cs := #[(.string a.gU), (.string a.Head.gG), (.string a.B.gG), (.string a.C.gG)]) d (yP rfl rfl rfl rfl) (kz aB bQ fl) (fun a8 Q d => ?_)))))))))
  replace d := d.perm (Nr (Qb (Qb Qz)) Nz)
  refine bS c fun L I c => VE (jJ (enc := iQ) (v := g) (vs := (.slice (some ⟨Q, 0, none⟩) 4 4)) (R := j) d (fun _ => rfl) dc uP aB nW.1 nW.2.1 rfl nW.2.2.1 nW.2.2.2 rfl rfl z (Sl.lit (enc := iQ) (l := [a.gU, a.Head.gG, a.B.gG, a.C.gG]) (fun _ => rfl) rfl nb rfl (d.at_ (Ma Mh))) I (fun a9 a2 M d H => Wa (gT (im (gI ?_)))))
  replace d := d.gy (Kr (Db (Db St)))
  exact ⟨m, a2, L, M, _, ⟨rfl, A⟩, (d.gy St), rfl, x, H, (by rw [Z]; exact c)⟩
 rintro E W ⟨g, k, j, t, ⟨m, A⟩, d, u, x, z, c⟩
 rw [aI] at c
 refine gI (sg (Wh u (bS c fun b3 K c => VE (nU d call131 (Ah g k _ _ (z.sl (fun _ => rfl) (fun b o s => d.at_ (Ml s))) K) (fun b0 a3 b5 N d a4 q D => Wa (ln ?_))))))
 replace d := d.gy (Kr (Dr St))
 refine iq ?_
 obtain rfl := sj c
 exact iC (v := a3) rfl rfl ⟨_, N, rfl, d.kp (fun p s => (Ml s)) D.nd, D⟩
theorem nA (y : Value) (H : List gx) (z : gr) (J : ByteArray) (r : Bool) (w : World) (G : Sl (Pl gL) 3 (hp w) y H) (hm : kX H z J = some r) :
  iA true pg0 63 [y, (.agg (gw z).toArray), (.string J)] w (.bool r) := by
 refine cG 26 func63 rfl (fun b => sg (VE (iO b rfl (fun W2 M b => Wa (lS (Wm (V (lB bK rfl G) (Wm (ln ?_)))))))))
 refine iL (fun i E W => ∃ D, (E 11 = .int .i64 (i : Nat) ∧ E 10 = .int .i64 (H.length : Nat)) ∧ ST true ia w W (hp w) ((M, Ol (gw z) 28) :: D) ∧ E 2 = (.string J) ∧ E 4 = (.pointer (some ⟨M, 0, none⟩)) ∧ E 9 = y ∧ oM z J (H.drop i) = some r) H.length G.len ⟨_, ⟨rfl, rfl⟩, (b.gy St), rfl, rfl, rfl, hm⟩ dc dc dc (fun _ _ _ h => by obtain ⟨_, l, _⟩ := h; exact l) ?_ ?_
 ·rintro T E W n ⟨D, ⟨d, m⟩, b, t, u, x, c⟩
  obtain ⟨k, O, p, o, a9⟩ := iB n
  rw [p] at c
  refine bg (VQ (jL (enc := gL) (i := (T : Int)) (x0 := k) bK cD x d G (ay _) o) (fun A Q => V (gA rfl (lI b.has Q fM cD)) (VE (iZ b cM (fun q v b => VO (ib (.agg (gL k).toArray) ((gL k).toArray) b rfl rfl cD (qM k) nb rfl (fun s b => lr (Wf sn (VA b Mh (gw k.gr) au ag (V (gA u (gK b.has (Mt Mh) (gw z) rfl au ag)) (V (qU rfl rfl (ms dT) (oV (mI _ k.gr z))) ?_)))))))))))
  refine Wm (LJ c (fun K E W => ∃ I, ST true ia w W (hp w) ((M, Ol (gw z) 28) :: I) ∧ E 2 = (.string J) ∧ E 4 = (.pointer (some ⟨M, 0, none⟩)) ∧ E 9 = y ∧ E 10 = (.int .i64 (H.length : Int)) ∧ E 11 = (.int .i64 (T : Int)) ∧ E 24 = (.bool K)) 5 ?_ (fun K j B => ?_))
  ·rintro L E W ⟨I, b, U, Y, Z, a3, a4, a5⟩ g
   refine ln (CI g a5 (fun N g => ?_) (fun N g => ?_))
   ·refine sg (Wa (ln ?_))
    replace b := b.gy (Db St)
    refine iq (ko (iw (ko (iw ?_))))
    obtain rfl := sj g
    exact rP b
   exact iv (im (gI ⟨a4, _, ⟨rfl, a3⟩, (b.gy St), U, Y, Z, (by rw [a9]; exact g)⟩))
  refine bC j (fun a j => ?_) (fun a j => ?_)
  ·refine ug a (gE qE rfl) (ug a (gA rfl (gN b.has Mh rfl aF)) (ug a (gF t) (ug a (mr rfl rfl rfl) (V (gQ (cB a) rfl) ?_))))
   obtain rfl := sj j
   exact B _ _ ⟨_, (b.gy (Db St)), t, u, x, m, d, rfl⟩
  refine un a (un a (un a (un a (V (gP (cB a) rfl) ?_))))
  obtain rfl := sj j
  exact B _ _ ⟨_, (b.gy (Db St)), t, u, x, m, d, rfl⟩
 rintro E W ⟨D, ⟨d, m⟩, b, t, u, x, c⟩
 rw [aI] at c
 refine gI ?_
 replace b := b.gy (Db St)
 exact sg (Wa (lt (rQ c b)))
theorem y6 (k : Value) (M : List gx) (t : gu) (K : Value) (Y : List ByteArray) (H : ByteArray) (r : Bool) (w : World) (G : Sl (Pl gL) 3 (hp w) k M) (T : Sl (Pl iQ) 1 (hp w) K Y) (hm : oe M t Y H = some r) :
  iA true pg0 65 [k, (.agg (gv t).toArray), K, (.string H)] w (.bool r) := by
 refine cG 62 func65 rfl (fun b => sg (VE (iO b rfl (fun W2 d b => Wa (lS (Wf jN (VB b Mh rfl rfl bI (Wi rfl (ln ?_)))))))))
 refine CI hm rfl (fun c9 hm => ?_) (fun c9 hm => ?_)
 ·refine sg (Wf mB (VB b Mh rfl rfl aF (Wm (V (mr rfl rfl rfl) (Wa (ln ?_))))))
  replace b := b.gy (Db St)
  refine iq (iw ?_)
  obtain rfl := sj hm
  exact rP b
 refine kS (Wf jN (VB b Mh rfl rfl bI (Wi rfl (ln (CI hm rfl (fun d0 hm => ?_) (fun d0 hm => ?_))))))
 ·refine sg (Wm (Wf iM (VA b Mh (gw t.B) au ag (Wm (bS hm fun r5 d2 hm => VE (Eg b call63 (nA k M t.B H _ _ (G.mono (Pl.mono _) b.iH) d2) (fun W7 b => Wa (ln ?_))))))))
  replace b := b.gy (Db St)
  refine iq (iw ?_)
  obtain rfl := sj hm
  exact rP b
 refine kS (Wf jN (VB b Mh rfl rfl bI (Wi rfl (ln (CI hm rfl (fun d1 hm => ?_) (fun d1 hm => ?_))))))
 ·refine sg (Wm (Wf iM (VA b Mh (gw t.B) au ag (Wm (bS hm fun r9 c6 hm => VE (Eg b call63 (nA k M t.B H _ _ (G.mono (Pl.mono _) b.iH) c6) (fun e0 b => Wm (LJ hm (fun p E W => ∃ o, ST true ia w W (hp w) o ∧ E 8 = (.bool false) ∧ E 40 = (.bool p)) 6 ?_ (fun p u U => ?_)))))))))
  ·rintro e4 E W ⟨o, b, e2, c8⟩ c5
   refine Wg c8 (lt (iw ?_))
   obtain rfl := sj c5
   exact rP b
  refine bC u (fun c u => ?_) (fun c u => ?_)
  ·refine ug c (gF rfl) (ug c (gE kD rfl) (ug c (gA rfl (gK b.has Mh (gw t.C) rfl au ag)) (ug c (gF rfl) (bS u fun e3 c7 u => oK c (Eg b call63 (nA k M t.C H _ _ (G.mono (Pl.mono _) b.iH) c7) (fun e1 b => V (gQ (cB c) rfl) ?_))))))
   obtain rfl := sj u
   exact U _ _ ⟨_, (b.gy (Db St)), rfl, rfl⟩
  refine un c (un c (un c (un c (un c (V (gP (cB c) rfl) ?_)))))
  obtain rfl := sj u
  exact U _ _ ⟨_, (b.gy (Db St)), rfl, rfl⟩
 refine kS (Wm (V (lB aB rfl T) (Wm (ln (iL (fun i E W => ∃ Q, (E 43 = .int .i64 (i : Nat) ∧ E 42 = .int .i64 (Y.length : Nat)) ∧ ST true ia w W (hp w) ((d, Ol (gv t) 108) :: Q) ∧ E 0 = k ∧ E 3 = (.string H) ∧ E 5 = (.pointer (some ⟨d, 0, none⟩)) ∧ E 41 = K ∧ nG M t H (Y.drop i) = some r) Y.length T.len ⟨_, ⟨rfl, rfl⟩, (b.gy St), rfl, rfl, rfl, rfl, hm⟩ dc dc dc (fun _ _ _ h => by obtain ⟨_, m, _⟩ := h; exact m) ?_ ?_)))))
 ·rintro a4 E W s ⟨Q, ⟨l, n⟩, b, B, I, D, J, g⟩
  obtain ⟨z, d3, P, O, R⟩ := iB s
  rw [P] at g
  refine bg (VQ (jL (enc := iQ) (i := (a4 : Int)) (x0 := z) aB bQ J l T (ay _) O) (fun d6 a9 => V (gA rfl (kI b.has (y := (.string z)) a9 aF)) (Wa (lr (Wh B (V (gE iM D) (VA b Mh (gw t.B) au ag (Wm (bS g fun d7 A g => ?_)))))))))
  refine VE (Eg b call63 (nA k M t.B z _ _ (G.mono (Pl.mono _) b.iH) A) (fun d4 b => Wm (LJ g (fun a5 E W => ∃ Z, ST true ia w W (hp w) ((d, Ol (gv t) 108) :: Z) ∧ E 0 = k ∧ E 3 = (.string H) ∧ E 5 = (.pointer (some ⟨d, 0, none⟩)) ∧ E 41 = K ∧ E 42 = (.int .i64 (Y.length : Int)) ∧ E 43 = (.int .i64 (a4 : Int)) ∧ E 60 = (.bool a5)) 8 ?_ (fun a5 j N => ?_))))
  ·rintro d9 E W ⟨Z, b, b8, b9, c0, c1, c2, c3, c4⟩ x
   refine ln (CI x c4 (fun q x => ?_) (fun q x => ?_))
   ·refine sg (Wa (ln ?_))
    replace b := b.gy (Db St)
    refine iq (ko (iw (ko (iw ?_))))
    obtain rfl := sj x
    exact rP b
   exact iv (im (gI ⟨c3, _, ⟨rfl, c2⟩, (b.gy St), b8, b9, c0, c1, (by rw [R]; exact x)⟩))
  refine bC j (fun a j => ?_) (fun a j => ?_)
  ·refine ug a (gF B) (ug a (gF rfl) (ug a (gE ma D) (ug a (gA rfl (gN b.has Mh rfl aF)) (ug a (kO (v := (.agg (gw (⟨z, t.gY⟩ : gr)).toArray)) (nC rfl rfl) (jH cw bt (zw _ bt) kr)) (ug a (gF I) (bS j fun d8 L j => oK a (Eg b call63 (nA k M (⟨z, t.gY⟩ : gr) H _ _ (G.mono (Pl.mono _) b.iH) L) (fun d5 b => V (gQ (cB a) rfl) ?_))))))))
   obtain rfl := sj j
   exact N _ _ ⟨_, (b.gy St), B, I, D, J, n, l, rfl⟩
  refine un a (un a (un a (un a (un a (un a (un a (V (gP (cB a) rfl) ?_)))))))
  obtain rfl := sj j
  exact N _ _ ⟨_, (b.gy St), B, I, D, J, n, l, rfl⟩
 rintro E W ⟨Q, ⟨l, n⟩, b, B, I, D, J, g⟩
 rw [aI] at g
 refine gI ?_
 replace b := b.gy (Db St)
 exact sg (Wa (lt (rQ g b)))
set_option maxHeartbeats 4000000 in
theorem tj (j3 : Value) (a0 : List gu) (r : List (List gx)) (w : World) {μ0 : gS} (h0 : pb μ0 [] w) (p1 : Sl (Pl gv) 9 μ0 j3 a0) (hm : mh a0 = some r) :
  oQ true pg0 21 [j3] w μ0 [] (fun v L1 μ1 => ∃ y1, v = y1 ∧ L1 = [] ∧ Sl (xl gL 3) 1 μ1 y1 (r)) := by
 refine F3 h0 69 func21 rfl (fun d => sg (Wa (lr (Wm (bS hm fun r1 q8 hm => VE (nU d call23 (zX j3 a0 _ _ (p1.mono (Pl.mono _) d.iH) q8) (fun W3 s ao R8 d p2 af i6 => Wa (ln (gO ?_)))))))))
 refine gJ (Wm (bS hm fun c1 p3 hm => VE (nU d call64 (yq s r1 _ _ (i6.sl ic (fun b o q => d.at_ (Ml q))) p3) (fun s3 A o7 c9 d o9 ad e1 => Wa (lr (Wa (lr (Wa ?_))))))))
 refine ln (ou (jl (mc (fun m E W => ∃ k Q D t e7 G u f7, gZ o7 u ∧ Lo (keys []) w o7 u ∧ ST true (keys []) w W u (D ++ (G ++ (c9 ++ (R8 ++ f7)))) ∧ E 3 = s ∧ E 4 = A ∧ E 5 = k ∧ E 6 = t ∧ gM 38 gL 3 k Q D ∧ lY 120 (xl gL 3) 1 u t e7 G ∧ jb c1 r1 m Q e7 = some r) jg ⟨(.slice none 0 0), ([]), [], (.slice none 0 0), ([]), [], o7, _, (gZ.refl _), Lo.refl, (d.gy St), rfl, rfl, rfl, rfl, (gM.nil _ _ _), (lY.nil _ _ _ _), hm⟩ ?_)))
 rintro m E W ⟨k, Q, D, t, e7, G, u, f7, e2, n, d, g2, m2, m3, m4, c3, f1, b1⟩
 cases m with
 | zero => rw [jb] at b1; cases b1
 | succ o3 =>
  refine bg (Wa (lS (Wh g2 (V (jf aj rfl i6) (Wm (ln (CJ b1 (fun e8 E W => ∃ f0 d0 f8, ST true (keys []) w W u (d0 ++ (D ++ (G ++ (c9 ++ (R8 ++ f8))))) ∧ E 3 = s ∧ E 4 = A ∧ E 5 = k ∧ E 6 = t ∧ E 7 = f0 ∧ gM 38 gL 3 f0 e8 d0) (fun e8 k4 => ?_) ?_)))))))
  ·refine iL (fun i E W => ∃ a5 a9 Y c7, (E 18 = .int .i64 (i : Nat) ∧ E 17 = .int .i64 (r1.length : Nat)) ∧ ST true (keys []) w W u (Y ++ (D ++ (G ++ (c9 ++ (R8 ++ c7))))) ∧ E 3 = s ∧ E 4 = A ∧ E 5 = k ∧ E 6 = t ∧ E 7 = a5 ∧ E 16 = s ∧ gM 38 gL 3 a5 a9 Y ∧ kh Q c1 (r1.drop i) a9 = some e8) r1.length i6.len ⟨(.slice none 0 0), ([]), [], _, ⟨rfl, rfl⟩, (d.gy St), g2, m2, m3, m4, rfl, rfl, (gM.nil _ _ _), k4⟩ dc dc dc (fun _ _ _ h => by obtain ⟨_, _, _, _, ab, _⟩ := h; exact ab) ?_ ?_
   ·rintro a8 E W k2 ⟨a5, a9, Y, c7, ⟨P, eN⟩, d, d2, b3, d3, d4, d5, d6, c5, J⟩
    obtain ⟨a, p5, l5, f3, l6⟩ := iB k2
    rw [l5] at J
    refine bg (VQ (iW (i := (a8 : Int)) (x0 := a) aj ae d6 P i6 (ay _) f3) (fun q9 k8 => V (gA rfl (kH d.has (fun p q => (Ma (Ma (Ma (Ma (Ml q)))))) i6 ic k8 f3 aN ae)) (VE (iZ d aT (fun q0 Z d => VO (ib (.agg (gv a).toArray) ((gv a).toArray) d rfl rfl ae (jF a) nb rfl (fun q1 d => lr (Wh b3 (V (jf aB rfl e1) (Wm (gT ?_)))))))))))
    let i9 : Value := (.pointer (some ⟨Z, 0, none⟩))
    let f6 : Value := (.int .i64 (a8 : Int))
    let c6 : Value := (.int .i64 (r1.length : Int))
    refine gI (ou (CJ J (fun e9 E W => ∃ c2 b2 f9, ST true (keys []) w W u (b2 ++ (D ++ (G ++ (c9 ++ (R8 ++ f9))))) ∧ E 3 = s ∧ E 4 = A ∧ E 5 = k ∧ E 6 = t ∧ E 7 = c2 ∧ E 16 = s ∧ E 17 = c6 ∧ E 18 = f6 ∧ gM 38 gL 3 c2 e9 b2) (fun e9 k6 => ?_) ?_))
    ·refine iL (fun i E W => ∃ H a4 I c8, (E 24 = .int .i64 (i : Nat) ∧ E 23 = .int .i64 (c1.length : Nat)) ∧ ST true (keys []) w W u ((Z, Ol (gv a) 108) :: (I ++ (D ++ (G ++ (c9 ++ (R8 ++ c8)))))) ∧ E 3 = s ∧ E 4 = A ∧ E 5 = k ∧ E 6 = t ∧ E 7 = H ∧ E 9 = i9 ∧ E 16 = s ∧ E 17 = c6 ∧ E 18 = f6 ∧ E 22 = A ∧ gM 38 gL 3 H a4 I ∧ lL Q a c1 (c1.drop i) a4 = some e9) c1.length e1.len ⟨a5, a9, Y, _, ⟨rfl, rfl⟩, (d.gy St), d2, b3, d3, d4, d5, rfl, d6, eN, P, rfl, c5, k6⟩ dc dc dc (fun _ _ _ h => by obtain ⟨_, _, _, _, ab, _⟩ := h; exact ab) ?_ ?_
     ·rintro e4 E W k3 ⟨H, a4, I, c8, ⟨P, eN⟩, d, b4, a6, a2, b5, b6, a7, b7, b8, b9, c0, a3, z⟩
      obtain ⟨j, p6, l7, f4, f5⟩ := iB k3
      rw [l7] at z
      refine bg (VQ (iW (i := (e4 : Int)) (x0 := j) aB bQ c0 P e1 (ay _) f4) (fun r0 k9 => V (gA rfl (oD d.has (fun p q => (Mt (Ma (Ma (Ma (Ml q)))))) e1 (fun _ => rfl) k9 f4 (y := (.string j)) rfl aF)) (Wa (lr (Wh a2 (V (gA a7 (gK d.has Mh (gv a) rfl aN ae)) (Wh a6 (Wm (bS z fun r2 l0 z => ?_)))))))))
      refine VE (Eg d call65 (y6 k Q a A c1 j _ _ (c3.sl lj (fun b o q => d.at_ (Mt (Ma (Ml q))))) (e1.sl (fun _ => rfl) (fun b o q => d.at_ (Mt (Ma (Ma (Ma (Ml q))))))) l0) (fun q2 d => Wm (LJ z (fun i8 E W => ∃ g0, ST true (keys []) w W u ((Z, Ol (gv a) 108) :: (I ++ (D ++ (G ++ (c9 ++ (R8 ++ g0)))))) ∧ E 3 = s ∧ E 4 = A ∧ E 5 = k ∧ E 6 = t ∧ E 7 = H ∧ E 9 = i9 ∧ E 11 = (.string j) ∧ E 16 = s ∧ E 17 = c6 ∧ E 18 = f6 ∧ E 22 = A ∧ E 23 = (.int .i64 (c1.length : Int)) ∧ E 24 = (.int .i64 (e4 : Int)) ∧ E 40 = (.bool i8)) 7 ?_ (fun i8 N e6 => ?_))))
      ·rintro r5 E W ⟨g0, d, g4, g5, g6, g7, d7, d8, d9, g8, g9, h1, h2, h3, h4, n6⟩ k7
       refine Wh n6 (LJ k7 (fun i7 E W => ∃ g1, ST true (keys []) w W u ((Z, Ol (gv a) 108) :: (I ++ (D ++ (G ++ (c9 ++ (R8 ++ g1)))))) ∧ E 3 = s ∧ E 4 = A ∧ E 5 = k ∧ E 6 = t ∧ E 7 = H ∧ E 9 = i9 ∧ E 11 = (.string j) ∧ E 16 = s ∧ E 17 = c6 ∧ E 18 = f6 ∧ E 22 = A ∧ E 23 = (.int .i64 (c1.length : Int)) ∧ E 24 = (.int .i64 (e4 : Int)) ∧ E 48 = (.bool i7)) 7 ?_ (fun i7 M e5 => ?_))
       ·rintro r6 E W ⟨g1, d, h5, h6, h7, h8, h9, e0, n7, i0, i1, i2, i3, i4, i5, n8⟩ K
        refine ln (CI K n8 (fun k0 K => ?_) (fun k0 K => ?_))
        ·refine gJ (Wh h9 (V (gE jT e0) (VA d Mh (gw a.Head) au ag (Wh n7 (V (kO (v := (.agg (gL (⟨a.Head, j⟩ : gx)).toArray)) (nC rfl rfl) (jH cM bi (xq _ bi) kr)) (VE (ig (cs := (gL (⟨a.Head, j⟩ : gx)).toArray) d (lk rfl) (kz bK cD cM) (fun q3 m1 d => ?_))))))))
         replace d := d.perm (Nr (Qb (Qb Qz)) Nz)
         refine bS K fun o2 k1 K => VE (jJ (enc := gL) (v := H) (vs := (.slice (some ⟨m1, 0, none⟩) 1 1)) (R := I) d lj dc qM bK mP.1 mP.2.1 rfl mP.2.2.1 mP.2.2.2 rfl rfl a3 (Sl.lit (enc := gL) (l := [(⟨a.Head, j⟩ : gx)]) lj rfl nb rfl (d.at_ (Ma Mh))) k1 (fun q4 o6 m0 d j6 => Wa (gT (im (gI ?_)))))
         replace d := d.gy (Kr (Db St))
         exact ⟨i5, o6, o2, m0, _, ⟨rfl, i4⟩, (d.gy (Sb (Pr Pz) St)), h5, h6, h7, h8, rfl, e0, i0, i1, i2, i3, j6, (by rw [f5]; exact K)⟩
        exact iv (im (gI ⟨i5, H, a4, I, _, ⟨rfl, i4⟩, (d.gy St), h5, h6, h7, h8, h9, e0, i0, i1, i2, i3, a3, (by rw [f5]; exact K)⟩))
       refine bC M (fun g M => ?_) (fun g M => ?_)
       ·refine ug g (gF d7) (ug g (gE jT d8) (ug g (gA rfl (gK d.has Mh (gw a.Head) rfl au ag)) (ug g (gF d9) (bS M fun r3 l1 M => oK g (Eg d call63 (nA H a4 a.Head j _ _ (a3.sl lj (fun b o q => d.at_ (Mt (Ml q)))) l1) (fun q5 d => ug g (nY rfl) (V (gQ (cB g) rfl) ?_)))))))
        obtain rfl := sj M
        exact e5 _ _ ⟨_, (d.gy St), g4, g5, g6, g7, d7, d8, d9, g8, g9, h1, h2, h3, h4, rfl⟩
       refine un g (un g (un g (un g (un g (un g (V (gP (cB g) rfl) ?_))))))
       obtain rfl := sj M
       exact e5 _ _ ⟨_, (d.gy St), g4, g5, g6, g7, d7, d8, d9, g8, g9, h1, h2, h3, h4, rfl⟩
      refine bC N (fun c N => ?_) (fun c N => ?_)
      ·refine ug c (gF a2) (ug c (gE jT a7) (ug c (gA rfl (gK d.has Mh (gw a.Head) rfl au ag)) (ug c (gF rfl) (bS N fun r4 l2 N => oK c (Eg d call63 (nA k Q a.Head j _ _ (c3.sl lj (fun b o q => d.at_ (Mt (Ma (Ml q))))) l2) (fun q6 d => ug c (nY rfl) (V (gQ (cB c) rfl) ?_)))))))
       obtain rfl := sj N
       exact e6 _ _ ⟨_, (d.gy St), b4, a6, a2, b5, b6, a7, rfl, b7, b8, b9, c0, eN, P, rfl⟩
      refine un c (un c (un c (un c (un c (un c (V (gP (cB c) rfl) ?_))))))
      obtain rfl := sj N
      exact e6 _ _ ⟨_, (d.gy St), b4, a6, a2, b5, b6, a7, rfl, b7, b8, b9, c0, eN, P, rfl⟩
     rintro E W ⟨H, a4, I, c8, ⟨P, eN⟩, d, b4, a6, a2, b5, b6, a7, b7, b8, b9, c0, a3, z⟩
     rw [aI] at z
     refine gI ?_
     obtain rfl := sj z
     exact ⟨H, I, _, (d.gy (Db St)), b4, a6, a2, b5, b6, b7, b8, b9, a3⟩
    rintro o1 E W ⟨c2, b2, f9, d, m8, m9, n0, n1, n2, n3, n4, n5, l4⟩ k5
    exact im (gI ⟨n5, c2, o1, b2, _, ⟨rfl, n4⟩, (d.gy St), m8, m9, n0, n1, n2, n3, l4, (by rw [l6]; exact k5)⟩)
   rintro E W ⟨a5, a9, Y, c7, ⟨P, eN⟩, d, d2, b3, d3, d4, d5, d6, c5, J⟩
   rw [aI] at J
   refine gI ?_
   obtain rfl := sj J
   exact ⟨a5, Y, _, (d.gy St), d2, b3, d3, d4, d5, c5⟩
  rintro T E W ⟨f0, d0, f8, d, m5, m6, m7, g3, d1, c4⟩ x
  refine gO (sg (Wh d1 (V (jf bK rfl c4) (Wi rfl (ln (CI x rfl (fun j7 x => ?_) (fun j7 x => ?_)))))))
  ·refine sg (Wh g3 (Wa (ln ?_)))
   replace d := d.gy (Dr (Dr (Kr (Dr (Dr St)))))
   refine iq (iw (ko (iw (ko (iw ?_)))))
   obtain rfl := sj x
   refine iC (v := t) rfl rfl ?_
   obtain ⟨r8, d, j0, L, l3⟩ := ST.FK Bw d f1
   exact ⟨_, _, _, rfl, (d.nL Sn), (((p2.trans o9).trans e2).trans j0), (((af.trans ad).trans n).trans L), (ST.Av d (oJ.mem Sn)), t, rfl, rfl, l3⟩
  refine kg (Wh g3 (Wh d1 ?_))
  obtain ⟨U, a1, rfl⟩ := c4.form
  let j1 : Value := (.slice U T.length a1)
  refine VE (ig (cs := #[j1]) d (lk rfl) (kz eS gq zeroValue120) (fun p7 q7 d => ?_))
  replace d := d.perm (Nr (Qb Qz) Nz)
  obtain ⟨o8, d, e3, O, f2⟩ := ST.wz d c4 lj
  replace d := d.perm (Nr (Qb (Qr Qz)) Nz)
  refine bS x fun n9 j8 x => VE (BV (B := G) Bw d dc eS vr.1 vr.2.1 rfl vr.2.2.1 vr.2.2.2 rfl rfl (f1.mono Bw e3) (xZ.lit Bw (l := [T]) (.cons (ys := [j1]) ⟨j1, rfl, f2⟩ .nil) rfl nb (d.at_ (Ma Mh))) j8 (fun p8 o4 l8 d j4 => Wa (ln ?_)))
  replace d := d.gy (Kr (Db St))
  refine gJ (Wh m7 (Wh d1 ?_))
  replace d := d.perm (Nr (Qr Qz) Nz)
  exact bS x fun o0 j9 x => VE (jJ (enc := gL) (v := k) (vs := j1) (R := D) d lj dc qM bK mP.1 mP.2.1 rfl mP.2.2.1 mP.2.2.2 rfl rfl c3 (f2.mono (Pl.mono _) d.iH) j9 (fun p9 o5 l9 d j5 => Wa (gT (im (gI ⟨o3, bl _, o5, o0, l9, o4, n9, l8, o8, _, (e2.trans e3), (n.trans O), (d.gy St), m5, m6, rfl, rfl, j5, j4, x⟩)))))
theorem yQ (k : Value) (H : List gu) (c : gx) (r : (Int × Bool)) (w : World) (J : Sl (Pl gv) 9 (hp w) k H) (hm : so H c = some r) :
  iA true pg0 19 [k, (.agg (gL c).toArray)] w (.tuple #[(.int .i64 r.1), (.bool r.2)]) := by
 refine cG 24 func19 rfl (fun b => sg (VE (iO b rfl (fun W2 o b => Wa (Wa (lS (Wm (bS hm fun m a4 hm => ?_))))))))
 refine VE (eD b (cK _) call21 (fun q => (tj k H _ _ q (J.mono (Pl.mono _) (gZ.refl _)) a4)) ?_ (L0 := []))
 rintro _ v9 n a9 b A s ⟨a5, g, rfl, j⟩
 obtain rfl := g.symm
 refine V (lB eS rfl j) (Wm (ln (iL (fun i E W => ∃ x, (E 11 = .int .i64 (i : Nat) ∧ E 10 = .int .i64 (m.length : Nat)) ∧ ST true ia w W n ((o, Ol (gL c) 38) :: x) ∧ E 3 = (.pointer (some ⟨o, 0, none⟩)) ∧ E 9 = a5 ∧ nN c (m.drop i) i = some r) m.length j.len ⟨_, ⟨rfl, rfl⟩, (b.gy St), rfl, rfl, hm⟩ dc dc dc (fun _ _ _ h => by obtain ⟨_, l, _⟩ := h; exact l) ?_ ?_)))
 ·rintro B E W M ⟨x, ⟨d, p⟩, b, t, z, a⟩
  obtain ⟨G, I, Y, U, Z⟩ := iB M
  rw [Y] at a
  refine bg (Wh d (VQ (Cu (enc := gL) (k2 := 3) (i := (B : Int)) (x0 := G) eS gq z d j (ay _) U) (fun O ⟨D, N, T⟩ => V (gA rfl (kI b.has (y := D) N isAgg120)) (Wa (Wa (lr (Wm (V (gE sn t) (VA b Mh (gw c.gr) au ag ?_)))))))))
  refine V (gE qE t) (VB b Mh rfl rfl aF (bS a fun P Q a => VE (Eg b call63 (nA D G c.gr c.gU _ _ (T.mono (Pl.mono _) b.iH) Q) (fun L b => ln (CI a rfl (fun K a => ?_) (fun K a => ?_))))))
  ·refine sg (Wm (Wa (Wa (ln ?_))))
   replace b := b.gy (Db St)
   refine iq (ko (iw (ko (iw ?_))))
   obtain rfl := sj a
   exact w5 (v := (.int .i64 (B : Int))) (u := (.bool true)) rfl rfl rfl ⟨rfl, b.ex⟩
  exact iv (im (gI ⟨d, _, ⟨rfl, p⟩, (b.gy St), t, z, (by rw [Z]; exact a)⟩))
 rintro E W ⟨x, ⟨d, p⟩, b, t, z, a⟩
 rw [aI] at a
 refine gI ?_
 replace b := b.gy (Db St)
 refine sg (Wa (Wa (lt ?_)))
 obtain rfl := sj a
 exact w5 (v := (.int .i64 0)) (u := (.bool false)) rfl rfl rfl ⟨rfl, b.ex⟩
theorem u9 (k : Value) (z : List gu) (y : gx) (r : Bool) (w : World) (t : Sl (Pl gv) 9 (hp w) k z) (hm : nK z y = some r) :
  iA false pg0 4 [k, (.agg (gL y).toArray)] w (.bool r) := by
 refine cG 58 func4 rfl (fun b => sg (VE (iO b rfl (fun W2 d b => Wa (lS (bS hm fun r3 L hm => VE (Eg b call10 (yk  _ _  L) (fun W5 b => V (nY rfl) (ln ?_)))))))))
 refine CI hm rfl (fun A hm => ?_) (fun A hm => ?_)
 ·refine sg (Wa (ln ?_))
  replace b := b.gy (Db St)
  refine iq (iw ?_)
  obtain rfl := sj hm
  exact rP b
 refine kS (Wm (bS hm fun r7 O hm => VE (Eg b call11 (iA.ki (yz k z _ _ (t.mono (Pl.mono _) b.iH) O)) (fun W9 b => Wi rfl (Wm (LJ hm (fun a2 E W => ∃ M, ST false ia w W (hp w) ((d, Ol (gL y) 38) :: M) ∧ E 0 = k ∧ E 3 = (.pointer (some ⟨d, 0, none⟩)) ∧ E 29 = (.bool a2)) 15 ?_ (fun a2 x I => ?_)))))))
 ·rintro d2 E W ⟨M, b, D, T, q⟩ i
  refine ln (CI i q (fun a4 i => ?_) (fun a4 i => ?_))
  ·refine sg (Wa (ln ?_))
   replace b := b.gy (Db St)
   refine iq (iw ?_)
   obtain rfl := sj i
   exact rP b
  refine kg (Wh D (V (gA T (gK b.has Mh (gL y) rfl fM cD)) (bS i fun c7 m i => VE (Eg b call18 (uQ k z y _ _ (t.mono (Pl.mono _) b.iH) m) (fun c3 b => Wm (Wx rfl (Wx rfl (Wa (Wa (ln ?_))))))))))
  refine sg (Wh D (V (gA T (gK b.has Mh (gL y) rfl fM cD)) (bS i fun c8 n i => VE (Eg b call19 (iA.ki (yQ k z y _ _ (t.mono (Pl.mono _) b.iH) n)) (fun c4 b => Wm (Wx rfl (Wx rfl (Wa (Wa (ln ?_))))))))))
  replace b := b.gy (Db St)
  refine sg (Wm (Wm (Wi rfl (Wm (LJ i (fun Z E W => ∃ N, ST false ia w W (hp w) N ∧ E 0 = k ∧ E 49 = (.bool Z)) 4 ?_ (fun Z u H => ?_))))))
  ·rintro d3 E W ⟨N, b, U, s⟩ a5
   refine Wh s (LJ a5 (fun Y E W => ∃ J Q, gZ (hp w) J ∧ ST false ia w W J Q ∧ E 57 = (.bool Y)) 7 ?_ (fun Y j G => ?_))
   ·rintro d4 E W ⟨J, Q, c1, b, v⟩ l
    exact Wg v (lt (rQ l b))
   refine bC j (fun c j => ?_) (fun c j => ?_)
   ·refine ug c (gF U) (bS j fun c9 a9 j => oK c (Eg b call20 (u1 k z _ _ (t.mono (Pl.mono _) b.iH) a9) (fun c5 b => ug c (gF U) (bS j fun d0 o j => ?_))))
    refine oK c (eD b (cK _) call21 (fun R => oQ.ki (tj k z _ _ R (t.mono (Pl.mono _) (gZ.refl _)) o)) ?_ (L0 := []))
    rintro _ d1 P c2 b K h ⟨d5, B, rfl, p⟩
    obtain rfl := B.symm
    refine ug c (lB eS rfl p) (ug c (jm rfl rfl rfl) (V (gQ (cB c) rfl) ?_))
    obtain rfl := sj j
    exact G _ _ ⟨P, _, K, (b.gy St), rfl⟩
   refine un c (un c (un c (un c (un c (un c (V (gP (cB c) rfl) ?_))))))
   obtain rfl := sj j
   exact G _ _ ⟨(hp w), _, (gZ.refl _), (b.gy St), rfl⟩
  refine bC u (fun g u => ?_) (fun g u => ?_)
  ·refine ug g (gF rfl) (ug g (gF rfl) (ug g (Eb underlying4 rfl rfl rfl) (V (gQ (cB g) rfl) ?_)))
   obtain rfl := sj u
   exact H _ _ ⟨_, (b.gy St), D, rfl⟩
  refine un g (un g (un g (V (gP (cB g) rfl) ?_)))
  obtain rfl := sj u
  exact H _ _ ⟨_, (b.gy St), D, rfl⟩
 refine bC x (fun a x => ?_) (fun a x => ?_)
 ·refine un a (un a (un a (un a (un a (un a (un a (un a (un a (un a (un a (un a (un a (un a (V (gQ (cB a) rfl) ?_))))))))))))))
  obtain rfl := sj x
  exact I _ _ ⟨_, (b.gy St), rfl, rfl, rfl⟩
 refine ug a (gE qE rfl) (ug a (gA rfl (gN b.has Mh rfl aF)) (ug a (kG aP rfl) (ug a (gE sn rfl) (ug a (gE jY rfl) (ug a (gA rfl (gN b.has Mh rfl aF)) (ug a (kG aP rfl) (ug a (jm rfl rfl rfl) (ug a (gE sn rfl) (ug a (gE ov rfl) (ug a (gA rfl (gN b.has Mh rfl aF)) (ug a (kG aP rfl) (ug a (jm rfl rfl rfl) (ug a (jm rfl rfl rfl) (V (gP (cB a) rfl) ?_))))))))))))))
 obtain rfl := sj x
 exact I _ _ ⟨_, (b.gy St), rfl, rfl, rfl⟩
end Go.Proofs.YtbnbdigcbldfhaaGreat
