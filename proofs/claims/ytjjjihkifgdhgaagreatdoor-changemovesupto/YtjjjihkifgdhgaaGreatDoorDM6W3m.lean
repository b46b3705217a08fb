/- a part of a proof of ChangeMoves -/
import Derived.Test.YtjjjihkifgdhgaaGreatDoorDM6W2m
set_option linter.all false
namespace Go.Proofs.YtjjjihkifgdhgaaGreatDoor
open Go.IntKind renaming wrap → wi0
open Go.Proofs.Tryz renaming prog → pg0
open Go.RowKit
set_option maxRecDepth 10000
open Tryz
theorem Ly (x : Value) (a0 r : List ByteArray) (w : World) (c0 : Sl (Pl tb) 1 (hp w) x a0) (hm : zY a0 = some r) :
  lV true pg0 303 [x] w 9 tb 1 r := by
 refine vi 48 func303 rfl (fun b => sg (Wa (lr (Wa (ln (pk (kZ (mG (fun m E W => ∃ u a2 j c1, ST true kx w W (hp w) (j ++ c1) ∧ E 0 = x ∧ E 3 = u ∧ jZ 9 tb 1 u a2 j ∧ tC a0 m a2 = some r) ki ⟨(.slice none 0 0), ([]), [], _, (b.jy St), rfl, rfl, (jZ.nil _ _ _), hm⟩ ?_))))))))
 rintro m E W ⟨u, a2, j, c1, b, c7, f6, G, Z⟩
 cases m with
 | zero => rw [tC] at Z; cases Z
 | succ i3 =>
  refine bg (Wa (lS (Wh c7 (V (kU dw rfl c0) (Wm (ln (CJ Z (fun b7 E W => ∃ c2, ST true kx w W (hp w) (j ++ c2) ∧ E 0 = x ∧ E 3 = u ∧ E 4 = (.string b7)) (fun b7 e5 => ?_) ?_)))))))
  ·refine kC (fun i E W => ∃ z L, (E 9 = .int .i64 (i : Nat) ∧ E 8 = .int .i64 (a0.length : Nat)) ∧ ST true kx w W (hp w) (j ++ L) ∧ E 0 = x ∧ E 3 = u ∧ E 4 = (.string z) ∧ E 7 = x ∧ rI a2 (a0.drop i) z = some b7) a0.length c0.len ⟨zS, _, ⟨rfl, rfl⟩, (b.jy St), c7, f6, rfl, rfl, e5⟩ dc dc dc (fun _ _ _ h => by obtain ⟨_, _, a6, _⟩ := h; exact a6) ?_ ?_
   ·rintro d E W e4 ⟨z, L, ⟨n, A⟩, b, Q, H, T, U, t⟩
    obtain ⟨I, i7, f3, f2, b9⟩ := kp e4
    rw [f3] at t
    refine bg (VQ (na (enc := tb) (i := (d : Int)) (x0 := I) dw ej U n c0 (aG _) f2) (fun j3 e9 => V (jA rfl (pA b.has (y := (.string I)) e9 bM)) (Wa (lr (Wm (bS t fun i4 f1 t => VE (Eg b call216 (vV I _ _  f1) (fun j0 b => Wm (LJ t (fun d7 E W => ∃ c3, ST true kx w W (hp w) (j ++ c3) ∧ E 0 = x ∧ E 3 = u ∧ E 4 = (.string z) ∧ E 6 = (.string I) ∧ E 7 = x ∧ E 8 = (.int .i64 (a0.length : Int)) ∧ E 9 = (.int .i64 (d : Int)) ∧ E 29 = (.bool d7)) 14 ?_ (fun d7 N a9 => ?_))))))))))
    ·rintro i6 E W ⟨c3, b, O, P, Y, a3, b4, b5, b6, f8⟩ e6
     refine Wh f8 (LJ e6 (fun d5 E W => ∃ c4, ST true kx w W (hp w) (j ++ c4) ∧ E 0 = x ∧ E 3 = u ∧ E 4 = (.string z) ∧ E 6 = (.string I) ∧ E 7 = x ∧ E 8 = (.int .i64 (a0.length : Int)) ∧ E 9 = (.int .i64 (d : Int)) ∧ E 38 = (.bool d5)) 8 ?_ (fun d5 K a7 => ?_))
     ·rintro j5 E W ⟨c4, b, d0, d1, f9, g0, d2, d3, d4, g1⟩ J
      refine ln (CI J g1 (fun e3 J => ?_) (fun e3 J => ?_))
      ·exact jL (Wh g0 (Wa (kk (kA (jI ⟨d4, I, _, ⟨rfl, d3⟩, (b.jy St), d0, d1, rfl, d2, (by rw [b9]; exact J)⟩)))))
      exact kX (kA (jI ⟨d4, z, _, ⟨rfl, d3⟩, (b.jy St), d0, d1, f9, d2, (by rw [b9]; exact J)⟩))
     refine bC K (fun g K => ?_) (fun g K => ?_)
     ·refine ug g (jH Y) (ug g (pM rfl rfl rfl) (ug g (jH rfl) (LJ K (fun d6 E W => ∃ c5, ST true kx w W (hp w) (j ++ c5) ∧ E 0 = x ∧ E 3 = u ∧ E 4 = (.string z) ∧ E 6 = (.string I) ∧ E 7 = x ∧ E 8 = (.int .i64 (a0.length : Int)) ∧ E 9 = (.int .i64 (d : Int)) ∧ E 30 = (.bool i6) ∧ E 37 = (.bool d6)) 4 ?_ (fun d6 M a8 => ?_))))
      ·rintro j6 E W ⟨c5, b, g2, g3, g4, g7, g8, g9, h0, h1, h2⟩ e7
       refine V (jS (h1.trans (cB g)) h2) ?_
       obtain rfl := sj e7
       exact a7 _ _ ⟨_, (b.jy St), g2, g3, g4, g7, g8, g9, h0, rfl⟩
      refine bC M (fun k M => ?_) (fun k M => ?_)
      ·refine un k (un k (un k (ug g (jS (cB k) rfl) ?_)))
       obtain rfl := sj M
       exact a8 _ _ ⟨_, (b.jy St), O, P, Y, a3, b4, b5, b6, rfl, rfl⟩
      refine ug k (jH a3) (ug k (jH Y) (ug k (pM rfl rfl rfl) (ug g (jT (cB k) rfl) ?_)))
      obtain rfl := sj M
      exact a8 _ _ ⟨_, (b.jy St), O, P, Y, a3, b4, b5, b6, rfl, rfl⟩
     refine un g (un g (un g (Vu rfl rfl (Vu rfl rfl (Vu rfl rfl (un g (V (jT (cB g) rfl) ?_)))))))
     obtain rfl := sj K
     exact a7 _ _ ⟨_, (b.jy St), O, P, Y, a3, b4, b5, b6, rfl⟩
    refine bC N (fun c N => ?_) (fun c N => ?_)
    ·refine ug c (jH H) (ug c (nw dw rfl G) (ug c (kG rfl rfl rfl) (ug c (jH rfl) (LJ N (fun d8 E W => ∃ c6, ST true kx w W (hp w) (j ++ c6) ∧ E 0 = x ∧ E 3 = u ∧ E 4 = (.string z) ∧ E 6 = (.string I) ∧ E 7 = x ∧ E 8 = (.int .i64 (a0.length : Int)) ∧ E 9 = (.int .i64 (d : Int)) ∧ E 15 = (.bool i4) ∧ E 28 = (.bool d8)) 9 ?_ (fun d8 D b0 => ?_)))))
     ·rintro j7 E W ⟨c6, b, h3, h4, h5, h6, h7, h8, h9, i0, i1⟩ e8
      refine V (jS (i0.trans (cB c)) i1) ?_
      obtain rfl := sj e8
      exact a9 _ _ ⟨_, (b.jy St), h3, h4, h5, h6, h7, h8, h9, rfl⟩
     refine bC D (fun a D => ?_) (fun a D => ?_)
     ·refine un a (un a (un a (un a (un a (un a (un a (un a (ug c (jS (cB a) rfl) ?_))))))))
      obtain rfl := sj D
      exact b0 _ _ ⟨_, (b.jy St), Q, H, T, rfl, U, A, n, rfl, rfl⟩
     refine ug a (jH rfl) (ug a (jH H) (ug a (jH H) (ug a (nw dw rfl G) (ug a (kG rfl rfl rfl) (bS D fun d9 a5 D => UZ a (nU (i := (wi0 .i64 ((a2.length : Int) - 1))) (x0 := d9) dw ej rfl rfl G (ky a5) (kv a5)) (fun j4 f0 => ug a (jA rfl (DB b.has (fun p hq => (Ml hq)) G (fun _ => rfl) f0 (kv a5) (y := (.string d9)) rfl bM)) (ug a (pM rfl rfl rfl) (ug c (jT (cB a) rfl) ?_))))))))
     obtain rfl := sj D
     exact b0 _ _ ⟨_, (b.jy St), Q, H, T, rfl, U, A, n, rfl, rfl⟩
    refine un c (un c (un c (un c (Vu rfl rfl (Vu rfl rfl (Vu rfl rfl (Vu rfl rfl (Vu rfl rfl (Vu rfl rfl (Vu rfl rfl (Vu rfl rfl (un c (V (jT (cB c) rfl) ?_)))))))))))))
    obtain rfl := sj N
    exact a9 _ _ ⟨_, (b.jy St), Q, H, T, rfl, U, A, n, rfl⟩
   rintro E W ⟨z, L, ⟨n, A⟩, b, Q, H, T, U, t⟩
   rw [aH] at t
   refine jI ?_
   obtain rfl := sj t
   exact ⟨_, (b.jy St), Q, H, T⟩
  rintro a4 E W ⟨c2, b, f7, c8, c9⟩ B
  refine jM (sg (Wh c9 (V (pM rfl rfl rfl) (ln (CI B rfl (fun e1 B => ?_) (fun e1 B => ?_))))))
  ·refine sg (Wh c8 (Wa (lt (kw (mi (kw (mi (kw ?_))))))))
   obtain rfl := sj B
   exact lB (v := u) rfl rfl ⟨_, j, rfl, b.nM (fun p hq => (Ml hq)) G.nd, G⟩
  refine kn (jL (Wh c8 (Wh c9 (VE (kq (cs := [(.string a4)].toArray) b (lW rfl) (mr dw ej zeroValue9) (fun i8 f5 b => ?_))))))
  replace b := b.perm (Nr (Qb Qz) Nz)
  refine bS B fun i2 e2 B => VE (nW (enc := tb) (v := u) (vs := (.slice (some ⟨f5, 0, none⟩) 1 1)) (R := j) b (fun _ => rfl) dc Nv dw AW.1 AW.2.1 rfl AW.2.2.1 AW.2.2.2 rfl rfl G (Sl.lit (enc := tb) (l := [a4]) (fun _ => rfl) rfl nb rfl (b.at_ (Ma Mh))) e2 (fun i9 i5 f4 b e0 => Wa (kk (kA (jI ?_)))))
  replace b := b.jy (Kr (Db St))
  exact ⟨i3, bG _, i5, i2, f4, _, (b.jy St), f7, rfl, e0, B⟩
theorem JC (B : Value) (G : List jv) (r : List ByteArray) (w : World) (y : Sl (Pl jz) 9 (hp w) B G) (hm : ye G = some r) :
  lV true pg0 245 [B] w 9 tb 1 r := by
 refine vi 29 func245 rfl (fun d => sg (Wa (lr (Wa (lS (Wm ?_))))))
 refine V (kU aP rfl y) (Wm (ln (kC (fun i E W => ∃ g k j t, (E 8 = .int .i64 (i : Nat) ∧ E 7 = .int .i64 (G.length : Nat)) ∧ ST true kx w W (hp w) (j ++ t) ∧ E 3 = g ∧ E 6 = B ∧ jZ 9 tb 1 g k j ∧ rL (G.drop i) k = some r) G.length y.len ⟨(.slice none 0 0), ([]), [], _, ⟨rfl, rfl⟩, (d.jy St), rfl, rfl, (jZ.nil _ _ _), hm⟩ dc dc dc (fun _ _ _ h => by obtain ⟨_, _, _, _, n, _⟩ := h; exact n) ?_ ?_)))
 ·rintro a5 E W T ⟨g, k, j, t, ⟨m, O⟩, d, u, x, z, c⟩
  obtain ⟨a, b4, Y, U, Z⟩ := kp T
  rw [Y] at c
  refine bg (VQ (na (enc := jz) (i := (a5 : Int)) (x0 := a) aP aJ x m y (aG _) U) (fun b2 J => V (jA rfl (kf d.has J bR aJ)) (VE (ku d cO (fun a6 b1 d => VO (jR (.agg (jz a).toArray) ((jz a).toArray) d rfl rfl aJ (nz a) nb rfl (fun a7 d => ln (jL (Wh u (Wf vT (VB d Mh rfl rfl bM (Wf qp (Wf oM ?_)))))))))))))
  refine VB d Mh rfl rfl bM (Wf nD (Wf oM (VB d Mh rfl rfl bM (Wf rV (Wf oM (VB d Mh rfl rfl bM (VE (kq (cs := #[(.string a.kE), (.string a.Head.jw), (.string a.B.jw), (.string a.C.jw)]) d (Sx rfl rfl rfl rfl) (mr dw ej zeroValue9) (fun a8 Q d => ?_)))))))))
  replace d := d.perm (Nr (Qb (Qb Qz)) Nz)
  refine bS c fun P I c => VE (nW (enc := tb) (v := g) (vs := (.slice (some ⟨Q, 0, none⟩) 4 4)) (R := j) d (fun _ => rfl) dc Nv dw AW.1 AW.2.1 rfl AW.2.2.1 AW.2.2.2 rfl rfl z (Sl.lit (enc := tb) (l := [a.kE, a.Head.jw, a.B.jw, a.C.jw]) (fun _ => rfl) rfl nb rfl (d.at_ (Ma Mh))) I (fun a9 a2 M d H => Wa (kk (kA (jI ?_)))))
  replace d := d.jy (Kr (Db (Db St)))
  exact ⟨m, a2, P, M, _, ⟨rfl, O⟩, (d.jy St), rfl, x, H, (by rw [Z]; exact c)⟩
 rintro E W ⟨g, k, j, t, ⟨m, O⟩, d, u, x, z, c⟩
 rw [aH] at c
 refine jI (sg (Wh u (bS c fun b3 K c => VE (tU d call303 (Ly g k _ _ (z.sl (fun _ => rfl) (fun b o L => d.at_ (Ml L))) K) (fun b0 a3 b5 N d a4 A D => Wa (ln ?_))))))
 replace d := d.jy (Kr (Dr St))
 refine kh ?_
 obtain rfl := sj c
 exact lB (v := a3) rfl rfl ⟨_, N, rfl, d.nM (fun p L => (Ml L)) D.nd, D⟩
theorem xe (y : Value) (H : List jN) (z : ju) (J : ByteArray) (r : Bool) (w : World) (G : Sl (Pl kz) 3 (hp w) y H) (hm : uB H z J = some r) :
  jV true pg0 246 [y, (.agg (jE z).toArray), (.string J)] w (.bool r) := by
 refine cG 26 func246 rfl (fun b => sg (VE (kd b rfl (fun W2 M b => Wa (lS (Wm (V (kU cP rfl G) (Wm (ln ?_)))))))))
 refine kC (fun i E W => ∃ D, (E 11 = .int .i64 (i : Nat) ∧ E 10 = .int .i64 (H.length : Nat)) ∧ ST true kx w W (hp w) ((M, Ol (jE z) 27) :: D) ∧ E 2 = (.string J) ∧ E 4 = (.pointer (some ⟨M, 0, none⟩)) ∧ E 9 = y ∧ vM z J (H.drop i) = some r) H.length G.len ⟨_, ⟨rfl, rfl⟩, (b.jy St), rfl, rfl, rfl, hm⟩ dc dc dc (fun _ _ _ h => by obtain ⟨_, l, _⟩ := h; exact l) ?_ ?_
 ·rintro T E W n ⟨D, ⟨d, m⟩, b, t, u, x, c⟩
  obtain ⟨k, b6, v, p, a9⟩ := kp n
  rw [v] at c
  refine bg (VQ (na (enc := kz) (i := (T : Int)) (x0 := k) cP dC x d G (aG _) p) (fun P Q => V (jA rfl (kf b.has Q gr dC)) (VE (ku b eF (fun A O b => VO (jR (.agg (kz k).toArray) ((kz k).toArray) b rfl rfl dC (zB k) nb rfl (fun L b => lr (Wf xw (VA b Mh (jE k.ju) bn aN (V (jA u (jD b.has (Mt Mh) (jE z) rfl bn aN)) (V (uY rfl rfl (nf dV) (rb (pz _ k.ju z))) ?_)))))))))))
  refine Wm (LJ c (fun K E W => ∃ I, ST true kx w W (hp w) ((M, Ol (jE z) 27) :: I) ∧ E 2 = (.string J) ∧ E 4 = (.pointer (some ⟨M, 0, none⟩)) ∧ E 9 = y ∧ E 10 = (.int .i64 (H.length : Int)) ∧ E 11 = (.int .i64 (T : Int)) ∧ E 24 = (.bool K)) 5 ?_ (fun K j B => ?_))
  ·rintro R E W ⟨I, b, U, Y, Z, a3, a4, a5⟩ g
   refine ln (CI g a5 (fun N g => ?_) (fun N g => ?_))
   ·refine sg (Wa (ln ?_))
    replace b := b.jy (Db St)
    refine kh (mi (kw (mi (kw ?_))))
    obtain rfl := sj g
    exact rP b
   exact kX (kA (jI ⟨a4, _, ⟨rfl, a3⟩, (b.jy St), U, Y, Z, (by rw [a9]; exact g)⟩))
  refine bC j (fun a j => ?_) (fun a j => ?_)
  ·refine ug a (jG wk rfl) (ug a (jA rfl (jP b.has Mh rfl bM)) (ug a (jH t) (ug a (pM rfl rfl rfl) (V (jS (cB a) rfl) ?_))))
   obtain rfl := sj j
   exact B _ _ ⟨_, (b.jy (Db St)), t, u, x, m, d, rfl⟩
  refine un a (un a (un a (un a (V (jT (cB a) rfl) ?_))))
  obtain rfl := sj j
  exact B _ _ ⟨_, (b.jy (Db St)), t, u, x, m, d, rfl⟩
 rintro E W ⟨D, ⟨d, m⟩, b, t, u, x, c⟩
 rw [aH] at c
 refine jI ?_
 replace b := b.jy (Db St)
 exact sg (Wa (lt (rQ c b)))
theorem KH (k : Value) (M : List jN) (t : jv) (K : Value) (Y : List ByteArray) (H : ByteArray) (r : Bool) (w : World) (G : Sl (Pl kz) 3 (hp w) k M) (T : Sl (Pl tb) 1 (hp w) K Y) (hm : zh M t Y H = some r) :
  jV true pg0 247 [k, (.agg (jz t).toArray), K, (.string H)] w (.bool r) := by
 refine cG 62 func247 rfl (fun b => sg (VE (kd b rfl (fun W2 d b => Wa (lS (Wf pR (VB b Mh rfl rfl bY (Wi rfl (ln ?_)))))))))
 refine CI hm rfl (fun d0 hm => ?_) (fun d0 hm => ?_)
 ·refine sg (Wf vT (VB b Mh rfl rfl bM (Wm (V (pM rfl rfl rfl) (Wa (ln ?_))))))
  replace b := b.jy (Db St)
  refine kh (kw ?_)
  obtain rfl := sj hm
  exact rP b
 refine kS (Wf pR (VB b Mh rfl rfl bY (Wi rfl (ln (CI hm rfl (fun d1 hm => ?_) (fun d1 hm => ?_))))))
 ·refine sg (Wm (Wf nD (VA b Mh (jE t.B) bn aN (Wm (bS hm fun r5 d3 hm => VE (Eg b call246 (xe k M t.B H _ _ (G.mono (Pl.mono _) b.jB) d3) (fun W7 b => Wa (ln ?_))))))))
  replace b := b.jy (Db St)
  refine kh (kw ?_)
  obtain rfl := sj hm
  exact rP b
 refine kS (Wf pR (VB b Mh rfl rfl bY (Wi rfl (ln (CI hm rfl (fun d2 hm => ?_) (fun d2 hm => ?_))))))
 ·refine sg (Wm (Wf nD (VA b Mh (jE t.B) bn aN (Wm (bS hm fun r9 c7 hm => VE (Eg b call246 (xe k M t.B H _ _ (G.mono (Pl.mono _) b.jB) c7) (fun e1 b => Wm (LJ hm (fun A E W => ∃ p, ST true kx w W (hp w) p ∧ E 8 = (.bool false) ∧ E 40 = (.bool A)) 6 ?_ (fun A u U => ?_)))))))))
  ·rintro e5 E W ⟨p, b, e3, c9⟩ c6
   refine Wg c9 (lt (kw ?_))
   obtain rfl := sj c6
   exact rP b
  refine bC u (fun c u => ?_) (fun c u => ?_)
  ·refine ug c (jH rfl) (ug c (jG rV rfl) (ug c (jA rfl (jD b.has Mh (jE t.C) rfl bn aN)) (ug c (jH rfl) (bS u fun e4 c8 u => pE c (Eg b call246 (xe k M t.C H _ _ (G.mono (Pl.mono _) b.jB) c8) (fun e2 b => V (jS (cB c) rfl) ?_))))))
   obtain rfl := sj u
   exact U _ _ ⟨_, (b.jy (Db St)), rfl, rfl⟩
  refine un c (un c (un c (un c (un c (V (jT (cB c) rfl) ?_)))))
  obtain rfl := sj u
  exact U _ _ ⟨_, (b.jy (Db St)), rfl, rfl⟩
 refine kS (Wm (V (kU dw rfl T) (Wm (ln (kC (fun i E W => ∃ Q, (E 43 = .int .i64 (i : Nat) ∧ E 42 = .int .i64 (Y.length : Nat)) ∧ ST true kx w W (hp w) ((d, Ol (jz t) 52) :: Q) ∧ E 0 = k ∧ E 3 = (.string H) ∧ E 5 = (.pointer (some ⟨d, 0, none⟩)) ∧ E 41 = K ∧ ux M t H (Y.drop i) = some r) Y.length T.len ⟨_, ⟨rfl, rfl⟩, (b.jy St), rfl, rfl, rfl, rfl, hm⟩ dc dc dc (fun _ _ _ h => by obtain ⟨_, m, _⟩ := h; exact m) ?_ ?_)))))
 ·rintro a4 E W O ⟨Q, ⟨l, n⟩, b, B, I, D, J, g⟩
  obtain ⟨z, d4, b4, b3, b5⟩ := kp O
  rw [b4] at g
  refine bg (VQ (na (enc := tb) (i := (a4 : Int)) (x0 := z) dw ej J l T (aG _) b3) (fun d7 a9 => V (jA rfl (pA b.has (y := (.string z)) a9 bM)) (Wa (lr (Wh B (V (jG nD D) (VA b Mh (jE t.B) bn aN (Wm (bS g fun d8 P g => ?_)))))))))
  refine VE (Eg b call246 (xe k M t.B z _ _ (G.mono (Pl.mono _) b.jB) P) (fun d5 b => Wm (LJ g (fun a5 E W => ∃ Z, ST true kx w W (hp w) ((d, Ol (jz t) 52) :: Z) ∧ E 0 = k ∧ E 3 = (.string H) ∧ E 5 = (.pointer (some ⟨d, 0, none⟩)) ∧ E 41 = K ∧ E 42 = (.int .i64 (Y.length : Int)) ∧ E 43 = (.int .i64 (a4 : Int)) ∧ E 60 = (.bool a5)) 8 ?_ (fun a5 j N => ?_))))
  ·rintro e0 E W ⟨Z, b, b9, c0, c1, c2, c3, c4, c5⟩ x
   refine ln (CI x c5 (fun L x => ?_) (fun L x => ?_))
   ·refine sg (Wa (ln ?_))
    replace b := b.jy (Db St)
    refine kh (mi (kw (mi (kw ?_))))
    obtain rfl := sj x
    exact rP b
   exact kX (kA (jI ⟨c4, _, ⟨rfl, c3⟩, (b.jy St), b9, c0, c1, c2, (by rw [b5]; exact x)⟩))
  refine bC j (fun a j => ?_) (fun a j => ?_)
  ·refine ug a (jH B) (ug a (jH rfl) (ug a (jG uD D) (ug a (jA rfl (jP b.has Mh rfl bM)) (ug a (lC (v := (.agg (jE (⟨z, t.kL⟩ : ju)).toArray)) (pw rfl rfl) (kW ee dA (Kc _ dA) kr)) (ug a (jH I) (bS j fun d9 R j => pE a (Eg b call246 (xe k M (⟨z, t.kL⟩ : ju) H _ _ (G.mono (Pl.mono _) b.jB) R) (fun d6 b => V (jS (cB a) rfl) ?_))))))))
   obtain rfl := sj j
   exact N _ _ ⟨_, (b.jy St), B, I, D, J, n, l, rfl⟩
  refine un a (un a (un a (un a (un a (un a (un a (V (jT (cB a) rfl) ?_)))))))
  obtain rfl := sj j
  exact N _ _ ⟨_, (b.jy St), B, I, D, J, n, l, rfl⟩
 rintro E W ⟨Q, ⟨l, n⟩, b, B, I, D, J, g⟩
 rw [aH] at g
 refine jI ?_
 replace b := b.jy (Db St)
 exact sg (Wa (lt (rQ g b)))
theorem E5 (j k : jN) (r : Bool) (w : World) (hm : tE j k = some r) :
  jV true pg0 304 [(.agg (kz j).toArray), (.agg (kz k).toArray)] w (.bool r) := by
 refine cG 24 func304 rfl (fun b => sg (VE (kd b rfl (fun Y d b => VE (kd b rfl (fun Z h b => Wa (lr (Wf xw (VA b (Mt Mh) (jE j.ju) bn aN (Wf xw (VA b Mh (jE k.ju) bn aN (bS hm fun N M hm => ?_))))))))))))
 refine VE (Eg b call161 (Fb j.ju k.ju _ _  M) (fun W7 b => Wm (LJ hm (fun z E W => ∃ x, ST true kx w W (hp w) x ∧ E 4 = (.bool false) ∧ E 23 = (.bool z)) 13 ?_ (fun z g t => ?_))))
 ·rintro T E W ⟨x, b, Q, H⟩ D
  exact Wg H (lt (rQ D b))
 refine bC g (fun a g => ?_) (fun a g => ?_)
 ·refine un a (un a (un a (un a (un a (un a (Vu rfl rfl (Vu rfl rfl (Vu rfl rfl (Vu rfl rfl (Vu rfl rfl (un a (V (jS (cB a) rfl) ?_))))))))))))
  obtain rfl := sj g
  exact t _ _ ⟨_, (b.jy (Db (Db St))), rfl, rfl⟩
 refine ug a (jG xw rfl) (ug a (jA rfl (jD b.has (Mt Mh) (jE j.ju) rfl bn aN)) (ug a (jG xw rfl) (ug a (jA rfl (jD b.has Mh (jE k.ju) rfl bn aN)) (ug a (uY rfl rfl (nf dV) (rb (pz _ j.ju k.ju))) (ug a (jH rfl) (LJ g (fun B E W => ∃ y, ST true kx w W (hp w) y ∧ E 4 = (.bool false) ∧ E 10 = (.bool N) ∧ E 22 = (.bool B)) 6 ?_ (fun B i u => ?_)))))))
 ·rintro U E W ⟨y, b, I, J, K⟩ G
  refine V (jT (J.trans (cB a)) K) ?_
  obtain rfl := sj G
  exact t _ _ ⟨_, (b.jy St), I, rfl⟩
 refine bC i (fun c i => ?_) (fun c i => ?_)
 ·refine ug c (jG wk rfl) (ug c (jA rfl (jP b.has (Mt Mh) rfl bM)) (ug c (jG wk rfl) (ug c (jA rfl (jP b.has Mh rfl bM)) (ug c (pM rfl rfl rfl) (ug a (jS (cB c) rfl) ?_)))))
  obtain rfl := sj i
  exact u _ _ ⟨_, (b.jy (Db (Db St))), rfl, rfl, rfl⟩
 refine un c (un c (un c (un c (un c (ug a (jT (cB c) rfl) ?_)))))
 obtain rfl := sj i
 exact u _ _ ⟨_, (b.jy (Db (Db St))), rfl, rfl, rfl⟩
theorem IW (I : Value) (Q r : List jN) (w : World) (Y : Sl (Pl kz) 3 (hp w) I Q) (hm : zQ Q = some r) :
  lV true pg0 248 [I] w 285 kz 3 r := by
 refine vi 56 func248 rfl (fun d => sg (Wa (lr (Wa (lS (Wm ?_))))))
 refine V (kU cP rfl Y) (Wm (ln (kC (fun i E W => ∃ y N x a9, (E 9 = .int .i64 (i : Nat) ∧ E 8 = .int .i64 (Q.length : Nat)) ∧ ST true kx w W (hp w) (x ++ a9) ∧ E 0 = I ∧ E 3 = y ∧ jZ 285 kz 3 y N x ∧ oF Q (Q.drop i) N = some r) Q.length Y.len ⟨(.slice none 0 0), ([]), [], _, ⟨rfl, rfl⟩, (d.jy St), rfl, rfl, (jZ.nil _ _ _), hm⟩ dc dc dc (fun _ _ _ h => by obtain ⟨_, _, _, _, n, _⟩ := h; exact n) ?_ ?_)))
 ·rintro a7 E W i6 ⟨y, N, x, a9, ⟨m, L⟩, d, b1, b2, z, D⟩
  obtain ⟨l2, l1, i7, k2, e4⟩ := kp i6
  rw [i7] at D
  refine bg (Wa (lS (Wh b1 (V (kU cP rfl Y) (Wm (ln (CJ D (fun c5 E W => ∃ c9, ST true kx w W (hp w) (x ++ c9) ∧ E 0 = I ∧ E 3 = y ∧ E 4 = (.int .i64 c5) ∧ E 8 = (.int .i64 (Q.length : Int)) ∧ E 9 = (.int .i64 (a7 : Int))) (fun c5 f5 => ?_) ?_)))))))
  ·let g5 : Value := (.int .i64 (a7 : Int))
   let a0 : Value := (.int .i64 (Q.length : Int))
   refine kC (fun i E W => ∃ B b0, (E 13 = .int .i64 (i : Nat) ∧ E 12 = .int .i64 (Q.length : Nat)) ∧ ST true kx w W (hp w) (x ++ b0) ∧ E 0 = I ∧ E 3 = y ∧ E 4 = (.int .i64 B) ∧ E 8 = a0 ∧ E 9 = g5 ∧ E 11 = I ∧ oI N Q (Q.drop i) i B = some c5) Q.length Y.len ⟨(-1), _, ⟨rfl, rfl⟩, (d.jy St), b1, b2, rfl, L, m, rfl, f5⟩ dc dc dc (fun _ _ _ h => by obtain ⟨_, _, n, _⟩ := h; exact n) ?_ ?_
   ·rintro H E W f4 ⟨B, b0, ⟨m, L⟩, d, O, J, a2, a3, a4, a5, G⟩
    let b8 : Value := (.int .i64 (H : Int))
    obtain ⟨j, j5, g7, g4, c7⟩ := kp f4
    rw [g7] at G
    refine bg (Wh m (VQ (na (enc := kz) (i := (H : Int)) (x0 := j) cP dC a5 m Y (aG _) g4) (fun k4 f9 => V (jA rfl (kf d.has f9 gr dC)) (VE (ku d eF (fun j8 Z d => Wa (VO (jR (.agg (kz j).toArray) ((kz j).toArray) d rfl rfl dC (zB j) nb rfl (fun j9 d => ln (jM ?_))))))))))
    replace d := d.drew
    have b := d.has.jy (Kb (Kr Sn))
    refine kI b kl (X 0 rfl b (jH J) (X 1 rfl b (nw cP rfl z) (X 2 rfl b (kG rfl rfl rfl) (X 3 rfl b (jH rfl) (PJ G (fun e7 E W => ∃ d0, ST true kx w W (hp w) ((Z, Ol (kz j) 285) :: (x ++ d0)) ∧ E 0 = I ∧ E 3 = y ∧ E 4 = (.int .i64 B) ∧ E 5 = b8 ∧ E 6 = (.pointer (some ⟨Z, 0, none⟩)) ∧ E 8 = a0 ∧ E 9 = g5 ∧ E 11 = I ∧ E 12 = a0 ∧ E 13 = b8 ∧ E 30 = (.bool e7)) (bm 25 8191) 12 ?_ (fun e7 u c4 => ?_))))))
    ·rintro j3 E W ⟨d0, d, P, b4, T, b5, h0, b6, b7, b9, c0, c1, h1⟩ f6
     have b := d.has.jy (Kb (Kr Sn))
     refine X 13 rfl b (jH h1) (PJ f6 (fun e5 E W => ∃ d1, ST true kx w W (hp w) ((Z, Ol (kz j) 285) :: (x ++ d1)) ∧ E 0 = I ∧ E 3 = y ∧ E 4 = (.int .i64 B) ∧ E 5 = b8 ∧ E 8 = a0 ∧ E 9 = g5 ∧ E 11 = I ∧ E 12 = a0 ∧ E 13 = b8 ∧ E 42 = (.bool e5)) (bm 25 33554431) 0 ?_ (fun e5 M c2 => ?_))
     ·rintro k9 E W ⟨d1, d, d7, d8, h2, h3, d9, e0, e1, e2, e3, h4⟩ K
      refine kT kr (jI ?_)
      replace d := d.jy (Db St)
      refine CI K h4 (fun f3 K => ?_) (fun f3 K => ?_)
      ·exact jL (Wh h3 (Wa (kk (kA (jI ⟨e3, (H : Int), _, ⟨rfl, e2⟩, (d.jy St), d7, d8, rfl, d9, e0, e1, (by rw [c7]; exact K)⟩)))))
      exact kX (kA (jI ⟨e3, B, _, ⟨rfl, e2⟩, (d.jy St), d7, d8, h2, d9, e0, e1, (by rw [c7]; exact K)⟩))
     refine bC M (fun g M => ?_) (fun g M => ?_)
     ·refine Xg 14 rfl rfl (cB g) b (jH T) (Xg 15 rfl rfl (cB g) b (kG rfl rfl rfl) (Xg 16 rfl rfl (cB g) b (jH rfl) (PJ M (fun e6 E W => ∃ d2, ST true kx w W (hp w) ((Z, Ol (kz j) 285) :: (x ++ d2)) ∧ E 0 = I ∧ E 3 = y ∧ E 4 = (.int .i64 B) ∧ E 5 = b8 ∧ E 8 = a0 ∧ E 9 = g5 ∧ E 11 = I ∧ E 12 = a0 ∧ E 13 = b8 ∧ E 31 = (.bool j3) ∧ E 41 = (.bool e6)) (bm 25 16777215) 1 ?_ (fun e6 t c3 => ?_))))
      ·rintro l0 E W ⟨d2, d, h5, h6, h7, h8, h9, i0, i1, i2, i3, i4, i5⟩ f7
       have b := d.has.jy (Kb (Kr Sn))
       refine X 24 rfl b (jS (i4.trans (cB g)) i5) ?_
       obtain rfl := sj f7
       refine nu kr (c2 _ _ ⟨_, (d.jy St), h5, h6, h7, h8, h9, i0, i1, i2, i3, rfl⟩)
      refine bC t (fun c t => ?_) (fun c t => ?_)
      ·refine Xn 17 rfl rfl (cB c) b (Xn 18 rfl rfl (cB c) b (Xn 19 rfl rfl (cB c) b (Xn 20 rfl rfl (cB c) b (Xn 21 rfl rfl (cB c) b (Xn 22 rfl rfl (cB c) b (Xg 23 rfl rfl (cB g) b (jS (cB c) rfl) ?_))))))
       obtain rfl := sj t
       refine nu kr (c3 _ _ ⟨_, (d.jy St), P, b4, T, b5, b6, b7, b9, c0, c1, rfl, rfl⟩)
      refine ub 17 rfl rfl (cB c) b (fun _ A => jA h0 (jD A Mh (kz j) rfl gr dC)) (Xg 18 rfl rfl (cB c) b (jH P) (Xg 19 rfl rfl (cB c) b (jH T) (bS t fun e8 c8 t => sL 20 rfl kr (.inr ⟨16, false, 34, rfl, rfl, by decide, (cB c)⟩) rfl dc (fun _ _ h => h) b (na (enc := kz) (i := B) (x0 := e8) cP dC rfl rfl Y (ky c8) (kv c8)) (fun k5 g0 => ub 21 rfl rfl (cB c) b (fun _ A => jA rfl (kf A g0 gr dC)) (bS t fun k7 g2 t => El 22 rfl rfl (cB c) (Eg d call304 (E5 j e8 _ _  g2) (fun k0 d => ?_)))))))
      have b := d.has.jy (Kb (Kr Sn))
      refine ⟨b, (Xg 23 rfl rfl (cB g) b (jT (cB c) rfl) ?_)⟩
      obtain rfl := sj t
      refine nu kr (c3 _ _ ⟨_, (d.jy St), P, b4, T, b5, b6, b7, b9, c0, c1, rfl, rfl⟩)
     refine Xn 14 rfl rfl (cB g) b (Xn 15 rfl rfl (cB g) b (Xn 16 rfl rfl (cB g) b (Xu 17 rfl rfl rfl b (Xu 18 rfl rfl rfl b (Xu 19 rfl rfl rfl b (Xu 20 rfl rfl rfl b (Xu 21 rfl rfl rfl b (Xu 22 rfl rfl rfl b (Xn 23 rfl rfl (cB g) b (X 24 rfl b (jT (cB g) rfl) ?_))))))))))
     obtain rfl := sj M
     refine nu kr (c2 _ _ ⟨_, (d.jy St), P, b4, T, b5, b6, b7, b9, c0, c1, rfl⟩)
    refine bC u (fun a u => ?_) (fun a u => ?_)
    ·refine Xn 4 rfl rfl (cB a) b (Xn 5 rfl rfl (cB a) b (Xn 6 rfl rfl (cB a) b (Xn 7 rfl rfl (cB a) b (Xn 8 rfl rfl (cB a) b (Xn 9 rfl rfl (cB a) b (Xn 10 rfl rfl (cB a) b (Xn 11 rfl rfl (cB a) b (X 12 rfl b (jS (cB a) rfl) ?_))))))))
     obtain rfl := sj u
     refine nu kr (c4 _ _ ⟨_, (d.jy St), O, J, a2, rfl, rfl, a3, a4, a5, L, m, rfl⟩)
    refine Xg 4 rfl rfl (cB a) b (jH J) (Xg 5 rfl rfl (cB a) b (jH J) (Xg 6 rfl rfl (cB a) b (nw cP rfl z) (Xg 7 rfl rfl (cB a) b (kG rfl rfl rfl) (bS u fun e9 a8 u => sL 8 rfl kr (.inr ⟨3, false, 21, rfl, rfl, by decide, (cB a)⟩) rfl dc (fun _ _ h => h) b (nU (i := (wi0 .i64 ((N.length : Int) - 1))) (x0 := e9) cP dC rfl rfl z (ky a8) (kv a8)) (fun k6 g1 => ub 9 rfl rfl (cB a) b (fun _ A => jA rfl (sP A (fun p hq => (Mt (Ml hq))) z pN g1 (kv a8) gr dC)) (ub 10 rfl rfl (cB a) b (fun _ A => jA rfl (jD A Mh (kz j) rfl gr dC)) (bS u fun k8 g3 u => El 11 rfl rfl (cB a) (Eg d call304 (E5 e9 j _ _  g3) (fun k1 d => ?_)))))))))
    have b := d.has.jy (Kb (Kr Sn))
    refine ⟨b, (X 12 rfl b (jT (cB a) rfl) ?_)⟩
    obtain rfl := sj u
    refine nu kr (c4 _ _ ⟨_, (d.jy St), O, J, a2, rfl, rfl, a3, a4, a5, L, m, rfl⟩)
   rintro E W ⟨B, b0, ⟨m, L⟩, d, O, J, a2, a3, a4, a5, G⟩
   rw [aH] at G
   refine jI ?_
   obtain rfl := sj G
   exact ⟨_, (d.jy St), O, J, a2, a3, a4⟩
  rintro j0 E W ⟨c9, d, b3, d3, d4, d5, d6⟩ k
  refine sg (Wh d4 (Wi rfl (ln (CI k rfl (fun f1 k => ?_) (fun f1 k => ?_)))))
  ·refine jL (Wh d3 (Wh b3 (Wh d4 (bS k fun U c6 k => VQ (na (enc := kz) (i := j0) (x0 := U) cP dC rfl rfl Y (ky c6) (kv c6)) (fun k3 f8 => V (jA rfl (kf d.has f8 gr dC)) (VE (kq (cs := (kz U).toArray) d (lW rfl) (mr cP dC eF) (fun j6 g9 d => ?_))))))))
   replace d := d.perm (Nr (Qb Qz) Nz)
   refine bS k fun i8 f2 k => VE (nW (enc := kz) (v := y) (vs := (.slice (some ⟨g9, 0, none⟩) 1 1)) (R := x) d pN dc zB cP uk.1 uk.2.1 rfl uk.2.2.1 uk.2.2.2 rfl rfl z (Sl.lit (enc := kz) (l := [U]) pN rfl nb rfl (d.at_ (Ma Mh))) f2 (fun j7 i9 g8 d f0 => Wa (kk (kA (jI ?_)))))
   replace d := d.jy (Kr (Db St))
   exact ⟨d6, i9, i8, g8, _, ⟨rfl, d5⟩, (d.jy St), b3, rfl, f0, (by rw [e4]; exact k)⟩
  exact kX (kA (jI ⟨d6, y, N, x, _, ⟨rfl, d5⟩, (d.jy St), b3, d3, z, (by rw [e4]; exact k)⟩))
 rintro E W ⟨y, N, x, a9, ⟨m, L⟩, d, b1, b2, z, D⟩
 rw [aH] at D
 refine jI (sg (Wh b2 (Wa (lt ?_))))
 obtain rfl := sj D
 exact lB (v := y) rfl rfl ⟨_, x, rfl, d.nM (fun p hq => (Ml hq)) z.nd, z⟩
theorem Ik (f8 : Value) (a0 : List jv) (r : List jN) (w : World) (k8 : Sl (Pl jz) 9 (hp w) f8 a0) (hm : vB a0 = some r) :
  lV true pg0 183 [f8] w 285 kz 3 r := by
 refine vi 53 func183 rfl (fun d => sg (Wa (lr (Wm (bS hm fun r1 m0 hm => VE (tU d call84 (Gk f8 a0 _ _ (k8.mono (Pl.mono _) d.jB) m0) (fun W3 v7 ae R8 d n0 ad f3 => Wa (ln (jM ?_)))))))))
 refine jL (Wm (bS hm fun L l0 hm => VE (tU d call245 (JC v7 r1 _ _ (f3.sl kM (fun b o n => d.at_ (Ml n))) l0) (fun n2 A d7 d1 d m9 ab c8 => Wa (lr (Wa (ln (pk (kZ (mG (fun m E W => ∃ c0 b9 b7 d8, ST true kx w W d7 (b7 ++ (d1 ++ (R8 ++ d8))) ∧ E 3 = v7 ∧ E 4 = A ∧ E 5 = c0 ∧ jZ 285 kz 3 c0 b9 b7 ∧ um L r1 m b9 = some r) ki ⟨(.slice none 0 0), ([]), [], _, (d.jy St), rfl, rfl, rfl, (jZ.nil _ _ _), hm⟩ ?_))))))))))
 rintro m E W ⟨c0, b9, b7, d8, d, e2, i3, i4, k0, Y⟩
 cases m with
 | zero => rw [um] at Y; cases Y
 | succ k3 =>
  refine bg (Wa (lS (Wh e2 (V (nw aP rfl f3) (Wm (ln (CJ Y (fun b1 E W => ∃ T Z d9, ST true kx w W d7 (Z ++ (d1 ++ (R8 ++ d9))) ∧ E 3 = v7 ∧ E 4 = A ∧ E 5 = T ∧ E 6 = (.bool b1.2) ∧ jZ 285 kz 3 T b1.1 Z) (fun b1 g8 => ?_) ?_)))))))
  ·refine kC (fun i E W => ∃ J Q H U c1, (E 17 = .int .i64 (i : Nat) ∧ E 16 = .int .i64 (r1.length : Nat)) ∧ ST true kx w W d7 (H ++ (d1 ++ (R8 ++ c1))) ∧ E 3 = v7 ∧ E 4 = A ∧ E 5 = J ∧ E 6 = (.bool U) ∧ E 15 = v7 ∧ jZ 285 kz 3 J Q H ∧ we L (r1.drop i) Q U = some b1) r1.length f3.len ⟨c0, b9, b7, false, _, ⟨rfl, rfl⟩, (d.jy St), e2, i3, i4, rfl, rfl, k0, g8⟩ dc dc dc (fun _ _ _ h => by obtain ⟨_, _, _, _, _, P, _⟩ := h; exact P) ?_ ?_
   ·rintro b0 E W g4 ⟨J, Q, H, U, c1, ⟨O, eN⟩, d, c3, a3, c4, c5, c6, b5, u⟩
    obtain ⟨a, l1, h7, d4, h8⟩ := kp g4
    rw [h7] at u
    refine bg (VQ (nU (i := (b0 : Int)) (x0 := a) aP aJ c6 O f3 (aG _) d4) (fun m1 h1 => V (jA rfl (sP d.has (fun p n => (Ma (Ma (Ml n)))) f3 kM h1 d4 bR aJ)) (VE (ku d cO (fun l4 a2 d => VO (jR (.agg (jz a).toArray) ((jz a).toArray) d rfl rfl aJ (nz a) nb rfl (fun l5 d => lr (Wh a3 (V (nw dw rfl c8) (Wm (kk ?_)))))))))))
    let b8 : Value := (.int .i64 (r1.length : Int))
    refine jI (pk (CJ u (fun b2 E W => ∃ b3 a1 e0, ST true kx w W d7 (a1 ++ (d1 ++ (R8 ++ e0))) ∧ E 3 = v7 ∧ E 4 = A ∧ E 5 = b3 ∧ E 6 = (.bool b2.2) ∧ E 15 = v7 ∧ E 16 = b8 ∧ E 17 = (.int .i64 (b0 : Int)) ∧ jZ 285 kz 3 b3 b2.1 a1) (fun b2 h0 => ?_) ?_))
    ·refine kC (fun i E W => ∃ k G B K c2, (E 23 = .int .i64 (i : Nat) ∧ E 22 = .int .i64 (L.length : Nat)) ∧ ST true kx w W d7 ((a2, Ol (jz a) 52) :: (B ++ (d1 ++ (R8 ++ c2)))) ∧ E 3 = v7 ∧ E 4 = A ∧ E 5 = k ∧ E 6 = (.bool K) ∧ E 8 = (.pointer (some ⟨a2, 0, none⟩)) ∧ E 15 = v7 ∧ E 16 = b8 ∧ E 17 = (.int .i64 (b0 : Int)) ∧ E 21 = A ∧ jZ 285 kz 3 k G B ∧ uq a L (L.drop i) G K = some b2) L.length c8.len ⟨J, Q, H, U, _, ⟨rfl, rfl⟩, (d.jy St), c3, a3, c4, c5, rfl, c6, eN, O, rfl, b5, h0⟩ dc dc dc (fun _ _ _ h => by obtain ⟨_, _, _, _, _, P, _⟩ := h; exact P) ?_ ?_
     ·rintro f4 E W g7 ⟨k, G, B, K, c2, ⟨O, eN⟩, d, a4, M, I, a5, N, a6, a7, a8, a9, D, j⟩
      obtain ⟨g, l2, h9, d5, d6⟩ := kp g7
      rw [h9] at j
      refine bg (VQ (nU (i := (f4 : Int)) (x0 := g) dw ej a9 O c8 (aG _) d5) (fun m2 h2 => V (jA rfl (DB d.has (fun p n => (Mt (Ma (Ml n)))) c8 (fun _ => rfl) h2 d5 (y := (.string g)) rfl bM)) (Wa (lr (Wh I (V (jG qp N) (VA d Mh (jE a.Head) bn aN (Wm (bS j fun m4 h4 j => ?_)))))))))
      refine VE (Eg d call246 (xe k G a.Head g _ _ (D.sl pN (fun b o n => d.at_ (Mt (Ml n)))) h4) (fun l6 d => V (mT rfl) (Wm (LJ j (fun f7 E W => ∃ e1, ST true kx w W d7 ((a2, Ol (jz a) 52) :: (B ++ (d1 ++ (R8 ++ e1)))) ∧ E 3 = v7 ∧ E 4 = A ∧ E 5 = k ∧ E 6 = (.bool K) ∧ E 8 = (.pointer (some ⟨a2, 0, none⟩)) ∧ E 10 = (.string g) ∧ E 15 = v7 ∧ E 16 = b8 ∧ E 17 = (.int .i64 (b0 : Int)) ∧ E 21 = A ∧ E 22 = (.int .i64 (L.length : Int)) ∧ E 23 = (.int .i64 (f4 : Int)) ∧ E 39 = (.bool f7)) 6 ?_ (fun f7 z c9 => ?_)))))
      ·rintro m7 E W ⟨e1, d, e4, e5, e6, j7, c7, j8, e7, e8, e9, f0, f1, f2, j9⟩ x
       refine ln (CI x j9 (fun g2 x => ?_) (fun g2 x => ?_))
       ·refine sg (Wh e6 (V (jG qp c7) (VA d Mh (jE a.Head) bn aN (Wh j8 (V (lC (v := (.agg (kz (⟨a.Head, g⟩ : jN)).toArray)) (pw rfl rfl) (kW eF eG (MP _ eG) kr)) (VE (kq (cs := (kz (⟨a.Head, g⟩ : jN)).toArray) d (lW rfl) (mr cP dC eF) (fun l7 i2 d => ?_))))))))
        replace d := d.perm (Nr (Qb (Qb Qz)) Nz)
        refine bS x fun k2 g3 x => VE (nW (enc := kz) (v := k) (vs := (.slice (some ⟨i2, 0, none⟩) 1 1)) (R := B) d pN dc zB cP uk.1 uk.2.1 rfl uk.2.2.1 uk.2.2.2 rfl rfl D (Sl.lit (enc := kz) (l := [(⟨a.Head, g⟩ : jN)]) pN rfl nb rfl (d.at_ (Ma Mh))) g3 (fun l8 k5 i1 d g0 => Wa (ln ?_)))
        replace d := d.jy (Kr (Db St))
        exact jL (Wa (kk (kA (jI ⟨f2, k5, k2, i1, true, _, ⟨rfl, f1⟩, (d.jy (Sb (Pr Pz) St)), e4, e5, rfl, rfl, c7, e7, e8, e9, f0, g0, (by rw [d6]; exact x)⟩))))
       exact kX (kA (jI ⟨f2, k, G, B, K, _, ⟨rfl, f1⟩, (d.jy St), e4, e5, e6, j7, c7, e7, e8, e9, f0, D, (by rw [d6]; exact x)⟩))
      refine bC z (fun c z => ?_) (fun c z => ?_)
      ·refine ug c (jH I) (ug c (jA N (jD d.has Mh (jz a) rfl bR aJ)) (ug c (jH M) (ug c (jH rfl) (bS z fun m5 h5 z => pE c (Eg d call247 (KH k G a A L g _ _ (D.sl pN (fun b o n => d.at_ (Mt (Ml n)))) (c8.sl (fun _ => rfl) (fun b o n => d.at_ (Mt (Ma (Ml n))))) h5) (fun l9 d => V (jS (cB c) rfl) ?_))))))
       obtain rfl := sj z
       exact c9 _ _ ⟨_, (d.jy St), a4, M, I, a5, N, rfl, a6, a7, a8, a9, eN, O, rfl⟩
      refine un c (un c (un c (un c (un c (V (jT (cB c) rfl) ?_)))))
      obtain rfl := sj z
      exact c9 _ _ ⟨_, (d.jy St), a4, M, I, a5, N, rfl, a6, a7, a8, a9, eN, O, rfl⟩
     rintro E W ⟨k, G, B, K, c2, ⟨O, eN⟩, d, a4, M, I, a5, N, a6, a7, a8, a9, D, j⟩
     rw [aH] at j
     refine jI ?_
     obtain rfl := sj j
     exact ⟨k, B, _, (d.jy (Db St)), a4, M, I, a5, a6, a7, a8, D⟩
    rintro ⟨k1, k6⟩ E W ⟨b3, a1, e0, d, i8, i9, j0, j3, j4, j5, j6, h6⟩ g9
    exact kA (jI ⟨j6, b3, k1, a1, k6, _, ⟨rfl, j5⟩, (d.jy St), i8, i9, j0, j3, j4, h6, (by rw [h8]; exact g9)⟩)
   rintro E W ⟨J, Q, H, U, c1, ⟨O, eN⟩, d, c3, a3, c4, c5, c6, b5, u⟩
   rw [aH] at u
   refine jI ?_
   obtain rfl := sj u
   exact ⟨J, H, _, (d.jy St), c3, a3, c4, c5, b5⟩
  rintro ⟨f5, m6⟩ E W ⟨T, Z, d9, d, i5, i6, e3, i7, d3⟩ t
  refine sg (Wh i7 (V (mT rfl) (ln (CI t rfl (fun g1 t => ?_) (fun g1 t => ?_)))))
  ·refine sg (Wh e3 (bS t fun m3 h3 t => VE (tU d call248 (IW T f5 _ _ (d3.sl pN (fun b o n => d.at_ (Ml n))) h3) (fun l3 k4 m8 i0 d k9 aa d2 => Wa (ln ?_)))))
   replace d := d.jy (Kr (Dr (Dr (Dr St))))
   refine kh (mi (kw (mi (kw ?_))))
   obtain rfl := sj t
   exact lB (v := k4) rfl rfl ⟨_, i0, rfl, d.nM (fun p n => (Ml n)) d2.nd, d2⟩
  exact kX (kA (jI ⟨k3, bG _, T, f5, Z, _, (d.jy St), i5, i6, e3, d3, t⟩))
theorem Ef (D : Value) (G : List jN) (I : ByteArray) (r : List ju) (w : World) (B : Sl (Pl kz) 3 (hp w) D G) (hm : sK G I = some r) :
  lV true pg0 182 [D, (.string I)] w 27 jE 2 r := by
 refine vi 25 func182 rfl (fun b => sg (Wa (lr (Wa (lS (Wm ?_))))))
 refine V (kU cP rfl B) (Wm (ln (kC (fun i E W => ∃ k y g z, (E 10 = .int .i64 (i : Nat) ∧ E 9 = .int .i64 (G.length : Nat)) ∧ ST true kx w W (hp w) (g ++ z) ∧ E 1 = (.string I) ∧ E 5 = k ∧ E 8 = D ∧ jZ 27 jE 2 k y g ∧ qi I (G.drop i) y = some r) G.length B.len ⟨(.slice none 0 0), ([]), [], _, ⟨rfl, rfl⟩, (b.jy St), rfl, rfl, rfl, (jZ.nil _ _ _), hm⟩ dc dc dc (fun _ _ _ h => by obtain ⟨_, _, _, _, m, _⟩ := h; exact m) ?_ ?_)))
 ·rintro a4 E W U ⟨k, y, g, z, ⟨d, n⟩, b, t, u, x, j, a⟩
  obtain ⟨c, b1, Z, Y, H⟩ := kp U
  rw [Z] at a
  refine bg (VQ (na (enc := kz) (i := (a4 : Int)) (x0 := c) cP dC x d B (aG _) Y) (fun b0 N => V (jA rfl (kf b.has N gr dC)) (VE (ku b eF (fun a5 a9 b => VO (jR (.agg (kz c).toArray) ((kz c).toArray) b rfl rfl dC (zB c) nb rfl (fun L b => lr (Wf wk (VB b Mh rfl rfl bM (Wh t (V (pM rfl rfl rfl) ?_)))))))))))
  refine ln (CI a rfl (fun K a => ?_) (fun K a => ?_))
  ·refine jL (Wh u (Wf xw (VA b Mh (jE c.ju) bn aN (VE (kq (cs := (jE c.ju).toArray) b (lW rfl) (mr eo aN ee) (fun O T b => ?_))))))
   replace b := b.perm (Nr (Qb (Qb Qz)) Nz)
   refine bS a fun a2 M a => VE (nW (enc := jE) (v := k) (vs := (.slice (some ⟨T, 0, none⟩) 1 1)) (R := g) b xq dc vt eo vW.1 vW.2.1 rfl vW.2.2.1 vW.2.2.2 rfl rfl j (Sl.lit (enc := jE) (l := [c.ju]) xq rfl nb rfl (b.at_ (Ma Mh))) M (fun P a3 Q b J => Wa (kk (kA (jI ?_)))))
   replace b := b.jy (Kr (Db (Db St)))
   exact ⟨d, a3, a2, Q, _, ⟨rfl, n⟩, (b.jy St), t, rfl, x, J, (by rw [H]; exact a)⟩
  refine kX (kA (jI ?_))
  replace b := b.jy (Db St)
  exact ⟨d, k, y, g, _, ⟨rfl, n⟩, (b.jy St), t, u, x, j, (by rw [H]; exact a)⟩
 rintro E W ⟨k, y, g, z, ⟨d, n⟩, b, t, u, x, j, a⟩
 rw [aH] at a
 refine jI (sg (Wh u (Wa (lt ?_))))
 obtain rfl := sj a
 exact lB (v := k) rfl rfl ⟨_, g, rfl, b.nM (fun p A => (Ml A)) j.nd, j⟩
theorem Fh (G : Formula → Option Int) (K : ∀ (j : Formula) (g : Value) (r : Int) (w : World) (c : Sl jx 5 (hp w) g j.Kids), G j = some r → jV false pg0 138 [(.agg #[(.int .i64 j.Op), (.int .i64 j.K), (.string j.ju.jw), (.string j.ju.Word), g])] w (.int .i64 r)) (j : Formula) (g : Value) (r : Int) (w : World) (c : Sl jx 5 (hp w) g j.Kids) (hm : wS G j = some r) :
  jV false pg0 138 [(.agg #[(.int .i64 j.Op), (.int .i64 j.K), (.string j.ju.jw), (.string j.ju.Word), g])] w (.int .i64 r) := by
 refine cG 19 func138 rfl (fun b => sg ?_)
 obtain ⟨U, Y, rfl⟩ := c.form
 refine VE (kd b rfl (fun W4 A b => Wa (lr (Wa (lS (Wf np (VB b Mh rfl rfl dJ (V (kU aD rfl c) ?_))))))))
 refine Wm (ln ?_)
 replace b := b.jy (Db St)
 refine kC (fun i E W => ∃ x z, (E 9 = .int .i64 (i : Nat) ∧ E 8 = .int .i64 (j.Kids.length : Nat)) ∧ ST false kx w W (hp w) z ∧ E 3 = (.int .i64 x) ∧ E 7 = (.slice U j.Kids.length Y) ∧ rG G (j.Kids.drop i) x = some r) j.Kids.length c.len ⟨1, _, ⟨rfl, rfl⟩, (b.jy St), rfl, rfl, hm⟩ dc dc dc (fun _ _ _ h => by obtain ⟨_, _, l, _⟩ := h; exact l) ?_ ?_
 ·rintro Z E W J ⟨x, z, ⟨d, m⟩, b, B, D, k⟩
  obtain ⟨a, v, N, M, Q⟩ := kp J
  rw [N] at k
  refine bg (VQ (lU (i := (Z : Int)) (x0 := a) jx.out aD aB D d c (aG _) M) (fun a5 ⟨_, ⟨p, rfl, y⟩, H⟩ => V (jA rfl (kf b.has H aI aB)) (VE (ku b aO (fun n a4 b => ?_)))))
  obtain ⟨t, u, rfl⟩ := y.form
  let a0 := (C1 a.Op a.K a.ju.jw a.ju.Word t a.Kids.length u)
  refine VO (jR (.agg a0.toArray) (a0.toArray) b rfl rfl aB oc nb rfl (fun a2 b => ln (jL (Wh B (VA b Mh a0 aI aB (bS k fun T I k => VE (Eg b call138 (K a (.slice t a.Kids.length u) _ _ (y.mono jF.mono b.jB) I) (fun a3 b => Wi rfl (Wa (kk (kA (jI ?_))))))))))))
  replace b := b.jy (Db St)
  exact ⟨d, (wi0 .i64 (x + T)), _, ⟨rfl, m⟩, (b.jy St), rfl, D, (by rw [Q]; exact k)⟩
 rintro E W ⟨x, z, ⟨d, m⟩, b, B, D, k⟩
 rw [aH] at k
 exact jI (sg (Wh B (Wa (lt (rQ k b)))))
theorem Ee : ∀ (n : Nat) (c : Formula) (a : Value) (r : Int) (w : World) (g : Sl jx 5 (hp w) a c.Kids) (_ : rc n c = some r),
  jV false pg0 138 [(.agg #[(.int .i64 c.Op), (.int .i64 c.K), (.string c.ju.jw), (.string c.ju.Word), a])] w (.int .i64 r)
 | 0 => by intros; rename_i h; simp only [rc] at h; cases h
 | n + 1 => Fh (rc n) (Ee n)
theorem Gg (I : Formula → Option Int) (N : ∀ (j : Formula) (g : Value) (r : Int) (w : World) (c : Sl jx 5 (hp w) g j.Kids), I j = some r → jV false pg0 139 [(.agg #[(.int .i64 j.Op), (.int .i64 j.K), (.string j.ju.jw), (.string j.ju.Word), g])] w (.int .i64 r)) (j : Formula) (g : Value) (r : Int) (w : World) (c : Sl jx 5 (hp w) g j.Kids) (hm : xL I j = some r) :
  jV false pg0 139 [(.agg #[(.int .i64 j.Op), (.int .i64 j.K), (.string j.ju.jw), (.string j.ju.Word), g])] w (.int .i64 r) := by
 refine cG 20 func139 rfl (fun b => sg ?_)
 obtain ⟨Y, Z, rfl⟩ := c.form
 refine VE (kd b rfl (fun W4 L b => Wa (lr (Wa (lS (Wf np (VB b Mh rfl rfl dJ (V (kU aD rfl c) ?_))))))))
 refine Wm (ln ?_)
 replace b := b.jy (Db St)
 refine kC (fun i E W => ∃ u B, (E 9 = .int .i64 (i : Nat) ∧ E 8 = .int .i64 (j.Kids.length : Nat)) ∧ ST false kx w W (hp w) B ∧ E 3 = (.int .i64 u) ∧ E 7 = (.slice Y j.Kids.length Z) ∧ sv I (j.Kids.drop i) u = some r) j.Kids.length c.len ⟨0, _, ⟨rfl, rfl⟩, (b.jy St), rfl, rfl, hm⟩ dc dc dc (fun _ _ _ h => by obtain ⟨_, _, l, _⟩ := h; exact l) ?_ ?_
 ·rintro n E W M ⟨u, B, ⟨d, m⟩, b, D, G, t⟩
  obtain ⟨a, A, T, Q, U⟩ := kp M
  rw [T] at t
  refine bg (VQ (lU (i := (n : Int)) (x0 := a) jx.out aD aB G d c (aG _) Q) (fun p ⟨_, ⟨v, rfl, z⟩, J⟩ => V (jA rfl (kf b.has J aI aB)) (VE (ku b aO (fun a2 a5 b => ?_)))))
  obtain ⟨x, y, rfl⟩ := z.form
  let a0 := (C1 a.Op a.K a.ju.jw a.ju.Word x a.Kids.length y)
  refine VO (jR (.agg a0.toArray) (a0.toArray) b rfl rfl aB oc nb rfl (fun a3 b => ln (jL (Wh D (VA b Mh a0 aI aB (bS t fun H K t => VE (Eg b call139 (N a (.slice x a.Kids.length y) _ _ (z.mono jF.mono b.jB) K) (fun a4 b => V (OG (k := .i64) rfl rfl) (Wa (kk (kA (jI ?_))))))))))))
  replace b := b.jy (Db St)
  exact ⟨d, (if H > u then H else u), _, ⟨rfl, m⟩, (b.jy St), rfl, G, (by rw [U]; exact t)⟩
 rintro E W ⟨u, B, ⟨d, m⟩, b, D, G, t⟩
 rw [aH] at t
 exact jI (sg (Wh D (Wi rfl (Wa (lt (rQ t b))))))
theorem E2 : ∀ (n : Nat) (c : Formula) (a : Value) (r : Int) (w : World) (g : Sl jx 5 (hp w) a c.Kids) (_ : rW n c = some r),
  jV false pg0 139 [(.agg #[(.int .i64 c.Op), (.int .i64 c.K), (.string c.ju.jw), (.string c.ju.Word), a])] w (.int .i64 r)
 | 0 => by intros; rename_i h; simp only [rW] at h; cases h
 | n + 1 => Gg (rW n) (E2 n)
set_option maxHeartbeats 4000000 in
theorem Gf (d8 : Formula → Option Bool) (i9 : ∀ (a : Formula) (x : Value) (r : Bool) (w : World) (k : Sl jx 5 (hp w) x a.Kids), d8 a = some r → jV false pg0 140 [(.agg #[(.int .i64 a.Op), (.int .i64 a.K), (.string a.ju.jw), (.string a.ju.Word), x])] w (.bool r)) (a : Formula) (x : Value) (r : Bool) (w : World) (k : Sl jx 5 (hp w) x a.Kids) (hm : xF d8 a = some r) :
  jV false pg0 140 [(.agg #[(.int .i64 a.Op), (.int .i64 a.K), (.string a.ju.jw), (.string a.ju.Word), x])] w (.bool r) := by
 refine cG 81 func140 rfl (fun b => sg ?_)
 obtain ⟨A1, c2, rfl⟩ := k.form
 let b8 := (C1 a.Op a.K a.ju.jw a.ju.Word A1 a.Kids.length c2)
 refine VE (kd b rfl (fun W4 H b => Wa (lr (Wf np (VB b Mh rfl rfl dJ (V (kU aD rfl k) (Wa (lS ?_))))))))
 refine Wf nq (VB b Mh rfl rfl bY (Wi rfl (ln (CI hm rfl (fun k0 hm => ?_) (fun k0 hm => ?_)))))
 ·refine sg (Wf tJ (VA b Mh (jE a.ju) bn aN (bS hm fun r6 k1 hm => VE (Eg b call160 (jV.lE (yh a.ju _ _  k1)) (fun W8 b => Wm (LJ hm (fun h2 E W => ∃ f9, ST false kx w W (hp w) ((H, Ol b8 30) :: f9) ∧ E 1 = (.pointer (some ⟨H, 0, none⟩)) ∧ E 2 = (.bool false) ∧ E 18 = (.bool h2)) 3 ?_ (fun h2 m c8 => ?_)))))))
  ·rintro l5 E W ⟨f9, b, j3, g7, j4⟩ i4
   refine Wh j4 (LJ i4 (fun h1 E W => ∃ g0, ST false kx w W (hp w) g0 ∧ E 2 = (.bool false) ∧ E 23 = (.bool h1)) 4 ?_ (fun h1 a5 c7 => ?_))
   ·rintro l6 E W ⟨g0, b, l4, j5⟩ i5
    refine Wg j5 (lt (kw ?_))
    obtain rfl := sj i5
    exact rP b
   refine bC a5 (fun B a5 => ?_) (fun B a5 => ?_)
   ·refine ug B (jG rr j3) (ug B (jA rfl (jP b.has Mh rfl bY)) (ug B (kG rfl rfl rfl) (V (jS (cB B) rfl) ?_)))
    obtain rfl := sj a5
    exact c7 _ _ ⟨_, (b.jy (Db St)), g7, rfl⟩
   refine un B (un B (un B (V (jT (cB B) rfl) ?_)))
   obtain rfl := sj a5
   exact c7 _ _ ⟨_, (b.jy (Db St)), g7, rfl⟩
  refine bC m (fun a4 m => ?_) (fun a4 m => ?_)
  ·refine ug a4 (jH rfl) (ug a4 (kG rfl rfl rfl) (V (jS (cB a4) rfl) ?_))
   obtain rfl := sj m
   exact c8 _ _ ⟨_, (b.jy St), rfl, rfl, rfl⟩
  refine un a4 (un a4 (V (jT (cB a4) rfl) ?_))
  obtain rfl := sj m
  exact c8 _ _ ⟨_, (b.jy St), rfl, rfl, rfl⟩
 let a0 := (b8.toArray : Array Value)
 let d : Value := (.pointer (some ⟨H, 0, none⟩))
 refine kS (Wf nq (VB b Mh rfl rfl bY (Wi rfl (Wm (LJ hm (fun e6 E W => ∃ g1, ST false kx w W (hp w) ((H, Obj.cells a0 30 (0, 0)) :: g1) ∧ E 1 = d ∧ E 3 = (.int .i64 (a.Kids.length : Int)) ∧ E 31 = (.bool e6)) 4 ?_ (fun e6 Z c0 => ?_))))))
 ·let p : Value := (.int .i64 (a.Kids.length : Int))
  rintro l7 E W ⟨g1, b, d5, g8, j6⟩ i6
  refine Wh j6 (LJ i6 (fun e5 E W => ∃ g2, ST false kx w W (hp w) ((H, Obj.cells a0 30 (0, 0)) :: g2) ∧ E 1 = d ∧ E 3 = p ∧ E 37 = (.bool e5)) 5 ?_ (fun e5 Y b9 => ?_))
  ·rintro l8 E W ⟨g2, b, g9, d6, j7⟩ i7
   refine Wh j7 (LJ i7 (fun e4 E W => ∃ g3, ST false kx w W (hp w) ((H, Obj.cells a0 30 (0, 0)) :: g3) ∧ E 1 = d ∧ E 3 = p ∧ E 41 = (.bool e4)) 3 ?_ (fun e4 U b7 => ?_))
   ·rintro l9 E W ⟨g3, b, A, h0, j8⟩ n
    refine ln (CI n j8 (fun i3 n => ?_) (fun i3 n => ?_))
    ·refine sg (Wa (ln ?_))
     replace b := b.jy (Db St)
     refine kh (kw ?_)
     obtain rfl := sj n
     exact rP b
    refine kS (V (jG nq A) (VB b Mh rfl rfl bY (Wi rfl (Wm (LJ n (fun e3 E W => ∃ g4, ST false kx w W (hp w) ((H, Obj.cells a0 30 (0, 0)) :: g4) ∧ E 1 = d ∧ E 3 = p ∧ E 49 = (.bool e3)) 4 ?_ (fun e3 T b6 => ?_))))))
    ·rintro P E W ⟨g4, b, l, d7, j9⟩ i8
     refine Wh j9 (LJ i8 (fun d9 E W => ∃ c9, ST false kx w W (hp w) ((H, Obj.cells a0 30 (0, 0)) :: c9) ∧ E 1 = d ∧ E 69 = (.bool d9)) 19 ?_ (fun d9 K b1 => ?_))
     ·rintro l0 E W ⟨c9, b, h3, h4⟩ J
      refine ln (CI J h4 (fun e8 J => ?_) (fun e8 J => ?_))
      ·refine sg (Wa (ln ?_))
       replace b := b.jy (Db St)
       refine kh (kw ?_)
       obtain rfl := sj J
       exact rP b
      refine kS (V (jG np h3) (VB b Mh rfl rfl dJ (V (kU aD rfl k) (Wm (ln ?_)))))
      replace b := b.jy (Db St)
      refine kC (fun i E W => ∃ c1, (E 73 = .int .i64 (i : Nat) ∧ E 72 = .int .i64 (a.Kids.length : Nat)) ∧ ST false kx w W (hp w) c1 ∧ E 71 = (.slice A1 a.Kids.length c2) ∧ sJ d8 (a.Kids.drop i) = some r) a.Kids.length k.len ⟨_, ⟨rfl, rfl⟩, (b.jy St), rfl, J⟩ dc dc dc (fun _ _ _ h => by obtain ⟨_, aa, _⟩ := h; exact aa) ?_ ?_
      ·rintro j0 E W f0 ⟨c1, ⟨R, eN⟩, b, L, j⟩
       obtain ⟨g, k2, f7, f6, f8⟩ := kp f0
       rw [f7] at j
       refine bg (VQ (lU (i := (j0 : Int)) (x0 := g) jx.out aD aB L R k (aG _) f6) (fun k7 ⟨_, ⟨k9, rfl, c6⟩, f4⟩ => V (jA rfl (kf b.has f4 aI aB)) (VE (ku b aO (fun k3 k6 b => ?_)))))
       obtain ⟨a9, b0, rfl⟩ := c6.form
       let a2 := (C1 g.Op g.K g.ju.jw g.ju.Word a9 g.Kids.length b0)
       refine VO (jR (.agg a2.toArray) (a2.toArray) b rfl rfl aB oc nb rfl (fun k4 b => lr (VA b Mh a2 aI aB (bS j fun k8 f5 j => VE (Eg b call140 (i9 g (.slice a9 g.Kids.length b0) _ _ (c6.mono jF.mono b.jB) f5) (fun k5 b => V (mT rfl) (ln ?_)))))))
       replace b := b.jy (Db St)
       refine CI j rfl (fun e9 j => ?_) (fun e9 j => ?_)
       ·refine sg (Wa (lt (mi (kw (mi (kw ?_))))))
        obtain rfl := sj j
        exact rP b
       exact kX (kA (jI ⟨R, _, ⟨rfl, eN⟩, (b.jy St), L, (by rw [f8]; exact j)⟩))
      rintro E W ⟨c1, ⟨R, eN⟩, b, L, j⟩
      rw [aH] at j
      exact jI (sg (Wa (lt (rQ j b))))
     refine bC K (fun u K => ?_) (fun u K => ?_)
     ·refine un u (un u (un u (un u (Vu rfl rfl (Vu rfl rfl (Vu rfl rfl (Vu rfl rfl (Vu rfl rfl (Vu rfl rfl (Vu rfl rfl (Vu rfl rfl (Vu rfl rfl (Vu rfl rfl (Vu rfl rfl ?_))))))))))))))
      refine Vu rfl rfl (Vu rfl rfl (un u (V (jS (cB u) rfl) ?_)))
      obtain rfl := sj K
      exact b1 _ _ ⟨_, (b.jy St), l, rfl⟩
     refine ug u (jG nq l) (ug u (jA rfl (jP b.has Mh rfl bY)) (ug u (kG rfl rfl rfl) (ug u (jH rfl) (LJ K (fun e0 E W => ∃ d0, ST false kx w W (hp w) ((H, Obj.cells a0 30 (0, 0)) :: d0) ∧ E 1 = d ∧ E 50 = (.bool P) ∧ E 68 = (.bool e0)) 14 ?_ (fun e0 M b2 => ?_)))))
     ·rintro l1 E W ⟨d0, b, h5, h6, h7⟩ f1
      refine V (jT (h6.trans (cB u)) h7) ?_
      obtain rfl := sj f1
      exact b1 _ _ ⟨_, (b.jy St), h5, rfl⟩
     refine bC M (fun c M => ?_) (fun c M => ?_)
     ·refine ug c (jH d7) (ug c (kG rfl rfl rfl) (ug c (jH rfl) (LJ M (fun e2 E W => ∃ d1, ST false kx w W (hp w) ((H, Obj.cells a0 30 (0, 0)) :: d1) ∧ E 1 = d ∧ E 3 = p ∧ E 50 = (.bool P) ∧ E 54 = (.bool (a.Op == 4)) ∧ E 61 = (.bool e2)) 4 ?_ (fun e2 Q b5 => ?_))))
      ·rintro l2 E W ⟨d1, b, O, h8, d3, a3, h9⟩ f2
       refine Vg rfl (a3.trans (cB c)) (jH h9) (LJ f2 (fun e1 E W => ∃ d2, ST false kx w W (hp w) ((H, Obj.cells a0 30 (0, 0)) :: d2) ∧ E 1 = d ∧ E 50 = (.bool P) ∧ E 54 = (.bool (a.Op == 4)) ∧ E 67 = (.bool e1)) 5 ?_ (fun e1 N b4 => ?_))
       ·rintro l3 E W ⟨d2, b, i0, d4, i1, i2⟩ f3
        refine Vg rfl (d4.trans (cB u)) (jS (i1.trans (cB c)) i2) ?_
        obtain rfl := sj f3
        exact b2 _ _ ⟨_, (b.jy St), i0, d4, rfl⟩
       refine bC N (fun t N => ?_) (fun t N => ?_)
       ·refine un t (un t (un t (un t (Vg rfl (a3.trans (cB c)) (jS (cB t) rfl) ?_))))
        obtain rfl := sj N
        exact b4 _ _ ⟨_, (b.jy St), O, d3, a3, rfl⟩
       refine ug t (jG rr O) (ug t (jA rfl (jP b.has Mh rfl bY)) (ug t (jH h8) (ug t (kG rfl rfl rfl) (Vg rfl (a3.trans (cB c)) (jT (cB t) rfl) ?_))))
       obtain rfl := sj N
       exact b4 _ _ ⟨_, (b.jy St), O, d3, a3, rfl⟩
      refine bC Q (fun y Q => ?_) (fun y Q => ?_)
      ·refine un y (un y (un y (ug c (jS (cB y) rfl) ?_)))
       obtain rfl := sj Q
       exact b5 _ _ ⟨_, (b.jy St), l, d7, rfl, rfl, rfl⟩
      refine ug y (jG rr l) (ug y (jA rfl (jP b.has Mh rfl bY)) (ug y (kG rfl rfl rfl) (ug c (jT (cB y) rfl) ?_)))
      obtain rfl := sj Q
      exact b5 _ _ ⟨_, (b.jy St), l, d7, rfl, rfl, rfl⟩
     refine un c (un c (un c (Vu rfl rfl (Vu rfl rfl (Vu rfl rfl (un c (un c (Vu rfl rfl (Vu rfl rfl (Vu rfl rfl (Vu rfl rfl (un c (ug u (jT (cB c) rfl) ?_)))))))))))))
     obtain rfl := sj M
     exact b2 _ _ ⟨_, (b.jy St), l, rfl, rfl⟩
    refine bC T (fun G T => ?_) (fun G T => ?_)
    ·refine ug G (jG rr A) (ug G (jA rfl (jP b.has Mh rfl bY)) (ug G (kG rfl rfl rfl) (V (jS (cB G) rfl) ?_)))
     obtain rfl := sj T
     exact b6 _ _ ⟨_, (b.jy St), A, h0, rfl⟩
    refine un G (un G (un G (V (jT (cB G) rfl) ?_)))
    obtain rfl := sj T
    exact b6 _ _ ⟨_, (b.jy St), A, h0, rfl⟩
   refine bC U (fun I U => ?_) (fun I U => ?_)
   ·refine un I (un I (V (jS (cB I) rfl) ?_))
    obtain rfl := sj U
    exact b7 _ _ ⟨_, (b.jy St), g9, d6, rfl⟩
   refine ug I (jH d6) (ug I (kG rfl rfl rfl) (V (jT (cB I) rfl) ?_))
   obtain rfl := sj U
   exact b7 _ _ ⟨_, (b.jy St), g9, d6, rfl⟩
  refine bC Y (fun z Y => ?_) (fun z Y => ?_)
  ·refine un z (un z (un z (un z (V (jS (cB z) rfl) ?_))))
   obtain rfl := sj Y
   exact b9 _ _ ⟨_, (b.jy St), d5, g8, rfl⟩
  refine ug z (jG tJ d5) (ug z (jA rfl (jD b.has Mh (jE a.ju) rfl bn aN)) (ug z (lC (v := (.agg (jE K0).toArray)) qt (kW ee dA (Kc _ dA) kr)) (ug z (D6 rfl rfl (nf dV) (zD (pz _ a.ju K0))) (V (jT (cB z) rfl) ?_))))
  obtain rfl := sj Y
  exact b9 _ _ ⟨_, (b.jy St), d5, g8, rfl⟩
 refine bC Z (fun D Z => ?_) (fun D Z => ?_)
 ·refine un D (un D (un D (V (jS (cB D) rfl) ?_)))
  obtain rfl := sj Z
  exact c0 _ _ ⟨_, (b.jy St), rfl, rfl, rfl⟩
 refine ug D (jG nq rfl) (ug D (jA rfl (jP b.has Mh rfl bY)) (ug D (kG rfl rfl rfl) (V (jT (cB D) rfl) ?_)))
 obtain rfl := sj Z
 exact c0 _ _ ⟨_, (b.jy St), rfl, rfl, rfl⟩
theorem Fp : ∀ (n : Nat) (c : Formula) (a : Value) (r : Bool) (w : World) (g : Sl jx 5 (hp w) a c.Kids) (_ : sn n c = some r),
  jV false pg0 140 [(.agg #[(.int .i64 c.Op), (.int .i64 c.K), (.string c.ju.jw), (.string c.ju.Word), a])] w (.bool r)
 | 0 => by intros; rename_i h; simp only [sn] at h; cases h
 | n + 1 => Gf (sn n) (Fp n)
theorem wh (a : Formula) (t : Value) (r : Bool) (w : World) (c : Sl jx 5 (hp w) t a.Kids) (hm : pZ a = some r) :
  jV false pg0 67 [(.agg #[(.int .i64 a.Op), (.int .i64 a.K), (.string a.ju.jw), (.string a.ju.Word), t])] w (.bool r) := by
 refine cG 15 func67 rfl (fun b => sg ?_)
 obtain ⟨u, x, rfl⟩ := c.form
 let d : Value := (.slice u a.Kids.length x)
 let a0 := (C1 a.Op a.K a.ju.jw a.ju.Word u a.Kids.length x)
 refine VE (kd b rfl (fun W4 Q b => Wa (lr (VA b Mh a0 aI aB (bS hm fun n Z hm => VE (Eg b call138 ((Ee ki) a d _ _ (c.mono jF.mono b.jB) Z) (fun W7 b => Wi rfl (Wm (LJ hm (fun I E W => ∃ B, ST false kx w W (hp w) ((Q, Ol a0 30) :: B) ∧ E 1 = (.pointer (some ⟨Q, 0, none⟩)) ∧ E 2 = (.bool false) ∧ E 10 = (.bool I)) 4 ?_ (fun I j z => ?_))))))))))
 ·rintro l E W ⟨B, b, T, G, U⟩ J
  refine Wh U (LJ J (fun H E W => ∃ D, ST false kx w W (hp w) D ∧ E 2 = (.bool false) ∧ E 14 = (.bool H)) 3 ?_ (fun H i y => ?_))
  ·rintro m E W ⟨D, b, a3, Y⟩ K
   exact Wg Y (lt (rQ K b))
  refine bC i (fun g i => ?_) (fun g i => ?_)
  ·refine ug g (jA T (jD b.has Mh a0 rfl aI aB)) (bS i fun a4 M i => pE g (Eg b call140 ((Fp ki) a d _ _ (c.mono jF.mono b.jB) M) (fun h b => V (jS (cB g) rfl) ?_)))
   obtain rfl := sj i
   exact y _ _ ⟨_, (b.jy (Db St)), G, rfl⟩
  refine un g (un g (V (jT (cB g) rfl) ?_))
  obtain rfl := sj i
  exact y _ _ ⟨_, (b.jy (Db St)), G, rfl⟩
 refine bC j (fun k j => ?_) (fun k j => ?_)
 ·refine ug k (jA rfl (jD b.has Mh a0 rfl aI aB)) (bS j fun a5 N j => pE k (Eg b call139 ((E2 ki) a d _ _ (c.mono jF.mono b.jB) N) (fun a2 b => ug k (kG rfl rfl rfl) (V (jS (cB k) rfl) ?_))))
  obtain rfl := sj j
  exact z _ _ ⟨_, (b.jy St), rfl, rfl, rfl⟩
 refine un k (un k (un k (V (jT (cB k) rfl) ?_)))
 obtain rfl := sj j
 exact z _ _ ⟨_, (b.jy St), rfl, rfl, rfl⟩
theorem yP (i : Formula) (g : Value) (x : Int) (r : Bool) (w : World) (c : Sl jx 5 (hp w) g i.Kids) (hm : vv i x = some r) :
  jV true pg0 186 [(.agg #[(.int .i64 i.Op), (.int .i64 i.K), (.string i.ju.jw), (.string i.ju.Word), g]), (.int .i64 x)] w (.bool r) := by
 refine cG 15 func186 rfl (fun b => sg ?_)
 obtain ⟨B, D, rfl⟩ := c.form
 refine VE (kd b rfl (fun G H b => Wa (lr (Wf nq (VB b Mh rfl rfl bY (Wm (Wi rfl (Wm (LJ hm (fun t E W => ∃ u, ST true kx w W (hp w) u ∧ E 4 = (.bool false) ∧ E 14 = (.bool t)) 5 ?_ (fun t j k => ?_))))))))))
 ·rintro J E W ⟨u, b, I, y⟩ z
  exact Wg y (lt (rQ z b))
 refine bC j (fun a j => ?_) (fun a j => ?_)
 ·refine ug a (jG np rfl) (ug a (jA rfl (jP b.has Mh rfl dJ)) (ug a (kU aD rfl c) (ug a (kG rfl rfl rfl) (V (jS (cB a) rfl) ?_))))
  obtain rfl := sj j
  exact k _ _ ⟨_, (b.jy (Db St)), rfl, rfl⟩
 refine un a (un a (un a (un a (V (jT (cB a) rfl) ?_))))
 obtain rfl := sj j
 exact k _ _ ⟨_, (b.jy (Db St)), rfl, rfl⟩
theorem EI (I : Formula → Option ByteArray) (p : ∀ (a : Formula) (k : Value) (r : ByteArray) (w : World) (c : Sl jx 5 (hp w) k a.Kids), I a = some r → jV false pg0 305 [(.agg #[(.int .i64 a.Op), (.int .i64 a.K), (.string a.ju.jw), (.string a.ju.Word), k])] w (.string r)) (a : Formula) (k : Value) (r : ByteArray) (w : World) (c : Sl jx 5 (hp w) k a.Kids) (hm : wQ I a = some r) :
  jV false pg0 305 [(.agg #[(.int .i64 a.Op), (.int .i64 a.K), (.string a.ju.jw), (.string a.ju.Word), k])] w (.string r) := by
 refine cG 44 func305 rfl (fun b => sg ?_)
 obtain ⟨A1, c2, rfl⟩ := c.form
 refine VE (kd b rfl (fun W4 m b => Wa (lr (Wf nq (VB b Mh rfl rfl bY (bS hm fun r5 b7 hm => VE (Eg b call328 (jV.lE (vj a.Op _ _  b7)) (fun W7 b => Wa (ln (jM (jM ?_)))))))))))
 refine jL (Wf nq (VB b Mh rfl rfl bY (Wi rfl (ln (CI hm rfl (fun b6 hm => ?_) (fun b6 hm => ?_))))))
 ·refine sg (Wm (Wf tJ (VA b Mh (jE a.ju) bn aN (bS hm fun r9 a4 hm => VE (Eg b call329 (jV.lE (yf a.ju _ _  a4)) (fun d3 b => bS hm fun d6 v hm => V (oR rfl rfl v) (Wa (ln ?_))))))))
  replace b := b.jy (Db St)
  refine kh (kw ?_)
  obtain rfl := sj hm
  exact rP b
 refine kn (jM (CJ hm (fun J E W => ∃ Y, ST false kx w W (hp w) ((m, Ol (C1 a.Op a.K a.ju.jw a.ju.Word A1 a.Kids.length c2) 30) :: Y) ∧ E 1 = (.pointer (some ⟨m, 0, none⟩)) ∧ E 3 = (.string J)) (fun J t => ?_) ?_))
 ·refine sg (Wf nq (VB b Mh rfl rfl bY (Wi rfl (ln (CI t rfl (fun K t => ?_) (fun K t => ?_))))))
  ·refine jL (Wm (Wf rr (VB b Mh rfl rfl bY (bS t fun c9 Q t => VE (Eg b call328 (jV.lE (vj a.K _ _  Q)) (fun c5 b => bS t fun d0 U t => V (oR rfl rfl U) (Wa (ln ?_))))))))
   obtain rfl := sj t
   exact ⟨_, (b.jy St), rfl, rfl⟩
  refine kn ?_
  obtain rfl := sj t
  exact ⟨_, (b.jy St), rfl, rfl⟩
 rintro d7 E W ⟨Y, b, Z, R⟩ u
 refine sg (Wh R (V (jG np Z) (VB b Mh rfl rfl dJ (V (kU aD rfl c) (bS u fun d5 a5 u => VE (Eg b call328 (jV.lE (vj (a.Kids.length : Int) _ _  a5)) (fun d4 b => bS u fun c0 A u => V (oR rfl rfl A) (Wa (ln (jM (jM ?_)))))))))))
 refine jL (V (jG np Z) (VB b Mh rfl rfl dJ (V (kU aD rfl c) (Wm (ln ?_)))))
 replace b := b.jy (Db St)
 refine kC (fun i E W => ∃ z B, (E 34 = .int .i64 (i : Nat) ∧ E 33 = .int .i64 (a.Kids.length : Nat)) ∧ ST false kx w W (hp w) B ∧ E 3 = (.string z) ∧ E 32 = (.slice A1 a.Kids.length c2) ∧ rJ I (a.Kids.drop i) z = some r) a.Kids.length c.len ⟨c0, _, ⟨rfl, rfl⟩, (b.jy St), rfl, rfl, u⟩ dc dc dc (fun _ _ _ h => by obtain ⟨_, _, l, _⟩ := h; exact l) ?_ ?_
 ·rintro b9 E W a3 ⟨z, B, ⟨d, n⟩, b, D, G, g⟩
  obtain ⟨j, d2, L, a9, O⟩ := kp a3
  rw [L] at g
  refine bg (VQ (lU (i := (b9 : Int)) (x0 := j) jx.out aD aB G d c (aG _) a9) (fun c7 ⟨_, ⟨d1, rfl, H⟩, M⟩ => V (jA rfl (kf b.has M aI aB)) (VE (ku b aO (fun c1 c6 b => ?_)))))
  obtain ⟨x, y, rfl⟩ := H.form
  let a0 := (C1 j.Op j.K j.ju.jw j.ju.Word x j.Kids.length y)
  refine VO (jR (.agg a0.toArray) (a0.toArray) b rfl rfl aB oc nb rfl (fun c3 b => ln (jL (Wh D (VA b Mh a0 aI aB (bS g fun c8 N g => VE (Eg b call305 (p j (.slice x j.Kids.length y) _ _ (H.mono jF.mono b.jB) N) (fun c4 b => bS g fun P T g => V (oR rfl rfl T) (Wa (kk (kA (jI ?_))))))))))))
  replace b := b.jy (Db St)
  exact ⟨d, P, _, ⟨rfl, n⟩, (b.jy St), rfl, G, (by rw [O]; exact g)⟩
 rintro E W ⟨z, B, ⟨d, n⟩, b, D, G, g⟩
 rw [aH] at g
 exact jI (sg (Wh D (Wa (lt (rQ g b)))))
theorem AG : ∀ (n : Nat) (c : Formula) (a : Value) (r : ByteArray) (w : World) (g : Sl jx 5 (hp w) a c.Kids) (_ : pe n c = some r),
  jV false pg0 305 [(.agg #[(.int .i64 c.Op), (.int .i64 c.K), (.string c.ju.jw), (.string c.ju.Word), a])] w (.string r)
 | 0 => by intros; rename_i h; simp only [pe] at h; cases h
 | n + 1 => EI (pe n) (AG n)
theorem Ht (c : Formula) (u : Value) (a : Formula) (x : Value) (r : Int) (w : World) (k : Sl jx 5 (hp w) u c.Kids) (t : Sl jx 5 (hp w) x a.Kids) (hm : wC c a = some r) :
  jV false pg0 249 [(.agg #[(.int .i64 c.Op), (.int .i64 c.K), (.string c.ju.jw), (.string c.ju.Word), u]), (.agg #[(.int .i64 a.Op), (.int .i64 a.K), (.string a.ju.jw), (.string a.ju.Word), x])] w (.int .i64 r) := by
 refine cG 21 func249 rfl (fun b => sg ?_)
 obtain ⟨B, D, rfl⟩ := k.form
 let d := (C1 c.Op c.K c.ju.jw c.ju.Word B c.Kids.length D)
 refine VE (kd b rfl (fun W4 A b => ?_))
 obtain ⟨y, z, rfl⟩ := t.form
 let a0 := (C1 a.Op a.K a.ju.jw a.ju.Word y a.Kids.length z)
 refine VE (kd b rfl (fun W8 h b => Wa (lr (Wa (lr (Wa (ln (jM ?_))))))))
 refine CJ hm (fun Q E W => ∃ G, ST false kx w W (hp w) ((h, Ol a0 30) :: G) ∧ E 3 = (.pointer (some ⟨h, 0, none⟩)) ∧ E 5 = (.string Q) ∧ E 6 = (.string zS)) (fun Q j => ?_) ?_
 ·refine sg (VA b (Mt Mh) d aI aB (bS j fun R a5 j => VE (Eg b call67 (wh c (.slice B c.Kids.length D) _ _ (k.mono jF.mono b.jB) a5) (fun v b => ln (CI j rfl (fun Z j => ?_) (fun Z j => ?_))))))
  ·refine jL (VA b (Mt Mh) d aI aB (bS j fun c0 l j => VE (Eg b call305 ((AG ki) c (.slice B c.Kids.length D) _ _ (k.mono jF.mono b.jB) l) (fun L b => Wa (ln ?_)))))
   obtain rfl := sj j
   exact ⟨_, (b.jy (Kb (Db St))), rfl, rfl, rfl⟩
  refine kn ?_
  obtain rfl := sj j
  exact ⟨_, (b.jy (Kb (Db St))), rfl, rfl, rfl⟩
 rintro a9 E W ⟨G, b, I, J, m⟩ a2
 refine jM (CJ a2 (fun N E W => ∃ H, ST false kx w W (hp w) H ∧ E 5 = (.string a9) ∧ E 6 = (.string N)) (fun N i => ?_) ?_)
 ·refine sg (V (jA I (jD b.has Mh a0 rfl aI aB)) (bS i fun O a3 i => VE (Eg b call67 (wh a (.slice y a.Kids.length z) _ _ (t.mono jF.mono b.jB) a3) (fun n b => ln (CI i rfl (fun Y i => ?_) (fun Y i => ?_))))))
  ·refine jL (V (jA I (jD b.has Mh a0 rfl aI aB)) (bS i fun P a4 i => VE (Eg b call305 ((AG ki) a (.slice y a.Kids.length z) _ _ (t.mono jF.mono b.jB) a4) (fun p b => Wa (ln ?_)))))
   obtain rfl := sj i
   exact ⟨_, (b.jy (Db St)), J, rfl⟩
  refine kn ?_
  obtain rfl := sj i
  exact ⟨_, (b.jy (Db St)), J, m⟩
 rintro c1 E W ⟨H, b, K, M⟩ g
 refine jM (sg (Wh K (Wh M (V (pM rfl rfl rfl) (ln (CI g rfl (fun T g => ?_) (fun T g => ?_)))))))
 ·refine sg (Wa (lt (kw ?_)))
  obtain rfl := sj g
  exact rP b
 refine kS (Wh K (Wh M (V (pM rfl rfl rfl) (ln (CI g rfl (fun U g => ?_) (fun U g => ?_))))))
 ·refine sg (Wa (lt (kw ?_)))
  obtain rfl := sj g
  exact rP b
 exact kg (Wa (lt (rQ g b)))
theorem Ga (A : Formula → Formula → Option Bool) (d8 : ∀ (a : Formula) (u : Value) (c : Formula) (x : Value) (r : Bool) (w : World) (k : Sl jx 5 (hp w) u a.Kids) (y : Sl jx 5 (hp w) x c.Kids), A a c = some r → jV false pg0 66 [(.agg #[(.int .i64 a.Op), (.int .i64 a.K), (.string a.ju.jw), (.string a.ju.Word), u]), (.agg #[(.int .i64 c.Op), (.int .i64 c.K), (.string c.ju.jw), (.string c.ju.Word), x])] w (.bool r)) (a : Formula) (u : Value) (c : Formula) (x : Value) (r : Bool) (w : World) (k : Sl jx 5 (hp w) u a.Kids) (y : Sl jx 5 (hp w) x c.Kids) (hm : xJ A a c = some r) :
  jV false pg0 66 [(.agg #[(.int .i64 a.Op), (.int .i64 a.K), (.string a.ju.jw), (.string a.ju.Word), u]), (.agg #[(.int .i64 c.Op), (.int .i64 c.K), (.string c.ju.jw), (.string c.ju.Word), x])] w (.bool r) := by
 refine cG 53 func66 rfl (fun b => sg ?_)
 obtain ⟨Z, c2, rfl⟩ := k.form
 let m := (C1 a.Op a.K a.ju.jw a.ju.Word Z a.Kids.length c2)
 refine VE (kd b rfl (fun W4 I b => ?_))
 obtain ⟨A5, c6, rfl⟩ := y.form
 let a0 := (C1 c.Op c.K c.ju.jw c.ju.Word A5 c.Kids.length c6)
 refine VE (kd b rfl (fun W8 J b => Wa (lS (Wf nq (VB b (Mt Mh) rfl rfl bY (Wf nq (VB b Mh rfl rfl bY (Wi rfl (Wm (LJ hm (fun b4 E W => ∃ d1, ST false kx w W (hp w) ((J, Ol a0 30) :: ((I, Ol m 30) :: d1)) ∧ E 2 = (.pointer (some ⟨I, 0, none⟩)) ∧ E 3 = (.pointer (some ⟨J, 0, none⟩)) ∧ E 17 = (.bool b4)) 6 ?_ (fun b4 G N => ?_)))))))))))
 ·let a3 : Value := (.pointer (some ⟨J, 0, none⟩))
  let a2 : Value := (.pointer (some ⟨I, 0, none⟩))
  rintro f1 E W ⟨d1, b, a5, n, e1⟩ d6
  refine Wh e1 (LJ d6 (fun R E W => ∃ d2, ST false kx w W (hp w) ((J, Ol a0 30) :: ((I, Ol m 30) :: d2)) ∧ E 2 = a2 ∧ E 3 = a3 ∧ E 24 = (.bool R)) 6 ?_ (fun R D M => ?_))
  ·rintro f2 E W ⟨d2, b, p, v, e2⟩ d7
   refine Wh e2 (LJ d7 (fun P E W => ∃ d3, ST false kx w W (hp w) ((J, Ol a0 30) :: ((I, Ol m 30) :: d3)) ∧ E 2 = a2 ∧ E 3 = a3 ∧ E 33 = (.bool P)) 8 ?_ (fun P B K => ?_))
   ·rintro f3 E W ⟨d3, b, d4, e3, e4⟩ H
    refine ln (CI H e4 (fun d5 H => ?_) (fun d5 H => ?_))
    ·refine sg (Wa (ln ?_))
     replace b := b.jy (Db (Db St))
     refine kh (kw ?_)
     obtain rfl := sj H
     exact rP b
    refine kS (V (jG np d4) (VB b (Mt Mh) rfl rfl dJ (V (kU aD rfl k) (Wm (ln (kC (fun i E W => ∃ Q, (E 37 = .int .i64 (i : Nat) ∧ E 36 = .int .i64 (a.Kids.length : Nat)) ∧ ST false kx w W (hp w) ((J, Ol a0 30) :: ((I, Ol m 30) :: Q)) ∧ E 2 = a2 ∧ E 3 = a3 ∧ sF c A (a.Kids.drop i) i = some r) a.Kids.length k.len ⟨_, ⟨rfl, rfl⟩, (b.jy St), d4, e3, H⟩ dc dc dc (fun _ _ _ h => by obtain ⟨_, O, _⟩ := h; exact O) ?_ ?_))))))
    ·rintro a9 E W c0 ⟨Q, ⟨L, eN⟩, b, T, U, g⟩
     obtain ⟨b5, e5, c9, c8, d0⟩ := kp c0
     rw [c9] at g
     refine bg (Wh L (Wa (ln (jM ?_))))
     replace b := b.drew
     have d := b.has.jy (Kb (Kb Sn))
     refine kI d kl (X 0 rfl d (jG np T) (XH 1 rfl d (fun _ l => jA rfl (jP l (Mt Mh) rfl dJ)) (X 2 rfl d (jH rfl) (XQ 3 rfl d (lU (i := (a9 : Int)) (x0 := b5) jx.out aD aB rfl rfl k (aG _) c8) (fun e7 ⟨_, ⟨d9, rfl, c5⟩, c1⟩ => XH 4 rfl d (fun _ l => jA rfl (kf l c1 aI aB)) (X 5 rfl d (jG np U) (XH 6 rfl d (fun _ l => jA rfl (jP l Mh rfl dJ)) (X 7 rfl d (jH rfl) (bS g fun b6 Y g => XQ 8 rfl d (lU (i := (a9 : Int)) (x0 := b6) jx.out aD aB rfl rfl y (ky Y) (kv Y)) (fun e8 ⟨_, ⟨e0, rfl, c7⟩, c3⟩ => XH 9 rfl d (fun _ l => jA rfl (kf l c3 aI aB)) (bS g fun e9 c4 g => XE 10 rfl (Eg b call66 (d8 b5 d9 b6 e0 _ _ (c5.mono jF.mono b.jB) (c7.mono jF.mono b.jB) c4) (fun e6 b => ?_)))))))))))))
     have d := b.has.jy (Kb (Kb Sn))
     refine ⟨d, (X 11 rfl d (mT rfl) (kT kr (jI (CI g rfl (fun b9 g => ?_) (fun b9 g => ?_)))))⟩
     ·refine sg (Wa (ln ?_))
      replace b := b.jy (Db (Db St))
      refine kh (mi (kw (mi (kw ?_))))
      obtain rfl := sj g
      exact rP b
     exact kX (kA (jI ⟨L, _, ⟨rfl, eN⟩, (b.jy St), T, U, (by rw [d0]; exact g)⟩))
    rintro E W ⟨Q, ⟨L, eN⟩, b, T, U, g⟩
    rw [aH] at g
    refine jI ?_
    replace b := b.jy (Db (Db St))
    exact sg (Wa (lt (rQ g b)))
   refine bC B (fun j B => ?_) (fun j B => ?_)
   ·refine un j (un j (un j (un j (un j (un j (un j (V (jS (cB j) rfl) ?_)))))))
    obtain rfl := sj B
    exact K _ _ ⟨_, (b.jy St), p, v, rfl⟩
   refine ug j (jG np p) (ug j (jA rfl (jP b.has (Mt Mh) rfl dJ)) (ug j (kU aD rfl k) (ug j (jG np v) (ug j (jA rfl (jP b.has Mh rfl dJ)) (ug j (kU aD rfl y) (ug j (kG rfl rfl rfl) (V (jT (cB j) rfl) ?_)))))))
   obtain rfl := sj B
   exact K _ _ ⟨_, (b.jy St), p, v, rfl⟩
  refine bC D (fun t D => ?_) (fun t D => ?_)
  ·refine un t (un t (un t (un t (un t (V (jS (cB t) rfl) ?_)))))
   obtain rfl := sj D
   exact M _ _ ⟨_, (b.jy St), a5, n, rfl⟩
  refine ug t (jG tJ a5) (ug t (jA rfl (jD b.has (Mt Mh) (jE a.ju) rfl bn aN)) (ug t (jG tJ n) (ug t (jA rfl (jD b.has Mh (jE c.ju) rfl bn aN)) (ug t (D6 rfl rfl (nf dV) (zD (pz _ a.ju c.ju))) (V (jT (cB t) rfl) ?_)))))
  obtain rfl := sj D
  exact M _ _ ⟨_, (b.jy St), a5, n, rfl⟩
 refine bC G (fun z G => ?_) (fun z G => ?_)
 ·refine un z (un z (un z (un z (un z (V (jS (cB z) rfl) ?_)))))
  obtain rfl := sj G
  exact N _ _ ⟨_, (b.jy St), rfl, rfl, rfl⟩
 refine ug z (jG rr rfl) (ug z (jA rfl (jP b.has (Mt Mh) rfl bY)) (ug z (jG rr rfl) (ug z (jA rfl (jP b.has Mh rfl bY)) (ug z (kG rfl rfl rfl) (V (jT (cB z) rfl) ?_)))))
 obtain rfl := sj G
 exact N _ _ ⟨_, (b.jy St), rfl, rfl, rfl⟩
theorem Fy : ∀ (n : Nat) (g : Formula) (a : Value) (i : Formula) (c : Value) (r : Bool) (w : World) (j : Sl jx 5 (hp w) a g.Kids) (k : Sl jx 5 (hp w) c i.Kids) (_ : qP n g i = some r),
  jV false pg0 66 [(.agg #[(.int .i64 g.Op), (.int .i64 g.K), (.string g.ju.jw), (.string g.ju.Word), a]), (.agg #[(.int .i64 i.Op), (.int .i64 i.K), (.string i.ju.jw), (.string i.ju.Word), c])] w (.bool r)
 | 0 => by intros; rename_i h; simp only [qP] at h; cases h
 | n + 1 => Ga (qP n) (Fy n)
theorem Dh (T : Value) (a0 : List Formula) (O : Bool) (r : List Formula) (w : World) {μ0 : km} (h0 : ni μ0 [] w) (c9 : Sl jx 5 μ0 T a0) (hm : vd a0 O = some r) :
  lT false pg0 187 [T, (.bool O)] w μ0 [] (fun v L1 μ1 => ∃ y1, v = y1 ∧ L1 = [] ∧ Sl jx 5 μ1 y1 (r)) := by
 refine uW h0 62 func187 rfl (fun d => sg (Wa (lr (Wa (lS (Wm ?_))))))
 refine V (kU aD rfl c9) (Wm (ln (kC (fun i E W => ∃ u M D x b1, (E 12 = .int .i64 (i : Nat) ∧ E 11 = .int .i64 (a0.length : Nat)) ∧ kj μ0 x ∧ Lo (keys []) w μ0 x ∧ ST false (keys []) w W x (D ++ b1) ∧ E 1 = (.bool O) ∧ E 5 = u ∧ E 10 = T ∧ kK 30 jx 5 x u M D ∧ mC O (a0.drop i) M = some r) a0.length c9.len ⟨(.slice none 0 0), ([]), [], μ0, _, ⟨rfl, rfl⟩, (kj.refl _), Lo.refl, (d.jy St), rfl, rfl, rfl, (kK.nil _ _ _ _), hm⟩ dc dc dc (fun _ _ _ h => by obtain ⟨_, _, _, _, _, aa, _⟩ := h; exact aa) ?_ ?_)))
 ·rintro U E W h7 ⟨u, M, D, x, b1, ⟨eI, eN⟩, K, A, d, d5, a4, b3, H, J⟩
  obtain ⟨a, l4, j5, j4, c6⟩ := kp h7
  rw [j5] at J
  refine bg (VQ (lU (i := (U : Int)) (x0 := a) jx.out aD aB b3 eI (c9.mono jF.mono K) (aG _) j4) (fun m8 ⟨_, ⟨n3, rfl, a2⟩, i1⟩ => V (jA rfl (kf d.has i1 aI aB)) (VE (ku d aO (fun l6 G d => ?_)))))
  let g5 : Value := (.int .i64 (U : Int))
  let b8 : Value := (.int .i64 (a0.length : Int))
  let b2 : Value := (.pointer (some ⟨G, 0, none⟩))
  obtain ⟨k, t, rfl⟩ := a2.form
  let g6 : Value := (.slice k a.Kids.length t)
  let L := (C1 a.Op a.K a.ju.jw a.ju.Word k a.Kids.length t)
  refine VO (jR (.agg L.toArray) (L.toArray) d rfl rfl aB oc nb rfl (fun l7 d => lr (Wh a4 (V (so aD rfl H) (Wa (ln (jM (CJ J (fun c3 E W => ∃ d0, ST false (keys []) w W x ((G, Ol L 30) :: (D ++ d0)) ∧ E 1 = (.bool O) ∧ E 5 = u ∧ E 7 = b2 ∧ E 8 = (.int .i64 c3) ∧ E 10 = T ∧ E 11 = b8 ∧ E 12 = g5) (fun c3 i0 => ?_) ?_))))))))
  ·refine kZ (mG (fun m E W => ∃ Y d3, ST false (keys []) w W x ((G, Ol L 30) :: (D ++ d3)) ∧ E 1 = (.bool O) ∧ E 5 = u ∧ E 7 = b2 ∧ E 8 = (.int .i64 Y) ∧ E 10 = T ∧ E 11 = b8 ∧ E 12 = g5 ∧ pC M a m Y = some c3) ki ⟨(M.length : Int), _, (d.jy St), d5, a4, rfl, rfl, b3, eN, eI, i0⟩ ?_)
   rintro m E W ⟨Y, d3, d, f0, c1, c2, a5, f1, f2, f3, Z⟩
   cases m with
   | zero => rw [pC] at Z; cases Z
   | succ k5 =>
    refine jM (jM ?_)
    replace d := d.drew
    have n := d.has.jy (Kb (Kr Sn))
    refine kI n kl (X 0 rfl n (jH a5) (X 1 rfl n (kG rfl rfl rfl) (X 2 rfl n (jH rfl) (PJ Z (fun g3 E W => ∃ d4, ST false (keys []) w W x ((G, Ol L 30) :: (D ++ d4)) ∧ E 1 = (.bool O) ∧ E 5 = u ∧ E 7 = b2 ∧ E 8 = (.int .i64 Y) ∧ E 10 = T ∧ E 11 = b8 ∧ E 12 = g5 ∧ E 29 = (.bool g3)) (bm 12 4095) 0 ?_ (fun g3 z b0 => ?_)))))
    ·rintro o0 E W ⟨d4, d, f4, f5, f6, f7, f8, f9, g0, k3⟩ Q
     refine kT kr (jI (CI Q k3 (fun h6 Q => ?_) (fun h6 Q => ?_)))
     ·exact kn (kZ (jL (Wh f7 (Wi rfl (Wa (kk (kA (jI ⟨k5, bG _, (wi0 .i64 (Y - 1)), _, (d.jy St), f4, f5, f6, rfl, f8, f9, g0, Q⟩))))))))
     refine mF (ml (ml (oU (jI ?_))))
     obtain rfl := sj Q
     exact ⟨_, (d.jy St), f4, f5, f6, f7, f8, f9, g0⟩
    refine bC z (fun c z => ?_) (fun c z => ?_)
    ·refine Xg 3 rfl rfl (cB c) n (jH c1) (Xg 4 rfl rfl (cB c) n (jH a5) (Xg 5 rfl rfl (cB c) n (kG rfl rfl rfl) (bS z fun l0 c8 z => sL 6 rfl kr (.inr ⟨2, true, 20, rfl, rfl, by decide, (cB c)⟩) rfl dc (fun _ _ h => h) n (lu (i := (wi0 .i64 (Y - 1))) jx.out aD aB rfl rfl H (ky c8) (kv c8)) (fun n0 ⟨_, ⟨k8, rfl, j0⟩, i3, l3⟩ => ub 7 rfl rfl (cB c) n (fun _ hS => jA rfl (kf (nC.hp _) (i3.mono (lR (fun b o hq => hS.2 b o (Mt (Ml hq))))) aI aB)) (ub 8 rfl rfl (cB c) n (fun _ hS => jA c2 (jD hS Mh L rfl aI aB)) (bS z fun n2 i5 z => El 9 rfl rfl (cB c) (Eg d call249 (Ht l0 k8 a g6 _ _ (j0.mono jF.mono d.jB) (a2.mono jF.mono d.jB) i5) (fun m4 d => ?_))))))))
     have n := d.has.jy (Kb (Kr Sn))
     refine ⟨n, (Xg 10 rfl rfl (cB c) n (kG rfl rfl rfl) (X 11 rfl n (jS (cB c) rfl) ?_))⟩
     obtain rfl := sj z
     refine nu kr (b0 _ _ ⟨_, (d.jy St), f0, c1, c2, a5, f1, f2, f3, rfl⟩)
    refine Xn 3 rfl rfl (cB c) n (Xn 4 rfl rfl (cB c) n (Xn 5 rfl rfl (cB c) n (Xn 6 rfl rfl (cB c) n (Xn 7 rfl rfl (cB c) n (Xn 8 rfl rfl (cB c) n (Xn 9 rfl rfl (cB c) n (Xn 10 rfl rfl (cB c) n (X 11 rfl n (jT (cB c) rfl) ?_))))))))
    obtain rfl := sj z
    refine nu kr (b0 _ _ ⟨_, (d.jy St), f0, c1, c2, a5, f1, f2, f3, rfl⟩)
  rintro a3 E W ⟨d0, d, b4, d6, d7, b5, d8, d9, e0⟩ h8
  refine jM (jM ?_)
  replace d := d.drew
  have n := d.has.jy (Kb (Kr Sn))
  refine kI n kl (X 0 rfl n (jH b4) (X 1 rfl n (jH rfl) (PJ h8 (fun g2 E W => ∃ d1, ST false (keys []) w W x ((G, Ol L 30) :: (D ++ d1)) ∧ E 1 = (.bool O) ∧ E 5 = u ∧ E 7 = b2 ∧ E 8 = (.int .i64 a3) ∧ E 10 = T ∧ E 11 = b8 ∧ E 12 = g5 ∧ E 36 = (.bool g2)) (bm 14 31) 9 ?_ (fun g2 N a9 => ?_))))
  ·rintro n8 E W ⟨d1, d, e1, b6, b7, b9, e2, e3, e4, k0⟩ h9
   have n := d.has.jy (Kb (Kr Sn))
   refine X 5 rfl n (jH k0) (PJ h9 (fun g1 E W => ∃ d2, ST false (keys []) w W x ((G, Ol L 30) :: (D ++ d2)) ∧ E 1 = (.bool O) ∧ E 5 = u ∧ E 7 = b2 ∧ E 8 = (.int .i64 a3) ∧ E 10 = T ∧ E 11 = b8 ∧ E 12 = g5 ∧ E 45 = (.bool g1)) (bm 14 16383) 0 ?_ (fun g1 y a8 => ?_))
   ·rintro n9 E W ⟨d2, d, e5, c0, k1, e6, e7, e8, e9, k2⟩ j
    refine kT kr (jI (CI j k2 (fun h2 j => ?_) (fun h2 j => ?_)))
    ·refine mF (ml (oU (jI ?_)))
     replace d := d.jy (Db St)
     exact ⟨e9, u, M, D, x, _, ⟨rfl, e8⟩, K, A, (d.jy St), e5, c0, e7, H, (by rw [c6]; exact j)⟩
    refine kg (VE (kq (cs := #[]) d qt (Bi [] aD aB aO dc rfl (by simp) rfl rfl) (fun l8 j9 d => Wh c0 (Wh e6 (bS j fun _ c4 j => VQ (DM (i := a3) aD aB rfl rfl H (vL c4) (vE c4)) (fun n4 i6 => bS j fun m6 h3 j => VE (pJ (B := [(j9, Ob #[] 30)]) jF d dc aD lM.1 lM.2.1 rfl lM.2.2.1 lM.2.2.2 rfl rfl (kK.lit jF (l := []) .nil rfl nb rfl) (xZ.row i6 d (fun p hq => (Mt (Mt (Ml hq))))) h3 (fun l9 n5 j6 d g8 => Wa (ln (jM ?_))))))))))
    refine jL (Wm (V (jA k1 (jD d.has (Ma Mh) L rfl aI aB)) (VE (kq (cs := L.toArray) d (lW rfl) (mr aD aB aO) (fun m0 m5 d => ?_)))))
    replace d := d.perm (Nr (Qb Qz) Nz)
    refine bS j fun m7 h4 j => VE (pJ (B := j6) jF d dc aD lM.1 lM.2.1 rfl lM.2.2.1 lM.2.2.2 rfl rfl g8 (xZ.lit jF (l := [a]) (.cons (ys := C1 a.Op a.K a.ju.jw a.ju.Word k a.Kids.length t) (jx.mk ⟨g6, rfl, a2⟩) .nil) rfl nb (d.at_ (Ma Mh))) h4 (fun m1 n6 j7 d g9 => Wa (ln ?_)))
    replace d := d.jy (Kr (Db (Db St)))
    refine jL (Wm (Wh c0 (Wh e6 ?_)))
    replace d := d.perm (Nr (Qr Qz) Nz)
    obtain ⟨l1, d, a7, P, i8⟩ := ST.uf jF d H
    exact bS j fun _ c5 j => VQ (CD (i := a3) aD aB rfl rfl i8 (vL c5) (vE c5)) (fun n7 i7 => bS j fun k4 h5 j => VE (pJ (B := j7) jF d dc aD lM.1 lM.2.1 rfl lM.2.2.1 lM.2.2.2 rfl rfl (g9.mono jF a7) (xZ.sl jF i7.1 d.jB) h5 (fun m2 k6 j8 d h1 => Wa (kk (kA (jI ⟨e9, k6, k4, j8, l1, _, ⟨rfl, e8⟩, (K.trans a7), (A.trans P), (d.jy St), e5, rfl, e7, h1, (by rw [c6]; exact j)⟩))))))
   refine bC y (fun g y => ?_) (fun g y => ?_)
   ·refine Xg 6 rfl rfl (cB g) n (jH b6) (Xg 7 rfl rfl (cB g) n (jH b9) (Xg 8 rfl rfl (cB g) n (kG rfl rfl rfl) (bS y fun k9 c7 y => sL 9 rfl kr (.inr ⟨5, true, 37, rfl, rfl, by decide, (cB g)⟩) rfl dc (fun _ _ h => h) n (lu (i := (wi0 .i64 (a3 - 1))) jx.out aD aB rfl rfl H (ky c7) (kv c7)) (fun m9 ⟨_, ⟨k7, rfl, i9⟩, i2, l2⟩ => ub 10 rfl rfl (cB g) n (fun _ hS => jA rfl (kf (nC.hp _) (i2.mono (lR (fun b o hq => hS.2 b o (Mt (Ml hq))))) aI aB)) (ub 11 rfl rfl (cB g) n (fun _ hS => jA b7 (jD hS Mh L rfl aI aB)) (bS y fun n1 i4 y => El 12 rfl rfl (cB g) (Eg d call66 ((Fy ki) k9 k7 a g6 _ _ (i9.mono jF.mono d.jB) (a2.mono jF.mono d.jB) i4) (fun m3 d => ?_))))))))
    have n := d.has.jy (Kb (Kr Sn))
    refine ⟨n, (X 13 rfl n (jS (cB g) rfl) ?_)⟩
    obtain rfl := sj y
    refine nu kr (a8 _ _ ⟨_, (d.jy St), e1, b6, b7, b9, e2, e3, e4, rfl⟩)
   refine Xn 6 rfl rfl (cB g) n (Xn 7 rfl rfl (cB g) n (Xn 8 rfl rfl (cB g) n (Xn 9 rfl rfl (cB g) n (Xn 10 rfl rfl (cB g) n (Xn 11 rfl rfl (cB g) n (Xn 12 rfl rfl (cB g) n (X 13 rfl n (jT (cB g) rfl) ?_)))))))
   obtain rfl := sj y
   refine nu kr (a8 _ _ ⟨_, (d.jy St), e1, b6, b7, b9, e2, e3, e4, rfl⟩)
  refine bC N (fun I N => ?_) (fun I N => ?_)
  ·refine Xg 2 rfl rfl (cB I) n (jH b5) (Xg 3 rfl rfl (cB I) n (kG rfl rfl rfl) (X 4 rfl n (jS (cB I) rfl) ?_))
   obtain rfl := sj N
   refine nu kr (a9 _ _ ⟨_, (d.jy St), b4, d6, d7, b5, d8, d9, e0, rfl⟩)
  refine Xn 2 rfl rfl (cB I) n (Xn 3 rfl rfl (cB I) n (X 4 rfl n (jT (cB I) rfl) ?_))
  obtain rfl := sj N
  refine nu kr (a9 _ _ ⟨_, (d.jy St), b4, d6, d7, b5, d8, d9, e0, rfl⟩)
 rintro E W ⟨u, M, D, x, b1, ⟨eI, eN⟩, K, A, d, d5, a4, b3, H, J⟩
 rw [aH] at J
 refine jI (sg (Wh a4 (Wa (lt ?_))))
 obtain rfl := sj J
 refine lB (v := u) rfl rfl ?_
 obtain ⟨o1, d, g4, R, j3⟩ := ST.uf jF d H
 exact ⟨_, _, _, rfl, (d.lO Sn), (K.trans g4), (A.trans R), (ST.kR d (mB.mem Sn)), u, rfl, rfl, j3⟩
set_option maxHeartbeats 4000000 in
theorem vk (t : Nat) (T : ll) (u : Int) (d0 : Value) (a2 : List Formula) (r : (Formula × ll)) (w : World) {μ0 : km} (h0 : ni μ0 ((t, Ol (mu T) 175) :: []) w) (c9 : Sl jx 5 μ0 d0 a2) (hm : oQ T u a2 = some r) :
  lT false pg0 185 [(.pointer (some ⟨t, 0, none⟩)), (.int .i64 u), d0] w μ0 ((t, Ol (mu T) 175) :: []) (fun v L1 μ1 => ∃ y1, v = (.agg #[(.int .i64 ((r.1).Op)), (.int .i64 ((r.1).K)), (.string (((r.1).ju).jw)), (.string (((r.1).ju).Word)), y1]) ∧ L1 = ((t, Ol (mu (r.2)) 175) :: []) ∧ Sl jx 5 μ1 y1 ((r.1).Kids)) := by
 let g6 : Value := (.pointer (some ⟨t, 0, none⟩))
 let a0 := ((mu T).toArray : Array Value)
 let e5 := ((t, Obj.cells a0 175 (0, 0)) :: [])
 refine uW h0 75 func185 rfl (fun d => sg (VE (ku d aO (fun W2 b1 d => lr (Wa (lS (Wm ?_)))))))
 let g5 : Value := (.pointer (some ⟨b1, 0, none⟩))
 refine V (kU aD rfl c9) (Wm (ln (kC (fun i E W => ∃ J I H c3, (E 14 = .int .i64 (i : Nat) ∧ E 13 = .int .i64 (a2.length : Nat)) ∧ ST false (keys e5) w W μ0 ((b1, Ol C6 30) :: ((t, Obj.cells a0 175 (0, 0)) :: (H ++ c3))) ∧ E 0 = g6 ∧ E 1 = (.int .i64 u) ∧ E 6 = g5 ∧ E 7 = J ∧ E 12 = d0 ∧ kK 30 jx 5 μ0 J I H ∧ nc u T (a2.drop i) I = some r) a2.length c9.len ⟨(.slice none 0 0), ([]), [], _, ⟨rfl, rfl⟩, (d.jy St), rfl, rfl, rfl, rfl, rfl, (kK.nil _ _ _ _), hm⟩ dc dc dc (fun _ _ _ h => by obtain ⟨_, _, _, _, A, _⟩ := h; exact A) ?_ ?_)))
 ·rintro h8 E W f4 ⟨J, I, H, c3, ⟨p, O⟩, d, b2, N, Z, R, b3, G, c⟩
  obtain ⟨a, i8, g7, g4, d5⟩ := kp f4
  rw [g7] at c
  refine bg (VQ (lU (i := (h8 : Int)) (x0 := a) jx.out aD aB b3 p c9 (aG _) g4) (fun l3 ⟨_, ⟨l8, rfl, a3⟩, f7⟩ => V (jA rfl (kf d.has f7 aI aB)) (VE (ku d aO (fun j4 k9 d => ?_)))))
  obtain ⟨y, z, rfl⟩ := a3.form
  let P := (C1 a.Op a.K a.ju.jw a.ju.Word y a.Kids.length z)
  refine VO (jR (.agg P.toArray) (P.toArray) d rfl rfl aB oc nb rfl (fun j5 d => lS (Wf nq (VB d Mh rfl rfl bY (Wh N (Wi rfl (ln (CI c rfl (fun e8 c => ?_) (fun e8 c => ?_)))))))))
  ·refine sg (Wh R (Wf np (VB d Mh rfl rfl dJ ?_)))
   replace d := d.perm (Nr (Qb (Qb (Qb Qz))) Nz)
   refine bS c fun i0 e9 c => VE (pJ (B := H) jF d dc aD lM.1 lM.2.1 rfl lM.2.2.1 lM.2.2.2 rfl rfl G (xZ.sl jF a3 d.jB) e9 (fun j6 i2 h2 d e6 => Wa (ln ?_)))
   replace d := d.jy (Kr (Db St))
   exact mF (ml (oU (jI ⟨p, i2, i0, h2, _, ⟨rfl, O⟩, (d.jy (Sb (Pr Pz) (Sb (Pr Pz) St))), b2, N, Z, rfl, b3, e6, (by rw [d5]; exact c)⟩)))
  refine kS (VA d Mh P aI aB (Wh N (Wi rfl (bS c fun l6 g0 c => VE (Eg d call186 (jV.lE (yP a (.slice y a.Kids.length z) (wi0 .i64 (5 - u)) _ _ (a3.mono jF.mono d.jB) g0)) (fun j7 d => ln (CI c rfl (fun f0 c => ?_) (fun f0 c => ?_))))))))
  ·let d2 := (HK (wi0 .i64 (5 - u)))
   refine sg (Wh N (Wi rfl (V (lC (v := (.agg d2.toArray)) (lW rfl) (kW aO bD (tS _ bD) kr)) ?_)))
   replace d := d.perm (Nb (Pb Pz) Nz)
   refine VO (jR (.agg d2.toArray) (d2.toArray) d Z rfl aB oc nb rfl (fun j8 d => ln ?_))
   replace d := d.jy (Kb (Db (Kb (Dr St))))
   refine kh (kw (mi (kw (mi (kw ?_)))))
   obtain rfl := sj c
   exact mL (v := (.agg d2.toArray)) rfl Z (jD d.has Mh d2 rfl aI aB) ⟨_, _, _, rfl, (d.lO (Db (Kb Sn))), (kj.refl _), Lo.refl, (ST.kR d (mB.mem (Db (Kb Sn)))), (.slice none 0 0), rfl, rfl, (Sl.nil _ _ _)⟩
  refine kn (jL (Wh R (VA d Mh P aI aB (VE (kq (cs := P.toArray) d (lW rfl) (mr aD aB aO) (fun j9 l0 d => ?_))))))
  replace d := d.perm (Nr (Qb (Qb (Qb (Qb Qz)))) Nz)
  refine bS c fun i1 f1 c => VE (pJ (B := H) jF d dc aD lM.1 lM.2.1 rfl lM.2.2.1 lM.2.2.2 rfl rfl G (xZ.lit jF (l := [a]) (.cons (ys := C1 a.Op a.K a.ju.jw a.ju.Word y a.Kids.length z) (jx.mk ⟨(.slice y a.Kids.length z), rfl, a3⟩) .nil) rfl nb (d.at_ (Ma Mh))) f1 (fun k0 i3 h3 d e7 => Wa (kk (kA (jI ?_)))))
  replace d := d.jy (Kr (Db (Db St)))
  exact ⟨p, i3, i1, h3, _, ⟨rfl, O⟩, (d.jy (Sb (Pr Pz) (Sb (Pr Pz) St))), b2, N, Z, rfl, b3, e7, (by rw [d5]; exact c)⟩
 rintro E W ⟨J, I, H, c3, ⟨p, O⟩, d, b2, N, Z, R, b3, G, c⟩
 rw [aH] at c
 refine jI (jM (sg (Wh R (V (so aD rfl G) (Wm (ln (Un c (fun e4 E W => ∃ d7, ST false (keys e5) w W μ0 ((b1, Ol C6 30) :: ((t, Obj.cells a0 175 (0, 0)) :: (H ++ d7))) ∧ E 0 = g6 ∧ E 1 = (.int .i64 u) ∧ E 6 = g5 ∧ E 7 = J) (fun e4 f6 b6 => ?_) ?_)))))))
 ·refine kC (fun i E W => ∃ c4, (E 40 = .int .i64 (i : Nat) ∧ E 39 = .int .i64 (I.length : Nat)) ∧ ST false (keys e5) w W μ0 ((b1, Ol C6 30) :: ((t, Obj.cells a0 175 (0, 0)) :: (H ++ c4))) ∧ E 0 = g6 ∧ E 1 = (.int .i64 u) ∧ E 6 = g5 ∧ E 7 = J ∧ E 38 = J ∧ oW u T (I.drop i) = some e4) I.length G.len ⟨_, ⟨rfl, rfl⟩, (d.jy St), b2, N, Z, R, rfl, f6⟩ dc dc dc (fun _ _ _ h => by obtain ⟨_, A, _⟩ := h; exact A) ?_ ?_
  ·rintro h9 E W f5 ⟨c4, ⟨p, O⟩, d, c6, a7, a8, c7, c8, k⟩
   obtain ⟨j, i9, g9, g8, h1⟩ := kp f5
   rw [g9] at k
   refine bg (VQ (lu (i := (h9 : Int)) jx.out aD aB c8 p G (aG _) g8) (fun l5 ⟨_, ⟨m1, rfl, d4⟩, f9, i7⟩ => V (jA rfl (kf (nC.hp _) (f9.mono (lR (fun b o hq => d.has.2 b o (Mt (Mt (Ml hq)))))) aI aB)) (VE (ku d aO (fun k5 l1 d => ?_)))))
   obtain ⟨a9, b0, rfl⟩ := d4.form
   let d9 := (C1 j.Op j.K j.ju.jw j.ju.Word a9 j.Kids.length b0)
   let L := (wi0 .i64 (5 - u))
   refine VO (jR (.agg d9.toArray) (d9.toArray) d rfl rfl aB oc nb rfl (fun k6 d => lr (VA d Mh d9 aI aB (Wh a7 (Wi rfl (bS k fun l7 g2 k => VE (Eg d call186 (jV.lE (yP j (.slice a9 j.Kids.length b0) L _ _ (d4.mono jF.mono d.jB) g2)) (fun k7 d => ln ?_))))))))
   replace d := d.jy (Db St)
   refine CI k rfl (fun f3 k => ?_) (fun f3 k => ?_)
   ·refine sg (Wh a7 (Wi rfl (V (lC (v := (.agg (HK L).toArray)) (lW rfl) (kW aO bD (tS _ bD) kr)) (VO (jR (.agg (HK L).toArray) ((HK L).toArray) d a8 rfl aB oc nb rfl (fun k8 d => ln ?_))))))
    replace d := d.jy (Kb (Kb (Dr St)))
    refine kh (mi (kw (mi (kw ?_))))
    obtain rfl := sj k
    replace b6 : some ((⟨(wi0 .i64 (5 - u)), 0, K0, []⟩ : Formula), T) = some r := b6
    obtain rfl := sj b6
    exact mL (v := (.agg (HK L).toArray)) rfl a8 (jD d.has Mh (HK L) rfl aI aB) ⟨_, _, _, rfl, (d.lO (Db (Kb Sn))), (kj.refl _), Lo.refl, (ST.kR d (mB.mem (Db (Kb Sn)))), (.slice none 0 0), rfl, rfl, (Sl.nil _ _ _)⟩
   exact kX (kA (jI ⟨p, _, ⟨rfl, O⟩, (d.jy St), c6, a7, a8, c7, c8, (by rw [h1]; exact k)⟩))
  rintro E W ⟨c4, ⟨p, O⟩, d, c6, a7, a8, c7, c8, k⟩
  rw [aH] at k
  refine jI ?_
  obtain rfl := sj k
  exact ⟨_, rfl, _, (d.jy St), c6, a7, a8, c7⟩
 rintro ⟨⟩ E W ⟨d7, d, e0, e1, e2, h4⟩ b5
 refine sg (Wh h4 ?_)
 replace d := d.perm (Nr (Qb (Qb Qz)) Nz)
 obtain ⟨m4, d, c0, m, g3⟩ := ST.uf jF d G
 refine bS b5 fun Q g1 b5 => ?_
 refine VE (eD d (bT _) call187 (fun hh => (Dh J I true _ _ hh (g3.mono jF.mono (kj.refl _)) g1)) ?_ (L0 := []))
 rintro _ l9 i5 j3 d c1 n ⟨i4, b7, rfl, Y⟩
 obtain rfl := b7.symm
 refine Wa (lr (Wh e0 (Wh e0 (Wn (Wf Iz (VB d (Mt Mh) rfl rfl isAgg4 (Wm (LJ b5 (fun e3 E W => ∃ d8, ST false (keys e5) w W i5 ((b1, Ol C6 30) :: ((t, Obj.cells a0 175 (0, 0)) :: d8)) ∧ E 1 = (.int .i64 u) ∧ E 6 = g5 ∧ E 7 = i4 ∧ E 54 = g6 ∧ E 63 = (.bool e3)) 4 ?_ (fun e3 U c2 => ?_)))))))))
 ·rintro d1 E W ⟨d8, d, h5, b4, c5, h6, h7⟩ D
  refine V (mN h6) (Wf Iz ?_)
  replace d := d.perm (Nb (Pb Pz) Nz)
  refine VO (jR (.bool d1) ((mu (⟨d1⟩ : ll)).toArray) d rfl h7 sizeOf4 (Uv d1) nb rfl (fun k2 d => lS (Wh c5 (V (kU aD rfl Y) (Wi rfl (ln (CI D rfl (fun f2 D => ?_) (fun f2 D => ?_))))))))
  ·refine sg (Wh c5 (bS D fun g d6 D => VQ (lU (i := 0) (x0 := g) jx.out aD aB rfl rfl Y (ky d6) (kv d6)) (fun l4 ⟨_, ⟨m0, rfl, d3⟩, f8⟩ => V (jA rfl (kf d.has f8 aI aB)) ?_)))
   obtain ⟨a4, a5, rfl⟩ := d3.form
   let b8 := (C1 g.Op g.K g.ju.jw g.ju.Word a4 g.Kids.length a5)
   replace d := d.perm (Nb (Pb Pz) Nz)
   refine VO (jR (.agg b8.toArray) (b8.toArray) d b4 rfl aB oc nb rfl (fun k3 d => lt (kw ?_)))
   obtain rfl := sj D
   exact mL (v := (.agg b8.toArray)) rfl b4 (jD d.has Mh b8 rfl aI aB) ⟨_, _, _, rfl, (d.lO (Db (Kb Sn))), (c0.trans c1), (m.trans n), (ST.kR d (mB.mem (Db (Kb Sn)))), (.slice a4 g.Kids.length a5), rfl, rfl, d3⟩
  refine kg (Wh h5 (Wh c5 ?_))
  obtain ⟨K, M, rfl⟩ := Y.form
  let i6 := (Uf u K Q.length M)
  refine V (lC (v := (.agg i6.toArray)) (pw rfl rfl) (kW aO bD (tS _ bD) kr)) ?_
  replace d := d.perm (Nb (Pb Pz) Nz)
  refine VO (jR (.agg i6.toArray) (i6.toArray) d b4 rfl aB oc nb rfl (fun k4 d => lt ?_))
  obtain rfl := sj D
  exact mL (v := (.agg i6.toArray)) rfl b4 (jD d.has Mh i6 rfl aI aB) ⟨_, _, _, rfl, (d.lO (Db (Kb Sn))), (c0.trans c1), (m.trans n), (ST.kR d (mB.mem (Db (Kb Sn)))), (.slice K Q.length M), rfl, rfl, Y⟩
 refine bC U (fun x U => ?_) (fun x U => ?_)
 ·refine un x (un x (un x (V (jS (cB x) rfl) ?_)))
  obtain rfl := sj U
  exact c2 _ _ ⟨_, (d.jy St), e1, e2, rfl, rfl, rfl⟩
 refine ug x (jH rfl) (ug x (kU aD rfl Y) (ug x (kG rfl rfl rfl) (V (jT (cB x) rfl) ?_)))
 obtain rfl := sj U
 exact c2 _ _ ⟨_, (d.jy St), e1, e2, rfl, rfl, rfl⟩
set_option maxHeartbeats 4000000 in
theorem Av (h6 : ll → Formula → Option (Formula × ll)) (m0 : ∀ (k : Nat) (a0 : ll) (g : Formula) (I : Value) (r : (Formula × ll)) (w : World) {μ0 : km} (h0 : ni μ0 ((k, Ol (mu a0) 175) :: []) w) (G : Sl jx 5 μ0 I g.Kids), h6 a0 g = some r → lT false pg0 118 [(.pointer (some ⟨k, 0, none⟩)), (.agg #[(.int .i64 g.Op), (.int .i64 g.K), (.string g.ju.jw), (.string g.ju.Word), I])] w μ0 ((k, Ol (mu a0) 175) :: []) (fun v L1 μ1 => ∃ y1, v = (.agg #[(.int .i64 ((r.1).Op)), (.int .i64 ((r.1).K)), (.string (((r.1).ju).jw)), (.string (((r.1).ju).Word)), y1]) ∧ L1 = ((k, Ol (mu (r.2)) 175) :: []) ∧ Sl jx 5 μ1 y1 ((r.1).Kids))) (k : Nat) (a0 : ll) (g : Formula) (I : Value) (r : (Formula × ll)) (w : World) {μ0 : km} (h0 : ni μ0 ((k, Ol (mu a0) 175) :: []) w) (G : Sl jx 5 μ0 I g.Kids) (hm : rX h6 a0 g = some r) :
  lT false pg0 118 [(.pointer (some ⟨k, 0, none⟩)), (.agg #[(.int .i64 g.Op), (.int .i64 g.K), (.string g.ju.jw), (.string g.ju.Word), I])] w μ0 ((k, Ol (mu a0) 175) :: []) (fun v L1 μ1 => ∃ y1, v = (.agg #[(.int .i64 ((r.1).Op)), (.int .i64 ((r.1).K)), (.string (((r.1).ju).jw)), (.string (((r.1).ju).Word)), y1]) ∧ L1 = ((k, Ol (mu (r.2)) 175) :: []) ∧ Sl jx 5 μ1 y1 ((r.1).Kids)) := by
 let i0 : Value := (.pointer (some ⟨k, 0, none⟩))
 let b8 := ((k, Ol (mu a0) 175) :: [])
 refine uW h0 82 func118 rfl (fun d => sg ?_)
 obtain ⟨A1, c2, rfl⟩ := G.form
 let a1 := (C1 g.Op g.K g.ju.jw g.ju.Word A1 g.Kids.length c2)
 refine VE (kd d rfl (fun W4 b3 d => VE (ku d aO (fun W6 b5 d => lS (Wf nq (VB d (Mt Mh) rfl rfl bY (Wi rfl (ln (CI hm rfl (fun n1 hm => ?_) (fun n1 hm => ?_))))))))))
 ·refine sg (VA d (Mt Mh) a1 aI aB (VO (jR (.agg a1.toArray) (a1.toArray) d rfl rfl aB oc nb rfl (fun W8 d => ln ?_))))
  replace d := d.jy (Kb (Db St))
  refine kh (kw ?_)
  obtain rfl := sj hm
  exact mL (v := (.agg a1.toArray)) rfl rfl (jD d.has Mh a1 rfl aI aB) ⟨_, _, _, rfl, (d.lO (Db (Kb Sn))), (kj.refl _), Lo.refl, (ST.kR d (mB.mem (Db (Kb Sn)))), (.slice A1 g.Kids.length c2), rfl, rfl, G⟩
 refine kg (Wa (lS (Wf np (VB d (Mt Mh) rfl rfl dJ (V (kU aD rfl G) (Wm (kk ?_)))))))
 let h9 : Value := (.pointer (some ⟨b5, 0, none⟩))
 refine jI (kC (fun i E W => ∃ b0 U a8 N Q f1, (E 19 = .int .i64 (i : Nat) ∧ E 18 = .int .i64 (g.Kids.length : Nat)) ∧ kj μ0 Q ∧ Lo (keys b8) w μ0 Q ∧ ST false (keys b8) w W Q ((k, Ol (mu N) 175) :: ((b5, Ol C6 30) :: ((b3, Ol a1 30) :: (a8 ++ f1)))) ∧ E 0 = i0 ∧ E 3 = (.pointer (some ⟨b3, 0, none⟩)) ∧ E 4 = h9 ∧ E 5 = b0 ∧ E 17 = (.slice A1 g.Kids.length c2) ∧ kK 30 jx 5 Q b0 U a8 ∧ nm h6 g (g.Kids.drop i) U N = some r) g.Kids.length G.len ⟨(.slice none 0 0), ([]), [], a0, μ0, _, ⟨rfl, rfl⟩, (kj.refl _), Lo.refl, (d.jy (Sb (Pb (Pb Pz)) St)), rfl, rfl, rfl, rfl, rfl, (kK.nil _ _ _ _), hm⟩ dc dc dc (fun _ _ _ h => by obtain ⟨_, _, _, _, _, _, A, _⟩ := h; exact A) ?_ ?_)
 ·rintro m1 E W j6 ⟨b0, U, a8, N, Q, f1, ⟨n, L⟩, H, m, d, c7, c8, c9, e2, f4, Y, u⟩
  obtain ⟨D, n3, l3, l2, l4⟩ := kp j6
  rw [l3] at u
  refine bg (VQ (lU (i := (m1 : Int)) (x0 := D) jx.out aD aB f4 n (G.mono jF.mono H) (aG _) l2) (fun q5 ⟨_, ⟨q9, rfl, f6⟩, j9⟩ => V (jA rfl (kf d.has j9 aI aB)) (VE (ku d aO (fun o0 q1 d => ?_)))))
  obtain ⟨d9, e1, rfl⟩ := f6.form
  let g2 := (C1 D.Op D.K D.ju.jw D.ju.Word d9 D.Kids.length e1)
  refine VO (jR (.agg g2.toArray) (g2.toArray) d rfl rfl aB oc nb rfl (fun o1 d => ln (jL (Wh e2 (Wh c7 (VA d Mh g2 aI aB (bS u fun t k1 u => ?_)))))))
  refine VE (eD d (Cb (Pb Pz) Cn) call118 (fun p => (m0 k N D (.slice d9 D.Kids.length e1) _ _ p (f6.mono jF.mono (kj.refl _)) k1)) ?_)
  rintro _ r0 m8 n5 d f0 O ⟨r6, e3, rfl, f7⟩
  obtain rfl := e3.symm
  replace d := d.perm (Tb Tn)
  obtain ⟨b7, c3, rfl⟩ := f7.form
  let i1 : Value := (.slice b7 ((t.1).Kids).length c3)
  refine VE (kq (cs := #[(.int .i64 ((t.1).Op)), (.int .i64 ((t.1).K)), (.string (((t.1).ju).jw)), (.string (((t.1).ju).Word)), i1]) d (lW rfl) (mr aD aB aO) (fun o3 q2 d => ?_))
  replace d := d.perm (Nr (Qb (Qb (Qb (Qb (Qb Qz))))) Nz)
  refine bS u fun m3 i5 u => VE (pJ (B := a8) jF d dc aD lM.1 lM.2.1 rfl lM.2.2.1 lM.2.2.2 rfl rfl (Y.mono jF f0) (xZ.lit jF (l := [t.1]) (.cons (ys := [(.int .i64 ((t.1).Op)), (.int .i64 ((t.1).K)), (.string (((t.1).ju).jw)), (.string (((t.1).ju).Word)), i1]) (jx.mk ⟨i1, rfl, f7⟩) .nil) rfl nb (d.at_ (Ma Mh))) i5 (fun o4 m5 l8 d i3 => Wa (kk (kA (jI ?_)))))
  replace d := d.jy (Kr (Db (Kb (Db St))))
  exact ⟨n, m5, m3, l8, t.2, m8, _, ⟨rfl, L⟩, (H.trans f0), (m.trans O), (d.jy (Sb (Pr Pz) (Sb (Pr Pz) (Sb (Pr Pz) St)))), c7, c8, c9, rfl, f4, i3, (by rw [l4]; exact u)⟩
 rintro E W ⟨b0, U, a8, N, Q, f1, ⟨n, L⟩, H, m, d, c7, c8, c9, e2, f4, Y, u⟩
 rw [aH] at u
 refine jI (jM (sg (V (jG nq c8) (VB d (Mt (Mt Mh)) rfl rfl bY (Wi rfl (ln (CI u rfl (fun i6 u => ?_) (fun i6 u => ?_))))))))
 ·refine sg (Wh c7 (V (jG nq c8) (VB d (Mt (Mt Mh)) rfl rfl bY (Wh e2 ?_))))
  replace d := d.perm (Nr (Qb (Qb (Qb Qz))) Nz)
  obtain ⟨s1, d, g7, P, k8⟩ := ST.uf jF d Y
  refine bS u fun x k2 u => ?_
  let l7 : Value := (.string (((x.1).ju).Word))
  let i2 : Value := (.string (((x.1).ju).jw))
  refine VE (eD d (Cb Pz Cn) call185 (fun p => (vk k N g.Op b0 U _ _ p (k8.mono jF.mono (kj.refl _)) k2)) ?_)
  rintro _ r1 s2 n6 d g8 R ⟨r7, e4, rfl, f8⟩
  obtain rfl := e4.symm
  replace d := d.perm (Tb Tn)
  obtain ⟨b9, c4, rfl⟩ := f8.form
  let g5 : Value := (.slice b9 ((x.1).Kids).length c4)
  let d7 : Value := (.agg #[(.int .i64 ((x.1).Op)), (.int .i64 ((x.1).K)), i2, l7, g5])
  replace d := d.perm (Nb (Pb Pz) Nz)
  refine VO (jR d7 (#[(.int .i64 ((x.1).Op)), (.int .i64 ((x.1).K)), i2, l7, g5]) d c9 rfl aB oc nb rfl (fun o6 d => ln ?_))
  replace d := d.jy (Kb (Kb (Db St)))
  refine kh (kw ?_)
  obtain rfl := sj u
  exact mL (v := d7) rfl c9 (jD d.has Mh [(.int .i64 ((x.1).Op)), (.int .i64 ((x.1).K)), i2, l7, g5] rfl aI aB) ⟨_, _, _, rfl, (d.lO (Db (Kb Sn))), ((H.trans g7).trans g8), ((m.trans P).trans R), (ST.kR d (mB.mem (Db (Kb Sn)))), g5, rfl, rfl, f8⟩
 refine kg (V (jG rr c8) (VB d (Mt (Mt Mh)) rfl rfl bY (Wa (ln ?_))))
 replace d := d.jy (Kb (Kb (Db St)))
 let o2 := ((mu N).toArray : Array Value)
 refine sg (Wa (lS (Wh e2 (V (so aD rfl Y) (Wm (ln (CJ u (fun e9 E W => ∃ b1 f3 g3, ST false (keys b8) w W Q ((k, Obj.cells o2 175 (0, 0)) :: ((b5, Ol C6 30) :: (f3 ++ g3))) ∧ E 0 = i0 ∧ E 4 = h9 ∧ E 8 = (.int .i64 e9.1) ∧ E 9 = b1 ∧ kK 30 jx 5 Q b1 e9.2 f3) (fun e9 j8 => ?_) ?_)))))))
 ·refine kC (fun i E W => ∃ a5 a4 a9 T f2, (E 42 = .int .i64 (i : Nat) ∧ E 41 = .int .i64 (U.length : Nat)) ∧ ST false (keys b8) w W Q ((k, Obj.cells o2 175 (0, 0)) :: ((b5, Ol C6 30) :: (T ++ (a8 ++ f2)))) ∧ E 0 = i0 ∧ E 4 = h9 ∧ E 8 = (.int .i64 a5) ∧ E 9 = a4 ∧ E 40 = b0 ∧ kK 30 jx 5 Q a4 a9 T ∧ mV (U.drop i) a5 a9 = some e9) U.length Y.len ⟨g.K, (.slice none 0 0), ([]), [], _, ⟨rfl, rfl⟩, (d.jy St), c7, c9, rfl, rfl, rfl, (kK.nil _ _ _ _), j8⟩ dc dc dc (fun _ _ _ h => by obtain ⟨_, _, _, _, _, A, _⟩ := h; exact A) ?_ ?_
  ·rintro m2 E W j7 ⟨a5, a4, a9, T, f2, ⟨n, L⟩, d, d2, d3, d4, d5, d6, a7, j⟩
   obtain ⟨a, n4, l6, l5, e8⟩ := kp j7
   rw [l6] at j
   refine bg (VQ (lu (i := (m2 : Int)) jx.out aD aB d6 n Y (aG _) l5) (fun q6 ⟨_, ⟨r5, rfl, b6⟩, k0, n2⟩ => V (jA rfl (kf (nC.hp _) (k0.mono (lR (fun b o hq => d.has.2 b o (Mt (Mt (Ma (Ml hq))))))) aI aB)) (VE (ku d aO (fun p5 q3 d => ?_)))))
   obtain ⟨J, K, rfl⟩ := b6.form
   let n0 : Value := (.slice J a.Kids.length K)
   let b4 := (C1 a.Op a.K a.ju.jw a.ju.Word J a.Kids.length K)
   refine VO (jR (.agg b4.toArray) (b4.toArray) d rfl rfl aB oc nb rfl (fun p6 d => lr (VA d Mh b4 aI aB (bS j fun q7 k6 j => VE (Eg d call186 (jV.lE (yP a n0 2 _ _ (b6.mono jF.mono d.jB) k6)) (fun p7 d => ln (CI j rfl (fun j3 j => ?_) (fun j3 j => ?_))))))))
   ·refine jL (Wh d4 (Wi rfl (Wa (kk (kA (jI ?_))))))
    replace d := d.jy (Db St)
    exact ⟨n, (wi0 .i64 (a5 - 1)), a4, a9, T, _, ⟨rfl, L⟩, (d.jy St), d2, d3, rfl, d5, d6, a7, (by rw [e8]; exact j)⟩
   refine sg (VA d Mh b4 aI aB (bS j fun q8 k7 j => VE (Eg d call186 (jV.lE (yP a n0 3 _ _ (b6.mono jF.mono d.jB) k7)) (fun p8 d => V (mT rfl) (ln (CI j rfl (fun j4 j => ?_) (fun j4 j => ?_)))))))
   ·refine jL (Wh d5 (VA d Mh b4 aI aB (VE (kq (cs := b4.toArray) d (lW rfl) (mr aD aB aO) (fun p9 q4 d => ?_)))))
    replace d := d.perm (Nr (Qb (Qb (Qb (Qb Qz)))) Nz)
    refine bS j fun m4 j5 j => VE (pJ (B := T) jF d dc aD lM.1 lM.2.1 rfl lM.2.2.1 lM.2.2.2 rfl rfl a7 (xZ.lit jF (l := [a]) (.cons (ys := C1 a.Op a.K a.ju.jw a.ju.Word J a.Kids.length K) (jx.mk ⟨n0, rfl, b6⟩) .nil) rfl nb (d.at_ (Ma Mh))) j5 (fun q0 m6 l9 d i4 => Wa (kk (kA (jI ?_)))))
    replace d := d.jy (Kr (Db (Db St)))
    exact ⟨n, a5, m6, m4, l9, _, ⟨rfl, L⟩, (d.jy (Sb (Pr Pz) (Sb (Pr Pz) St))), d2, d3, d4, rfl, d6, i4, (by rw [e8]; exact j)⟩
   refine kX (kA (jI ?_))
   replace d := d.jy (Db St)
   exact ⟨n, a5, a4, a9, T, _, ⟨rfl, L⟩, (d.jy St), d2, d3, d4, d5, d6, a7, (by rw [e8]; exact j)⟩
  rintro E W ⟨a5, a4, a9, T, f2, ⟨n, L⟩, d, d2, d3, d4, d5, d6, a7, j⟩
  rw [aH] at j
  refine jI ?_
  obtain rfl := sj j
  exact ⟨a4, T, _, (d.jy (Kb (Kb (Kr (Dr St))))), d2, d3, d4, d5, a7⟩
 rintro ⟨b2, f5⟩ E W ⟨b1, f3, g3, d, g4, M, d0, d1, a6⟩ c
 refine jM (sg (Wh d0 (Wi rfl (ln (CI c rfl (fun i7 c => ?_) (fun i7 c => ?_))))))
 ·refine sg (V (lC (v := (.agg EK.toArray)) (lW rfl) (kW aO bD (tS _ bD) kr)) ?_)
  replace d := d.perm (Nb (Pb Pz) Nz)
  refine VO (jR (.agg EK.toArray) (EK.toArray) d M rfl aB oc nb rfl (fun o7 d => ln ?_))
  replace d := d.jy (Kb (Kb (Dr St)))
  refine kh (kw ?_)
  obtain rfl := sj c
  exact mL (v := (.agg EK.toArray)) rfl M (jD d.has Mh EK rfl aI aB) ⟨_, _, _, rfl, (d.lO (Db (Kb Sn))), H, m, (ST.kR d (mB.mem (Db (Kb Sn)))), (.slice none 0 0), rfl, rfl, (Sl.nil _ _ _)⟩
 refine kS (Wh d0 (Wh d1 (V (so aD rfl a6) (Wi rfl (ln (CI c rfl (fun i8 c => ?_) (fun i8 c => ?_)))))))
 ·refine sg (V (lC (v := (.agg Gw.toArray)) (lW rfl) (kW aO bD (tS _ bD) kr)) ?_)
  replace d := d.perm (Nb (Pb Pz) Nz)
  refine VO (jR (.agg Gw.toArray) (Gw.toArray) d M rfl aB oc nb rfl (fun o8 d => ln ?_))
  replace d := d.jy (Kb (Kb (Dr St)))
  refine kh (kw ?_)
  obtain rfl := sj c
  exact mL (v := (.agg Gw.toArray)) rfl M (jD d.has Mh Gw rfl aI aB) ⟨_, _, _, rfl, (d.lO (Db (Kb Sn))), H, m, (ST.kR d (mB.mem (Db (Kb Sn)))), (.slice none 0 0), rfl, rfl, (Sl.nil _ _ _)⟩
 refine kS (Wh d0 (Wh d1 (V (so aD rfl a6) (Wi rfl (ln (CI c rfl (fun i9 c => ?_) (fun i9 c => ?_)))))))
 ·refine sg (Wh g4 (Wh d1 ?_))
  replace d := d.perm (Nr (Qb (Qb Qz)) Nz)
  obtain ⟨s3, d, g9, aa, k9⟩ := ST.uf jF d a6
  refine bS c fun y k3 c => ?_
  let m7 : Value := (.string (((y.1).ju).Word))
  let j1 : Value := (.string (((y.1).ju).jw))
  refine VE (eD d (Cb Pz Cn) call185 (fun p => (vk k N 2 b1 f5 _ _ p (k9.mono jF.mono (kj.refl _)) k3)) ?_)
  rintro _ r2 s4 n7 d h1 ab ⟨r8, e5, rfl, f9⟩
  obtain rfl := e5.symm
  replace d := d.perm (Tb Tn)
  obtain ⟨c0, c5, rfl⟩ := f9.form
  let g6 : Value := (.slice c0 ((y.1).Kids).length c5)
  let d8 : Value := (.agg #[(.int .i64 ((y.1).Op)), (.int .i64 ((y.1).K)), j1, m7, g6])
  replace d := d.perm (Nb (Pb Pz) Nz)
  refine VO (jR d8 (#[(.int .i64 ((y.1).Op)), (.int .i64 ((y.1).K)), j1, m7, g6]) d M rfl aB oc nb rfl (fun p0 d => lt (kw ?_)))
  obtain rfl := sj c
  exact mL (v := d8) rfl M (jD d.has Mh [(.int .i64 ((y.1).Op)), (.int .i64 ((y.1).K)), j1, m7, g6] rfl aI aB) ⟨_, _, _, rfl, (d.lO (Db (Kb Sn))), ((H.trans g9).trans h1), ((m.trans aa).trans ab), (ST.kR d (mB.mem (Db (Kb Sn)))), g6, rfl, rfl, f9⟩
 refine kS (Wh d0 (Wi rfl (ln (CI c rfl (fun j0 c => ?_) (fun j0 c => ?_)))))
 ·refine sg (Wh g4 (Wh d1 ?_))
  replace d := d.perm (Nr (Qb (Qb Qz)) Nz)
  obtain ⟨s5, d, h2, ad, l0⟩ := ST.uf jF d a6
  refine bS c fun z k4 c => ?_
  let m9 : Value := (.string (((z.1).ju).Word))
  let j2 : Value := (.string (((z.1).ju).jw))
  refine VE (eD d (Cb Pz Cn) call185 (fun p => (vk k N 3 b1 f5 _ _ p (l0.mono jF.mono (kj.refl _)) k4)) ?_)
  rintro _ r3 s6 n8 d h3 ae ⟨r9, e6, rfl, g0⟩
  obtain rfl := e6.symm
  replace d := d.perm (Tb Tn)
  obtain ⟨c1, c6, rfl⟩ := g0.form
  let h7 : Value := (.slice c1 ((z.1).Kids).length c6)
  let e0 : Value := (.agg #[(.int .i64 ((z.1).Op)), (.int .i64 ((z.1).K)), j2, m9, h7])
  replace d := d.perm (Nb (Pb Pz) Nz)
  refine VO (jR e0 (#[(.int .i64 ((z.1).Op)), (.int .i64 ((z.1).K)), j2, m9, h7]) d M rfl aB oc nb rfl (fun p2 d => lt (kw ?_)))
  obtain rfl := sj c
  exact mL (v := e0) rfl M (jD d.has Mh [(.int .i64 ((z.1).Op)), (.int .i64 ((z.1).K)), j2, m9, h7] rfl aI aB) ⟨_, _, _, rfl, (d.lO (Db (Kb Sn))), ((H.trans h2).trans h3), ((m.trans ad).trans ae), (ST.kR d (mB.mem (Db (Kb Sn)))), h7, rfl, rfl, g0⟩
 refine kg (Wh d0 (Wh d1 ?_))
 replace d := d.perm (Nr (Qb (Qb Qz)) Nz)
 obtain ⟨s7, d, h4, af, l1⟩ := ST.uf jF d a6
 refine bS c fun a3 k5 c => ?_
 refine VE (eD d (bT _) call187 (fun p => (Dh b1 f5 false _ _ p (l1.mono jF.mono (kj.refl _)) k5)) ?_ (L0 := []))
 rintro _ r4 s8 n9 d h5 ag ⟨s0, e7, rfl, g1⟩
 obtain rfl := e7.symm
 obtain ⟨Z, a2, rfl⟩ := g1.form
 let h8 := (Ug b2 Z a3.length a2)
 refine V (lC (v := (.agg h8.toArray)) (Dx rfl rfl rfl) (kW aO bD (tS _ bD) kr)) ?_
 replace d := d.perm (Nb (Pb Pz) Nz)
 refine VO (jR (.agg h8.toArray) (h8.toArray) d M rfl aB oc nb rfl (fun p4 d => lt ?_))
 obtain rfl := sj c
 exact mL (v := (.agg h8.toArray)) rfl M (jD d.has Mh h8 rfl aI aB) ⟨_, _, _, rfl, (d.lO (Db (Kb Sn))), ((H.trans h4).trans h5), ((m.trans af).trans ag), (ST.kR d (mB.mem (Db (Kb Sn)))), (.slice Z a3.length a2), rfl, rfl, g1⟩
theorem xX : ∀ (n : Nat) (c : Nat) (j : ll) (g : Formula) (a : Value) (r : (Formula × ll)) (w : World) {k : km} (y : ni k ((c, Ol (mu j) 175) :: []) w) (i : Sl jx 5 k a g.Kids) (_ : mY n j g = some r),
  lT false pg0 118 [(.pointer (some ⟨c, 0, none⟩)), (.agg #[(.int .i64 g.Op), (.int .i64 g.K), (.string g.ju.jw), (.string g.ju.Word), a])] w k ((c, Ol (mu j) 175) :: []) (fun v u x => ∃ t, v = (.agg #[(.int .i64 ((r.1).Op)), (.int .i64 ((r.1).K)), (.string (((r.1).ju).jw)), (.string (((r.1).ju).Word)), t]) ∧ u = ((c, Ol (mu (r.2)) 175) :: []) ∧ Sl jx 5 x t ((r.1).Kids))
 | 0 => by intros; rename_i h; simp only [mY] at h; cases h
 | n + 1 => Av (mY n) (xX n)
theorem H8 (c : Formula) (u : Value) (r : (Formula × Int)) (w : World) {Z : km} (O : ni Z [] w) (k : Sl jx 5 Z u c.Kids) (hm : yS c = some r) :
  lT false pg0 47 [(.agg #[(.int .i64 c.Op), (.int .i64 c.K), (.string c.ju.jw), (.string c.ju.Word), u])] w Z [] (fun v L1 μ1 => ∃ A, v = (.tuple #[(.agg #[(.int .i64 ((r.1).Op)), (.int .i64 ((r.1).K)), (.string (((r.1).ju).jw)), (.string (((r.1).ju).Word)), A]), (.int .i64 (r.2))]) ∧ L1 = [] ∧ Sl jx 5 μ1 A ((r.1).Kids)) := by
 refine uW O 26 func47 rfl (fun b => sg ?_)
 obtain ⟨H, I, rfl⟩ := k.form
 let n := (C1 c.Op c.K c.ju.jw c.ju.Word H c.Kids.length I)
 refine VE (kd b rfl (fun W4 R b => VE (ku b aO (fun W6 p b => Wa (lS (VA b (Mt Mh) n aI aB (bS hm fun r7 a5 hm => VE (Eg b call67 (wh c (.slice H c.Kids.length I) _ _ (k.mono jF.mono b.jB) a5) (fun W9 b => V (mT rfl) (ln (CI hm rfl (fun Q hm => ?_) (fun Q hm => ?_))))))))))))
 ·refine sg (V (lC (v := (.agg C6.toArray)) qt (kW aO bD (tS _ bD) kr)) (VO (jR (.agg C6.toArray) (C6.toArray) b rfl rfl aB oc nb rfl (fun b6 b => Wa (ln ?_)))))
  replace b := b.jy (Kb (Db St))
  refine kh (kw ?_)
  obtain rfl := sj hm
  exact ra (v0 := (.agg C6.toArray)) (v1 := (.int .i64 11)) rfl rfl (jD b.has Mh C6 rfl aI aB) rfl ⟨_, _, _, rfl, (b.lO Sn), (kj.refl _), Lo.refl, (ST.kR b (mB.mem Sn)), (.slice none 0 0), rfl, rfl, (Sl.nil _ _ _)⟩
 refine kg (V (lC (v := (.agg (mu (⟨false⟩ : ll)).toArray)) qt (kW zeroValue175 iO (TD _ iO) kr)) (VE (kd b rfl (fun b7 L b => Wa (lr (Wm (VA b (Mt (Mt Mh)) n aI aB (bS hm fun a U hm => ?_))))))))
 let m : Value := (.int .i64 ((a.1).K))
 let l : Value := (.int .i64 ((a.1).Op))
 let h : Value := (.string (((a.1).ju).Word))
 let a2 : Value := (.string (((a.1).ju).jw))
 refine VE (eD b (Cb Pz Cn) call118 (fun P => ((xX ki) L (⟨false⟩ : ll) c (.slice H c.Kids.length I) _ _ P (k.mono jF.mono (kj.refl _)) U)) ?_)
 rintro _ c7 a9 b4 b D d ⟨c9, y, rfl, z⟩
 obtain rfl := y.symm
 replace b := b.perm (Tb Tn)
 refine VE (ku b aO (fun c0 K b => ?_))
 obtain ⟨i, j, rfl⟩ := z.form
 let a0 : Value := (.slice i ((a.1).Kids).length j)
 let N : Value := (.agg #[l, m, a2, h, a0])
 refine VO (jR N (#[l, m, a2, h, a0]) b rfl rfl aB oc nb rfl (fun c1 b => ln ?_))
 replace b := b.jy (Kb (Kb (Kb (Db St))))
 refine jM (sg (Wm (Wn (Wf Iz (VB b (Mt Mh) rfl rfl isAgg4 (Wm (LJ hm (fun M E W => ∃ J, ST false (keys []) w W a9 ((K, Ob #[l, m, a2, h, a0] 30) :: ((p, Ol C6 30) :: J)) ∧ E 2 = (.pointer (some ⟨p, 0, none⟩)) ∧ E 5 = (.pointer (some ⟨K, 0, none⟩)) ∧ E 23 = (.bool M)) 4 ?_ (fun M t G => ?_))))))))
 ·rintro c8 E W ⟨J, b, B, a3, a4⟩ x
  refine ln (CI x a4 (fun T x => ?_) (fun T x => ?_))
  ·refine sg (V (lC (v := (.agg C6.toArray)) qt (kW aO bD (tS _ bD) kr)) ?_)
   replace b := b.perm (Nb (Pb Pz) Nz)
   refine VO (jR (.agg C6.toArray) (C6.toArray) b B rfl aB oc nb rfl (fun c3 b => Wa (ln ?_)))
   replace b := b.jy (Kb (Db St))
   refine kh (kw ?_)
   obtain rfl := sj x
   exact ra (v0 := (.agg C6.toArray)) (v1 := (.int .i64 12)) rfl B (jD b.has Mh C6 rfl aI aB) rfl ⟨_, _, _, rfl, (b.lO Sn), D, d, (ST.kR b (mB.mem Sn)), (.slice none 0 0), rfl, rfl, (Sl.nil _ _ _)⟩
  refine kg (V (jA a3 (jD b.has Mh [l, m, a2, h, a0] rfl aI aB)) ?_)
  replace b := b.perm (Nb (Pb Pz) Nz)
  refine VO (jR N (#[l, m, a2, h, a0]) b B rfl aB oc nb rfl (fun c4 b => Wa (ln ?_)))
  replace b := b.jy (Kb (Db St))
  refine kh ?_
  obtain rfl := sj x
  exact ra (v0 := N) (v1 := (.int .i64 0)) rfl B (jD b.has Mh [l, m, a2, h, a0] rfl aI aB) rfl ⟨_, _, _, rfl, (b.lO Sn), D, d, (ST.kR b (mB.mem Sn)), a0, rfl, rfl, z⟩
 refine bC t (fun g t => ?_) (fun g t => ?_)
 ·refine un g (un g (un g (V (jS (cB g) rfl) ?_)))
  obtain rfl := sj t
  exact G _ _ ⟨_, (b.jy (Kb (Db St))), rfl, rfl, rfl⟩
 refine ug g (jA rfl (jD b.has Mh [l, m, a2, h, a0] rfl aI aB)) (bS t fun c6 Y t => pE g (Eg b call67 (wh a.1 a0 _ _ (z.mono jF.mono b.jB) Y) (fun c5 b => ug g (mT rfl) (V (jT (cB g) rfl) ?_))))
 obtain rfl := sj t
 exact G _ _ ⟨_, (b.jy (Kb (Db St))), rfl, rfl, rfl⟩
theorem Gn (k : Value) (u : List jv) (g : jv) (r : Bool) (w : World) (j : Sl (Pl jz) 9 (hp w) k u) (hm : xY u g = some r) :
  jV true pg0 18 [k, (.agg (jz g).toArray)] w (.bool r) := by
 refine cG 17 func18 rfl (fun b => sg (VE (kd b rfl (fun Y J b => Wa (lS (Wm (V (kU aP rfl j) (Wm (ln ?_)))))))))
 refine kC (fun i E W => ∃ t, (E 9 = .int .i64 (i : Nat) ∧ E 8 = .int .i64 (u.length : Nat)) ∧ ST true kx w W (hp w) ((J, Ol (jz g) 52) :: t) ∧ E 3 = (.pointer (some ⟨J, 0, none⟩)) ∧ E 7 = k ∧ xk g (u.drop i) = some r) u.length j.len ⟨_, ⟨rfl, rfl⟩, (b.jy St), rfl, rfl, hm⟩ dc dc dc (fun _ _ _ h => by obtain ⟨_, l, _⟩ := h; exact l) ?_ ?_
 ·rintro K E W B ⟨t, ⟨d, m⟩, b, x, y, a⟩
  obtain ⟨c, M, H, G, I⟩ := kp B
  rw [H] at a
  refine bg (VQ (na (enc := jz) (i := (K : Int)) (x0 := c) aP aJ y d j (aG _) G) (fun U D => V (jA rfl (kf b.has D bR aJ)) (VE (ku b cO (fun N T b => VO (jR (.agg (jz c).toArray) ((jz c).toArray) b rfl rfl aJ (nz c) nb rfl (fun Q b => lr (VA b Mh (jz c) bR aJ (V (jA x (jD b.has (Mt Mh) (jz g) rfl bR aJ)) (V (uY rfl rfl (nf ey) (rb (uT _ c g))) (kk ?_)))))))))))
  refine jI ?_
  replace b := b.jy (Db St)
  refine CI a rfl (fun z a => ?_) (fun z a => ?_)
  ·refine sg (Wa (ln ?_))
   replace b := b.jy (Db St)
   refine kh (mi (kw (mi (kw ?_))))
   obtain rfl := sj a
   exact rP b
  exact kX (kA (jI ⟨d, _, ⟨rfl, m⟩, (b.jy St), x, y, (by rw [I]; exact a)⟩))
 rintro E W ⟨t, ⟨d, m⟩, b, x, y, a⟩
 rw [aH] at a
 refine jI ?_
 replace b := b.jy (Db St)
 exact sg (Wa (lt (rQ a b)))
set_option maxHeartbeats 4000000 in
theorem M3 (Y : kD) (b3 c5 : Value) (p : jv) (r : (Formula × Int)) (w : World) {μ0 : km} (h0 : ni μ0 [] w) (I : Sl jU 15 μ0 b3 Y.jJ) (Q : Sl kH 8 μ0 c5 Y.jW) (hm : A0 Y p = some r) :
  lT false pg0 184 [(.agg #[(.string Y.Name), b3, c5]), (.agg (jz p).toArray)] w μ0 [] (fun v L1 μ1 => ∃ y1, v = (.tuple #[(.agg #[(.int .i64 ((r.1).Op)), (.int .i64 ((r.1).K)), (.string (((r.1).ju).jw)), (.string (((r.1).ju).Word)), y1]), (.int .i64 (r.2))]) ∧ L1 = [] ∧ Sl jx 5 μ1 y1 ((r.1).Kids)) := by
 refine uW h0 62 func184 rfl (fun b => sg ?_)
 obtain ⟨A1, c2, rfl⟩ := I.form
 obtain ⟨A3, c4, rfl⟩ := Q.form
 refine VE (kd b rfl (fun W6 b5 b => VE (kd b rfl (fun W8 b7 b => VE (ku b aO (fun p4 b9 b => Wa (lS (Wf yR (VB b (Mt (Mt Mh)) rfl rfl jc (V (kU dP rfl I) (Wm (ln ?_))))))))))))
 refine kC (fun i E W => ∃ e6, (E 15 = .int .i64 (i : Nat) ∧ E 14 = .int .i64 (Y.jJ.length : Nat)) ∧ ST false (keys []) w W μ0 ((b9, Ol C6 30) :: ((b7, Ol (jz p) 52) :: ((b5, Ol (C5 Y.Name A1 Y.jJ.length c2 A3 Y.jW.length c4) 25) :: e6))) ∧ E 2 = (.pointer (some ⟨b5, 0, none⟩)) ∧ E 3 = (.pointer (some ⟨b7, 0, none⟩)) ∧ E 4 = (.pointer (some ⟨b9, 0, none⟩)) ∧ E 13 = (.slice A1 Y.jJ.length c2) ∧ wc p Y (Y.jJ.drop i) = some r) Y.jJ.length I.len ⟨_, ⟨rfl, rfl⟩, (b.jy St), rfl, rfl, rfl, rfl, hm⟩ dc dc dc (fun _ _ _ h => by obtain ⟨_, P, _⟩ := h; exact P) ?_ ?_
 ·let f2 : Value := (.pointer (some ⟨b9, 0, none⟩))
  rintro k8 E W i4 ⟨e6, ⟨O, eN⟩, b, f0, d2, b0, f1, t⟩
  obtain ⟨c, l6, j7, j6, j8⟩ := kp i4
  rw [j7] at t
  refine bg (VQ (lU (i := (k8 : Int)) (x0 := c) jU.out dP dD f1 O I (aG _) j6) (fun n6 ⟨_, ⟨n9, o0, rfl, j4, f3⟩, i7⟩ => V (jA rfl (kf b.has i7 fZ dD)) (VE (ku b eU (fun m1 n5 b => ?_)))))
  obtain ⟨g0, g4, rfl⟩ := j4.form
  obtain ⟨c7, d0, rfl⟩ := f3.form
  let a0 := (C3 c.Signed.jv.Kind c.Signed.jv.Head.jw c.Signed.jv.Head.Word c.Signed.jv.kE c.Signed.jv.B.jw c.Signed.jv.B.Word c.Signed.jv.C.jw c.Signed.jv.C.Word c.Signed.jv.kL g0 c.Signed.Tag.length g4 c.jC.Op c.jC.K c.jC.ju.jw c.jC.ju.Word c7 c.jC.Kids.length d0)
  refine VO (jR (.agg a0.toArray) (a0.toArray) b rfl rfl dD oc nb rfl (fun m2 b => lS (Wf zj (Wf yO (VA b Mh (jz c.Signed.jv) bR aJ (V (jA d2 (jD b.has (Mt (Mt Mh)) (jz p) rfl bR aJ)) (V (D6 rfl rfl (nf ey) (zD (uT _ c.Signed.jv p))) (ln (CI t rfl (fun i1 t => ?_) (fun i1 t => ?_))))))))))
  ·refine mF (ml (oU (jI ?_)))
   replace b := b.jy (Db St)
   exact ⟨O, _, ⟨rfl, eN⟩, (b.jy St), f0, d2, b0, f1, (by rw [j8]; exact t)⟩
  refine kg (Wf KG (VA b Mh (C1 c.jC.Op c.jC.K c.jC.ju.jw c.jC.ju.Word c7 c.jC.Kids.length d0) aI aB (bS t fun j i9 t => ?_)))
  refine VE (eD b (bT _) call47 (fun hh => (H8 c.jC (.slice c7 c.jC.Kids.length d0) _ _ hh (f3.mono jF.mono (kj.refl _)) i9)) ?_ (L0 := []))
  rintro _ o1 c0 l9 b c3 m ⟨o6, e0, rfl, f8⟩
  obtain rfl := e0.symm
  refine Wm (Wx rfl (Wx rfl (VE (ku b aO (fun m4 a5 b => ?_)))))
  let g5 : Value := (.pointer (some ⟨a5, 0, none⟩))
  obtain ⟨e4, e8, rfl⟩ := f8.form
  let g6 : Value := (.slice e4 ((j.1).Kids).length e8)
  refine VO (jR (.agg #[(.int .i64 ((j.1).Op)), (.int .i64 ((j.1).K)), (.string (((j.1).ju).jw)), (.string (((j.1).ju).Word)), g6]) (#[(.int .i64 ((j.1).Op)), (.int .i64 ((j.1).K)), (.string (((j.1).ju).jw)), (.string (((j.1).ju).Word)), g6]) b rfl rfl aB oc nb rfl (fun m5 b => Wa (ln ?_)))
  replace b := b.jy (Kb (Db St))
  refine jM (sg (V (jG E9 f0) (VB b (Mt (Mt (Mt Mh))) rfl rfl isAgg23 (V (kU dr rfl Q) (Wm (ln ?_))))))
  replace b := b.jy (Kb (Kb (Kb (Db St))))
  refine CJ t (fun T E W => ∃ d9 c1 g1, kj c0 c1 ∧ Lo (keys []) w c0 c1 ∧ ST false (keys []) w W c1 ((a5, Ob #[(.int .i64 T.2.1), (.int .i64 T.2.2.1), (.string T.2.2.2.1.jw), (.string T.2.2.2.1.Word), d9] 30) :: ((b9, Ol C6 30) :: g1)) ∧ E 4 = f2 ∧ E 8 = g5 ∧ E 9 = (.int .i64 T.1) ∧ Sl jx 5 c1 d9 T.2.2.2.2) (fun T i6 => ?_) ?_
  ·refine kC (fun i E W => ∃ R u x g U z J e7, (E 33 = .int .i64 (i : Nat) ∧ E 32 = .int .i64 (Y.jW.length : Nat)) ∧ kj c0 J ∧ Lo (keys []) w c0 J ∧ ST false (keys []) w W J ((a5, Ob #[(.int .i64 u), (.int .i64 x), (.string g.jw), (.string g.Word), U] 30) :: ((b9, Ol C6 30) :: ((b7, Ol (jz p) 52) :: e7))) ∧ E 3 = (.pointer (some ⟨b7, 0, none⟩)) ∧ E 4 = f2 ∧ E 8 = g5 ∧ E 9 = (.int .i64 R) ∧ E 31 = (.slice A3 Y.jW.length c4) ∧ Sl jx 5 J U z ∧ sM p (Y.jW.drop i) R u x g z = some T) Y.jW.length Q.len ⟨j.2, ((j.1).Op), ((j.1).K), ((j.1).ju), g6, ((j.1).Kids), c0, _, ⟨rfl, rfl⟩, (kj.refl _), Lo.refl, (b.jy St), d2, b0, rfl, rfl, rfl, f8, i6⟩ dc dc dc (fun _ _ _ h => by obtain ⟨_, _, _, _, _, _, _, _, P, _⟩ := h; exact P) ?_ ?_
   ·rintro h4 E W i5 ⟨R, u, x, g, U, z, J, e7, ⟨O, eN⟩, Z, d, b, d4, d5, d6, b1, d7, a3, K⟩
    obtain ⟨a, l7, k0, j9, f7⟩ := kp i5
    rw [k0] at K
    refine bg (VQ (lU (i := (h4 : Int)) (x0 := a) kH.out dr dQ d7 O (Q.mono lx.mono (c3.trans Z)) (aG _) j9) (fun n7 ⟨_, ⟨o2, o3, rfl, f5, f6⟩, i8⟩ => V (jA rfl (kf b.has i8 iX dQ)) (VE (ku b gu (fun m8 g3 b => ?_)))))
    obtain ⟨D, G, rfl⟩ := f5.form
    let h6 : Value := (.slice D a.jC.Kids.length G)
    obtain ⟨c8, d1, rfl⟩ := f6.form
    let b8 := (C9 a.ju.jw a.ju.Word a.jC.Op a.jC.K a.jC.ju.jw a.jC.ju.Word D a.jC.Kids.length G c8 a.me.length d1)
    refine VO (jR (.agg b8.toArray) (b8.toArray) b rfl rfl dQ oc nb rfl (fun m9 b => lr (Wh b1 (Wi rfl (Wm (LJ K (fun h5 E W => ∃ g2, ST false (keys []) w W J ((g3, Ol b8 132) :: ((a5, Ob #[(.int .i64 u), (.int .i64 x), (.string g.jw), (.string g.Word), U] 30) :: ((b9, Ol C6 30) :: ((b7, Ol (jz p) 52) :: g2)))) ∧ E 3 = (.pointer (some ⟨b7, 0, none⟩)) ∧ E 4 = f2 ∧ E 8 = g5 ∧ E 9 = (.int .i64 R) ∧ E 11 = (.pointer (some ⟨g3, 0, none⟩)) ∧ E 31 = (.slice A3 Y.jW.length c4) ∧ E 32 = (.int .i64 (Y.jW.length : Int)) ∧ E 33 = (.int .i64 (h4 : Int)) ∧ E 44 = (.bool h5)) 5 ?_ (fun h5 N e3 => ?_)))))))
    ·rintro o5 E W ⟨g2, b, g8, g9, d8, k5, k6, h1, h2, h3, k7⟩ M
     refine ln (CI M k7 (fun i3 M => ?_) (fun i3 M => ?_))
     ·refine jL (V (jA d8 (jD b.has (Mt Mh) [(.int .i64 u), (.int .i64 x), (.string g.jw), (.string g.Word), U] rfl aI aB)) (V (jG Ir k6) (VA b Mh (C1 a.jC.Op a.jC.K a.jC.ju.jw a.jC.ju.Word D a.jC.Kids.length G) aI aB ?_)))
      obtain ⟨a4, a6, rfl⟩ := a3.form
      refine VE (kq (cs := #[(.int .i64 u), (.int .i64 x), (.string g.jw), (.string g.Word), (.slice a4 z.length a6), (.int .i64 a.jC.Op), (.int .i64 a.jC.K), (.string a.jC.ju.jw), (.string a.jC.ju.Word), h6]) b (pw rfl rfl) (mr aD aB aO) (fun n0 c9 b => V (lC (v := (.agg #[(.int .i64 2), (.int .i64 0), (.string zS), (.string zS), (.slice (some ⟨c9, 0, none⟩) 2 2)])) (pw rfl rfl) (kW aO bD (tS _ bD) kr)) ?_))
      obtain ⟨o8, b, h7, A, j5⟩ := ST.uf (B := [(c9, Ob #[(.int .i64 u), (.int .i64 x), (.string g.jw), (.string g.Word), (.slice a4 z.length a6), (.int .i64 a.jC.Op), (.int .i64 a.jC.K), (.string a.jC.ju.jw), (.string a.jC.ju.Word), h6] 30)]) jF b (kK.lit jF (l := [(⟨u, x, g, z⟩ : Formula), a.jC]) (.cons (ys := C1 u x g.jw g.Word a4 z.length a6) (jx.mk ⟨(.slice a4 z.length a6), rfl, a3⟩) (.cons (ys := C1 a.jC.Op a.jC.K a.jC.ju.jw a.jC.ju.Word D a.jC.Kids.length G) (jx.mk ⟨h6, rfl, f5⟩) .nil)) rfl nb rfl)
      refine bS M fun k j0 M => ?_
      refine VE (eD b (bT _) call47 (fun hh => (H8 (⟨2, 0, K0, [(⟨u, x, g, z⟩ : Formula), a.jC]⟩ : Formula) (.slice (some ⟨c9, 0, none⟩) 2 2) _ _ hh (j5.mono jF.mono (kj.refl _)) j0)) ?_ (L0 := []))
      rintro _ o4 l0 m0 b h8 L ⟨o7, e1, rfl, f9⟩
      obtain rfl := e1.symm
      refine Wm (Wx rfl (Wx rfl ?_))
      obtain ⟨e5, e9, rfl⟩ := f9.form
      let h9 : Value := (.slice e5 ((k.1).Kids).length e9)
      replace b := b.perm (Nb (Pb Pz) Nz)
      refine VO (jR (.agg #[(.int .i64 ((k.1).Op)), (.int .i64 ((k.1).K)), (.string (((k.1).ju).jw)), (.string (((k.1).ju).Word)), h9]) (#[(.int .i64 ((k.1).Op)), (.int .i64 ((k.1).K)), (.string (((k.1).ju).jw)), (.string (((k.1).ju).Word)), h9]) b d8 rfl aB oc nb rfl (fun n2 b => Wa (kk (kA (jI ?_)))))
      replace b := b.jy (Kb (Db St))
      exact ⟨h3, k.2, ((k.1).Op), ((k.1).K), ((k.1).ju), h9, ((k.1).Kids), l0, _, ⟨rfl, h2⟩, ((Z.trans h7).trans h8), ((d.trans A).trans L), (b.jy St), g8, g9, d8, rfl, h1, f9, (by rw [f7]; exact M)⟩
     refine kX (kA (jI ?_))
     replace b := b.jy (Db St)
     exact ⟨h3, R, u, x, g, U, z, J, _, ⟨rfl, h2⟩, Z, d, (b.jy St), g8, g9, d8, k5, h1, a3, (by rw [f7]; exact M)⟩
    refine bC N (fun y N => ?_) (fun y N => ?_)
    ·refine ug y (jG IJ rfl) (ug y (jA rfl (jP b.has Mh rfl isAgg45)) (ug y (jA d4 (jD b.has (Mt (Mt (Mt Mh))) (jz p) rfl bR aJ)) (bS N fun n8 j3 N => pE y (Eg b call18 (jV.lE (Gn (.slice c8 a.me.length d1) a.me p _ _ (f6.mono (Pl.mono _) b.jB) j3)) (fun n3 b => V (jS (cB y) rfl) ?_)))))
     obtain rfl := sj N
     exact e3 _ _ ⟨_, (b.jy St), d4, d5, d6, b1, rfl, d7, eN, O, rfl⟩
    refine un y (un y (un y (un y (V (jT (cB y) rfl) ?_))))
    obtain rfl := sj N
    exact e3 _ _ ⟨_, (b.jy St), d4, d5, d6, b1, rfl, d7, eN, O, rfl⟩
   rintro E W ⟨R, u, x, g, U, z, J, e7, ⟨O, eN⟩, Z, d, b, d4, d5, d6, b1, d7, a3, K⟩
   rw [aH] at K
   refine jI ?_
   obtain rfl := sj K
   exact ⟨U, J, _, Z, d, (b.jy (Kb (Kb (Db St)))), d5, d6, b1, a3⟩
  rintro ⟨k9, b4, b6, H, b2⟩ E W ⟨d9, c1, g1, e2, n, b, d3, k4, g7, f4⟩ a2
  refine jM (sg (Wh g7 (Wi rfl (ln (CI a2 rfl (fun i2 a2 => ?_) (fun i2 a2 => ?_))))))
  ·refine sg (V (lC (v := (.agg C6.toArray)) qt (kW aO bD (tS _ bD) kr)) (Wh g7 ?_))
   replace b := b.perm (Nb (Pb Pz) Nz)
   refine VO (jR (.agg C6.toArray) (C6.toArray) b d3 rfl aB oc nb rfl (fun m6 b => Wa (ln ?_)))
   replace b := b.jy (Kb (Db St))
   refine kh (kw (mi (kw (mi (kw ?_)))))
   obtain rfl := sj a2
   exact ra (v0 := (.agg C6.toArray)) (v1 := (.int .i64 k9)) rfl d3 (jD b.has Mh C6 rfl aI aB) rfl ⟨_, _, _, rfl, (b.lO Sn), (c3.trans e2), (m.trans n), (ST.kR b (mB.mem Sn)), (.slice none 0 0), rfl, rfl, (Sl.nil _ _ _)⟩
  refine kg (V (jA k4 (jD b.has Mh [(.int .i64 b4), (.int .i64 b6), (.string H.jw), (.string H.Word), d9] rfl aI aB)) ?_)
  obtain ⟨a8, a9, rfl⟩ := f4.form
  let c6 := (C1 b4 b6 H.jw H.Word a8 b2.length a9)
  replace b := b.perm (Nb (Pb Pz) Nz)
  refine VO (jR (.agg c6.toArray) (c6.toArray) b d3 rfl aB oc nb rfl (fun m7 b => Wa (ln ?_)))
  replace b := b.jy (Kb (Db St))
  refine kh (mi (kw (mi (kw ?_))))
  obtain rfl := sj a2
  exact ra (v0 := (.agg c6.toArray)) (v1 := (.int .i64 0)) rfl d3 (jD b.has Mh c6 rfl aI aB) rfl ⟨_, _, _, rfl, (b.lO Sn), (c3.trans e2), (m.trans n), (ST.kR b (mB.mem Sn)), (.slice a8 b2.length a9), rfl, rfl, f4⟩
 rintro E W ⟨e6, ⟨O, eN⟩, b, f0, d2, b0, f1, t⟩
 rw [aH] at t
 refine jI ?_
 replace b := b.jy (Kb (Db (Db St)))
 refine sg (V (lC (v := (.agg C6.toArray)) qt (kW aO bD (tS _ bD) kr)) (VO (jR (.agg C6.toArray) (C6.toArray) b b0 rfl aB oc nb rfl (fun n4 b => Wa (lt ?_)))))
 obtain rfl := sj t
 exact ra (v0 := (.agg C6.toArray)) (v1 := (.int .i64 42)) rfl b0 (jD b.has Mh C6 rfl aI aB) rfl ⟨_, _, _, rfl, (b.lO Sn), (kj.refl _), Lo.refl, (ST.kR b (mB.mem Sn)), (.slice none 0 0), rfl, rfl, (Sl.nil _ _ _)⟩
theorem Lp (k : Value) (u : List ju) (g : ju) (r : Bool) (w : World) (j : Sl (Pl jE) 2 (hp w) k u) (hm : Aa u g = some r) :
  jV true pg0 188 [k, (.agg (jE g).toArray)] w (.bool r) := by
 refine cG 17 func188 rfl (fun b => sg (VE (kd b rfl (fun Y J b => Wa (lS (Wm (V (kU eo rfl j) (Wm (ln ?_)))))))))
 refine kC (fun i E W => ∃ t, (E 9 = .int .i64 (i : Nat) ∧ E 8 = .int .i64 (u.length : Nat)) ∧ ST true kx w W (hp w) ((J, Ol (jE g) 27) :: t) ∧ E 3 = (.pointer (some ⟨J, 0, none⟩)) ∧ E 7 = k ∧ xj g (u.drop i) = some r) u.length j.len ⟨_, ⟨rfl, rfl⟩, (b.jy St), rfl, rfl, hm⟩ dc dc dc (fun _ _ _ h => by obtain ⟨_, l, _⟩ := h; exact l) ?_ ?_
 ·rintro K E W B ⟨t, ⟨d, m⟩, b, x, y, a⟩
  obtain ⟨c, M, H, G, I⟩ := kp B
  rw [H] at a
  refine bg (VQ (na (enc := jE) (i := (K : Int)) (x0 := c) eo aN y d j (aG _) G) (fun U D => V (jA rfl (kf b.has D bn aN)) (VE (ku b ee (fun N T b => VO (jR (.agg (jE c).toArray) ((jE c).toArray) b rfl rfl aN (vt c) nb rfl (fun Q b => lr (VA b Mh (jE c) bn aN (V (jA x (jD b.has (Mt Mh) (jE g) rfl bn aN)) (V (uY rfl rfl (nf dV) (rb (pz _ c g))) (kk ?_)))))))))))
  refine jI ?_
  replace b := b.jy (Db St)
  refine CI a rfl (fun z a => ?_) (fun z a => ?_)
  ·refine sg (Wa (ln ?_))
   replace b := b.jy (Db St)
   refine kh (mi (kw (mi (kw ?_))))
   obtain rfl := sj a
   exact rP b
  exact kX (kA (jI ⟨d, _, ⟨rfl, m⟩, (b.jy St), x, y, (by rw [I]; exact a)⟩))
 rintro E W ⟨t, ⟨d, m⟩, b, x, y, a⟩
 rw [aH] at a
 refine jI ?_
 replace b := b.jy (Db St)
 exact sg (Wa (lt (rQ a b)))
theorem F4 (N : Formula → (List ju) → Option Bool) (a5 : ∀ (g : Formula) (k : Value) (t : Value) (H : List ju) (r : Bool) (w : World) (c : Sl jx 5 (hp w) k g.Kids) (J : Sl (Pl jE) 2 (hp w) t H), N g H = some r → jV false pg0 119 [(.agg #[(.int .i64 g.Op), (.int .i64 g.K), (.string g.ju.jw), (.string g.ju.Word), k]), t] w (.bool r)) (g : Formula) (k t : Value) (H : List ju) (r : Bool) (w : World) (c : Sl jx 5 (hp w) k g.Kids) (J : Sl (Pl jE) 2 (hp w) t H) (hm : xK N g H = some r) :
  jV false pg0 119 [(.agg #[(.int .i64 g.Op), (.int .i64 g.K), (.string g.ju.jw), (.string g.ju.Word), k]), t] w (.bool r) := by
 refine cG 45 func119 rfl (fun b => sg ?_)
 obtain ⟨A1, c2, rfl⟩ := c.form
 refine VE (kd b rfl (fun W4 n b => Wa (lS (Wf nq (VB b Mh rfl rfl bY (Wi rfl (ln (CI hm rfl (fun a9 hm => ?_) (fun a9 hm => ?_)))))))))
 ·refine sg (Wm (Wf tJ (VA b Mh (jE g.ju) bn aN (bS hm fun r6 A hm => VE (Eg b call188 (jV.lE (Lp t H g.ju _ _ (J.mono (Pl.mono _) b.jB) A)) (fun W8 b => Wa (ln ?_)))))))
  replace b := b.jy (Db St)
  refine kh (kw ?_)
  obtain rfl := sj hm
  exact rP b
 refine kg (Wa (lS (Wf np (VB b Mh rfl rfl dJ (V (kU aD rfl c) (Wm (kk ?_)))))))
 refine jI (kC (fun i E W => ∃ y I, (E 18 = .int .i64 (i : Nat) ∧ E 17 = .int .i64 (g.Kids.length : Nat)) ∧ ST false kx w W (hp w) ((n, Ol (C1 g.Op g.K g.ju.jw g.ju.Word A1 g.Kids.length c2) 30) :: I) ∧ E 1 = t ∧ E 2 = (.pointer (some ⟨n, 0, none⟩)) ∧ E 5 = (.int .i64 y) ∧ E 16 = (.slice A1 g.Kids.length c2) ∧ qZ N H g (g.Kids.drop i) y = some r) g.Kids.length c.len ⟨0, _, ⟨rfl, rfl⟩, (b.jy St), rfl, rfl, rfl, rfl, hm⟩ dc dc dc (fun _ _ _ h => by obtain ⟨_, _, l, _⟩ := h; exact l) ?_ ?_)
 ·rintro L E W a4 ⟨y, I, ⟨d, m⟩, b, D, u, x, G, a⟩
  obtain ⟨j, c1, v, p, M⟩ := kp a4
  rw [v] at a
  refine bg (VQ (lU (i := (L : Int)) (x0 := j) jx.out aD aB G d c (aG _) p) (fun b7 ⟨_, ⟨c0, rfl, K⟩, Y⟩ => V (jA rfl (kf b.has Y aI aB)) (VE (ku b aO (fun O b6 b => ?_)))))
  obtain ⟨z, B, rfl⟩ := K.form
  let a0 := (C1 j.Op j.K j.ju.jw j.ju.Word z j.Kids.length B)
  refine VO (jR (.agg a0.toArray) (a0.toArray) b rfl rfl aB oc nb rfl (fun P b => lr (VA b Mh a0 aI aB (Wh D (bS a fun b9 Z a => VE (Eg b call119 (a5 j (.slice z j.Kids.length B) t H _ _ (K.mono jF.mono b.jB) (J.mono (Pl.mono _) b.jB) Z) (fun R b => ln ?_)))))))
  replace b := b.jy (Db St)
  refine CI a rfl (fun Q a => ?_) (fun Q a => ?_)
  ·exact jL (Wh x (Wi rfl (Wa (kk (kA (jI ⟨d, (wi0 .i64 (y + 1)), _, ⟨rfl, m⟩, (b.jy St), D, u, rfl, G, (by rw [M]; exact a)⟩))))))
  exact kX (kA (jI ⟨d, y, _, ⟨rfl, m⟩, (b.jy St), D, u, x, G, (by rw [M]; exact a)⟩))
 rintro E W ⟨y, I, ⟨d, m⟩, b, D, u, x, G, a⟩
 rw [aH] at a
 refine jI (jM (sg (V (jG nq u) (VB b Mh rfl rfl bY (Wi rfl (ln (CI a rfl (fun T a => ?_) (fun T a => ?_))))))))
 ·refine sg (Wh x (V (jG np u) (VB b Mh rfl rfl dJ (V (kU aD rfl c) (Wi rfl (Wa (ln ?_)))))))
  replace b := b.jy (Db St)
  refine kh (kw ?_)
  obtain rfl := sj a
  exact rP b
 refine kS (V (jG nq u) (VB b Mh rfl rfl bY (Wi rfl (ln (CI a rfl (fun U a => ?_) (fun U a => ?_))))))
 ·refine sg (Wh x (Wi rfl (Wa (ln ?_))))
  replace b := b.jy (Db St)
  refine kh (kw ?_)
  obtain rfl := sj a
  exact rP b
 refine kg (Wh x (V (jG rr u) (VB b Mh rfl rfl bY (Wi rfl (Wa (ln ?_))))))
 exact kh (rQ a b)
theorem BF : ∀ (n : Nat) (c : Formula) (a : Value) (g : Value) (j : List ju) (r : Bool) (w : World) (i : Sl jx 5 (hp w) a c.Kids) (k : Sl (Pl jE) 2 (hp w) g j) (_ : qL n c j = some r),
  jV false pg0 119 [(.agg #[(.int .i64 c.Op), (.int .i64 c.K), (.string c.ju.jw), (.string c.ju.Word), a]), g] w (.bool r)
 | 0 => by intros; rename_i h; simp only [qL] at h; cases h
 | n + 1 => F4 (qL n) (BF n)
theorem EZ (k : kD) (D I b4 : Value) (O : List jv) (a2 : ByteArray) (r : List jv) (w : World) (g : Sl jU 15 (hp w) D k.jJ) (H : Sl kH 8 (hp w) I k.jW) (g2 : Sl (Pl jz) 9 (hp w) b4 O) (hm : wY k O a2 = some r) :
  lV false pg0 116 [(.agg #[(.string k.Name), D, I]), b4, (.string a2)] w 52 jz 9 r := by
 refine vi 48 func116 rfl (fun d => sg ?_)
 obtain ⟨A1, c2, rfl⟩ := g.form
 let b8 : Value := (.slice A1 k.jJ.length c2)
 obtain ⟨A3, c4, rfl⟩ := H.form
 let P := (C5 k.Name A1 k.jJ.length c2 A3 k.jW.length c4)
 refine VE (kd d rfl (fun W6 A d => Wa (lr (Wm (bS hm fun r7 h0 hm => VE (tU d call183 (lV.lE (Ik b4 O _ _ (g2.mono (Pl.mono _) d.jB) h0)) (fun W9 h1 j8 j6 d Y ae g0 => Wm (bS hm fun f1 g3 hm => VE (tU d call182 (lV.lE (Ef h1 r7 a2 _ _ (g0.sl pN (fun b o m => d.at_ (Ml m))) g3)) (fun j7 d5 f2 f0 d Z af g1 => Wa (ln ?_)))))))))))
 replace d := d.jy (Kr (Dr St))
 refine sg (Wa (lS (Wf yR (VB d (Ma Mh) rfl rfl jc (V (kU dP rfl g) (Wm (ln (kC (fun i E W => ∃ z G B a4 b0, (E 20 = .int .i64 (i : Nat) ∧ E 19 = .int .i64 (k.jJ.length : Nat)) ∧ kj f2 a4 ∧ ST false kx w W a4 ((A, Ol P 25) :: (B ++ (f0 ++ b0))) ∧ E 3 = (.pointer (some ⟨A, 0, none⟩)) ∧ E 7 = d5 ∧ E 8 = z ∧ E 18 = b8 ∧ jZ 52 jz 9 z G B ∧ qV k f1 (k.jJ.drop i) G = some r) k.jJ.length g.len ⟨(.slice none 0 0), ([]), [], f2, _, ⟨rfl, rfl⟩, (kj.refl _), (d.jy (Sb (Pr Pz) St)), rfl, rfl, rfl, rfl, (jZ.nil _ _ _), hm⟩ dc dc dc (fun _ _ _ h => by obtain ⟨_, _, _, _, _, aa, _⟩ := h; exact aa) ?_ ?_))))))))
 ·rintro d3 E W e1 ⟨z, G, B, a4, b0, ⟨L, eN⟩, u, d, N, Q, T, U, J, j⟩
  obtain ⟨a, h2, e9, e8, b9⟩ := kp e1
  rw [e9] at j
  refine bg (VQ (lU (i := (d3 : Int)) (x0 := a) jU.out dP dD U L (g.mono jX.mono ((Y.trans Z).trans u)) (aG _) e8) (fun i4 ⟨_, ⟨i8, i9, rfl, e6, e7⟩, e2⟩ => V (jA rfl (kf d.has e2 fZ dD)) (VE (ku d eU (fun h4 c5 d => ?_)))))
  obtain ⟨a8, b2, rfl⟩ := e6.form
  obtain ⟨a9, b3, rfl⟩ := e7.form
  let a0 := (C3 a.Signed.jv.Kind a.Signed.jv.Head.jw a.Signed.jv.Head.Word a.Signed.jv.kE a.Signed.jv.B.jw a.Signed.jv.B.Word a.Signed.jv.C.jw a.Signed.jv.C.Word a.Signed.jv.kL a8 a.Signed.Tag.length b2 a.jC.Op a.jC.K a.jC.ju.jw a.jC.ju.Word a9 a.jC.Kids.length b3)
  refine VO (jR (.agg a0.toArray) (a0.toArray) d rfl rfl dD oc nb rfl (fun h5 d => lr (V (jA N (jD d.has (Mt Mh) P rfl dt cL)) (Wf zj (Wf yO (VA d Mh (jz a.Signed.jv) bR aJ (bS j fun c e3 j => ?_)))))))
  let c6 : Value := (.string (((c.1).ju).Word))
  let c1 : Value := (.string (((c.1).ju).jw))
  refine VE (eD d (bT _) call184 (fun hh => (M3 k b8 (.slice A3 k.jW.length c4) a.Signed.jv _ _ hh (g.mono jX.mono ((Y.trans Z).trans u)) (H.mono lx.mono ((Y.trans Z).trans u)) e3)) ?_ (L0 := []))
  rintro _ j0 b6 h3 d a5 ab ⟨j4, a3, rfl, c0⟩
  obtain rfl := a3.symm
  refine Wm (Wx rfl (Wx rfl (VE (ku d aO (fun h7 i3 d => ?_)))))
  obtain ⟨K, M, rfl⟩ := c0.form
  let n : Value := (.slice K ((c.1).Kids).length M)
  refine VO (jR (.agg #[(.int .i64 ((c.1).Op)), (.int .i64 ((c.1).K)), c1, c6, n]) (#[(.int .i64 ((c.1).Op)), (.int .i64 ((c.1).K)), c1, c6, n]) d rfl rfl aB oc nb rfl (fun h8 d => Wa (lr (Wm (Wi rfl (Wm (LJ j (fun d4 E W => ∃ c3, ST false kx w W b6 ((c5, Ol a0 57) :: ((A, Ol P 25) :: (B ++ (f0 ++ c3)))) ∧ E 3 = (.pointer (some ⟨A, 0, none⟩)) ∧ E 7 = d5 ∧ E 8 = z ∧ E 10 = (.pointer (some ⟨c5, 0, none⟩)) ∧ E 18 = b8 ∧ E 19 = (.int .i64 (k.jJ.length : Int)) ∧ E 20 = (.int .i64 (d3 : Int)) ∧ E 38 = (.bool d4)) 4 ?_ (fun d4 y a6 => ?_))))))))
  ·rintro j3 E W ⟨c3, d, c7, c8, c9, f8, d0, d1, d2, f9⟩ x
   refine ln (CI x f9 (fun d9 x => ?_) (fun d9 x => ?_))
   ·refine jL (Wh c9 (V (jG zj f8) (Wf yO (VA d Mh (jz a.Signed.jv) bR aJ (VE (kq (cs := (jz a.Signed.jv).toArray) d (lW rfl) (mr aP aJ cO) (fun h9 f7 d => ?_)))))))
    replace d := d.perm (Nr (Qb (Qb (Qb Qz))) Nz)
    refine bS x fun g4 e0 x => VE (nW (enc := jz) (v := z) (vs := (.slice (some ⟨f7, 0, none⟩) 1 1)) (R := B) d kM dc nz aP nO.1 nO.2.1 rfl nO.2.2.1 nO.2.2.2 rfl rfl J (Sl.lit (enc := jz) (l := [a.Signed.jv]) kM rfl nb rfl (d.at_ (Ma Mh))) e0 (fun i0 g7 f3 d d8 => Wa (kk (kA (jI ?_)))))
    replace d := d.jy (Kr (Db (Db St)))
    exact ⟨d2, g7, g4, f3, b6, _, ⟨rfl, d1⟩, (u.trans a5), (d.jy (Sb (Pr Pz) St)), c7, c8, rfl, d0, d8, (by rw [b9]; exact x)⟩
   refine kX (kA (jI ?_))
   replace d := d.jy (Db St)
   exact ⟨d2, z, G, B, b6, _, ⟨rfl, d1⟩, (u.trans a5), (d.jy St), c7, c8, c9, d0, J, (by rw [b9]; exact x)⟩
  refine bC y (fun t y => ?_) (fun t y => ?_)
  ·refine ug t (jA rfl (jD d.has Mh [(.int .i64 ((c.1).Op)), (.int .i64 ((c.1).K)), c1, c6, n] rfl aI aB)) (ug t (jH Q) (bS y fun i5 e4 y => pE t (Eg d call119 ((BF ki) c.1 n d5 f1 _ _ (c0.mono jF.mono d.jB) (g1.sl xq (fun b o m => d.at_ (Mt (Mt (Mt (Ma (Ml m))))))) e4) (fun i1 d => V (jS (cB t) rfl) ?_))))
   obtain rfl := sj y
   exact a6 _ _ ⟨_, (d.jy (Db St)), N, Q, T, rfl, U, eN, L, rfl⟩
  refine un t (un t (un t (V (jT (cB t) rfl) ?_)))
  obtain rfl := sj y
  exact a6 _ _ ⟨_, (d.jy (Db St)), N, Q, T, rfl, U, eN, L, rfl⟩
 rintro E W ⟨z, G, B, a4, b0, ⟨L, eN⟩, u, d, N, Q, T, U, J, j⟩
 rw [aH] at j
 refine jI ?_
 replace d := d.jy (Db (Kr (Dr St)))
 refine sg (Wh T (bS j fun i6 e5 j => VE (tU d call84 (lV.lE (Gk z G _ _ (J.sl kM (fun b o m => d.at_ (Ml m))) e5)) (fun i2 g8 j5 f4 d g9 ad b7 => Wa (ln ?_)))))
 replace d := d.jy (Kr (Dr St))
 refine kh ?_
 obtain rfl := sj j
 exact lB (v := g8) rfl rfl ⟨_, f4, rfl, d.nM (fun p m => (Ml m)) b7.nd, b7⟩
theorem Fx (t : Value) (y : List jv) (u : Value) (K : List jv) (r : Bool) (w : World) (c : Sl (Pl jz) 9 (hp w) t y) (z : Sl (Pl jz) 9 (hp w) u K) (hm : vh y K = some r) :
  jV true pg0 90 [t, u] w (.bool r) := by
 refine cG 26 func90 rfl (fun d => sg (Wa (lS (Wm (V (kU aP rfl c) (Wm (V (kU aP rfl z) (Wi rfl (kk ?_)))))))))
 refine jI (CI hm rfl (fun U hm => ?_) (fun U hm => ?_))
 ·refine sg (Wa (lt (kw ?_)))
  obtain rfl := sj hm
  exact rP d
 refine kS (Wm (V (kU aP rfl c) (Wm (ln (kC (fun i E W => ∃ g, (E 13 = .int .i64 (i : Nat) ∧ E 12 = .int .i64 (y.length : Nat)) ∧ ST true kx w W (hp w) g ∧ E 0 = t ∧ E 1 = u ∧ sH K (y.drop i) i = some r) y.length c.len ⟨_, ⟨rfl, rfl⟩, (d.jy St), rfl, rfl, hm⟩ dc dc dc (fun _ _ _ h => by obtain ⟨_, m, _⟩ := h; exact m) ?_ ?_)))))
 ·rintro I E W M ⟨g, ⟨l, p⟩, d, j, k, a⟩
  obtain ⟨J, a3, Q, N, T⟩ := kp M
  rw [Q] at a
  refine bg (Wh l (Wa (ln (jM ?_))))
  replace d := d.drew
  have b := d.has.jy Sn
  refine kI b kl (X 0 rfl b (jH j) (X 1 rfl b (jH rfl) (XQ 2 rfl b (na (enc := jz) (i := (I : Int)) (x0 := J) aP aJ rfl rfl c (aG _) N) (fun Y G => XH 3 rfl b (fun _ n => jA rfl (kf n G bR aJ)) (X 4 rfl b (jH k) (X 5 rfl b (jH rfl) (bS a fun B x a => XQ 6 rfl b (na (enc := jz) (i := (I : Int)) (x0 := B) aP aJ rfl rfl z (ky x) (kv x)) (fun Z H => XH 7 rfl b (fun _ n => jA rfl (kf n H bR aJ)) (X 8 rfl b (D6 rfl rfl (nf ey) (zD (uT _ J B))) (kT kr (jI (CI a rfl (fun D a => ?_) (fun D a => ?_)))))))))))))
  ·refine sg (Wa (lt (mi (kw (mi (kw ?_))))))
   obtain rfl := sj a
   exact rP d
  exact kX (kA (jI ⟨l, _, ⟨rfl, p⟩, (d.jy St), j, k, (by rw [T]; exact a)⟩))
 rintro E W ⟨g, ⟨l, p⟩, d, j, k, a⟩
 rw [aH] at a
 exact jI (sg (Wa (lt (rQ a d))))
theorem DD (g : kD) (B J : Value) (i : kD) (D K : Value) (r : ((List jv) × (List jv) × Int)) (w : World) (x : Sl jU 15 (hp w) B g.jJ) (H : Sl kH 8 (hp w) J g.jW) (y : Sl jU 15 (hp w) D i.jJ) (I : Sl kH 8 (hp w) K i.jW) (hm : xf g i = some r) :
  kY false pg0 45 [(.agg #[(.string g.Name), B, J]), (.agg #[(.string i.Name), D, K])] w [] (fun v L1 W' => ∃ y1 S2 y4 S5, v = (.tuple #[y1, y4, (.int .i64 (r.2.2))]) ∧ L1 = (S2 ++ (S5 ++ [])) ∧ jZ 52 jz 9 y1 r.1 S2 ∧ jZ 52 jz 9 y4 r.2.1 S5) := by
 refine vi 37 func45 rfl (fun d => sg ?_)
 obtain ⟨A1, c2, rfl⟩ := x.form
 obtain ⟨A3, c4, rfl⟩ := H.form
 let p := (C5 g.Name A1 g.jJ.length c2 A3 g.jW.length c4)
 refine VE (kd d rfl (fun W6 n d => ?_))
 obtain ⟨A7, c8, rfl⟩ := y.form
 obtain ⟨A9, R, rfl⟩ := I.form
 let a0 := (C5 i.Name A7 i.jJ.length c8 A9 i.jW.length R)
 refine VE (kd d rfl (fun g4 l d => Wa (Wa (Wa (lr (Wa (Wa (lr (Wa ?_)))))))))
 refine ln (pk (kZ (mG (fun m E W => ∃ t T M u U N G L c0, kj (hp w) L ∧ ST false kx w W L ((l, Ol a0 25) :: ((n, Ol p 25) :: (N ++ (M ++ c0)))) ∧ E 2 = (.pointer (some ⟨n, 0, none⟩)) ∧ E 3 = (.pointer (some ⟨l, 0, none⟩)) ∧ E 7 = t ∧ E 8 = u ∧ E 9 = (.int .i64 G) ∧ jZ 52 jz 9 t T M ∧ jZ 52 jz 9 u U N ∧ sR g i m T U G = some r) ki ⟨(.slice none 0 0), ([]), [], (.slice none 0 0), ([]), [], 0, (hp w), _, (kj.refl _), (d.jy St), rfl, rfl, rfl, rfl, rfl, (jZ.nil _ _ _), (jZ.nil _ _ _), hm⟩ ?_)))
 rintro m E W ⟨t, T, M, u, U, N, G, L, c0, k, d, Y, Z, a2, a3, d0, a4, a5, a⟩
 cases m with
 | zero => rw [sR] at a; cases a
 | succ f0 =>
  refine bg (V (jA Y (jD d.has (Mt Mh) p rfl dt cL)) (Wh a3 (V (jG xU Z) (VB d Mh rfl rfl bM (bS a fun d3 d9 a => VE (tU d call116 (EZ g (.slice A1 g.jJ.length c2) (.slice A3 g.jW.length c4) u U i.Name _ _ (x.mono jX.mono (k.trans d.jB)) (H.mono lx.mono (k.trans d.jB)) (a5.sl kM (fun b o h => d.at_ (Mt (Mt (Ml h))))) d9) (fun f6 A g3 c3 d Q O b2 => Wa (lr (V (jA Z (jD d.has (Ma Mh) a0 rfl dt cL)) ?_)))))))))
  refine Wh a2 (V (jG xU Y) (VB d (Ma (Mt Mh)) rfl rfl bM (bS a fun d4 e0 a => VE (tU d call116 (EZ i (.slice A7 i.jJ.length c8) (.slice A9 i.jW.length R) t T g.Name _ _ (y.mono jX.mono ((k.trans Q).trans d.jB)) (I.mono lx.mono ((k.trans Q).trans d.jB)) (a4.sl kM (fun b o h => d.at_ (Ma (Mt (Mt (Ma (Ml h))))))) e0) (fun f7 a9 d6 c5 d d2 P b3 => Wa (lS (Wm (Wh a2 (bS a fun g0 e1 a => VE (Eg d call90 (jV.lE (Fx A d3 t T _ _ (b2.sl kM (fun b o h => d.at_ (Ma (Ml h)))) (a4.sl kM (fun b o h => d.at_ (Ma (Ma (Mt (Mt (Ma (Ml h)))))))) e1)) (fun f8 d => ?_)))))))))))
  refine Wm (LJ a (fun d5 E W => ∃ c1, ST false kx w W d6 ((l, Ol a0 25) :: ((n, Ol p 25) :: (c5 ++ (c3 ++ (N ++ (M ++ c1)))))) ∧ E 2 = (.pointer (some ⟨n, 0, none⟩)) ∧ E 3 = (.pointer (some ⟨l, 0, none⟩)) ∧ E 7 = t ∧ E 8 = u ∧ E 9 = (.int .i64 G) ∧ E 10 = A ∧ E 11 = a9 ∧ E 29 = (.bool d5)) 4 ?_ (fun d5 j a7 => ?_))
  ·rintro g2 E W ⟨c1, d, e3, e4, e5, e6, d1, e7, e8, e9⟩ z
   refine ln (CI z e9 (fun d8 z => ?_) (fun d8 z => ?_))
   ·refine sg (Wh e5 (Wh e6 (Wh d1 (Wa (Wa (Wa (ln ?_)))))))
    replace d := d.jy (Db (Db (Dr (Dr St))))
    refine kh (kw (mi (kw (mi (kw ?_)))))
    obtain rfl := sj z
    exact Hd (v0 := t) (v1 := u) (v2 := (.int .i64 G)) rfl rfl rfl rfl ⟨_, _, rfl, (d.Kp (Sr (Qr Qz) (Kr Sn))), t, M, u, N, rfl, rfl, a4, a5⟩
   refine kn ?_
   replace d := d.jy (Kb (Kb (Kr (Kr (Dr (Dr St))))))
   refine sg (Wh e7 (Wa (lr (Wh e8 (Wa (ln (jL (Wh d1 (Wi rfl ?_)))))))))
   exact Wa (kk (kA (jI ⟨f0, bG _, A, d3, c3, a9, d4, c5, (wi0 .i64 (G + 1)), d6, _, ((k.trans Q).trans d2), (d.jy St), e3, e4, rfl, rfl, rfl, b2, b3, z⟩)))
  refine bC j (fun c j => ?_) (fun c j => ?_)
  ·refine ug c (jH rfl) (ug c (jH a3) (bS j fun g1 e2 j => pE c (Eg d call90 (jV.lE (Fx a9 d4 u U _ _ (b3.sl kM (fun b o h => d.at_ (Ml h))) (a5.sl kM (fun b o h => d.at_ (Ma (Ma (Mt (Mt (Ml h))))))) e2)) (fun f9 d => V (jS (cB c) rfl) ?_))))
   obtain rfl := sj j
   exact a7 _ _ ⟨_, (d.jy (Sb (Pr (Pr Pz)) (Sb (Pr (Pr Pz)) St))), Y, Z, a2, a3, d0, rfl, rfl, rfl⟩
  refine un c (un c (un c (V (jT (cB c) rfl) ?_)))
  obtain rfl := sj j
  exact a7 _ _ ⟨_, (d.jy (Sb (Pr (Pr Pz)) (Sb (Pr (Pr Pz)) St))), Y, Z, a2, a3, d0, rfl, rfl, rfl⟩
theorem Ju (k : kD) (i x : Value) (a : kD) (j y : Value) (r : List ju) (w : World) (c : Sl jU 15 (hp w) i k.jJ) (t : Sl kH 8 (hp w) x k.jW) (g : Sl jU 15 (hp w) j a.jJ) (u : Sl kH 8 (hp w) y a.jW) (hm : AB k a = some r) :
  lV false pg0 120 [(.agg #[(.string k.Name), i, x]), (.agg #[(.string a.Name), j, y])] w 27 jE 2 r := by
 refine vi 20 func120 rfl (fun d => sg ?_)
 obtain ⟨I, N, rfl⟩ := c.form
 obtain ⟨J, Q, rfl⟩ := t.form
 refine VE (kd d rfl (fun W6 b5 d => ?_))
 obtain ⟨K, T, rfl⟩ := g.form
 obtain ⟨M, D, rfl⟩ := u.form
 refine VE (kd d rfl (fun b9 c5 d => Wa (lr (VA d (Mt Mh) (C5 k.Name I k.jJ.length N J k.jW.length Q) dt cL (VA d Mh (C5 a.Name K a.jJ.length T M a.jW.length D) dt cL (bS hm fun L Z hm => ?_))))))
 refine VE (yH d (bT _) call45 (fun _ _ _ _ => (DD k (.slice I k.jJ.length N) (.slice J k.jW.length Q) a (.slice K a.jJ.length T) (.slice M a.jW.length D) _ _ (c.mono jX.mono d.jB) (t.mono lx.mono d.jB) (g.mono jX.mono d.jB) (u.mono lx.mono d.jB) Z)) (fun c0 c7 d0 b3 d b1 n m U => ?_) (L0 := []))
 obtain ⟨c9, b6, R, b7, z, rfl, b2, a4⟩ := U
 replace z := z.symm; subst z
 replace d := d.perm (Tr (Tr Tn))
 refine Wm (Wx rfl (Wx rfl (Wx rfl (Wa (Wa (Wa (ln ?_)))))))
 replace d := d.jy (Dr (Kr (Kb (Db St))))
 refine jM ?_
 replace d := d.drew
 have h := d.has.jy (Dr (Kb Sn))
 refine kI h kl (X 0 rfl h (jH rfl) (X 2 rfl h (jG xU rfl) (XH 3 rfl h (fun _ W => jA rfl (jP W Mh rfl bM)) (bS hm fun O a2 hm => XE 1 rfl (tU d call183 (lV.lE (Ik R L.2.1 _ _ (a4.sl kM (fun b o l => d.at_ (Ml l))) a2)) (fun c1 P d1 b4 d B A Y => ?_))))))
 have h := d.has.wV B (Dr (Dr (Kb Sn)))
 refine ⟨h, (bS hm fun c6 a3 hm => XE 4 rfl (tU d call182 (lV.lE (Ef P O a.Name _ _ (Y.sl pN (fun b o l => d.at_ (Ml l))) a3)) (fun c3 a9 d2 a5 d H E G => ?_)))⟩
 have h := d.has.wV (B.trans H) (Dr (Dr (Dr (Kb Sn))))
 refine ⟨h, (X 5 rfl h (mP rfl) (kT kr (jI ?_)))⟩
 replace d := d.jy (Kr (Dr (Dr (Db St))))
 refine kh ?_
 obtain rfl := sj hm
 exact lB (v := a9) rfl rfl ⟨_, a5, rfl, d.nM (fun p l => (Ml l)) G.nd, G⟩
theorem Dp (j : kD) (y G : Value) (k : kD) (z H : Value) (a : Formula) (I : Value) (r : Bool) (w : World) (t : Sl jU 15 (hp w) y j.jJ) (B : Sl kH 8 (hp w) G j.jW) (u : Sl jU 15 (hp w) z k.jJ) (D : Sl kH 8 (hp w) H k.jW) (i : Sl jx 5 (hp w) I a.Kids) (hm : tu j k a = some r) :
  jV false pg0 48 [(.agg #[(.string j.Name), y, G]), (.agg #[(.string k.Name), z, H]), (.agg #[(.int .i64 a.Op), (.int .i64 a.K), (.string a.ju.jw), (.string a.ju.Word), I])] w (.bool r) := by
 refine cG 16 func48 rfl (fun d => sg ?_)
 obtain ⟨Z, c2, rfl⟩ := t.form
 obtain ⟨A3, p, rfl⟩ := B.form
 let a2 := (C5 j.Name Z j.jJ.length c2 A3 j.jW.length p)
 refine VE (kd d rfl (fun W6 b5 d => ?_))
 obtain ⟨A7, v, rfl⟩ := u.form
 obtain ⟨A9, Q, rfl⟩ := D.form
 let n := (C5 k.Name A7 k.jJ.length v A9 k.jW.length Q)
 refine VE (kd d rfl (fun d2 c0 d => ?_))
 obtain ⟨J, K, rfl⟩ := i.form
 let a0 := (C1 a.Op a.K a.ju.jw a.ju.Word J a.Kids.length K)
 refine VE (kd d rfl (fun d3 c1 d => Wa (ln (jM ?_))))
 replace d := d.drew
 have h := d.has.jy (Kb (Kb (Kb Sn)))
 refine kI h kl (XH 0 rfl h (fun _ l => jA rfl (jD l Mh a0 rfl aI aB)) (bS hm fun d5 R hm => XE 1 rfl (Eg d call67 (wh a (.slice J a.Kids.length K) _ _ (i.mono jF.mono d.jB) R) (fun d4 d => ?_))))
 have h := d.has.jy (Kb (Kb (Kb Sn)))
 refine ⟨h, (X 2 rfl h (jH rfl) (PJ hm (fun Y E W => ∃ N T, kj (hp w) N ∧ ST false kx w W N ((c1, Ol a0 30) :: ((c0, Ol n 25) :: ((b5, Ol a2 25) :: T))) ∧ E 6 = (.bool false) ∧ E 15 = (.bool Y)) (bm 10 511) 1 ?_ (fun Y g M => ?_)))⟩
 ·rintro d1 E W ⟨N, T, U, d, c9, P⟩ A
  have h := d.has.wV U (Kb (Kb (Kb Sn)))
  refine X 9 rfl h (mP P) (kT kr (jI ?_))
  exact kh (rQ A d)
 refine bC g (fun c g => ?_) (fun c g => ?_)
 ·refine ub 3 rfl rfl (cB c) h (fun _ l => jA rfl (jD l Mh a0 rfl aI aB)) (ub 4 rfl rfl (cB c) h (fun _ l => jA rfl (jD l (Mt (Mt Mh)) a2 rfl dt cL)) (ub 5 rfl rfl (cB c) h (fun _ l => jA rfl (jD l (Mt Mh) n rfl dt cL)) (bS g fun b6 L g => El 6 rfl rfl (cB c) (tU d call120 (Ju j (.slice Z j.jJ.length c2) (.slice A3 j.jW.length p) k (.slice A7 k.jJ.length v) (.slice A9 k.jW.length Q) _ _ (t.mono jX.mono d.jB) (B.mono lx.mono d.jB) (u.mono jX.mono d.jB) (D.mono lx.mono d.jB) L) (fun c5 b7 b9 c3 d x m a9 => ?_)))))
  have h := d.has.wV x (Dr (Kb (Kb (Kb Sn))))
  refine ⟨h, (bS g fun d0 O g => El 7 rfl rfl (cB c) (Eg d call119 ((BF ki) a (.slice J a.Kids.length K) b7 b6 _ _ (i.mono jF.mono (x.trans d.jB)) (a9.sl xq (fun b o hq => d.at_ (Ml hq))) O) (fun c6 d => ?_)))⟩
  have h := d.has.wV x (Dr (Kb (Kb (Kb Sn))))
  refine ⟨h, (X 8 rfl h (jS (cB c) rfl) ?_)⟩
  obtain rfl := sj g
  refine nu kr (M _ _ ⟨b9, _, x, (d.jy (Dr St)), rfl, rfl⟩)
 refine Xn 3 rfl rfl (cB c) h (Xn 4 rfl rfl (cB c) h (Xn 5 rfl rfl (cB c) h (Xn 6 rfl rfl (cB c) h (Xn 7 rfl rfl (cB c) h (X 8 rfl h (jT (cB c) rfl) ?_)))))
 obtain rfl := sj g
 refine nu kr (M _ _ ⟨(hp w), _, (kj.refl _), (d.jy St), rfl, rfl⟩)
theorem Dg (k : Value) (u : List jv) (g : Value) (z : List jv) (r : Bool) (w : World) (j : Sl (Pl jz) 9 (hp w) k u) (B : Sl (Pl jz) 9 (hp w) g z) (hm : vm u z = some r) :
  jV true pg0 55 [k, g] w (.bool r) := by
 refine cG 18 func55 rfl (fun b => sg (Wa (lS (Wm (V (kU aP rfl j) (Wm (ln (kC (fun i E W => ∃ t, (E 9 = .int .i64 (i : Nat) ∧ E 8 = .int .i64 (u.length : Nat)) ∧ ST true kx w W (hp w) t ∧ E 1 = g ∧ E 7 = k ∧ sV z (u.drop i) = some r) u.length j.len ⟨_, ⟨rfl, rfl⟩, (b.jy St), rfl, rfl, hm⟩ dc dc dc (fun _ _ _ h => by obtain ⟨_, l, _⟩ := h; exact l) ?_ ?_))))))))
 ·rintro N E W G ⟨t, ⟨d, m⟩, b, x, y, a⟩
  obtain ⟨c, Q, K, J, M⟩ := kp G
  rw [K] at a
  refine bg (VQ (na (enc := jz) (i := (N : Int)) (x0 := c) aP aJ y d j (aG _) J) (fun a2 H => V (jA rfl (kf b.has H bR aJ)) (VE (ku b cO (fun T Z b => VO (jR (.agg (jz c).toArray) ((jz c).toArray) b rfl rfl aJ (nz c) nb rfl (fun U b => lr (Wh x (VA b Mh (jz c) bR aJ (bS a fun a3 I a => VE (Eg b call18 (Gn g z c _ _ (B.mono (Pl.mono _) b.jB) I) (fun Y b => ?_))))))))))))
  refine V (mT rfl) (ln ?_)
  replace b := b.jy (Db St)
  refine CI a rfl (fun D a => ?_) (fun D a => ?_)
  ·refine sg (Wa (lt (mi (kw (mi (kw ?_))))))
   obtain rfl := sj a
   exact rP b
  exact kX (kA (jI ⟨d, _, ⟨rfl, m⟩, (b.jy St), x, y, (by rw [M]; exact a)⟩))
 rintro E W ⟨t, ⟨d, m⟩, b, x, y, a⟩
 rw [aH] at a
 exact jI (sg (Wa (lt (rQ a b))))
theorem AO (a : mQ) (Q Y I N J a6 : Value) (c : mQ) (U Z K T M a7 : Value) (r : Bool) (w : World) (u : Sl jU 15 (hp w) Q a.jw.jJ) (z : Sl kH 8 (hp w) Y a.jw.jW) (j : Sl jU 15 (hp w) I a.Client.jJ) (t : Sl kH 8 (hp w) N a.Client.jW) (G : Sl jx 5 (hp w) J a.Formula.Kids) (b7 : Sl ol 2 (hp w) a6 a.Keys) (y : Sl jU 15 (hp w) U c.jw.jJ) (B : Sl kH 8 (hp w) Z c.jw.jW) (k : Sl jU 15 (hp w) K c.Client.jJ) (x : Sl kH 8 (hp w) T c.Client.jW) (H : Sl jx 5 (hp w) M c.Formula.Kids) (b9 : Sl ol 2 (hp w) a7 c.Keys) (hm : sT a c = some r) :
  jV false pg0 21 [(.agg #[(.string a.jw.Name), Q, Y, (.string a.Client.Name), I, N, (.int .i64 a.Formula.Op), (.int .i64 a.Formula.K), (.string a.Formula.ju.jw), (.string a.Formula.ju.Word), J, (.int .i64 a.rZ), (.int .i64 a.my.uy), (.int .i64 a.my.uF), (.int .i64 a.nB), (.int .i64 a.pG), (.int .i64 a.oh), a6]), (.agg #[(.string c.jw.Name), U, Z, (.string c.Client.Name), K, T, (.int .i64 c.Formula.Op), (.int .i64 c.Formula.K), (.string c.Formula.ju.jw), (.string c.Formula.ju.Word), M, (.int .i64 c.rZ), (.int .i64 c.my.uy), (.int .i64 c.my.uF), (.int .i64 c.nB), (.int .i64 c.pG), (.int .i64 c.oh), a7])] w (.bool r) := by
 refine cG 59 func21 rfl (fun d => sg ?_)
 obtain ⟨A1, c2, rfl⟩ := u.form
 obtain ⟨A3, c4, rfl⟩ := z.form
 let b8 := (C5 a.jw.Name A1 a.jw.jJ.length c2 A3 a.jw.jW.length c4)
 obtain ⟨A5, c6, rfl⟩ := j.form
 obtain ⟨A7, c8, rfl⟩ := t.form
 let a0 := (C5 a.Client.Name A5 a.Client.jJ.length c6 A7 a.Client.jW.length c8)
 obtain ⟨A9, d5, rfl⟩ := G.form
 obtain ⟨h1, h7, rfl⟩ := b7.form
 refine VE (kd d rfl (fun j7 k3 d => ?_))
 obtain ⟨a9, L, rfl⟩ := y.form
 obtain ⟨p, O, rfl⟩ := B.form
 let d0 := (C5 c.jw.Name a9 c.jw.jJ.length L p c.jw.jW.length O)
 obtain ⟨v, P, rfl⟩ := k.form
 obtain ⟨A, R, rfl⟩ := x.form
 let a1 := (C5 c.Client.Name v c.Client.jJ.length P A c.Client.jW.length R)
 obtain ⟨d1, d7, rfl⟩ := H.form
 obtain ⟨h2, h8, rfl⟩ := b9.form
 refine VE (kd d rfl (fun j8 k4 d => Wa (lr (Wf ze (VA d (Mt Mh) b8 dt cL (Wf vO (VA d (Mt Mh) a0 dt cL (bS hm fun e8 g1 hm => ?_))))))))
 refine VE (yH d (bT _) call45 (fun _ _ _ _ => (DD a.jw (.slice A1 a.jw.jJ.length c2) (.slice A3 a.jw.jW.length c4) a.Client (.slice A5 a.Client.jJ.length c6) (.slice A7 a.Client.jW.length c8) _ _ (u.mono jX.mono d.jB) (z.mono lx.mono d.jB) (j.mono jX.mono d.jB) (t.mono lx.mono d.jB) g1)) (fun j9 k7 l1 j5 d i aa l f7 => ?_) (L0 := []))
 obtain ⟨f2, h3, f3, h4, c5, rfl, g7, g8⟩ := f7
 replace c5 := c5.symm; subst c5
 replace d := d.perm (Tr (Tr Tn))
 refine Wm (Wx rfl (Wx rfl (Wx rfl (Wa (Wa (Wa (lr (Wf ze (VA d (Ma (Ma Mh)) d0 dt cL (Wf vO (VA d (Ma (Ma Mh)) a1 dt cL ?_)))))))))))
 refine bS hm fun e9 g2 hm => ?_
 refine VE (yH d (bT _) call45 (fun _ _ _ _ => (DD c.jw (.slice a9 c.jw.jJ.length L) (.slice p c.jw.jW.length O) c.Client (.slice v c.Client.jJ.length P) (.slice A c.Client.jW.length R) _ _ (y.mono jX.mono (i.trans d.jB)) (B.mono lx.mono (i.trans d.jB)) (k.mono jX.mono (i.trans d.jB)) (x.mono lx.mono (i.trans d.jB)) g2)) (fun k0 k8 e2 j6 d D ab l f8 => ?_) (L0 := []))
 obtain ⟨f4, h5, f5, h6, c7, rfl, g9, h0⟩ := f8
 replace c7 := c7.symm; subst c7
 replace d := d.perm (Tr (Tr Tn))
 refine Wm (Wx rfl (Wx rfl (Wx rfl (Wa (Wa (Wa (lr (Wf ze (VA d (Ma (Ma (Ma (Ma Mh)))) d0 dt cL (Wf vO (VA d (Ma (Ma (Ma (Ma Mh)))) a1 dt cL ?_)))))))))))
 refine Wf Dm (VA d (Ma (Ma (Ma (Ma Mh)))) (C1 c.Formula.Op c.Formula.K c.Formula.ju.jw c.Formula.ju.Word d1 c.Formula.Kids.length d7) aI aB (bS hm fun k5 g3 hm => VE (Eg d call48 (Dp c.jw (.slice a9 c.jw.jJ.length L) (.slice p c.jw.jW.length O) c.Client (.slice v c.Client.jJ.length P) (.slice A c.Client.jW.length R) c.Formula (.slice d1 c.Formula.Kids.length d7) _ _ (y.mono jX.mono ((i.trans D).trans d.jB)) (B.mono lx.mono ((i.trans D).trans d.jB)) (k.mono jX.mono ((i.trans D).trans d.jB)) (x.mono lx.mono ((i.trans D).trans d.jB)) (H.mono jF.mono ((i.trans D).trans d.jB)) g3) (fun k1 d => Wm (LJ hm (fun e1 E W => ∃ e5, ST false kx w W e2 (h5 ++ (h6 ++ (h3 ++ (h4 ++ e5)))) ∧ E 5 = f2 ∧ E 6 = f3 ∧ E 8 = f4 ∧ E 9 = f5 ∧ E 46 = (.bool e1)) 9 ?_ (fun e1 a3 c1 => ?_))))))
 ·rintro i7 E W ⟨e5, d, h9, i0, i1, i2, i3⟩ c3
  refine Wg i3 (lr (Wh i1 (Wh h9 (bS c3 fun k6 g4 c3 => VE (Eg d call55 (jV.lE (Dg f4 e9.1 f2 e8.1 _ _ (g9.sl kM (fun b o m => d.at_ (Ml m))) (g7.sl kM (fun b o m => d.at_ (Ma (Ma (Ml m))))) g4)) (fun k2 d => Wm (LJ c3 (fun f1 E W => ∃ e6, ST false kx w W e2 e6 ∧ E 11 = (.bool i7) ∧ E 54 = (.bool f1)) 4 ?_ (fun f1 a5 c0 => ?_))))))))
  ·rintro k9 E W ⟨e6, d, i4, i5⟩ f9
   refine Wh i5 (LJ f9 (fun f0 E W => ∃ e7, ST false kx w W e2 e7 ∧ E 58 = (.bool f0)) 3 ?_ (fun f0 n c9 => ?_))
   ·rintro l0 E W ⟨e7, d, i6⟩ g0
    exact Wg i6 (lt (rQ g0 d))
   refine bC n (fun a4 n => ?_) (fun a4 n => ?_)
   ·refine ug a4 (jH i4) (ug a4 (mT rfl) (V (jS (cB a4) rfl) ?_))
    have h := sj n; subst h
    exact c9 _ _ ⟨_, (d.jy St), rfl⟩
   refine un a4 (un a4 (V (jT (cB a4) rfl) ?_))
   have h := sj n; subst h
   exact c9 _ _ ⟨_, (d.jy St), rfl⟩
  refine bC a5 (fun a2 a5 => ?_) (fun a2 a5 => ?_)
  ·refine ug a2 (jH i2) (ug a2 (jH i0) (bS a5 fun j3 e3 a5 => pE a2 (Eg d call55 (jV.lE (Dg f5 e9.2.1 f3 e8.2.1 _ _ (h0.sl kM (fun b o m => d.at_ (Ma (Ml m)))) (g8.sl kM (fun b o m => d.at_ (Ma (Ma (Ma (Ml m)))))) e3)) (fun i9 d => V (jS (cB a2) rfl) ?_))))
   have h := sj a5; subst h
   exact c0 _ _ ⟨_, (d.jy (Dr (Dr (Dr (Dr St))))), rfl, rfl⟩
  refine un a2 (un a2 (un a2 (V (jT (cB a2) rfl) ?_)))
  have h := sj a5; subst h
  exact c0 _ _ ⟨_, (d.jy (Dr (Dr (Dr (Dr St))))), rfl, rfl⟩
 refine bC a3 (fun g a3 => ?_) (fun g a3 => ?_)
 ·refine ug g (jG ze rfl) (ug g (jA rfl (jD d.has (Ma (Ma (Ma (Ma (Mt Mh))))) b8 rfl dt cL)) (ug g (jG vO rfl) (ug g (jA rfl (jD d.has (Ma (Ma (Ma (Ma (Mt Mh))))) a0 rfl dt cL)) (ug g (jG Dm rfl) (ug g (jA rfl (jD d.has (Ma (Ma (Ma (Ma (Mt Mh))))) (C1 a.Formula.Op a.Formula.K a.Formula.ju.jw a.Formula.ju.Word A9 a.Formula.Kids.length d5) rfl aI aB)) (bS a3 fun j4 e4 a3 => pE g (Eg d call48 (Dp a.jw (.slice A1 a.jw.jJ.length c2) (.slice A3 a.jw.jW.length c4) a.Client (.slice A5 a.Client.jJ.length c6) (.slice A7 a.Client.jW.length c8) a.Formula (.slice A9 a.Formula.Kids.length d5) _ _ (u.mono jX.mono ((i.trans D).trans d.jB)) (z.mono lx.mono ((i.trans D).trans d.jB)) (j.mono jX.mono ((i.trans D).trans d.jB)) (t.mono lx.mono ((i.trans D).trans d.jB)) (G.mono jF.mono ((i.trans D).trans d.jB)) e4) (fun j0 d => ug g (mT rfl) (V (jS (cB g) rfl) ?_)))))))))
  have h := sj a3; subst h
  exact c1 _ _ ⟨_, (d.jy (Kr (Kr (Kr (Kr (Db (Db St))))))), rfl, rfl, rfl, rfl, rfl⟩
 refine un g (un g (un g (un g (un g (un g (un g (un g (V (jT (cB g) rfl) ?_))))))))
 have h := sj a3; subst h
 exact c1 _ _ ⟨_, (d.jy (Kr (Kr (Kr (Kr (Db (Db St))))))), rfl, rfl, rfl, rfl, rfl⟩
set_option maxHeartbeats 4000000 in
theorem EA (a : mQ) (T b6 J Q K d6 : Value) (c : mQ) (Y b7 M U N d7 : Value) (r : Bool) (w : World) (h0 : Cm pg0 (hp w)) (u : Sl jU 15 (hp w) T a.jw.jJ) (z : Sl kH 8 (hp w) b6 a.jw.jW) (g : Sl jU 15 (hp w) J a.Client.jJ) (t : Sl kH 8 (hp w) Q a.Client.jW) (i : Sl jx 5 (hp w) K a.Formula.Kids) (G : Sl ol 2 (hp w) d6 a.Keys) (y : Sl jU 15 (hp w) Y c.jw.jJ) (B : Sl kH 8 (hp w) b7 c.jw.jW) (j : Sl jU 15 (hp w) M c.Client.jJ) (x : Sl kH 8 (hp w) U c.Client.jW) (k : Sl jx 5 (hp w) N c.Formula.Kids) (H : Sl ol 2 (hp w) d7 c.Keys) (hm : tV a c = some r) :
  jV false pg0 6 [(.agg #[(.string a.jw.Name), T, b6, (.string a.Client.Name), J, Q, (.int .i64 a.Formula.Op), (.int .i64 a.Formula.K), (.string a.Formula.ju.jw), (.string a.Formula.ju.Word), K, (.int .i64 a.rZ), (.int .i64 a.my.uy), (.int .i64 a.my.uF), (.int .i64 a.nB), (.int .i64 a.pG), (.int .i64 a.oh), d6]), (.agg #[(.string c.jw.Name), Y, b7, (.string c.Client.Name), M, U, (.int .i64 c.Formula.Op), (.int .i64 c.Formula.K), (.string c.Formula.ju.jw), (.string c.Formula.ju.Word), N, (.int .i64 c.rZ), (.int .i64 c.my.uy), (.int .i64 c.my.uF), (.int .i64 c.nB), (.int .i64 c.pG), (.int .i64 c.oh), d7])] w (.bool r) := by
 refine cG 44 func6 rfl (fun b => sg ?_)
 obtain ⟨A1, c2, rfl⟩ := u.form
 let A : Value := (.slice A1 a.jw.jJ.length c2)
 obtain ⟨A3, c4, rfl⟩ := z.form
 let d2 : Value := (.slice A3 a.jw.jW.length c4)
 obtain ⟨A5, c6, rfl⟩ := g.form
 let b8 : Value := (.slice A5 a.Client.jJ.length c6)
 obtain ⟨A7, c8, rfl⟩ := t.form
 let L : Value := (.slice A7 a.Client.jW.length c8)
 obtain ⟨A9, a8, rfl⟩ := i.form
 let c1 : Value := (.slice A9 a.Formula.Kids.length a8)
 obtain ⟨Z, a9, rfl⟩ := G.form
 let g6 : Value := (.slice Z a.Keys.length a9)
 let l := (C2 a.jw.Name A1 a.jw.jJ.length c2 A3 a.jw.jW.length c4 a.Client.Name A5 a.Client.jJ.length c6 A7 a.Client.jW.length c8 a.Formula.Op a.Formula.K a.Formula.ju.jw a.Formula.ju.Word A9 a.Formula.Kids.length a8 a.rZ a.my.uy a.my.uF a.nB a.pG a.oh Z a.Keys.length a9)
 refine VE (kd b rfl (fun i6 f3 b => ?_))
 obtain ⟨a2, b0, rfl⟩ := y.form
 let d0 : Value := (.slice a2 c.jw.jJ.length b0)
 obtain ⟨a3, b1, rfl⟩ := B.form
 let d3 : Value := (.slice a3 c.jw.jW.length b1)
 obtain ⟨a4, b2, rfl⟩ := j.form
 let p : Value := (.slice a4 c.Client.jJ.length b2)
 obtain ⟨a5, b3, rfl⟩ := x.form
 let d1 : Value := (.slice a5 c.Client.jW.length b3)
 obtain ⟨R, b4, rfl⟩ := k.form
 let v : Value := (.slice R c.Formula.Kids.length b4)
 obtain ⟨a7, b5, rfl⟩ := H.form
 let g5 : Value := (.slice a7 c.Keys.length b5)
 let a0 := (C2 c.jw.Name a2 c.jw.jJ.length b0 a3 c.jw.jW.length b1 c.Client.Name a4 c.Client.jJ.length b2 a5 c.Client.jW.length b3 c.Formula.Op c.Formula.K c.Formula.ju.jw c.Formula.ju.Word R c.Formula.Kids.length b4 c.rZ c.my.uy c.my.uF c.nB c.pG c.oh a7 c.Keys.length b5)
 refine VE (kd b rfl (fun i7 f4 b => Wa (lS (bS hm fun j6 g2 hm => VE (Eg b call20 (Jr  _ _ (h0.mono b.jB) g2) (fun i8 b => V (mT rfl) (ln (CI hm rfl (fun f9 hm => ?_) (fun f9 hm => ?_)))))))))
 ·refine sg (Wa (ln ?_))
  replace b := b.jy (Db (Db St))
  refine kh (kw ?_)
  obtain rfl := sj hm
  exact rP b
 refine kn (jM (jM ?_))
 replace b := b.drew
 have d := b.has.jy (Kb (Kb Sn))
 refine kI d kl (XH 0 rfl d (fun _ h => jA rfl (jD h (Mt Mh) l rfl dR dx)) (XH 2 rfl d (fun _ h => jA rfl (jD h Mh a0 rfl dR dx)) (bS hm fun j7 g3 hm => XE 1 rfl (Eg b call11 (Ep a A d2 b8 L c1 g6 _ _ (u.mono jX.mono b.jB) (z.mono lx.mono b.jB) (g.mono jX.mono b.jB) (t.mono lx.mono b.jB) (i.mono jF.mono b.jB) (G.mono uN.mono b.jB) g3) (fun i9 b => ?_)))))
 have d := b.has.jy (Kb (Kb Sn))
 refine ⟨d, (bS hm fun j8 g4 hm => XE 3 rfl (Eg b call11 (Ep c d0 d3 p d1 v g5 _ _ (y.mono jX.mono b.jB) (B.mono lx.mono b.jB) (j.mono jX.mono b.jB) (x.mono lx.mono b.jB) (k.mono jF.mono b.jB) (H.mono uN.mono b.jB) g4) (fun j0 b => ?_)))⟩
 have d := b.has.jy (Kb (Kb Sn))
 refine ⟨d, (X 4 rfl d (kG rfl rfl rfl) (X 5 rfl d (kG rfl rfl rfl) (kT kr (jI (CI hm rfl (fun g0 hm => ?_) (fun g0 hm => ?_))))))⟩
 ·refine sg (Wa (ln ?_))
  replace b := b.jy (Db (Db St))
  refine kh (kw ?_)
  obtain rfl := sj hm
  exact rP b
 refine kn (jM ?_)
 replace b := b.drew
 have d := b.has.jy (Kb (Kb Sn))
 refine kI d kl (XH 0 rfl d (fun _ h => jA rfl (jD h (Mt Mh) l rfl dR dx)) (XH 1 rfl d (fun _ h => jA rfl (jD h Mh a0 rfl dR dx)) (XH 3 rfl d (fun _ h => jA rfl (jD h Mh a0 rfl dR dx)) (XH 4 rfl d (fun _ h => jA rfl (jD h (Mt Mh) l rfl dR dx)) (bS hm fun h7 g7 hm => XE 2 rfl (Eg b call21 (AO a A d2 b8 L c1 g6 c d0 d3 p d1 v g5 _ _ (u.mono jX.mono b.jB) (z.mono lx.mono b.jB) (g.mono jX.mono b.jB) (t.mono lx.mono b.jB) (i.mono jF.mono b.jB) (G.mono uN.mono b.jB) (y.mono jX.mono b.jB) (B.mono lx.mono b.jB) (j.mono jX.mono b.jB) (x.mono lx.mono b.jB) (k.mono jF.mono b.jB) (H.mono uN.mono b.jB) g7) (fun j3 b => ?_)))))))
 have d := b.has.jy (Kb (Kb Sn))
 refine ⟨d, (bS hm fun h8 g8 hm => XE 5 rfl (Eg b call21 (AO c d0 d3 p d1 v g5 a A d2 b8 L c1 g6 _ _ (y.mono jX.mono b.jB) (B.mono lx.mono b.jB) (j.mono jX.mono b.jB) (x.mono lx.mono b.jB) (k.mono jF.mono b.jB) (H.mono uN.mono b.jB) (u.mono jX.mono b.jB) (z.mono lx.mono b.jB) (g.mono jX.mono b.jB) (t.mono lx.mono b.jB) (i.mono jF.mono b.jB) (G.mono uN.mono b.jB) g8) (fun j4 b => ?_)))⟩
 have d := b.has.jy (Kb (Kb Sn))
 refine ⟨d, (X 6 rfl d (mP rfl) (X 7 rfl d (mP rfl) (kT kr (jI (sg (VA b (Mt Mh) l dR dx (VA b Mh a0 dR dx (bS hm fun j9 g9 hm => VE (Eg b call22 (uG a A d2 b8 L c1 g6 c d0 d3 p d1 v g5 _ _ (u.mono jX.mono b.jB) (z.mono lx.mono b.jB) (g.mono jX.mono b.jB) (t.mono lx.mono b.jB) (i.mono jF.mono b.jB) (G.mono uN.mono b.jB) (y.mono jX.mono b.jB) (B.mono lx.mono b.jB) (j.mono jX.mono b.jB) (x.mono lx.mono b.jB) (k.mono jF.mono b.jB) (H.mono uN.mono b.jB) g9) (fun j5 b => Wm (V (IL jo rfl rfl rfl) (Wm (LJ hm (fun e7 E W => ∃ f2, ST false kx w W (hp w) ((f4, Ol a0 34) :: ((f3, Ol l 34) :: f2)) ∧ E 2 = (.pointer (some ⟨f3, 0, none⟩)) ∧ E 3 = (.pointer (some ⟨f4, 0, none⟩)) ∧ E 4 = (.bool false) ∧ E 5 = (.bool h7) ∧ E 6 = (.bool h8) ∧ E 32 = (.bool e7)) 6 ?_ (fun e7 n e0 => ?_))))))))))))))⟩
 ·rintro h9 E W ⟨f2, b, h2, h3, P, h4, h5, h6⟩ g1
  refine Wh h6 (LJ g1 (fun e5 E W => ∃ e2, ST false kx w W (hp w) e2 ∧ E 4 = (.bool false) ∧ E 43 = (.bool e5)) 10 ?_ (fun e5 m d8 => ?_))
  ·rintro i4 E W ⟨e2, b, i2, f5⟩ e8
   exact Wg f5 (lt (rQ e8 b))
  refine bC m (fun D m => ?_) (fun D m => ?_)
  ·refine ug D (jA h2 (jD b.has (Mt Mh) l rfl dR dx)) (ug D (jA h3 (jD b.has Mh a0 rfl dR dx)) (bS m fun h1 f0 m => pE D (Eg b call23 (zN a A d2 b8 L c1 g6 c d0 d3 p d1 v g5 _ _ (u.mono jX.mono b.jB) (z.mono lx.mono b.jB) (g.mono jX.mono b.jB) (t.mono lx.mono b.jB) (i.mono jF.mono b.jB) (G.mono uN.mono b.jB) (y.mono jX.mono b.jB) (B.mono lx.mono b.jB) (j.mono jX.mono b.jB) (x.mono lx.mono b.jB) (k.mono jF.mono b.jB) (H.mono uN.mono b.jB) f0) (fun i0 b => ug D (jH h4) (ug D (jH rfl) (LJ m (fun e6 E W => ∃ e3, ST false kx w W (hp w) e3 ∧ E 4 = (.bool false) ∧ E 33 = (.bool h9) ∧ E 36 = (.bool h1) ∧ E 40 = (.bool e6)) 2 ?_ (fun e6 d5 d9 => ?_)))))))
   ·rintro i5 E W ⟨e3, b, f6, O, f7, f8⟩ e9
    refine Vg rfl (O.trans (cB D)) (mT f8) (Vg rfl (O.trans (cB D)) (IL jo f7 rfl rfl) (V (jS (O.trans (cB D)) rfl) ?_))
    obtain rfl := sj e9
    exact d8 _ _ ⟨_, (b.jy St), f6, rfl⟩
   refine bC d5 (fun d4 d5 => ?_) (fun d4 d5 => ?_)
   ·refine ug d4 (jH h5) (ug D (jS (cB d4) rfl) ?_)
    obtain rfl := sj d5
    exact d9 _ _ ⟨_, (b.jy (Db (Db St))), P, rfl, rfl, rfl⟩
   refine un d4 (ug D (jT (cB d4) rfl) ?_)
   obtain rfl := sj d5
   exact d9 _ _ ⟨_, (b.jy (Db (Db St))), P, rfl, rfl, rfl⟩
  refine un D (un D (un D (un D (un D (Vu rfl rfl (un D (un D (un D (V (jT (cB D) rfl) ?_)))))))))
  obtain rfl := sj m
  exact d8 _ _ ⟨_, (b.jy (Db (Db St))), P, rfl⟩
 refine bC n (fun I n => ?_) (fun I n => ?_)
 ·refine ug I (jA rfl (jD b.has Mh a0 rfl dR dx)) (ug I (jA rfl (jD b.has (Mt Mh) l rfl dR dx)) (bS n fun i3 f1 n => pE I (Eg b call22 (uG c d0 d3 p d1 v g5 a A d2 b8 L c1 g6 _ _ (y.mono jX.mono b.jB) (B.mono lx.mono b.jB) (j.mono jX.mono b.jB) (x.mono lx.mono b.jB) (k.mono jF.mono b.jB) (H.mono uN.mono b.jB) (u.mono jX.mono b.jB) (z.mono lx.mono b.jB) (g.mono jX.mono b.jB) (t.mono lx.mono b.jB) (i.mono jF.mono b.jB) (G.mono uN.mono b.jB) f1) (fun i1 b => ug I (jH rfl) (ug I (IL jo rfl rfl rfl) (V (jS (cB I) rfl) ?_))))))
  obtain rfl := sj n
  exact e0 _ _ ⟨_, (b.jy St), rfl, rfl, rfl, rfl, rfl, rfl⟩
 refine un I (un I (un I (un I (un I (V (jT (cB I) rfl) ?_)))))
 obtain rfl := sj n
 exact e0 _ _ ⟨_, (b.jy St), rfl, rfl, rfl, rfl, rfl, rfl⟩
end Go.Proofs.YtjjjihkifgdhgaaGreatDoor
