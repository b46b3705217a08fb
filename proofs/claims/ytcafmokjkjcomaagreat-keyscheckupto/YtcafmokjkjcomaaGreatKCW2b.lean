/- a part of a proof of KeysCheck -/
import Derived.Test.YtcafmokjkjcomaaGreatKCW1b
set_option linter.all false
namespace Go.Proofs.YtcafmokjkjcomaaGreat
open Go.Proofs.Tryz renaming prog → pg0
open Go.RowKit
set_option maxRecDepth 10000
open Tryz
theorem uP (B : Value) (H : List Key) (r : List ByteArray) (w : World) (z : Sl ie 2 (hp w) B H) (hm : nz H = some r) :
  gw true pg0 17 [B] w 9 jt 1 r := by
 refine qM 20 func17 rfl (fun d => sg (Wa (lr (Wa (lS (Wm ?_))))))
 refine V (gv bG rfl z) (Wm (ln (gP (fun i E W => ∃ g k j u, (E 8 = .int .i64 (i : Nat) ∧ E 7 = .int .i64 (H.length : Nat)) ∧ ST true fO w W (hp w) (j ++ u) ∧ E 3 = g ∧ E 6 = B ∧ fL 9 jt 1 g k j ∧ jH (H.drop i) k = some r) H.length z.len ⟨(.slice none 0 0), ([]), [], _, ⟨rfl, rfl⟩, (d.fc St), rfl, rfl, (fL.nil _ _ _), hm⟩ dc dc dc (fun _ _ _ h => by obtain ⟨_, _, _, _, q, _⟩ := h; exact q) ?_ ?_)))
 ·rintro P E W Z ⟨g, k, j, u, ⟨n, F⟩, d, x, y, t, a⟩
  obtain ⟨c, b9, a2, L, a3⟩ := gC Z
  rw [a2] at a
  refine bg (VQ (lK (i := (P : Int)) (x0 := c) ie.out bG bX y n z (aQ _) L) (fun b5 ⟨_, ⟨b7, rfl, Q⟩, M⟩ => V (fh rfl (iX d.has M isAgg72 bX)) (VE (gq d cr (fun a9 b4 d => ?_)))))
  obtain ⟨G, I, rfl⟩ := Q.form
  refine VO (fM (.agg #[(.string c.fu), (.slice G c.Key.length I)]) (#[(.string c.fu), (.slice G c.Key.length I)]) d rfl rfl bX oc nb rfl (fun b0 d => ln (fm (Wh x (Wf nP (VB d Mh rfl rfl aZ (VE (fS (cs := [(.string c.fu)].toArray) d (iD rfl) (kR bH dh zeroValue9) (fun b1 Y d => ?_)))))))))
  replace d := d.perm (Nr (Qb (Qb Qz)) Nz)
  refine bS a fun a4 K a => VE (kI (enc := jt) (v := g) (vs := (.slice (some ⟨Y, 0, none⟩) 1 1)) (R := j) d (fun _ => rfl) dc tY bH pX.1 pX.2.1 rfl pX.2.2.1 pX.2.2.2 rfl rfl t (Sl.lit (enc := jt) (l := [c.fu]) (fun _ => rfl) rfl nb rfl (d.at_ (Ma Mh))) K (fun b2 a5 T d J => Wa (fK (gk (fq ?_)))))
  replace d := d.fc (Kr (Db (Db St)))
  exact ⟨n, a5, a4, T, _, ⟨rfl, F⟩, (d.fc St), rfl, y, J, (by rw [a3]; exact a)⟩
 rintro E W ⟨g, k, j, u, ⟨n, F⟩, d, x, y, t, a⟩
 rw [aU] at a
 refine fq (sg (Wh x (bS a fun b6 N a => VE (mg d call44 (wN g k _ _ (t.sl (fun _ => rfl) (fun b o A => d.at_ (Ml A))) N) (fun b3 O c0 U d a7 s D => Wa (ln ?_))))))
 replace d := d.fc (Kr (Dr St))
 refine ga ?_
 obtain rfl := sj a
 exact gb (v := O) rfl rfl ⟨_, U, rfl, d.iY (fun p A => (Ml A)) D.nd, D⟩
theorem vD (t : Value) (z : List ByteArray) (u : Value) (M : List ByteArray) (r : Bool) (w : World) (c : Sl (Pl jt) 1 (hp w) t z) (B : Sl (Pl jt) 1 (hp w) u M) (hm : od z M = some r) :
  fQ true pg0 16 [t, u] w (.bool r) := by
 refine cG 26 func16 rfl (fun n => sg (Wa (lS (Wm (V (gv bH rfl c) (Wm (V (gv bH rfl B) (Wi rfl (fK ?_)))))))))
 refine fq (CI hm rfl (fun Y hm => ?_) (fun Y hm => ?_))
 ·refine sg (Wa (lt (fN ?_)))
  obtain rfl := sj hm
  exact rP n
 refine kS (Wm (V (gv bH rfl c) (Wm (ln (gP (fun i E W => ∃ g, (E 13 = .int .i64 (i : Nat) ∧ E 12 = .int .i64 (z.length : Nat)) ∧ ST true fO w W (hp w) g ∧ E 0 = t ∧ E 1 = u ∧ lD M (z.drop i) i = some r) z.length c.len ⟨_, ⟨rfl, rfl⟩, (n.fc St), rfl, rfl, hm⟩ dc dc dc (fun _ _ _ h => by obtain ⟨_, p, _⟩ := h; exact p) ?_ ?_)))))
 ·rintro J E W N ⟨g, ⟨o, s⟩, n, j, k, a⟩
  obtain ⟨K, a4, T, Q, U⟩ := gC N
  rw [T] at a
  refine bg (Wh o (Wa (ln (fC ?_))))
  replace n := n.drew
  have d := n.has.fc Sn
  refine gy d gl (X 0 rfl d (fi j) (X 1 rfl d (fi rfl) (XQ 2 rfl d (kf (enc := jt) (i := (J : Int)) (x0 := K) bH dh rfl rfl c (aQ _) Q) (fun Z H => XH 3 rfl d (fun _ q => fh rfl (ki q (y := (.string K)) H aZ)) (X 4 rfl d (fi k) (X 5 rfl d (fi rfl) (bS a fun D x a => XQ 6 rfl d (kf (enc := jt) (i := (J : Int)) (x0 := D) bH dh rfl rfl B (iA x) (gK x)) (fun a2 I => XH 7 rfl d (fun _ q => fh rfl (ki q (y := (.string D)) I aZ)) (X 8 rfl d (jb rfl rfl rfl) (iq kr (fq (CI a rfl (fun G a => ?_) (fun G a => ?_)))))))))))))
  ·refine sg (Wa (lt (gU (fN (gU (fN ?_))))))
   obtain rfl := sj a
   exact rP n
  exact gp (gk (fq ⟨o, _, ⟨rfl, s⟩, (n.fc St), j, k, (by rw [U]; exact a)⟩))
 rintro E W ⟨g, ⟨o, s⟩, n, j, k, a⟩
 rw [aU] at a
 exact fq (sg (Wa (lt (rQ a n))))
theorem rn (a : eY) (r : ByteArray) (w : World) (hm : lf a = some r) :
  fQ true pg0 96 [(.agg (fa a).toArray)] w (.string r) := by
 refine cG 8 func96 rfl (fun d => sg (VE (hZ d rfl (fun j u d => Wa (lS (VA d Mh (fa a) aT aA (bS hm fun x g hm => VE (Eg d call46 (pc a _ _  g) (fun k d => V (jv rfl) (fK ?_))))))))))
 refine fq (CI hm rfl (fun c hm => ?_) (fun c hm => ?_))
 ·refine sg (Wa (ln ?_))
  replace d := d.fc (Db St)
  refine ga (fN ?_)
  obtain rfl := sj hm
  exact rP d
 refine kg (VA d Mh (fa a) aT aA (bS hm fun y i hm => VE (Eg d call43 (nC a _ _  i) (fun t d => Wa (ln ?_)))))
 exact ga (rQ hm d)
theorem qe (a c : eY) (r : Int) (w : World) (hm : jY a c = some r) :
  fQ true pg0 77 [(.agg (fa a).toArray), (.agg (fa c).toArray)] w (.int .i64 r) := by
 refine cG 17 func77 rfl (fun d => sg (VE (hZ d rfl (fun u z d => VE (hZ d rfl (fun x B d => Wa (lr (VA d (Mt Mh) (fa a) aT aA (bS hm fun D j hm => VE (Eg d call96 (rn a _ _  j) (fun y d => Wa (fK ?_))))))))))))
 refine fq ?_
 replace d := d.fc (Kb (Db St))
 refine sg (VA d Mh (fa c) aT aA (bS hm fun G k hm => VE (Eg d call96 (rn c _ _  k) (fun t d => Wa (ln ?_)))))
 replace d := d.fc (Db St)
 refine fC (sg (Wm (Wm (V (jb rfl rfl rfl) (ln (CI hm rfl (fun g hm => ?_) (fun g hm => ?_)))))))
 ·refine sg (Wa (lt (fN ?_)))
  obtain rfl := sj hm
  exact rP d
 refine kS (Wm (Wm (V (jb rfl rfl rfl) (ln (CI hm rfl (fun i hm => ?_) (fun i hm => ?_))))))
 ·refine sg (Wa (lt (fN ?_)))
  obtain rfl := sj hm
  exact rP d
 exact kg (Wa (lt (rQ hm d)))
theorem wy (D : Value) (a0 r : List eY) (w : World) (e3 : Sl (Pl fa) 9 (hp w) D a0) (hm : oM a0 = some r) :
  gw true pg0 45 [D] w 35 fa 9 r := by
 refine qM 51 func45 rfl (fun n => sg (Wa (lr (Wa (ln (sk (iM (lm (fun m E W => ∃ x a3 u c5, ST true fO w W (hp w) (u ++ c5) ∧ E 0 = D ∧ E 3 = x ∧ fL 35 fa 9 x a3 u ∧ kB a0 m a3 = some r) ib ⟨(.slice none 0 0), ([]), [], _, (n.fc St), rfl, rfl, (fL.nil _ _ _), hm⟩ ?_))))))))
 rintro m E W ⟨x, a3, u, c5, n, d1, g2, J, a5⟩
 cases m with
 | zero => rw [kB] at a5; cases a5
 | succ j3 =>
  refine bg (VE (gq n bz (fun j8 t n => lr (Wa (lS (Wh d1 ?_))))))
  let b8 : Value := (.pointer (some ⟨t, 0, none⟩))
  refine V (gv aD rfl e3) (Wm (ln (CJ a5 (fun a9 E W => ∃ c6, ST true fO w W (hp w) ((t, Ol (fa a9.2) 35) :: (u ++ c6)) ∧ E 0 = D ∧ E 3 = x ∧ E 4 = b8 ∧ E 5 = (.bool a9.1)) (fun a9 e9 => ?_) ?_)))
  ·refine gP (fun i E W => ∃ G y b1, (E 10 = .int .i64 (i : Nat) ∧ E 9 = .int .i64 (a0.length : Nat)) ∧ ST true fO w W (hp w) ((t, Ol (fa y) 35) :: (u ++ b1)) ∧ E 0 = D ∧ E 3 = x ∧ E 4 = b8 ∧ E 5 = (.bool G) ∧ E 8 = D ∧ jI a3 (a0.drop i) G y = some a9) a0.length e3.len ⟨false, K6, _, ⟨rfl, rfl⟩, (n.fc St), d1, g2, rfl, rfl, rfl, e9⟩ dc dc dc (fun _ _ _ h => by obtain ⟨_, _, _, aa, _⟩ := h; exact aa) ?_ ?_
   ·rintro a2 E W e8 ⟨G, y, b1, ⟨s, P⟩, n, U, M, Y, Z, q, z⟩
    let j1 := ((fa y).toArray : Array Value)
    obtain ⟨c, j7, f9, f8, c4⟩ := gC e8
    let O := ((fa c).toArray : Array Value)
    rw [f9] at z
    refine bg (VQ (kf (enc := fa) (i := (a2 : Int)) (x0 := c) aD aA q s e3 (aQ _) f8) (fun k7 f3 => V (fh rfl (iX n.has f3 aT aA)) (VE (gq n bz (fun k1 K n => VO (fM (.agg (fa c).toArray) ((fa c).toArray) n rfl rfl aA (iH c) nb rfl (fun k2 n => ln (fC ?_))))))))
    let l6 : Value := (.int .i64 (a2 : Int))
    let l5 : Value := (.int .i64 (a0.length : Int))
    let j2 : Value := (.pointer (some ⟨K, 0, none⟩))
    replace n := n.drew
    have d := n.has.fc (Kb (Kb (Kr Sn)))
    refine gy d gl (XH 0 rfl d (fun _ o => fh rfl (ft o Mh (fa c) rfl aT aA)) (bS z fun j4 f5 z => XE 1 rfl (Eg n call46 (pc c _ _  f5) (fun k3 n => ?_))))
    have d := n.has.fc (Kb (Kb (Kr Sn)))
    refine ⟨d, (X 2 rfl d (fi rfl) (PJ z (fun e0 E W => ∃ c7, ST true fO w W (hp w) ((K, Obj.cells O 35 (0, 0)) :: ((t, Obj.cells j1 35 (0, 0)) :: (u ++ c7))) ∧ E 0 = D ∧ E 3 = x ∧ E 4 = b8 ∧ E 5 = (.bool G) ∧ E 7 = j2 ∧ E 8 = D ∧ E 9 = l5 ∧ E 10 = l6 ∧ E 31 = (.bool e0)) (bm 28 262143) 10 ?_ (fun e0 T c1 => ?_)))⟩
    ·rintro j6 E W ⟨c7, n, b2, b3, A, F, L, b4, b5, b6, g6⟩ f0
     have d := n.has.fc (Kb (Kb (Kr Sn)))
     refine X 18 rfl d (fi g6) (PJ f0 (fun d8 E W => ∃ c8, ST true fO w W (hp w) ((K, Obj.cells O 35 (0, 0)) :: ((t, Obj.cells j1 35 (0, 0)) :: (u ++ c8))) ∧ E 0 = D ∧ E 3 = x ∧ E 4 = b8 ∧ E 5 = (.bool G) ∧ E 7 = j2 ∧ E 8 = D ∧ E 9 = l5 ∧ E 10 = l6 ∧ E 41 = (.bool d8)) (bm 28 268435455) 0 ?_ (fun d8 Q b9 => ?_))
     ·rintro l2 E W ⟨c8, n, d3, d4, b7, g7, g8, d5, d6, d7, g9⟩ N
      refine iq kr (fq (CI N g9 (fun e7 N => ?_) (fun e7 N => ?_)))
      ·refine sg (V (fh g8 (ft n.has Mh (fa c) rfl aT aA)) ?_)
       replace n := n.perm (Nb (Pb Pz) Nz)
       refine VO (fM (.agg (fa c).toArray) ((fa c).toArray) n b7 rfl aA (iH c) nb rfl (fun k4 n => ln ?_))
       replace n := n.fc (Kb (Db St))
       exact fm (Wa (fK (gk (fq ⟨d7, true, c, _, ⟨rfl, d6⟩, (n.fc St), d3, d4, b7, rfl, d5, (by rw [c4]; exact N)⟩))))
      refine gp (gk (fq ?_))
      replace n := n.fc (Db St)
      exact ⟨d7, G, y, _, ⟨rfl, d6⟩, (n.fc St), d3, d4, b7, g7, d5, (by rw [c4]; exact N)⟩
     refine bC Q (fun j Q => ?_) (fun j Q => ?_)
     ·refine Xg 19 rfl rfl (cB j) d (fi F) (Xg 20 rfl rfl (cB j) d (jv rfl) (Xg 21 rfl rfl (cB j) d (fi rfl) (PJ Q (fun d9 E W => ∃ c9, ST true fO w W (hp w) ((K, Obj.cells O 35 (0, 0)) :: ((t, Obj.cells j1 35 (0, 0)) :: (u ++ c9))) ∧ E 0 = D ∧ E 3 = x ∧ E 4 = b8 ∧ E 5 = (.bool G) ∧ E 7 = j2 ∧ E 8 = D ∧ E 9 = l5 ∧ E 10 = l6 ∧ E 32 = (.bool j6) ∧ E 40 = (.bool d9)) (bm 28 134217727) 1 ?_ (fun d9 I c0 => ?_))))
      ·rintro l3 E W ⟨c9, n, h0, h1, h2, h3, h4, h5, h6, h7, h8, h9⟩ f1
       have d := n.has.fc (Kb (Kb (Kr Sn)))
       refine X 27 rfl d (fy (h8.trans (cB j)) h9) ?_
       obtain rfl := sj f1
       refine ju kr (b9 _ _ ⟨_, (n.fc St), h0, h1, h2, h3, h4, h5, h6, h7, rfl⟩)
      refine bC I (fun k I => ?_) (fun k I => ?_)
      ·refine Xn 22 rfl rfl (cB k) d (Xn 23 rfl rfl (cB k) d (Xn 24 rfl rfl (cB k) d (Xn 25 rfl rfl (cB k) d (Xg 26 rfl rfl (cB j) d (fy (cB k) rfl) ?_))))
       obtain rfl := sj I
       refine ju kr (c0 _ _ ⟨_, (n.fc St), b2, b3, A, F, L, b4, b5, b6, rfl, rfl⟩)
      refine pS 22 rfl rfl (cB k) d (fun _ o => fh L (ft o Mh (fa c) rfl aT aA)) (pS 23 rfl rfl (cB k) d (fun _ o => fh A (ft o (Mt Mh) (fa y) rfl aT aA)) (bS I fun k9 f6 I => rf 24 rfl rfl (cB k) (Eg n call77 (qe c y _ _  f6) (fun k5 n => ?_))))
      have d := n.has.fc (Kb (Kb (Kr Sn)))
      refine ⟨d, (Xg 25 rfl rfl (cB k) d (fY rfl rfl rfl) (Xg 26 rfl rfl (cB j) d (fx (cB k) rfl) ?_))⟩
      obtain rfl := sj I
      refine ju kr (c0 _ _ ⟨_, (n.fc St), b2, b3, A, F, L, b4, b5, b6, rfl, rfl⟩)
     refine Xn 19 rfl rfl (cB j) d (Xn 20 rfl rfl (cB j) d (Xn 21 rfl rfl (cB j) d (Xu 22 rfl rfl rfl d (Xu 23 rfl rfl rfl d (Xu 24 rfl rfl rfl d (Xu 25 rfl rfl rfl d (Xn 26 rfl rfl (cB j) d (X 27 rfl d (fx (cB j) rfl) ?_))))))))
     obtain rfl := sj Q
     refine ju kr (b9 _ _ ⟨_, (n.fc St), b2, b3, A, F, L, b4, b5, b6, rfl⟩)
    refine bC T (fun g T => ?_) (fun g T => ?_)
    ·refine Xg 3 rfl rfl (cB g) d (fi M) (Xg 4 rfl rfl (cB g) d (ke aD rfl J) (Xg 5 rfl rfl (cB g) d (fY rfl rfl rfl) (Xg 6 rfl rfl (cB g) d (fi rfl) (PJ T (fun e1 E W => ∃ d0, ST true fO w W (hp w) ((K, Obj.cells O 35 (0, 0)) :: ((t, Obj.cells j1 35 (0, 0)) :: (u ++ d0))) ∧ E 0 = D ∧ E 3 = x ∧ E 4 = b8 ∧ E 5 = (.bool G) ∧ E 7 = j2 ∧ E 8 = D ∧ E 9 = l5 ∧ E 10 = l6 ∧ E 16 = (.bool j4) ∧ E 30 = (.bool e1)) (bm 28 131071) 11 ?_ (fun e1 B c2 => ?_)))))
     ·rintro l4 E W ⟨d0, n, i0, i1, i2, i3, i4, i5, i6, i7, i8, i9⟩ f2
      have d := n.has.fc (Kb (Kb (Kr Sn)))
      refine X 17 rfl d (fy (i8.trans (cB g)) i9) ?_
      obtain rfl := sj f2
      refine ju kr (c1 _ _ ⟨_, (n.fc St), i0, i1, i2, i3, i4, i5, i6, i7, rfl⟩)
     refine bC B (fun a B => ?_) (fun a B => ?_)
     ·refine Xn 7 rfl rfl (cB a) d (Xn 8 rfl rfl (cB a) d (Xn 9 rfl rfl (cB a) d (Xn 10 rfl rfl (cB a) d (Xn 11 rfl rfl (cB a) d (Xn 12 rfl rfl (cB a) d (Xn 13 rfl rfl (cB a) d (Xn 14 rfl rfl (cB a) d (Xn 15 rfl rfl (cB a) d (Xg 16 rfl rfl (cB g) d (fy (cB a) rfl) ?_)))))))))
      obtain rfl := sj B
      refine ju kr (c2 _ _ ⟨_, (n.fc St), U, M, Y, Z, rfl, q, P, s, rfl, rfl⟩)
     refine Xg 7 rfl rfl (cB a) d (fi M) (Xg 8 rfl rfl (cB a) d (fi M) (Xg 9 rfl rfl (cB a) d (ke aD rfl J) (Xg 10 rfl rfl (cB a) d (fY rfl rfl rfl) (bS B fun e2 b0 B => Bh 11 rfl kr (.inr ⟨6, false, 20, rfl, rfl, by decide, (cB a)⟩) rfl dc (fun _ _ h => h) d (lE (i := (IntKind.i64.wrap ((a3.length : Int) - 1))) (x0 := e2) aD aA rfl rfl J (iA b0) (gK b0)) (fun k8 f4 => pS 12 rfl rfl (cB a) d (fun _ o => fh rfl (nF o (fun p hq => (Mt (Mt (Ml hq)))) J gD f4 (gK b0) aT aA)) (pS 13 rfl rfl (cB a) d (fun _ o => fh rfl (ft o Mh (fa c) rfl aT aA)) (bS B fun l0 f7 B => rf 14 rfl rfl (cB a) (Eg n call77 (qe e2 c _ _  f7) (fun k6 n => ?_)))))))))
     have d := n.has.fc (Kb (Kb (Kr Sn)))
     refine ⟨d, (Xg 15 rfl rfl (cB a) d (fY rfl rfl rfl) (Xg 16 rfl rfl (cB g) d (fx (cB a) rfl) ?_))⟩
     obtain rfl := sj B
     refine ju kr (c2 _ _ ⟨_, (n.fc St), U, M, Y, Z, rfl, q, P, s, rfl, rfl⟩)
    refine Xn 3 rfl rfl (cB g) d (Xn 4 rfl rfl (cB g) d (Xn 5 rfl rfl (cB g) d (Xn 6 rfl rfl (cB g) d (Xu 7 rfl rfl rfl d (Xu 8 rfl rfl rfl d (Xu 9 rfl rfl rfl d (Xu 10 rfl rfl rfl d (Xu 11 rfl rfl rfl d (Xu 12 rfl rfl rfl d (Xu 13 rfl rfl rfl d (Xu 14 rfl rfl rfl d (Xu 15 rfl rfl rfl d (Xn 16 rfl rfl (cB g) d (X 17 rfl d (fx (cB g) rfl) ?_))))))))))))))
    obtain rfl := sj T
    refine ju kr (c1 _ _ ⟨_, (n.fc St), U, M, Y, Z, rfl, q, P, s, rfl⟩)
   rintro E W ⟨G, y, b1, ⟨s, P⟩, n, U, M, Y, Z, q, z⟩
   rw [aU] at z
   refine fq ?_
   obtain rfl := sj z
   exact ⟨_, (n.fc St), U, M, Y, Z⟩
  rintro ⟨l1, a4⟩ E W ⟨c6, n, g3, d2, g4, g5⟩ H
  refine fC (sg (Wh g5 (V (jv rfl) (ln (CI H rfl (fun e5 H => ?_) (fun e5 H => ?_))))))
  ·refine sg (Wh d2 (Wa (ln ?_)))
   replace n := n.fc (Db St)
   refine ga (fN (gU (fN (gU (fN ?_)))))
   obtain rfl := sj H
   exact gb (v := x) rfl rfl ⟨_, u, rfl, n.iY (fun p hq => (Ml hq)) J.nd, J⟩
  refine kn (fm (Wh d2 (V (fh g4 (ft n.has Mh (fa a4) rfl aT aA)) (VE (fS (cs := (fa a4).toArray) n (iD rfl) (kR aD aA bz) (fun j9 g1 n => ?_))))))
  replace n := n.perm (Nr (Qb (Qb Qz)) Nz)
  refine bS H fun j0 e6 H => VE (kI (enc := fa) (v := x) (vs := (.slice (some ⟨g1, 0, none⟩) 1 1)) (R := u) n gD dc iH aD kk.1 kk.2.1 rfl kk.2.2.1 kk.2.2.2 rfl rfl J (Sl.lit (enc := fa) (l := [a4]) gD rfl nb rfl (n.at_ (Ma Mh))) e6 (fun k0 j5 g0 n e4 => Wa (fK (gk (fq ?_)))))
  replace n := n.fc (Kr (Db (Db St)))
  exact ⟨j3, bE _, j5, j0, g0, _, (n.fc St), g3, rfl, e4, H⟩
theorem wc (D : Value) (Q : List Key) (I : Value) (M : List fA) (r : List eY) (w : World) (O : Sl ie 2 (hp w) D Q) (H : Sl ic 10 (hp w) I M) (hm : pC Q M = some r) :
  gw true pg0 19 [D, I] w 35 fa 9 r := by
 refine qM 26 func19 rfl (fun d => sg (Wa (lr (Wa (lS (Wm ?_))))))
 refine V (gv cP rfl H) (Wm (ln (gP (fun i E W => ∃ g k j G, (E 10 = .int .i64 (i : Nat) ∧ E 9 = .int .i64 (M.length : Nat)) ∧ ST true fO w W (hp w) (j ++ G) ∧ E 0 = D ∧ E 5 = g ∧ E 8 = I ∧ fL 35 fa 9 g k j ∧ jj Q (M.drop i) k = some r) M.length H.len ⟨(.slice none 0 0), ([]), [], _, ⟨rfl, rfl⟩, (d.fc St), rfl, rfl, rfl, (fL.nil _ _ _), hm⟩ dc dc dc (fun _ _ _ h => by obtain ⟨_, _, _, _, q, _⟩ := h; exact q) ?_ ?_)))
 ·rintro b5 E W P ⟨g, k, j, G, ⟨n, s⟩, d, y, z, B, t, c⟩
  obtain ⟨a, c8, b0, a9, N⟩ := gC P
  rw [b0] at c
  refine bg (VQ (lK (i := (b5 : Int)) (x0 := a) ic.out cP bh B n H (aQ _) a9) (fun c4 ⟨_, ⟨c7, rfl, K⟩, Z⟩ => V (fh rfl (iX d.has Z cy bh)) (VE (gq d bA (fun b6 c3 d => ?_)))))
  obtain ⟨u, x, rfl⟩ := K.form
  let a0 := (C1 a.eY.Kind a.eY.Head.eZ a.eY.Head.fg a.eY.fu a.eY.B.eZ a.eY.B.fg a.eY.C.eZ a.eY.C.fg a.eY.fB u a.Tag.length x)
  refine VO (fM (.agg a0.toArray) (a0.toArray) d rfl rfl bh oc nb rfl (fun b7 d => lr (Wh y (VA d Mh a0 cy bh (bS c fun c5 a2 c => VE (Eg d call15 (rl D Q a (.slice u a.Tag.length x) _ _ (O.mono ma.mono d.fH) (K.mono (Pl.mono _) d.fH) a2) (fun b9 d => Wi rfl (ln (CI c rfl (fun U c => ?_) (fun U c => ?_))))))))))
  ·refine fm (Wh z (Wf lY (VA d Mh (fa a.eY) aT aA (VE (fS (cs := (fa a.eY).toArray) d (iD rfl) (kR aD aA bz) (fun c0 L d => ?_))))))
   replace d := d.perm (Nr (Qb (Qb Qz)) Nz)
   refine bS c fun b1 Y c => VE (kI (enc := fa) (v := g) (vs := (.slice (some ⟨L, 0, none⟩) 1 1)) (R := j) d gD dc iH aD kk.1 kk.2.1 rfl kk.2.2.1 kk.2.2.2 rfl rfl t (Sl.lit (enc := fa) (l := [a.eY]) gD rfl nb rfl (d.at_ (Ma Mh))) Y (fun c1 b2 a4 d T => Wa (fK (gk (fq ?_)))))
   replace d := d.fc (Kr (Db (Db St)))
   exact ⟨n, b2, b1, a4, _, ⟨rfl, s⟩, (d.fc St), y, rfl, B, T, (by rw [N]; exact c)⟩
  refine gp (gk (fq ?_))
  replace d := d.fc (Db St)
  exact ⟨n, g, k, j, _, ⟨rfl, s⟩, (d.fc St), y, z, B, t, (by rw [N]; exact c)⟩
 rintro E W ⟨g, k, j, G, ⟨n, s⟩, d, y, z, B, t, c⟩
 rw [aU] at c
 refine fq (sg (Wh z (bS c fun c6 a3 c => VE (mg d call45 (wy g k _ _ (t.sl gD (fun b o F => d.at_ (Ml F))) a3) (fun c2 b3 c9 a5 d b4 A J => Wa (ln ?_))))))
 replace d := d.fc (Kr (Dr St))
 refine ga ?_
 obtain rfl := sj c
 exact gb (v := b3) rfl rfl ⟨_, a5, rfl, d.iY (fun p F => (Ml F)) J.nd, J⟩
theorem vF (t : Value) (y : List eY) (u : Value) (K : List eY) (r : Bool) (w : World) (c : Sl (Pl fa) 9 (hp w) t y) (z : Sl (Pl fa) 9 (hp w) u K) (hm : oe y K = some r) :
  fQ true pg0 18 [t, u] w (.bool r) := by
 refine cG 26 func18 rfl (fun n => sg (Wa (lS (Wm (V (gv aD rfl c) (Wm (V (gv aD rfl z) (Wi rfl (fK ?_)))))))))
 refine fq (CI hm rfl (fun U hm => ?_) (fun U hm => ?_))
 ·refine sg (Wa (lt (fN ?_)))
  obtain rfl := sj hm
  exact rP n
 refine kS (Wm (V (gv aD rfl c) (Wm (ln (gP (fun i E W => ∃ g, (E 13 = .int .i64 (i : Nat) ∧ E 12 = .int .i64 (y.length : Nat)) ∧ ST true fO w W (hp w) g ∧ E 0 = t ∧ E 1 = u ∧ lx K (y.drop i) i = some r) y.length c.len ⟨_, ⟨rfl, rfl⟩, (n.fc St), rfl, rfl, hm⟩ dc dc dc (fun _ _ _ h => by obtain ⟨_, p, _⟩ := h; exact p) ?_ ?_)))))
 ·rintro I E W M ⟨g, ⟨o, s⟩, n, j, k, a⟩
  obtain ⟨J, a3, Q, N, T⟩ := gC M
  rw [Q] at a
  refine bg (Wh o (Wa (ln (fC ?_))))
  replace n := n.drew
  have d := n.has.fc Sn
  refine gy d gl (X 0 rfl d (fi j) (X 1 rfl d (fi rfl) (XQ 2 rfl d (kf (enc := fa) (i := (I : Int)) (x0 := J) aD aA rfl rfl c (aQ _) N) (fun Y G => XH 3 rfl d (fun _ q => fh rfl (iX q G aT aA)) (X 4 rfl d (fi k) (X 5 rfl d (fi rfl) (bS a fun B x a => XQ 6 rfl d (kf (enc := fa) (i := (I : Int)) (x0 := B) aD aA rfl rfl z (iA x) (gK x)) (fun Z H => XH 7 rfl d (fun _ q => fh rfl (iX q H aT aA)) (X 8 rfl d (Al rfl rfl (lp dQ) (xb (pH _ J B))) (iq kr (fq (CI a rfl (fun D a => ?_) (fun D a => ?_)))))))))))))
  ·refine sg (Wa (lt (gU (fN (gU (fN ?_))))))
   obtain rfl := sj a
   exact rP n
  exact gp (gk (fq ⟨o, _, ⟨rfl, s⟩, (n.fc St), j, k, (by rw [T]; exact a)⟩))
 rintro E W ⟨g, ⟨o, s⟩, n, j, k, a⟩
 rw [aU] at a
 exact fq (sg (Wa (lt (rQ a n))))
set_option maxHeartbeats 4000000 in
theorem sw (G : Value) (a0 : List Key) (z : Value) (p : List fA) (r : Bool) (w : World) (s : Sl ie 2 (hp w) G a0) (A : Sl ic 10 (hp w) z p) (hm : lN a0 p = some r) :
  fQ false pg0 3 [G, z] w (.bool r) := by
 refine cG 113 func3 rfl (fun d => sg (Wa (lS (bS hm fun r1 p9 hm => VE (Eg d call5 (uO  _ _  p9) (fun W3 d => V (jv rfl) (ln (CI hm rfl (fun p7 hm => ?_) (fun p7 hm => ?_)))))))))
 ·refine sg (Wa (lt (fN ?_)))
  obtain rfl := sj hm
  exact rP d
 refine kS (Wm (Wm (bS hm fun r5 q0 hm => VE (Eg d call6 (fQ.gM (uN G a0 z p _ _ (s.mono ma.mono d.fH) (A.mono oy.mono d.fH) q0)) (fun W7 d => Wi rfl (ln (CI hm rfl (fun p8 hm => ?_) (fun p8 hm => ?_))))))))
 ·refine sg (Wa (lt (fN ?_)))
  obtain rfl := sj hm
  exact rP d
 refine kg (Wm (bS hm fun q o1 hm => ?_))
 refine VE (eD d (bW _) call7 (fun hh => gY.gM (pr G a0 _ _ hh (s.mono ma.mono (fw.refl _)) o1)) ?_ (L0 := []))
 rintro _ w0 P v4 d H aj ⟨U, e8, rfl, a5⟩
 obtain rfl := e8.symm
 refine Wm (Wx rfl (Wx rfl (Wa (Wa (lS (Wm (bS hm fun q1 o2 hm => VE (Eg d call8 (fQ.gM (wx G a0 _ _ (s.mono ma.mono (H.trans d.fH)) o2)) (fun v7 d => Wa (fK ?_))))))))))
 refine fq (sg (Wm (Wm (Wi rfl (Wm (LJ hm (fun g7 E W => ∃ m5, ST false fO w W P m5 ∧ E 0 = G ∧ E 1 = z ∧ E 5 = U ∧ E 6 = (.int .i64 q.2) ∧ E 7 = (.int .i64 q1) ∧ E 33 = (.bool g7)) 3 ?_ (fun g7 a4 d3 => ?_)))))))
 ·rintro w2 E W ⟨m5, d, o7, g0, g1, o8, o9, p0⟩ c4
  refine ln (CI c4 p0 (fun n6 c4 => ?_) (fun n6 c4 => ?_))
  ·refine sg (Wh o8 (Wh o9 (Wi rfl (Wm (LJ c4 (fun j7 E W => ∃ m6, ST false fO w W P m6 ∧ E 1 = z ∧ E 5 = U ∧ E 40 = (.bool j7)) 3 ?_ (fun j7 c0 e6 => ?_))))))
   ·rintro w3 E W ⟨m6, d, n0, h0, p1⟩ n7
    refine Wh p1 (LJ n7 (fun j6 E W => ∃ m7, ST false fO w W P m7 ∧ E 1 = z ∧ E 5 = U ∧ E 46 = (.bool j6)) 5 ?_ (fun j6 a2 e5 => ?_))
    ·rintro w4 E W ⟨m7, d, n1, h1, p2⟩ n8
     refine Wh p2 (LJ n8 (fun n3 E W => ∃ e7 m8, fw P e7 ∧ ST false fO w W e7 m8 ∧ E 1 = z ∧ E 5 = U ∧ E 52 = (.bool n3)) 5 ?_ (fun n3 Z e4 => ?_))
     ·rintro w5 E W ⟨e7, m8, g2, d, p3, p4, p5⟩ n9
      refine Wh p5 (LJ n9 (fun n2 E W => ∃ j8 m9, fw e7 j8 ∧ ST false fO w W j8 m9 ∧ E 59 = (.bool n2)) 6 ?_ (fun n2 O g3 => ?_))
      ·rintro w6 E W ⟨j8, m9, s9, d, p6⟩ o0
       refine Wg p6 (lt (fN ?_))
       obtain rfl := sj o0
       exact rP d
      refine bC O (fun D O => ?_) (fun D O => ?_)
      ·refine ug D (fi p4) (ug D (fi p3) (bS O fun v9 o3 O => me D (mg d call11 (mq U q.1 z p _ _ (a5.mono gx (g2.trans d.fH)) (A.mono oy.mono ((H.trans g2).trans d.fH)) o3) (fun v8 w1 q2 v5 d l0 ak n5 => ug D (ke aD rfl n5) (ug D (fY rfl rfl rfl) (V (fy (cB D) rfl) ?_))))))
       obtain rfl := sj O
       exact g3 _ _ ⟨q2, _, l0, (d.fc (Dr St)), rfl⟩
      refine un D (un D (un D (un D (un D (V (fx (cB D) rfl) ?_)))))
      obtain rfl := sj O
      exact g3 _ _ ⟨e7, _, (fw.refl _), (d.fc St), rfl⟩
     refine bC Z (fun M Z => ?_) (fun M Z => ?_)
     ·refine ug M (fi h1) (bS Z fun v1 l1 Z => me M (mg d call10 (lP U q.1 _ _ (a5.mono gx d.fH) l1) (fun u9 v3 o4 u8 d h9 ai k8 => ug M (ke bH rfl k8) (ug M (fY rfl rfl rfl) (V (fy (cB M) rfl) ?_)))))
      obtain rfl := sj Z
      exact e4 _ _ ⟨o4, _, h9, (d.fc (Dr St)), n1, h1, rfl⟩
     refine un M (un M (un M (un M (V (fx (cB M) rfl) ?_))))
     obtain rfl := sj Z
     exact e4 _ _ ⟨P, _, (fw.refl _), (d.fc St), n1, h1, rfl⟩
    refine bC a2 (fun K a2 => ?_) (fun K a2 => ?_)
    ·refine ug K (fi h0) (ug K (gX (v := (.agg C2.toArray)) nZ (gr bA bt (rr _ bt) kr)) (bS a2 fun v2 l2 a2 => me K (Eg d call9 (fQ.gM (ja U q.1 (⟨K6, []⟩ : fA) (.slice none 0 0) _ _ (a5.mono gx d.fH) (Sl.nil _ _ _) l2)) (fun v0 d => ug K (fY rfl rfl rfl) (V (fy (cB K) rfl) ?_)))))
     obtain rfl := sj a2
     exact e5 _ _ ⟨_, (d.fc St), n0, h0, rfl⟩
    refine un K (un K (un K (un K (V (fx (cB K) rfl) ?_))))
    obtain rfl := sj a2
    exact e5 _ _ ⟨_, (d.fc St), n0, h0, rfl⟩
   refine bC c0 (fun L c0 => ?_) (fun L c0 => ?_)
   ·refine ug L (fi g1) (ug L (qT underlying26 a5 rfl rfl) (V (fy (cB L) rfl) ?_))
    obtain rfl := sj c0
    exact e6 _ _ ⟨_, (d.fc St), g0, g1, rfl⟩
   refine un L (un L (V (fx (cB L) rfl) ?_))
   obtain rfl := sj c0
   exact e6 _ _ ⟨_, (d.fc St), g0, g1, rfl⟩
  refine kS (Wh g0 (V (gv cP rfl A) (Wm (ln (gP (fun i E W => ∃ e1 d4, (E 62 = .int .i64 (i : Nat) ∧ E 61 = .int .i64 (p.length : Nat)) ∧ fw P e1 ∧ ST false fO w W e1 d4 ∧ E 0 = G ∧ E 1 = z ∧ E 5 = U ∧ E 60 = z ∧ iG q a0 p (p.drop i) = some r) p.length A.len ⟨P, _, ⟨rfl, rfl⟩, (fw.refl _), (d.fc St), o7, g0, g1, rfl, c4⟩ dc dc dc (fun _ _ _ h => by obtain ⟨_, _, ah, _⟩ := h; exact ah) ?_ ?_)))))
  ·rintro e9 E W k9 ⟨e1, d4, ⟨eI, eN⟩, u, d, b0, b9, b1, c3, t⟩
   obtain ⟨a, u2, l4, l3, l5⟩ := gC k9
   rw [l4] at t
   refine bg (VQ (lK (i := (e9 : Int)) (x0 := a) ic.out cP bh c3 eI (A.mono oy.mono (H.trans u)) (aQ _) l3) (fun t0 ⟨_, ⟨t6, rfl, c5⟩, i2⟩ => V (fh rfl (iX d.has i2 cy bh)) (VE (gq d bA (fun q9 d5 d => ?_)))))
   obtain ⟨Q, T, rfl⟩ := c5.form
   let b8 := (C1 a.eY.Kind a.eY.Head.eZ a.eY.Head.fg a.eY.fu a.eY.B.eZ a.eY.B.fg a.eY.C.eZ a.eY.C.fg a.eY.fB Q a.Tag.length T)
   refine VO (fM (.agg b8.toArray) (b8.toArray) d rfl rfl bh oc nb rfl (fun r0 d => lr (Wh b1 (Wf lY (VA d Mh (fa a.eY) aT aA (bS t fun c i3 t => ?_))))))
   let x2 : Value := (.string (((c.1).eY).fu))
   let w9 : Value := (.string (((c.1).eY).fB))
   let w7 : Value := (.int .i64 (((c.1).eY).Kind))
   let r2 : Value := (.string ((((c.1).eY).C).fg))
   let o6 : Value := (.string ((((c.1).eY).B).fg))
   let j1 : Value := (.string ((((c.1).eY).C).eZ))
   let h3 : Value := (.string ((((c.1).eY).B).eZ))
   let d8 := (((c.1).eY).Head)
   let x6 : Value := (.string (d8.fg))
   let x4 : Value := (.string (d8.eZ))
   refine VE (eD d (bW _) call12 (fun hh => gY.gM (nT U q.1 a.eY _ _ hh (a5.mono gx u) i3)) ?_ (L0 := []))
   rintro _ t7 u5 q3 d I aa ⟨u3, c6, rfl, e2⟩
   obtain rfl := c6.symm
   refine Wm (Wx rfl (Wx rfl (VE (gq d bA (fun r3 f3 d => ?_)))))
   obtain ⟨a6, a8, rfl⟩ := e2.form
   let c2 : Value := (.slice a6 ((c.1).Tag).length a8)
   refine VO (fM (.agg #[w7, x4, x6, x2, h3, o6, j1, r2, w9, c2]) (#[w7, x4, x6, x2, h3, o6, j1, r2, w9, c2]) d rfl rfl bh oc nb rfl (fun r4 d => Wa (lr (Wh b0 (Wf lY (VA d (Mt Mh) (fa a.eY) aT aA (bS t fun g i4 t => ?_)))))))
   let x3 : Value := (.string (((g.1).eY).fu))
   let x1 : Value := (.string (((g.1).eY).fB))
   let w8 : Value := (.int .i64 (((g.1).eY).Kind))
   let v6 : Value := (.string ((((g.1).eY).C).fg))
   let r6 : Value := (.string ((((g.1).eY).B).fg))
   let n4 : Value := (.string ((((g.1).eY).C).eZ))
   let j2 : Value := (.string ((((g.1).eY).B).eZ))
   let h2 := (((g.1).eY).Head)
   let x7 : Value := (.string (h2.fg))
   let x5 : Value := (.string (h2.eZ))
   refine VE (eD d (bW _) call13 (fun hh => gY.gM (vw G a0 a.eY _ _ hh (s.mono ma.mono ((H.trans u).trans I)) i4)) ?_ (L0 := []))
   rintro _ t8 d9 q4 d J ab ⟨u4, c7, rfl, e3⟩
   obtain rfl := c7.symm
   refine Wm (Wx rfl (Wx rfl (VE (gq d bA (fun r7 f4 d => ?_)))))
   obtain ⟨a7, a9, rfl⟩ := e3.form
   let c9 : Value := (.slice a7 ((g.1).Tag).length a9)
   refine VO (fM (.agg #[w8, x5, x7, x3, j2, r6, n4, v6, x1, c9]) (#[w8, x5, x7, x3, j2, r6, n4, v6, x1, c9]) d rfl rfl bh oc nb rfl (fun r8 d => Wa (ln (fC ?_))))
   replace d := d.drew
   have n := d.has.fc (Kb (Kb (Kb Sn)))
   refine gy n gl (X 0 rfl n (fi rfl) (X 1 rfl n (fi rfl) (X 2 rfl n (fY rfl rfl rfl) (X 3 rfl n (fi rfl) (PJ t (fun g5 E W => ∃ f0, ST false fO w W d9 ((f4, Ob #[w8, x5, x7, x3, j2, r6, n4, v6, x1, c9] 38) :: ((f3, Ob #[w7, x4, x6, x2, h3, o6, j1, r2, w9, c2] 38) :: ((d5, Ol b8 38) :: f0))) ∧ E 0 = G ∧ E 1 = z ∧ E 5 = U ∧ E 9 = (.pointer (some ⟨d5, 0, none⟩)) ∧ E 60 = z ∧ E 61 = (.int .i64 (p.length : Int)) ∧ E 62 = (.int .i64 (e9 : Int)) ∧ E 88 = (.bool g5)) (bm 18 511) 9 ?_ (fun g5 N d1 => ?_))))))
   ·rintro t9 E W ⟨f0, d, d6, f5, d7, f6, f7, f8, f9, j9⟩ i0
    have n := d.has.fc (Kb (Kb (Kb Sn)))
    refine X 9 rfl n (fi j9) (PJ i0 (fun g4 E W => ∃ f1, ST false fO w W d9 ((f4, Ob #[w8, x5, x7, x3, j2, r6, n4, v6, x1, c9] 38) :: ((f3, Ob #[w7, x4, x6, x2, h3, o6, j1, r2, w9, c2] 38) :: ((d5, Ol b8 38) :: f1))) ∧ E 0 = G ∧ E 1 = z ∧ E 5 = U ∧ E 60 = z ∧ E 61 = (.int .i64 (p.length : Int)) ∧ E 62 = (.int .i64 (e9 : Int)) ∧ E 97 = (.bool g4)) (bm 18 262143) 0 ?_ (fun g4 B d0 => ?_))
    ·rintro u0 E W ⟨f1, d, k0, k1, k2, k3, k4, k5, k6⟩ a3
     refine iq kr (fq ?_)
     replace d := d.fc (Db (Db (Db St)))
     refine CI a3 k6 (fun h8 a3 => ?_) (fun h8 a3 => ?_)
     ·refine sg (Wa (lt (gU (fN (gU (fN ?_))))))
      obtain rfl := sj a3
      exact rP d
     exact gp (gk (fq ⟨k5, d9, _, ⟨rfl, k4⟩, ((u.trans I).trans J), (d.fc St), k0, k1, k2, k3, (by rw [l5]; exact a3)⟩))
    refine bC B (fun j B => ?_) (fun j B => ?_)
    ·refine Xn 10 rfl rfl (cB j) n (Xn 11 rfl rfl (cB j) n (Xn 12 rfl rfl (cB j) n (Xn 13 rfl rfl (cB j) n (Xn 14 rfl rfl (cB j) n (Xn 15 rfl rfl (cB j) n (Xn 16 rfl rfl (cB j) n (X 17 rfl n (fy (cB j) rfl) ?_)))))))
     obtain rfl := sj B
     refine ju kr (d0 _ _ ⟨_, (d.fc St), d6, f5, d7, f7, f8, f9, rfl⟩)
    refine Xg 10 rfl rfl (cB j) n (fi d7) (pS 11 rfl rfl (cB j) n (fun _ R => fh f6 (ft R (Mt (Mt Mh)) b8 rfl cy bh)) (Xg 13 rfl rfl (cB j) n (fi d6) (pS 14 rfl rfl (cB j) n (fun _ R => fh f6 (ft R (Mt (Mt Mh)) b8 rfl cy bh)) (bS B fun t1 i5 B => rf 12 rfl rfl (cB j) (Eg d call9 (fQ.gM (ja U q.1 a (.slice Q a.Tag.length T) _ _ (a5.mono gx (((u.trans I).trans J).trans d.fH)) (c5.mono (Pl.mono _) ((I.trans J).trans d.fH)) i5)) (fun s0 d => ?_))))))
    have n := d.has.fc (Kb (Kb (Kb Sn)))
    refine ⟨n, (bS B fun t2 i6 B => rf 15 rfl rfl (cB j) (Eg d call15 (fQ.gM (rl G a0 a (.slice Q a.Tag.length T) _ _ (s.mono ma.mono ((((H.trans u).trans I).trans J).trans d.fH)) (c5.mono (Pl.mono _) ((I.trans J).trans d.fH)) i6)) (fun s1 d => ?_)))⟩
    have n := d.has.fc (Kb (Kb (Kb Sn)))
    refine ⟨n, (Xg 16 rfl rfl (cB j) n (fY rfl rfl rfl) (X 17 rfl n (fx (cB j) rfl) ?_))⟩
    obtain rfl := sj B
    refine ju kr (d0 _ _ ⟨_, (d.fc St), d6, f5, d7, f7, f8, f9, rfl⟩)
   refine bC N (fun x N => ?_) (fun x N => ?_)
   ·refine Xn 4 rfl rfl (cB x) n (Xn 5 rfl rfl (cB x) n (Xn 6 rfl rfl (cB x) n (Xn 7 rfl rfl (cB x) n (X 8 rfl n (fy (cB x) rfl) ?_))))
    obtain rfl := sj N
    refine ju kr (d1 _ _ ⟨_, (d.fc St), b0, b9, b1, rfl, c3, eN, eI, rfl⟩)
   refine pS 4 rfl rfl (cB x) n (fun _ R => fh rfl (ft R (Mt Mh) [w7, x4, x6, x2, h3, o6, j1, r2, w9, c2] rfl cy bh)) (pS 5 rfl rfl (cB x) n (fun _ R => fh rfl (ft R Mh [w8, x5, x7, x3, j2, r6, n4, v6, x1, c9] rfl cy bh)) (bS N fun t3 i7 N => rf 6 rfl rfl (cB x) (Eg d call14 (fQ.gM (rR c.1 c2 g.1 c9 _ _ (e2.mono (Pl.mono _) (J.trans d.fH)) (e3.mono (Pl.mono _) d.fH) i7)) (fun s2 d => ?_))))
   have n := d.has.fc (Kb (Kb (Kb Sn)))
   refine ⟨n, (Xg 7 rfl rfl (cB x) n (jv rfl) (X 8 rfl n (fx (cB x) rfl) ?_))⟩
   obtain rfl := sj N
   refine ju kr (d1 _ _ ⟨_, (d.fc St), b0, b9, b1, rfl, c3, eN, eI, rfl⟩)
  rintro E W ⟨e1, d4, ⟨eI, eN⟩, u, d, b0, b9, b1, c3, t⟩
  rw [aU] at t
  refine fq (sg (Wh b1 (bS t fun l6 i8 t => VE (mg d call10 (lP U q.1 _ _ (a5.mono gx (u.trans d.fH)) i8) (fun s3 m0 u6 q5 d Y ad h4 => Wh b0 (bS t fun l7 i9 t => VE (mg d call17 (gw.gM (uP G a0 _ _ (s.mono ma.mono (((H.trans u).trans Y).trans d.fH)) i9)) (fun s4 m1 g8 q6 d b2 ae h5 => bS t fun t4 j0 t => VE (Eg d call16 (fQ.gM (vD m0 l6 m1 l7 _ _ (h4.sl (fun _ => rfl) (fun b o hq => d.at_ (Ma (Ml hq)))) (h5.sl (fun _ => rfl) (fun b o hq => d.at_ (Ml hq))) j0)) (fun s5 d => Wm (LJ t (fun g6 E W => ∃ e0 f2, fw g8 e0 ∧ ST false fO w W e0 f2 ∧ E 112 = (.bool g6)) 8 ?_ (fun g6 y d2 => ?_))))))))))))
  ·rintro u1 E W ⟨e0, f2, o5, d, k7⟩ i1
   exact Wg k7 (lt (rQ i1 d))
  refine bC y (fun k y => ?_) (fun k y => ?_)
  ·refine ug k (fi b1) (ug k (fi b9) (bS y fun l8 j3 y => me k (mg d call11 (mq U q.1 z p _ _ (a5.mono gx (((u.trans Y).trans b2).trans d.fH)) (A.mono oy.mono ((((H.trans u).trans Y).trans b2).trans d.fH)) j3) (fun s6 m2 u7 q7 d c1 af h6 => ug k (fi b0) (ug k (fi b9) (bS y fun l9 j4 y => me k (mg d call19 (gw.gM (wc G a0 z p _ _ (s.mono ma.mono (((((H.trans u).trans Y).trans b2).trans c1).trans d.fH)) (A.mono oy.mono (((((H.trans u).trans Y).trans b2).trans c1).trans d.fH)) j4)) (fun s7 m3 m4 q8 d g9 ag h7 => bS y fun t5 j5 y => me k (Eg d call18 (fQ.gM (vF m2 l8 m3 l9 _ _ (h6.sl gD (fun b o hq => d.at_ (Ma (Ml hq)))) (h7.sl gD (fun b o hq => d.at_ (Ml hq))) j5)) (fun s8 d => V (fy (cB k) rfl) ?_))))))))))
   obtain rfl := sj y
   exact d2 _ _ ⟨m4, _, (c1.trans g9), (d.fc (Dr (Dr (Dr (Dr St))))), rfl⟩
  refine un k (un k (un k (un k (un k (un k (un k (V (fx (cB k) rfl) ?_)))))))
  obtain rfl := sj y
  exact d2 _ _ ⟨g8, _, (fw.refl _), (d.fc (Dr (Dr St))), rfl⟩
 refine bC a4 (fun F a4 => ?_) (fun F a4 => ?_)
 ·refine un F (un F (V (fy (cB F) rfl) ?_))
  obtain rfl := sj a4
  exact d3 _ _ ⟨_, (d.fc St), rfl, rfl, rfl, rfl, rfl, rfl⟩
 refine ug F (fi rfl) (ug F (fY rfl rfl rfl) (V (fx (cB F) rfl) ?_))
 obtain rfl := sj a4
 exact d3 _ _ ⟨_, (d.fc St), rfl, rfl, rfl, rfl, rfl, rfl⟩
end Go.Proofs.YtcafmokjkjcomaaGreat
