/- a part of a proof of WeighHolds -/
import Derived.Test.YtbnbdigcbldfhaaGreatW5W1j
set_option linter.all false
namespace Go.Proofs.YtbnbdigcbldfhaaGreat
open Go.IntKind renaming wrap → wi0
open Go.Proofs.Tryz renaming prog → pg0
open Go.RowKit
set_option maxRecDepth 10000
open Tryz
theorem sf (g : Value) (i r : List iu) (w : World) (a : Sl (Pl iQ) 12 (hp w) g i) (hm : lI i = some r) :
  iY true pg0 136 [g] w 140 iQ 12 r := by
 unfold lI at hm
 refine qS 8 func136 rfl (fun b => sg (Wa (lS (Wm ?_))))
 obtain ⟨y, B, rfl⟩ := a.form
 refine V (wP bd rfl rfl) (ln ?_)
 rcases y with _ | z
 ·have u := a.isNil
  replace hm : some [] = some r := by rw [u] at hm; simpa [jw, maxLen] using hm
  refine qz (rfl) (sg (Wa (lt (iK ?_))))
  obtain rfl := sj hm
  exact iS (v := (.slice none 0 0)) rfl rfl ⟨_, [], rfl, b.kz (fun p d => by cases d) (by simp), hZ.nil _ _ _⟩
 ·refine mr (rfl) (kg (VE (iM (cs := #[]) b wV (vp [] bd cL ee dc rfl (by simp) rfl rfl) (fun G k b => Wm (bS hm fun H t hm => VE (km (enc := iQ) (v := (.slice (some ⟨k, 0, none⟩) 0 0)) (vs := (.slice (some z) i.length B)) (R := [(k, Ob #[] 140)]) b pg dc sx bd pX.1 pX.2.1 rfl pX.2.2.1 pX.2.2.2 rfl rfl (hZ.lit (l := []) (enc := iQ) rfl dc rfl rfl) (a.mono (Pl.mono _) b.iL) t (fun D x j b c => Wa (lt ?_))))))))
  obtain rfl := sj hm
  exact iS (v := x) rfl rfl ⟨_, j, rfl, b.kz (fun p d => (Ml d)) c.nd, c⟩
theorem rN (t : Value) (B : List iu) (k : LO) (D G : Int) (r : List iu) (w : World) {μ0 : iq} (n : qn μ0 (k ++ []) w) (c : hZ 140 iQ 12 t B k) (hm : mz B D G = some r) :
  iF true pg0 135 [t, (.int .i64 D), (.int .i64 G)] w (k ++ []) (fun v L1 W' => ∃ l Y, v = l ∧ L1 = (Y ++ []) ∧ hZ 140 iQ 12 l r Y) := by
 refine tj n 33 func135 rfl (fun h => sg (Wa (lr (Wm (Wm (Wm (Wm (V (jf bd rfl c) (bS hm fun _ y hm => VQ (ED (a := D) (b := G) (m := (B.length : Int)) bd cL c rfl rfl rfl rfl (tK y).1 (tK y).2.1 (tK y).2.2.1 (tK y).2.2.2) (fun v1 q => ?_))))))))))
 refine lS (Wm (Wm (Wi rfl (ln (CI hm rfl (fun Z hm => ?_) (fun Z hm => ?_))))))
 ·refine sg (Wm (Wa (lt (iK ?_))))
  obtain rfl := sj hm
  exact iS (v := t) rfl rfl ⟨_, _, rfl, (h.ox (Kr Sn)), t, k, rfl, rfl, c⟩
 refine kg (Wm (V (jf bd rfl c) (Wa (ln (hX ?_)))))
 replace h := h.drew
 have d := h.has.gL Sn
 refine iR d iA (X 0 rfl d (gW rfl) (X 1 rfl d (gW rfl) (bS hm fun _ I hm => XQ 2 rfl d (rK (i := D) bd cL rfl rfl c pg (pb I) (oZ I)) (fun A N => X 3 rfl d (gW rfl) (X 4 rfl d (gW rfl) (bS hm fun _ J hm => XQ 5 rfl d (pV (i := G) bd cL rfl rfl c (pb J) (oZ J)) (fun E Q => bS hm fun s H hm => XE 6 rfl (BO (i := (Int.toNat D)) (j := (Int.toNat G))  h c N pg dc sx bd pX.1 pX.2.2.1 (tK H).1 (tK H).2 Q rfl rfl (fun p K o h u x => ?_)))))))))
 have d := h.has.gL Sn
 refine ⟨d, (X 7 rfl d (kh rfl) (jd kr (gV (sg (Wm (Wm (V (jf bd rfl x) (Wm (bS hm fun _ g hm => VQ (DI (a := ((B.take (Int.toNat D) ++ B.drop (Int.toNat G)).length : Int)) (b := (B.length : Int)) bd cL dc u x rfl rfl rfl (tK g).1 (tK g).2.1 (tK g).2.2.1 (tK g).2.2.2) (fun L T => VO (sG (z := (⟨K9, (⟨K0, zS⟩ : gI)⟩ : iu))  h u pg sx bd ee T rfl rfl (fun a9 U h M => ln ?_))))))))))))⟩
 refine sg (Wm (Wa (lt ?_)))
 obtain rfl := sj hm
 exact iS (v := K) rfl rfl ⟨_, _, rfl, (h.ox (Kr Sn)), K, U, rfl, rfl, (hZ.HS dc pg u x M (by have := tK g; rw [oF _ _ _ (by omega)]; omega))⟩
theorem Av (g : Value) (y : List iu) (r : Bool) (w : World) (z : Sl (Pl iQ) 12 (hp w) g y) (hm : rc y = some r) :
  iG false pg0 134 [g] w (.bool r) := by
 refine cG 40 func134 rfl (fun d => sg (Wa (lr (Wm (bS hm fun s d7 hm => VE (nt d call150 (iY.jH (wc g y _ _ (z.mono (Pl.mono _) d.iL) d7)) (fun W3 v7 n R8 d a5 a6 H => Wa (ln (hX ?_)))))))))
 refine sg (Wm (V (jf bp rfl H) (Wm (ln (iZ (fun i E W => ∃ I, (E 11 = .int .i64 (i : Nat) ∧ E 10 = .int .i64 (s.length : Nat)) ∧ ST false iE w W n (R8 ++ I) ∧ E 0 = g ∧ E 3 = v7 ∧ E 9 = v7 ∧ mX s y (s.drop i) i = some r) s.length H.len ⟨_, ⟨rfl, rfl⟩, (d.gL St), rfl, rfl, rfl, hm⟩ dc dc dc (fun _ _ _ h => by obtain ⟨_, A, _⟩ := h; exact A) ?_ ?_)))))
 ·rintro N E W b4 ⟨I, ⟨v, eN⟩, d, u, J, K, a⟩
  obtain ⟨j, d9, c4, U, c5⟩ := iP b4
  rw [c4] at a
  refine bg (Wh v (VQ (jo (i := (N : Int)) (x0 := j) bp aX K v H (aw _) U) (fun f1 b7 => V (gM rfl (kD d.has (fun p q => (Ml q)) H kO b7 U cz aX)) (VE (jc d cu (fun e3 f0 d => Wa (VO (iw (.agg (gS j).toArray) ((gS j).toArray) d rfl rfl aX (rJ j) nb rfl (fun e4 d => ln (hX ?_))))))))))
  replace d := d.drew
  have l := d.has.gL (Kb Sn)
  refine iR l iA (X 0 rfl l (gW J) (X 1 rfl l (gW rfl) (bS a fun _ T a => XQ 2 rfl l (rK (i := (N : Int)) bp aX rfl rfl H kO (pb T) (oZ T)) (fun d2 c3 => XH 3 rfl l (fun _ hS => gM rfl (gY hS Mh (gS j) rfl cz aX)) (bS a fun f2 b8 a => XE 4 rfl (Eg d call153 (iG.jH (uN d2 (s.take (Int.toNat (N : Int))) j _ _ (c3.sl kO (fun b o q => d.at_ (Mt (Ml q)))) b8)) (fun e5 d => ?_)))))))
  have l := d.has.gL (Kb Sn)
  refine ⟨l, (jd kr (gV ?_))⟩
  replace d := d.gL (Db St)
  refine CI a rfl (fun b0 a => ?_) (fun b0 a => ?_)
  ·refine sg (Wa (ln ?_))
   replace d := d.gL (Dr St)
   refine iD (jD (iK (jD (iK ?_))))
   obtain rfl := sj a
   exact rP d
  exact iO (iJ (gV ⟨v, _, ⟨rfl, eN⟩, (d.gL St), u, J, K, (by rw [c5]; exact a)⟩))
 rintro E W ⟨I, ⟨v, eN⟩, d, u, J, K, a⟩
 rw [aB] at a
 refine gV ?_
 replace d := d.gL (Dr St)
 refine hX (sg (Wh u (bS a fun f3 b9 a => VE (Eg d call191 (vc g y _ _ (z.mono (Pl.mono _) (a5.trans d.iL)) b9) (fun e6 d => V (nn rfl) (ln (CI a rfl (fun b1 a => ?_) (fun b1 a => ?_))))))))
 ·refine sg (Wa (lt (iK ?_)))
  obtain rfl := sj a
  exact rP d
 refine kS (Wh u (V (lV bd rfl z) (Wi rfl (V (G0 (k := .i64) rfl rfl) (Wm (ln (FD a (fun a7 E W => ∃ Q Y, iH n Q ∧ ST false iE w W Q Y) (fun a7 b6 B => ?_) ?_)))))))
 ·refine jy (mo (fun m E W => ∃ t G Z, iH n G ∧ ST false iE w W G Z ∧ E 0 = g ∧ E 28 = (.int .i64 (if 0 > (wi0 .i64 ((y.length : Int) - 1)) then 0 else (wi0 .i64 ((y.length : Int) - 1)))) ∧ E 29 = (.int .i64 t) ∧ ng y m t = some a7) jq ⟨0, n, _, (iH.refl _), (d.gL St), u, rfl, rfl, b6⟩ ?_)
  rintro m E W ⟨t, G, Z, x, d, R, a2, M, c⟩
  cases m with
  | zero => rw [ng] at c; cases c
  | succ c9 =>
   refine sg (V (jz M a2 rfl) (ln (hX (CI c rfl (fun b2 c => ?_) (fun b2 c => ?_)))))
   ·refine kn (hX (bg (Wh M (Wa (lr (Wh R (bS c fun d0 c0 c => VE (nt d call136 (iY.jH (sf g y _ _ (z.mono (Pl.mono _) ((a5.trans x).trans d.iL)) c0)) (fun e7 d3 f6 c8 d a3 L a9 => ?_)))))))))
    refine Wm (Wm (Wi rfl (bS c fun d1 c1 c => ?_)))
    refine VE (eM d (Cr Qz Cn) call135 (fun hh _ => iF.jH (rN d3 d0 c8 t (wi0 .i64 (t + 1)) _ _ hh a9 c1)) ?_)
    rintro _ f5 d5 e0 d a4 O P ⟨d4, e2, D, rfl, c6⟩
    obtain rfl := D.symm
    replace d := d.perm (Tr Tn)
    refine bS c fun f4 c2 c => VE (Eg d call191 (vc d4 d1 _ _ (c6.sl pg (fun b o q => d.at_ (Ml q))) c2) (fun e9 d => ln ?_))
    replace d := d.gL (Dr St)
    refine CI c rfl (fun b3 c => ?_) (fun b3 c => ?_)
    ·refine sg (Wa (lt (jD (iK (iK (jD (iK ?_)))))))
     obtain rfl := sj c
     replace B : some false = some r := B
     obtain rfl := sj B
     exact rP d
    exact iO (iJ (gV (gZ (V (jz M rfl rfl) (Wm (ln ⟨c9, bq _, (wi0 .i64 (t + 1)), d5, _, ((x.trans a3).trans a4), (d.gL St), R, a2, rfl, c⟩))))))
   refine mH (mc (mc (qV (gV ?_))))
   obtain rfl := sj c
   exact ⟨_, rfl, G, _, x, (d.gL St)⟩
 rintro ⟨⟩ E W ⟨Q, Y, d6, d⟩ b5
 exact sg (Wa (lt (rQ b5 d)))
theorem zy (B : Value) (D : List iu) (r : Bool) (w : World) (z : Sl (Pl iQ) 12 (hp w) B D) (hm : qM D = some r) :
  iG false pg0 137 [B] w (.bool r) := by
 refine cG 22 func137 rfl (fun d => sg (Wa (lr (Wa (lS (Wm ?_))))))
 refine V (lV bd rfl z) (Wm (ln (iZ (fun i E W => ∃ g k j u, (E 8 = .int .i64 (i : Nat) ∧ E 7 = .int .i64 (D.length : Nat)) ∧ ST false iE w W (hp w) (j ++ u) ∧ E 3 = g ∧ E 6 = B ∧ hZ 38 gS 3 g k j ∧ mG (D.drop i) k = some r) D.length z.len ⟨(.slice none 0 0), ([]), [], _, ⟨rfl, rfl⟩, (d.gL St), rfl, rfl, (hZ.nil _ _ _), hm⟩ dc dc dc (fun _ _ _ h => by obtain ⟨_, _, _, _, n, _⟩ := h; exact n) ?_ ?_)))
 ·rintro a2 E W Q ⟨g, k, j, u, ⟨m, p⟩, d, x, y, t, a⟩
  obtain ⟨c, b1, U, T, Y⟩ := iP Q
  rw [U] at a
  refine bg (VQ (jK (enc := iQ) (i := (a2 : Int)) (x0 := c) bd cL y m z (aw _) T) (fun a9 J => V (gM rfl (kq d.has J isAgg140 cL)) (VE (jc d ee (fun a3 O d => VO (iw (.agg (iQ c).toArray) ((iQ c).toArray) d rfl rfl cL (sx c) nb rfl (fun a4 d => lS (VA d Mh (iQ c) isAgg140 cL (Wh x (bS a fun P K a => ?_))))))))))
  refine VE (Eg d call152 (uz c g k _ _ (t.sl kO (fun b o s => d.at_ (Mt (Ml s)))) K) (fun a5 d => V (nn rfl) (ln (CI a rfl (fun H a => ?_) (fun H a => ?_)))))
  ·refine sg (Wa (ln ?_))
   replace d := d.gL (Db (Dr St))
   refine iD (iK (jD (iK (jD (iK ?_)))))
   obtain rfl := sj a
   exact rP d
  refine kn (gZ (Wh x (Wf rG (VA d Mh (gS c.gI) cz aX (VE (iM (cs := (gS c.gI).toArray) d (ml rfl) (lm bp aX cu) (fun A N d => ?_)))))))
  replace d := d.perm (Nr (Qb (Qb Qz)) Nz)
  refine bS a fun Z I a => VE (km (enc := gS) (v := g) (vs := (.slice (some ⟨N, 0, none⟩) 1 1)) (R := j) d kO dc rJ bp nL.1 nL.2.1 rfl nL.2.2.1 nL.2.2.2 rfl rfl t (Sl.lit (enc := gS) (l := [c.gI]) kO rfl nb rfl (d.at_ (Ma Mh))) I (fun L q M d G => Wa (ig (iJ (gV ?_)))))
  replace d := d.gL (Kr (Db (Db St)))
  exact ⟨m, q, Z, M, _, ⟨rfl, p⟩, (d.gL St), rfl, y, G, (by rw [Y]; exact a)⟩
 rintro E W ⟨g, k, j, u, ⟨m, p⟩, d, x, y, t, a⟩
 rw [aB] at a
 refine gV ?_
 replace d := d.gL (Dr St)
 exact sg (Wa (lt (rQ a d)))
theorem xw (p : Value) (a0 : List iu) (k : LO) (r : List iu) (w : World) {μ0 : iq} (h0 : qn μ0 (k ++ []) w) (e4 : hZ 140 iQ 12 p a0 k) (hm : pc a0 = some r) :
  iF false pg0 67 [p] w (k ++ []) (fun v L1 W' => ∃ y1 S2, v = y1 ∧ L1 = (S2 ++ []) ∧ hZ 140 iQ 12 y1 r S2) := by
 refine tj h0 25 func67 rfl (fun d => sg (Wa (ln (hX (jy (mo (fun m E W => ∃ i t y x A, iH μ0 x ∧ ST false (keys (k ++ [])) w W x (y ++ A) ∧ E 0 = i ∧ hZ 140 iQ 12 i t y ∧ lu m t = some r) jq ⟨p, a0, k, μ0, _, (iH.refl _), (d.gL St), rfl, e4, hm⟩ ?_))))))
 rintro m E W ⟨i, t, y, x, A, b4, d, J, D, c⟩
 cases m with
 | zero => rw [lu] at c; cases c
 | succ d8 =>
  refine hX (sg (Wh J (bS c fun f3 c5 c => VE (Eg d call134 (Av i t _ _ (D.sl pg (fun b o h => d.at_ (Ml h))) c5) (fun e9 d => V (nn rfl) (ln (CI c rfl (fun b9 c => ?_) (fun b9 c => ?_))))))))
  ·refine kn (bg (Wh J (V (jf bd rfl D) (Wi rfl (Wa (ln (pt (CJ c (fun a4 E W => ∃ M H Q L, iH x Q ∧ ST false (keys (k ++ [])) w W Q (H ++ L) ∧ E 0 = M ∧ hZ 140 iQ 12 M a4 H) (fun a4 c3 => ?_) ?_))))))))
   ·refine jy (mo (fun m E W => ∃ u K z j G a9, iH x G ∧ ST false (keys (k ++ [])) w W G (z ++ a9) ∧ E 0 = u ∧ E 3 = (.int .i64 j) ∧ hZ 140 iQ 12 u K z ∧ kC m K j = some a4) jq ⟨i, t, y, (wi0 .i64 ((t.length : Int) - 2)), x, _, (iH.refl _), (d.gL St), J, rfl, D, c3⟩ ?_)
    rintro m E W ⟨u, K, z, j, G, a9, Z, d, a3, B, U, g⟩
    cases m with
    | zero => rw [kC] at g; cases g
    | succ d9 =>
     refine hX (sg (Wh B (Wi rfl (ln (CI g rfl (fun c0 g => ?_) (fun c0 g => ?_))))))
     ·refine kn (hX (CJ g (fun P E W => ∃ N I T O, iH G T ∧ ST false (keys (k ++ [])) w W T (I ++ O) ∧ E 0 = N ∧ E 3 = (.int .i64 j) ∧ hZ 140 iQ 12 N P I) (fun P a => ?_) ?_))
      ·refine bg (Wh a3 (bS a fun e0 c6 a => VE (nt d call136 (iY.jH (sf u K _ _ (U.sl pg (fun b o h => d.at_ (Ml h))) c6)) (fun f0 e2 f6 d1 d s l b8 => Wh B (Wh B (Wi rfl (bS a fun e1 c7 a => ?_)))))))
       refine VE (eM d (Cr Qz Cn) call135 (fun hh _ => iF.jH (rN e2 e0 d1 j (wi0 .i64 (j + 1)) _ _ hh b8 c7)) ?_)
       rintro _ f5 b3 e8 d a2 n q ⟨R, d2, Y, rfl, a5⟩
       obtain rfl := Y.symm
       replace d := d.perm (Tr Tn)
       refine Wa (lr (Wm (bS a fun f4 c8 a => VE (Eg d call137 (zy R e1 _ _ (a5.sl pg (fun b o h => d.at_ (Ml h))) c8) (fun f2 d => ln (CI a rfl (fun c1 a => ?_) (fun c1 a => ?_)))))))
       ·refine gZ (Wm (Wa (ig (iJ (gV ?_)))))
        obtain rfl := sj a
        exact ⟨R, d2, b3, _, (s.trans a2), (d.gL (Kr (Dr St))), rfl, B, a5⟩
       refine iO (iJ (gV ?_))
       obtain rfl := sj a
       exact ⟨u, z, b3, _, (s.trans a2), (d.gL (Dr St)), a3, B, U⟩
      rintro d7 E W ⟨N, I, T, O, b6, d, d4, d5, d0⟩ c4
      exact gZ (Wh d5 (Wi rfl (Wa (ln ⟨d9, bq _, N, d7, I, (wi0 .i64 (j - 1)), T, _, (Z.trans b6), (d.gL St), d4, rfl, d0, c4⟩))))
     refine mH (mc (mc (qV (gV ?_))))
     obtain rfl := sj g
     exact ⟨u, z, G, _, Z, (d.gL St), a3, U⟩
   rintro d6 E W ⟨M, H, Q, L, b5, d, d3, c9⟩ c2
   exact iJ (gV ⟨d8, bq _, M, d6, H, Q, _, (b4.trans b5), (d.gL St), d3, c9, c2⟩)
  refine mH (mc (mc (qV (gV (sg (Wh J (Wa (lt ?_))))))))
  obtain rfl := sj c
  exact iS (v := i) rfl rfl ⟨_, _, rfl, (d.ox (Kr Sn)), i, y, rfl, rfl, D⟩
theorem BH (g : Value) (k : List gG) (i : gI) (r : ((List iu) × Bool)) (w : World) (y : Sl (Pl gJ) 9 (hp w) g k) (hm : qp k i = some r) :
  iF false pg0 22 [g, (.agg (gS i).toArray)] w [] (fun v T W' => ∃ M I, v = (.tuple #[M, (.bool (r.2))]) ∧ T = (I ++ []) ∧ hZ 140 iQ 12 M r.1 I) := by
 refine qS 18 func22 rfl (fun b => sg (VE (iU b rfl (fun W2 p b => Wa (Wa (lr (Wm (VA b Mh (gS i) cz aX (bS hm fun Y K hm => ?_)))))))))
 refine VE (wk b (cW _) call66 (fun _ _ _ _ => (AF g k i _ _ (y.mono (Pl.mono _) b.iL) K)) (fun W5 v9 n Z b U m d t => ?_) (L0 := []))
 obtain ⟨N, H, a, rfl, D⟩ := t
 replace a := a.symm; subst a
 replace b := b.perm (Tr Tn)
 refine Wm (Wx rfl (Wx rfl (Wa (Wa (ln ?_)))))
 replace b := b.gL (Kr (Db St))
 refine hX (sg (Wm (V (nn rfl) (ln (CI hm rfl (fun z hm => ?_) (fun z hm => ?_))))))
 ·refine sg (Wa (Wa (ln ?_)))
  replace b := b.gL (Dr St)
  refine iD (iK ?_)
  obtain rfl := sj hm
  refine u5 (v := (.slice none 0 0)) (u := (.bool false)) rfl rfl rfl ?_
  replace b := b.Gz
  exact ⟨_, _, rfl, (b.wq (Kr Sn)), (.slice none 0 0), [], rfl, rfl, (hZ.nil _ _ _)⟩
 refine kg (Wm (bS hm fun a4 B hm => ?_))
 refine VE (eM b (Cr Qz Cn) call67 (fun l _ => (xw N Y.1 H _ _ l D B)) ?_)
 rintro _ a5 o a2 b Q h d ⟨j, J, c, rfl, G⟩
 obtain rfl := c.symm
 replace b := b.perm (Tr Tn)
 refine Wa (Wa (lt ?_))
 obtain rfl := sj hm
 exact u5 (v := j) (u := (.bool true)) rfl rfl rfl ⟨_, _, rfl, (b.wq (Kr Sn)), j, J, rfl, rfl, G⟩
theorem q9 (M : ByteArray) (r : Bool) (w : World) (hm : mL M = some r) :
  iG true pg0 138 [(.string M)] w (.bool r) := by
 refine cG 49 func138 rfl (fun b => sg (Wa (lS (Wm (V (pa rfl rfl rfl) (Wm (LJ hm (fun c6 E W => ∃ L3, ST true iE w W (hp w) L3 ∧ E 0 = (.string M) ∧ E 11 = (.bool c6)) 4 ?_ (fun c6 K a5 => ?_))))))))
 ·rintro x2 E W ⟨L3, b, o, e6⟩ f6
  refine Wh e6 (LJ f6 (fun c5 E W => ∃ d2, ST true iE w W (hp w) d2 ∧ E 0 = (.string M) ∧ E 16 = (.bool c5)) 4 ?_ (fun c5 x a4 => ?_))
  ·rintro g3 E W ⟨d2, b, n, f3⟩ e9
   refine Wh f3 (LJ e9 (fun c4 E W => ∃ d3, ST true iE w W (hp w) d3 ∧ E 0 = (.string M) ∧ E 21 = (.bool c4)) 4 ?_ (fun c4 u a3 => ?_))
   ·rintro g4 E W ⟨d3, b, f4, f5⟩ Q
    refine ln (CI Q f5 (fun e8 Q => ?_) (fun e8 Q => ?_))
    ·refine sg (Wa (lt (iK ?_)))
     obtain rfl := sj Q
     exact rP b
    refine kS (Wa (ln (jy (mo (fun m E W => ∃ y v, ST true iE w W (hp w) v ∧ E 0 = (.string M) ∧ E 3 = (.int .i64 y) ∧ lX M m y = some r) jq ⟨0, _, (b.gL St), f4, rfl, Q⟩ ?_))))
    rintro m E W ⟨y, v, b, T, U, c⟩
    cases m with
    | zero => rw [lX] at c; cases c
    | succ f0 =>
     refine hX (sg (Wh U (Wh T (V (lC aS rfl) (Wi rfl (ln (CI c rfl (fun c7 c => ?_) (fun c7 c => ?_))))))))
     ·refine kn (hX (bg (Wh T (Wh U (bS c fun d a9 c => V (tA (i := y) aS rfl rfl (sH a9) (vv a9)) (Wa (lr ?_)))))))
      refine Wm (Wi rfl (Wm (LJ c (fun c3 E W => ∃ A, ST true iE w W (hp w) A ∧ E 0 = (.string M) ∧ E 3 = (.int .i64 y) ∧ E 4 = (.int .u8 (d.toNat : Int)) ∧ E 36 = (.bool c3)) 3 ?_ (fun c3 J a2 => ?_))))
      ·rintro f1 E W ⟨A, b, h, l, N, d4⟩ c9
       refine Wh d4 (LJ c9 (fun c1 E W => ∃ L, ST true iE w W (hp w) L ∧ E 0 = (.string M) ∧ E 3 = (.int .i64 y) ∧ E 4 = (.int .u8 (d.toNat : Int)) ∧ E 44 = (.bool c1)) 7 ?_ (fun c1 H Z => ?_))
       ·rintro g0 E W ⟨L, b, R, b9, d5, d6⟩ d0
        refine Wh d6 (LJ d0 (fun c0 E W => ∃ O, ST true iE w W (hp w) O ∧ E 0 = (.string M) ∧ E 3 = (.int .i64 y) ∧ E 48 = (.bool c0)) 3 ?_ (fun c0 G Y => ?_))
        ·rintro g1 E W ⟨O, b, d7, d8, d9⟩ D
         refine ln (CI D d9 (fun c8 D => ?_) (fun c8 D => ?_))
         ·refine sg (Wa (lt (jD (iK (iK (jD (iK ?_)))))))
          obtain rfl := sj D
          exact rP b
         exact iO (iJ (gV (gZ (Wh d8 (Wi rfl (Wa (ln ⟨f0, bq _, (wi0 .i64 (y + 1)), _, (b.gL St), d7, rfl, D⟩)))))))
        refine bC G (fun k G => ?_) (fun k G => ?_)
        ·refine ug k (gW d5) (ug k (jz rfl rfl rfl) (V (ie (cB k) rfl) ?_))
         obtain rfl := sj G
         exact Y _ _ ⟨_, (b.gL St), R, b9, rfl⟩
        refine un k (un k (V (ic (cB k) rfl) ?_))
        obtain rfl := sj G
        exact Y _ _ ⟨_, (b.gL St), R, b9, rfl⟩
       refine bC H (fun a H => ?_) (fun a H => ?_)
       ·refine ug a (gW N) (ug a (jz rfl rfl rfl) (ug a (gW rfl) (LJ H (fun c2 E W => ∃ P, ST true iE w W (hp w) P ∧ E 0 = (.string M) ∧ E 3 = (.int .i64 y) ∧ E 4 = (.int .u8 (d.toNat : Int)) ∧ E 37 = (.bool f1) ∧ E 43 = (.bool c2)) 3 ?_ (fun c2 I p => ?_))))
        ·rintro g2 E W ⟨P, b, e0, e1, e2, e3, e4⟩ d1
         refine V (ie (e3.trans (cB a)) e4) ?_
         obtain rfl := sj d1
         exact Z _ _ ⟨_, (b.gL St), e0, e1, e2, rfl⟩
        refine bC I (fun t I => ?_) (fun t I => ?_)
        ·refine un t (un t (ug a (ie (cB t) rfl) ?_))
         obtain rfl := sj I
         exact p _ _ ⟨_, (b.gL St), h, l, N, rfl, rfl⟩
        refine ug t (gW N) (ug t (jz rfl rfl rfl) (ug a (ic (cB t) rfl) ?_))
        obtain rfl := sj I
        exact p _ _ ⟨_, (b.gL St), h, l, N, rfl, rfl⟩
       refine un a (un a (un a (Vu rfl rfl (Vu rfl rfl (un a (V (ic (cB a) rfl) ?_))))))
       obtain rfl := sj H
       exact Z _ _ ⟨_, (b.gL St), h, l, N, rfl⟩
      refine bC J (fun j J => ?_) (fun j J => ?_)
      ·refine un j (un j (V (ie (cB j) rfl) ?_))
       obtain rfl := sj J
       exact a2 _ _ ⟨_, (b.gL St), T, U, rfl, rfl⟩
      refine ug j (gW rfl) (ug j (jz rfl rfl rfl) (V (ic (cB j) rfl) ?_))
      obtain rfl := sj J
      exact a2 _ _ ⟨_, (b.gL St), T, U, rfl, rfl⟩
     exact mH (mc (mc (qV (gV (sg (Wa (lt (rQ c b))))))))
   refine bC u (fun g u => ?_) (fun g u => ?_)
   ·refine un g (un g (un g (V (ie (cB g) rfl) ?_)))
    obtain rfl := sj u
    exact a3 _ _ ⟨_, (b.gL St), n, rfl⟩
   refine ug g (gW n) (bS u fun f7 q u => ug g (tA (i := 0) aS rfl rfl (sH q) (vv q)) (ug g (jz rfl rfl rfl) (V (ic (cB g) rfl) ?_)))
   obtain rfl := sj u
   exact a3 _ _ ⟨_, (b.gL St), n, rfl⟩
  refine bC x (fun B x => ?_) (fun B x => ?_)
  ·refine un B (un B (un B (V (ie (cB B) rfl) ?_)))
   obtain rfl := sj x
   exact a4 _ _ ⟨_, (b.gL St), o, rfl⟩
  refine ug B (gW o) (bS x fun f8 s x => ug B (tA (i := 0) aS rfl rfl (sH s) (vv s)) (ug B (jz rfl rfl rfl) (V (ic (cB B) rfl) ?_)))
  obtain rfl := sj x
  exact a4 _ _ ⟨_, (b.gL St), o, rfl⟩
 refine bC K (fun z K => ?_) (fun z K => ?_)
 ·refine un z (un z (un z (V (ie (cB z) rfl) ?_)))
  obtain rfl := sj K
  exact a5 _ _ ⟨_, (b.gL St), rfl, rfl⟩
 refine ug z (gW rfl) (ug z (lC aS rfl) (ug z (jz rfl rfl rfl) (V (ic (cB z) rfl) ?_)))
 obtain rfl := sj K
 exact a5 _ _ ⟨_, (b.gL St), rfl, rfl⟩
theorem ta (i : gH) (r : Bool) (w : World) (hm : nC i = some r) :
  iG true pg0 88 [(.agg (gK i).toArray)] w (.bool r) := by
 refine cG 11 func88 rfl (fun b => sg (VE (iU b rfl (fun H J b => Wa (lr (Wf kJ (VB b Mh rfl rfl aI (bS hm fun K y hm => VE (Eg b call138 (q9 i.gU _ _  y) (fun I b => Wm (LJ hm (fun k E W => ∃ j, ST true iE w W (hp w) j ∧ E 2 = (.bool false) ∧ E 10 = (.bool k)) 4 ?_ (fun k a g => ?_))))))))))))
 ·rintro G E W ⟨j, b, B, x⟩ t
  exact Wg x (lt (rQ t b))
 refine bC a (fun c a => ?_) (fun c a => ?_)
 ·refine ug c (gQ pw rfl) (ug c (gM rfl (ia b.has Mh rfl aI)) (bS a fun D u a => qN c (Eg b call138 (q9 i.iz _ _  u) (fun z b => V (ie (cB c) rfl) ?_))))
  obtain rfl := sj a
  exact g _ _ ⟨_, (b.gL (Db St)), rfl, rfl⟩
 refine un c (un c (un c (V (ic (cB c) rfl) ?_)))
 obtain rfl := sj a
 exact g _ _ ⟨_, (b.gL (Db St)), rfl, rfl⟩
theorem BS (t u : gH) (r : Bool) (w : World) (hm : ow t u = some r) :
  iG true pg0 107 [(.agg (gK t).toArray), (.agg (gK u).toArray)] w (.bool r) := by
 refine cG 24 func107 rfl (fun b => sg (VE (iU b rfl (fun T Y b => VE (iU b rfl (fun U Z b => Wa (lr (Wf kJ (VB b (Mt Mh) rfl rfl aI (Wf kJ (VB b Mh rfl rfl aI (V (pa rfl rfl rfl) ?_))))))))))))
 refine Wm (LJ hm (fun z E W => ∃ x, ST true iE w W (hp w) x ∧ E 4 = (.bool false) ∧ E 23 = (.bool z)) 13 ?_ (fun z g j => ?_))
 ·rintro N E W ⟨x, b, M, H⟩ D
  exact Wg H (lt (rQ D b))
 refine bC g (fun a g => ?_) (fun a g => ?_)
 ·refine un a (un a (un a (un a (un a (un a (Vu rfl rfl (Vu rfl rfl (Vu rfl rfl (Vu rfl rfl (Vu rfl rfl (un a (V (ie (cB a) rfl) ?_))))))))))))
  obtain rfl := sj g
  exact j _ _ ⟨_, (b.gL (Db (Db St))), rfl, rfl⟩
 refine ug a (gQ kJ rfl) (ug a (gM rfl (ia b.has (Mt Mh) rfl aI)) (ug a (gQ kJ rfl) (ug a (gM rfl (ia b.has Mh rfl aI)) (ug a (pa rfl rfl rfl) (ug a (gW rfl) (LJ g (fun B E W => ∃ y, ST true iE w W (hp w) y ∧ E 4 = (.bool false) ∧ E 10 = (.bool (li t.gU u.gU)) ∧ E 22 = (.bool B)) 6 ?_ (fun B i k => ?_)))))))
 ·rintro Q E W ⟨y, b, I, J, K⟩ G
  refine V (ic (J.trans (cB a)) K) ?_
  obtain rfl := sj G
  exact j _ _ ⟨_, (b.gL St), I, rfl⟩
 refine bC i (fun c i => ?_) (fun c i => ?_)
 ·refine ug c (gQ pw rfl) (ug c (gM rfl (ia b.has (Mt Mh) rfl aI)) (ug c (gQ pw rfl) (ug c (gM rfl (ia b.has Mh rfl aI)) (ug c (pa rfl rfl rfl) (ug a (ie (cB c) rfl) ?_)))))
  obtain rfl := sj i
  exact k _ _ ⟨_, (b.gL (Db (Db St))), rfl, rfl, rfl⟩
 refine un c (un c (un c (un c (un c (ug a (ic (cB c) rfl) ?_)))))
 obtain rfl := sj i
 exact k _ _ ⟨_, (b.gL (Db (Db St))), rfl, rfl, rfl⟩
theorem wh (g : gG) (r : Bool) (w : World) (hm : oG g = some r) :
  iG true pg0 68 [(.agg (gJ g).toArray)] w (.bool r) := by
 refine cG 93 func68 rfl (fun b => sg (VE (iU b rfl (fun W2 M b => Wa (lr (VE (jc b cE (fun W4 h b => lS ?_))))))))
 refine Wf kX (VA b (Mt Mh) (gK g.Head) az ah (bS hm fun r5 h1 hm => VE (Eg b call88 (ta g.Head _ _  h1) (fun W7 b => V (nn rfl) (ln (CI hm rfl (fun g9 hm => ?_) (fun g9 hm => ?_)))))))
 ·refine sg (Wa (ln ?_))
  replace b := b.gL (Db (Db St))
  refine iD (iK ?_)
  obtain rfl := sj hm
  exact rP b
 refine kS (Wf kP (VB b (Mt Mh) rfl rfl bV (Wi rfl (ln (CI hm rfl (fun h0 hm => ?_) (fun h0 hm => ?_))))))
 ·refine sg (Wf nw (VB b (Mt Mh) rfl rfl aI (bS hm fun i3 f6 hm => VE (Eg b call138 (q9 g.ib _ _  f6) (fun i0 b => Wm (LJ hm (fun e0 E W => ∃ c7, ST true iE w W (hp w) ((h, Ol (gK K0) 28) :: ((M, Ol (gJ g) 108) :: c7)) ∧ E 1 = (.pointer (some ⟨M, 0, none⟩)) ∧ E 2 = (.bool false) ∧ E 3 = (.pointer (some ⟨h, 0, none⟩)) ∧ E 19 = (.bool e0)) 5 ?_ (fun e0 T o => ?_)))))))
  ·rintro i5 E W ⟨c7, b, l, d5, f8, f9⟩ e9
   refine Wh f9 (LJ e9 (fun d9 E W => ∃ c8, ST true iE w W (hp w) ((M, Ol (gJ g) 108) :: c8) ∧ E 1 = (.pointer (some ⟨M, 0, none⟩)) ∧ E 2 = (.bool false) ∧ E 25 = (.bool d9)) 5 ?_ (fun d9 Q a5 => ?_))
   ·rintro i6 E W ⟨c8, b, g0, d6, g1⟩ f0
    refine Wh g1 (LJ f0 (fun d8 E W => ∃ c9, ST true iE w W (hp w) c9 ∧ E 2 = (.bool false) ∧ E 30 = (.bool d8)) 4 ?_ (fun d8 N a4 => ?_))
    ·rintro i7 E W ⟨c9, b, i2, g2⟩ f1
     refine Wg g2 (lt (iK ?_))
     obtain rfl := sj f1
     exact rP b
    refine bC N (fun x N => ?_) (fun x N => ?_)
    ·refine ug x (gQ mV g0) (ug x (gM rfl (ia b.has Mh rfl aI)) (ug x (pa rfl rfl rfl) (V (ie (cB x) rfl) ?_)))
     obtain rfl := sj N
     exact a4 _ _ ⟨_, (b.gL (Db St)), d6, rfl⟩
    refine un x (un x (un x (V (ic (cB x) rfl) ?_)))
    obtain rfl := sj N
    exact a4 _ _ ⟨_, (b.gL (Db St)), d6, rfl⟩
   refine bC Q (fun k Q => ?_) (fun k Q => ?_)
   ·refine ug k (gQ lz l) (ug k (gM rfl (gY b.has (Mt Mh) (gK g.C) rfl az ah)) (ug k (gM f8 (gY b.has Mh (gK K0) rfl az ah)) (ug k (qF rfl rfl (la dL) (nZ (mT _ g.C K0))) (V (ie (cB k) rfl) ?_))))
    obtain rfl := sj Q
    exact a5 _ _ ⟨_, (b.gL (Db St)), l, d5, rfl⟩
   refine un k (un k (un k (un k (V (ic (cB k) rfl) ?_))))
   obtain rfl := sj Q
   exact a5 _ _ ⟨_, (b.gL (Db St)), l, d5, rfl⟩
  refine bC T (fun j T => ?_) (fun j T => ?_)
  ·refine ug j (gQ jm rfl) (ug j (gM rfl (gY b.has (Mt Mh) (gK g.B) rfl az ah)) (ug j (gM rfl (gY b.has Mh (gK K0) rfl az ah)) (ug j (qF rfl rfl (la dL) (nZ (mT _ g.B K0))) (V (ie (cB j) rfl) ?_))))
   obtain rfl := sj T
   exact o _ _ ⟨_, (b.gL St), rfl, rfl, rfl, rfl⟩
  refine un j (un j (un j (un j (V (ic (cB j) rfl) ?_))))
  obtain rfl := sj T
  exact o _ _ ⟨_, (b.gL St), rfl, rfl, rfl, rfl⟩
 let a0 := ((gJ g).toArray : Array Value)
 let d : Value := (.pointer (some ⟨M, 0, none⟩))
 refine kS (Wf nw (VB b (Mt Mh) rfl rfl aI (V (pa rfl rfl rfl) (Wm (LJ hm (fun R E W => ∃ d0, ST true iE w W (hp w) ((h, Ol (gK K0) 28) :: ((M, Obj.cells a0 108 (0, 0)) :: d0)) ∧ E 1 = d ∧ E 3 = (.pointer (some ⟨h, 0, none⟩)) ∧ E 39 = (.bool R)) 5 ?_ (fun R I a3 => ?_))))))
 ·rintro i8 E W ⟨d0, b, u, d7, g3⟩ i
  refine ln (CI i g3 (fun e6 i => ?_) (fun e6 i => ?_))
  ·refine sg (Wa (ln ?_))
   replace b := b.gL (Db (Db St))
   refine iD (iK ?_)
   obtain rfl := sj i
   exact rP b
  refine kS (V (gQ kP u) (VB b (Mt Mh) rfl rfl bV (Wi rfl (ln (CI i rfl (fun e7 i => ?_) (fun e7 i => ?_))))))
  ·refine sg (V (gQ lz u) (VA b (Mt Mh) (gK g.C) az ah (V (gM d7 (gY b.has Mh (gK K0) rfl az ah)) (V (qF rfl rfl (la dL) (nZ (mT _ g.C K0))) (Wm (LJ i (fun e1 E W => ∃ d1, ST true iE w W (hp w) d1 ∧ E 51 = (.bool e1)) 4 ?_ (fun e1 U p => ?_)))))))
   ·rintro i9 E W ⟨d1, b, g4⟩ f2
    refine Wg g4 (lt (iK ?_))
    obtain rfl := sj f2
    exact rP b
   refine bC U (fun y U => ?_) (fun y U => ?_)
   ·refine ug y (gQ mV u) (ug y (gM rfl (ia b.has (Mt Mh) rfl aI)) (ug y (pa rfl rfl rfl) (V (ie (cB y) rfl) ?_)))
    obtain rfl := sj U
    exact p _ _ ⟨_, (b.gL (Db (Db St))), rfl⟩
   refine un y (un y (un y (V (ic (cB y) rfl) ?_)))
   obtain rfl := sj U
   exact p _ _ ⟨_, (b.gL (Db (Db St))), rfl⟩
  refine kS (V (gQ kP u) (VB b (Mt Mh) rfl rfl bV (Wi rfl (ln (CI i rfl (fun e8 i => ?_) (fun e8 i => ?_))))))
  ·refine sg (V (gQ lz u) (VA b (Mt Mh) (gK g.C) az ah (V (gM d7 (gY b.has Mh (gK K0) rfl az ah)) (V (qF rfl rfl (la dL) (nZ (mT _ g.C K0))) (Wm (LJ i (fun e3 E W => ∃ d2, ST true iE w W (hp w) ((M, Obj.cells a0 108 (0, 0)) :: d2) ∧ E 1 = d ∧ E 67 = (.bool e3)) 8 ?_ (fun e3 Y a9 => ?_)))))))
   ·rintro j0 E W ⟨d2, b, g5, g6⟩ f3
    refine Wh g6 (LJ f3 (fun e2 E W => ∃ d3, ST true iE w W (hp w) d3 ∧ E 72 = (.bool e2)) 4 ?_ (fun e2 J q => ?_))
    ·rintro j3 E W ⟨d3, b, g7⟩ f4
     refine Wg g7 (lt (iK ?_))
     obtain rfl := sj f4
     exact rP b
    refine bC J (fun z J => ?_) (fun z J => ?_)
    ·refine ug z (gQ mV g5) (ug z (gM rfl (ia b.has Mh rfl aI)) (bS J fun i4 f7 J => qN z (Eg b call138 (q9 g.iv _ _  f7) (fun i1 b => V (ie (cB z) rfl) ?_))))
     obtain rfl := sj J
     exact q _ _ ⟨_, (b.gL (Db St)), rfl⟩
    refine un z (un z (un z (V (ic (cB z) rfl) ?_)))
    obtain rfl := sj J
    exact q _ _ ⟨_, (b.gL (Db St)), rfl⟩
   refine bC Y (fun a Y => ?_) (fun a Y => ?_)
   ·refine ug a (gQ jm u) (ug a (gQ kJ rfl) (ug a (gM rfl (ia b.has (Mt Mh) rfl aI)) (ug a (gQ kX u) (ug a (gQ kJ rfl) (ug a (gM rfl (ia b.has (Mt Mh) rfl aI)) (ug a (pa rfl rfl rfl) (V (ie (cB a) rfl) ?_)))))))
    obtain rfl := sj Y
    exact a9 _ _ ⟨_, (b.gL (Db St)), u, rfl⟩
   refine un a (un a (un a (un a (un a (un a (un a (V (ic (cB a) rfl) ?_)))))))
   obtain rfl := sj Y
   exact a9 _ _ ⟨_, (b.gL (Db St)), u, rfl⟩
  refine kn ?_
  replace b := b.gL (Db St)
  refine sg (V (gQ kP u) (VB b Mh rfl rfl bV (Wi rfl (Wm (LJ i (fun P E W => ∃ d4, ST true iE w W (hp w) ((M, Obj.cells a0 108 (0, 0)) :: d4) ∧ E 1 = d ∧ E 80 = (.bool P)) 4 ?_ (fun P K a2 => ?_))))))
  ·rintro j4 E W ⟨d4, b, m, g8⟩ f5
   refine Wh g8 (LJ f5 (fun O E W => ∃ s, ST true iE w W (hp w) ((M, Obj.cells a0 108 (0, 0)) :: s) ∧ E 1 = d ∧ E 85 = (.bool O)) 4 ?_ (fun O H n => ?_))
   ·rintro h8 E W ⟨s, b, A, e4⟩ c2
    refine Wh e4 (LJ c2 (fun L E W => ∃ v, ST true iE w W (hp w) v ∧ E 92 = (.bool L)) 6 ?_ (fun L G Z => ?_))
    ·rintro h9 E W ⟨v, b, e5⟩ c3
     exact Wg e5 (lt (rQ c3 b))
    refine bC G (fun c G => ?_) (fun c G => ?_)
    ·refine ug c (gQ jm A) (ug c (gM rfl (gY b.has Mh (gK g.B) rfl az ah)) (ug c (gQ lz A) (ug c (gM rfl (gY b.has Mh (gK g.C) rfl az ah)) (bS G fun h5 c4 G => qN c (Eg b call107 (BS g.B g.C _ _  c4) (fun h2 b => V (ie (cB c) rfl) ?_))))))
     obtain rfl := sj G
     exact Z _ _ ⟨_, (b.gL (Db St)), rfl⟩
    refine un c (un c (un c (un c (un c (V (ic (cB c) rfl) ?_)))))
    obtain rfl := sj G
    exact Z _ _ ⟨_, (b.gL (Db St)), rfl⟩
   refine bC H (fun D H => ?_) (fun D H => ?_)
   ·refine ug D (gQ lz m) (ug D (gM rfl (gY b.has Mh (gK g.C) rfl az ah)) (bS H fun h6 c5 H => qN D (Eg b call88 (ta g.C _ _  c5) (fun h3 b => V (ie (cB D) rfl) ?_))))
    obtain rfl := sj H
    exact n _ _ ⟨_, (b.gL St), m, rfl⟩
   refine un D (un D (un D (V (ic (cB D) rfl) ?_)))
   obtain rfl := sj H
   exact n _ _ ⟨_, (b.gL St), m, rfl⟩
  refine bC K (fun B K => ?_) (fun B K => ?_)
  ·refine ug B (gQ mV u) (ug B (gM rfl (ia b.has Mh rfl aI)) (ug B (pa rfl rfl rfl) (V (ie (cB B) rfl) ?_)))
   obtain rfl := sj K
   exact a2 _ _ ⟨_, (b.gL St), u, rfl⟩
  refine un B (un B (un B (V (ic (cB B) rfl) ?_)))
  obtain rfl := sj K
  exact a2 _ _ ⟨_, (b.gL St), u, rfl⟩
 refine bC I (fun t I => ?_) (fun t I => ?_)
 ·refine un t (un t (un t (un t (V (ie (cB t) rfl) ?_))))
  obtain rfl := sj I
  exact a3 _ _ ⟨_, (b.gL St), rfl, rfl, rfl⟩
 refine ug t (gQ jm rfl) (ug t (gM rfl (gY b.has (Mt Mh) (gK g.B) rfl az ah)) (bS I fun h7 c6 I => qN t (Eg b call88 (ta g.B _ _  c6) (fun h4 b => ug t (nn rfl) (V (ic (cB t) rfl) ?_)))))
 obtain rfl := sj I
 exact a3 _ _ ⟨_, (b.gL St), rfl, rfl, rfl⟩
theorem vq (x : Int) (r : ByteArray) (w : World) (hm : px x = some r) :
  iG true pg0 87 [(.int .i64 x)] w (.string r) := by
 refine cG 22 func87 rfl (fun d => sg (Wa (lr (Wa (ln (hX (jy (mo (fun m E W => ∃ c j t, ST true iE w W (hp w) t ∧ E 0 = (.int .i64 c) ∧ E 3 = (.string j) ∧ nJ m c j = some r) jq ⟨x, zS, _, (d.gL St), rfl, rfl, hm⟩ ?_))))))))
 rintro m E W ⟨c, j, t, d, i, u, g⟩
 let N := (Int.tmod c 128)
 cases m with
 | zero => rw [nJ] at g; cases g
 | succ D =>
  refine hX (sg (Wh i (Wi rfl (ln (CI g rfl (fun y g => ?_) (fun y g => ?_))))))
  ·refine kn (bg (Wh u (Wh i (V (Dy (k := .i64) (a := c) (b := 128) (v := (.int .i64 N)) rfl rfl dc rfl) (Wi rfl (V (uC (k' := .i64) (a := (wi0 .i64 (128 + N))) dX dY rfl) (VE (iM (cs := [(.int .u8 (IntKind.u8.wrap (wi0 .i64 (128 + N))))].toArray) d (ml rfl) (lm bM sizeOf5 gu) (fun H J d => V (Ci bM dY aS rfl (Sl.lit (enc := (ju .u8)) (l := [(IntKind.u8.wrap (wi0 .i64 (128 + N)))]) (fun _ => rfl) rfl nb rfl (d.at_ Mh))) (bS g fun G z g => V (tm rfl rfl z) (Wa ?_)))))))))))
   refine ln ?_
   replace d := d.gL (Db St)
   exact gZ (Wh i (V (Dy (k := .i64) (a := c) (b := 128) (v := (.int .i64 (wi0 .i64 (Int.tdiv c 128)))) rfl rfl dc rfl) (Wa (ig (iJ (gV ⟨D, bq _, (wi0 .i64 (Int.tdiv c 128)), G, _, (d.gL St), rfl, rfl, g⟩))))))
  refine mH (mc (mc (qV (gV (sg (Wh u (Wh i (V (uC (k' := .i64) (a := c) dX dY rfl) (VE (iM (cs := [(.int .u8 (IntKind.u8.wrap c))].toArray) d (ml rfl) (lm bM sizeOf5 gu) (fun I K d => V (Ci bM dY aS rfl (Sl.lit (enc := (ju .u8)) (l := [(IntKind.u8.wrap c)]) (fun _ => rfl) rfl nb rfl (d.at_ Mh))) (bS g fun M B g => V (tm rfl rfl B) (Wa (ln ?_))))))))))))))
  exact iD (rQ g d)
theorem se (a r : ByteArray) (w : World) (hm : om a = some r) :
  iG true pg0 154 [(.string a)] w (.string r) := by
 refine cG 8 func154 rfl (fun b => sg (Wa (lr (Wm (V (lC aS rfl) (bS hm fun j c hm => VE (Eg b call87 (vq (a.size : Int) _ _  c) (fun i b => Wm (bS hm fun k g hm => V (tm rfl rfl g) ?_)))))))))
 exact Wa (lt (rQ hm b))
theorem sY (a : gH) (r : ByteArray) (w : World) (hm : oI a = some r) :
  iG true pg0 89 [(.agg (gK a).toArray)] w (.string r) := by
 refine cG 10 func89 rfl (fun b => sg (VE (iU b rfl (fun y z b => Wa (ln (hX ?_))))))
 replace b := b.drew
 have d := b.has.gL (Kb Sn)
 refine iR d iA (X 0 rfl d (gQ kJ rfl) (XH 1 rfl d (fun _ h => gM rfl (ia h Mh rfl aI)) (X 3 rfl d (gQ pw rfl) (XH 4 rfl d (fun _ h => gM rfl (ia h Mh rfl aI)) (bS hm fun t c hm => XE 2 rfl (Eg b call154 (se a.gU _ _  c) (fun j b => ?_)))))))
 have d := b.has.gL (Kb Sn)
 refine ⟨d, (bS hm fun u g hm => XE 5 rfl (Eg b call154 (se a.iz _ _  g) (fun k b => ?_)))⟩
 have d := b.has.gL (Kb Sn)
 refine ⟨d, (bS hm fun x i hm => X 6 rfl d (tm rfl rfl i) (X 7 rfl d (kh rfl) (jd kr (gV ?_))))⟩
 exact iD (rQ hm b)
theorem AE (g : gG) (r : ByteArray) (w : World) (hm : s7 g = some r) :
  iG true pg0 155 [(.agg (gJ g).toArray)] w (.string r) := by
 refine cG 41 func155 rfl (fun b => sg (VE (iU b rfl (fun W2 l b => Wa (ln (hX ?_))))))
 replace b := b.drew
 have d := b.has.gL (Kb Sn)
 refine iR d iA (X 0 rfl d (gQ kP rfl) (XH 1 rfl d (fun _ h => gM rfl (ia h Mh rfl bV)) (X 3 rfl d (gQ kX rfl) (XH 4 rfl d (fun _ h => gM rfl (gY h Mh (gK g.Head) rfl az ah)) (bS hm fun a9 H hm => XE 2 rfl (Eg b call87 (vq g.Kind _ _  H) (fun a3 b => ?_)))))))
 have d := b.has.gL (Kb Sn)
 refine ⟨d, (bS hm fun p I hm => XE 5 rfl (Eg b call89 (sY g.Head _ _  I) (fun a4 b => ?_)))⟩
 have d := b.has.gL (Kb Sn)
 refine ⟨d, (bS hm fun L Q hm => X 6 rfl d (tm rfl rfl Q) (X 7 rfl d (kh rfl) (jd kr (gV (hX (sg (Wf kP (VB b Mh rfl rfl bV (Wi rfl (ln (CI hm rfl (fun y hm => ?_) (fun y hm => ?_))))))))))))⟩
 ·refine sg (Wm (Wf nw (VB b Mh rfl rfl aI (bS hm fun q J hm => VE (Eg b call154 (se g.ib _ _  J) (fun a5 b => bS hm fun O T hm => V (tm rfl rfl T) (Wa (ln ?_))))))))
  replace b := b.gL (Db St)
  refine iD (iK ?_)
  obtain rfl := sj hm
  exact rP b
 refine kg (Wm (Wf jm (VA b Mh (gK g.B) az ah (bS hm fun s K hm => VE (Eg b call89 (sY g.B _ _  K) (fun m b => bS hm fun P U hm => V (tm rfl rfl U) (Wa (ln (hX ?_)))))))))
 refine CJ hm (fun x E W => ∃ i, ST true iE w W (hp w) ((l, Ol (gJ g) 108) :: i) ∧ E 1 = (.pointer (some ⟨l, 0, none⟩)) ∧ E 3 = (.string x)) (fun x c => ?_) ?_
 ·refine sg (Wf kP (VB b Mh rfl rfl bV (Wi rfl (ln (CI c rfl (fun B c => ?_) (fun B c => ?_))))))
  ·refine gZ (Wm (Wf mV (VB b Mh rfl rfl aI (bS c fun A N c => VE (Eg b call154 (se g.iv _ _  N) (fun o b => bS c fun c0 Z c => V (tm rfl rfl Z) (Wa (ln ?_))))))))
   obtain rfl := sj c
   exact ⟨_, (b.gL St), rfl, rfl⟩
  refine kn ?_
  obtain rfl := sj c
  exact ⟨_, (b.gL St), rfl, rfl⟩
 rintro c1 E W ⟨i, b, k, t⟩ D
 refine hX (CJ D (fun u E W => ∃ j, ST true iE w W (hp w) j ∧ E 3 = (.string u)) (fun u a => ?_) ?_)
 ·refine sg (V (gQ kP k) (VB b Mh rfl rfl bV (Wi rfl (ln (CI a rfl (fun z a => ?_) (fun z a => ?_))))))
  ·refine gZ (Wh t (V (gQ lz k) (VA b Mh (gK g.C) az ah (bS a fun v M a => VE (Eg b call89 (sY g.C _ _  M) (fun n b => bS a fun R Y a => V (tm rfl rfl Y) (Wa (ln ?_))))))))
   obtain rfl := sj a
   exact ⟨_, (b.gL (Db St)), rfl⟩
  refine kn ?_
  obtain rfl := sj a
  exact ⟨_, (b.gL (Db St)), t⟩
 rintro c2 E W ⟨j, b, a2⟩ G
 exact sg (Wh a2 (Wa (lt (rQ G b))))
theorem wi (a : gG) (r : ByteArray) (w : World) (hm : pO a = some r) :
  iG true pg0 139 [(.agg (gJ a).toArray)] w (.string r) := by
 refine cG 8 func139 rfl (fun b => sg (VE (iU b rfl (fun j u b => Wa (lS (VA b Mh (gJ a) aM ae (bS hm fun x g hm => VE (Eg b call68 (wh a _ _  g) (fun k b => V (nn rfl) (ig ?_))))))))))
 refine gV (CI hm rfl (fun c hm => ?_) (fun c hm => ?_))
 ·refine sg (Wa (ln ?_))
  replace b := b.gL (Db St)
  refine iD (iK ?_)
  obtain rfl := sj hm
  exact rP b
 refine kg (VA b Mh (gJ a) aM ae (bS hm fun y i hm => VE (Eg b call155 (AE a _ _  i) (fun t b => Wa (ln ?_)))))
 exact iD (rQ hm b)
theorem ur (a c : gG) (r : Int) (w : World) (hm : nx a c = some r) :
  iG true pg0 69 [(.agg (gJ a).toArray), (.agg (gJ c).toArray)] w (.int .i64 r) := by
 refine cG 17 func69 rfl (fun b => sg (VE (iU b rfl (fun u z b => VE (iU b rfl (fun x B b => Wa (lr (VA b (Mt Mh) (gJ a) aM ae (bS hm fun D j hm => VE (Eg b call139 (wi a _ _  j) (fun y b => Wa (ig ?_))))))))))))
 refine gV ?_
 replace b := b.gL (Kb (Db St))
 refine sg (VA b Mh (gJ c) aM ae (bS hm fun G k hm => VE (Eg b call139 (wi c _ _  k) (fun t b => Wa (ln ?_)))))
 replace b := b.gL (Db St)
 refine hX (sg (Wm (Wm (V (pa rfl rfl rfl) (ln (CI hm rfl (fun g hm => ?_) (fun g hm => ?_)))))))
 ·refine sg (Wa (lt (iK ?_)))
  obtain rfl := sj hm
  exact rP b
 refine kS (Wm (Wm (V (pa rfl rfl rfl) (ln (CI hm rfl (fun i hm => ?_) (fun i hm => ?_))))))
 ·refine sg (Wa (lt (iK ?_)))
  obtain rfl := sj hm
  exact rP b
 exact kg (Wa (lt (rQ hm b)))
theorem BY (D : Value) (a0 r : List gG) (w : World) (e2 : Sl (Pl gJ) 9 (hp w) D a0) (hm : nT a0 = some r) :
  iY true pg0 23 [D] w 108 gJ 9 r := by
 refine qS 51 func23 rfl (fun d => sg (Wa (lr (Wa (ln (pt (jy (mo (fun m E W => ∃ x a3 u c4, ST true iE w W (hp w) (u ++ c4) ∧ E 0 = D ∧ E 3 = x ∧ hZ 108 gJ 9 x a3 u ∧ nX a0 m a3 = some r) jq ⟨(.slice none 0 0), ([]), [], _, (d.gL St), rfl, rfl, (hZ.nil _ _ _), hm⟩ ?_))))))))
 rintro m E W ⟨x, a3, u, c4, d, d0, g1, J, a5⟩
 cases m with
 | zero => rw [nX] at a5; cases a5
 | succ j0 =>
  refine bg (VE (jc d aZ (fun j7 t d => lr (Wa (lS (Wh d0 ?_))))))
  let c2 : Value := (.pointer (some ⟨t, 0, none⟩))
  refine V (lV ap rfl e2) (Wm (ln (CJ a5 (fun a9 E W => ∃ c5, ST true iE w W (hp w) ((t, Ol (gJ a9.2) 108) :: (u ++ c5)) ∧ E 0 = D ∧ E 3 = x ∧ E 4 = c2 ∧ E 5 = (.bool a9.1)) (fun a9 e8 => ?_) ?_)))
  ·refine iZ (fun i E W => ∃ G y b1, (E 10 = .int .i64 (i : Nat) ∧ E 9 = .int .i64 (a0.length : Nat)) ∧ ST true iE w W (hp w) ((t, Ol (gJ y) 108) :: (u ++ b1)) ∧ E 0 = D ∧ E 3 = x ∧ E 4 = c2 ∧ E 5 = (.bool G) ∧ E 8 = D ∧ nc a3 (a0.drop i) G y = some a9) a0.length e2.len ⟨false, K9, _, ⟨rfl, rfl⟩, (d.gL St), d0, g1, rfl, rfl, rfl, e8⟩ dc dc dc (fun _ _ _ h => by obtain ⟨_, _, _, ab, _⟩ := h; exact ab) ?_ ?_
   ·rintro a2 E W e7 ⟨G, y, b1, ⟨q, O⟩, d, U, M, Y, Z, o, z⟩
    let j2 := ((gJ y).toArray : Array Value)
    obtain ⟨c, j6, f8, f7, c3⟩ := iP e7
    let j1 := ((gJ c).toArray : Array Value)
    rw [f8] at z
    refine bg (VQ (jK (enc := gJ) (i := (a2 : Int)) (x0 := c) ap ae o q e2 (aw _) f7) (fun k6 f2 => V (gM rfl (kq d.has f2 aM ae)) (VE (jc d aZ (fun k0 K d => VO (iw (.agg (gJ c).toArray) ((gJ c).toArray) d rfl rfl ae (jY c) nb rfl (fun k1 d => ln (hX ?_))))))))
    let l6 : Value := (.int .i64 (a2 : Int))
    let l5 : Value := (.int .i64 (a0.length : Int))
    let P : Value := (.pointer (some ⟨K, 0, none⟩))
    replace d := d.drew
    have b := d.has.gL (Kb (Kb (Kr Sn)))
    refine iR b iA (XH 0 rfl b (fun _ n => gM rfl (gY n Mh (gJ c) rfl aM ae)) (bS z fun j3 f4 z => XE 1 rfl (Eg d call68 (wh c _ _  f4) (fun k2 d => ?_))))
    have b := d.has.gL (Kb (Kb (Kr Sn)))
    refine ⟨b, (X 2 rfl b (gW rfl) (PJ z (fun d9 E W => ∃ c6, ST true iE w W (hp w) ((K, Obj.cells j1 108 (0, 0)) :: ((t, Obj.cells j2 108 (0, 0)) :: (u ++ c6))) ∧ E 0 = D ∧ E 3 = x ∧ E 4 = c2 ∧ E 5 = (.bool G) ∧ E 7 = P ∧ E 8 = D ∧ E 9 = l5 ∧ E 10 = l6 ∧ E 31 = (.bool d9)) (bm 28 262143) 10 ?_ (fun d9 T c0 => ?_)))⟩
    ·rintro j5 E W ⟨c6, d, b2, b3, s, A, L, b4, b5, b6, g5⟩ e9
     have b := d.has.gL (Kb (Kb (Kr Sn)))
     refine X 18 rfl b (gW g5) (PJ e9 (fun d7 E W => ∃ c7, ST true iE w W (hp w) ((K, Obj.cells j1 108 (0, 0)) :: ((t, Obj.cells j2 108 (0, 0)) :: (u ++ c7))) ∧ E 0 = D ∧ E 3 = x ∧ E 4 = c2 ∧ E 5 = (.bool G) ∧ E 7 = P ∧ E 8 = D ∧ E 9 = l5 ∧ E 10 = l6 ∧ E 41 = (.bool d7)) (bm 28 268435455) 0 ?_ (fun d7 Q b8 => ?_))
     ·rintro l1 E W ⟨c7, d, d2, d3, b7, g6, g7, d4, d5, d6, g8⟩ N
      refine jd kr (gV (CI N g8 (fun e6 N => ?_) (fun e6 N => ?_)))
      ·refine sg (V (gM g7 (gY d.has Mh (gJ c) rfl aM ae)) ?_)
       replace d := d.perm (Nb (Pb Pz) Nz)
       refine VO (iw (.agg (gJ c).toArray) ((gJ c).toArray) d b7 rfl ae (jY c) nb rfl (fun k3 d => ln ?_))
       replace d := d.gL (Kb (Db St))
       exact gZ (Wa (ig (iJ (gV ⟨d6, true, c, _, ⟨rfl, d5⟩, (d.gL St), d2, d3, b7, rfl, d4, (by rw [c3]; exact N)⟩))))
      refine iO (iJ (gV ?_))
      replace d := d.gL (Db St)
      exact ⟨d6, G, y, _, ⟨rfl, d5⟩, (d.gL St), d2, d3, b7, g6, d4, (by rw [c3]; exact N)⟩
     refine bC Q (fun j Q => ?_) (fun j Q => ?_)
     ·refine Xg 19 rfl rfl (cB j) b (gW A) (Xg 20 rfl rfl (cB j) b (nn rfl) (Xg 21 rfl rfl (cB j) b (gW rfl) (PJ Q (fun d8 E W => ∃ c8, ST true iE w W (hp w) ((K, Obj.cells j1 108 (0, 0)) :: ((t, Obj.cells j2 108 (0, 0)) :: (u ++ c8))) ∧ E 0 = D ∧ E 3 = x ∧ E 4 = c2 ∧ E 5 = (.bool G) ∧ E 7 = P ∧ E 8 = D ∧ E 9 = l5 ∧ E 10 = l6 ∧ E 32 = (.bool j5) ∧ E 40 = (.bool d8)) (bm 28 134217727) 1 ?_ (fun d8 I b9 => ?_))))
      ·rintro l2 E W ⟨c8, d, g9, h0, h1, h2, h3, h4, h5, h6, h7, h8⟩ f0
       have b := d.has.gL (Kb (Kb (Kr Sn)))
       refine X 27 rfl b (ie (h7.trans (cB j)) h8) ?_
       obtain rfl := sj f0
       refine jU kr (b8 _ _ ⟨_, (d.gL St), g9, h0, h1, h2, h3, h4, h5, h6, rfl⟩)
      refine bC I (fun k I => ?_) (fun k I => ?_)
      ·refine Xn 22 rfl rfl (cB k) b (Xn 23 rfl rfl (cB k) b (Xn 24 rfl rfl (cB k) b (Xn 25 rfl rfl (cB k) b (Xg 26 rfl rfl (cB j) b (ie (cB k) rfl) ?_))))
       obtain rfl := sj I
       refine jU kr (b9 _ _ ⟨_, (d.gL St), b2, b3, s, A, L, b4, b5, b6, rfl, rfl⟩)
      refine qZ 22 rfl rfl (cB k) b (fun _ n => gM L (gY n Mh (gJ c) rfl aM ae)) (qZ 23 rfl rfl (cB k) b (fun _ n => gM s (gY n (Mt Mh) (gJ y) rfl aM ae)) (bS I fun k8 f5 I => zX 24 rfl rfl (cB k) (Eg d call69 (ur c y _ _  f5) (fun k4 d => ?_))))
      have b := d.has.gL (Kb (Kb (Kr Sn)))
      refine ⟨b, (Xg 25 rfl rfl (cB k) b (jz rfl rfl rfl) (Xg 26 rfl rfl (cB j) b (ic (cB k) rfl) ?_))⟩
      obtain rfl := sj I
      refine jU kr (b9 _ _ ⟨_, (d.gL St), b2, b3, s, A, L, b4, b5, b6, rfl, rfl⟩)
     refine Xn 19 rfl rfl (cB j) b (Xn 20 rfl rfl (cB j) b (Xn 21 rfl rfl (cB j) b (Xu 22 rfl rfl rfl b (Xu 23 rfl rfl rfl b (Xu 24 rfl rfl rfl b (Xu 25 rfl rfl rfl b (Xn 26 rfl rfl (cB j) b (X 27 rfl b (ic (cB j) rfl) ?_))))))))
     obtain rfl := sj Q
     refine jU kr (b8 _ _ ⟨_, (d.gL St), b2, b3, s, A, L, b4, b5, b6, rfl⟩)
    refine bC T (fun g T => ?_) (fun g T => ?_)
    ·refine Xg 3 rfl rfl (cB g) b (gW M) (Xg 4 rfl rfl (cB g) b (jf ap rfl J) (Xg 5 rfl rfl (cB g) b (jz rfl rfl rfl) (Xg 6 rfl rfl (cB g) b (gW rfl) (PJ T (fun e0 E W => ∃ c9, ST true iE w W (hp w) ((K, Obj.cells j1 108 (0, 0)) :: ((t, Obj.cells j2 108 (0, 0)) :: (u ++ c9))) ∧ E 0 = D ∧ E 3 = x ∧ E 4 = c2 ∧ E 5 = (.bool G) ∧ E 7 = P ∧ E 8 = D ∧ E 9 = l5 ∧ E 10 = l6 ∧ E 16 = (.bool j3) ∧ E 30 = (.bool e0)) (bm 28 131071) 11 ?_ (fun e0 B c1 => ?_)))))
     ·rintro l3 E W ⟨c9, d, h9, i0, i1, i2, i3, i4, i5, i6, i7, i8⟩ f1
      have b := d.has.gL (Kb (Kb (Kr Sn)))
      refine X 17 rfl b (ie (i7.trans (cB g)) i8) ?_
      obtain rfl := sj f1
      refine jU kr (c0 _ _ ⟨_, (d.gL St), h9, i0, i1, i2, i3, i4, i5, i6, rfl⟩)
     refine bC B (fun a B => ?_) (fun a B => ?_)
     ·refine Xn 7 rfl rfl (cB a) b (Xn 8 rfl rfl (cB a) b (Xn 9 rfl rfl (cB a) b (Xn 10 rfl rfl (cB a) b (Xn 11 rfl rfl (cB a) b (Xn 12 rfl rfl (cB a) b (Xn 13 rfl rfl (cB a) b (Xn 14 rfl rfl (cB a) b (Xn 15 rfl rfl (cB a) b (Xg 16 rfl rfl (cB g) b (ie (cB a) rfl) ?_)))))))))
      obtain rfl := sj B
      refine jU kr (c1 _ _ ⟨_, (d.gL St), U, M, Y, Z, rfl, o, O, q, rfl, rfl⟩)
     refine Xg 7 rfl rfl (cB a) b (gW M) (Xg 8 rfl rfl (cB a) b (gW M) (Xg 9 rfl rfl (cB a) b (jf ap rfl J) (Xg 10 rfl rfl (cB a) b (jz rfl rfl rfl) (bS B fun e1 b0 B => CZ 11 rfl kr (.inr ⟨6, false, 20, rfl, rfl, by decide, (cB a)⟩) rfl dc (fun _ _ h => h) b (jo (i := (wi0 .i64 ((a3.length : Int) - 1))) (x0 := e1) ap ae rfl rfl J (jP b0) (jk b0)) (fun k7 f3 => qZ 12 rfl rfl (cB a) b (fun _ n => gM rfl (kD n (fun p hq => (Mt (Mt (Ml hq)))) J iN f3 (jk b0) aM ae)) (qZ 13 rfl rfl (cB a) b (fun _ n => gM rfl (gY n Mh (gJ c) rfl aM ae)) (bS B fun k9 f6 B => zX 14 rfl rfl (cB a) (Eg d call69 (ur e1 c _ _  f6) (fun k5 d => ?_)))))))))
     have b := d.has.gL (Kb (Kb (Kr Sn)))
     refine ⟨b, (Xg 15 rfl rfl (cB a) b (jz rfl rfl rfl) (Xg 16 rfl rfl (cB g) b (ic (cB a) rfl) ?_))⟩
     obtain rfl := sj B
     refine jU kr (c1 _ _ ⟨_, (d.gL St), U, M, Y, Z, rfl, o, O, q, rfl, rfl⟩)
    refine Xn 3 rfl rfl (cB g) b (Xn 4 rfl rfl (cB g) b (Xn 5 rfl rfl (cB g) b (Xn 6 rfl rfl (cB g) b (Xu 7 rfl rfl rfl b (Xu 8 rfl rfl rfl b (Xu 9 rfl rfl rfl b (Xu 10 rfl rfl rfl b (Xu 11 rfl rfl rfl b (Xu 12 rfl rfl rfl b (Xu 13 rfl rfl rfl b (Xu 14 rfl rfl rfl b (Xu 15 rfl rfl rfl b (Xn 16 rfl rfl (cB g) b (X 17 rfl b (ic (cB g) rfl) ?_))))))))))))))
    obtain rfl := sj T
    refine jU kr (c0 _ _ ⟨_, (d.gL St), U, M, Y, Z, rfl, o, O, q, rfl⟩)
   rintro E W ⟨G, y, b1, ⟨q, O⟩, d, U, M, Y, Z, o, z⟩
   rw [aB] at z
   refine gV ?_
   obtain rfl := sj z
   exact ⟨_, (d.gL St), U, M, Y, Z⟩
  rintro ⟨l0, a4⟩ E W ⟨c5, d, g2, d1, g3, g4⟩ H
  refine hX (sg (Wh g4 (V (nn rfl) (ln (CI H rfl (fun e4 H => ?_) (fun e4 H => ?_))))))
  ·refine sg (Wh d1 (Wa (ln ?_)))
   replace d := d.gL (Db St)
   refine iD (iK (jD (iK (jD (iK ?_)))))
   obtain rfl := sj H
   exact iS (v := x) rfl rfl ⟨_, u, rfl, d.kz (fun p hq => (Ml hq)) J.nd, J⟩
  refine kn (gZ (Wh d1 (V (gM g3 (gY d.has Mh (gJ a4) rfl aM ae)) (VE (iM (cs := (gJ a4).toArray) d (ml rfl) (lm ap ae aZ) (fun j8 g0 d => ?_))))))
  replace d := d.perm (Nr (Qb (Qb Qz)) Nz)
  refine bS H fun i9 e5 H => VE (km (enc := gJ) (v := x) (vs := (.slice (some ⟨g0, 0, none⟩) 1 1)) (R := u) d iN dc jY ap kY.1 kY.2.1 rfl kY.2.2.1 kY.2.2.2 rfl rfl J (Sl.lit (enc := gJ) (l := [a4]) iN rfl nb rfl (d.at_ (Ma Mh))) e5 (fun j9 j4 f9 d e3 => Wa (ig (iJ (gV ?_)))))
  replace d := d.gL (Kr (Db (Db St)))
  exact ⟨j0, bq _, j4, i9, f9, _, (d.gL St), g2, rfl, e3, H⟩
theorem w8 (u : Value) (N : List gG) (M : gI) (r : Bool) (w : World) (H : Sl (Pl gJ) 9 (hp w) u N) (hm : oK N M = some r) :
  iG false pg0 5 [u, (.agg (gS M).toArray)] w (.bool r) := by
 refine cG 84 func5 rfl (fun b => sg (VE (iU b rfl (fun W2 m b => Wa (lS (bS hm fun r3 g4 hm => VE (Eg b call10 (Ar  _ _  g4) (fun W5 b => V (nn rfl) (ln ?_)))))))))
 refine CI hm rfl (fun g3 hm => ?_) (fun g3 hm => ?_)
 ·refine sg (Wa (ln ?_))
  replace b := b.gL (Db St)
  refine iD (iK ?_)
  obtain rfl := sj hm
  exact rP b
 refine kS (Wm (bS hm fun r7 g5 hm => VE (Eg b call11 (iG.jH (AH u N _ _ (H.mono (Pl.mono _) b.iL) g5)) (fun W9 b => Wi rfl (Wm (LJ hm (fun c6 E W => ∃ e0, ST false iE w W (hp w) ((m, Ol (gS M) 38) :: e0) ∧ E 0 = u ∧ E 3 = (.pointer (some ⟨m, 0, none⟩)) ∧ E 32 = (.bool c6)) 15 ?_ (fun c6 G a4 => ?_)))))))
 ·rintro i9 E W ⟨e0, b, e1, g1, g2⟩ y
  refine ln (CI y g2 (fun f2 y => ?_) (fun f2 y => ?_))
  ·refine sg (Wa (ln ?_))
   replace b := b.gL (Db St)
   refine iD (iK ?_)
   obtain rfl := sj y
   exact rP b
  refine kg (Wa (lS (Wh e1 (bS y fun c1 f5 y => VE (nt b call12 (qe u N _ _ (H.mono (Pl.mono _) b.iL) f5) (fun i5 g7 g8 g0 b I a1 Q => V (jf cA rfl Q) (Wm ?_)))))))
  refine ln (iZ (fun i E W => ∃ d n, (E 36 = .int .i64 (i : Nat) ∧ E 35 = .int .i64 (c1.length : Nat)) ∧ ST false iE w W g8 ((m, Ol (gS M) 38) :: (g0 ++ n)) ∧ E 0 = u ∧ E 3 = (.pointer (some ⟨m, 0, none⟩)) ∧ E 5 = (.int .i64 d) ∧ E 34 = g7 ∧ kl N M (c1.drop i) d = some r) c1.length Q.len ⟨0, _, ⟨rfl, rfl⟩, (b.gL (Sb (Pr Pz) St)), e1, g1, rfl, rfl, y⟩ dc dc dc (fun _ _ _ h => by obtain ⟨_, _, v, _⟩ := h; exact v) ?_ ?_)
  ·rintro g6 E W f3 ⟨d, n, ⟨s, eN⟩, b, J, l, o, q, k⟩
   obtain ⟨a5, i3, f6, b9, f7⟩ := iP f3
   rw [f6] at k
   refine bg (VQ (jo (i := (g6 : Int)) (x0 := a5) cA bI q s Q (aw _) b9) (fun i8 f4 => V (gM rfl (kD b.has (fun p hq => (Mt (Ml hq))) Q pE f4 b9 ey bI)) (VE (jc b cM (fun i6 i7 b => VO (iw (.agg (gX a5).toArray) ((gX a5).toArray) b rfl rfl bI (mj a5) nb rfl (fun h1 b => ln (gZ (Wh o (Wf wG (VB b Mh rfl rfl bV (Wi rfl (Wa ?_)))))))))))))
   refine ig (iJ (gV ?_))
   replace b := b.gL (Db St)
   exact ⟨s, (wi0 .i64 (d + a5.lG)), _, ⟨rfl, eN⟩, (b.gL St), J, l, rfl, q, (by rw [f7]; exact k)⟩
  rintro E W ⟨d, n, ⟨s, eN⟩, b, J, l, o, q, k⟩
  rw [aB] at k
  refine gV ?_
  replace b := b.gL (Kb (Dr St))
  refine sg (Wh J (V (gM l (gY b.has Mh (gS M) rfl cz aX)) (bS k fun c0 d5 k => ?_)))
  refine VE (wk b (cW _) call22 (fun _ _ _ _ => (BH u N M _ _ (H.mono (Pl.mono _) (I.trans b.iL)) d5)) (fun h2 h8 i4 g9 b K A O c9 => ?_) (L0 := []))
  obtain ⟨f9, e2, T, rfl, d9⟩ := c9
  replace T := T.symm; subst T
  replace b := b.perm (Tr Tn)
  refine Wm (Wx rfl (Wx rfl (Wa (Wa (lr (Wh J (V (gM l (gY b.has (Ma Mh) (gS M) rfl cz aX)) (bS k fun f8 d6 k => VE (Eg b call18 (wQ u N M _ _ (H.mono (Pl.mono _) ((I.trans K).trans b.iL)) d6) (fun h3 b => Wm (Wx rfl ?_)))))))))))
  refine Wx rfl (Wa (Wa (ln ?_)))
  replace b := b.gL (Kr (Db St))
  refine sg (Wh o (Wh J (bS k fun h6 d7 k => VE (nt b call23 (iY.jH (BY u N _ _ (H.mono (Pl.mono _) ((I.trans K).trans b.iL)) d7)) (fun h4 h9 U h0 b b8 L d0 => V (jf ap rfl d0) (Wi rfl (Wm (LJ k (fun c5 E W => ∃ P, ST false iE w W U (e2 ++ P) ∧ E 0 = u ∧ E 8 = f9 ∧ E 9 = (.bool c0.2) ∧ E 10 = (.int .i64 f8.1) ∧ E 66 = (.bool c5)) 4 ?_ (fun c5 D a3 => ?_)))))))))
  ·rintro c7 E W ⟨P, b, e3, e4, e5, b4, e6⟩ d1
   refine Wh e6 (LJ d1 (fun c2 E W => ∃ a9, ST false iE w W U a9 ∧ E 83 = (.bool c2)) 16 ?_ (fun c2 z Y => ?_))
   ·rintro i0 E W ⟨a9, b, e7⟩ d2
    exact Wg e7 (lt (rQ d2 b))
   refine bC z (fun g z => ?_) (fun g z => ?_)
   ·refine ug g (gW e5) (ug g (nn rfl) (ug g (gW rfl) (LJ z (fun c3 E W => ∃ R, ST false iE w W U R ∧ E 67 = (.bool c7) ∧ E 82 = (.bool c3)) 12 ?_ (fun c3 B Z => ?_))))
    ·rintro i1 E W ⟨R, b, e8, e9⟩ d3
     refine V (ie (e8.trans (cB g)) e9) ?_
     obtain rfl := sj d3
     exact Y _ _ ⟨_, (b.gL St), rfl⟩
    refine bC B (fun c B => ?_) (fun c B => ?_)
    ·refine un c (un c (un c (un c (un c (un c (Vu rfl rfl (Vu rfl rfl (Vu rfl rfl (Vu rfl rfl (un c (ug g (ie (cB c) rfl) ?_)))))))))))
     obtain rfl := sj B
     exact Z _ _ ⟨_, (b.gL (Dr St)), rfl, rfl⟩
    refine ug c (gW e4) (ug c (jf bd rfl d9) (ug c (gW b4) (ug c (jz rfl rfl rfl) (ug c (jz rfl rfl rfl) (ug c (gW rfl) (LJ B (fun c4 E W => ∃ b2, ST false iE w W U b2 ∧ E 67 = (.bool c7) ∧ E 70 = (.bool (!c0.2)) ∧ E 81 = (.bool c4)) 5 ?_ (fun c4 x a2 => ?_)))))))
    ·rintro i2 E W ⟨b2, b, b5, f0, f1⟩ d4
     refine Vg rfl (b5.trans (cB g)) (ic (f0.trans (cB c)) f1) ?_
     obtain rfl := sj d4
     exact Z _ _ ⟨_, (b.gL St), b5, rfl⟩
    refine bC x (fun j x => ?_) (fun j x => ?_)
    ·refine ug j (gW e3) (bS x fun h7 d8 x => qN j (Eg b call20 (w5 u N _ _ (H.mono (Pl.mono _) (((I.trans K).trans b8).trans b.iL)) d8) (fun h5 b => ug j (gW b4) (ug j (jz rfl rfl rfl) (ug c (ie (cB j) rfl) ?_)))))
     obtain rfl := sj x
     exact a2 _ _ ⟨_, (b.gL (Dr St)), rfl, rfl, rfl⟩
    refine un j (un j (un j (un j (ug c (ic (cB j) rfl) ?_))))
    obtain rfl := sj x
    exact a2 _ _ ⟨_, (b.gL (Dr St)), rfl, rfl, rfl⟩
   refine un g (un g (un g (Vu rfl rfl (Vu rfl rfl (Vu rfl rfl (Vu rfl rfl (Vu rfl rfl (Vu rfl rfl (Vu rfl rfl (Vu rfl rfl (Vu rfl rfl (Vu rfl rfl (Vu rfl rfl (un g ?_))))))))))))))
   refine V (ic (cB g) rfl) ?_
   obtain rfl := sj z
   exact Y _ _ ⟨_, (b.gL (Dr St)), rfl⟩
  refine bC D (fun t D => ?_) (fun t D => ?_)
  ·refine ug t (gW rfl) (ug t (gW rfl) (ug t (Gr underlying4 rfl rfl rfl) (V (ie (cB t) rfl) ?_)))
   obtain rfl := sj D
   exact a3 _ _ ⟨_, (b.gL (Dr St)), J, rfl, rfl, rfl, rfl⟩
  refine un t (un t (un t (V (ic (cB t) rfl) ?_)))
  obtain rfl := sj D
  exact a3 _ _ ⟨_, (b.gL (Dr St)), J, rfl, rfl, rfl, rfl⟩
 refine bC G (fun a G => ?_) (fun a G => ?_)
 ·refine un a (un a (un a (un a (un a (un a (un a (un a (un a (un a (un a (un a (un a (un a (V (ie (cB a) rfl) ?_))))))))))))))
  obtain rfl := sj G
  exact a4 _ _ ⟨_, (b.gL St), rfl, rfl, rfl⟩
 refine ug a (gQ pv rfl) (ug a (gM rfl (ia b.has Mh rfl aI)) (ug a (lC aS rfl) (ug a (gQ tW rfl) (ug a (gQ kJ rfl) (ug a (gM rfl (ia b.has Mh rfl aI)) (ug a (lC aS rfl) (ug a (jz rfl rfl rfl) (ug a (gQ tW rfl) (ug a (gQ pw rfl) (ug a (gM rfl (ia b.has Mh rfl aI)) (ug a (lC aS rfl) (ug a (jz rfl rfl rfl) (ug a (jz rfl rfl rfl) (V (ic (cB a) rfl) ?_))))))))))))))
 obtain rfl := sj G
 exact a4 _ _ ⟨_, (b.gL St), rfl, rfl, rfl⟩
end Go.Proofs.YtbnbdigcbldfhaaGreat
