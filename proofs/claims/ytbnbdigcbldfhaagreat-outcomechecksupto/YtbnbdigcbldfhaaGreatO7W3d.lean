/- a part of a proof of OutcomeChecks -/
import Derived.Test.YtbnbdigcbldfhaaGreatO7W2d
set_option linter.all false
namespace Go.Proofs.YtbnbdigcbldfhaaGreat
open Go.RowKit
set_option maxRecDepth 10000
open Tryz
theorem Jq (k : Value) (M : List iV) (t : iS) (K : Value) (Y : List ByteArray) (H : ByteArray) (r : Bool) (w : World) (G : Sl (Pl je) 3 (hp w) k M) (T : Sl (Pl lE) 1 (hp w) K Y) (hm : vC M t Y H = some r) :
  jv true Tryz.prog 65 [k, (.agg (iX t).toArray), K, (.string H)] w (.bool r) := by
 refine cG 62 func65 rfl (fun d => sg (VE (jF d rfl (fun W2 m d => Wa (lS (Wf mT (VB d Mh rfl rfl bF (Wi rfl (ln ?_)))))))))
 refine CI hm rfl (fun d0 hm => ?_) (fun d0 hm => ?_)
 ·refine sg (Wf rz (VB d Mh rfl rfl aH (Wm (V (tZ rfl rfl rfl) (Wa (ln ?_))))))
  replace d := d.iU (Db St)
  refine jz (jx ?_)
  obtain rfl := sj hm
  exact rP d
 refine kS (Wf mT (VB d Mh rfl rfl bF (Wi rfl (ln (CI hm rfl (fun d1 hm => ?_) (fun d1 hm => ?_))))))
 ·refine sg (Wm (Wf kK (VA d Mh (iT t.B) an ag (Wm (bS hm fun r5 d3 hm => VE (Eg d call63 (uy k M t.B H _ _ (G.mono (Pl.mono _) d.jf) d3) (fun W7 d => Wa (ln ?_))))))))
  replace d := d.iU (Db St)
  refine jz (jx ?_)
  obtain rfl := sj hm
  exact rP d
 refine kS (Wf mT (VB d Mh rfl rfl bF (Wi rfl (ln (CI hm rfl (fun d2 hm => ?_) (fun d2 hm => ?_))))))
 ·refine sg (Wm (Wf kK (VA d Mh (iT t.B) an ag (Wm (bS hm fun r9 c7 hm => VE (Eg d call63 (uy k M t.B H _ _ (G.mono (Pl.mono _) d.jf) c7) (fun e1 d => Wm (LJ hm (fun s E W => ∃ q, ST true jD w W (hp w) q ∧ E 8 = (.bool false) ∧ E 40 = (.bool s)) 6 ?_ (fun s u U => ?_)))))))))
  ·rintro e5 E W ⟨q, d, e3, c9⟩ c6
   refine Wg c9 (lt (jx ?_))
   obtain rfl := sj c6
   exact rP d
  refine bC u (fun c u => ?_) (fun c u => ?_)
  ·refine ug c (jd rfl) (ug c (iY oh rfl) (ug c (iW rfl (jc d.has Mh (iT t.C) rfl an ag)) (ug c (jd rfl) (bS u fun e4 c8 u => oH c (Eg d call63 (uy k M t.C H _ _ (G.mono (Pl.mono _) d.jf) c8) (fun e2 d => V (jq (cB c) rfl) ?_))))))
   obtain rfl := sj u
   exact U _ _ ⟨_, (d.iU (Db St)), rfl, rfl⟩
  refine un c (un c (un c (un c (un c (V (jn (cB c) rfl) ?_)))))
  obtain rfl := sj u
  exact U _ _ ⟨_, (d.iU (Db St)), rfl, rfl⟩
 refine kS (Wm (V (jO aT rfl T) (Wm (ln (jG (fun i E W => ∃ Q, (E 43 = .int .i64 (i : Nat) ∧ E 42 = .int .i64 (Y.length : Nat)) ∧ ST true jD w W (hp w) ((m, Ol (iX t) 108) :: Q) ∧ E 0 = k ∧ E 3 = (.string H) ∧ E 5 = (.pointer (some ⟨m, 0, none⟩)) ∧ E 41 = K ∧ tm M t H (Y.drop i) = some r) Y.length T.len ⟨_, ⟨rfl, rfl⟩, (d.iU St), rfl, rfl, rfl, rfl, hm⟩ dc dc dc (fun _ _ _ h => by obtain ⟨_, o, _⟩ := h; exact o) ?_ ?_)))))
 ·rintro a4 E W L ⟨Q, ⟨n, p⟩, d, B, I, D, J, g⟩
  obtain ⟨z, d4, b4, b3, b5⟩ := jB L
  rw [b4] at g
  refine bg (VQ (kk (enc := lE) (i := (a4 : Int)) (x0 := z) aT cx J n T (ah _) b3) (fun d7 a9 => V (iW rfl (lC d.has (y := (.string z)) a9 aH)) (Wa (lr (Wh B (V (iY kK D) (VA d Mh (iT t.B) an ag (Wm (bS g fun d8 P g => ?_)))))))))
  refine VE (Eg d call63 (uy k M t.B z _ _ (G.mono (Pl.mono _) d.jf) P) (fun d5 d => Wm (LJ g (fun a5 E W => ∃ Z, ST true jD w W (hp w) ((m, Ol (iX t) 108) :: Z) ∧ E 0 = k ∧ E 3 = (.string H) ∧ E 5 = (.pointer (some ⟨m, 0, none⟩)) ∧ E 41 = K ∧ E 42 = (.int .i64 (Y.length : Int)) ∧ E 43 = (.int .i64 (a4 : Int)) ∧ E 60 = (.bool a5)) 8 ?_ (fun a5 j N => ?_))))
  ·rintro e0 E W ⟨Z, d, b9, c0, c1, c2, c3, c4, c5⟩ x
   refine ln (CI x c5 (fun A x => ?_) (fun A x => ?_))
   ·refine sg (Wa (ln ?_))
    replace d := d.iU (Db St)
    refine jz (ko (jx (ko (jx ?_))))
    obtain rfl := sj x
    exact rP d
   exact jJ (jI (jb ⟨c4, _, ⟨rfl, c3⟩, (d.iU St), b9, c0, c1, c2, (by rw [b5]; exact x)⟩))
  refine bC j (fun a j => ?_) (fun a j => ?_)
  ·refine ug a (jd B) (ug a (jd rfl) (ug a (iY pZ D) (ug a (iW rfl (jg d.has Mh rfl aH)) (ug a (kT (v := (.agg (iT (⟨z, t.jU⟩ : iR)).toArray)) (nz rfl rfl) (ku bo bB (DE _ bB) kr)) (ug a (jd I) (bS j fun d9 R j => oH a (Eg d call63 (uy k M (⟨z, t.jU⟩ : iR) H _ _ (G.mono (Pl.mono _) d.jf) R) (fun d6 d => V (jq (cB a) rfl) ?_))))))))
   obtain rfl := sj j
   exact N _ _ ⟨_, (d.iU St), B, I, D, J, p, n, rfl⟩
  refine un a (un a (un a (un a (un a (un a (un a (V (jn (cB a) rfl) ?_)))))))
  obtain rfl := sj j
  exact N _ _ ⟨_, (d.iU St), B, I, D, J, p, n, rfl⟩
 rintro E W ⟨Q, ⟨n, p⟩, d, B, I, D, J, g⟩
 rw [ai] at g
 refine jb ?_
 replace d := d.iU (Db St)
 exact sg (Wa (lt (rQ g d)))
theorem FP (i : jk) (t : Value) (N : List iV) (r : Bool) (w : World) (I : Sl (Pl je) 3 (hp w) t N) (hm : vl i N = some r) :
  jv true Tryz.prog 147 [(.agg (ji i).toArray), t] w (.bool r) := by
 refine cG 28 func147 rfl (fun h => sg (VE (jF h rfl (fun W2 n h => Wa (ln (jm ?_))))))
 replace h := h.drew
 have d := h.has.iU (Kb Sn)
 refine jV d jE (X 0 rfl d (iY uX rfl) (XH 1 rfl d (fun _ m => iW rfl (jc m Mh (iX i.iS) rfl aS ak)) (bS hm fun b5 Y hm => XE 2 rfl (Eg h call68 (H3 i.iS _ _  Y) (fun L h => ?_)))))
 have d := h.has.iU (Kb Sn)
 refine ⟨d, (X 3 rfl d (jd rfl) (PJ hm (fun M E W => ∃ z, ST true jD w W (hp w) ((n, Ol (ji i) 140) :: z) ∧ E 1 = t ∧ E 2 = (.pointer (some ⟨n, 0, none⟩)) ∧ E 4 = (.bool false) ∧ E 16 = (.bool M)) (bm 24 4095) 12 ?_ (fun M k x => ?_)))⟩
 ·rintro b7 E W ⟨z, h, D, G, H, a4⟩ T
  have d := h.has.iU (Kb Sn)
  refine X 12 rfl d (jd a4) (PJ T (fun K E W => ∃ y B, js (hp w) y ∧ ST true jD w W y ((n, Ol (ji i) 140) :: B) ∧ E 4 = (.bool false) ∧ E 27 = (.bool K)) (bm 24 8388607) 1 ?_ (fun K g u => ?_))
  ·rintro b9 E W ⟨y, B, J, h, b4, a5⟩ U
   have d := h.has.pO J (Kb Sn)
   refine X 23 rfl d (mw a5) (km kr (jb ?_))
   exact jz (rQ U h)
  refine bC g (fun a g => ?_) (fun a g => ?_)
  ·refine Xg 13 rfl rfl (cB a) d (jd D) (Xg 14 rfl rfl (cB a) d (iY uX G) (xz 15 rfl rfl (cB a) d (fun _ m => iW rfl (jc m Mh (iX i.iS) rfl aS ak)) (Xg 16 rfl rfl (cB a) d (jd D) (Xg 18 rfl rfl (cB a) d (iY od G) (Xg 19 rfl rfl (cB a) d (iY pU rfl) (xz 20 rfl rfl (cB a) d (fun _ m => iW rfl (jg m Mh rfl aH)) (bS g fun q Z g => Hv 17 rfl rfl (cB a) (pT h call199 (HY t N _ _ (I.mono (Pl.mono _) h.jf) Z) (fun P s v a9 h j p Q => ?_)))))))))
   have d := h.has.pO j (Dr (Kb Sn))
   refine ⟨d, (bS g fun b6 a2 g => Hv 21 rfl rfl (cB a) (Eg h call65 (Jq t N i.iS s q i.iV.jA _ _ (I.mono (Pl.mono _) (j.trans h.jf)) (Q.sl (fun _ => rfl) (fun b o A => h.at_ (Ml A))) a2) (fun R h => ?_)))⟩
   have d := h.has.pO j (Dr (Kb Sn))
   refine ⟨d, (X 22 rfl d (jq (cB a) rfl) ?_)⟩
   obtain rfl := sj g
   refine tW kr (u _ _ ⟨v, _, j, (h.iU (Dr St)), H, rfl⟩)
  refine Xn 13 rfl rfl (cB a) d (Xn 14 rfl rfl (cB a) d (Xn 15 rfl rfl (cB a) d (Xn 16 rfl rfl (cB a) d (Xn 17 rfl rfl (cB a) d (Xn 18 rfl rfl (cB a) d (Xn 19 rfl rfl (cB a) d (Xn 20 rfl rfl (cB a) d (Xn 21 rfl rfl (cB a) d (X 22 rfl d (jn (cB a) rfl) ?_)))))))))
  obtain rfl := sj g
  refine tW kr (u _ _ ⟨(hp w), _, (js.refl _), (h.iU St), H, rfl⟩)
 refine bC k (fun c k => ?_) (fun c k => ?_)
 ·refine Xg 4 rfl rfl (cB c) d (iY od rfl) (Xg 5 rfl rfl (cB c) d (iY vB rfl) (xz 6 rfl rfl (cB c) d (fun _ m => iW rfl (jc m Mh (iT i.iV.iR) rfl an ag)) (Xg 7 rfl rfl (cB c) d (iY uX rfl) (Xg 8 rfl rfl (cB c) d (iY mY rfl) (xz 9 rfl rfl (cB c) d (fun _ m => iW rfl (jc m Mh (iT i.iS.Head) rfl an ag)) (Xg 10 rfl rfl (cB c) d (rn rfl rfl (kV bT) (nE (me _ i.iV.iR i.iS.Head))) (X 11 rfl d (jq (cB c) rfl) ?_)))))))
  obtain rfl := sj k
  refine tW kr (x _ _ ⟨_, (h.iU St), rfl, rfl, rfl, rfl⟩)
 refine Xn 4 rfl rfl (cB c) d (Xn 5 rfl rfl (cB c) d (Xn 6 rfl rfl (cB c) d (Xn 7 rfl rfl (cB c) d (Xn 8 rfl rfl (cB c) d (Xn 9 rfl rfl (cB c) d (Xn 10 rfl rfl (cB c) d (X 11 rfl d (jn (cB c) rfl) ?_)))))))
 obtain rfl := sj k
 refine tW kr (x _ _ ⟨_, (h.iU St), rfl, rfl, rfl, rfl⟩)
theorem HN (z : Value) (H : List jk) (K : Value) (q : List iS) (N : iV) (r : (Int × Int)) (w : World) (y : Sl (Pl ji) 12 (hp w) z H) (d7 : Sl (Pl iX) 9 (hp w) K q) (hm : zc H q N = some r) :
  jv true Tryz.prog 82 [z, K, (.agg (je N).toArray)] w (.tuple #[(.int .i64 r.1), (.int .i64 r.2)]) := by
 let a0 : Value := (.int .i64 (H.length : Int))
 refine cG 45 func82 rfl (fun d => sg (VE (jF d rfl (fun W2 s d => Wa (Wa (lS (Wm (V (jO au rfl y) (Wm (jC ?_))))))))))
 refine jb (jG (fun i E W => ∃ G a3, (E 12 = .int .i64 (i : Nat) ∧ E 11 = .int .i64 (H.length : Nat)) ∧ js (hp w) G ∧ ST true jD w W G ((s, Ol (je N) 38) :: a3) ∧ E 0 = z ∧ E 1 = K ∧ E 5 = (.pointer (some ⟨s, 0, none⟩)) ∧ E 10 = z ∧ qH q H N (H.drop i) i = some r) H.length y.len ⟨(hp w), _, ⟨rfl, rfl⟩, (js.refl _), (d.iU St), rfl, rfl, rfl, rfl, hm⟩ dc dc dc (fun _ _ _ h => by obtain ⟨_, _, L, _⟩ := h; exact L) ?_ ?_)
 ·rintro D E W b7 ⟨G, a3, ⟨p, P⟩, k, d, x, Q, I, T, c⟩
  let a2 : Value := (.int .i64 (D : Int))
  obtain ⟨t, e9, c4, c3, c5⟩ := jB b7
  rw [c4] at c
  refine bg (Wh p (VQ (kk (enc := ji) (i := (D : Int)) (x0 := t) au aV T p (y.mono (Pl.mono _) k) (ah _) c3) (fun f5 b9 => V (iW rfl (jX d.has b9 da aV)) (VE (jK d cu (fun f1 c8 d => Wa (VO (jy (.agg (ji t).toArray) ((ji t).toArray) d rfl rfl aV (qb t) nb rfl (fun f2 d => ln (jm ?_))))))))))
  replace d := d.drew
  have m := d.has.iU (Kb Sn)
  refine jV m jE (X 0 rfl m (jd Q) (X 1 rfl m (iY uX rfl) (XH 2 rfl m (fun _ n => iW rfl (jc n Mh (iX t.iS) rfl aS ak)) (bS c fun f6 c0 c => XE 3 rfl (Eg d call146 (JY K q t.iS _ _ (d7.mono (Pl.mono _) (k.trans d.jf)) c0) (fun f3 d => ?_))))))
  have m := d.has.iU (Kb Sn)
  refine ⟨m, (X 4 rfl m (lj rfl) (X 5 rfl m (jd rfl) (PJ c (fun b3 E W => ∃ U a5, js G U ∧ ST true jD w W U ((c8, Ol (ji t) 140) :: ((s, Ol (je N) 38) :: a5)) ∧ E 0 = z ∧ E 1 = K ∧ E 5 = (.pointer (some ⟨s, 0, none⟩)) ∧ E 8 = a2 ∧ E 10 = z ∧ E 11 = a0 ∧ E 12 = a2 ∧ E 30 = (.bool b3)) (bm 14 16383) 0 ?_ (fun b3 g Z => ?_))))⟩
  ·rintro f7 E W ⟨U, a5, Y, d, c9, d0, d1, d2, d3, d4, d5, d6⟩ B
   refine km kr (jb ?_)
   replace d := d.iU (Db St)
   refine CI B d6 (fun b6 B => ?_) (fun b6 B => ?_)
   ·refine sg (Wh d2 (Wa (Wa (ln ?_))))
    replace d := d.iU (Db St)
    refine jz (ko (jx (ko (jx ?_))))
    obtain rfl := sj B
    exact pq (v := a2) (u := (.int .i64 50)) rfl rfl rfl ⟨rfl, d.ex⟩
   exact jJ (jI (jb ⟨d5, U, _, ⟨rfl, d4⟩, (k.trans Y), (d.iU St), c9, d0, d1, d3, (by rw [c5]; exact B)⟩))
  refine bC g (fun a g => ?_) (fun a g => ?_)
  ·refine Xn 6 rfl rfl (cB a) m (Xn 7 rfl rfl (cB a) m (Xn 8 rfl rfl (cB a) m (Xn 9 rfl rfl (cB a) m (Xn 10 rfl rfl (cB a) m (Xn 11 rfl rfl (cB a) m (Xn 12 rfl rfl (cB a) m (X 13 rfl m (jq (cB a) rfl) ?_)))))))
   obtain rfl := sj g
   refine tW kr (Z _ _ ⟨G, _, (js.refl _), (d.iU St), x, Q, I, rfl, T, P, p, rfl⟩)
  refine xz 6 rfl rfl (cB a) m (fun _ n => iW rfl (jc n Mh (ji t) rfl da aV)) (Xg 7 rfl rfl (cB a) m (jd x) (Xg 8 rfl rfl (cB a) m (jd rfl) (bS g fun _ a4 g => Ls 9 rfl kr (.inr ⟨5, false, 22, rfl, rfl, by decide, (cB a)⟩) rfl dc (fun _ _ h => h) m (Gh (j := (D : Int)) au aV rfl rfl (y.mono (Pl.mono _) k) (pc a4) (oZ a4)) (fun d9 c2 => bS g fun d8 c1 g => Hv 10 rfl rfl (cB a) (pT d call83 (za d9 (H.take (Int.toNat (D : Int))) _ _ (c2.1.mono (Pl.mono _) d.jf) c1) (fun f4 e0 e1 e2 d J R a6 => ?_))))))
  have m := d.has.pO J (Dr (Kb Sn))
  refine ⟨m, (bS g fun e7 a9 g => Hv 11 rfl rfl (cB a) (Eg d call147 (FP t e0 d8 _ _ (a6.sl lJ (fun b o hq => d.at_ (Ml hq))) a9) (fun e4 d => ?_)))⟩
  have m := d.has.pO J (Dr (Kb Sn))
  refine ⟨m, (Xg 12 rfl rfl (cB a) m (lj rfl) (X 13 rfl m (jn (cB a) rfl) ?_))⟩
  obtain rfl := sj g
  refine tW kr (Z _ _ ⟨e1, _, J, (d.iU (Dr St)), x, Q, I, rfl, T, P, p, rfl⟩)
 rintro E W ⟨G, a3, ⟨p, P⟩, k, d, x, Q, I, T, c⟩
 rw [ai] at c
 refine jb (jm (jm ?_))
 replace d := d.drew
 have m := d.has.iU (Kb Sn)
 refine jV m jE (X 0 rfl m (jd x) (X 2 rfl m (iY vB I) (XH 3 rfl m (fun _ n => iW rfl (jc n Mh (iT N.iR) rfl an ag)) (X 4 rfl m (iY pU I) (XH 5 rfl m (fun _ n => iW rfl (jg n Mh rfl aH)) (bS c fun c6 b0 c => XE 1 rfl (pT d call83 (za z H _ _ (y.mono (Pl.mono _) (k.trans d.jf)) b0) (fun e5 c7 f0 e3 d M A a7 => ?_))))))))
 have m := d.has.pO M (Dr (Kb Sn))
 refine ⟨m, (bS c fun e8 b2 c => XE 6 rfl (Eg d call63 (uy c7 c6 N.iR N.jA _ _ (a7.sl lJ (fun b o hq => d.at_ (Ml hq))) b2) (fun e6 d => ?_)))⟩
 have m := d.has.pO M (Dr (Kb Sn))
 refine ⟨m, (X 7 rfl m (lj rfl) (km kr (jb ?_)))⟩
 replace d := d.iU (Dr (Db St))
 refine CI c rfl (fun a8 c => ?_) (fun a8 c => ?_)
 ·refine sg (Wh x (V (jO au rfl y) (Wa (Wa (lt (jx ?_))))))
  obtain rfl := sj c
  exact pq (v := a0) (u := (.int .i64 42)) rfl rfl rfl ⟨rfl, d.ex⟩
 refine kg (Wh x (V (jO au rfl y) (Wa (Wa (lt ?_)))))
 obtain rfl := sj c
 exact pq (v := a0) (u := (.int .i64 0)) rfl rfl rfl ⟨rfl, d.ex⟩
theorem HT (g : jP) (D B J : Value) (p : List iS) (k : Formula) (H : Value) (Y : ByteArray) (r : Int) (w : World) (c : Sl (Pl iT) 2 (hp w) D g.jL) (u : Sl (Pl ji) 12 (hp w) B g.jQ) (d0 : Sl (Pl iX) 9 (hp w) J p) (y : Sl ju 5 (hp w) H k.Kids) (hm : wU g p k Y = some r) :
  jv false Tryz.prog 32 [(.agg #[(.int .i64 g.State), (.int .i64 g.mq), D, B]), J, (.agg #[(.int .i64 k.Op), (.int .i64 k.K), (.string k.iR.ja), (.string k.iR.jt), H]), (.string Y)] w (.int .i64 r) := by
 refine cG 51 func32 rfl (fun d => sg ?_)
 obtain ⟨Z, c2, rfl⟩ := c.form
 obtain ⟨A3, q, rfl⟩ := u.form
 let a0 := (C2 g.State g.mq Z g.jL.length c2 A3 g.jQ.length q)
 refine VE (jF d rfl (fun W6 n d => ?_))
 obtain ⟨A7, s, rfl⟩ := y.form
 let a2 := (C1 k.Op k.K k.iR.ja k.iR.jt A7 k.Kids.length s)
 refine VE (jF d rfl (fun f4 b9 d => Wa (lS (Wf zY (VB d (Mt Mh) rfl rfl bF (Wi rfl (ln (CI hm rfl (fun d1 hm => ?_) (fun d1 hm => ?_)))))))))
 ·refine sg (Wa (ln ?_))
  replace d := d.iU (Db (Db St))
  refine jz (jx ?_)
  obtain rfl := sj hm
  exact rP d
 refine kS (VA d Mh a2 bG aP (bS hm fun f7 d4 hm => VE (Eg d call29 (H5 k (.slice A7 k.Kids.length s) _ _ (y.mono ky.mono d.jf) d4) (fun f5 d => V (lj rfl) (Wm (LJ hm (fun b0 E W => ∃ c7, ST false jD w W (hp w) ((n, Ol a0 64) :: c7) ∧ E 1 = J ∧ E 3 = (.string Y) ∧ E 4 = (.pointer (some ⟨n, 0, none⟩)) ∧ E 25 = (.bool b0)) 6 ?_ (fun b0 x M => ?_)))))))
 ·rintro f9 E W ⟨c7, d, e0, e1, a9, e2⟩ t
  refine ln (CI t e2 (fun d2 t => ?_) (fun d2 t => ?_))
  ·refine sg (Wa (ln ?_))
   replace d := d.iU (Db St)
   refine jz (jx ?_)
   obtain rfl := sj t
   exact rP d
  refine kS (V (iY ui a9) (VB d Mh rfl rfl eF (Wh e0 (V (kT (v := (.agg (je K7).toArray)) uo (ku bW bl (Be _ bl) kr)) (bS t fun f8 d5 t => VE (Eg d call82 (jv.kw (HN (.slice A3 g.jQ.length q) g.jQ J p K7 _ _ (u.mono (Pl.mono _) d.jf) (d0.mono (Pl.mono _) d.jf) d5)) (fun f6 d => Wm (Wx rfl (Wx rfl (Wa ?_))))))))))
  refine Wa (lr (Wm (Wi rfl (ln (CI t rfl (fun d3 t => ?_) (fun d3 t => ?_))))))
  ·refine sg (Wa (ln ?_))
   replace d := d.iU (Db St)
   refine jz (jx ?_)
   obtain rfl := sj t
   exact rP d
  refine kS (V (iY rM a9) (VB d Mh rfl rfl dK (V (jO al rfl c) (Wm (ln (jG (fun i E W => ∃ K N, (E 39 = .int .i64 (i : Nat) ∧ E 38 = .int .i64 (g.jL.length : Nat)) ∧ js (hp w) K ∧ ST false jD w W K ((n, Ol a0 64) :: N) ∧ E 3 = (.string Y) ∧ E 4 = (.pointer (some ⟨n, 0, none⟩)) ∧ E 37 = (.slice Z g.jL.length c2) ∧ sw g Y (g.jL.drop i) = some r) g.jL.length c.len ⟨(hp w), _, ⟨rfl, rfl⟩, (js.refl _), (d.iU St), e1, a9, rfl, t⟩ dc dc dc (fun _ _ _ h => by obtain ⟨_, _, L, _⟩ := h; exact L) ?_ ?_))))))
  ·rintro d6 E W b4 ⟨K, N, ⟨A, eN⟩, z, d, Q, T, U, a⟩
   obtain ⟨G, e3, c5, c3, c6⟩ := jB b4
   rw [c5] at a
   refine bg (VQ (kk (enc := iT) (i := (d6 : Int)) (x0 := G) al ag U A (c.mono (Pl.mono _) z) (ah _) c3) (fun f1 b6 => V (iW rfl (jX d.has b6 an ag)) (VE (jK d bo (fun e5 f0 d => VO (jy (.agg (iT G).toArray) ((iT G).toArray) d rfl rfl ag (lh G) nb rfl (fun e6 d => ln (jm ?_))))))))
   replace d := d.drew
   have m := d.has.iU (Kb (Kb Sn))
   refine jV m jE (X 0 rfl m (iY ui T) (XH 1 rfl m (fun _ P => iW rfl (jg P (Mt Mh) rfl eF)) (XH 3 rfl m (fun _ P => iW rfl (jc P Mh (iT G) rfl an ag)) (X 4 rfl m (jd Q) (bS a fun d7 b7 a => XE 2 rfl (pT d call83 (jZ.kw (za (.slice A3 g.jQ.length q) g.jQ _ _ (u.mono (Pl.mono _) (z.trans d.jf)) b7)) (fun e7 d8 d9 e4 d I R b2 => ?_)))))))
   have m := d.has.pO I (Dr (Kb (Kb Sn)))
   refine ⟨m, (bS a fun f2 c0 a => XE 5 rfl (Eg d call63 (jv.kw (uy d8 d7 G Y _ _ (b2.sl lJ (fun b o hq => d.at_ (Ml hq))) c0)) (fun e8 d => ?_)))⟩
   have m := d.has.pO I (Dr (Kb (Kb Sn)))
   refine ⟨m, (X 6 rfl m (lj rfl) (km kr (jb ?_)))⟩
   replace d := d.iU (Dr (Db St))
   refine CI a rfl (fun b3 a => ?_) (fun b3 a => ?_)
   ·refine sg (Wa (ln ?_))
    replace d := d.iU (Db St)
    refine jz (ko (jx (ko (jx ?_))))
    obtain rfl := sj a
    exact rP d
   exact jJ (jI (jb ⟨A, d9, _, ⟨rfl, eN⟩, (z.trans I), (d.iU St), Q, T, U, (by rw [c6]; exact a)⟩))
  rintro E W ⟨K, N, ⟨A, eN⟩, z, d, Q, T, U, a⟩
  rw [ai] at a
  refine jb ?_
  replace d := d.iU (Db St)
  exact sg (Wa (lt (rQ a d)))
 refine bC x (fun j x => ?_) (fun j x => ?_)
 ·refine un j (un j (un j (un j (un j (V (jq (cB j) rfl) ?_)))))
  obtain rfl := sj x
  exact M _ _ ⟨_, (d.iU (Db St)), rfl, rfl, rfl, rfl⟩
 refine ug j (iW rfl (jc d.has Mh a2 rfl bG aP)) (ug j (iY rM rfl) (ug j (iW rfl (jg d.has (Mt Mh) rfl dK)) (bS x fun f3 c1 x => oH j (Eg d call44 ((D2 jM) k (.slice A7 k.Kids.length s) (.slice Z g.jL.length c2) g.jL _ _ (y.mono ky.mono d.jf) (c.mono (Pl.mono _) d.jf) c1) (fun e9 d => ug j (lj rfl) (V (jn (cB j) rfl) ?_))))))
 obtain rfl := sj x
 exact M _ _ ⟨_, (d.iU (Db St)), rfl, rfl, rfl, rfl⟩
theorem BH (a : sK) (G D J H : Value) (r : Bool) (w : World) (g : Sl (Pl iT) 2 (hp w) G a.O.jL) (c : Sl (Pl ji) 12 (hp w) D a.O.jQ) (j : Sl (Pl iX) 9 (hp w) J a.pa) (i : Sl ju 5 (hp w) H a.F.Kids) (hm : pu a = some r) :
  jv false Tryz.prog 7 [(.agg #[(.int .i64 a.O.State), (.int .i64 a.O.mq), G, D, J, (.int .i64 a.F.Op), (.int .i64 a.F.K), (.string a.F.iR.ja), (.string a.F.iR.jt), H, (.string a.rU)])] w (.bool r) := by
 refine cG 47 func7 rfl (fun d => sg ?_)
 obtain ⟨K, N, rfl⟩ := g.form
 let b8 : Value := (.slice K a.O.jL.length N)
 obtain ⟨M, Q, rfl⟩ := c.form
 let c2 : Value := (.slice M a.O.jQ.length Q)
 let n := (C2 a.O.State a.O.mq K a.O.jL.length N M a.O.jQ.length Q)
 obtain ⟨A5, c6, rfl⟩ := j.form
 let a2 : Value := (.slice A5 a.pa.length c6)
 obtain ⟨z, B, rfl⟩ := i.form
 let s : Value := (.slice z a.F.Kids.length B)
 let a0 := (C1 a.F.Op a.F.K a.F.iR.ja a.F.iR.jt z a.F.Kids.length B)
 refine VE (jF d rfl (fun e6 b9 d => Wa (lS (bS hm fun f5 d4 hm => VE (Eg d call24 (HM  _ _  d4) (fun e7 d => V (lj rfl) (ln (CI hm rfl (fun d0 hm => ?_) (fun d0 hm => ?_)))))))))
 ·refine sg (Wa (ln ?_))
  replace d := d.iU (Db St)
  refine jz (jx ?_)
  obtain rfl := sj hm
  exact rP d
 refine kn (jm ?_)
 replace d := d.drew
 have h := d.has.iU (Kb Sn)
 refine jV h jE (X 0 rfl h (iY QF rfl) (XH 1 rfl h (fun _ m => iW rfl (jc m Mh n rfl dq bV)) (X 2 rfl h (iY Q8 rfl) (XH 3 rfl h (fun _ m => iW rfl (jg m Mh rfl iQ)) (X 4 rfl h (iY QD rfl) (XH 5 rfl h (fun _ m => iW rfl (jc m Mh a0 rfl bG aP)) (X 6 rfl h (iY Q2 rfl) (XH 7 rfl h (fun _ m => iW rfl (jg m Mh rfl aH)) (ML 8 9 rfl rfl kr kr kr dc dc rfl rfl d dh cZ (fun W p => (p.iU (Kb Sn))) (fun W p => (p.iU (Kb Sn))) (fun W p => (p.iU (Kb Sn))) (fun e8 U Y d => ?_))))))))))
 refine XO 10 rfl (jy (.agg n.toArray) (n.toArray) d rfl rfl bV oc nb rfl (fun e9 d => ?_))
 have h := d.has.iU (Db (Db (Kb Sn)))
 refine ⟨h, (X 11 rfl h (mw rfl) ?_)⟩
 replace d := d.perm (Nb (Pb Pz) Nz)
 refine XO 12 rfl (jy (.agg a0.toArray) (a0.toArray) d rfl rfl aP oc nb rfl (fun f0 d => ?_))
 have h := d.has.iU (Db (Db (Kb Sn)))
 refine ⟨h, (X 13 rfl h (mw rfl) (km kr (jb ?_)))⟩
 replace d := d.iU (Kb (Kb (Db St)))
 refine jm (sg (VA d (Mt Mh) n dq bV (bS hm fun f6 d5 hm => VE (Eg d call33 (jv.kw (HZ a.O b8 c2 _ _ (g.mono (Pl.mono _) d.jf) (c.mono (Pl.mono _) d.jf) d5)) (fun f1 d => Wi rfl (Wm (LJ hm (fun v E W => ∃ a9, ST false jD w W (hp w) ((Y, Ol a0 57) :: ((U, Ol n 64) :: a9)) ∧ E 3 = (.pointer (some ⟨U, 0, none⟩)) ∧ E 4 = a2 ∧ E 5 = (.pointer (some ⟨Y, 0, none⟩)) ∧ E 6 = (.string a.rU) ∧ E 24 = (.bool v)) 4 ?_ (fun v x Z => ?_))))))))
 ·rintro g0 E W ⟨a9, d, P, R, a5, b4, e0⟩ d2
  refine Wh e0 (LJ d2 (fun c9 E W => ∃ A, ST false jD w W (hp w) ((Y, Ol a0 57) :: ((U, Ol n 64) :: A)) ∧ E 3 = (.pointer (some ⟨U, 0, none⟩)) ∧ E 4 = a2 ∧ E 5 = (.pointer (some ⟨Y, 0, none⟩)) ∧ E 6 = (.string a.rU) ∧ E 30 = (.bool c9)) 5 ?_ (fun c9 I a4 => ?_))
  ·rintro g1 E W ⟨A, d, b5, b6, b7, q, e1⟩ d3
   refine Wh e1 (LJ d3 (fun c7 E W => ∃ L, ST false jD w W (hp w) ((Y, Ol a0 57) :: ((U, Ol n 64) :: L)) ∧ E 3 = (.pointer (some ⟨U, 0, none⟩)) ∧ E 4 = a2 ∧ E 5 = (.pointer (some ⟨Y, 0, none⟩)) ∧ E 6 = (.string a.rU) ∧ E 35 = (.bool c7)) 4 ?_ (fun c7 T a3 => ?_))
   ·rintro g2 E W ⟨L, d, c0, c1, c3, c5, e2⟩ y
    refine ln (CI y e2 (fun d1 y => ?_) (fun d1 y => ?_))
    ·refine sg (Wa (ln ?_))
     replace d := d.iU (Db (Db St))
     refine jz (jx ?_)
     obtain rfl := sj y
     exact rP d
    refine kn (jm ?_)
    replace d := d.drew
    have h := d.has.iU (Kb (Kb Sn))
    refine jV h jE (XH 0 rfl h (fun _ m => iW c0 (jc m (Mt Mh) n rfl dq bV)) (X 1 rfl h (jd c1) (XH 2 rfl h (fun _ m => iW c3 (jc m Mh a0 rfl bG aP)) (X 3 rfl h (jd c5) (XH 5 rfl h (fun _ m => iW c0 (jc m (Mt Mh) n rfl dq bV)) (X 6 rfl h (jd c1) (XH 7 rfl h (fun _ m => iW c3 (jc m Mh a0 rfl bG aP)) (X 8 rfl h (jd c5) (bS y fun f7 d6 y => XE 4 rfl (Eg d call34 (tz a.O b8 c2 a2 a.pa a.F s a.rU _ _ (g.mono (Pl.mono _) d.jf) (c.mono (Pl.mono _) d.jf) (j.mono (Pl.mono _) d.jf) (i.mono ky.mono d.jf) d6) (fun f2 d => ?_)))))))))))
    have h := d.has.iU (Kb (Kb Sn))
    refine ⟨h, (bS y fun f8 d7 y => XE 9 rfl (Eg d call32 (HT a.O b8 c2 a2 a.pa a.F s a.rU _ _ (g.mono (Pl.mono _) d.jf) (c.mono (Pl.mono _) d.jf) (j.mono (Pl.mono _) d.jf) (i.mono ky.mono d.jf) d7) (fun f3 d => ?_)))⟩
    have h := d.has.iU (Kb (Kb Sn))
    refine ⟨h, (X 10 rfl h (kd rfl rfl rfl) (X 11 rfl h (mw rfl) (km kr (jb ?_))))⟩
    exact jz (rQ y d)
   refine bC T (fun u T => ?_) (fun u T => ?_)
   ·refine un u (un u (un u (V (jq (cB u) rfl) ?_)))
    obtain rfl := sj T
    exact a3 _ _ ⟨_, (d.iU St), b5, b6, b7, q, rfl⟩
   refine ug u (jd q) (ug u (mF aU rfl) (ug u (kd rfl rfl rfl) (V (jn (cB u) rfl) ?_)))
   obtain rfl := sj T
   exact a3 _ _ ⟨_, (d.iU St), b5, b6, b7, q, rfl⟩
  refine bC I (fun k I => ?_) (fun k I => ?_)
  ·refine un k (un k (un k (un k (V (jq (cB k) rfl) ?_))))
   obtain rfl := sj I
   exact a4 _ _ ⟨_, (d.iU St), P, R, a5, b4, rfl⟩
  refine ug k (iW a5 (jc d.has Mh a0 rfl bG aP)) (oH k (jS (cs := a0.toArray) d (ma rfl) (lV bx aP cZ) (fun f4 d9 d => bS I fun f9 d8 I => oH k (Eg d call26 ((CZ jM) (.slice (some ⟨d9, 0, none⟩) 1 1) ([a.F]) _ _ ((nu.lit ky (l := [a.F]) (.cons (ys := C1 a.F.Op a.F.K a.F.iR.ja a.F.iR.jt z a.F.Kids.length B) (ju.mk ⟨s, rfl, i⟩) .nil) rfl nb rfl).sl ky d.jf (fun b o hq => (by rw [aC] at hq; cases hq; exact d.at_ Mh))) d8) (fun e3 d => ug k (kd rfl rfl rfl) (V (jn (cB k) rfl) ?_))))))
  obtain rfl := sj I
  exact a4 _ _ ⟨_, (d.iU (Db St)), P, R, a5, b4, rfl⟩
 refine bC x (fun t x => ?_) (fun t x => ?_)
 ·refine un t (un t (un t (V (jq (cB t) rfl) ?_)))
  obtain rfl := sj x
  exact Z _ _ ⟨_, (d.iU St), rfl, rfl, rfl, rfl, rfl⟩
 refine ug t (jd rfl) (bS x fun e5 a8 x => oH t (Eg d call11 (jv.kw (CQ a2 a.pa _ _ (j.mono (Pl.mono _) d.jf) a8)) (fun e4 d => ug t (kd rfl rfl rfl) (V (jn (cB t) rfl) ?_))))
 obtain rfl := sj x
 exact Z _ _ ⟨_, (d.iU St), rfl, rfl, rfl, rfl, rfl⟩
end Go.Proofs.YtbnbdigcbldfhaaGreat
