/- a part of a proof of EagerRests -/
import Derived.Test.YtmlncblocfcmiaaGreatE9W1e
set_option linter.all false
namespace Go.Proofs.YtmlncblocfcmiaaGreat
open Go.RowKit
set_option maxRecDepth 10000
open Tryz
theorem IB (d1 : Value) (a0 : List Formula) (r : (Formula × Int)) (w : World) {μ0 : km} (h0 : ni μ0 [] w) (c7 : Sl jC 5 μ0 d1 a0) (hm : uC a0 = some r) :
  lM false Tryz.prog 213 [d1] w μ0 [] (fun v L1 μ1 => ∃ y1, v = (.tuple #[(.agg #[(.int .i64 ((r.1).Op)), (.int .i64 ((r.1).K)), (.string (((r.1).jB).jF)), (.string (((r.1).jB).jK)), y1]), (.int .i64 (r.2))]) ∧ L1 = [] ∧ Sl jC 5 μ1 y1 ((r.1).Kids)) := by
 let e5 := (a0.drop (Int.toNat 1))
 refine sO h0 36 func213 rfl (fun b => sg (VE (kv b bD (fun W2 A b => Wa (lr (Wm (bS hm fun x6 e3 hm => VQ (mo (i := 0) (x0 := x6) jC.out aF aC rfl rfl c7 (kj e3) (kh e3)) (fun p3 ⟨_, ⟨v8, rfl, f2⟩, f1⟩ => V (jG rfl (kl b.has f1 aS aC)) (bS hm fun j e6 hm => ?_)))))))))
 refine VE (eD b (bT _) call306 (fun hh => (DJ x6 v8 _ _ hh (f2.mono jT.mono (kf.refl _)) e6)) ?_ (L0 := []))
 rintro _ i4 a9 i0 b a4 m ⟨i5, b6, rfl, d0⟩
 obtain rfl := b6.symm
 refine Wm (Wx rfl (Wx rfl (VE (kv b bD (fun i2 F b => ?_)))))
 obtain ⟨c2, c5, rfl⟩ := d0.form
 let d2 : Value := (.slice c2 ((j.1).Kids).length c5)
 refine VO (jY (.agg #[(.int .i64 ((j.1).Op)), (.int .i64 ((j.1).K)), (.string (((j.1).jB).jF)), (.string (((j.1).jB).jK)), d2]) (#[(.int .i64 ((j.1).Op)), (.int .i64 ((j.1).K)), (.string (((j.1).jB).jF)), (.string (((j.1).jB).jK)), d2]) b rfl rfl aC oc nb rfl (fun i3 b => Wa (lS (Wm (bS hm fun _ c8 hm => VQ (DP (i := 1) aF aC rfl rfl (c7.mono jT.mono a4) (rp c8) (ry c8)) (fun f3 R => V (lf aF rfl R.1) (Wm (ln (CJ hm (fun u E W => ∃ q U c3, kf a9 U ∧ Lo (keys []) w a9 U ∧ ST false (keys []) w W U ((F, Ob #[(.int .i64 u.2.1), (.int .i64 u.2.2.1), (.string u.2.2.2.1.jF), (.string u.2.2.2.1.jK), q] 113) :: ((A, Ol C7 113) :: c3)) ∧ E 2 = (.pointer (some ⟨A, 0, none⟩)) ∧ E 4 = (.pointer (some ⟨F, 0, none⟩)) ∧ E 5 = (.int .i64 u.1) ∧ Sl jC 5 U q u.2.2.2.2) (fun u d7 => ?_) ?_)))))))))
 ·refine li (fun i E W => ∃ s G H y x N z O, (E 18 = .int .i64 (i : Nat) ∧ E 17 = .int .i64 (e5.length : Nat)) ∧ kf a9 z ∧ Lo (keys []) w a9 z ∧ ST false (keys []) w W z ((F, Ob #[(.int .i64 G), (.int .i64 H), (.string y.jF), (.string y.jK), x] 113) :: ((A, Ol C7 113) :: O)) ∧ E 2 = (.pointer (some ⟨A, 0, none⟩)) ∧ E 4 = (.pointer (some ⟨F, 0, none⟩)) ∧ E 5 = (.int .i64 s) ∧ E 16 = f3 ∧ Sl jC 5 z x N ∧ sb (e5.drop i) s G H y N = some u) e5.length R.1.len ⟨j.2, ((j.1).Op), ((j.1).K), ((j.1).jB), d2, ((j.1).Kids), a9, _, ⟨rfl, rfl⟩, (kf.refl _), Lo.refl, (b.jE St), rfl, rfl, rfl, rfl, d0, d7⟩ dc dc dc (fun _ _ _ h => by obtain ⟨_, _, _, _, _, _, _, _, aa, _⟩ := h; exact aa) ?_ ?_
  ·rintro e7 E W d6 ⟨s, G, H, y, x, N, z, O, ⟨eI, eN⟩, t, d, b, a2, D, a3, P, I, c⟩
   obtain ⟨a, f6, e1, e0, e2⟩ := kP d6
   rw [e1] at c
   refine bg (VQ (mo (i := (e7 : Int)) (x0 := a) jC.out aF aC P eI (R.1.mono jT.mono t) (aJ _) e0) (fun h1 ⟨_, ⟨h4, rfl, c0⟩, d8⟩ => V (jG rfl (kl b.has d8 aS aC)) (VE (kv b bD (fun g2 g8 b => ?_)))))
   obtain ⟨Y, Z, rfl⟩ := c0.form
   let b8 := (C1 a.Op a.K a.jB.jF a.jB.jK Y a.Kids.length Z)
   refine VO (jY (.agg b8.toArray) (b8.toArray) b rfl rfl aC oc nb rfl (fun g3 b => lS (Wh a3 (Wi rfl (ln (CI c rfl (fun d5 c => ?_) (fun d5 c => ?_)))))))
   ·refine mZ (mI (O3 (by simp) (mI (rf (jQ ?_)))))
    obtain rfl := sj c
    exact ⟨x, z, _, t, d, (b.jE (Db St)), a2, D, a3, I⟩
   refine kn (jW (V (jG D (jO b.has (Mt Mh) [(.int .i64 G), (.int .i64 H), (.string y.jF), (.string y.jK), x] rfl aS aC)) (VA b Mh b8 aS aC (bS c fun g d9 c => ?_))))
   refine VE (eD b (bT _) call307 (fun hh => (GD (⟨G, H, y, N⟩ : Formula) x a (.slice Y a.Kids.length Z) _ _ hh (I.mono jT.mono (kf.refl _)) (c0.mono jT.mono (kf.refl _)) d9)) ?_ (L0 := []))
   rintro _ h5 f0 f9 b c9 n ⟨h8, a5, rfl, c1⟩
   obtain rfl := a5.symm
   refine Wm (Wx rfl (Wx rfl ?_))
   obtain ⟨b0, b3, rfl⟩ := c1.form
   let d3 : Value := (.slice b0 ((g.1).Kids).length b3)
   replace b := b.perm (Nb (Pb Pz) Nz)
   refine VO (jY (.agg #[(.int .i64 ((g.1).Op)), (.int .i64 ((g.1).K)), (.string (((g.1).jB).jF)), (.string (((g.1).jB).jK)), d3]) (#[(.int .i64 ((g.1).Op)), (.int .i64 ((g.1).K)), (.string (((g.1).jB).jF)), (.string (((g.1).jB).jK)), d3]) b D rfl aC oc nb rfl (fun g7 b => Wa (ky (kF (jQ ?_)))))
   replace b := b.jE (Kb (Db St))
   exact ⟨eI, g.2, ((g.1).Op), ((g.1).K), ((g.1).jB), d3, ((g.1).Kids), f0, _, ⟨rfl, eN⟩, (t.trans c9), (d.trans n), (b.jE St), a2, D, rfl, P, c1, (by rw [e2]; exact c)⟩
  rintro E W ⟨s, G, H, y, x, N, z, O, ⟨eI, eN⟩, t, d, b, a2, D, a3, P, I, c⟩
  rw [aP] at c
  refine jQ ?_
  obtain rfl := sj c
  exact ⟨x, z, _, t, d, (b.jE St), a2, D, a3, I⟩
 rintro ⟨e8, Q, T, k, M⟩ E W ⟨q, U, c3, a8, l, b, o, e4, c6, b9⟩ B
 refine jX (sg (Wh c6 (Wi rfl (ln (CI B rfl (fun d4 B => ?_) (fun d4 B => ?_))))))
 ·refine sg (V (ma (v := (.agg C7.toArray)) pK (ly bD bY (xo _ bY) kr)) (Wh c6 ?_))
  replace b := b.perm (Nb (Pb Pz) Nz)
  refine VO (jY (.agg C7.toArray) (C7.toArray) b o rfl aC oc nb rfl (fun g0 b => Wa (ln ?_)))
  replace b := b.jE (Kb (Db St))
  refine kB (kI ?_)
  obtain rfl := sj B
  exact pN (v0 := (.agg C7.toArray)) (v1 := (.int .i64 e8)) rfl o (jO b.has Mh C7 rfl aS aC) rfl ⟨_, _, _, rfl, (b.mg Sn), (a4.trans a8), (m.trans l), (ST.kY b (mB.mem Sn)), (.slice none 0 0), rfl, rfl, (Sl.nil _ _ _)⟩
 refine kg (V (jG e4 (jO b.has Mh [(.int .i64 Q), (.int .i64 T), (.string k.jF), (.string k.jK), q] rfl aS aC)) ?_)
 obtain ⟨J, K, rfl⟩ := b9.form
 let L := (C1 Q T k.jF k.jK J M.length K)
 replace b := b.perm (Nb (Pb Pz) Nz)
 refine VO (jY (.agg L.toArray) (L.toArray) b o rfl aC oc nb rfl (fun g1 b => Wa (ln ?_)))
 replace b := b.jE (Kb (Db St))
 refine kB ?_
 obtain rfl := sj B
 exact pN (v0 := (.agg L.toArray)) (v1 := (.int .i64 0)) rfl o (jO b.has Mh L rfl aS aC) rfl ⟨_, _, _, rfl, (b.mg Sn), (a4.trans a8), (m.trans l), (ST.kY b (mB.mem Sn)), (.slice J M.length K), rfl, rfl, b9⟩
theorem B0 (k : jI) (G H : Value) (o : jA) (r : (Formula × Int)) (w : World) {μ0 : km} (h0 : ni μ0 [] w) (t : Sl ku 15 μ0 G k.jV) (y : Sl kW 8 μ0 H k.kx) (hm : vM k o = some r) :
  lM false Tryz.prog 106 [(.agg #[(.string k.Name), G, H]), (.agg (jD o).toArray)] w μ0 [] (fun v L1 μ1 => ∃ y1, v = (.tuple #[(.agg #[(.int .i64 ((r.1).Op)), (.int .i64 ((r.1).K)), (.string (((r.1).jB).jF)), (.string (((r.1).jB).jK)), y1]), (.int .i64 (r.2))]) ∧ L1 = [] ∧ Sl jC 5 μ1 y1 ((r.1).Kids)) := by
 refine sO h0 41 func106 rfl (fun b => sg ?_)
 obtain ⟨A1, c2, rfl⟩ := t.form
 obtain ⟨A3, P, rfl⟩ := y.form
 let f5 := (C8 k.Name A1 k.jV.length c2 A3 k.kx.length P)
 refine VE (kH b rfl (fun W6 b5 b => VE (kH b rfl (fun W8 b7 b => VE (kv b bD (fun i4 b9 b => Wa (lr (VA b (Mt (Mt Mh)) f5 ez dS (VA b (Mt Mh) (jD o) bR aH (bS hm fun a e7 hm => ?_))))))))))
 let b8 : Value := (.int .i64 (((a.1).jL).K))
 let q : Value := (.int .i64 (((a.1).jL).Op))
 let b1 := (((a.1).jL).jB)
 let s : Value := (.string (b1.jK))
 let d8 : Value := (.string (b1.jF))
 let a0 := (((a.1).Signed).jA)
 refine VE (eD b (bT _) call212 (fun A => (G2 k (.slice A1 k.jV.length c2) (.slice A3 k.kx.length P) o _ _ A (t.mono kT.mono (kf.refl _)) (y.mono mz.mono (kf.refl _)) e7)) ?_ (L0 := []))
 rintro _ j4 j8 i2 b I d ⟨j6, j7, a5, rfl, e9, c5⟩
 obtain rfl := a5.symm
 refine Wm (Wx rfl (Wx rfl (VE (kv b ed (fun i6 j3 b => ?_)))))
 obtain ⟨d9, e1, rfl⟩ := e9.form
 let f8 : Value := (.slice d9 (((a.1).Signed).Tag).length e1)
 obtain ⟨z, D, rfl⟩ := c5.form
 let a2 : Value := (.slice z (((a.1).jL).Kids).length D)
 refine VO (jY (.agg #[(.int .i64 (a0.Kind)), (.string ((a0.Head).jF)), (.string ((a0.Head).jK)), (.string (a0.kA)), (.string ((a0.B).jF)), (.string ((a0.B).jK)), (.string ((a0.C).jF)), (.string ((a0.C).jK)), (.string (a0.kz)), f8, q, b8, d8, s, a2]) (#[(.int .i64 (a0.Kind)), (.string ((a0.Head).jF)), (.string ((a0.Head).jK)), (.string (a0.kA)), (.string ((a0.B).jF)), (.string ((a0.B).jK)), (.string ((a0.C).jF)), (.string ((a0.C).jK)), (.string (a0.kz)), f8, q, b8, d8, s, a2]) b rfl rfl dz oc nb rfl (fun i7 b => Wa (lS (Wm (V (mC rfl) (ln (CI hm rfl (fun e6 hm => ?_) (fun e6 hm => ?_))))))))
 ·refine sg (V (ma (v := (.agg C7.toArray)) pK (ly bD bY (xo _ bY) kr)) ?_)
  replace b := b.perm (Nb (Pb Pz) Nz)
  refine VO (jY (.agg C7.toArray) (C7.toArray) b rfl rfl aC oc nb rfl (fun i8 b => Wa (ln ?_)))
  replace b := b.jE (Kb (Db (Db (Db St))))
  refine kB (kI ?_)
  obtain rfl := sj hm
  exact pN (v0 := (.agg C7.toArray)) (v1 := (.int .i64 42)) rfl rfl (jO b.has Mh C7 rfl aS aC) rfl ⟨_, _, _, rfl, (b.mg Sn), I, d, (ST.kY b (mB.mem Sn)), (.slice none 0 0), rfl, rfl, (Sl.nil _ _ _)⟩
 refine kg (Wf FV (VA b Mh [q, b8, d8, s, a2] aS aC (VE (kJ (cs := #[q, b8, d8, s, a2]) b (mQ rfl) (na aF aC bD) (fun i9 e0 b => Wa (ln ?_))))))
 replace b := b.jE (Kb (Db St))
 refine jX (sg (VA b (Mt (Mt (Mt Mh))) f5 ez dS (VA b (Mt (Mt Mh)) (jD o) bR aH (bS hm fun R e8 hm => ?_))))
 refine VE (eD b (bT _) call209 (fun A => (GO k (.slice A1 k.jV.length c2) (.slice A3 k.kx.length P) o _ _ A (t.mono kT.mono I) (y.mono mz.mono I) e8)) ?_ (L0 := []))
 rintro _ j5 e2 i3 b a8 F ⟨f6, a6, rfl, O⟩
 obtain rfl := a6.symm
 refine V (lf cT rfl O) (Wm (ln ?_))
 replace b := b.jE (Kb (Kb (Db (Db St))))
 replace b := b.Cz
 refine li (fun i E W => ∃ Q N K Z, (E 27 = .int .i64 (i : Nat) ∧ E 26 = .int .i64 (R.length : Nat)) ∧ ST false (keys []) w W e2 ((b9, Ol C7 113) :: (K ++ Z)) ∧ E 4 = (.pointer (some ⟨b9, 0, none⟩)) ∧ E 8 = Q ∧ E 25 = f6 ∧ kR 113 jC 5 e2 Q N K ∧ sK (R.drop i) N = some r) R.length O.len ⟨(.slice (some ⟨e0, 0, none⟩) 1 1), ([(a.1).jL]), [(e0, Ob #[q, b8, d8, s, a2] 113)], _, ⟨rfl, rfl⟩, (b.jE (Sb (Pr Pz) St)), rfl, rfl, rfl, (kR.lit jT (l := [(a.1).jL]) (.cons (ys := [q, b8, d8, s, a2]) (jC.mk ⟨a2, rfl, (c5.mono jT.mono a8)⟩) .nil) rfl nb rfl), hm⟩ dc dc dc (fun _ _ _ h => by obtain ⟨_, _, _, _, aa, _⟩ := h; exact aa) ?_ ?_
 ·rintro f0 E W d0 ⟨Q, N, K, Z, ⟨eI, eN⟩, b, T, a3, a4, U, j⟩
  obtain ⟨c, f7, d6, d5, d7⟩ := kP d0
  rw [d6] at j
  refine bg (VQ (mo (i := (f0 : Int)) (x0 := c) kW.out cT dG a4 eI O (aJ _) d5) (fun h2 ⟨_, ⟨h5, h6, rfl, a9, d3⟩, d1⟩ => V (jG rfl (kl b.has d1 jd dG)) (VE (kv b gk (fun g0 g8 b => ?_)))))
  obtain ⟨u, x, rfl⟩ := a9.form
  let c7 := (C1 c.jL.Op c.jL.K c.jL.jB.jF c.jL.jB.jK u c.jL.Kids.length x)
  obtain ⟨b2, b6, rfl⟩ := d3.form
  let c0 := (C6 c.jB.jF c.jB.jK c.jL.Op c.jL.K c.jL.jB.jF c.jL.jB.jK u c.jL.Kids.length x b2 c.lI.length b6)
  refine VO (jY (.agg c0.toArray) (c0.toArray) b rfl rfl dG oc nb rfl (fun g1 b => ln (jW (Wh a3 (Wf FM (VA b Mh c7 aS aC (VE (kJ (cs := c7.toArray) b (mQ rfl) (na aF aC bD) (fun g2 g9 b => ?_)))))))))
  replace b := b.perm (Nr (Qb (Qb (Qb Qz))) Nz)
  refine bS j fun f1 c9 j => VE (tZ (B := K) jT b dc aF nq.1 nq.2.1 rfl nq.2.2.1 nq.2.2.2 rfl rfl U (Bn.lit jT (l := [c.jL]) (.cons (ys := C1 c.jL.Op c.jL.K c.jL.jB.jF c.jL.jB.jK u c.jL.Kids.length x) (jC.mk ⟨(.slice u c.jL.Kids.length x), rfl, a9⟩) .nil) rfl nb (b.at_ (Ma Mh))) c9 (fun g3 f2 e3 b c8 => Wa (ky (kF (jQ ?_)))))
  replace b := b.jE (Kr (Db (Db St)))
  exact ⟨eI, f2, f1, e3, _, ⟨rfl, eN⟩, (b.jE (Sb (Pr Pz) St)), T, rfl, a4, c8, (by rw [d7]; exact j)⟩
 rintro E W ⟨Q, N, K, Z, ⟨eI, eN⟩, b, T, a3, a4, U, j⟩
 rw [aP] at j
 refine jQ (sg (Wh a3 ?_))
 replace b := b.perm (Nr (Qb Qz) Nz)
 obtain ⟨i0, b, c1, m, d4⟩ := ST.vS jT b U
 refine bS j fun g d2 j => ?_
 let g4 : Value := (.int .i64 ((g.1).Op))
 let f4 : Value := (.string (((g.1).jB).jK))
 let f3 : Value := (.string (((g.1).jB).jF))
 refine VE (eD b (bT _) call213 (fun A => (IB Q N _ _ A (d4.mono jT.mono (kf.refl _)) d2)) ?_ (L0 := []))
 rintro _ h7 i1 f9 b c3 n ⟨h8, Y, rfl, b0⟩
 obtain rfl := Y.symm
 refine Wx rfl (Wx rfl ?_)
 obtain ⟨J, M, rfl⟩ := b0.form
 let L : Value := (.slice J ((g.1).Kids).length M)
 let b4 : Value := (.agg #[g4, (.int .i64 ((g.1).K)), f3, f4, L])
 refine VO (jY b4 (#[g4, (.int .i64 ((g.1).K)), f3, f4, L]) b T rfl aC oc nb rfl (fun g7 b => Wa (lt ?_)))
 obtain rfl := sj j
 exact pN (v0 := b4) (v1 := (.int .i64 g.2)) rfl T (jO b.has Mh [g4, (.int .i64 ((g.1).K)), f3, f4, L] rfl aS aC) rfl ⟨_, _, _, rfl, (b.mg Sn), (((I.trans a8).trans c1).trans c3), (((d.trans F).trans m).trans n), (ST.kY b (mB.mem Sn)), L, rfl, rfl, b0⟩
theorem DE (a : kw) (g c : Value) (H : Nat) (y : ByteArray) (i : Value) (t : List kw) (j : Value) (x : List ml) (r : Bool) (w : World) (u : Sl (Pl (kU .u8)) 1 (hp w) g a.Signed.Tag) (k : Sl jC 5 (hp w) c a.jL.Kids) (B : Sl ku 15 (hp w) i t) (D : Sl kW 8 (hp w) j x) (I : At (hp w) (.pointer (some ⟨H, 0, none⟩)) [(.string y), i, j]) (hm : tF a y t x = some r) :
  ki false Tryz.prog 300 [(.agg #[(.int .i64 a.Signed.jA.Kind), (.string a.Signed.jA.Head.jF), (.string a.Signed.jA.Head.jK), (.string a.Signed.jA.kA), (.string a.Signed.jA.B.jF), (.string a.Signed.jA.B.jK), (.string a.Signed.jA.C.jF), (.string a.Signed.jA.C.jK), (.string a.Signed.jA.kz), g, (.int .i64 a.jL.Op), (.int .i64 a.jL.K), (.string a.jL.jB.jF), (.string a.jL.jB.jK), c]), (.pointer (some ⟨H, 0, none⟩))] w (.bool r) := by
 refine cG 16 func300 rfl (fun b => sg ?_)
 obtain ⟨U, Z, rfl⟩ := u.form
 obtain ⟨Y, q, rfl⟩ := k.form
 refine VE (kH b rfl (fun W6 o b => Wa (lr (V (jG rfl (kl b.has I ez dS)) (Wf vu (Wf rM (VA b Mh (jD a.Signed.jA) bR aH (bS hm fun z Q hm => ?_))))))))
 refine VE (eD b (bT _) call106 (fun h => (B0 (⟨y, t, x⟩ : jI) i j a.Signed.jA _ _ h (B.mono kT.mono (kf.refl _)) (D.mono mz.mono (kf.refl _)) Q)) ?_ (L0 := []))
 rintro _ l n a2 b T d ⟨m, G, rfl, N⟩
 obtain rfl := G.symm
 refine Wm (Wx rfl (Wx rfl (VE (kv b bD (fun a3 a5 b => ?_)))))
 obtain ⟨J, K, rfl⟩ := N.form
 refine VO (jY (.agg #[(.int .i64 ((z.1).Op)), (.int .i64 ((z.1).K)), (.string (((z.1).jB).jF)), (.string (((z.1).jB).jK)), (.slice J ((z.1).Kids).length K)]) (#[(.int .i64 ((z.1).Op)), (.int .i64 ((z.1).K)), (.string (((z.1).jB).jF)), (.string (((z.1).jB).jK)), (.slice J ((z.1).Kids).length K)]) b rfl rfl aC oc nb rfl (fun a4 b => Wa (ln ?_)))
 replace b := b.jE (Db (Db St))
 exact sg (Wm (Wi rfl (Wa (lt (rQ hm b)))))
theorem F0 (c : jI) (g j : Value) (r : Bool) (w : World) (a : Sl ku 15 (hp w) g c.jV) (i : Sl kW 8 (hp w) j c.kx) (hm : vr c = some r) :
  ki false Tryz.prog 208 [(.agg #[(.string c.Name), g, j])] w (.bool r) := by
 refine cG 8 func208 rfl (fun b => sg ?_)
 obtain ⟨k, u, rfl⟩ := a.form
 obtain ⟨y, z, rfl⟩ := i.form
 refine VE (kH b rfl (fun I t b => Wa (lr (Wf vA (VB b Mh rfl rfl gE (V (qX (by exact tD rfl) rfl) (bS hm fun K D hm => VE (Eg b call299 (xB (.slice k c.jV.length u) c.jV (.func (.func 300) #[] #[(.pointer (some ⟨t, 0, none⟩))]) (fun (x : kw) => tF x c.Name c.jV c.kx) _ _ (a.mono kT.mono b.jJ) ⟨300, #[], #[(.pointer (some ⟨t, 0, none⟩))], rfl, call300, fun W x vs r d h hm => by obtain ⟨_, rfl, B⟩ := h; obtain ⟨G, H, rfl, l, m⟩ := B.out; exact DE x G H t c.Name (.slice k c.jV.length u) c.jV (.slice y c.kx.length z) c.kx r W l m (a.mono kT.mono (b.jJ.trans d)) (i.mono mz.mono (b.jJ.trans d)) (At.of (d _ _ (b.at_ Mh)) _ rfl) hm⟩ D) (fun J b => V (mC rfl) (Wa (ln ?_)))))))))))
 exact kB (rQ hm b)
theorem B9 (a : jI) (u x : Value) (r : Int) (w : World) (g : Sl ku 15 (hp w) u a.jV) (c : Sl kW 8 (hp w) x a.kx) (hm : uq a = some r) :
  ki false Tryz.prog 103 [(.agg #[(.string a.Name), u, x])] w (.int .i64 r) := by
 refine cG 26 func103 rfl (fun b => sg ?_)
 obtain ⟨D, G, rfl⟩ := g.form
 let b8 : Value := (.slice D a.jV.length G)
 obtain ⟨z, B, rfl⟩ := c.form
 let a4 : Value := (.slice z a.kx.length B)
 let a0 := (C8 a.Name D a.jV.length G z a.kx.length B)
 refine VE (kH b rfl (fun W6 d b => Wa (ln (jX (bg (Wf IJ (VB b Mh rfl rfl bZ (bS hm fun R n hm => VE (Eg b iN (ki.lD (qk a.Name _ _  n)) (fun W9 b => V (mC rfl) (Wa (ky ?_))))))))))))
 refine jQ (CI hm rfl (fun Q hm => ?_) (fun Q hm => ?_))
 ·refine sg (Wa (ln ?_))
  replace b := b.jE (Db St)
  refine kB (mn (kI ?_))
  obtain rfl := sj hm
  exact rP b
 refine sg (VA b Mh a0 ez dS (bS hm fun v Z hm => VE (Eg b call205 (Hp a b8 a4 _ _ (g.mono kT.mono b.jJ) (c.mono mz.mono b.jJ) Z) (fun a9 b => Wa (ln (CI hm rfl (fun T hm => ?_) (fun T hm => ?_)))))))
 ·refine sg (Wa (ln ?_))
  replace b := b.jE (Db St)
  refine kB (mn (kI ?_))
  obtain rfl := sj hm
  exact rP b
 refine sg (VA b Mh a0 ez dS (bS hm fun A h hm => VE (Eg b call206 (GB a b8 a4 _ _ (g.mono kT.mono b.jJ) (c.mono mz.mono b.jJ) h) (fun o b => V (mC rfl) (Wm (LJ hm (fun N E W => ∃ J, ST false kQ w W (hp w) ((d, Ol a0 110) :: J) ∧ E 1 = (.pointer (some ⟨d, 0, none⟩)) ∧ E 20 = (.bool N)) 5 ?_ (fun N t I => ?_)))))))
 ·rintro O E W ⟨J, b, a5, l⟩ Y
  refine Wh l (LJ Y (fun M E W => ∃ K, ST false kQ w W (hp w) K ∧ E 25 = (.bool M)) 4 ?_ (fun M k H => ?_))
  ·rintro P E W ⟨K, b, m⟩ y
   refine Wg m (ln (CI y rfl (fun U y => ?_) (fun U y => ?_)))
   ·refine sg (Wa (lt (mn (kI ?_))))
    obtain rfl := sj y
    exact rP b
   exact ll (kF (jQ (sg (Wa (lt (rQ y b))))))
  refine bC k (fun j k => ?_) (fun j k => ?_)
  ·refine un j (un j (un j (V (kd (cB j) rfl) ?_)))
   obtain rfl := sj k
   exact H _ _ ⟨_, (b.jE (Db St)), rfl⟩
  refine ug j (jG a5 (jO b.has Mh a0 rfl ez dS)) (bS k fun F a2 k => rl j (Eg b call208 (F0 a b8 a4 _ _ (g.mono kT.mono b.jJ) (c.mono mz.mono b.jJ) a2) (fun q b => ug j (mC rfl) (V (ke (cB j) rfl) ?_))))
  obtain rfl := sj k
  exact H _ _ ⟨_, (b.jE (Db St)), rfl⟩
 refine bC t (fun i t => ?_) (fun i t => ?_)
 ·refine un i (un i (un i (un i (V (kd (cB i) rfl) ?_))))
  obtain rfl := sj t
  exact I _ _ ⟨_, (b.jE St), rfl, rfl⟩
 refine ug i (jM AS rfl) (ug i (jG rfl (jS b.has Mh rfl isAgg108)) (bS t fun L a3 t => rl i (Eg b call207 (Ii a4 a.kx _ _ (c.mono mz.mono b.jJ) a3) (fun s b => ug i (mC rfl) (V (ke (cB i) rfl) ?_)))))
 obtain rfl := sj t
 exact I _ _ ⟨_, (b.jE St), rfl, rfl⟩
theorem Hz (a : jI) (k z : Value) (B : ByteArray) (I : Int) (r : (lP × Int)) (w : World) {M : km} (h0 : ni M [] w) (g : Sl ku 15 M k a.jV) (i : Sl kW 8 M z a.kx) (hm : ve a B I = some r) :
  lM false Tryz.prog 216 [(.agg #[(.string a.Name), k, z]), (.string B), (.int .i64 I)] w M [] (fun v L1 N => ∃ n o q s A a9, v = (.tuple #[(.agg #[(.string (((r.1).jI).Name)), n, o, (.string ((r.1).lG)), (.int .i64 ((r.1).Room)), q, s, A, a9]), (.int .i64 (r.2))]) ∧ L1 = [] ∧ Sl ku 15 N n (((r.1).jI).jV) ∧ Sl kW 8 N o (((r.1).jI).kx) ∧ Sl (Pl jD) 9 N q ((r.1).jU) ∧ Sl (Pl jD) 9 N s ((r.1).Shown) ∧ Sl (Pl jH) 2 N A ((r.1).kq) ∧ Sl (Pl jH) 2 N a9 ((r.1).lc)) := by
 refine sO h0 33 func216 rfl (fun b => sg ?_)
 obtain ⟨t, x, rfl⟩ := g.form
 obtain ⟨u, y, rfl⟩ := i.form
 let d := (C8 a.Name t a.jV.length x u a.kx.length y)
 let a0 := (QN a.Name t a.jV.length x u a.kx.length y B I)
 refine VE (kH b rfl (fun W6 Q b => VE (kv b jk (fun W8 T b => Wa (lr (VA b (Mt Mh) d ez dS (bS hm fun r9 R hm => VE (Eg b call103 (B9 a (.slice t a.jV.length x) (.slice u a.kx.length y) _ _ (g.mono kT.mono b.jJ) (i.mono mz.mono b.jJ) R) (fun d7 b => Wa (ln (jX (CJ hm (fun l E W => ∃ U, ST false (keys []) w W M ((T, Ol Ht 160) :: ((Q, Ol d 110) :: U)) ∧ E 1 = (.string B) ∧ E 2 = (.int .i64 I) ∧ E 3 = (.pointer (some ⟨Q, 0, none⟩)) ∧ E 6 = (.pointer (some ⟨T, 0, none⟩)) ∧ E 8 = (.int .i64 l)) (fun l c => ?_) ?_))))))))))))
 ·refine bg (Wm (Wi rfl (Wa (ln (CI c rfl (fun L c => ?_) (fun L c => ?_))))))
  ·refine ll (kF (jQ ?_))
   obtain rfl := sj c
   exact ⟨_, (b.jE St), rfl, rfl, rfl, rfl, rfl⟩
  refine sg (Wm (bS c fun e1 b6 c => VE (Eg b iN (ki.lD (qk B _ _  b6)) (fun e0 b => V (mC rfl) (Wa (ln (CI c rfl (fun O c => ?_) (fun O c => ?_))))))))
  ·refine jW (Wa (ky (kF (jQ ?_))))
   obtain rfl := sj c
   exact ⟨_, (b.jE St), rfl, rfl, rfl, rfl, rfl⟩
  refine sg (Wm (Wi rfl (Wm (LJ c (fun m E W => ∃ Y, ST false (keys []) w W M ((T, Ol Ht 160) :: ((Q, Ol d 110) :: Y)) ∧ E 1 = (.string B) ∧ E 2 = (.int .i64 I) ∧ E 3 = (.pointer (some ⟨Q, 0, none⟩)) ∧ E 6 = (.pointer (some ⟨T, 0, none⟩)) ∧ E 8 = (.int .i64 r9) ∧ E 24 = (.bool m)) 3 ?_ (fun m H K => ?_)))))
  ·rintro e2 E W ⟨Y, b, a3, a4, a5, h, c3, c5⟩ G
   refine Wg c5 (ln (CI G rfl (fun P G => ?_) (fun P G => ?_)))
   ·refine jW (Wa (ky (kF (jQ ?_))))
    obtain rfl := sj G
    exact ⟨_, (b.jE St), a3, a4, a5, h, rfl⟩
   refine ll (kF (jQ ?_))
   obtain rfl := sj G
   exact ⟨_, (b.jE St), a3, a4, a5, h, c3⟩
  refine bC H (fun j H => ?_) (fun j H => ?_)
  ·refine un j (un j (V (kd (cB j) rfl) ?_))
   obtain rfl := sj H
   exact K _ _ ⟨_, (b.jE St), rfl, rfl, rfl, rfl, rfl, rfl⟩
  refine ug j (jN rfl) (ug j (kL rfl rfl rfl) (V (ke (cB j) rfl) ?_))
  obtain rfl := sj H
  exact K _ _ ⟨_, (b.jE St), rfl, rfl, rfl, rfl, rfl, rfl⟩
 rintro c6 E W ⟨U, b, b9, c0, c1, J, Z⟩ D
 refine jX (sg (Wh Z (Wi rfl (ln (CI D rfl (fun F D => ?_) (fun F D => ?_))))))
 ·refine sg (V (ma (v := (.agg Ht.toArray)) pK (ly jk dW (No _ dW) kr)) (Wh Z (VO (jY (.agg Ht.toArray) (Ht.toArray) b J rfl dN oc nb rfl (fun d8 b => Wa (ln ?_))))))
  replace b := b.jE (Kb (Db St))
  refine kB (kI ?_)
  obtain rfl := sj D
  exact pN (v0 := (.agg Ht.toArray)) (v1 := (.int .i64 c6)) rfl J (jO b.has Mh Ht rfl ew dN) rfl ⟨_, _, _, rfl, (b.mg Sn), (kf.refl _), Lo.refl, (ST.kY b (mB.mem Sn)), (.slice none 0 0), (.slice none 0 0), (.slice none 0 0), (.slice none 0 0), (.slice none 0 0), (.slice none 0 0), rfl, rfl, (Sl.nil _ _ _), (Sl.nil _ _ _), (Sl.nil _ _ _), (Sl.nil _ _ _), (Sl.nil _ _ _), (Sl.nil _ _ _)⟩
 refine kg (V (jG c1 (jO b.has (Mt Mh) d rfl ez dS)) (Wh b9 (Wh c0 (V (ma (v := (.agg a0.toArray)) (Ft rfl rfl rfl) (ly jk dW (No _ dW) kr)) (VO (jY (.agg a0.toArray) (a0.toArray) b J rfl dN oc nb rfl (fun d9 b => Wa (ln ?_))))))))
 replace b := b.jE (Kb (Db St))
 refine kB ?_
 obtain rfl := sj D
 exact pN (v0 := (.agg a0.toArray)) (v1 := (.int .i64 0)) rfl J (jO b.has Mh a0 rfl ew dN) rfl ⟨_, _, _, rfl, (b.mg Sn), (kf.refl _), Lo.refl, (ST.kY b (mB.mem Sn)), (.slice t a.jV.length x), (.slice u a.kx.length y), (.slice none 0 0), (.slice none 0 0), (.slice none 0 0), (.slice none 0 0), rfl, rfl, g, i, (Sl.nil _ _ _), (Sl.nil _ _ _), (Sl.nil _ _ _), (Sl.nil _ _ _)⟩
theorem H5 (a : jA) (r : List jB) (w : World) (hm : xk a = some r) :
  mw true Tryz.prog 118 [(.agg (jD a).toArray)] w 28 jH 2 r := by
 refine wX 27 func118 rfl (fun b => sg (VE (kH b rfl (fun W2 h b => Wa (lS (VA b Mh (jD a) bR aH (bS hm fun r3 o hm => VE (Eg b call137 (uY a _ _  o) (fun W5 b => V (mC rfl) (ky ?_))))))))))
 refine jQ (CI hm rfl (fun n hm => ?_) (fun n hm => ?_))
 ·refine sg (Wa (ln ?_))
  replace b := b.jE (Db St)
  refine kB (kI ?_)
  obtain rfl := sj hm
  exact lq (v := (.slice none 0 0)) rfl rfl ⟨_, [], rfl, b.nQ (fun p d => by cases d) (by simp), kk.nil _ _ _⟩
 refine kg (Wf uo (VA b Mh (jH a.Head) bL aI (VE (kJ (cs := (jH a.Head).toArray) b (mQ rfl) (na bF aI eb) (fun W8 y b => Wa (ln (jX (CJ hm (fun I E W => ∃ j i z, ST true kQ w W (hp w) ((h, Ol (jD a) 53) :: (i ++ z)) ∧ E 1 = (.pointer (some ⟨h, 0, none⟩)) ∧ E 3 = j ∧ kk 28 jH 2 j I i) (fun I g => ?_) ?_))))))))
 ·refine sg (Wf xh (VB b (Mt Mh) rfl rfl cL (Wi rfl (ln (CI g rfl (fun Q g => ?_) (fun Q g => ?_))))))
  ·refine jW (Wm (Wf pu (VA b (Mt Mh) (jH a.B) bL aI (VE (kJ (cs := (jH a.B).toArray) b (mQ rfl) (na bF aI eb) (fun F a4 b => ?_))))))
   replace b := b.perm (Nb (Pb Pz) Nz)
   refine bS g fun c0 T g => VE (oq (enc := jH) (v := (.slice (some ⟨y, 0, none⟩) 1 1)) (vs := (.slice (some ⟨a4, 0, none⟩) 1 1)) (R := [(y, Ol (jH a.Head) 28)]) b mY dc pg bF pO.1 pO.2.1 rfl pO.2.2.1 pO.2.2.2 rfl rfl (kk.lit (l := [a.Head]) (enc := jH) rfl dc rfl rfl) (Sl.lit (enc := jH) (l := [a.B]) mY rfl nb rfl (b.at_ (Mt Mh))) T (fun L a9 m b K => Wa (ln ?_)))
   obtain rfl := sj g
   exact ⟨a9, m, _, (b.jE (Sb (Pr (Pb Pz)) (Kr (Db St)))), rfl, rfl, K⟩
  refine kn ?_
  obtain rfl := sj g
  replace b := b.Cz
  exact ⟨(.slice (some ⟨y, 0, none⟩) 1 1), [(y, Ol (jH a.Head) 28)], _, (b.jE (Sb (Pr Pz) St)), rfl, rfl, (kk.lit (l := [a.Head]) (enc := jH) rfl dc rfl rfl)⟩
 rintro O E W ⟨j, i, z, b, D, G, u⟩ U
 refine jX (CJ U (fun H E W => ∃ t k B, ST true kQ w W (hp w) (k ++ B) ∧ E 3 = t ∧ kk 28 jH 2 t H k) (fun H c => ?_) ?_)
 ·refine sg (V (jM xh D) (VB b Mh rfl rfl cL (Wi rfl (ln (CI c rfl (fun M c => ?_) (fun M c => ?_))))))
  ·refine jW (Wh G (V (jM xt D) (VA b Mh (jH a.C) bL aI (VE (kJ (cs := (jH a.C).toArray) b (mQ rfl) (na bF aI eb) (fun s a3 b => ?_))))))
   replace b := b.perm (Nr (Qb (Qb Qz)) Nz)
   refine bS c fun b9 N c => VE (oq (enc := jH) (v := j) (vs := (.slice (some ⟨a3, 0, none⟩) 1 1)) (R := i) b mY dc pg bF pO.1 pO.2.1 rfl pO.2.2.1 pO.2.2.2 rfl rfl u (Sl.lit (enc := jH) (l := [a.C]) mY rfl nb rfl (b.at_ (Ma Mh))) N (fun A q Z b J => Wa (ln ?_)))
   obtain rfl := sj c
   exact ⟨q, Z, _, (b.jE (Kr (Db (Db St)))), rfl, J⟩
  refine kn ?_
  obtain rfl := sj c
  exact ⟨j, i, _, (b.jE (Db St)), G, u⟩
 rintro P E W ⟨t, k, B, b, a5, x⟩ Y
 refine sg (Wh a5 (Wa (lt ?_)))
 obtain rfl := sj Y
 exact lq (v := t) rfl rfl ⟨_, k, rfl, b.nQ (fun p d => (Ml d)) x.nd, x⟩
theorem BF (M : Nat) (u : Value) (a9 : List (jB × (List (ByteArray × Bool)))) (G : LO) (D : Value) (a0 : List jA) (B : LO) (a : Value) (Y : List (jB × (List jA))) (I : LO) (c : Value) (K : List (ByteArray × (List jA))) (t : LO) (j : Value) (a4 : List jR) (y : LO) (J : Int) (H : jA) (r : ((List jA) × (List (jB × (List jA))) × (List (ByteArray × (List jA))))) (w : World) {μ0 : km} (h0 : ni μ0 ((M, Ob #[u, D, a, c, j, (.int .i64 J)] 294) :: (G ++ (B ++ (I ++ (t ++ (y ++ [])))))) w) (e9 : lN (fun (x : jB) => (.agg (jH x).toArray)) (lA Value.string (fun (x : Bool) => (Value.bool x))) u a9 G) (a6 : kk 53 jD 9 D a0 B) (b2 : lN (fun (x : jB) => (.agg (jH x).toArray)) (kk 53 jD 9) a Y I) (T : lN Value.string (kk 53 jD 9) c K t) (e1 : pA 38 lO 3 j a4 y) (hm : rT a9 a0 Y K a4 J H = some r) :
  lC true Tryz.prog 324 [(.pointer (some ⟨M, 0, none⟩)), (.agg (jD H).toArray)] w ((M, Ob #[u, D, a, c, j, (.int .i64 J)] 294) :: (G ++ (B ++ (I ++ (t ++ (y ++ [])))))) (fun v L1 W' => ∃ y1 S2 S4 S6, v = (.tuple #[]) ∧ L1 = ((M, Ob #[u, y1, a, c, j, (.int .i64 J)] 294) :: (G ++ (S2 ++ (S4 ++ (S6 ++ (y ++ [])))))) ∧ kk 53 jD 9 y1 r.1 S2 ∧ lN (fun (x : jB) => (.agg (jH x).toArray)) (kk 53 jD 9) a r.2.1 S4 ∧ lN Value.string (kk 53 jD 9) c r.2.2 S6) := by
 refine yl h0 55 func324 rfl (fun d => sg (VE (kH d rfl (fun W2 b1 d => ln (jX ?_)))))
 replace d := d.drew
 have m := d.has.jE (Kb Sn)
 have n := d.has.jE (Db (Kb Sn))
 refine tV 10 m n ko (kX 0 rfl kr (.inl rfl) rfl dc (fun _ _ h => ⟨h.1, lF br h.2⟩) ⟨m, fun _ => n⟩ (fun _ _ _ _ => jN rfl) (kX 1 rfl kr (.inl rfl) rfl dc (fun _ _ h => ⟨h.1, lF br h.2⟩) ⟨m, fun _ => n⟩ (fun _ _ _ _ => jN rfl) (kX 2 rfl kr (.inl rfl) rfl dc (fun _ _ h => ⟨h.1, lF br h.2⟩) ⟨m, fun _ => n⟩ (fun _ _ _ _ => mH rfl) (kX 3 rfl kr (.inl rfl) rfl dc (fun _ _ h => ⟨h.1, lF br h.2⟩) ⟨m, fun _ => n⟩ (fun _ _ _ _ => jM FP rfl) (kX 4 rfl kr (.inl rfl) rfl dc (fun _ _ h => ⟨h.1, lF br h.2⟩) ⟨m, fun _ => n⟩ (fun l W s A => have q := (A.2 (s.B6 10 [4] kr rfl)); jG rfl (jS q Mh rfl eB)) (kX 5 rfl kr (.inl rfl) rfl dc (fun _ _ h => ⟨h.1, lF br h.2⟩) ⟨m, fun _ => n⟩ (fun l W s A => have q := A.1; jG rfl (jO q Mh (jD H) rfl bR aH)) (XE 6 rfl (kJ (cs := (jD H).toArray) d (mQ rfl) (na aG aH cX) (fun k0 g0 d => ?_)))))))))
 have m := d.has.jE (Db (Kb Sn))
 have n := d.has.jE (Db (Db (Kb Sn)))
 refine ⟨⟨m, fun _ => n⟩, ?_⟩
 replace d := d.perm (Nr (Qb (Qb (Qb (Qr Qz)))) Nz)
 refine bS hm fun a5 f0 hm => XE 7 rfl (oq (enc := jD) (v := D) (vs := (.slice (some ⟨g0, 0, none⟩) 1 1)) (R := B) d lm dc nF aG mP.1 mP.2.1 rfl mP.2.2.1 mP.2.2.2 rfl rfl a6 (Sl.lit (enc := jD) (l := [H]) lm rfl nb rfl (d.at_ (Ma Mh))) f0 (fun k1 k4 b7 d b5 => ?_))
 have m := d.has.jE (Dr (Db (Kb Sn)))
 have n := d.has.jE (Dr (Db (Db (Kb Sn))))
 refine ⟨⟨m, fun _ => n⟩, (kX 8 rfl kr (.inl rfl) rfl dc (fun _ _ h => ⟨h.1, lF br h.2⟩) ⟨m, fun _ => n⟩ (fun _ _ _ _ => mH rfl) (kX 9 rfl kr (.inl rfl) rfl dc (fun _ _ h => ⟨h.1, lF br h.2⟩) ⟨m, fun _ => n⟩ (fun _ _ _ _ => jM FP rfl) ?_))⟩
 obtain ⟨a8, b0, rfl⟩ := b5.form
 let F : Value := (.slice a8 a5.length b0)
 replace d := d.perm (Nb (Pr (Pb (Pb Pz))) Nz)
 refine XO 10 rfl (jY F (#[u, F, a, c, j, (.int .i64 J)]) d rfl rfl gC oc nb rfl (fun k2 d => ?_))
 have m := d.has.jE (Db (Dr (Db (Kb Sn))))
 refine ⟨⟨m, fun h => ym kr h⟩, (kV kr (jQ ?_))⟩
 replace d := d.jE (Kb (Kr (Db St)))
 refine jX (sg (VA d (Mt (Ma Mh)) (jD H) bR aH (bS hm fun c1 f1 hm => VE (sG d call118 (H5 H _ _  f1) (fun k3 k5 k6 j9 d g4 ab e8 => ?_)))))
 let b8 := (c1.drop (Int.toNat 1))
 obtain ⟨g3, d, g7, ad, f2⟩ := ST.Cl d e8 mY
 refine bS hm fun _ b9 hm => VQ (DP (i := 1) bF aI rfl rfl f2 (rp b9) (ry b9)) (fun g1 b6 => V (lf bF rfl b6.1) (Wm (ln (li (fun i E W => ∃ a3 U O, (E 20 = .int .i64 (i : Nat) ∧ E 19 = .int .i64 (b8.length : Nat)) ∧ ST true (keys ((M, Ob #[u, D, a, c, j, (.int .i64 J)] 294) :: (G ++ (B ++ (I ++ (t ++ (y ++ []))))))) w W g3 ((M, Ob #[u, F, a, c, j, (.int .i64 J)] 294) :: ((b1, Ol (jD H) 53) :: (U ++ (b7 ++ (G ++ (t ++ (y ++ O))))))) ∧ E 0 = (.pointer (some ⟨M, 0, none⟩)) ∧ E 3 = (.pointer (some ⟨b1, 0, none⟩)) ∧ E 18 = g1 ∧ lN (fun (x : jB) => (.agg (jH x).toArray)) (kk 53 jD 9) a a3 U ∧ nO H K a5 (b8.drop i) a3 = some r) b8.length b6.1.len ⟨Y, I, _, ⟨rfl, rfl⟩, (d.jE (Kb (Sb (Pr Pz) (Sr (Qr (Qr Qz)) St)))), rfl, rfl, rfl, b2, hm⟩ dc dc dc (fun _ _ _ h => by obtain ⟨_, _, _, aa, _⟩ := h; exact aa) ?_ ?_))))
 ·rintro f3 E W d3 ⟨a3, U, O, ⟨eI, eN⟩, d, a2, N, P, Z, g⟩
  obtain ⟨Q, h4, d8, d7, d9⟩ := kP d3
  rw [d8] at g
  refine bg (VQ (ot (enc := jH) (i := (f3 : Int)) (x0 := Q) bF aI P eI b6.1 (aJ _) d7) (fun j4 d4 => V (jG rfl (kl d.has d4 bL aI)) (VE (kv d eb (fun i1 j0 d => VO (jY (.agg (jH Q).toArray) ((jH Q).toArray) d rfl rfl aI (pg Q) nb rfl (fun i2 d => ln ?_)))))))
  replace d := d.drew
  have m := d.has.jE (Kb (Kb (Kb Sn)))
  refine kM m ko (X 0 rfl m (jN a2) (X 1 rfl m (mH rfl) (X 2 rfl m (jM Jm rfl) (XH 3 rfl m (fun _ q => jG rfl (jS q (Mt Mh) rfl isAgg291)) (XH 4 rfl m (fun _ q => jG rfl (jO q Mh (jH Q) rfl bL aI)) (XH 5 rfl m (fun _ q => jG N (jO q (Mt (Mt Mh)) (jD H) rfl bR aH)) (XE 6 rfl (kJ (cs := (jD H).toArray) d (mQ rfl) (na aG aH cX) (fun i3 e6 d => ?_)))))))))
  have m := d.has.jE (Db (Kb (Kb (Kb Sn))))
  refine ⟨m, ?_⟩
  obtain ⟨h1, d1⟩ := Z
  replace d := d.perm (Nr (Qb (Qb (Qb (Qb Qz)))) Nz)
  refine XE 7 rfl (Jw (k := Q) (x0 := [])  jZ yw underlying291 iP (kk.nil _ _ _) d d1 rfl rfl (fun i4 f5 h3 h6 e2 d c3 c2 => ?_))
  have m := d.has.jE (Dr (Dr (Db (Kb (Kb (Kb Sn))))))
  refine ⟨m, (X 8 rfl m (vk rfl rfl) (X 10 rfl m (vk rfl rfl) ?_))⟩
  replace d := d.perm (Nr (Qr Qz) Nz)
  refine bS g fun c0 c8 g => XE 9 rfl (oq (enc := jD) (v := f5) (vs := (.slice (some ⟨e6, 0, none⟩) 1 1)) (R := e2) d lm dc nF aG mP.1 mP.2.1 rfl mP.2.2.1 mP.2.2.2 rfl rfl c3 (Sl.lit (enc := jD) (l := [H]) lm rfl nb rfl (d.at_ (Ma (Ma Mh)))) c8 (fun i5 j5 h7 d c4 => ?_))
  have m := d.has.jE (Dr (Dr (Db (Kb (Kb (Kb Sn))))))
  refine ⟨m, ?_⟩
  replace d := d.perm (Nr (Qr Qz) Nz)
  refine XO 11 rfl (HX (e := 0) (z := c0)  jZ yw d c2 rfl rfl rfl c4 (fun i6 h2 e3 d c5 => ?_))
  have m := d.has.jE (Dr (Db (Kb (Kb (Kb Sn)))))
  refine ⟨m, (kV kr (kF (jQ ?_)))⟩
  replace d := d.jE (Kr (Db (Db St)))
  exact ⟨eI, (mS kc a3 Q c0), e3, _, ⟨rfl, eN⟩, (d.jE (Sb (Pr Pz) (Sb (Pr Pz) St))), a2, N, P, c5.e, (by rw [d9]; exact g)⟩
 rintro E W ⟨a3, U, O, ⟨eI, eN⟩, d, a2, N, P, Z, g⟩
 rw [aP] at g
 refine jQ (sg (V (jM xh N) (VB d (Mt Mh) rfl rfl cL (Wi rfl (ln (CI g rfl (fun c9 g => ?_) (fun c9 g => ?_)))))))
 ·replace d := d.drew
  have m := d.has.jE (Kb (Kb Sn))
  have n := d.has.jE (Db (Db (Dr (Dr (Dr (Kr Sn))))))
  refine tV 15 m n ko (kX 0 rfl kr (.inl rfl) rfl dc (fun _ _ h => ⟨h.1, lF br h.2⟩) ⟨m, fun _ => n⟩ (fun _ _ _ _ => jN a2) (kX 1 rfl kr (.inl rfl) rfl dc (fun _ _ h => ⟨h.1, lF br h.2⟩) ⟨m, fun _ => n⟩ (fun _ _ _ _ => mH rfl) (kX 2 rfl kr (.inl rfl) rfl dc (fun _ _ h => ⟨h.1, lF br h.2⟩) ⟨m, fun _ => n⟩ (fun _ _ _ _ => jM FB rfl) (kX 3 rfl kr (.inl rfl) rfl dc (fun _ _ h => ⟨h.1, lF br h.2⟩) ⟨m, fun _ => n⟩ (fun l W s A => have q := A.1; jG rfl (jS q Mh rfl isAgg292)) (kX 4 rfl kr (.inl rfl) rfl dc (fun _ _ h => ⟨h.1, lF br h.2⟩) ⟨m, fun _ => n⟩ (fun _ _ _ _ => jM yg N) (kX 5 rfl kr (.inl rfl) rfl dc (fun _ _ h => ⟨h.1, lF br h.2⟩) ⟨m, fun _ => n⟩ (fun l W s A => have q := A.1; jG rfl (jS q (Mt Mh) rfl bZ)) (kX 6 rfl kr (.inl rfl) rfl dc (fun _ _ h => ⟨h.1, lF br h.2⟩) ⟨m, fun _ => n⟩ (fun _ _ _ _ => jN a2) (kX 7 rfl kr (.inl rfl) rfl dc (fun _ _ h => ⟨h.1, lF br h.2⟩) ⟨m, fun _ => n⟩ (fun _ _ _ _ => mH rfl) (kX 8 rfl kr (.inl rfl) rfl dc (fun _ _ h => ⟨h.1, lF br h.2⟩) ⟨m, fun _ => n⟩ (fun _ _ _ _ => jM FB rfl) (kX 9 rfl kr (.inl rfl) rfl dc (fun _ _ h => ⟨h.1, lF br h.2⟩) ⟨m, fun _ => n⟩ (fun l W s A => have q := A.1; jG rfl (jS q Mh rfl isAgg292)) (kX 10 rfl kr (.inl rfl) rfl dc (fun _ _ h => ⟨h.1, lF br h.2⟩) ⟨m, fun _ => n⟩ (fun _ _ _ _ => jM yg N) (kX 11 rfl kr (.inl rfl) rfl dc (fun _ _ h => ⟨h.1, lF br h.2⟩) ⟨m, fun _ => n⟩ (fun l W s A => have q := A.1; jG rfl (jS q (Mt Mh) rfl bZ)) ?_))))))))))))
  obtain ⟨e0, L⟩ := T
  obtain ⟨h8, g8, g9⟩ := my.rowAt mc.1 L H.kz
  refine kX 12 rfl kr (.inl rfl) rfl dc (fun _ _ h => ⟨h.1, lF br h.2⟩) ⟨m, fun _ => n⟩ (fun l W s A => have q := (A.2 (s.B6 15 [12] kr rfl)); oP (k := H.kz) (z := (.slice none 0 0)) Fi underlying292 iP rfl rfl L (fun b o hq => q.2 b o (Ml hq))) (kX 13 rfl kr (.inl rfl) rfl dc (fun _ _ h => ⟨h.1, lF br h.2⟩) ⟨m, fun _ => n⟩ (fun l W s A => have q := A.1; jG N (jO q (Mt Mh) (jD H) rfl bR aH)) (XE 14 rfl (kJ (cs := (jD H).toArray) d (mQ rfl) (na aG aH cX) (fun i7 e7 d => ?_))))
  have m := d.has.jE (Db (Kb (Kb Sn)))
  have n := d.has.jE (Db (Db (Db (Dr (Dr (Dr (Kr Sn)))))))
  refine ⟨⟨m, fun _ => n⟩, ?_⟩
  replace d := d.perm (Nr (Qb (Qb (Qb (Qr (Qr (Qr Qz)))))) Nz)
  obtain ⟨h9, e4, d5, d6, d2⟩ := my.open mc.1 (kk.nil _ _ _) L H.kz
  replace d := d.perm (QY d5)
  replace d := d.perm (Nr (Qr Qz) Nz)
  refine bS g fun f4 d0 g => XE 15 rfl (oq (enc := jD) (v := (qz lh e0 H.kz (.slice none 0 0))) (vs := (.slice (some ⟨e7, 0, none⟩) 1 1)) (R := e4) d lm dc nF aG mP.1 mP.2.1 rfl mP.2.2.1 mP.2.2.2 rfl rfl d6 (Sl.lit (enc := jD) (l := [H]) lm rfl nb rfl (d.at_ (Ma (Ma Mh)))) d0 (fun i8 j6 i0 d c6 => ?_))
  have m := d.has.jE (Dr (Dr (Db (Kb (Kb Sn)))))
  refine ⟨⟨m, fun h => ym kr h⟩, ?_⟩
  replace d := d.perm (Nr (Qr Qz) Nz)
  refine XO 16 rfl (OM (k := H.kz) (z := f4)  Fi underlying292 d d2 rfl rfl rfl c6 (fun i9 e5 d c7 => ?_))
  have m := d.has.jE (Dr (Db (Kb (Kb Sn))))
  refine ⟨⟨m, fun h => ym kr h⟩, (kV kr (pM ?_))⟩
  obtain rfl := sj g
  exact ow rfl ⟨_, _, rfl, (d.mg (Sb (Pr (Pb Pz)) (Sr (Qr (Qb (Qb (Qr (Qr Qz))))) (Sr (Qr (Qb (Qb (Qr Qz)))) (Sr (Qr (Qb (Qb Qz))) (Kr (Db (Db (Kr Sn))))))))), F, b7, U, e5, rfl, rfl, b5, Z, c7.e⟩
 refine ll (pM ?_)
 obtain rfl := sj g
 exact ow rfl ⟨_, _, rfl, (d.mg (Kb (Db (Sr (Qr (Qr Qz)) (Sr (Qr Qz) (Kr (Kr (Kr Sn)))))))), F, b7, U, t, rfl, rfl, b5, Z, T⟩
theorem ql (J : Nat) (g : Value) (a0 : List (jB × (List (ByteArray × Bool)))) (D : LO) (a : Value) (M : List jA) (u : LO) (j : Value) (Z : List (jB × (List jA))) (B : LO) (c : Value) (N : List (ByteArray × (List jA))) (y : LO) (i : Value) (Y : List jR) (t : LO) (H : Int) (G : jB) (U : ByteArray) (r : ((List (jB × (List (ByteArray × Bool)))) × (List jR) × Int)) (w : World) {μ0 : km} (h0 : ni μ0 ((J, Ob #[g, a, j, c, i, (.int .i64 H)] 294) :: (D ++ (u ++ (B ++ (y ++ (t ++ [])))))) w) (a5 : lN (fun (x : jB) => (.agg (jH x).toArray)) (lA Value.string (fun (x : Bool) => (Value.bool x))) g a0 D) (b5 : kk 53 jD 9 a M u) (c3 : lN (fun (x : jB) => (.agg (jH x).toArray)) (kk 53 jD 9) j Z B) (b6 : lN Value.string (kk 53 jD 9) c N y) (K : pA 38 lO 3 i Y t) (hm : nj a0 M Z N Y H G U = some r) :
  lC true Tryz.prog 370 [(.pointer (some ⟨J, 0, none⟩)), (.agg (jH G).toArray), (.string U)] w ((J, Ob #[g, a, j, c, i, (.int .i64 H)] 294) :: (D ++ (u ++ (B ++ (y ++ (t ++ [])))))) (fun v L1 W' => ∃ S1 y3 S4, v = (.tuple #[]) ∧ L1 = ((J, Ob #[g, a, j, c, y3, (.int .i64 (r.2.2))] 294) :: (S1 ++ (u ++ (B ++ (y ++ (S4 ++ [])))))) ∧ lN (fun (x : jB) => (.agg (jH x).toArray)) (lA Value.string (fun (x : Bool) => (Value.bool x))) g r.1 S1 ∧ pA 38 lO 3 y3 r.2.1 S4) := by
 let a1 := (#[g, a, j, c, i, (.int .i64 H)] : Array Value)
 refine yl h0 53 func370 rfl (fun m => sg (VE (kH m rfl (fun W2 b1 m => ln (jX (jX ?_))))))
 replace m := m.drew
 have d := m.has.jE (Kb (Kb (Kr Sn)))
 refine kM d ko (X 0 rfl d (jN rfl) (X 1 rfl d (mH rfl) (X 2 rfl d (jM vw rfl) (XH 3 rfl d (fun _ q => jG rfl (jS q (Mt Mh) rfl gF)) (XH 4 rfl d (fun _ q => jG rfl (jO q Mh (jH G) rfl bL aI)) ?_)))))
 obtain ⟨f4, Q⟩ := a5
 refine XH 5 rfl d (fun _ q => oP (k := G) (z := (.map none)) yw eH fp rfl rfl Q (fun b o F => q.2 b o (Mt (Mt (Ml F))))) (X 6 rfl d (jN rfl) (XH 7 rfl d (fun _ q => wY (k := U) (z := false) (vf := (fun (x : Bool) => (Value.bool x))) Fi fw ir rfl rfl (my.BE (μ := hp _) jZ.1 Q G (fun b o F => q.2 b o (Mt (Mt (Ml F)))))) (kV kr (jQ (CI hm rfl (fun d5 hm => ?_) (fun d5 hm => ?_))))))
 ·refine kB (kI ?_)
  obtain rfl := sj hm
  exact ow rfl ⟨_, _, rfl, (m.mg (Db (Kb (Kr (Kr (Kr (Kr (Kr Sn)))))))), D, i, t, rfl, rfl, Q.e, K⟩
 refine kn (jX (CJ hm (fun b2 E W => ∃ O c0, ST true (keys ((J, Obj.cells a1 294 (0, 0)) :: (D ++ (u ++ (B ++ (y ++ (t ++ []))))))) w W μ0 ((b1, Ol (jH G) 28) :: ((J, Obj.cells a1 294 (0, 0)) :: (O ++ (u ++ (B ++ (y ++ (t ++ c0))))))) ∧ E 0 = (.pointer (some ⟨J, 0, none⟩)) ∧ E 2 = (.string U) ∧ E 4 = (.pointer (some ⟨b1, 0, none⟩)) ∧ lN (fun (x : jB) => (.agg (jH x).toArray)) (lA Value.string (fun (x : Bool) => (Value.bool x))) g b2 O) (fun b2 I => ?_) ?_))
 ·refine jX ?_
  replace m := m.drew
  have d := m.has.jE (Kb (Kb (Kr Sn)))
  refine kM d ko (X 0 rfl d (jN rfl) (X 1 rfl d (mH rfl) (X 2 rfl d (jM vw rfl) (XH 3 rfl d (fun _ q => jG rfl (jS q (Mt Mh) rfl gF)) (XH 4 rfl d (fun _ q => jG rfl (jO q Mh (jH G) rfl bL aI)) (XH 5 rfl d (fun _ q => oP (k := G) (z := (.map none)) yw eH fp rfl rfl Q (fun b o F => q.2 b o (Mt (Mt (Ml F))))) (X 6 rfl d (IA jZ.1 fw Q rfl rfl) (kV kr (jQ (CI I rfl (fun b7 I => ?_) (fun b7 I => ?_)))))))))))
  ·replace m := m.drew
   have d := m.has.jE (Kb (Kb Sn))
   refine kM d ko (X 0 rfl d (jN rfl) (X 1 rfl d (mH rfl) (X 2 rfl d (jM vw rfl) (XH 3 rfl d (fun _ q => jG rfl (jS q (Mt Mh) rfl gF)) (XH 4 rfl d (fun _ q => jG rfl (jO q Mh (jH G) rfl bL aI)) (XE 5 rfl (CX (P := Tryz.prog) Value.string (fun (x : Bool) => (Value.bool x)) m (fun e1 e7 d9 m b3 => ?_))))))))
   have d := m.has.jE (Dr (Kb (Kb Sn)))
   refine ⟨d, ?_⟩
   replace m := m.perm (Nr (Qr (Qb (Qb Qz))) Nz)
   refine bS I fun e4 b9 I => XO 6 rfl (KM (k := G) (z := ([]))  yw eH m Q rfl rfl rfl b3 b9 (fun e2 c4 m b4 => ?_))
   have d := m.has.jE (Dr (Kb (Kb Sn)))
   refine ⟨d, (kV kr (jQ ?_))⟩
   obtain rfl := sj I
   exact ⟨c4, _, (m.jE (Sb (Pr Pz) (Sb (Pr Pz) St))), rfl, rfl, rfl, b4.e⟩
  refine kn ?_
  obtain rfl := sj I
  exact ⟨D, _, (m.jE St), rfl, rfl, rfl, Q.e⟩
 rintro f2 E W ⟨O, c0, m, L, c1, c2, c8⟩ T
 refine jX ?_
 replace m := m.drew
 have d := m.has.jE (Kb (Kb Sn))
 have n := m.has.jE (Db (Db (Kr Sn)))
 refine tV 7 d n ko (kX 0 rfl kr (.inl rfl) rfl dc (fun _ _ h => ⟨h.1, lF br h.2⟩) ⟨d, fun _ => n⟩ (fun _ _ _ _ => jN L) (kX 1 rfl kr (.inl rfl) rfl dc (fun _ _ h => ⟨h.1, lF br h.2⟩) ⟨d, fun _ => n⟩ (fun _ _ _ _ => mH rfl) (kX 2 rfl kr (.inl rfl) rfl dc (fun _ _ h => ⟨h.1, lF br h.2⟩) ⟨d, fun _ => n⟩ (fun _ _ _ _ => jM vw rfl) (kX 3 rfl kr (.inl rfl) rfl dc (fun _ _ h => ⟨h.1, lF br h.2⟩) ⟨d, fun _ => n⟩ (fun l W s A => have q := A.1; jG rfl (jS q (Mt Mh) rfl gF)) (kX 4 rfl kr (.inl rfl) rfl dc (fun _ _ h => ⟨h.1, lF br h.2⟩) ⟨d, fun _ => n⟩ (fun l W s A => have q := A.1; jG c2 (jO q Mh (jH G) rfl bL aI)) ?_)))))
 obtain ⟨e5, a9⟩ := c8
 refine kX 5 rfl kr (.inl rfl) rfl dc (fun _ _ h => ⟨h.1, lF br h.2⟩) ⟨d, fun _ => n⟩ (fun l W s A => have q := (A.2 (s.B6 7 [5] kr rfl)); oP (k := G) (z := (.map none)) yw eH fp rfl rfl a9 (fun b o F => q.2 b o (Ml F))) (kX 6 rfl kr (.inl rfl) rfl dc (fun _ _ h => ⟨h.1, lF br h.2⟩) ⟨d, fun _ => n⟩ (fun _ _ _ _ => jN c1) ?_)
 replace m := m.perm (Nr (Qb (Qb Qz)) Nz)
 refine bS T fun f3 c7 T => XO 7 rfl (Lz (k := G) (v := true) (vf := (fun (x : Bool) => (Value.bool x)))  jZ.1 Fi fw m a9 rfl rfl rfl c7 (fun e8 c9 m c5 => ?_))
 have d := m.has.jE (Dr (Kb (Kb Sn)))
 refine ⟨⟨d, fun h => ym kr h⟩, (kV kr (jQ (sg (Wh L (Wn (Wf DD (VB m (Ma (Mt Mh)) rfl rfl cL (Wi rfl (Wn (Wf DD ?_))))))))))⟩
 replace m := m.perm (Nb (Pr (Pb Pz)) Nz)
 refine VO (jY (.int .i64 (IntKind.i64.wrap (H + 1))) (#[g, a, j, c, i, (.int .i64 (IntKind.i64.wrap (H + 1)))]) m rfl rfl fH (Aq _ (IntKind.i64.wrap (H + 1))) nb rfl (fun e9 m => ln ?_))
 replace m := m.drew
 have d := m.has.jE (Db (Dr (Kb Sn)))
 have n := m.has.jE (Kb Sn)
 refine tV 12 d n ko (kX 0 rfl kr (.inl rfl) rfl dc (fun _ _ h => ⟨h.1, lF br h.2⟩) ⟨d, fun _ => n⟩ (fun _ _ _ _ => jN L) (kX 1 rfl kr (.inl rfl) rfl dc (fun _ _ h => ⟨h.1, lF br h.2⟩) ⟨d, fun _ => n⟩ (fun _ _ _ _ => jN L) (kX 2 rfl kr (.inl rfl) rfl dc (fun _ _ h => ⟨h.1, lF br h.2⟩) ⟨d, fun _ => n⟩ (fun _ _ _ _ => mH rfl) (kX 3 rfl kr (.inl rfl) rfl dc (fun _ _ h => ⟨h.1, lF br h.2⟩) ⟨d, fun _ => n⟩ (fun _ _ _ _ => jM yX rfl) (kX 4 rfl kr (.inl rfl) rfl dc (fun _ _ h => ⟨h.1, lF br h.2⟩) ⟨d, fun _ => n⟩ (fun l W s A => have q := (A.2 (s.B6 12 [4] kr rfl)); jG rfl (jS q Mh rfl isAgg68)) (kX 5 rfl kr (.inl rfl) rfl dc (fun _ _ h => ⟨h.1, lF br h.2⟩) ⟨d, fun _ => n⟩ (fun l W s A => have q := A.1; jG c2 (jO q Mh (jH G) rfl bL aI)) (kX 6 rfl kr (.inl rfl) rfl dc (fun _ _ h => ⟨h.1, lF br h.2⟩) ⟨d, fun _ => n⟩ (fun _ _ _ _ => jN c1) (kX 7 rfl kr (.inl rfl) rfl dc (fun _ _ h => ⟨h.1, lF br h.2⟩) ⟨d, fun _ => n⟩ (fun _ _ _ _ => ma (v := (.agg (lO (⟨G, U⟩ : jR)).toArray)) (qf rfl rfl) (ly jw fI (Pn _ fI) kr)) (XE 8 rfl (kJ (cs := (lO (⟨G, U⟩ : jR)).toArray) m (mQ rfl) (na gP jx jw) (fun f0 d4 m => ?_)))))))))))
 have d := m.has.jE (Db (Db (Dr (Kb Sn))))
 have n := m.has.jE (Db (Kb Sn))
 refine ⟨⟨d, fun _ => n⟩, ?_⟩
 replace m := m.perm (Nr (Qb (Qb (Qr (Qb (Qr (Qr (Qr Qz))))))) Nz)
 refine bS T fun b0 c6 T => XE 9 rfl (Iv (enc := lO) (v := i) (vs := (.slice (some ⟨d4, 0, none⟩) 1 1)) (R := t) m wZ dc Jc gP EM.1 EM.2.1 rfl EM.2.2.1 EM.2.2.2 rfl rfl K (Sl.lit (enc := lO) (l := [(⟨G, U⟩ : jR)]) wZ rfl nb rfl (m.at_ (Ma Mh))) c6 (fun f1 e6 d0 m a7 => ?_))
 have d := m.has.jE (Dr (Db (Db (Dr (Kb Sn)))))
 have n := m.has.jE (Dr (Db (Kb Sn)))
 refine ⟨⟨d, fun _ => n⟩, (kX 10 rfl kr (.inl rfl) rfl dc (fun _ _ h => ⟨h.1, lF br h.2⟩) ⟨d, fun _ => n⟩ (fun _ _ _ _ => mH rfl) (kX 11 rfl kr (.inl rfl) rfl dc (fun _ _ h => ⟨h.1, lF br h.2⟩) ⟨d, fun _ => n⟩ (fun _ _ _ _ => jM yX rfl) ?_))⟩
 obtain ⟨a3, a4, rfl⟩ := a7.form
 let a2 : Value := (.slice a3 b0.length a4)
 replace m := m.perm (Nb (Pr (Pb Pz)) Nz)
 refine XO 12 rfl (jY a2 (#[g, a, j, c, a2, (.int .i64 (IntKind.i64.wrap (H + 1)))]) m rfl rfl sizeOf68 oc nb rfl (fun e0 m => ?_))
 have d := m.has.jE (Db (Dr (Db (Dr (Kb Sn)))))
 refine ⟨⟨d, fun h => ym kr h⟩, (kV kr (pM ?_))⟩
 obtain rfl := sj T
 exact ow rfl ⟨_, _, rfl, (m.mg (Kb (Sr (Qr (Qb Qz)) (Sr (Qr (Qb (Qb Qz))) (Sr (Qr (Qb (Qb Qz))) (Sr (Qr (Qb (Qb Qz))) (Kr Sn))))))), c9, a2, d0, rfl, rfl, c5.e, a7⟩
theorem uA (a : Value) (g : List (ByteArray × Bool)) (r : Unit) (w : World) (c : uL Value.string (fun (x : Bool) => (Value.bool x)) (hp w) a g) (hm : nZ g = some r) :
  lC true Tryz.prog 234 [a] w [] (fun v k W' => ∃ i, v = (.func (.func 327) #[] #[(.pointer (some ⟨i, 0, none⟩))]) ∧ k = ((i, Ob #[a] 296) :: [])) := by
 refine wX 4 func234 rfl (fun b => sg ?_)
 obtain ⟨t, rfl⟩ := c.form
 refine VE (kH b rfl (fun u j b => Wa (lr (V (qX (by exact tD rfl) rfl) (Wa (lt ?_))))))
 obtain rfl := sj hm
 exact lq (v := (.func (.func 327) #[] #[(.pointer (some ⟨j, 0, none⟩))])) rfl rfl ⟨_, _, rfl, (b.Ni (Kb Sn)), j, rfl, rfl⟩
theorem F2 {β : Type} {vf : β → Value} {l : List (ByteArray × β)} {b : Nat} {a : Value} {W : World} {r : List ByteArray} (c : W.heap[b]? = some (.cells #[a] 296 (0, 0))) (hm : uL Value.string vf (hp W) a l) (hk : ES l = some r) : mw false Tryz.prog 159 [.func (.func 327) #[] #[.pointer (some ⟨b, 0, none⟩)]] W 9 Bs 1 r := It (P := Tryz.prog) Nx N9 Pk rfl bQ call327 call273 c hm hk
theorem wQ (T : Nat) (a : Value) (u : List (jB × (List (ByteArray × Bool)))) (c : Value) (t : List jA) (j : Value) (G : List (jB × (List jA))) (g : Value) (B : List (ByteArray × (List jA))) (i : Value) (D : List jR) (Q : Int) (H : jB) (r : List ByteArray) (w : World) (J : qC (fun (x : jB) => (.agg (jH x).toArray)) (lA Value.string (fun (x : Bool) => (Value.bool x))) (hp w) a u) (Z : Sl (Pl jD) 9 (hp w) c t) (a4 : qC (fun (x : jB) => (.agg (jH x).toArray)) (kk 53 jD 9) (hp w) j G) (a0 : qC Value.string (kk 53 jD 9) (hp w) g B) (a3 : Sl (Pl lO) 3 (hp w) i D) (Y : At (hp w) (.pointer (some ⟨T, 0, none⟩)) [a, c, j, g, i, (.int .i64 Q)]) (hm : pL u t G B D Q H = some r) :
  mw false Tryz.prog 119 [(.pointer (some ⟨T, 0, none⟩)), (.agg (jH H).toArray)] w 9 Bs 1 r := by
 refine wX 15 func119 rfl (fun d => sg (VE (kH d rfl (fun W2 R d => Wa (lS (Wm (V (rS underlying171 rfl rfl) (ln (oS rfl ?_)))))))))
 refine kn (jX ?_)
 replace d := d.drew
 have h := d.has.jE (Kb Sn)
 refine kM h ko (X 0 rfl h (jN rfl) (X 1 rfl h (mH rfl) (XQ 2 rfl h (tY [a] vw rfl Y rfl) (fun b9 A => XH 3 rfl h (fun _ l => jG rfl (qO l (y := a) A gF)) (XH 4 rfl h (fun _ l => jG rfl (jO l Mh (jH H) rfl bL aI)) ?_)))))
 obtain ⟨a9, b4, K, M⟩ := J
 refine XH 5 rfl h (fun _ l => oP (k := H) (z := (.map none)) yw eH fp rfl rfl K (fun b o m => l.1 b o (M b o m))) (bS hm fun c0 F hm => ?_)
 refine XE 6 rfl (G4 d (bT _) call234 (fun _ _ _ _ => lC.lD (uA (qz kc a9 H (.map none)) ((lg kc u H).getD []) _ _ ((my.BE jZ.1 K H M).mono d.jJ) F)) (fun b5 c2 c3 W d I q n a5 => ?_) (L0 := []))
 obtain ⟨b7, N, rfl⟩ := a5
 replace N := N.symm; subst N
 replace d := d.perm (Tb Tn)
 have h := d.has.oA I (Db (Kb Sn))
 refine ⟨h, (bS hm fun c1 L hm => XE 7 rfl (sG d call159 (F2 (vf := (fun (x : Bool) => (Value.bool x))) (d.has.2 _ _ Mh) ((my.BE jZ.1 K H M).mono (fun b o m => d.has.1 b o (I b o m))) L) (fun b6 P c4 O d a2 s U => ?_)))⟩
 have h := d.has.oA (I.trans a2) (Dr (Db (Kb Sn)))
 refine ⟨h, (X 8 rfl h (nU rfl) (kV kr (jQ ?_)))⟩
 replace d := d.jE (Kr (Db (Db St)))
 refine kB ?_
 obtain rfl := sj hm
 exact lq (v := P) rfl rfl ⟨_, O, rfl, d.nQ (fun p m => (Ml m)) U.nd, U⟩
theorem Cc (K : Nat) (g : Value) (N : List (jB × (List (ByteArray × Bool)))) (G : LO) (a : Value) (H : List jA) (k : LO) (j : Value) (J : List (jB × (List jA))) (u : LO) (c : Value) (I : List (ByteArray × (List jA))) (t : LO) (z : Value) (M : List jR) (B : LO) (Z : Int) (A a2 : jB) (r : ((List (jB × (List (ByteArray × Bool)))) × (List jR) × Int)) (w : World) {μ0 : km} (h0 : ni μ0 ((K, Ob #[g, a, j, c, z, (.int .i64 Z)] 294) :: (G ++ (k ++ (u ++ (t ++ (B ++ [])))))) w) (a5 : lN (fun (x : jB) => (.agg (jH x).toArray)) (lA Value.string (fun (x : Bool) => (Value.bool x))) g N G) (Q : kk 53 jD 9 a H k) (a4 : lN (fun (x : jB) => (.agg (jH x).toArray)) (kk 53 jD 9) j J u) (T : lN Value.string (kk 53 jD 9) c I t) (a3 : pA 38 lO 3 z M B) (hm : sC N H J I M Z A a2 = some r) :
  lC false Tryz.prog 415 [(.pointer (some ⟨K, 0, none⟩)), (.agg (jH A).toArray), (.agg (jH a2).toArray)] w ((K, Ob #[g, a, j, c, z, (.int .i64 Z)] 294) :: (G ++ (k ++ (u ++ (t ++ (B ++ [])))))) (fun v L1 W' => ∃ S1 y3 S4, v = (.tuple #[]) ∧ L1 = ((K, Ob #[g, a, j, c, y3, (.int .i64 (r.2.2))] 294) :: (S1 ++ (k ++ (u ++ (t ++ (S4 ++ [])))))) ∧ lN (fun (x : jB) => (.agg (jH x).toArray)) (lA Value.string (fun (x : Bool) => (Value.bool x))) g r.1 S1 ∧ pA 38 lO 3 y3 r.2.1 S4) := by
 refine yl h0 21 func415 rfl (fun d => sg (VE (kH d rfl (fun W2 b1 d => VE (kH d rfl (fun W4 b3 d => lr (Wm (VA d (Mt Mh) (jH A) bL aI (bS hm fun r5 e6 hm => VE (sG d call119 (wQ K g N a H j J c I z M Z A _ _ (a5.at (fun b o l => d.at_ (Mt (Mt (Mt (Ml l)))))) (Q.sl lm (fun b o l => d.at_ (Mt (Mt (Mt (Ma (Ml l))))))) (a4.at (fun b o l => d.at_ (Mt (Mt (Mt (Ma (Ma (Ml l)))))))) (T.at (fun b o l => d.at_ (Mt (Mt (Mt (Ma (Ma (Ma (Ml l))))))))) ((a3.B7 wZ).mono (Pl.mono _) (mf (fun b o l => d.at_ (Mt (Mt (Mt (Ma (Ma (Ma (Ma (Ml l))))))))))) (At.of (d.at_ (Mt (Mt Mh))) _ rfl) e6) (fun W7 e7 s e2 d f5 ae a9 => V (qV jl rfl a9) (Wm ?_))))))))))))
 refine ln ?_
 replace d := d.jE (Kr (Kb (Db St)))
 refine uD (li (fun i E W => ∃ m U a0 n Y q F P, (E 12 = .int .i64 (i : Nat) ∧ E 11 = .int .i64 (r5.length : Nat)) ∧ kf s F ∧ ST false (keys ((K, Ob #[g, a, j, c, z, (.int .i64 Z)] 294) :: (G ++ (k ++ (u ++ (t ++ (B ++ []))))))) w W F ((K, Ob #[g, a, j, c, a0, (.int .i64 q)] 294) :: ((b3, Ol (jH a2) 28) :: (U ++ (k ++ (u ++ (t ++ (Y ++ (e2 ++ P)))))))) ∧ E 0 = (.pointer (some ⟨K, 0, none⟩)) ∧ E 5 = (.pointer (some ⟨b3, 0, none⟩)) ∧ E 10 = e7 ∧ lN (fun (x : jB) => (.agg (jH x).toArray)) (lA Value.string (fun (x : Bool) => (Value.bool x))) g m U ∧ pA 38 lO 3 a0 n Y ∧ px H J I a2 (r5.drop i) m n q = some r) r5.length a9.len ⟨N, G, z, M, B, Z, s, _, ⟨rfl, rfl⟩, (kf.refl _), (d.jE (Sb (Pr (Pb Pz)) (Sb (Pr Pz) (Sr (Qr Qz) (Sr (Qr Qz) (Sr (Qr Qz) (Sr (Qr Qz) (Sr (Qr Qz) St)))))))), rfl, rfl, rfl, a5, a3, hm⟩ dc dc dc (fun _ _ _ h => by obtain ⟨_, _, _, _, _, _, _, _, aa, _⟩ := h; exact aa) ?_ ?_)
 ·rintro d8 E W c9 ⟨m, U, a0, n, Y, q, F, P, ⟨eI, eN⟩, b6, d, R, c1, c2, L, O, D⟩
  obtain ⟨c4, f0, d2, c5, d3⟩ := kP c9
  rw [d2] at D
  refine bg (VQ (nz (i := (d8 : Int)) (x0 := c4) jl fG c2 eI a9 (aJ _) c5) (fun f6 d0 => V (jG rfl (HK d.has (fun p l => (Mt (Mt (Ma (Ma (Ma (Ma (Ma (Ml l))))))))) a9 (fun _ => rfl) d0 c5 (y := (.string c4)) rfl bZ)) (Wa (ln (jW (Wh R (V (jG c1 (jO d.has (Mt Mh) (jH a2) rfl bL aI)) (Wm (bS D fun c3 d1 D => ?_)))))))))
  refine VE (eM d (Cb Pz (Cr (Qb Qz) (Cr (Qb Qz) (Cr (Qb Qz) (Cr (Qb Qz) (Cr (Qb Qz) Cn)))))) call370 (fun hh _ => lC.lD (ql K g m U a H k j J u c I t a0 n Y q a2 c4 _ _ hh L Q a4 T O d1)) ?_)
  rintro _ f7 e1 f2 d c7 ab ad ⟨d6, e0, d7, b4, rfl, d4, d5⟩
  obtain rfl := b4.symm
  replace d := d.perm (Tb (Tr (Tr (Tr (Tr (Tr Tn))))))
  exact ky (kF (jQ ⟨eI, c3.1, d6, e0, c3.2.1, d7, c3.2.2, e1, _, ⟨rfl, eN⟩, (b6.trans c7), (d.jE (Kb (Sb (Pr (Pr (Pr (Pr (Pr Pz))))) St))), R, c1, c2, d4, d5, (by rw [d3]; exact D)⟩))
 rintro E W ⟨m, U, a0, n, Y, q, F, P, ⟨eI, eN⟩, b6, d, R, c1, c2, L, O, D⟩
 rw [aP] at D
 refine jQ ?_
 replace d := d.jE (Kb (Db (Kr (Kr (Kr (Kr (Kr (Dr St))))))))
 refine pM ?_
 obtain rfl := sj D
 exact ow rfl ⟨_, _, rfl, (d.mg (Kb (Kr (Kr (Kr (Kr (Kr Sn))))))), U, a0, Y, rfl, rfl, L, O⟩
theorem xD (K : Nat) (G : Value) (Z : List (jB × (List (ByteArray × Bool)))) (D : LO) (g : Value) (I : List jA) (a : LO) (B : Value) (N : List (jB × (List jA))) (y : LO) (i : Value) (J : List (ByteArray × (List jA))) (c : LO) (t : Value) (M : List jR) (j : LO) (a0 : Int) (Q : jA) (a2 : jR) (r : ((List (jB × (List (ByteArray × Bool)))) × (List jR) × Int)) (w : World) {μ0 : km} (h0 : ni μ0 ((K, Ob #[G, g, B, i, t, (.int .i64 a0)] 294) :: (D ++ (a ++ (y ++ (c ++ (j ++ [])))))) w) (U : lN (fun (x : jB) => (.agg (jH x).toArray)) (lA Value.string (fun (x : Bool) => (Value.bool x))) G Z D) (T : kk 53 jD 9 g I a) (a3 : lN (fun (x : jB) => (.agg (jH x).toArray)) (kk 53 jD 9) B N y) (Y : lN Value.string (kk 53 jD 9) i J c) (H : pA 38 lO 3 t M j) (hm : qH Z I N J M a0 Q a2 = some r) :
  lC false Tryz.prog 371 [(.pointer (some ⟨K, 0, none⟩)), (.agg (jD Q).toArray), (.agg (lO a2).toArray)] w ((K, Ob #[G, g, B, i, t, (.int .i64 a0)] 294) :: (D ++ (a ++ (y ++ (c ++ (j ++ [])))))) (fun v L1 W' => ∃ S1 y3 S4, v = (.tuple #[]) ∧ L1 = ((K, Ob #[G, g, B, i, y3, (.int .i64 (r.2.2))] 294) :: (S1 ++ (a ++ (y ++ (c ++ (S4 ++ [])))))) ∧ lN (fun (x : jB) => (.agg (jH x).toArray)) (lA Value.string (fun (x : Bool) => (Value.bool x))) G r.1 S1 ∧ pA 38 lO 3 y3 r.2.1 S4) := by
 let A := (#[G, g, B, i, t, (.int .i64 a0)] : Array Value)
 refine yl h0 57 func371 rfl (fun d => sg (VE (kH d rfl (fun W2 F d => VE (kH d rfl (fun W4 O d => lr (Wf xh (VB d (Mt Mh) rfl rfl cL (ln (lQ (jX ?_)))))))))))
 refine jW (Wi rfl (Wa (ln (CI hm rfl (fun e5 hm => ?_) (fun e5 hm => ?_)))))
 ·refine jW (Wm (Wf uo (VA d (Mt Mh) (jH Q.Head) bL aI (Wf Ba (VB d Mh rfl rfl bZ (bS hm fun r6 e6 hm => ?_))))))
  refine VE (eM d (Cb (Pb (Pb Pz)) (Cr (Qb (Qb Qz)) (Cr (Qb (Qb Qz)) (Cr (Qb (Qb Qz)) (Cr (Qb (Qb Qz)) (Cr (Qb (Qb Qz)) Cn)))))) call370 (fun s _ => lC.lD (ql K G Z D g I a B N y i J c t M j a0 Q.Head a2.kA _ _ s U T a3 Y H e6)) ?_)
  rintro _ g7 ad f8 d f2 a6 m ⟨d2, e7, d3, a8, rfl, c5, c6⟩
  obtain rfl := a8.symm
  replace d := d.perm (Tb (Tr (Tr (Tr (Tr (Tr Tn))))))
  refine ky (kF (pM ?_))
  obtain rfl := sj hm
  exact ow rfl ⟨_, _, rfl, (d.mg (Kb (Kr (Kr (Kr (Kr (Kr Sn))))))), d2, e7, d3, rfl, rfl, c5, c6⟩
 refine sg (Wi rfl (Wa (ln (CI hm rfl (fun c0 hm => ?_) (fun c0 hm => ?_)))))
 ·refine jW (Wm (Wf Ba (VB d Mh rfl rfl bZ (Wf yg (VB d (Mt Mh) rfl rfl bZ (V (ma (v := (.agg (jH (⟨a2.kA, Q.kz⟩ : jB)).toArray)) (qf rfl rfl) (ly eb dx (MU _ dx) kr)) (Wf uo (VA d (Mt Mh) (jH Q.Head) bL aI (bS hm fun g3 c3 hm => ?_)))))))))
  refine VE (eM d (Cb (Pb (Pb Pz)) (Cr (Qb (Qb Qz)) (Cr (Qb (Qb Qz)) (Cr (Qb (Qb Qz)) (Cr (Qb (Qb Qz)) (Cr (Qb (Qb Qz)) Cn)))))) call415 (fun s _ => (Cc K G Z D g I a B N y i J c t M j a0 (⟨a2.kA, Q.kz⟩ : jB) Q.Head _ _ s U T a3 Y H c3)) ?_)
  rintro _ g8 h2 f9 d f3 aa m ⟨d4, e9, d5, a9, rfl, c7, c8⟩
  obtain rfl := a9.symm
  replace d := d.perm (Tb (Tr (Tr (Tr (Tr (Tr Tn))))))
  refine ky (kF (pM ?_))
  obtain rfl := sj hm
  exact ow rfl ⟨_, _, rfl, (d.mg (Kb (Kr (Kr (Kr (Kr (Kr Sn))))))), d4, e9, d5, rfl, rfl, c7, c8⟩
 refine sg (Wi rfl (Wa (ln (CI hm rfl (fun c1 hm => ?_) (fun c1 hm => ?_)))))
 ·refine jX ?_
  replace d := d.drew
  have h := d.has.jE (Kb (Kb (Kb (Kr Sn))))
  refine kM h ko (X 0 rfl h (jN rfl) (X 1 rfl h (mH rfl) (X 2 rfl h (jM vw rfl) (XH 3 rfl h (fun _ l => jG rfl (jS l (Mt (Mt Mh)) rfl gF)) (X 4 rfl h (jM pu rfl) (XH 5 rfl h (fun _ l => jG rfl (jO l (Mt Mh) (jH Q.B) rfl bL aI)) ?_))))))
  obtain ⟨f7, a5⟩ := U
  refine XH 6 rfl h (fun _ l => oP (k := Q.B) (z := (.map none)) yw eH fp rfl rfl a5 (fun b o n => l.2 b o (Mt (Mt (Mt (Ml n)))))) (X 7 rfl h (jM Ba rfl) (XH 8 rfl h (fun _ l => jG rfl (jS l Mh rfl bZ)) (XH 9 rfl h (fun _ l => wY (k := a2.kA) (z := false) (vf := (fun (x : Bool) => (Value.bool x))) Fi fw ir rfl rfl (my.BE (μ := hp _) jZ.1 a5 Q.B (fun b o n => l.2 b o (Mt (Mt (Mt (Ml n))))))) (X 10 rfl h (jN rfl) (PJ hm (fun R E W => ∃ P, ST false (keys ((K, Obj.cells A 294 (0, 0)) :: (D ++ (a ++ (y ++ (c ++ (j ++ []))))))) w W μ0 ((O, Ol (lO a2) 38) :: ((F, Ol (jD Q) 53) :: ((K, Obj.cells A 294 (0, 0)) :: (D ++ (a ++ (y ++ (c ++ (j ++ P)))))))) ∧ E 0 = (.pointer (some ⟨K, 0, none⟩)) ∧ E 4 = (.pointer (some ⟨F, 0, none⟩)) ∧ E 5 = (.pointer (some ⟨O, 0, none⟩)) ∧ E 50 = (.bool R)) (bm 22 4194303) 0 ?_ (fun R q L => ?_))))))
  ·rintro h1 E W ⟨P, d, e1, e2, e3, e4⟩ a4
   refine kV kr (jQ (CI a4 e4 (fun c2 a4 => ?_) (fun c2 a4 => ?_)))
   ·refine jW (Wh e1 (V (jM uo e2) (VA d (Mt Mh) (jH Q.Head) bL aI (V (jM Ba e3) (VB d Mh rfl rfl bZ (bS a4 fun g4 c4 a4 => ?_))))))
    refine VE (eM d (Cb (Pb (Pb Pz)) (Cr (Qb (Qb Qz)) (Cr (Qb (Qb Qz)) (Cr (Qb (Qb Qz)) (Cr (Qb (Qb Qz)) (Cr (Qb (Qb Qz)) Cn)))))) call370 (fun s _ => lC.lD (ql K G Z D g I a B N y i J c t M j a0 Q.Head a2.kA _ _ s a5.e T a3 Y H c4)) ?_)
    rintro _ g9 h3 g0 d f4 ab m ⟨d7, f0, d8, b0, rfl, c9, d0⟩
    obtain rfl := b0.symm
    replace d := d.perm (Tb (Tr (Tr (Tr (Tr (Tr Tn))))))
    refine ky (kF (pM ?_))
    obtain rfl := sj a4
    exact ow rfl ⟨_, _, rfl, (d.mg (Kb (Kr (Kr (Kr (Kr (Kr Sn))))))), d7, f0, d8, rfl, rfl, c9, d0⟩
   refine ll (kF (pM ?_))
   obtain rfl := sj a4
   exact ow rfl ⟨_, _, rfl, (d.mg (Db (Db (Kb (Kr (Kr (Kr (Kr (Kr Sn))))))))), D, t, j, rfl, rfl, a5.e, H⟩
  refine bC q (fun u q => ?_) (fun u q => ?_)
  ·refine Xg 11 rfl rfl (cB u) h (jN rfl) (Xg 12 rfl rfl (cB u) h (mH rfl) (Xg 13 rfl rfl (cB u) h (jM vw rfl) (ri 14 rfl rfl (cB u) h (fun _ l => jG rfl (jS l (Mt (Mt Mh)) rfl gF)) (Xg 15 rfl rfl (cB u) h (jM xt rfl) (ri 16 rfl rfl (cB u) h (fun _ l => jG rfl (jO l (Mt Mh) (jH Q.C) rfl bL aI)) (ri 17 rfl rfl (cB u) h (fun _ l => oP (k := Q.C) (z := (.map none)) yw eH fp rfl rfl a5 (fun b o n => l.2 b o (Mt (Mt (Mt (Ml n)))))) (Xg 18 rfl rfl (cB u) h (jM Ba rfl) (ri 19 rfl rfl (cB u) h (fun _ l => jG rfl (jS l Mh rfl bZ)) (ri 20 rfl rfl (cB u) h (fun _ l => wY (k := a2.kA) (z := false) (vf := (fun (x : Bool) => (Value.bool x))) Fi fw ir rfl rfl (my.BE (μ := hp _) jZ.1 a5 Q.C (fun b o n => l.2 b o (Mt (Mt (Mt (Ml n))))))) (X 21 rfl h (kd (cB u) rfl) ?_))))))))))
   obtain rfl := sj q
   refine lU kr (L _ _ ⟨_, (d.jE St), rfl, rfl, rfl, rfl⟩)
  refine Xn 11 rfl rfl (cB u) h (Xn 12 rfl rfl (cB u) h (Xn 13 rfl rfl (cB u) h (Xn 14 rfl rfl (cB u) h (Xn 15 rfl rfl (cB u) h (Xn 16 rfl rfl (cB u) h (Xn 17 rfl rfl (cB u) h (Xn 18 rfl rfl (cB u) h (Xn 19 rfl rfl (cB u) h (Xn 20 rfl rfl (cB u) h (X 21 rfl h (ke (cB u) rfl) ?_))))))))))
  obtain rfl := sj q
  refine lU kr (L _ _ ⟨_, (d.jE St), rfl, rfl, rfl, rfl⟩)
 refine ll (kF (pM ?_))
 obtain rfl := sj hm
 exact ow rfl ⟨_, _, rfl, (d.mg (Db (Db (Kb (Kr (Kr (Kr (Kr (Kr Sn))))))))), D, t, j, rfl, rfl, U, H⟩
theorem AN (K : Nat) (g : Value) (T : List (jB × (List (ByteArray × Bool)))) (D : LO) (a : Value) (G : List jA) (j : LO) (t : Value) (J : List (jB × (List jA))) (u : LO) (c : Value) (H : List (ByteArray × (List jA))) (k : LO) (z : Value) (M : List jR) (B : LO) (a0 : Int) (Z : jA) (r : ((List (jB × (List (ByteArray × Bool)))) × (List jR) × Int)) (w : World) {μ0 : km} (h0 : ni μ0 ((K, Ob #[g, a, t, c, z, (.int .i64 a0)] 294) :: (D ++ (j ++ (u ++ (k ++ (B ++ [])))))) w) (a2 : lN (fun (x : jB) => (.agg (jH x).toArray)) (lA Value.string (fun (x : Bool) => (Value.bool x))) g T D) (N : kk 53 jD 9 a G j) (Y : lN (fun (x : jB) => (.agg (jH x).toArray)) (kk 53 jD 9) t J u) (Q : lN Value.string (kk 53 jD 9) c H k) (U : pA 38 lO 3 z M B) (hm : rB T G J H M a0 Z = some r) :
  lC false Tryz.prog 325 [(.pointer (some ⟨K, 0, none⟩)), (.agg (jD Z).toArray)] w ((K, Ob #[g, a, t, c, z, (.int .i64 a0)] 294) :: (D ++ (j ++ (u ++ (k ++ (B ++ [])))))) (fun v L1 W' => ∃ S1 y3 S4, v = (.tuple #[]) ∧ L1 = ((K, Ob #[g, a, t, c, y3, (.int .i64 (r.2.2))] 294) :: (S1 ++ (j ++ (u ++ (k ++ (S4 ++ [])))))) ∧ lN (fun (x : jB) => (.agg (jH x).toArray)) (lA Value.string (fun (x : Bool) => (Value.bool x))) g r.1 S1 ∧ pA 38 lO 3 y3 r.2.1 S4) := by
 refine yl h0 33 func325 rfl (fun d => sg (VE (kH d rfl (fun W2 b1 d => lr (Wf xh (VB d Mh rfl rfl cL (ln (bg ?_))))))))
 refine Wi rfl (Wa (ln (CI hm rfl (fun f1 hm => ?_) (fun f1 hm => ?_))))
 ·refine jW (Wm (Wf uo (VA d Mh (jH Z.Head) bL aI (Wf AG (VB d Mh rfl rfl bZ (bS hm fun r4 f2 hm => ?_))))))
  refine VE (eM d (Cb (Pb Pz) (Cr (Qb Qz) (Cr (Qb Qz) (Cr (Qb Qz) (Cr (Qb Qz) (Cr (Qb Qz) Cn)))))) call370 (fun hh _ => lC.lD (ql K g T D a G j t J u c H k z M B a0 Z.Head Z.kA _ _ hh a2 N Y Q U f2)) ?_)
  rintro _ h1 ae g8 d g2 ad m ⟨e7, f4, e8, c2, rfl, e0, e1⟩
  obtain rfl := c2.symm
  replace d := d.perm (Tb (Tr (Tr (Tr (Tr (Tr Tn))))))
  refine ky (kF (pM ?_))
  obtain rfl := sj hm
  exact ow rfl ⟨_, _, rfl, (d.mg (Kb (Kr (Kr (Kr (Kr (Kr Sn))))))), e7, f4, e8, rfl, rfl, e0, e1⟩
 refine sg (Wm (Wf pu (VA d Mh (jH Z.B) bL aI (bS hm fun c6 d9 hm => VE (sG d call119 (wQ K g T a G t J c H z M a0 Z.B _ _ (a2.at (fun b o l => d.at_ (Mt (Mt (Ml l))))) (N.sl lm (fun b o l => d.at_ (Mt (Mt (Ma (Ml l)))))) (Y.at (fun b o l => d.at_ (Mt (Mt (Ma (Ma (Ml l))))))) (Q.at (fun b o l => d.at_ (Mt (Mt (Ma (Ma (Ma (Ml l)))))))) ((U.B7 wZ).mono (Pl.mono _) (mf (fun b o l => d.at_ (Mt (Mt (Ma (Ma (Ma (Ma (Ml l)))))))))) (At.of (d.at_ (Mt Mh)) _ rfl) d9) (fun g9 f3 d5 e5 d f6 ab F => V (qV jl rfl F) (Wm (ln (uD (li (fun i E W => ∃ n a3 a5 q a4 a9 L R, (E 13 = .int .i64 (i : Nat) ∧ E 12 = .int .i64 (c6.length : Nat)) ∧ kf d5 L ∧ ST false (keys ((K, Ob #[g, a, t, c, z, (.int .i64 a0)] 294) :: (D ++ (j ++ (u ++ (k ++ (B ++ []))))))) w W L ((K, Ob #[g, a, t, c, a5, (.int .i64 a9)] 294) :: ((b1, Ol (jD Z) 53) :: (a3 ++ (j ++ (u ++ (k ++ (a4 ++ (e5 ++ R)))))))) ∧ E 0 = (.pointer (some ⟨K, 0, none⟩)) ∧ E 3 = (.pointer (some ⟨b1, 0, none⟩)) ∧ E 11 = f3 ∧ lN (fun (x : jB) => (.agg (jH x).toArray)) (lA Value.string (fun (x : Bool) => (Value.bool x))) g n a3 ∧ pA 38 lO 3 a5 q a4 ∧ oK G J H Z (c6.drop i) n q a9 = some r) c6.length F.len ⟨T, D, z, M, B, a0, d5, _, ⟨rfl, rfl⟩, (kf.refl _), (d.jE (Sb (Pr (Pb Pz)) (Sb (Pr Pz) (Sr (Qr Qz) (Sr (Qr Qz) (Sr (Qr Qz) (Sr (Qr Qz) (Sr (Qr Qz) St)))))))), rfl, rfl, rfl, a2, U, hm⟩ dc dc dc (fun _ _ _ h => by obtain ⟨_, _, _, _, _, _, _, _, a1, _⟩ := h; exact a1) ?_ ?_))))))))))
 ·rintro e2 E W c8 ⟨n, a3, a5, q, a4, a9, L, R, ⟨eI, eN⟩, b7, d, c0, A, c1, O, P, I⟩
  obtain ⟨s, f7, d1, c4, d2⟩ := kP c8
  rw [d1] at I
  refine bg (VQ (nz (i := (e2 : Int)) (x0 := s) jl fG c1 eI F (aJ _) c4) (fun g3 c9 => V (jG rfl (HK d.has (fun p l => (Mt (Mt (Ma (Ma (Ma (Ma (Ma (Ml l))))))))) F (fun _ => rfl) c9 c4 (y := (.string s)) rfl bZ)) (Wa (ln (jW (Wh c0 (V (jG A (jO d.has (Mt Mh) (jD Z) rfl bR aH)) (V (jM pu A) (VA d (Mt Mh) (jH Z.B) bL aI (Wm (V (ma (v := (.agg (lO (⟨Z.B, s⟩ : jR)).toArray)) (qf rfl rfl) (ly jw fI (Pn _ fI) kr)) ?_)))))))))))
  refine bS I fun c3 d0 I => ?_
  refine VE (eM d (Cb Pz (Cr (Qb Qz) (Cr (Qb Qz) (Cr (Qb Qz) (Cr (Qb Qz) (Cr (Qb Qz) Cn)))))) call371 (fun hh _ => (xD K g n a3 a G j t J u c H k a5 q a4 a9 Z (⟨Z.B, s⟩ : jR) _ _ hh O N Y Q P d0)) ?_)
  rintro _ g4 e4 f9 d c5 aa m ⟨d6, e3, d7, b5, rfl, d3, d4⟩
  obtain rfl := b5.symm
  replace d := d.perm (Tb (Tr (Tr (Tr (Tr (Tr Tn))))))
  exact ky (kF (jQ ⟨eI, c3.1, d6, e3, c3.2.1, d7, c3.2.2, e4, _, ⟨rfl, eN⟩, (b7.trans c5), (d.jE (Kb (Sb (Pr (Pr (Pr (Pr (Pr Pz))))) St))), c0, A, c1, d3, d4, (by rw [d2]; exact I)⟩))
 rintro E W ⟨n, a3, a5, q, a4, a9, L, R, ⟨eI, eN⟩, b7, d, c0, A, c1, O, P, I⟩
 rw [aP] at I
 refine jQ ?_
 replace d := d.jE (Kb (Db (Kr (Kr (Kr (Kr (Kr (Dr St))))))))
 refine kF (pM ?_)
 obtain rfl := sj I
 exact ow rfl ⟨_, _, rfl, (d.mg (Kb (Kr (Kr (Kr (Kr (Kr Sn))))))), a3, a5, a4, rfl, rfl, O, P⟩
theorem Av (I : Nat) (a : Value) (e8 : List (jB × (List (ByteArray × Bool)))) (K : LO) (c : Value) (Q : List jA) (j : LO) (u : Value) (N : List (jB × (List jA))) (y : LO) (g : Value) (H : List (ByteArray × (List jA))) (t : LO) (G : Value) (d4 : List jR) (D : LO) (a0 : Int) (r : ((List (jB × (List (ByteArray × Bool)))) × (List jR) × Int)) (w : World) {μ0 : km} (h0 : ni μ0 ((I, Ob #[a, c, u, g, G, (.int .i64 a0)] 294) :: (K ++ (j ++ (y ++ (t ++ (D ++ [])))))) w) (h4 : lN (fun (x : jB) => (.agg (jH x).toArray)) (lA Value.string (fun (x : Bool) => (Value.bool x))) a e8 K) (c1 : kk 53 jD 9 c Q j) (g7 : lN (fun (x : jB) => (.agg (jH x).toArray)) (kk 53 jD 9) u N y) (c2 : lN Value.string (kk 53 jD 9) g H t) (g4 : pA 38 lO 3 G d4 D) (hm : tj e8 Q N H d4 a0 = some r) :
  lC false Tryz.prog 326 [(.pointer (some ⟨I, 0, none⟩))] w ((I, Ob #[a, c, u, g, G, (.int .i64 a0)] 294) :: (K ++ (j ++ (y ++ (t ++ (D ++ [])))))) (fun v L1 W' => ∃ S1 y3 S4, v = (.tuple #[]) ∧ L1 = ((I, Ob #[a, c, u, g, y3, (.int .i64 (r.2.2))] 294) :: (S1 ++ (j ++ (y ++ (t ++ (S4 ++ [])))))) ∧ lN (fun (x : jB) => (.agg (jH x).toArray)) (lA Value.string (fun (x : Bool) => (Value.bool x))) a r.1 S1 ∧ pA 38 lO 3 y3 r.2.1 S4) := by
 let g5 : Value := (.pointer (some ⟨I, 0, none⟩))
 let b8 := ((I, Ob #[a, c, u, g, G, (.int .i64 a0)] 294) :: (K ++ (j ++ (y ++ (t ++ (D ++ []))))))
 refine yl h0 75 func326 rfl (fun d => uD (lQ (np (fun m E W => ∃ e3 b7 e4 a1 b9 d1 b4 h5, kf μ0 b4 ∧ ST false (keys b8) w W b4 ((I, Ob #[a, c, u, g, e4, (.int .i64 d1)] 294) :: (b7 ++ (j ++ (y ++ (t ++ (b9 ++ h5)))))) ∧ E 0 = g5 ∧ lN (fun (x : jB) => (.agg (jH x).toArray)) (lA Value.string (fun (x : Bool) => (Value.bool x))) a e3 b7 ∧ pA 38 lO 3 e4 a1 b9 ∧ mO Q N H m e3 a1 d1 = some r) kC ⟨e8, K, G, d4, D, a0, μ0, _, (kf.refl _), (d.jE St), rfl, h4, g4, hm⟩ ?_)))
 rintro m E W ⟨e3, b7, e4, a1, b9, d1, b4, h5, i0, d, L, g9, c5, M⟩
 cases m with
 | zero => rw [mO] at M; cases M
 | succ n0 =>
  refine jX (sg (Wh L (Wn (Wf yX (VB d Mh rfl rfl isAgg68 (V (MK gP rfl c5) (Wi rfl (ln (CI M rfl (fun i7 M => ?_) (fun i7 M => ?_))))))))))
  ·refine kn (bg (Wh L (Wn (Wf yX (VB d Mh rfl rfl isAgg68 (bS M fun B h2 M => VQ (ot (enc := lO) (i := 0) (x0 := B) gP jx rfl rfl (c5.B7 wZ) (kj h2) (kh h2)) (fun q0 j7 => V (jG rfl (kl (nt.hp _) (j7.mono (mf (fun b o q => d.has.2 b o (Mt (Ma (Ma (Ma (Ma (Ml q))))))))) isAgg38 jx)) (VE (kv d jw (fun o9 a5 d => VO (jY (.agg (lO B).toArray) ((lO B).toArray) d rfl rfl jx (Jc B) nb rfl (fun p0 d => ky ?_))))))))))))
   let j2 := ((lg kc N B.jB).getD [])
   let j1 : Value := (.pointer (some ⟨a5, 0, none⟩))
   let i6 := ((lO B).toArray : Array Value)
   let i5 := ((lg lh H B.jB.jK).getD [])
   refine jQ (sg (Wh L (Wh L (Wn (Wf yX (VB d (Mt Mh) rfl rfl isAgg68 (bS M fun _ g8 M => VQ (J5 (i := 1) gP jx rfl rfl wZ c5 (rp g8) (ry g8)) (fun q3 h1 => Wn (Wf yX ?_)))))))))
   obtain ⟨f7, g0, rfl⟩ := h1.form
   let g6 : Value := (.slice f7 (a1.drop (Int.toNat 1)).length g0)
   replace d := d.perm (Nb (Pb Pz) Nz)
   refine VO (jY g6 (#[a, c, u, g, g6, (.int .i64 d1)]) d rfl rfl sizeOf68 oc nb rfl (fun p1 d => ln (jX (jX ?_))))
   replace d := d.drew
   have l := d.has.jE (Kb (Kb (Dr (Dr (Kr Sn)))))
   refine kM l ko (X 0 rfl l (jN L) (X 1 rfl l (mH rfl) (X 2 rfl l (jM Jm rfl) (XH 3 rfl l (fun _ n => jG rfl (jS n Mh rfl isAgg291)) (X 4 rfl l (jM G7 rfl) (XH 5 rfl l (fun _ n => jG rfl (jO n (Mt Mh) (jH B.jB) rfl bL aI)) ?_))))))
   obtain ⟨l7, c3⟩ := g7
   obtain ⟨o7, f0, k2⟩ := my.rowAt jZ.1 c3 B.jB
   refine XH 6 rfl l (fun _ n => oP (k := B.jB) (z := (.slice none 0 0)) yw underlying291 iP rfl rfl c3 (fun b o q => n.2 b o (Mt (Mt (Ml q))))) (X 7 rfl l (lf aG rfl (f0.B7 lm)) (X 8 rfl l (jN rfl) (kV kr (jQ (CJ M (fun d0 E W => ∃ d6 e5 d7 b5 h6, kf b4 b5 ∧ ST false (keys b8) w W b5 ((I, Ob #[a, c, u, g, e5, (.int .i64 d0.2.2)] 294) :: ((a5, Obj.cells i6 38 (0, 0)) :: (d6 ++ (j ++ (y ++ (t ++ (d7 ++ h6))))))) ∧ E 0 = g5 ∧ E 2 = j1 ∧ lN (fun (x : jB) => (.agg (jH x).toArray)) (lA Value.string (fun (x : Bool) => (Value.bool x))) a d0.1 d6 ∧ pA 38 lO 3 e5 d0.2.1 d7) (fun d0 j6 => ?_) ?_)))))
   ·refine li (fun i E W => ∃ c7 a3 R c8 a4 d2 d3 f9, (E 35 = .int .i64 (i : Nat) ∧ E 34 = .int .i64 (j2.length : Nat)) ∧ kf b4 d3 ∧ ST false (keys b8) w W d3 ((I, Ob #[a, c, u, g, R, (.int .i64 d2)] 294) :: ((a5, Obj.cells i6 38 (0, 0)) :: (a3 ++ (j ++ (y ++ (t ++ (a4 ++ f9))))))) ∧ E 0 = g5 ∧ E 2 = j1 ∧ E 33 = (qz kc l7 B.jB (.slice none 0 0)) ∧ lN (fun (x : jB) => (.agg (jH x).toArray)) (lA Value.string (fun (x : Bool) => (Value.bool x))) a c7 a3 ∧ pA 38 lO 3 R c8 a4 ∧ oy Q N H B (j2.drop i) c7 c8 d2 = some d0) j2.length (f0.B7 lm).len ⟨e3, b7, g6, (a1.drop (Int.toNat 1)), b9, d1, b4, _, ⟨rfl, rfl⟩, (kf.refl _), (d.jE St), L, rfl, rfl, g9, h1, j6⟩ dc dc dc (fun _ _ _ h => by obtain ⟨_, _, _, _, _, _, _, _, A, _⟩ := h; exact A) ?_ ?_
    ·rintro m5 E W j0 ⟨c7, a3, R, c8, a4, d2, d3, f9, ⟨s, eN⟩, d5, d, e1, e2, g1, f3, f4, T⟩
     obtain ⟨b3, o3, l1, l0, l2⟩ := kP j0
     rw [l1] at T
     refine bg (VQ (ot (enc := jD) (i := (m5 : Int)) (x0 := b3) aG aH g1 s (f0.B7 lm) (aJ _) l0) (fun q2 j9 => V (jG rfl (kl (nt.hp _) (j9.mono (mf (fun b o q => d.has.2 b o (Mt (Mt (Ma (Ma (Ml (k2 b o q))))))))) bR aH)) (VE (kv d cX (fun p5 p9 d => VO (jY (.agg (jD b3).toArray) ((jD b3).toArray) d rfl rfl aH (nF b3) nb rfl (fun p6 d => ln (jW (Wh e1 (VA d Mh (jD b3) bR aH (V (jG e2 (jO d.has (Mt (Mt Mh)) (lO B) rfl isAgg38 jx)) (bS T fun g3 k1 T => ?_))))))))))))
     refine VE (eM d (Cb (Pb Pz) (Cr (Qb (Qb Qz)) (Cr (Qb (Qb Qz)) (Cr (Qb (Qb Qz)) (Cr (Qb (Qb Qz)) (Cr (Qb (Qb Qz)) Cn)))))) call371 (fun hh _ => (xD I a c7 a3 c Q j u N y g H t R c8 a4 d2 b3 B _ _ hh f3 c1 c3.e c2 f4 k1)) ?_)
     rintro _ q5 n6 o6 d i4 ab F ⟨m1, n4, m2, f6, rfl, l5, l6⟩
     obtain rfl := f6.symm
     replace d := d.perm (Tb (Tr (Tr (Tr (Tr (Tr Tn))))))
     refine ky (kF (jQ ?_))
     replace d := d.jE (Kb (Kr (Kr (Kr (Kr (Kr (Db St)))))))
     exact ⟨s, g3.1, m1, n4, g3.2.1, m2, g3.2.2, n6, _, ⟨rfl, eN⟩, (d5.trans i4), (d.jE (Kb (Sb (Pr (Pr (Pr (Pr (Pr Pz))))) St))), e1, e2, g1, l5, l6, (by rw [l2]; exact T)⟩
    rintro E W ⟨c7, a3, R, c8, a4, d2, d3, f9, ⟨s, eN⟩, d5, d, e1, e2, g1, f3, f4, T⟩
    rw [aP] at T
    refine jQ ?_
    obtain rfl := sj T
    exact ⟨a3, R, a4, d3, _, d5, (d.jE St), e1, e2, f3, f4⟩
   rintro ⟨m6, m7, n1⟩ E W ⟨d6, e5, d7, b5, h6, i1, d, h8, h9, k3, k4⟩ j3
   refine jX ?_
   replace d := d.drew
   have l := d.has.jE (Kb (Kb (Dr (Dr (Dr (Kr Sn))))))
   refine kM l ko (X 0 rfl l (jN h8) (X 1 rfl l (mH rfl) (X 2 rfl l (jM FB rfl) (XH 3 rfl l (fun _ n => jG rfl (jS n Mh rfl isAgg292)) (X 4 rfl l (jM G7 h9) (X 5 rfl l (jM vd rfl) (XH 6 rfl l (fun _ n => jG rfl (jS n (Mt Mh) rfl bZ)) ?_)))))))
   obtain ⟨l8, e9⟩ := c2
   obtain ⟨o8, f1, k5⟩ := my.rowAt mc.1 e9 B.jB.jK
   refine XH 7 rfl l (fun _ n => oP (k := B.jB.jK) (z := (.slice none 0 0)) Fi underlying292 iP rfl rfl e9 (fun b o q => n.2 b o (Mt (Mt (Ml q))))) (X 8 rfl l (lf aG rfl (f1.B7 lm)) (X 9 rfl l (jN rfl) (kV kr (jQ (uD (CJ j3 (fun c9 E W => ∃ d8 e6 d9 e7 h7, kf b5 e7 ∧ ST false (keys b8) w W e7 ((I, Ob #[a, c, u, g, e6, (.int .i64 c9.2.2)] 294) :: (d8 ++ (j ++ (y ++ (t ++ (d9 ++ h7)))))) ∧ E 0 = g5 ∧ lN (fun (x : jB) => (.agg (jH x).toArray)) (lA Value.string (fun (x : Bool) => (Value.bool x))) a c9.1 d8 ∧ pA 38 lO 3 e6 c9.2.1 d9) (fun c9 j5 => ?_) ?_))))))
   ·refine li (fun i E W => ∃ a9 Y a2 P Z b2 b6 f8, (E 53 = .int .i64 (i : Nat) ∧ E 52 = .int .i64 (i5.length : Nat)) ∧ kf b5 b6 ∧ ST false (keys b8) w W b6 ((I, Ob #[a, c, u, g, a2, (.int .i64 b2)] 294) :: ((a5, Obj.cells i6 38 (0, 0)) :: (Y ++ (j ++ (y ++ (t ++ (Z ++ f8))))))) ∧ E 0 = g5 ∧ E 2 = j1 ∧ E 51 = (qz lh l8 B.jB.jK (.slice none 0 0)) ∧ lN (fun (x : jB) => (.agg (jH x).toArray)) (lA Value.string (fun (x : Bool) => (Value.bool x))) a a9 Y ∧ pA 38 lO 3 a2 P Z ∧ nr B Q N H (i5.drop i) a9 P b2 = some c9) i5.length (f1.B7 lm).len ⟨m6, d6, e5, m7, d7, n1, b5, _, ⟨rfl, rfl⟩, (kf.refl _), (d.jE St), h8, h9, rfl, k3, k4, j5⟩ dc dc dc (fun _ _ _ h => by obtain ⟨_, _, _, _, _, _, _, _, A, _⟩ := h; exact A) ?_ ?_
    ·rintro m4 E W i9 ⟨a9, Y, a2, P, Z, b2, b6, f8, ⟨s, eN⟩, a8, d, O, c0, e0, f2, c6, J⟩
     obtain ⟨U, o2, k9, k8, h3⟩ := kP i9
     rw [k9] at J
     refine bg (VQ (ot (enc := jD) (i := (m4 : Int)) (x0 := U) aG aH e0 s (f1.B7 lm) (aJ _) k8) (fun q1 j8 => V (jG rfl (kl (nt.hp _) (j8.mono (mf (fun b o q => d.has.2 b o (Mt (Mt (Ma (Ma (Ma (Ml (k5 b o q)))))))))) bR aH)) (VE (kv d cX (fun p2 p8 d => VO (jY (.agg (jD U).toArray) ((jD U).toArray) d rfl rfl aH (nF U) nb rfl (fun p3 d => ln (jX ?_))))))))
     replace d := d.drew
     have l := d.has.jE (Kb (Kb (Kb (Kr Sn))))
     refine kM l ko (X 0 rfl l (jN O) (X 1 rfl l (mH rfl) (X 2 rfl l (jM vw rfl) (XH 3 rfl l (fun _ n => jG rfl (jS n (Mt Mh) rfl gF)) (X 4 rfl l (jM pu rfl) (XH 5 rfl l (fun _ n => jG rfl (jO n Mh (jH U.B) rfl bL aI)) ?_))))))
     obtain ⟨o0, c4⟩ := f2
     refine XH 6 rfl l (fun _ n => oP (k := U.B) (z := (.map none)) yw eH fp rfl rfl c4 (fun b o q => n.2 b o (Mt (Mt (Mt (Ml q)))))) (X 7 rfl l (jM G7 c0) (X 8 rfl l (jM tO rfl) (XH 9 rfl l (fun _ n => jG rfl (jS n (Mt (Mt Mh)) rfl bZ)) (XH 10 rfl l (fun _ n => wY (k := B.jB.jF) (z := false) (vf := (fun (x : Bool) => (Value.bool x))) Fi fw ir rfl rfl (my.BE (μ := hp _) jZ.1 c4 U.B (fun b o q => n.2 b o (Mt (Mt (Mt (Ml q))))))) (kV kr (jQ (CI J rfl (fun i8 J => ?_) (fun i8 J => ?_))))))))
     ·refine jW (Wh O (Wf uo (VA d Mh (jH U.Head) bL aI (V (jM Ba c0) (VB d (Mt (Mt Mh)) rfl rfl bZ (bS J fun g2 k0 J => ?_))))))
      refine VE (eM d (Cb (Pb Pz) (Cr (Qb (Qb Qz)) (Cr (Qb (Qb Qz)) (Cr (Qb (Qb Qz)) (Cr (Qb (Qb Qz)) (Cr (Qb (Qb Qz)) Cn)))))) call370 (fun hh _ => lC.lD (ql I a a9 Y c Q j u N y g H t a2 P Z b2 U.Head B.kA _ _ hh c4.e c1 c3.e e9.e c6 k0)) ?_)
      rintro _ q4 n5 o5 d i3 aa F ⟨l9, n3, m0, f5, rfl, l3, l4⟩
      obtain rfl := f5.symm
      replace d := d.perm (Tb (Tr (Tr (Tr (Tr (Tr Tn))))))
      refine ky (kF (jQ ?_))
      replace d := d.jE (Kb (Kr (Kr (Kr (Kr (Kr (Db St)))))))
      exact ⟨s, g2.1, l9, n3, g2.2.1, m0, g2.2.2, n5, _, ⟨rfl, eN⟩, (a8.trans i3), (d.jE (Kb (Sb (Pr (Pr (Pr (Pr (Pr Pz))))) St))), O, c0, e0, l3, l4, (by rw [h3]; exact J)⟩
     refine ll (kF (jQ ?_))
     replace d := d.jE (Db St)
     exact ⟨s, a9, Y, a2, P, Z, b2, b6, _, ⟨rfl, eN⟩, a8, (d.jE St), O, c0, e0, c4.e, c6, (by rw [h3]; exact J)⟩
    rintro E W ⟨a9, Y, a2, P, Z, b2, b6, f8, ⟨s, eN⟩, a8, d, O, c0, e0, f2, c6, J⟩
    rw [aP] at J
    refine jQ ?_
    obtain rfl := sj J
    exact ⟨Y, a2, Z, b6, _, a8, (d.jE (Kb (Db St))), O, f2, c6⟩
   rintro ⟨m8, m9, n2⟩ E W ⟨d8, e6, d9, e7, h7, i2, d, m3, k6, k7⟩ j4
   exact kF (jQ ⟨n0, bI _, m8, d8, e6, m9, d9, n2, e7, _, ((i0.trans i1).trans i2), (d.jE St), m3, k6, k7, j4⟩)
  refine mZ (mI (mI (rf (jQ (pM ?_)))))
  obtain rfl := sj M
  exact ow rfl ⟨_, _, rfl, (d.mg (Kb (Kr (Kr (Kr (Kr (Kr Sn))))))), b7, e4, b9, rfl, rfl, g9, c5⟩
theorem Ce (H : Nat) (g : Value) (c2 : List (jB × (List (ByteArray × Bool)))) (G : LO) (u : Value) (a7 : List jA) (k : LO) (c : Value) (b7 : List (jB × (List jA))) (z : LO) (a : Value) (a8 : List (ByteArray × (List jA))) (t : LO) (B : Value) (b6 : List jR) (y : LO) (K : Int) (d1 : Value) (q : List jA) (r : (Int × (List (jB × (List (ByteArray × Bool)))) × (List jA) × (List (jB × (List jA))) × (List (ByteArray × (List jA))) × (List jR) × Int)) (w : World) {μ0 : km} (h0 : ni μ0 ((H, Ob #[g, u, c, a, B, (.int .i64 K)] 294) :: (G ++ (k ++ (z ++ (t ++ (y ++ [])))))) w) (d6 : lN (fun (x : jB) => (.agg (jH x).toArray)) (lA Value.string (fun (x : Bool) => (Value.bool x))) g c2 G) (c6 : kk 53 jD 9 u a7 k) (d3 : lN (fun (x : jB) => (.agg (jH x).toArray)) (kk 53 jD 9) c b7 z) (c7 : lN Value.string (kk 53 jD 9) a a8 t) (d2 : pA 38 lO 3 B b6 y) (d7 : Sl (Pl jD) 9 μ0 d1 q) (hm : sE c2 a7 b7 a8 b6 K q = some r) :
  lC false Tryz.prog 233 [(.pointer (some ⟨H, 0, none⟩)), d1] w ((H, Ob #[g, u, c, a, B, (.int .i64 K)] 294) :: (G ++ (k ++ (z ++ (t ++ (y ++ [])))))) (fun v L1 W' => ∃ S1 y3 S4 S6 S8 i1 i0, v = (.int .i64 (r.1)) ∧ L1 = ((H, Ob #[g, y3, c, a, i1, (.int .i64 (r.2.2.2.2.2.2))] 294) :: (S1 ++ (S4 ++ (S6 ++ (S8 ++ (i0 ++ [])))))) ∧ lN (fun (x : jB) => (.agg (jH x).toArray)) (lA Value.string (fun (x : Bool) => (Value.bool x))) g r.2.1 S1 ∧ kk 53 jD 9 y3 r.2.2.1 S4 ∧ lN (fun (x : jB) => (.agg (jH x).toArray)) (kk 53 jD 9) c r.2.2.2.1 S6 ∧ lN Value.string (kk 53 jD 9) a r.2.2.2.2.1 S8 ∧ pA 38 lO 3 i1 r.2.2.2.2.2.1 i0) := by
 let b8 := ((H, Ob #[g, u, c, a, B, (.int .i64 K)] 294) :: (G ++ (k ++ (z ++ (t ++ (y ++ []))))))
 refine yl h0 46 func233 rfl (fun d => sg (Wa (lS (Wm (V (rS underlying171 rfl rfl) (ln (oS rfl (ll ?_))))))))
 refine jQ (sg (Wm (Wn (Wf DD (VB d Mh rfl rfl cL (Wa (lS (Wm (V (lf aG rfl d7) ?_)))))))))
 refine Wm (ln (li (fun i E W => ∃ a3 N M a4 Q a9 T n U a0 a5 Y a2 c1 d5, (E 16 = .int .i64 (i : Nat) ∧ E 15 = .int .i64 (q.length : Nat)) ∧ kf μ0 c1 ∧ ST false (keys b8) w W c1 ((H, Ob #[g, M, c, a, a0, (.int .i64 a2)] 294) :: (N ++ (Q ++ (T ++ (U ++ (Y ++ d5)))))) ∧ E 0 = (.pointer (some ⟨H, 0, none⟩)) ∧ E 5 = (.int .i64 K) ∧ E 14 = d1 ∧ lN (fun (x : jB) => (.agg (jH x).toArray)) (lA Value.string (fun (x : Bool) => (Value.bool x))) g a3 N ∧ kk 53 jD 9 M a4 Q ∧ lN (fun (x : jB) => (.agg (jH x).toArray)) (kk 53 jD 9) c a9 T ∧ lN Value.string (kk 53 jD 9) a n U ∧ pA 38 lO 3 a0 a5 Y ∧ nl K (q.drop i) a3 a4 a9 n a5 a2 = some r) q.length d7.len ⟨c2, G, u, a7, k, b7, z, a8, t, B, b6, y, K, μ0, _, ⟨rfl, rfl⟩, (kf.refl _), (d.jE St), rfl, rfl, rfl, d6, c6, d3, c7, d2, hm⟩ dc dc dc (fun _ _ _ h => by obtain ⟨_, _, _, _, _, _, _, _, _, _, _, _, _, _, _, aa, _⟩ := h; exact aa) ?_ ?_))
 ·rintro f6 E W g3 ⟨a3, N, M, a4, Q, a9, T, n, U, a0, a5, Y, a2, c1, d5, ⟨eI, eN⟩, b1, d, A, c3, c4, L, s, O, P, R, D⟩
  obtain ⟨I, j8, h4, h3, d9⟩ := kP g3
  rw [h4] at D
  refine bg (VQ (ot (enc := jD) (i := (f6 : Int)) (x0 := I) aG aH c4 eI (d7.mono (Pl.mono _) b1) (aJ _) h3) (fun l1 g4 => V (jG rfl (kl d.has g4 bR aH)) (VE (kv d cX (fun k3 e8 d => VO (jY (.agg (jD I).toArray) ((jD I).toArray) d rfl rfl aH (nF I) nb rfl (fun k4 d => ln (jX ?_))))))))
  replace d := d.drew
  have l := d.has.jE (Kb (Kb Sn))
  refine kM l ko (XH 0 rfl l (fun _ hS => jG rfl (jO hS Mh (jD I) rfl bR aH)) (bS D fun l2 g7 D => XE 1 rfl (Eg d call137 (ki.lD (uY I _ _  g7)) (fun k5 d => ?_))))
  have l := d.has.jE (Kb (Kb Sn))
  refine ⟨l, (X 2 rfl l (jN rfl) (PJ D (fun f7 E W => ∃ e4, ST false (keys b8) w W c1 ((e8, Ol (jD I) 53) :: ((H, Ob #[g, M, c, a, a0, (.int .i64 a2)] 294) :: (N ++ (Q ++ (T ++ (U ++ (Y ++ e4))))))) ∧ E 0 = (.pointer (some ⟨H, 0, none⟩)) ∧ E 5 = (.int .i64 K) ∧ E 7 = (.pointer (some ⟨e8, 0, none⟩)) ∧ E 14 = d1 ∧ E 15 = (.int .i64 (q.length : Int)) ∧ E 16 = (.int .i64 (f6 : Int)) ∧ E 30 = (.bool f7)) (bm 11 2047) 0 ?_ (fun f7 Z d4 => ?_)))⟩
  ·rintro l7 E W ⟨e4, d, c5, e9, f0, f1, f2, f3, i6⟩ J
   refine kV kr (jQ (CI J i6 (fun g2 J => ?_) (fun g2 J => ?_)))
   ·refine sg (Wh c5 (V (jG f0 (jO d.has Mh (jD I) rfl bR aH)) (bS J fun F g8 J => ?_)))
    refine VE (eM d (Cb (Pb Pz) (Cr (Qb Qz) (Cr (Qb Qz) (Cr (Qb Qz) (Cr (Qb Qz) (Cr (Qb Qz) Cn)))))) call324 (fun hh _ => lC.lD (BF H g a3 N M a4 Q c a9 T a n U a0 a5 Y a2 I _ _ hh L s O P R g8)) ?_)
    rintro _ l4 l8 k0 d f4 ab m ⟨f8, e5, e6, e7, c8, rfl, e0, e1, e2⟩
    obtain rfl := c8.symm
    replace d := d.perm (Tb (Tr (Tr (Tr (Tr (Tr Tn))))))
    refine ln (jW (Wh c5 (V (jG f0 (jO d.has (Mt (Ma (Ma (Ma (Ma (Ma Mh)))))) (jD I) rfl bR aH)) (bS J fun d8 g9 J => ?_))))
    refine VE (eM d (Cb Pz (Cr Qz (Cr Qz (Cr Qz (Cr Qz (Cr Qz Cn)))))) call325 (fun hh _ => (AN H g a3 N f8 F.1 e5 c F.2.1 e6 a F.2.2 e7 a0 a5 Y a2 I _ _ hh L e0 e1 e2 R g9)) ?_)
    rintro _ l5 j0 k1 d f5 ad m ⟨i2, i8, i3, c9, rfl, h5, h6⟩
    obtain rfl := c9.symm
    replace d := d.perm (Tb (Tr (Tr (Tr (Tr (Tr Tn))))))
    refine ky (kF (jQ ?_))
    replace d := d.jE (Kb (Kr (Kr (Kr (Kr (Kr (Db St)))))))
    exact ⟨f3, d8.1, i2, f8, F.1, e5, F.2.1, e6, F.2.2, e7, i8, d8.2.1, i3, d8.2.2, j0, _, ⟨rfl, f2⟩, ((b1.trans f4).trans f5), (d.jE St), c5, e9, f1, h5, e0, e1, e2, h6, (by rw [d9]; exact J)⟩
   refine ll (kF (jQ ?_))
   replace d := d.jE (Db St)
   exact ⟨f3, a3, N, M, a4, Q, a9, T, n, U, a0, a5, Y, a2, c1, _, ⟨rfl, f2⟩, b1, (d.jE St), c5, e9, f1, L, s, O, P, R, (by rw [d9]; exact J)⟩
  refine bC Z (fun j Z => ?_) (fun j Z => ?_)
  ·refine Xg 3 rfl rfl (cB j) l (jN A) (Xg 4 rfl rfl (cB j) l (mH rfl) (Xg 5 rfl rfl (cB j) l (jM FP rfl) (ri 6 rfl rfl (cB j) l (fun _ hS => jG rfl (jS hS (Mt Mh) rfl eB)) (ri 7 rfl rfl (cB j) l (fun _ hS => jG rfl (jO hS Mh (jD I) rfl bR aH)) (bS Z fun l3 h1 Z => xC 8 rfl rfl (cB j) (Eg d call201 (ki.lD (By M a4 I _ _ (s.sl lm (fun b o hq => d.at_ (Mt (Mt (Ma (Ml hq)))))) h1)) (fun k8 d => ?_)))))))
   have l := d.has.jE (Kb (Kb Sn))
   refine ⟨l, (Xg 9 rfl rfl (cB j) l (mC rfl) (X 10 rfl l (kd (cB j) rfl) ?_))⟩
   obtain rfl := sj Z
   refine lU kr (d4 _ _ ⟨_, (d.jE St), A, c3, rfl, c4, eN, eI, rfl⟩)
  refine Xn 3 rfl rfl (cB j) l (Xn 4 rfl rfl (cB j) l (Xn 5 rfl rfl (cB j) l (Xn 6 rfl rfl (cB j) l (Xn 7 rfl rfl (cB j) l (Xn 8 rfl rfl (cB j) l (Xn 9 rfl rfl (cB j) l (X 10 rfl l (ke (cB j) rfl) ?_)))))))
  obtain rfl := sj Z
  refine lU kr (d4 _ _ ⟨_, (d.jE St), A, c3, rfl, c4, eN, eI, rfl⟩)
 rintro E W ⟨a3, N, M, a4, Q, a9, T, n, U, a0, a5, Y, a2, c1, d5, ⟨eI, eN⟩, b1, d, A, c3, c4, L, s, O, P, R, D⟩
 rw [aP] at D
 refine jQ (sg (Wh A (bS D fun i7 h2 D => ?_)))
 refine VE (eM d (Cb Pz (Cr Qz (Cr Qz (Cr Qz (Cr Qz (Cr Qz Cn)))))) call326 (fun hh _ => (Av H g a3 N M a4 Q c a9 T a n U a0 a5 Y a2 _ _ hh L s O P R h2)) ?_)
 rintro _ l6 l9 k2 d j6 ae m ⟨i4, i9, i5, d0, rfl, h7, h8⟩
 obtain rfl := d0.symm
 replace d := d.perm (Tb (Tr (Tr (Tr (Tr (Tr Tn))))))
 refine lr (Wh A (Wn (Wf DD (VB d Mh rfl rfl cL (Wh c3 (Wi rfl (Wa (lt ?_))))))))
 obtain rfl := sj D
 exact lq (v := (.int .i64 (IntKind.i64.wrap (i7.2.2 - K)))) rfl rfl ⟨_, _, rfl, (d.mg (Kb (Kr (Kr (Kr (Kr (Kr Sn))))))), i4, M, Q, T, U, i9, i5, rfl, rfl, h7, s, O, P, h8⟩
theorem E9 (j : Value) (H : List jA) (r : ((List (jB × (List (ByteArray × Bool)))) × (List jA) × (List (jB × (List jA))) × (List (ByteArray × (List jA))) × (List jR) × Int)) (w : World) (J : Sl (Pl jD) 9 (hp w) j H) (hm : um H = some r) :
  lC false Tryz.prog 117 [j] w [] (fun v L1 W' => ∃ l n S3 o S6 q S9 D u G y, v = (.pointer (some ⟨l, 0, none⟩)) ∧ L1 = ((l, Ob #[n, o, q, D, G, (.int .i64 (r.2.2.2.2.2))] 294) :: (S3 ++ (S6 ++ (S9 ++ (u ++ (y ++ [])))))) ∧ lN (fun (x : jB) => (.agg (jH x).toArray)) (lA Value.string (fun (x : Bool) => (Value.bool x))) n r.1 S3 ∧ kk 53 jD 9 o r.2.1 S6 ∧ lN (fun (x : jB) => (.agg (jH x).toArray)) (kk 53 jD 9) q r.2.2.1 S9 ∧ lN Value.string (kk 53 jD 9) D r.2.2.2.1 u ∧ pA 38 lO 3 G r.2.2.2.2.1 y) := by
 refine wX 13 func117 rfl (fun b => sg (Wa (lr (VE (BV (P := Tryz.prog) (fun (x : jB) => (.agg (jH x).toArray)) (lA Value.string (fun (x : Bool) => (Value.bool x))) b (fun W1 v4 R2 b z => VE (BV (P := Tryz.prog) (fun (x : jB) => (.agg (jH x).toArray)) (kk 53 jD 9) b (fun W5 v8 R6 b B => VE (BV (P := Tryz.prog) Value.string (kk 53 jD 9) b (fun W9 R Y b t => ?_))))))))))
 obtain ⟨a, rfl⟩ := z.form
 obtain ⟨c, rfl⟩ := B.form
 obtain ⟨g, rfl⟩ := t.form
 refine V (ma (v := (.agg #[(.map (some a)), (.slice none 0 0), (.map (some c)), (.map (some g)), (.slice none 0 0), (.int .i64 0)])) (Ft rfl rfl rfl) (ly zeroValue294 eF (PI _ eF) kr)) (VE (kH b rfl (fun c1 k b => Wa (lr (Wm (Wm (bS hm fun O K hm => ?_)))))))
 refine VE (eM b (Cb Pz (Cr (Qr (Qr Qz)) (C0 (Cr (Qr Qz) (Cr Qz (C0 Cn)))))) call233 (fun F h => (Ce k (.map (some a)) ([]) R2 (.slice none 0 0) ([]) [] (.map (some c)) ([]) R6 (.map (some g)) ([]) Y (.slice none 0 0) ([]) [] 0 j H _ _ F z (kk.nil _ _ _) B t (pA.nil _ _ _) (J.mono (Pl.mono _) h) K)) ?_)
 rintro _ W c6 L b I m d ⟨Z, s, a2, a3, a4, A, a5, i, rfl, M, N, Q, T, U⟩
 obtain rfl := i.symm
 replace b := b.perm (Tb (Tr (Tr (Tr (Tr (Tr Tn))))))
 refine lr (Wm (Wa (lt ?_)))
 obtain rfl := sj hm
 exact lq (v := (.pointer (some ⟨k, 0, none⟩))) rfl rfl ⟨_, _, rfl, (b.Ni (Kb (Kr (Kr (Kr (Kr (Kr Sn))))))), k, (.map (some a)), Z, s, a2, (.map (some c)), a3, (.map (some g)), a4, A, a5, rfl, rfl, M, N, Q, T, U⟩
theorem Hv (c : Value) (D : List jA) (G : ByteArray) (r : ((List (jB × (List (ByteArray × Bool)))) × (List jA) × (List (jB × (List jA))) × (List (ByteArray × (List jA))) × (List jR) × Int × ByteArray)) (w : World) (I : Sl (Pl jD) 9 (hp w) c D) (hm : xl D G = some r) :
  lC false Tryz.prog 182 [c, (.string G)] w [] (fun v L1 W' => ∃ g h l S4 m S7 n j z k B t u, v = (.func (.func 287) #[] #[(.pointer (some ⟨g, 0, none⟩)), (.pointer (some ⟨u, 0, none⟩))]) ∧ L1 = ((g, Ob #[(.pointer (some ⟨h, 0, none⟩))] 171) :: ((h, Ob #[l, m, n, z, B, (.int .i64 (r.2.2.2.2.2.1))] 294) :: ((u, Ob #[(.string (r.2.2.2.2.2.2))] 9) :: (S4 ++ (S7 ++ (j ++ (k ++ (t ++ [])))))))) ∧ lN (fun (x : jB) => (.agg (jH x).toArray)) (lA Value.string (fun (x : Bool) => (Value.bool x))) l r.1 S4 ∧ kk 53 jD 9 m r.2.1 S7 ∧ lN (fun (x : jB) => (.agg (jH x).toArray)) (kk 53 jD 9) n r.2.2.1 j ∧ lN Value.string (kk 53 jD 9) z r.2.2.2.1 k ∧ pA 38 lO 3 B r.2.2.2.2.1 t) := by
 refine wX 9 func182 rfl (fun b => sg (VE (kH b rfl (fun W2 g b => Wa (lr (Wm (bS hm fun W o hm => ?_)))))))
 refine VE (G4 b (bT _) call117 (fun _ _ _ _ => (E9 c D _ _ (I.mono (Pl.mono _) b.jJ) o)) (fun W5 v9 O R b P L d H => ?_) (L0 := []))
 obtain ⟨i, q, T, s, U, a9, Y, A, Z, F, a2, a, rfl, J, K, M, N, Q⟩ := H
 replace a := a.symm; subst a
 replace b := b.perm (Tb (Tr (Tr (Tr (Tr (Tr Tn))))))
 refine VE (kv b zeroValue171 (fun c1 y b => VO (jY (.pointer (some ⟨i, 0, none⟩)) (#[(.pointer (some ⟨i, 0, none⟩))]) b rfl rfl sizeOf171 oc nb rfl (fun c2 b => lr (V (qX (by exact ua rfl rfl) rfl) (Wa (lt ?_)))))))
 obtain rfl := sj hm
 exact lq (v := (.func (.func 287) #[] #[(.pointer (some ⟨y, 0, none⟩)), (.pointer (some ⟨g, 0, none⟩))])) rfl rfl ⟨_, _, rfl, (b.Ni (Kb (Kb (Sb (Pr (Pr (Pr (Pr (Pr Pz))))) (Kr (Kr (Kr (Kr (Kr Sn))))))))), y, i, q, T, s, U, a9, Y, A, Z, F, a2, g, rfl, rfl, J, K, M, N, Q⟩
theorem BI (Q : Formula → (jB → Option Bool) → Option Bool) (a5 : ∀ (g : Formula) (k : Value) (t : Value) (J : jB → Option Bool) (r : Bool) (w : World) (c : Sl jC 5 (hp w) k g.Kids) (K : wL Tryz.prog t (hp w) (fun (x : jB) => [(.agg (jH x).toArray)]) (fun (r : Bool) => (.bool r)) J), Q g J = some r → ki false Tryz.prog 288 [(.agg #[(.int .i64 g.Op), (.int .i64 g.K), (.string g.jB.jF), (.string g.jB.jK), k]), t] w (.bool r)) (g : Formula) (k t : Value) (J : jB → Option Bool) (r : Bool) (w : World) (c : Sl jC 5 (hp w) k g.Kids) (K : wL Tryz.prog t (hp w) (fun (x : jB) => [(.agg (jH x).toArray)]) (fun (r : Bool) => (.bool r)) J) (hm : uf Q g J = some r) :
  ki false Tryz.prog 288 [(.agg #[(.int .i64 g.Op), (.int .i64 g.K), (.string g.jB.jF), (.string g.jB.jK), k]), t] w (.bool r) := by
 refine cG 45 func288 rfl (fun b => sg ?_)
 obtain ⟨A1, c2, rfl⟩ := c.form
 refine VE (kH b rfl (fun W4 n b => Wa (lS (Wf rD (VB b Mh rfl rfl cL (Wi rfl (ln (CI hm rfl (fun a9 hm => ?_) (fun a9 hm => ?_)))))))))
 ·refine sg (Wm (Wf vI (VA b Mh (jH g.jB) bL aI (bS hm fun r6 v hm => VE (Hl g.jB b K (kf.refl _) rfl (tD rfl) v (fun W8 b => Wa (ln ?_)))))))
  replace b := b.jE (Db St)
  refine kB (kI ?_)
  obtain rfl := sj hm
  exact rP b
 refine kg (Wa (lS (Wf qm (VB b Mh rfl rfl eO (V (lf aF rfl c) (Wm (ky ?_)))))))
 refine jQ (li (fun i E W => ∃ z I, (E 18 = .int .i64 (i : Nat) ∧ E 17 = .int .i64 (g.Kids.length : Nat)) ∧ ST false kQ w W (hp w) ((n, Ol (C1 g.Op g.K g.jB.jF g.jB.jK A1 g.Kids.length c2) 113) :: I) ∧ E 1 = t ∧ E 2 = (.pointer (some ⟨n, 0, none⟩)) ∧ E 5 = (.int .i64 z) ∧ E 16 = (.slice A1 g.Kids.length c2) ∧ oI Q J g (g.Kids.drop i) z = some r) g.Kids.length c.len ⟨0, _, ⟨rfl, rfl⟩, (b.jE St), rfl, rfl, rfl, rfl, hm⟩ dc dc dc (fun _ _ _ h => by obtain ⟨_, _, l, _⟩ := h; exact l) ?_ ?_)
 ·rintro A E W a4 ⟨z, I, ⟨d, m⟩, b, G, u, y, H, a⟩
  obtain ⟨j, c1, s, q, N⟩ := kP a4
  rw [s] at a
  refine bg (VQ (mo (i := (A : Int)) (x0 := j) jC.out aF aC H d c (aJ _) q) (fun R ⟨_, ⟨c0, rfl, M⟩, Z⟩ => V (jG rfl (kl b.has Z aS aC)) (VE (kv b bD (fun F P b => ?_)))))
  obtain ⟨B, D, rfl⟩ := M.form
  let a0 := (C1 j.Op j.K j.jB.jF j.jB.jK B j.Kids.length D)
  refine VO (jY (.agg a0.toArray) (a0.toArray) b rfl rfl aC oc nb rfl (fun L b => lr (VA b Mh a0 aS aC (Wh G (bS a fun b9 o a => VE (Eg b call288 (a5 j (.slice B j.Kids.length D) t J _ _ (M.mono jT.mono b.jJ) (K.mono b.jJ) o) (fun O b => ln ?_)))))))
  replace b := b.jE (Db St)
  refine CI a rfl (fun T a => ?_) (fun T a => ?_)
  ·exact jW (Wh y (Wi rfl (Wa (ky (kF (jQ ⟨d, (IntKind.i64.wrap (z + 1)), _, ⟨rfl, m⟩, (b.jE St), G, u, rfl, H, (by rw [N]; exact a)⟩))))))
  exact ll (kF (jQ ⟨d, z, _, ⟨rfl, m⟩, (b.jE St), G, u, y, H, (by rw [N]; exact a)⟩))
 rintro E W ⟨z, I, ⟨d, m⟩, b, G, u, y, H, a⟩
 rw [aP] at a
 refine jQ (jX (sg (V (jM rD u) (VB b Mh rfl rfl cL (ln (bg (Wi rfl (Wa (ln ?_)))))))))
 refine CI a rfl (fun U a => ?_) (fun U a => ?_)
 ·refine sg (Wh y (V (jM qm u) (VB b Mh rfl rfl eO (V (lf aF rfl c) (Wi rfl (Wa (ln ?_)))))))
  replace b := b.jE (Db St)
  refine kB (mn (kI ?_))
  obtain rfl := sj a
  exact rP b
 refine sg (Wi rfl (Wa (ln (CI a rfl (fun Y a => ?_) (fun Y a => ?_)))))
 ·refine sg (Wh y (Wi rfl (Wa (ln ?_))))
  replace b := b.jE (Db St)
  refine kB (mn (kI ?_))
  obtain rfl := sj a
  exact rP b
 refine ll (kF (jQ (sg (Wh y (V (jM vH u) (VB b Mh rfl rfl cL (Wi rfl (Wa (ln ?_)))))))))
 exact kB (rQ a b)
theorem zV : ∀ (n : Nat) (c : Formula) (a : Value) (g : Value) (j : jB → Option Bool) (r : Bool) (w : World) (i : Sl jC 5 (hp w) a c.Kids) (k : wL Tryz.prog g (hp w) (fun (x : jB) => [(.agg (jH x).toArray)]) (fun (r : Bool) => (.bool r)) j) (_ : pe n c j = some r),
  ki false Tryz.prog 288 [(.agg #[(.int .i64 c.Op), (.int .i64 c.K), (.string c.jB.jF), (.string c.jB.jK), a]), g] w (.bool r)
 | 0 => by intros; rename_i h; simp only [pe] at h; cases h
 | n + 1 => BI (pe n) (zV n)
theorem AW (a : Formula) (j k : Value) (G : jB → Option Bool) (r : Bool) (w : World) (c : Sl jC 5 (hp w) j a.Kids) (z : wL Tryz.prog k (hp w) (fun (x : jB) => [(.agg (jH x).toArray)]) (fun (r : Bool) => (.bool r)) G) (hm : sa a G = some r) :
  ki false Tryz.prog 183 [(.agg #[(.int .i64 a.Op), (.int .i64 a.K), (.string a.jB.jF), (.string a.jB.jK), j]), k] w (.bool r) := by
 refine cG 16 func183 rfl (fun b => sg ?_)
 obtain ⟨u, y, rfl⟩ := c.form
 let a0 := (C1 a.Op a.K a.jB.jF a.jB.jK u a.Kids.length y)
 refine VE (kH b rfl (fun U Z b => Wa (lr (Wm (V (KG underlying242 z.form rfl rfl) (Wm (Vg rfl rfl (jG rfl (jO b.has Mh a0 rfl aS aC)) (bS hm fun d K hm => Lb rfl rfl (Eg b call107 (rr a (.slice u a.Kids.length y) _ _ (c.mono jT.mono b.jJ) K) (fun Y b => V (kd rfl rfl) (Wm (LJ hm (fun D E W => ∃ B, ST false kQ w W (hp w) B ∧ E 4 = (.bool false) ∧ E 15 = (.bool D)) 4 ?_ (fun D g t => ?_)))))))))))))
 ·rintro T E W ⟨B, b, N, J⟩ H
  exact Wg J (lt (rQ H b))
 refine bC g (fun i g => ?_) (fun i g => ?_)
 ·refine ug i (jG rfl (jO b.has Mh a0 rfl aS aC)) (ug i (jN rfl) (bS g fun Q I g => rl i (Eg b call288 ((zV kC) a (.slice u a.Kids.length y) k G _ _ (c.mono jT.mono b.jJ) (z.mono b.jJ) I) (fun M b => V (kd (cB i) rfl) ?_))))
  obtain rfl := sj g
  exact t _ _ ⟨_, (b.jE (Db St)), rfl, rfl⟩
 refine un i (un i (un i (V (ke (cB i) rfl) ?_)))
 obtain rfl := sj g
 exact t _ _ ⟨_, (b.jE (Db St)), rfl, rfl⟩
theorem zz (K : Nat) (a : Value) (G : List (jB × (List (ByteArray × Bool)))) (c : Value) (t : List jA) (j : Value) (D : List (jB × (List jA))) (g : Value) (u : List (ByteArray × (List jA))) (i : Value) (B : List jR) (J : Int) (I : jB) (a2 : ByteArray) (r : Bool) (w : World) (H : qC (fun (x : jB) => (.agg (jH x).toArray)) (lA Value.string (fun (x : Bool) => (Value.bool x))) (hp w) a G) (T : Sl (Pl jD) 9 (hp w) c t) (Z : qC (fun (x : jB) => (.agg (jH x).toArray)) (kk 53 jD 9) (hp w) j D) (U : qC Value.string (kk 53 jD 9) (hp w) g u) (Y : Sl (Pl lO) 3 (hp w) i B) (Q : At (hp w) (.pointer (some ⟨K, 0, none⟩)) [a, c, j, g, i, (.int .i64 J)]) (hm : qU G t D u B J I a2 = some r) :
  ki true Tryz.prog 149 [(.pointer (some ⟨K, 0, none⟩)), (.agg (jH I).toArray), (.string a2)] w (.bool r) := by
 refine cG 19 func149 rfl (fun l => sg (VE (kH l rfl (fun W2 s l => Wa (ln (jX ?_))))))
 replace l := l.drew
 have d := l.has.jE (Kb Sn)
 refine kM d ko (X 0 rfl d (jN rfl) (X 1 rfl d (BU underlying171 rfl rfl) (X 2 rfl d (jN rfl) (Xg 3 rfl rfl rfl d (jN rfl) (Xg 4 rfl rfl rfl d (mH rfl) (rH 5 rfl kr (.inr ⟨2, true, 9, rfl, rfl, by decide, rfl⟩) rfl dc (fun _ _ h => h) d (tY [a] vw rfl Q rfl) (fun q a3 => ri 6 rfl rfl rfl d (fun _ m => jG rfl (qO m (y := a) a3 gF)) (ri 7 rfl rfl rfl d (fun _ m => jG rfl (jO m Mh (jH I) rfl bL aI)) ?_))))))))
 obtain ⟨a4, a5, M, N⟩ := H
 refine ri 8 rfl rfl rfl d (fun _ m => oP (k := I) (z := (.map none)) yw eH fp rfl rfl M (fun b o n => m.1 b o (N b o n))) (Xg 9 rfl rfl rfl d (jN rfl) (ri 10 rfl rfl rfl d (fun _ m => wY (k := a2) (z := false) (vf := (fun (x : Bool) => (Value.bool x))) Fi fw ir rfl rfl ((my.BE jZ.1 M I N).mono (fun b o n => m.1 b o n))) (X 11 rfl d (kd rfl rfl) (X 12 rfl d (nU rfl) (kV kr (jQ ?_))))))
 exact kB (rQ hm l)
theorem EQ (N : jB) (Q D : Nat) (t : Value) (B : List (jB × (List (ByteArray × Bool)))) (a : Value) (j : List jA) (i : Value) (z : List (jB × (List jA))) (c : Value) (k : List (ByteArray × (List jA))) (g : Value) (u : List jR) (I : Int) (T : Nat) (Y : ByteArray) (r : Bool) (w : World) (M : qC (fun (x : jB) => (.agg (jH x).toArray)) (lA Value.string (fun (x : Bool) => (Value.bool x))) (hp w) t B) (G : Sl (Pl jD) 9 (hp w) a j) (K : qC (fun (x : jB) => (.agg (jH x).toArray)) (kk 53 jD 9) (hp w) i z) (H : qC Value.string (kk 53 jD 9) (hp w) c k) (J : Sl (Pl lO) 3 (hp w) g u) (U : At (hp w) (.pointer (some ⟨D, 0, none⟩)) [t, a, i, c, g, (.int .i64 I)]) (Z : At (hp w) (.pointer (some ⟨Q, 0, none⟩)) [(.pointer (some ⟨D, 0, none⟩))]) (d : At (hp w) (.pointer (some ⟨T, 0, none⟩)) [(.string Y)]) (hm : rz N B j z k u I Y = some r) :
  ki true Tryz.prog 287 [(.agg (jH N).toArray), (.pointer (some ⟨Q, 0, none⟩)), (.pointer (some ⟨T, 0, none⟩))] w (.bool r) := by
 refine cG 9 func287 rfl (fun b => sg (VE (kH b rfl (fun W2 h b => Wa (lr (V (jG rfl (qO b.has (y := (.pointer (some ⟨D, 0, none⟩))) Z isAgg171)) (VA b Mh (jH N) bL aI (V (jG rfl (qO b.has (y := (.string Y)) d bZ)) (bS hm fun l a2 hm => VE (Eg b call149 (zz D t B a j i z c k g u I N Y _ _ (M.mono b.jJ) (G.mono (Pl.mono _) b.jJ) (K.mono b.jJ) (H.mono b.jJ) (J.mono (Pl.mono _) b.jJ) (U.mono b.jJ) a2) (fun W5 b => Wa ?_)))))))))))
 refine ln ?_
 exact kB (rQ hm b)
theorem Hb (k : jI) (H K c1 : Value) (L : List jA) (a2 : ByteArray) (r : List jA) (w : World) (g : Sl ku 15 (hp w) H k.jV) (J : Sl kW 8 (hp w) K k.kx) (h5 : Sl (Pl jD) 9 (hp w) c1 L) (hm : pn k L a2 = some r) :
  mw false Tryz.prog 80 [(.agg #[(.string k.Name), H, K]), c1, (.string a2)] w 53 jD 9 r := by
 refine wX 47 func80 rfl (fun d => sg ?_)
 obtain ⟨A1, c2, rfl⟩ := g.form
 let c8 : Value := (.slice A1 k.jV.length c2)
 obtain ⟨A3, c4, rfl⟩ := J.form
 let O := (C8 k.Name A1 k.jV.length c2 A3 k.kx.length c4)
 refine VE (kH d rfl (fun W6 A d => Wa (lr (Wm (Wm (bS hm fun B i5 hm => ?_))))))
 refine VE (G4 d (bT _) call182 (fun _ _ _ _ => (Hv c1 L a2 _ _ (h5.mono (Pl.mono _) d.jJ) i5)) (fun W9 l1 g4 l0 d a5 af ae h4 => ?_) (L0 := []))
 obtain ⟨N, q, e0, f9, e1, g0, e2, g1, e3, g2, e4, g3, Q, c0, rfl, h6, h7, h8, h9, i0⟩ := h4
 replace c0 := c0.symm; subst c0
 replace d := d.perm (Tb (Tb (Tb (Tr (Tr (Tr (Tr (Tr Tn))))))))
 refine Wa (lr (Wa (lS (Wf vA (VB d (Mt (Mt (Mt (Ma (Ma (Ma (Ma (Ma Mh)))))))) rfl rfl gE (V (lf du rfl g) (Wm ?_)))))))
 refine ln (li (fun i E W => ∃ D I G s P, (E 19 = .int .i64 (i : Nat) ∧ E 18 = .int .i64 (k.jV.length : Nat)) ∧ kf g4 s ∧ ST false kQ w W s ((N, Ob #[(.pointer (some ⟨q, 0, none⟩))] 171) :: ((q, Ob #[e0, e1, e2, e3, e4, (.int .i64 B.2.2.2.2.2.1)] 294) :: ((Q, Ob #[(.string B.2.2.2.2.2.2)] 9) :: ((A, Ol O 110) :: (G ++ (f9 ++ (g0 ++ (g1 ++ (g2 ++ (g3 ++ P)))))))))) ∧ E 3 = (.pointer (some ⟨A, 0, none⟩)) ∧ E 7 = (.func (.func 287) #[] #[(.pointer (some ⟨N, 0, none⟩)), (.pointer (some ⟨Q, 0, none⟩))]) ∧ E 8 = D ∧ E 17 = c8 ∧ kk 53 jD 9 D I G ∧ pX k B (k.jV.drop i) I = some r) k.jV.length g.len ⟨(.slice none 0 0), ([]), [], g4, _, ⟨rfl, rfl⟩, (kf.refl _), (d.jE (Kb (Kb (Kb (Sb (Pr (Pr (Pr (Pr (Pr Pz))))) St))))), rfl, rfl, rfl, rfl, (kk.nil _ _ _), hm⟩ dc dc dc (fun _ _ _ h => by obtain ⟨_, _, _, _, _, aa, _⟩ := h; exact aa) ?_ ?_)
 ·let b6 : Value := (.func (.func 287) #[] #[(.pointer (some ⟨N, 0, none⟩)), (.pointer (some ⟨Q, 0, none⟩))])
  rintro d8 E W f0 ⟨D, I, G, s, P, ⟨F, eN⟩, u, d, Y, Z, a3, a4, M, j⟩
  obtain ⟨a, i6, f8, f7, c6⟩ := kP f0
  rw [f8] at j
  refine bg (VQ (mo (i := (d8 : Int)) (x0 := a) ku.out du dz a4 F (g.mono kT.mono (a5.trans u)) (aJ _) f7) (fun k1 ⟨_, ⟨k4, k5, rfl, f5, f6⟩, f1⟩ => V (jG rfl (kl d.has f1 iq dz)) (VE (kv d ed (fun i9 d0 d => ?_)))))
  obtain ⟨b2, b7, rfl⟩ := f5.form
  obtain ⟨b3, b9, rfl⟩ := f6.form
  let a0 := (C5 a.Signed.jA.Kind a.Signed.jA.Head.jF a.Signed.jA.Head.jK a.Signed.jA.kA a.Signed.jA.B.jF a.Signed.jA.B.jK a.Signed.jA.C.jF a.Signed.jA.C.jK a.Signed.jA.kz b2 a.Signed.Tag.length b7 a.jL.Op a.jL.K a.jL.jB.jF a.jL.jB.jK b3 a.jL.Kids.length b9)
  refine VO (jY (.agg a0.toArray) (a0.toArray) d rfl rfl dz oc nb rfl (fun j0 d => lr (V (jG Y (jO d.has (Mt (Mt (Mt (Mt Mh)))) O rfl ez dS)) (Wf vu (Wf rM (VA d Mh (jD a.Signed.jA) bR aH (bS j fun c f2 j => ?_)))))))
  let e5 : Value := (.string (((c.1).jB).jK))
  let d1 : Value := (.string (((c.1).jB).jF))
  refine VE (eD d (bT _) call106 (fun hh => (B0 k c8 (.slice A3 k.kx.length c4) a.Signed.jA _ _ hh (g.mono kT.mono (a5.trans u)) (J.mono mz.mono (a5.trans u)) f2)) ?_ (L0 := []))
  rintro _ k6 c3 i8 d a9 ab ⟨k8, a6, rfl, c7⟩
  obtain rfl := a6.symm
  refine Wm (Wx rfl (Wx rfl (VE (kv d bD (fun j4 k0 d => ?_)))))
  obtain ⟨T, U, rfl⟩ := c7.form
  let b8 : Value := (.slice T ((c.1).Kids).length U)
  refine VO (jY (.agg #[(.int .i64 ((c.1).Op)), (.int .i64 ((c.1).K)), d1, e5, b8]) (#[(.int .i64 ((c.1).Op)), (.int .i64 ((c.1).K)), d1, e5, b8]) d rfl rfl aC oc nb rfl (fun j5 d => Wa (lr (Wm (Wi rfl (Wm (LJ j (fun d9 E W => ∃ c9, ST false kQ w W c3 ((d0, Ol a0 138) :: ((N, Ob #[(.pointer (some ⟨q, 0, none⟩))] 171) :: ((q, Ob #[e0, e1, e2, e3, e4, (.int .i64 B.2.2.2.2.2.1)] 294) :: ((Q, Ob #[(.string B.2.2.2.2.2.2)] 9) :: ((A, Ol O 110) :: (G ++ (f9 ++ (g0 ++ (g1 ++ (g2 ++ (g3 ++ c9))))))))))) ∧ E 3 = (.pointer (some ⟨A, 0, none⟩)) ∧ E 7 = b6 ∧ E 8 = D ∧ E 10 = (.pointer (some ⟨d0, 0, none⟩)) ∧ E 17 = c8 ∧ E 18 = (.int .i64 (k.jV.length : Int)) ∧ E 19 = (.int .i64 (d8 : Int)) ∧ E 37 = (.bool d9)) 4 ?_ (fun d9 z b0 => ?_))))))))
  ·rintro k7 E W ⟨c9, d, d2, d3, d4, h2, d5, d6, d7, h3⟩ y
   refine ln (CI y h3 (fun e8 y => ?_) (fun e8 y => ?_))
   ·refine jW (Wh d4 (V (jM vu h2) (Wf rM (VA d Mh (jD a.Signed.jA) bR aH (VE (kJ (cs := (jD a.Signed.jA).toArray) d (mQ rfl) (na aG aH cX) (fun j6 h1 d => ?_)))))))
    replace d := d.perm (Nr (Qb (Qb (Qb (Qb (Qb (Qb Qz)))))) Nz)
    refine bS y fun i1 e9 y => VE (oq (enc := jD) (v := D) (vs := (.slice (some ⟨h1, 0, none⟩) 1 1)) (R := G) d lm dc nF aG mP.1 mP.2.1 rfl mP.2.2.1 mP.2.2.2 rfl rfl M (Sl.lit (enc := jD) (l := [a.Signed.jA]) lm rfl nb rfl (d.at_ (Ma Mh))) e9 (fun j7 i2 g7 d e7 => Wa (ky (kF (jQ ?_)))))
    replace d := d.jE (Kr (Db (Db St)))
    exact ⟨d7, i2, i1, g7, c3, _, ⟨rfl, d6⟩, (u.trans a9), (d.jE (Sb (Pr Pz) (Sb (Pr Pz) (Sb (Pr Pz) (Sb (Pr Pz) St))))), d2, d3, rfl, d5, e7, (by rw [c6]; exact y)⟩
   refine ll (kF (jQ ?_))
   replace d := d.jE (Db St)
   exact ⟨d7, D, I, G, c3, _, ⟨rfl, d6⟩, (u.trans a9), (d.jE St), d2, d3, d4, d5, M, (by rw [c6]; exact y)⟩
  refine bC z (fun t z => ?_) (fun t z => ?_)
  ·refine ug t (jG rfl (jO d.has Mh [(.int .i64 ((c.1).Op)), (.int .i64 ((c.1).K)), d1, e5, b8] rfl aS aC)) (ug t (jN Z) (bS z fun k2 f3 z => rl t (Eg d call183 (AW c.1 b8 b6 (fun (x : jB) => rz x B.1 B.2.1 B.2.2.1 B.2.2.2.1 B.2.2.2.2.1 B.2.2.2.2.2.1 B.2.2.2.2.2.2) _ _ (c7.mono jT.mono d.jJ) ⟨287, #[], #[(.pointer (some ⟨N, 0, none⟩)), (.pointer (some ⟨Q, 0, none⟩))], rfl, call287, fun W x r n hm => (EQ x N q e0 B.1 e1 B.2.1 e2 B.2.2.1 e3 B.2.2.2.1 e4 B.2.2.2.2.1 B.2.2.2.2.2.1 Q B.2.2.2.2.2.2 r W (h6.at (fun b o m => n _ _ ((fun b o m => d.at_ (Mt (Mt (Mt (Mt (Mt (Mt (Ma (Ml m))))))))) b o m))) (h7.sl lm (fun b o m => n _ _ ((fun b o m => d.at_ (Mt (Mt (Mt (Mt (Mt (Mt (Ma (Ma (Ml m)))))))))) b o m))) (h8.at (fun b o m => n _ _ ((fun b o m => d.at_ (Mt (Mt (Mt (Mt (Mt (Mt (Ma (Ma (Ma (Ml m))))))))))) b o m))) (h9.at (fun b o m => n _ _ ((fun b o m => d.at_ (Mt (Mt (Mt (Mt (Mt (Mt (Ma (Ma (Ma (Ma (Ml m)))))))))))) b o m))) ((i0.B7 wZ).mono (Pl.mono _) (mf (fun b o m => n _ _ ((fun b o m => d.at_ (Mt (Mt (Mt (Mt (Mt (Mt (Ma (Ma (Ma (Ma (Ma (Ml m))))))))))))) b o m)))) (At.of (n _ _ (d.at_ (Mt (Mt (Mt Mh))))) _ rfl) (At.of (n _ _ (d.at_ (Mt (Mt Mh)))) _ rfl) (At.of (n _ _ (d.at_ (Mt (Mt (Mt (Mt Mh)))))) _ rfl) hm).lD⟩ f3) (fun j8 d => V (kd (cB t) rfl) ?_))))
   obtain rfl := sj z
   exact b0 _ _ ⟨_, (d.jE (Db St)), Y, Z, a3, rfl, a4, eN, F, rfl⟩
  refine un t (un t (un t (V (ke (cB t) rfl) ?_)))
  obtain rfl := sj z
  exact b0 _ _ ⟨_, (d.jE (Db St)), Y, Z, a3, rfl, a4, eN, F, rfl⟩
 rintro E W ⟨D, I, G, s, P, ⟨F, eN⟩, u, d, Y, Z, a3, a4, M, j⟩
 rw [aP] at j
 refine jQ ?_
 replace d := d.jE (Db (Db (Db (Db (Kr (Dr (Dr (Dr (Dr (Dr St))))))))))
 refine sg (Wh a3 (bS j fun k3 f4 j => VE (sG d call116 (vv D I _ _ (M.sl lm (fun b o m => d.at_ (Ml m))) f4) (fun j9 i3 k9 g8 d i4 ad c5 => Wa (ln ?_)))))
 replace d := d.jE (Kr (Dr St))
 refine kB ?_
 obtain rfl := sj j
 exact lq (v := i3) rfl rfl ⟨_, g8, rfl, d.nQ (fun p m => (Ml m)) c5.nd, c5⟩
theorem Fy (Q : jA) (T : Nat) (k : ByteArray) (c : Value) (i : List kw) (g : Value) (j : List ml) (H : ByteArray) (I : Int) (t : Value) (u : List jA) (a : Value) (z : List jA) (x : Value) (D : List jB) (B : Value) (G : List jB) (r : Bool) (w : World) (K : Sl ku 15 (hp w) c i) (M : Sl kW 8 (hp w) g j) (N : Sl (Pl jD) 9 (hp w) t u) (J : Sl (Pl jD) 9 (hp w) a z) (U : Sl (Pl jH) 2 (hp w) x D) (Z : Sl (Pl jH) 2 (hp w) B G) (Y : At (hp w) (.pointer (some ⟨T, 0, none⟩)) [(.string k), c, g, (.string H), (.int .i64 I), t, a, x, B]) (hm : vz Q k i j H I u z D G = some r) :
  ki true Tryz.prog 353 [(.agg (jD Q).toArray), (.pointer (some ⟨T, 0, none⟩))] w (.bool r) := by
 refine cG 8 func353 rfl (fun b => sg (VE (kH b rfl (fun W2 h b => Wa (lr (VQ (tY [a] wN rfl Y rfl) (fun l d => V (jG rfl (qO b.has (y := a) d eB)) (VA b Mh (jD Q) bR aH (bS hm fun m a2 hm => VE (Eg b call201 (By a z Q _ _ (J.mono (Pl.mono _) b.jJ) a2) (fun W8 b => Wa ?_)))))))))))
 refine ln ?_
 exact kB (rQ hm b)
theorem Iy (a : lP) (j k t H z G : Value) (r : List jA) (w : World) (c : Sl ku 15 (hp w) j a.jI.jV) (g : Sl kW 8 (hp w) k a.jI.kx) (i : Sl (Pl jD) 9 (hp w) t a.jU) (D : Sl (Pl jD) 9 (hp w) H a.Shown) (y : Sl (Pl jH) 2 (hp w) z a.kq) (B : Sl (Pl jH) 2 (hp w) G a.lc) (hm : vX a = some r) :
  mw false Tryz.prog 312 [(.agg #[(.string a.jI.Name), j, k, (.string a.lG), (.int .i64 a.Room), t, H, z, G])] w 53 jD 9 r := by
 refine wX 12 func312 rfl (fun b => sg ?_)
 obtain ⟨M, Q, rfl⟩ := c.form
 obtain ⟨N, T, rfl⟩ := g.form
 obtain ⟨A5, n, rfl⟩ := i.form
 obtain ⟨A7, P, rfl⟩ := D.form
 obtain ⟨A9, Y, rfl⟩ := y.form
 obtain ⟨U, Z, rfl⟩ := B.form
 refine VE (kH b rfl (fun b7 J b => Wa (lr (Wf wP (VA b Mh (C8 a.jI.Name M a.jI.jV.length Q N a.jI.kx.length T) ez dS (Wf AI (VB b Mh rfl rfl eB (Wf Dv (VB b Mh rfl rfl bZ (bS hm fun F a5 hm => VE (sG b call80 (Hb a.jI (.slice M a.jI.jV.length Q) (.slice N a.jI.kx.length T) (.slice A5 a.jU.length n) a.jU a.lG _ _ (c.mono kT.mono b.jJ) (g.mono mz.mono b.jJ) (i.mono (Pl.mono _) b.jJ) a5) (fun b9 L c5 a9 b u o a4 => V (qX (by exact tD rfl) rfl) ?_))))))))))))
 refine bS hm fun c1 s hm => ?_
 refine VE (G4 b (Cr Qz Cn) call143 (fun hH R d m => (uZ L F a9 (.func (.func 353) #[] #[(.pointer (some ⟨J, 0, none⟩))]) (fun (x : jA) => vz x a.jI.Name a.jI.jV a.jI.kx a.lG a.Room a.jU a.Shown a.kq a.lc) _ _ ⟨hH, R, kf.refl _⟩ a4 ⟨353, #[], #[(.pointer (some ⟨J, 0, none⟩))], rfl, call353, fun W x r h hm => (Fy x J a.jI.Name (.slice M a.jI.jV.length Q) a.jI.jV (.slice N a.jI.kx.length T) a.jI.kx a.lG a.Room (.slice A5 a.jU.length n) a.jU (.slice A7 a.Shown.length P) a.Shown (.slice A9 a.kq.length Y) a.kq (.slice U a.lc.length Z) a.lc r W (c.mono kT.mono ((u.trans d).trans h)) (g.mono mz.mono ((u.trans d).trans h)) (i.mono (Pl.mono _) ((u.trans d).trans h)) (D.mono (Pl.mono _) ((u.trans d).trans h)) (y.mono (Pl.mono _) ((u.trans d).trans h)) (B.mono (Pl.mono _) ((u.trans d).trans h)) (At.of (h _ _ (m _ _ Mh)) _ rfl) hm).lD⟩ s)) (fun c0 c3 c7 b6 b b5 q l a3 => ?_))
 obtain ⟨O, A, I, rfl, K⟩ := a3
 replace I := I.symm; subst I
 replace b := b.perm (Tr Tn)
 refine Wa (ln ?_)
 replace b := b.jE (Kr (Db St))
 refine kB ?_
 obtain rfl := sj hm
 exact lq (v := O) rfl rfl ⟨_, A, rfl, b.nQ (fun p hq => (Ml hq)) K.nd, K⟩
theorem yr (a : lP) (g t x H z G : Value) (r : List jA) (w : World) (c : Sl ku 15 (hp w) g a.jI.jV) (j : Sl kW 8 (hp w) t a.jI.kx) (u : Sl (Pl jD) 9 (hp w) x a.jU) (D : Sl (Pl jD) 9 (hp w) H a.Shown) (y : Sl (Pl jH) 2 (hp w) z a.kq) (B : Sl (Pl jH) 2 (hp w) G a.lc) (hm : qv a = some r) :
  mw false Tryz.prog 217 [(.agg #[(.string a.jI.Name), g, t, (.string a.lG), (.int .i64 a.Room), x, H, z, G])] w 53 jD 9 r := by
 refine wX 11 func217 rfl (fun b => sg ?_)
 obtain ⟨U, c2, rfl⟩ := c.form
 obtain ⟨Y, d, rfl⟩ := j.form
 obtain ⟨Z, h, rfl⟩ := u.form
 obtain ⟨A7, l, rfl⟩ := D.form
 obtain ⟨A9, J, rfl⟩ := y.form
 obtain ⟨I, K, rfl⟩ := B.form
 refine VE (kH b rfl (fun A L b => Wa (lr (VA b Mh (C3 a.jI.Name U a.jI.jV.length c2 Y a.jI.kx.length d a.lG a.Room Z a.jU.length h A7 a.Shown.length l A9 a.kq.length J I a.lc.length K) ew dN (bS hm fun T n hm => VE (sG b call312 (Iy a (.slice U a.jI.jV.length c2) (.slice Y a.jI.kx.length d) (.slice Z a.jU.length h) (.slice A7 a.Shown.length l) (.slice A9 a.kq.length J) (.slice I a.lc.length K) _ _ (c.mono kT.mono b.jJ) (j.mono mz.mono b.jJ) (u.mono (Pl.mono _) b.jJ) (D.mono (Pl.mono _) b.jJ) (y.mono (Pl.mono _) b.jJ) (B.mono (Pl.mono _) b.jJ) n) (fun F O P o b s m M => Wa (ln ?_))))))))
 replace b := b.jE (Kr (Db St))
 refine sg (Wm (Wm (V (qV aG rfl M) (V (OD (k := .i64) rfl rfl) (bS hm fun _ N hm => VQ (vj (i := (if 8 < (T.length : Int) then 8 else (T.length : Int))) aG aH rfl rfl M lm (rp N) (ry N)) (fun a9 Q => Wa (lt ?_)))))))
 obtain rfl := sj hm
 exact lq (v := a9) rfl rfl ⟨_, o, rfl, b.nQ (fun p q => (Ml q)) Q.nd, Q⟩
theorem xu (a : lP) (g j t D x B : Value) (r : Bool) (w : World) (c : Sl ku 15 (hp w) g a.jI.jV) (i : Sl kW 8 (hp w) j a.jI.kx) (k : Sl (Pl jD) 9 (hp w) t a.jU) (z : Sl (Pl jD) 9 (hp w) D a.Shown) (u : Sl (Pl jH) 2 (hp w) x a.kq) (y : Sl (Pl jH) 2 (hp w) B a.lc) (hm : re a = some r) :
  ki false Tryz.prog 111 [(.agg #[(.string a.jI.Name), g, j, (.string a.lG), (.int .i64 a.Room), t, D, x, B])] w (.bool r) := by
 refine cG 7 func111 rfl (fun b => sg ?_)
 obtain ⟨J, T, rfl⟩ := c.form
 obtain ⟨K, U, rfl⟩ := i.form
 obtain ⟨M, Y, rfl⟩ := k.form
 obtain ⟨N, Z, rfl⟩ := z.form
 obtain ⟨Q, H, rfl⟩ := u.form
 obtain ⟨G, I, rfl⟩ := y.form
 refine VE (kH b rfl (fun a5 m b => Wa (lr (VA b Mh (C3 a.jI.Name J a.jI.jV.length T K a.jI.kx.length U a.lG a.Room M a.jU.length Y N a.Shown.length Z Q a.kq.length H G a.lc.length I) ew dN (bS hm fun n a2 hm => VE (sG b call217 (yr a (.slice J a.jI.jV.length T) (.slice K a.jI.kx.length U) (.slice M a.jU.length Y) (.slice N a.Shown.length Z) (.slice Q a.kq.length H) (.slice G a.lc.length I) _ _ (c.mono kT.mono b.jJ) (i.mono mz.mono b.jJ) (k.mono (Pl.mono _) b.jJ) (z.mono (Pl.mono _) b.jJ) (u.mono (Pl.mono _) b.jJ) (y.mono (Pl.mono _) b.jJ) a2) (fun l a9 o a4 b a3 d h => V (qV aG rfl h) (Wi rfl (Wa (ln ?_))))))))))
 exact kB (rQ hm b)
theorem xX (y : jI) (t x : Value) (D : jA) (r : (Signed × Bool)) (w : World) {M : km} (F : ni M [] w) (g : Sl ku 15 M t y.jV) (z : Sl kW 8 M x y.kx) (hm : vZ y D = some r) :
  lM true Tryz.prog 221 [(.agg #[(.string y.Name), t, x]), (.agg (jD D).toArray)] w M [] (fun v L1 μ1 => ∃ s, v = (.tuple #[(.agg #[(.int .i64 (((r.1).jA).Kind)), (.string ((((r.1).jA).Head).jF)), (.string ((((r.1).jA).Head).jK)), (.string (((r.1).jA).kA)), (.string ((((r.1).jA).B).jF)), (.string ((((r.1).jA).B).jK)), (.string ((((r.1).jA).C).jF)), (.string ((((r.1).jA).C).jK)), (.string (((r.1).jA).kz)), s]), (.bool (r.2))]) ∧ L1 = [] ∧ Sl (Pl (kU .u8)) 1 μ1 s ((r.1).Tag)) := by
 refine sO F 24 func221 rfl (fun b => sg ?_)
 obtain ⟨A1, c2, rfl⟩ := g.form
 obtain ⟨A3, c4, rfl⟩ := z.form
 refine VE (kH b rfl (fun W6 b5 b => VE (kH b rfl (fun W8 n b => VE (kv b dH (fun d1 o b => Wa (lS (Wf vA (VB b (Mt (Mt Mh)) rfl rfl gE (V (lf du rfl g) (Wm (ln ?_))))))))))))
 replace b := b.jE (Kb (Kb (Db St)))
 refine li (fun i E W => ∃ B, (E 11 = .int .i64 (i : Nat) ∧ E 10 = .int .i64 (y.jV.length : Nat)) ∧ ST true (keys []) w W M ((o, Ol IM 56) :: ((n, Ol (jD D) 53) :: B)) ∧ E 3 = (.pointer (some ⟨n, 0, none⟩)) ∧ E 4 = (.pointer (some ⟨o, 0, none⟩)) ∧ E 9 = (.slice A1 y.jV.length c2) ∧ sc D (y.jV.drop i) = some r) y.jV.length g.len ⟨_, ⟨rfl, rfl⟩, (b.jE St), rfl, rfl, rfl, hm⟩ dc dc dc (fun _ _ _ h => by obtain ⟨_, l, _⟩ := h; exact l) ?_ ?_
 ·rintro A E W U ⟨B, ⟨d, q⟩, b, G, u, H, c⟩
  obtain ⟨a, c9, Z, Y, a2⟩ := kP U
  rw [Z] at c
  refine bg (VQ (mo (i := (A : Int)) (x0 := a) ku.out du dz H d g (aJ _) Y) (fun c3 ⟨_, ⟨c7, c8, rfl, I, T⟩, Q⟩ => V (jG rfl (kl b.has Q iq dz)) (VE (kv b ed (fun L b6 b => ?_)))))
  obtain ⟨j, k, rfl⟩ := I.form
  let a0 := (C2 a.Signed.jA.Kind a.Signed.jA.Head.jF a.Signed.jA.Head.jK a.Signed.jA.kA a.Signed.jA.B.jF a.Signed.jA.B.jK a.Signed.jA.C.jF a.Signed.jA.C.jK a.Signed.jA.kz j a.Signed.Tag.length k)
  obtain ⟨J, K, rfl⟩ := T.form
  let m := (C5 a.Signed.jA.Kind a.Signed.jA.Head.jF a.Signed.jA.Head.jK a.Signed.jA.kA a.Signed.jA.B.jF a.Signed.jA.B.jK a.Signed.jA.C.jF a.Signed.jA.C.jK a.Signed.jA.kz j a.Signed.Tag.length k a.jL.Op a.jL.K a.jL.jB.jF a.jL.jB.jK J a.jL.Kids.length K)
  refine VO (jY (.agg m.toArray) (m.toArray) b rfl rfl dz oc nb rfl (fun O b => lr (Wf vu (Wf rM (VA b Mh (jD a.Signed.jA) bR aH (V (jG G (jO b.has (Mt (Mt Mh)) (jD D) rfl bR aH)) (V (xg rfl rfl (oQ eG) (tR (tp _ a.Signed.jA D))) (ln (CI c rfl (fun N c => ?_) (fun N c => ?_))))))))))
  ·refine sg (Wf vu (VA b Mh a0 gx dm ?_))
   replace b := b.perm (Nb (Pb Pz) Nz)
   refine VO (jY (.agg a0.toArray) (a0.toArray) b u rfl dm oc nb rfl (fun P b => Wa (ln ?_)))
   replace b := b.jE (Kb (Db (Db St)))
   refine kB (mn (kI (mn (kI ?_))))
   obtain rfl := sj c
   exact pN (v0 := (.agg a0.toArray)) (v1 := (.bool true)) rfl u (jO b.has Mh a0 rfl gx dm) rfl ⟨_, _, _, rfl, (b.mg Sn), (kf.refl _), Lo.refl, (ST.kY b (mB.mem Sn)), (.slice j a.Signed.Tag.length k), rfl, rfl, I⟩
  refine ll (kF (jQ ?_))
  replace b := b.jE (Db St)
  exact ⟨d, _, ⟨rfl, q⟩, (b.jE St), G, u, H, (by rw [a2]; exact c)⟩
 rintro E W ⟨B, ⟨d, q⟩, b, G, u, H, c⟩
 rw [aP] at c
 refine jQ ?_
 replace b := b.jE (Kb (Db St))
 refine sg (V (ma (v := (.agg IM.toArray)) pK (ly dH et (JR _ et) kr)) (VO (jY (.agg IM.toArray) (IM.toArray) b u rfl dm oc nb rfl (fun R b => Wa (lt ?_)))))
 obtain rfl := sj c
 exact pN (v0 := (.agg IM.toArray)) (v1 := (.bool false)) rfl u (jO b.has Mh IM rfl gx dm) rfl ⟨_, _, _, rfl, (b.mg Sn), (kf.refl _), Lo.refl, (ST.kY b (mB.mem Sn)), (.slice none 0 0), rfl, rfl, (Sl.nil _ _ _)⟩
theorem KL (i : lP) (a c g t j k : Value) (r : ((List (jB × (List (ByteArray × Bool)))) × (List jA) × (List (jB × (List jA))) × (List (ByteArray × (List jA))) × (List jR) × Int × ByteArray × ByteArray × Int)) (w : World) (y : Sl ku 15 (hp w) a i.jI.jV) (z : Sl kW 8 (hp w) c i.jI.kx) (u : Sl (Pl jD) 9 (hp w) g i.jU) (G : Sl (Pl jD) 9 (hp w) t i.Shown) (B : Sl (Pl jH) 2 (hp w) j i.kq) (D : Sl (Pl jH) 2 (hp w) k i.lc) (hm : CK i = some r) :
  lC false Tryz.prog 227 [(.agg #[(.string i.jI.Name), a, c, (.string i.lG), (.int .i64 i.Room), g, t, j, k])] w [] (fun v L1 W' => ∃ h l n S4 o S7 q J U K Y M Q, v = (.func (.func 320) #[] #[(.pointer (some ⟨h, 0, none⟩)), (.pointer (some ⟨Q, 0, none⟩))]) ∧ L1 = ((h, Ob #[(.pointer (some ⟨l, 0, none⟩))] 171) :: ((l, Ob #[n, o, q, U, Y, (.int .i64 (r.2.2.2.2.2.1))] 294) :: ((Q, Ob #[(.string (r.2.2.2.2.2.2.1)), a, c, (.string (r.2.2.2.2.2.2.2.1)), (.int .i64 (r.2.2.2.2.2.2.2.2)), g, t, j, k] 160) :: (S4 ++ (S7 ++ (J ++ (K ++ (M ++ [])))))))) ∧ lN (fun (x : jB) => (.agg (jH x).toArray)) (lA Value.string (fun (x : Bool) => (Value.bool x))) n r.1 S4 ∧ kk 53 jD 9 o r.2.1 S7 ∧ lN (fun (x : jB) => (.agg (jH x).toArray)) (kk 53 jD 9) q r.2.2.1 J ∧ lN Value.string (kk 53 jD 9) U r.2.2.2.1 K ∧ pA 38 lO 3 Y r.2.2.2.2.1 M) := by
 refine wX 8 func227 rfl (fun b => sg ?_)
 obtain ⟨A1, c2, rfl⟩ := y.form
 obtain ⟨A3, c4, rfl⟩ := z.form
 obtain ⟨A5, R, rfl⟩ := u.form
 obtain ⟨A7, c8, rfl⟩ := G.form
 obtain ⟨A9, c1, rfl⟩ := B.form
 obtain ⟨a7, c3, rfl⟩ := D.form
 refine VE (kH b rfl (fun e6 N b => Wa (lr (Wf AI (VB b Mh rfl rfl eB (bS hm fun f0 s hm => ?_))))))
 refine VE (G4 b (bT _) call117 (fun _ _ _ _ => (E9 (.slice A5 i.jU.length R) i.jU _ _ (u.mono (Pl.mono _) b.jJ) s)) (fun e7 f1 f2 e5 b d6 m d Z => ?_) (L0 := []))
 obtain ⟨I, W, a9, c9, F, d1, L, d2, O, d3, P, H, rfl, a2, a3, a4, a5, A⟩ := Z
 replace H := H.symm; subst H
 replace b := b.perm (Tb (Tr (Tr (Tr (Tr (Tr Tn))))))
 refine VE (kv b zeroValue171 (fun e8 T b => VO (jY (.pointer (some ⟨I, 0, none⟩)) (#[(.pointer (some ⟨I, 0, none⟩))]) b rfl rfl sizeOf171 oc nb rfl (fun e9 b => lr (V (qX (by exact ua rfl rfl) rfl) (Wa (lt ?_)))))))
 obtain rfl := sj hm
 exact lq (v := (.func (.func 320) #[] #[(.pointer (some ⟨T, 0, none⟩)), (.pointer (some ⟨N, 0, none⟩))])) rfl rfl ⟨_, _, rfl, (b.Ni (Kb (Kb (Sb (Pr (Pr (Pr (Pr (Pr Pz))))) (Kr (Kr (Kr (Kr (Kr Sn))))))))), T, I, W, a9, c9, F, d1, L, d2, O, d3, P, N, rfl, rfl, a2, a3, a4, a5, A⟩
theorem HW (a0 : jB) (l Z : Nat) (I : Value) (U : List (jB × (List (ByteArray × Bool)))) (g : Value) (G : List jA) (u : Value) (N : List (jB × (List jA))) (i : Value) (H : List (ByteArray × (List jA))) (t : Value) (M : List jR) (d : Int) (m : Nat) (B : ByteArray) (a : Value) (j : List kw) (c : Value) (z : List ml) (k : ByteArray) (a5 : Int) (D : Value) (J : List jA) (T : Value) (a2 : List jA) (K : Value) (Y : List jB) (Q : Value) (h : List jB) (r : Bool) (w : World) (a9 : qC (fun (x : jB) => (.agg (jH x).toArray)) (lA Value.string (fun (x : Bool) => (Value.bool x))) (hp w) I U) (a3 : Sl (Pl jD) 9 (hp w) g G) (o : qC (fun (x : jB) => (.agg (jH x).toArray)) (kk 53 jD 9) (hp w) u N) (a4 : qC Value.string (kk 53 jD 9) (hp w) i H) (n : Sl (Pl lO) 3 (hp w) t M) (q : At (hp w) (.pointer (some ⟨Z, 0, none⟩)) [I, g, u, i, t, (.int .i64 d)]) (s : At (hp w) (.pointer (some ⟨l, 0, none⟩)) [(.pointer (some ⟨Z, 0, none⟩))]) (F : Sl ku 15 (hp w) a j) (O : Sl kW 8 (hp w) c z) (P : Sl (Pl jD) 9 (hp w) D J) (W : Sl (Pl jD) 9 (hp w) T a2) (R : Sl (Pl jH) 2 (hp w) K Y) (c2 : Sl (Pl jH) 2 (hp w) Q h) (c1 : At (hp w) (.pointer (some ⟨m, 0, none⟩)) [(.string B), a, c, (.string k), (.int .i64 a5), D, T, K, Q]) (hm : xw a0 U G N H M d B j z k a5 J a2 Y h = some r) :
  ki true Tryz.prog 320 [(.agg (jH a0).toArray), (.pointer (some ⟨l, 0, none⟩)), (.pointer (some ⟨m, 0, none⟩))] w (.bool r) := by
 refine cG 10 func320 rfl (fun b => sg (VE (kH b rfl (fun W2 L b => Wa (lr (V (jG rfl (qO b.has (y := (.pointer (some ⟨Z, 0, none⟩))) s isAgg171)) (VA b Mh (jH a0) bL aI (VQ (tY [(.string k)] Dv rfl c1 rfl) (fun p3 v => V (jG rfl (qO b.has (y := (.string k)) v bZ)) (bS hm fun r6 A hm => VE (Eg b call149 (zz Z I U g G u N i H t M d a0 k _ _ (a9.mono b.jJ) (a3.mono (Pl.mono _) b.jJ) (o.mono b.jJ) (a4.mono b.jJ) (n.mono (Pl.mono _) b.jJ) (q.mono b.jJ) A) (fun W8 b => ?_))))))))))))
 refine Wa (ln ?_)
 exact kB (rQ hm b)
theorem Fq (a : lP) (B D J N K M : Value) (n : jA) (r : Bool) (w : World) (c : Sl ku 15 (hp w) B a.jI.jV) (i : Sl kW 8 (hp w) D a.jI.kx) (y : Sl (Pl jD) 9 (hp w) J a.jU) (I : Sl (Pl jD) 9 (hp w) N a.Shown) (G : Sl (Pl jH) 2 (hp w) K a.kq) (H : Sl (Pl jH) 2 (hp w) M a.lc) (hm : xv a n = some r) :
  ki false Tryz.prog 115 [(.agg #[(.string a.jI.Name), B, D, (.string a.lG), (.int .i64 a.Room), J, N, K, M]), (.agg (jD n).toArray)] w (.bool r) := by
 refine cG 22 func115 rfl (fun d => sg ?_)
 obtain ⟨A1, c2, rfl⟩ := c.form
 let a9 : Value := (.slice A1 a.jI.jV.length c2)
 obtain ⟨A3, P, rfl⟩ := i.form
 let O : Value := (.slice A3 a.jI.kx.length P)
 obtain ⟨A5, R, rfl⟩ := y.form
 obtain ⟨A7, c8, rfl⟩ := I.form
 obtain ⟨A9, Y, rfl⟩ := G.form
 obtain ⟨T, Z, rfl⟩ := H.form
 let a0 := (C3 a.jI.Name A1 a.jI.jV.length c2 A3 a.jI.kx.length P a.lG a.Room A5 a.jU.length R A7 a.Shown.length c8 A9 a.kq.length Y T a.lc.length Z)
 refine VE (kH d rfl (fun g3 e7 d => VE (kH d rfl (fun g4 h0 d => Wa (lr (Wf wP (VA d (Mt Mh) (C8 a.jI.Name A1 a.jI.jV.length c2 A3 a.jI.kx.length P) ez dS (VA d Mh (jD n) bR aH (bS hm fun j e0 hm => ?_)))))))))
 let v : Value := (.int .i64 ((j.1).K))
 let s : Value := (.int .i64 ((j.1).Op))
 let q : Value := (.string (((j.1).jB).jK))
 let a5 : Value := (.string (((j.1).jB).jF))
 refine VE (eD d (bT _) call106 (fun hh => (B0 a.jI a9 O n _ _ hh (c.mono kT.mono (kf.refl _)) (i.mono mz.mono (kf.refl _)) e0)) ?_ (L0 := []))
 rintro _ h1 d6 g2 d t ad ⟨h2, b0, rfl, c1⟩
 obtain rfl := b0.symm
 refine Wm (Wx rfl (Wx rfl (VE (kv d bD (fun g8 e8 d => ?_)))))
 obtain ⟨U, a2, rfl⟩ := c1.form
 let a4 : Value := (.slice U ((j.1).Kids).length a2)
 refine VO (jY (.agg #[s, v, a5, q, a4]) (#[s, v, a5, q, a4]) d rfl rfl aC oc nb rfl (fun g9 d => Wa (ln ?_)))
 replace d := d.jE (Kb (Db St))
 refine jX ?_
 replace d := d.drew
 have h := d.has.jE (Kb (Kb Sn))
 refine kM h ko (X 0 rfl h (jN rfl) (X 1 rfl h (kL rfl rfl rfl) (X 2 rfl h (jN rfl) (PJ hm (fun c3 E W => ∃ L b5, kf d6 L ∧ ST false kQ w W L ((e8, Ob #[s, v, a5, q, a4] 113) :: ((e7, Ol a0 160) :: b5)) ∧ E 4 = (.bool false) ∧ E 21 = (.bool c3)) (bm 9 255) 1 ?_ (fun c3 z a3 => ?_)))))
 ·rintro g1 E W ⟨L, b5, c0, d, f8, d8⟩ c7
  have h := d.has.oA c0 (Kb (Kb Sn))
  refine X 8 rfl h (nU d8) (kV kr (jQ ?_))
  exact kB (rQ c7 d)
 refine bC z (fun u z => ?_) (fun u z => ?_)
 ·refine ri 3 rfl rfl (cB u) h (fun _ hS => jG rfl (jO hS Mh [s, v, a5, q, a4] rfl aS aC)) (ri 4 rfl rfl (cB u) h (fun _ hS => jG rfl (jO hS (Mt Mh) a0 rfl ew dN)) (bS z fun g c9 z => ?_))
  refine xC 5 rfl rfl (cB u) (G4 d (bT _) call227 (fun _ _ _ _ => (KL a a9 O (.slice A5 a.jU.length R) (.slice A7 a.Shown.length c8) (.slice A9 a.kq.length Y) (.slice T a.lc.length Z) _ _ (c.mono kT.mono (t.trans d.jJ)) (i.mono mz.mono (t.trans d.jJ)) (y.mono (Pl.mono _) (t.trans d.jJ)) (I.mono (Pl.mono _) (t.trans d.jJ)) (G.mono (Pl.mono _) (t.trans d.jJ)) (H.mono (Pl.mono _) (t.trans d.jJ)) c9)) (fun f6 g0 e6 f0 d k aa ab c5 => ?_) (L0 := []))
  obtain ⟨A, d7, e1, f1, e2, f2, e3, f3, e4, f4, e5, f5, F, Q, rfl, d1, d2, d3, d4, d5⟩ := c5
  replace Q := Q.symm; subst Q
  replace d := d.perm (Tb (Tb (Tb (Tr (Tr (Tr (Tr (Tr Tn))))))))
  have h := d.has.oA k (Db (Db (Db (Dr (Dr (Dr (Dr (Dr (Kb (Kb Sn))))))))))
  refine ⟨h, (bS z fun f9 d0 z => xC 6 rfl rfl (cB u) (Eg d call183 (AW j.1 a4 (.func (.func 320) #[] #[(.pointer (some ⟨A, 0, none⟩)), (.pointer (some ⟨F, 0, none⟩))]) (fun (x : jB) => xw x g.1 g.2.1 g.2.2.1 g.2.2.2.1 g.2.2.2.2.1 g.2.2.2.2.2.1 g.2.2.2.2.2.2.1 a.jI.jV a.jI.kx g.2.2.2.2.2.2.2.1 g.2.2.2.2.2.2.2.2 a.jU a.Shown a.kq a.lc) _ _ (c1.mono jT.mono (k.trans d.jJ)) ⟨320, #[], #[(.pointer (some ⟨A, 0, none⟩)), (.pointer (some ⟨F, 0, none⟩))], rfl, call320, fun W x r m hm => (HW x A d7 e1 g.1 e2 g.2.1 e3 g.2.2.1 e4 g.2.2.2.1 e5 g.2.2.2.2.1 g.2.2.2.2.2.1 F g.2.2.2.2.2.2.1 a9 a.jI.jV O a.jI.kx g.2.2.2.2.2.2.2.1 g.2.2.2.2.2.2.2.2 (.slice A5 a.jU.length R) a.jU (.slice A7 a.Shown.length c8) a.Shown (.slice A9 a.kq.length Y) a.kq (.slice T a.lc.length Z) a.lc r W (d1.at (fun b o l => m _ _ ((fun b o l => d.at_ (Mt (Mt (Mt (Ml l))))) b o l))) (d2.sl lm (fun b o l => m _ _ ((fun b o l => d.at_ (Mt (Mt (Mt (Ma (Ml l)))))) b o l))) (d3.at (fun b o l => m _ _ ((fun b o l => d.at_ (Mt (Mt (Mt (Ma (Ma (Ml l))))))) b o l))) (d4.at (fun b o l => m _ _ ((fun b o l => d.at_ (Mt (Mt (Mt (Ma (Ma (Ma (Ml l)))))))) b o l))) ((d5.B7 wZ).mono (Pl.mono _) (mf (fun b o l => m _ _ ((fun b o l => d.at_ (Mt (Mt (Mt (Ma (Ma (Ma (Ma (Ml l))))))))) b o l)))) (At.of (m _ _ (d.at_ (Mt Mh))) _ rfl) (At.of (m _ _ (d.at_ Mh)) _ rfl) (c.mono kT.mono (((t.trans k).trans d.jJ).trans m)) (i.mono mz.mono (((t.trans k).trans d.jJ).trans m)) (y.mono (Pl.mono _) (((t.trans k).trans d.jJ).trans m)) (I.mono (Pl.mono _) (((t.trans k).trans d.jJ).trans m)) (G.mono (Pl.mono _) (((t.trans k).trans d.jJ).trans m)) (H.mono (Pl.mono _) (((t.trans k).trans d.jJ).trans m)) (At.of (m _ _ (d.at_ (Mt (Mt Mh)))) _ rfl) hm).lD⟩ d0) (fun f7 d => ?_)))⟩
  have h := d.has.oA k (Db (Db (Db (Dr (Dr (Dr (Dr (Dr (Kb (Kb Sn))))))))))
  refine ⟨h, (X 7 rfl h (kd (cB u) rfl) ?_)⟩
  obtain rfl := sj z
  refine lU kr (a3 _ _ ⟨e6, _, k, (d.jE (Db (Db (Db (Dr (Dr (Dr (Dr (Dr St))))))))), rfl, rfl⟩)
 refine Xn 3 rfl rfl (cB u) h (Xn 4 rfl rfl (cB u) h (Xn 5 rfl rfl (cB u) h (Xn 6 rfl rfl (cB u) h (X 7 rfl h (ke (cB u) rfl) ?_))))
 obtain rfl := sj z
 refine lU kr (a3 _ _ ⟨d6, _, (kf.refl _), (d.jE St), rfl, rfl⟩)
theorem FW (a : lP) (x y B M G K U : Value) (Y : List jA) (r : Int) (w : World) (t : Sl ku 15 (hp w) x a.jI.jV) (u : Sl kW 8 (hp w) y a.jI.kx) (z : Sl (Pl jD) 9 (hp w) B a.jU) (J : Sl (Pl jD) 9 (hp w) M a.Shown) (D : Sl (Pl jH) 2 (hp w) G a.kq) (I : Sl (Pl jH) 2 (hp w) K a.lc) (H : Sl (Pl jD) 9 (hp w) U Y) (hm : xP a Y = some r) :
  ki false Tryz.prog 316 [(.agg #[(.string a.jI.Name), x, y, (.string a.lG), (.int .i64 a.Room), B, M, G, K]), U] w (.int .i64 r) := by
 refine cG 41 func316 rfl (fun b => sg ?_)
 obtain ⟨A1, c2, rfl⟩ := t.form
 obtain ⟨A3, q, rfl⟩ := u.form
 obtain ⟨A5, c6, rfl⟩ := z.form
 obtain ⟨A7, c8, rfl⟩ := J.form
 obtain ⟨A9, a5, rfl⟩ := D.form
 obtain ⟨a4, P, rfl⟩ := I.form
 let a0 := (C3 a.jI.Name A1 a.jI.jV.length c2 A3 a.jI.kx.length q a.lG a.Room A5 a.jU.length c6 A7 a.Shown.length c8 A9 a.kq.length a5 a4 a.lc.length P)
 refine VE (kH b rfl (fun h7 o b => Wa (lS (Wm (V (lf aG rfl H) (Wi rfl (ln (CI hm rfl (fun f1 hm => ?_) (fun f1 hm => ?_)))))))))
 ·refine sg (Wa (ln ?_))
  replace b := b.jE (Db St)
  refine kB (kI ?_)
  obtain rfl := sj hm
  exact rP b
 refine kS (Wm (V (lf aG rfl H) (Wm (ln (li (fun i E W => ∃ T a9, (E 16 = .int .i64 (i : Nat) ∧ E 15 = .int .i64 (Y.length : Nat)) ∧ kf (hp w) T ∧ ST false kQ w W T ((o, Ol a0 160) :: a9) ∧ E 1 = U ∧ E 2 = (.pointer (some ⟨o, 0, none⟩)) ∧ E 14 = U ∧ qo a Y (Y.drop i) = some r) Y.length H.len ⟨(hp w), _, ⟨rfl, rfl⟩, (kf.refl _), (b.jE St), rfl, rfl, rfl, hm⟩ dc dc dc (fun _ _ _ h => by obtain ⟨_, _, l, _⟩ := h; exact l) ?_ ?_)))))
 ·rintro f2 E W d6 ⟨T, a9, ⟨d, m⟩, g, b, v, Z, A, j⟩
  obtain ⟨N, f5, e5, e4, e6⟩ := kP d6
  rw [e5] at j
  refine bg (VQ (ot (enc := jD) (i := (f2 : Int)) (x0 := N) aG aH A d (H.mono (Pl.mono _) g) (aJ _) e4) (fun h1 e0 => V (jG rfl (kl b.has e0 bR aH)) (VE (kv b cX (fun f8 g8 b => VO (jY (.agg (jD N).toArray) ((jD N).toArray) b rfl rfl aH (nF N) nb rfl (fun f9 b => lr (V (jM wP Z) (VA b (Mt Mh) (C8 a.jI.Name A1 a.jI.jV.length c2 A3 a.jI.kx.length q) ez dS (VA b Mh (jD N) bR aH (bS j fun c e2 j => ?_)))))))))))
  let n := (((c.1).jA).Head)
  refine VE (eD b (bT _) call221 (fun hh => lM.lD (xX a.jI (.slice A1 a.jI.jV.length c2) (.slice A3 a.jI.kx.length q) N _ _ hh (t.mono kT.mono g) (u.mono mz.mono g) e2)) ?_ (L0 := []))
  rintro _ h4 f4 f7 b d1 O ⟨h6, a3, rfl, f0⟩
  obtain rfl := a3.symm
  refine Wm (Wx rfl (Wx rfl (VE (kv b dH (fun g1 g9 b => ?_)))))
  obtain ⟨R, c7, rfl⟩ := f0.form
  refine VO (jY (.agg #[(.int .i64 (((c.1).jA).Kind)), (.string (n.jF)), (.string (n.jK)), (.string (((c.1).jA).kA)), (.string ((((c.1).jA).B).jF)), (.string ((((c.1).jA).B).jK)), (.string ((((c.1).jA).C).jF)), (.string ((((c.1).jA).C).jK)), (.string (((c.1).jA).kz)), (.slice R ((c.1).Tag).length c7)]) (#[(.int .i64 (((c.1).jA).Kind)), (.string (n.jF)), (.string (n.jK)), (.string (((c.1).jA).kA)), (.string ((((c.1).jA).B).jF)), (.string ((((c.1).jA).B).jK)), (.string ((((c.1).jA).C).jF)), (.string ((((c.1).jA).C).jK)), (.string (((c.1).jA).kz)), (.slice R ((c.1).Tag).length c7)]) b rfl rfl dm oc nb rfl (fun g2 b => Wa (ln ?_)))
  replace b := b.jE (Db (Db St))
  refine sg (Wm (V (mC rfl) (ln (CI j rfl (fun d4 j => ?_) (fun d4 j => ?_)))))
  ·refine sg (Wa (ln ?_))
   replace b := b.jE (Db St)
   refine kB (mn (kI (mn (kI ?_))))
   obtain rfl := sj j
   exact rP b
  exact ll (kF (jQ ⟨d, f4, _, ⟨rfl, m⟩, (g.trans d1), (b.jE St), v, Z, A, (by rw [e6]; exact j)⟩))
 rintro E W ⟨T, a9, ⟨d, m⟩, g, b, v, Z, A, j⟩
 rw [aP] at j
 refine jQ (jX (sg (Wh v (V (lf aG rfl H) (Wm (ln (M5 j (fun d2 E W => ∃ c5, ST false kQ w W T c5) (fun d2 d9 a2 => ?_) ?_)))))))
 ·refine li (fun i E W => ∃ s, (E 32 = .int .i64 (i : Nat) ∧ E 31 = .int .i64 (Y.length : Nat)) ∧ ST false kQ w W T ((o, Ol a0 160) :: s) ∧ E 2 = (.pointer (some ⟨o, 0, none⟩)) ∧ E 30 = U ∧ qn a (Y.drop i) = some d2) Y.length H.len ⟨_, ⟨rfl, rfl⟩, (b.jE St), Z, rfl, d9⟩ dc dc dc (fun _ _ _ h => by obtain ⟨_, l, _⟩ := h; exact l) ?_ ?_
  ·rintro f3 E W d7 ⟨s, ⟨d, m⟩, b, F, L, k⟩
   obtain ⟨Q, f6, e8, e7, e9⟩ := kP d7
   rw [e8] at k
   refine bg (VQ (ot (enc := jD) (i := (f3 : Int)) (x0 := Q) aG aH L d (H.mono (Pl.mono _) g) (aJ _) e7) (fun h2 e1 => V (jG rfl (kl b.has e1 bR aH)) (VE (kv b cX (fun g3 h0 b => VO (jY (.agg (jD Q).toArray) ((jD Q).toArray) b rfl rfl aH (nF Q) nb rfl (fun g4 b => lr (V (jG F (jO b.has (Mt Mh) a0 rfl ew dN)) (VA b Mh (jD Q) bR aH (bS k fun h3 e3 k => VE (Eg b call115 (Fq a (.slice A1 a.jI.jV.length c2) (.slice A3 a.jI.kx.length q) (.slice A5 a.jU.length c6) (.slice A7 a.Shown.length c8) (.slice A9 a.kq.length a5) (.slice a4 a.lc.length P) Q _ _ (t.mono kT.mono (g.trans b.jJ)) (u.mono mz.mono (g.trans b.jJ)) (z.mono (Pl.mono _) (g.trans b.jJ)) (J.mono (Pl.mono _) (g.trans b.jJ)) (D.mono (Pl.mono _) (g.trans b.jJ)) (I.mono (Pl.mono _) (g.trans b.jJ)) e3) (fun g7 b => ?_))))))))))))
   refine V (mC rfl) (ln ?_)
   replace b := b.jE (Db St)
   refine CI k rfl (fun d5 k => ?_) (fun d5 k => ?_)
   ·refine sg (Wa (ln ?_))
    replace b := b.jE (Db St)
    refine kB (mn (kI (mn (kI ?_))))
    obtain rfl := sj k
    replace a2 : some 44 = some r := a2
    obtain rfl := sj a2
    exact rP b
   exact ll (kF (jQ ⟨d, _, ⟨rfl, m⟩, (b.jE St), F, L, (by rw [e9]; exact k)⟩))
  rintro E W ⟨s, ⟨d, m⟩, b, F, L, k⟩
  rw [aP] at k
  refine jQ ?_
  obtain rfl := sj k
  exact ⟨_, rfl, _, (b.jE (Db St))⟩
 rintro ⟨⟩ E W ⟨c5, b⟩ d8
 exact sg (Wa (lt (rQ d8 b)))
theorem Ci (g : Value) (i r : List Int) (w : World) (a : Sl (Pl (kU .u8)) 1 (hp w) g i) (hm : sF i = some r) :
  mw true Tryz.prog 317 [g] w 5 (kU .u8) 1 r := by
 unfold sF at hm
 refine wX 8 func317 rfl (fun b => sg (Wa (lS (Wm ?_))))
 obtain ⟨y, B, rfl⟩ := a.form
 refine V (wT cJ rfl rfl) (ln ?_)
 rcases y with _ | z
 ·have u := a.isNil
  replace hm : some [] = some r := by rw [u] at hm; simpa [mG, maxLen] using hm
  refine sV (rfl) (sg (Wa (lt (kI ?_))))
  obtain rfl := sj hm
  exact lq (v := (.slice none 0 0)) rfl rfl ⟨_, [], rfl, b.nQ (fun p d => by cases d) (by simp), kk.nil _ _ _⟩
 ·refine oS (rfl) (kg (VE (kJ (cs := #[]) b pK (wS [] cJ sizeOf5 zeroValue5 dc rfl (by simp) rfl rfl) (fun G k b => Wm (bS hm fun H t hm => VE (oq (enc := (kU .u8)) (v := (.slice (some ⟨k, 0, none⟩) 0 0)) (vs := (.slice (some z) i.length B)) (R := [(k, Ob #[] 5)]) b (fun _ => rfl) dc (Aq _) cJ oH.1 oH.2.1 rfl oH.2.2.1 oH.2.2.2 rfl rfl (kk.lit (l := []) (enc := (kU .u8)) rfl dc rfl rfl) (a.mono (Pl.mono _) b.jJ) t (fun D x j b c => Wa (lt ?_))))))))
  obtain rfl := sj hm
  exact lq (v := x) rfl rfl ⟨_, j, rfl, b.nQ (fun p d => (Ml d)) c.nd, c⟩
theorem Au (I : Int) (r : List jA) (w : World) (hm : rb I = some r) :
  mw true Tryz.prog 295 [(.slice none 0 0), (.int .i64 I)] w 53 jD 9 r := by
 refine wX 27 func295 rfl (fun b => sg (Wa (lS (Wm (Wi rfl (ln (CI hm rfl (fun K hm => ?_) (fun K hm => ?_))))))))
 ·cases hm
 refine kn (jX (CJ hm (fun u E W => ∃ g c t, ST true kQ w W (hp w) (c ++ t) ∧ E 0 = g ∧ kk 53 jD 9 g u c) (fun u a => ?_) ?_))
 ·refine sg (Wm (Wm (V (G8 aG rfl) (Wm (V (xU aG rfl) (Wi rfl (Wi rfl (Wa (lr (Wm ?_))))))))))
  refine Wi rfl (ln (CI a rfl (fun y a => ?_) (fun y a => ?_)))
  ·refine jW (Wm (Wm (V (G8 aG rfl) (V (Jt aG aH rfl rfl) (Wm (bS a fun T B a => VE (Hx (enc := jD) (z := K6) b lm dc aG ej mP.1 mP.2.1 mP.2.2.1 mP.2.2.2 rfl rfl rfl B (fun N U H b x => Wm (V (xU aG rfl) (bS a fun _ j a => VQ (vj (i := 0) aG aH rfl rfl x lm (rp j) (ry j)) (fun M G => Wa (ln ?_))))))))))))
   obtain rfl := sj a
   exact ⟨M, H, _, (b.jE St), rfl, G⟩
  refine kn ?_
  obtain rfl := sj a
  exact ⟨(.slice none 0 0), [], _, (b.jE St), rfl, (kk.nil _ _ _)⟩
 rintro Q E W ⟨g, c, t, b, J, k⟩ D
 refine sg (Wh J (Wa (lt ?_)))
 obtain rfl := sj D
 exact lq (v := g) rfl rfl ⟨_, c, rfl, b.nQ (fun p d => (Ml d)) k.nd, k⟩
theorem BN (t : Value) (z : List (List jA)) (r : List jA) (w : World) (j : Sl (F6 jD 9) 1 (hp w) t z) (hm : qa z = some r) :
  mw true Tryz.prog 200 [t] w 53 jD 9 r := by
 refine wX 36 func200 rfl (fun b => sg (Wa (lr (Wa (lS (Wm ?_))))))
 refine V (lf gy rfl j) (Wm (ln (li (fun i E W => ∃ u Q, (E 11 = .int .i64 (i : Nat) ∧ E 10 = .int .i64 (z.length : Nat)) ∧ ST true kQ w W (hp w) Q ∧ E 0 = t ∧ E 3 = (.int .i64 u) ∧ E 9 = t ∧ nP z (z.drop i) u = some r) z.length j.len ⟨0, _, ⟨rfl, rfl⟩, (b.jE St), rfl, rfl, rfl, hm⟩ dc dc dc (fun _ _ _ h => by obtain ⟨_, _, l, _⟩ := h; exact l) ?_ ?_)))
 ·rintro d1 E W b9 ⟨u, Q, ⟨d, m⟩, b, T, U, Y, a⟩
  obtain ⟨n, e0, c4, c3, c5⟩ := kP b9
  rw [c4] at a
  refine bg (VQ (HU (enc := jD) (k2 := 9) (i := (d1 : Int)) (x0 := n) gy gC Y d j (aJ _) c3) (fun e2 ⟨d3, c0, c2⟩ => V (jG rfl (qO b.has (y := d3) c0 eB)) (Wa (lr (Wh U (Wm (V (lf aG rfl c2) (Wi rfl (Wa ?_)))))))))
  refine lr (Wm (Wi rfl (ln (CI a rfl (fun b7 a => ?_) (fun b7 a => ?_)))))
  ·cases a
  exact ll (kF (jQ ⟨d, (IntKind.i64.wrap (u + (n.length : Int))), _, ⟨rfl, m⟩, (b.jE St), T, rfl, Y, (by rw [c5]; exact a)⟩))
 rintro E W ⟨u, Q, ⟨d, m⟩, b, T, U, Y, a⟩
 rw [aP] at a
 refine jQ (sg (Wh U (bS a fun d2 c1 a => VE (sG b call295 (Au u _ _  c1) (fun e1 d4 o d0 b a4 q b6 => Wa (lS (Wh T (V (lf gy rfl j) (Wm ?_)))))))))
 refine ln (CJ a (fun K E W => ∃ G x N, ST true kQ w W o (x ++ N) ∧ E 6 = G ∧ kk 53 jD 9 G K x) (fun K A => ?_) ?_)
 ·refine li (fun i E W => ∃ k D g H, (E 27 = .int .i64 (i : Nat) ∧ E 26 = .int .i64 (z.length : Nat)) ∧ ST true kQ w W o (g ++ H) ∧ E 6 = k ∧ E 25 = t ∧ kk 53 jD 9 k D g ∧ nS (z.drop i) D = some K) z.length j.len ⟨d4, d2, d0, _, ⟨rfl, rfl⟩, (b.jE St), rfl, rfl, b6, A⟩ dc dc dc (fun _ _ _ h => by obtain ⟨_, _, _, _, l, _⟩ := h; exact l) ?_ ?_
  ·rintro c6 E W a3 ⟨k, D, g, H, ⟨d, m⟩, b, I, J, B, c⟩
   obtain ⟨c9, d5, O, a9, P⟩ := kP a3
   rw [O] at c
   refine bg (VQ (HU (enc := jD) (k2 := 9) (i := (c6 : Int)) (x0 := c9) gy gC J d (j.mono (F6.mono _ _) a4) (aJ _) a9) (fun d8 ⟨Z, F, L⟩ => V (jG rfl (qO b.has (y := Z) F eB)) (Wa (ln (jW (Wh I (Wm (bS c fun c7 a2 c => VE (oq (enc := jD) (v := k) (vs := Z) (R := g) b lm dc nF aG mP.1 mP.2.1 rfl mP.2.2.1 mP.2.2.2 rfl rfl B (L.mono (Pl.mono _) b.jJ) a2 (fun d6 c8 b4 b s => Wa (ky ?_)))))))))))
   exact kF (jQ ⟨d, c8, c7, b4, _, ⟨rfl, m⟩, (b.jE St), rfl, J, s, (by rw [P]; exact c)⟩)
  rintro E W ⟨k, D, g, H, ⟨d, m⟩, b, I, J, B, c⟩
  rw [aP] at c
  refine jQ ?_
  obtain rfl := sj c
  exact ⟨k, g, _, (b.jE St), I, B⟩
 rintro d7 E W ⟨G, x, N, b, b5, M⟩ a5
 refine sg (Wh b5 (Wa (lt ?_)))
 obtain rfl := sj a5
 exact lq (v := G) rfl rfl ⟨_, x, rfl, b.nQ (fun p hq => (Ml hq)) M.nd, M⟩
theorem Ec (N : Nat) (D : lP) (c g j x k t b9 : Value) (q : List jA) (r : ((List Signed) × Int × lP)) (w : World) {μ0 : km} (h0 : ni μ0 ((N, Ob #[(.string D.jI.Name), c, g, (.string D.lG), (.int .i64 D.Room), j, x, k, t] 160) :: []) w) (G : Sl ku 15 μ0 c D.jI.jV) (H : Sl kW 8 μ0 g D.jI.kx) (Q : Sl (Pl jD) 9 μ0 j D.jU) (U : Sl (Pl jD) 9 μ0 x D.Shown) (a3 : Sl (Pl jH) 2 μ0 k D.kq) (a8 : Sl (Pl jH) 2 μ0 t D.lc) (e4 : Sl (Pl jD) 9 μ0 b9 q) (hm : ud D q = some r) :
  lM false Tryz.prog 222 [(.pointer (some ⟨N, 0, none⟩)), b9] w μ0 ((N, Ob #[(.string D.jI.Name), c, g, (.string D.lG), (.int .i64 D.Room), j, x, k, t] 160) :: []) (fun v L1 μ1 => ∃ y1 y3 y5 y7 y9 k4 k5, v = (.tuple #[y1, (.int .i64 (r.2.1))]) ∧ L1 = ((N, Ob #[(.string (((r.2.2).jI).Name)), y3, y5, (.string ((r.2.2).lG)), (.int .i64 ((r.2.2).Room)), y7, y9, k4, k5] 160) :: []) ∧ Sl lL 10 μ1 y1 (r.1) ∧ Sl ku 15 μ1 y3 (((r.2.2).jI).jV) ∧ Sl kW 8 μ1 y5 (((r.2.2).jI).kx) ∧ Sl (Pl jD) 9 μ1 y7 ((r.2.2).jU) ∧ Sl (Pl jD) 9 μ1 y9 ((r.2.2).Shown) ∧ Sl (Pl jH) 2 μ1 k4 ((r.2.2).kq) ∧ Sl (Pl jH) 2 μ1 k5 ((r.2.2).lc)) := by
 let f1 : Value := (.string D.jI.Name)
 let a0 := (#[f1, c, g, (.string D.lG), (.int .i64 D.Room), j, x, k, t] : Array Value)
 let b8 := ((N, Obj.cells a0 160 (0, 0)) :: [])
 refine sO h0 60 func222 rfl (fun d => sg (Wa (Wa (lS (Wm (V (rS underlying167 rfl rfl) (ln (oS rfl ?_))))))))
 refine kS (Wm (Wn (VA d Mh [f1, c, g, (.string D.lG), (.int .i64 D.Room), j, x, k, t] ew dN (Wm (bS hm fun r1 k9 hm => VE (Eg d call316 (FW D c g j x k t b9 q _ _ (G.mono kT.mono d.jJ) (H.mono mz.mono d.jJ) (Q.mono (Pl.mono _) d.jJ) (U.mono (Pl.mono _) d.jJ) (a3.mono (Pl.mono _) d.jJ) (a8.mono (Pl.mono _) d.jJ) (e4.mono (Pl.mono _) d.jJ) k9) (fun W3 d => Wa (ln (jX ?_)))))))))
 refine jW (Wm (Wi rfl (ln (CI hm rfl (fun k7 hm => ?_) (fun k7 hm => ?_)))))
 ·refine sg (Wm (Wa (Wa (lt (kI ?_)))))
  obtain rfl := sj hm
  exact Dd (v := (.slice none 0 0)) (u := (.int .i64 r1)) rfl rfl rfl ⟨_, _, _, rfl, (d.mg (Kb Sn)), (kf.refl _), Lo.refl, (ST.kY d (mB.mem (Kb Sn))), (.slice none 0 0), c, g, j, x, k, t, rfl, rfl, (Sl.nil _ _ _), G, H, Q, U, a3, a8⟩
 refine kg (Wa (lS (Wm (bS hm fun r5 l0 hm => VE (sG d call116 (vv b9 q _ _ (e4.mono (Pl.mono _) d.jJ) l0) (fun W7 k3 ae k2 d T af e3 => V (qV aG rfl e3) (Wm ?_)))))))
 refine ln (li (fun i E W => ∃ a9 c7 b2 a2 d8, (E 25 = .int .i64 (i : Nat) ∧ E 24 = .int .i64 (r5.length : Nat)) ∧ kf ae a2 ∧ Lo (keys b8) w ae a2 ∧ ST false (keys b8) w W a2 ((N, Obj.cells a0 160 (0, 0)) :: (b2 ++ (k2 ++ d8))) ∧ E 0 = (.pointer (some ⟨N, 0, none⟩)) ∧ E 1 = b9 ∧ E 7 = a9 ∧ E 23 = k3 ∧ kR 56 lL 10 a2 a9 c7 b2 ∧ pf D q (r5.drop i) c7 = some r) r5.length e3.len ⟨(.slice none 0 0), ([]), [], ae, _, ⟨rfl, rfl⟩, (kf.refl _), Lo.refl, (d.jE (Sb (Pr Pz) St)), rfl, rfl, rfl, rfl, (kR.nil _ _ _ _), hm⟩ dc dc dc (fun _ _ _ h => by obtain ⟨_, _, _, _, _, ag, _⟩ := h; exact ag) ?_ ?_)
 ·rintro h3 E W i7 ⟨a9, c7, b2, a2, d8, ⟨eI, eN⟩, z, n, d, b3, c4, c5, c6, d1, I⟩
  obtain ⟨s, o7, i8, f3, i9⟩ := kP i7
  rw [i8] at I
  refine bg (VQ (nz (i := (h3 : Int)) (x0 := s) aG aH c6 eI e3 (aJ _) f3) (fun n8 f9 => V (jG rfl (pB d.has (fun p hq => (Mt (Ma (Ml hq)))) e3 lm f9 f3 bR aH)) (VE (kv d cX (fun m2 h5 d => VO (jY (.agg (jD s).toArray) ((jD s).toArray) d rfl rfl aH (nF s) nb rfl (fun m3 d => ln (jX ?_))))))))
  replace d := d.drew
  have m := d.has.jE (Kb (Kb Sn))
  refine kM m ko (X 0 rfl m (jN b3) (X 1 rfl m (mH rfl) (X 2 rfl m (jM wP rfl) (XH 3 rfl m (fun _ hS => jG rfl (jO hS (Mt Mh) [f1, c, g] rfl ez dS)) (XH 4 rfl m (fun _ hS => jG rfl (jO hS Mh (jD s) rfl bR aH)) (PJ I (fun y E W => ∃ d9 e6 c9 b6 f2, kf a2 b6 ∧ Lo (keys b8) w a2 b6 ∧ ST false (keys b8) w W b6 ((d9, Ob #[(.int .i64 y.2.2.2.1.Kind), (.string y.2.2.2.1.Head.jF), (.string y.2.2.2.1.Head.jK), (.string y.2.2.2.1.kA), (.string y.2.2.2.1.B.jF), (.string y.2.2.2.1.B.jK), (.string y.2.2.2.1.C.jF), (.string y.2.2.2.1.C.jK), (.string y.2.2.2.1.kz), c9] 56) :: ((h5, Ol (jD s) 53) :: ((N, Obj.cells a0 160 (0, 0)) :: (b2 ++ (k2 ++ f2))))) ∧ E 0 = (.pointer (some ⟨N, 0, none⟩)) ∧ E 1 = b9 ∧ E 7 = a9 ∧ E 10 = (.pointer (some ⟨d9, 0, none⟩)) ∧ E 23 = k3 ∧ E 24 = (.int .i64 (r5.length : Int)) ∧ E 25 = (.int .i64 (h3 : Int)) ∧ E 36 = (.agg #[(.int .i64 y.1.Kind), (.string y.1.Head.jF), (.string y.1.Head.jK), (.string y.1.kA), (.string y.1.B.jF), (.string y.1.B.jK), (.string y.1.C.jF), (.string y.1.C.jK), (.string y.1.kz), e6]) ∧ E 37 = (.bool y.2.2.1) ∧ Sl (Pl (kU .u8)) 1 b6 e6 y.2.1 ∧ Sl (Pl (kU .u8)) 1 b6 c9 y.2.2.2.2 ∧ Fr w.heap.size c9) (bm 12 1023) 2 ?_ (fun y a5 d5 => ?_)))))))
  ·rintro ⟨a, c8, o5, o6, n7⟩ E W ⟨d9, e6, c9, b6, f2, b4, A, d, h9, i0, i1, e2, i2, i3, i4, i5, i6, f0, l1, k8⟩ b1
   obtain ⟨d6, e0, rfl⟩ := f0.form
   let d0 := (C2 a.Kind a.Head.jF a.Head.jK a.kA a.B.jF a.B.jK a.C.jF a.C.jK a.kz d6 c8.length e0)
   refine XO 10 rfl (jY (.agg d0.toArray) (d0.toArray) d e2 i5 dm oc nb rfl (fun m4 d => ?_))
   have m := d.has.oA b4 (Db (Kb (Kb Sn)))
   refine ⟨m, (X 11 rfl m (nU i6) (kV kr (jQ ?_)))⟩
   replace d := d.jE (Kb (Db St))
   replace d := d.drew
   have m := d.has.jE (Kb Sn)
   refine kM m ko (X 0 rfl m (jN i1) (X 1 rfl m (jM rM e2) (XH 2 rfl m (fun _ hS => jG rfl (jO hS Mh (jD a) rfl bR aH)) (X 3 rfl m (jM Bm e2) (XH 4 rfl m (fun _ hS => jG rfl (jS hS Mh rfl gw)) (bS b1 fun Z g0 b1 => XE 5 rfl (sG d call317 (mw.lD (Ci (.slice d6 c8.length e0) c8 _ _ (f0.mono (Pl.mono _) d.jJ) g0)) (fun m5 o1 o8 l9 d a4 F e8 => ?_))))))))
   have m := d.has.oA a4 (Dr (Kb Sn))
   refine ⟨m, ?_⟩
   obtain ⟨a6, a7, rfl⟩ := e8.form
   let e7 := (C2 a.Kind a.Head.jF a.Head.jK a.kA a.B.jF a.B.jK a.C.jF a.C.jK a.kz a6 Z.length a7)
   refine X 6 rfl m (ma (v := (.agg e7.toArray)) (qf rfl rfl) (ly dH et (JR _ et) kr)) ?_
   obtain ⟨j9, d, b5, L, g7⟩ := ST.Cl d e8 (fun _ => rfl)
   refine XE 7 rfl (kJ (cs := e7.toArray) d (mQ rfl) (na cZ dm dH) (fun m6 n6 d => ?_))
   have m := d.has.oA (a4.trans b5) (Db (Kb Sn))
   refine ⟨m, ?_⟩
   replace d := d.perm (Nr (Qb (Qb (Qb Qz))) Nz)
   refine bS b1 fun j0 f8 b1 => XE 8 rfl (tZ (B := b2) nC d dc cZ Fp.1 Fp.2.1 rfl Fp.2.2.1 Fp.2.2.2 rfl rfl (d1.mono nC ((b4.trans a4).trans b5)) (Bn.lit nC (l := [(⟨a, Z⟩ : Signed)]) (.cons (ys := C2 a.Kind a.Head.jF a.Head.jK a.kA a.B.jF a.B.jK a.C.jF a.C.jK a.kz a6 Z.length a7) (lL.mk ⟨(.slice a6 Z.length a7), rfl, g7⟩) .nil) rfl nb (d.at_ (Ma Mh))) f8 (fun m7 j5 h4 d f6 => ?_))
   have m := d.has.oA (a4.trans b5) (Dr (Db (Kb Sn)))
   refine ⟨m, (X 9 rfl m (nU rfl) (kV kr (kF (jQ ?_))))⟩
   replace d := d.jE (Kr (Db (Db St)))
   exact ⟨i4, j5, j0, h4, j9, _, ⟨rfl, i3⟩, (((z.trans b4).trans a4).trans b5), (((n.trans A).trans F).trans L), (d.jE (Sb (Pr Pz) St)), h9, i0, rfl, i2, f6, (by rw [i9]; exact b1)⟩
  refine CO 5 9 rfl rfl kr (.inl rfl) (.inl rfl) rfl rfl dc dc ?_ ?_
  ·refine bS a5 fun n9 g1 a5 => ?_
   refine Ig (args := [(.agg #[f1, c, g]), (.agg (jD s).toArray)]) (caps := #[]) [] _ d (bT _) rfl call221 (by exact ua rfl rfl) (fun hH hN ah ai => lM.lD (xX D.jI c g s _ _ ⟨hH, hN, ah⟩ (G.mono kT.mono (T.trans z)) (H.mono mz.mono (T.trans z)) g1)) (fun m8 o2 k0 l7 d b7 O f4 => ?_)
   obtain ⟨j7, d2, rfl, h1⟩ := f4
   replace d2 := d2.symm; subst d2
   replace d := d.perm Tn
   have m := d.has.oA b7 (Kb (Kb Sn))
   refine ⟨m, (X 6 rfl m (jN rfl) (X 7 rfl m (vk rfl rfl) (X 8 rfl m (vk rfl rfl) (XE 9 rfl (kv d dH (fun m9 h6 d => ?_))))))⟩
   have m := d.has.oA b7 (Db (Kb (Kb Sn)))
   refine ⟨m, ?_⟩
   obtain rfl := sj a5
   refine lU kr (d5 _ _ ⟨h6, j7, (.slice none 0 0), k0, _, b7, O, (d.jE St), b3, c4, c5, rfl, c6, eN, eI, rfl, rfl, h1, (Sl.nil _ _ _), (Fr.nil _)⟩)
  ·refine kv d dH (fun n0 h7 d => ?_)
   have m := d.has.jE (Db (Kb (Kb Sn)))
   refine ⟨m, (bS a5 fun o0 g2 a5 => ?_)⟩
   refine XE 5 rfl (eD d (bT _) call221 (fun hh => lM.lD (xX D.jI c g s _ _ hh (G.mono kT.mono (T.trans z)) (H.mono mz.mono (T.trans z)) g2)) ?_ (L0 := []))
   rintro _ o3 k1 l8 d d4 P ⟨j8, d3, rfl, h2⟩
   obtain rfl := d3.symm
   have m := d.has.oA d4 (Db (Kb (Kb Sn)))
   refine ⟨m, (X 6 rfl m (jN rfl) (X 7 rfl m (vk rfl rfl) (X 8 rfl m (vk rfl rfl) ?_)))⟩
   obtain rfl := sj a5
   refine lU kr (d5 _ _ ⟨h7, j8, (.slice none 0 0), k1, _, d4, P, (d.jE St), b3, c4, c5, rfl, c6, eN, eI, rfl, rfl, h2, (Sl.nil _ _ _), (Fr.nil _)⟩)
 rintro E W ⟨a9, c7, b2, a2, d8, ⟨eI, eN⟩, z, n, d, b3, c4, c5, c6, d1, I⟩
 rw [aP] at I
 refine jQ ?_
 replace d := d.jE (Kb (Kr (Dr St)))
 refine sg (Wh b3 (Wh b3 (Wn (Wf wN (VB d Mh rfl rfl eB (Wh c4 ?_))))))
 obtain ⟨c0, c2, rfl⟩ := U.form
 obtain ⟨c1, c3, rfl⟩ := e4.form
 refine VE (kJ (cs := #[(.slice c0 D.Shown.length c2), (.slice c1 q.length c3)]) d (qf rfl rfl) (na gy gC iP) (fun n2 h8 d => bS I fun j3 g3 I => VE (sG d call200 (mw.lD (BN (.slice (some ⟨h8, 0, none⟩) 2 2) ([D.Shown, q]) _ _ (F6.lit (l := [D.Shown, q]) (vs := [(.slice c0 D.Shown.length c2), (.slice c1 q.length c3)]) rfl nb (d.at_ Mh) (.cons (U.mono (Pl.mono _) ((T.trans z).trans d.jJ)) (.cons (e4.mono (Pl.mono _) ((T.trans z).trans d.jJ)) .nil))) g3)) (fun n3 j6 o9 m0 d J R f7 => bS I fun e5 g4 I => VE (sG d call116 (vv j6 j3 _ _ (f7.sl lm (fun b o hq => d.at_ (Ml hq))) g4) (fun n4 o4 p0 m1 d K aa e9 => Wn (Wf wN ?_)))))))
 obtain ⟨d7, e1, rfl⟩ := e9.form
 let f5 : Value := (.slice d7 e5.length e1)
 replace d := d.perm (Nb (Pr (Pr (Pb Pz))) Nz)
 refine VO (jY f5 (#[f1, c, g, (.string D.lG), (.int .i64 D.Room), j, f5, k, t]) d rfl rfl gC oc nb rfl (fun n5 d => ln ?_))
 replace d := d.jE (Kb (Kr (Dr (Db St))))
 refine sg (Wh c5 (Wa (Wa (lt ?_))))
 obtain rfl := sj I
 refine Dd (v := a9) (u := (.int .i64 0)) rfl rfl rfl ?_
 replace d := d.perm (Nr (Qb (Qr Qz)) Nz)
 obtain ⟨p1, d, Y, ab, g8⟩ := ST.vS nC d (d1.mono nC (J.trans K))
 replace d := d.perm (Nr (Qb Qz) Nz)
 obtain ⟨p2, d, M, ad, g9⟩ := ST.Cl d e9 lm
 exact ⟨_, _, _, rfl, (d.mg (Kb Sn)), (((((T.trans z).trans J).trans K).trans Y).trans M), (((((af.trans n).trans R).trans aa).trans ab).trans ad), (ST.kY d (mB.mem (Kb Sn))), a9, c, g, j, f5, k, t, rfl, rfl, (g8.mono nC.mono M), (G.mono kT.mono (((((T.trans z).trans J).trans K).trans Y).trans M)), (H.mono mz.mono (((((T.trans z).trans J).trans K).trans Y).trans M)), (Q.mono (Pl.mono _) (((((T.trans z).trans J).trans K).trans Y).trans M)), g9, (a3.mono (Pl.mono _) (((((T.trans z).trans J).trans K).trans Y).trans M)), (a8.mono (Pl.mono _) (((((T.trans z).trans J).trans K).trans Y).trans M))⟩
theorem xT (K : Nat) (t : lP) (a c g k i j : Value) (r : (vo × Int × lP)) (w : World) {N : km} (h0 : ni N ((K, Ob #[(.string t.jI.Name), a, c, (.string t.lG), (.int .i64 t.Room), g, k, i, j] 160) :: []) w) (u : Sl ku 15 N a t.jI.jV) (x : Sl kW 8 N c t.jI.kx) (z : Sl (Pl jD) 9 N g t.jU) (H : Sl (Pl jD) 9 N k t.Shown) (D : Sl (Pl jH) 2 N i t.kq) (G : Sl (Pl jH) 2 N j t.lc) (hm : qQ t = some r) :
  lM false Tryz.prog 112 [(.pointer (some ⟨K, 0, none⟩))] w N ((K, Ob #[(.string t.jI.Name), a, c, (.string t.lG), (.int .i64 t.Room), g, k, i, j] 160) :: []) (fun v L1 Q => ∃ P R W y7 y9 n o q, v = (.tuple #[(.agg #[(.int .i64 ((r.1).Kind)), (.int .i64 ((r.1).qN)), (.int .i64 ((r.1).E)), (.string ((r.1).Name)), P, R]), (.int .i64 (r.2.1))]) ∧ L1 = ((K, Ob #[(.string (((r.2.2).jI).Name)), W, y7, (.string ((r.2.2).lG)), (.int .i64 ((r.2.2).Room)), y9, n, o, q] 160) :: []) ∧ Sl (Pl jH) 2 Q P ((r.1).oF) ∧ Sl lL 10 Q R ((r.1).ns) ∧ Sl ku 15 Q W (((r.2.2).jI).jV) ∧ Sl kW 8 Q y7 (((r.2.2).jI).kx) ∧ Sl (Pl jD) 9 Q y9 ((r.2.2).jU) ∧ Sl (Pl jD) 9 Q n ((r.2.2).Shown) ∧ Sl (Pl jH) 2 Q o ((r.2.2).kq) ∧ Sl (Pl jH) 2 Q q ((r.2.2).lc)) := by
 refine sO h0 24 func112 rfl (fun b => sg (VE (kv b ee (fun W2 b1 b => Wa (lS (Wm (V (rS underlying167 rfl rfl) (ln (oS rfl ?_)))))))))
 refine kg (Wm (Wm (Wn (VA b (Mt Mh) [(.string t.jI.Name), a, c, (.string t.lG), (.int .i64 t.Room), g, k, i, j] ew dN (bS hm fun r3 c2 hm => VE (sG b call217 (yr t a c g k i j _ _ (u.mono kT.mono b.jJ) (x.mono mz.mono b.jJ) (z.mono (Pl.mono _) b.jJ) (H.mono (Pl.mono _) b.jJ) (D.mono (Pl.mono _) b.jJ) (G.mono (Pl.mono _) b.jJ) c2) (fun W5 v9 aa d5 b B l b7 => ?_)))))))
 obtain ⟨e1, b, y, d, c1⟩ := ST.Cl b b7 lm
 refine bS hm fun I c0 hm => ?_
 refine VE (eD b (Cb (Pb Pz) Cn) call222 (fun hh => (Ec K (⟨(⟨t.jI.Name, t.jI.jV, t.jI.kx⟩ : jI), t.lG, t.Room, t.jU, t.Shown, t.kq, t.lc⟩ : lP) a c g k i j v9 r3 _ _ hh (u.mono kT.mono (B.trans y)) (x.mono mz.mono (B.trans y)) (z.mono (Pl.mono _) (B.trans y)) (H.mono (Pl.mono _) (B.trans y)) (D.mono (Pl.mono _) (B.trans y)) (G.mono (Pl.mono _) (B.trans y)) (c1.mono (Pl.mono _) (kf.refl _)) c0)) ?_)
 rintro _ d9 e2 d4 b U h ⟨e0, a9, s, A, F, L, O, T, rfl, Y, Z, m, a2, a3, a4, a5⟩
 obtain rfl := T.symm
 replace b := b.perm (Tb Tn)
 refine Wm (Wx rfl (Wx rfl (Wa (Wa (lS (Wm (Wi rfl (ln (CI hm rfl (fun b9 hm => ?_) (fun b9 hm => ?_))))))))))
 ·refine sg (V (ma (v := (.agg Cw.toArray)) pK (ly ee dA (GW _ dA) kr)) (Wm ?_))
  replace b := b.perm (Nb (Pb Pz) Nz)
  refine VO (jY (.agg Cw.toArray) (Cw.toArray) b rfl rfl dT oc nb rfl (fun d7 b => Wa (lt (kI ?_))))
  obtain rfl := sj hm
  exact pN (v0 := (.agg Cw.toArray)) (v1 := (.int .i64 I.2.1)) rfl rfl (jO b.has Mh Cw rfl gl dT) rfl ⟨_, _, _, rfl, (b.mg (Db (Kb Sn))), ((B.trans y).trans U), ((l.trans d).trans h), (ST.kY b (mB.mem (Db (Kb Sn)))), (.slice none 0 0), (.slice none 0 0), a9, s, A, F, L, O, rfl, rfl, (Sl.nil _ _ _), (Sl.nil _ _ _), Z, m, a2, a3, a4, a5⟩
 refine kg (Wm ?_)
 obtain ⟨J, M, rfl⟩ := Y.form
 let a0 := (QI J I.1.length M)
 refine V (ma (v := (.agg a0.toArray)) (qf rfl rfl) (ly ee dA (GW _ dA) kr)) ?_
 replace b := b.perm (Nb (Pb Pz) Nz)
 refine VO (jY (.agg a0.toArray) (a0.toArray) b rfl rfl dT oc nb rfl (fun d8 b => Wa (lt ?_)))
 obtain rfl := sj hm
 exact pN (v0 := (.agg a0.toArray)) (v1 := (.int .i64 0)) rfl rfl (jO b.has Mh a0 rfl gl dT) rfl ⟨_, _, _, rfl, (b.mg (Db (Kb Sn))), ((B.trans y).trans U), ((l.trans d).trans h), (ST.kY b (mB.mem (Db (Kb Sn)))), (.slice none 0 0), (.slice J I.1.length M), a9, s, A, F, L, O, rfl, rfl, (Sl.nil _ _ _), Y, Z, m, a2, a3, a4, a5⟩
theorem El (r : (vo × Int)) (w : World) {g : km} (k : ni g [] w) (hm : zd  = some r) :
  lM true Tryz.prog 112 [(.pointer none)] w g [] (fun v j i => ∃ a c, v = (.tuple #[(.agg #[(.int .i64 ((r.1).Kind)), (.int .i64 ((r.1).qN)), (.int .i64 ((r.1).E)), (.string ((r.1).Name)), a, c]), (.int .i64 (r.2))]) ∧ j = [] ∧ Sl (Pl jH) 2 i a ((r.1).oF) ∧ Sl lL 10 i c ((r.1).ns)) := by
 refine sO k 24 func112 rfl (fun b => sg (VE (kv b ee (fun t x b => Wa (lS (Wm (V (rS underlying167 rfl rfl) (ln (sV rfl ?_)))))))))
 refine sg (V (ma (v := (.agg Cw.toArray)) pK (ly ee dA (GW _ dA) kr)) (VO (jY (.agg Cw.toArray) (Cw.toArray) b rfl rfl dT oc nb rfl (fun u b => Wa (lt (kI ?_))))))
 obtain rfl := sj hm
 exact pN (v0 := (.agg Cw.toArray)) (v1 := (.int .i64 1)) rfl rfl (jO b.has Mh Cw rfl gl dT) rfl ⟨_, _, _, rfl, (b.mg Sn), (kf.refl _), Lo.refl, (ST.kY b (mB.mem Sn)), (.slice none 0 0), (.slice none 0 0), rfl, rfl, (Sl.nil _ _ _), (Sl.nil _ _ _)⟩
theorem DW (k : vo) (j i : Value) (r : Bool) (w : World) (g : Sl (Pl jH) 2 (hp w) j k.oF) (c : Sl lL 10 (hp w) i k.ns) (hm : uE k = some r) :
  ki true Tryz.prog 114 [(.agg #[(.int .i64 k.Kind), (.int .i64 k.qN), (.int .i64 k.E), (.string k.Name), j, i])] w (.bool r) := by
 refine cG 16 func114 rfl (fun b => sg ?_)
 obtain ⟨D, H, rfl⟩ := g.form
 obtain ⟨G, I, rfl⟩ := c.form
 refine VE (kH b rfl (fun K M b => Wa (lr (Wf xa (VB b Mh rfl rfl cL (Wi rfl (Wm (LJ hm (fun x E W => ∃ z, ST true kQ w W (hp w) z ∧ E 2 = (.bool false) ∧ E 15 = (.bool x)) 9 ?_ (fun x t u => ?_)))))))))
 ·rintro N E W ⟨z, b, J, B⟩ y
  exact Wg B (lt (rQ y b))
 refine bC t (fun a t => ?_) (fun a t => ?_)
 ·refine ug a (jM yY rfl) (ug a (jG rfl (jS b.has Mh rfl gz)) (ug a (lf bF rfl g) (ug a (jM wU rfl) (ug a (jG rfl (jS b.has Mh rfl jz)) (ug a (lf cZ rfl c) (ug a (kL rfl rfl rfl) (ug a (kL rfl rfl rfl) (V (kd (cB a) rfl) ?_))))))))
  obtain rfl := sj t
  exact u _ _ ⟨_, (b.jE (Db St)), rfl, rfl⟩
 refine un a (un a (un a (un a (un a (un a (un a (un a (V (ke (cB a) rfl) ?_))))))))
 obtain rfl := sj t
 exact u _ _ ⟨_, (b.jE (Db St)), rfl, rfl⟩
set_option maxHeartbeats 1000000 in
theorem GF (r : Bool) (w : World) (hm : ur  = some r) :
  ki false Tryz.prog 108 [] w (.bool r) := by
 refine cG 87 func108 rfl (fun b => sg (Wa (lr (V (ma (v := (.agg (jH K5).toArray)) (qf rfl rfl) (ly eb dx (MU _ dx) kr)) (V (ma (v := (.agg (jD K9).toArray)) (Ft rfl rfl rfl) (ly cX dD (Ox _ dD) kr)) (VE (kv b cX (fun W2 n b => VO (jY (.agg (jD K9).toArray) ((jD K9).toArray) b rfl rfl aH (nF K9) nb rfl (fun W3 b => ln (jX ?_)))))))))))
 replace b := b.drew
 have d := b.has.jE (Kb Sn)
 refine kM d ko (XH 0 rfl d (fun _ o => jG rfl (jO o Mh (jD K9) rfl bR aH)) (X 3 rfl d (ma (v := (.agg IT.toArray)) (mQ rfl) (ly bD bY (xo _ bY) kr)) (PJ hm (fun d6 E W => ∃ j0 j3 i9 h3 h4 h5 d7 k0, kf (hp w) d7 ∧ ST false kQ w W d7 ((j0, Ob #[(.string d6.2.2.2.1), h4, h5] 110) :: ((n, Ol (jD K9) 53) :: (i9 ++ k0))) ∧ E 1 = (.pointer (some ⟨n, 0, none⟩)) ∧ E 2 = (.pointer (some ⟨j0, 0, none⟩)) ∧ E 21 = (.agg #[(.string d6.1), j3, h3]) ∧ kR 138 ku 15 d7 j3 d6.2.1 i9 ∧ Sl kW 8 d7 h3 d6.2.2.1 ∧ Fr w.heap.size h3 ∧ Sl ku 15 d7 h4 d6.2.2.2.2.1 ∧ Fr w.heap.size h4 ∧ Sl kW 8 d7 h5 d6.2.2.2.2.2 ∧ Fr w.heap.size h5) (bm 9 255) 1 ?_ (fun d6 c2 f3 => ?_))))
 ·let g6 := ((jD K9).toArray : Array Value)
  rintro ⟨h6, f4, f5, bf, ap, aq⟩ E W ⟨j0, j3, i9, h3, h4, h5, d7, k0, h7, b, l2, l3, u0, g7, j4, x3, y0, x4, y1, x5⟩ y
  obtain ⟨f6, g1, rfl⟩ := g7.form
  obtain ⟨f7, g2, rfl⟩ := j4.form
  let ct := (C8 h6 f6 f4.length g1 f7 f5.length g2)
  refine XO 8 rfl (jY (.agg ct.toArray) (ct.toArray) b l3 u0 dS oc nb rfl (fun y9 b => ?_))
  have d := b.has.oA h7 (Db (Kb Sn))
  refine ⟨d, (kV kr (jQ (sg (V (jG l3 (jO b.has Mh ct rfl ez dS)) ?_))))⟩
  replace b := b.perm (Nr (Qb (Qb Qz)) Nz)
  have x6 := g7.IS b (fun p F => (Ml F))
  obtain ⟨cf, b, o2, cS, r8⟩ := ST.vS kT b g7
  refine bS y fun g r0 y => ?_
  let cz : Value := (.string ((g.1).lG))
  let cu : Value := (.int .i64 ((g.1).Room))
  let cr : Value := (.string (((g.1).jI).Name))
  refine VE (LH b (bT _) call216 (fun hH hN m aE => (Hz (⟨h6, f4, f5⟩ : jI) (.slice f6 f4.length g1) (.slice f7 f5.length g2) (⟨#[121, 111, 117]⟩ : ByteArray) 9 _ _ ⟨hH, hN, m⟩ (r8.mono kT.mono (kf.refl _)) (j4.mono mz.mono o2) r0)) (fun z0 ay cg y3 b w9 dg p4 => ?_) (L0 := []))
  obtain ⟨bs, bt, bu, bv, bw, bx, g8, rfl, e6, e7, e8, e9, f0, f1⟩ := p4
  replace g8 := g8.symm; subst g8
  replace b := b.perm Tn
  refine Wm (Wx rfl (Wx rfl (VE (kv b jk (fun z1 j b => ?_)))))
  let L : Value := (.pointer (some ⟨j, 0, none⟩))
  obtain ⟨c4, d0, rfl⟩ := e6.form
  let j1 : Value := (.slice c4 (((g.1).jI).jV).length d0)
  obtain ⟨c5, d1, rfl⟩ := e7.form
  let j2 : Value := (.slice c5 (((g.1).jI).kx).length d1)
  obtain ⟨c6, d2, rfl⟩ := e8.form
  let bb : Value := (.slice c6 ((g.1).jU).length d2)
  obtain ⟨c7, d3, rfl⟩ := e9.form
  let cl : Value := (.slice c7 ((g.1).Shown).length d3)
  obtain ⟨c8, d4, rfl⟩ := f0.form
  let ck : Value := (.slice c8 ((g.1).kq).length d4)
  obtain ⟨c9, d5, rfl⟩ := f1.form
  let cm : Value := (.slice c9 ((g.1).lc).length d5)
  refine VO (jY (.agg #[cr, j1, j2, cz, cu, bb, cl, ck, cm]) (#[cr, j1, j2, cz, cu, bb, cl, ck, cm]) b rfl rfl dN oc nb rfl (fun z2 b => Wa (ln ?_)))
  replace b := b.jE (Kb (Db St))
  refine sg (VA b Mh [cr, j1, j2, cz, cu, bb, cl, ck, cm] ew dN (bS y fun au r1 y => VE (sG b call217 (yr g.1 j1 j2 bb cl ck cm _ _ (e6.mono kT.mono b.jJ) (e7.mono mz.mono b.jJ) (e8.mono (Pl.mono _) b.jJ) (e9.mono (Pl.mono _) b.jJ) (f0.mono (Pl.mono _) b.jJ) (f1.mono (Pl.mono _) b.jJ) r1) (fun z3 v9 ch q b t dh g3 => Wa (lr (VA b (Ma Mh) [cr, j1, j2, cz, cu, bb, cl, ck, cm] ew dN (bS y fun o3 r2 y => VE (Eg b call111 (xu g.1 j1 j2 bb cl ck cm _ _ (e6.mono kT.mono (t.trans b.jJ)) (e7.mono mz.mono (t.trans b.jJ)) (e8.mono (Pl.mono _) (t.trans b.jJ)) (e9.mono (Pl.mono _) (t.trans b.jJ)) (f0.mono (Pl.mono _) (t.trans b.jJ)) (f1.mono (Pl.mono _) (t.trans b.jJ)) r2) (fun z4 b => Wa (ky ?_))))))))))
  refine jQ (sg (bS y fun c r3 y => ?_))
  let de : Value := (.int .i64 ((c.1).qN))
  let dd : Value := (.int .i64 ((c.1).Kind))
  refine VE (LH b (Cb (Pr Pz) Cn) call112 (fun hH hN m aE => (xT j g.1 j1 j2 bb cl ck cm _ _ ⟨hH, hN, m⟩ (e6.mono kT.mono t) (e7.mono mz.mono t) (e8.mono (Pl.mono _) t) (e9.mono (Pl.mono _) t) (f0.mono (Pl.mono _) t) (f1.mono (Pl.mono _) t) r3)) (fun z5 az ci y4 b x1 di p5 => ?_))
  obtain ⟨bz, ca, w0, w1, w2, w3, w4, w5, g9, rfl, s2, j5, s3, s4, s5, s6, s7, s8⟩ := p5
  replace g9 := g9.symm; subst g9
  replace b := b.perm (Tb Tn)
  refine Wm (Wx rfl (Wx rfl (VE (kv b ee (fun z6 K b => ?_)))))
  let cq : Value := (.pointer (some ⟨K, 0, none⟩))
  obtain ⟨U, Z, rfl⟩ := s2.form
  let cy : Value := (.slice U ((c.1).oF).length Z)
  obtain ⟨Y, a0, rfl⟩ := j5.form
  let cx : Value := (.slice Y ((c.1).ns).length a0)
  let b8 := (#[dd, de, (.int .i64 ((c.1).E)), (.string ((c.1).Name)), cy, cx] : Array Value)
  refine VO (jY (.agg #[dd, de, (.int .i64 ((c.1).E)), (.string ((c.1).Name)), cy, cx]) (#[dd, de, (.int .i64 ((c.1).E)), (.string ((c.1).Name)), cy, cx]) b rfl rfl dT oc nb rfl (fun z7 b => Wa (lr (bS y fun a r4 y => ?_))))
  let db : Value := (.int .i64 ((a.1).E))
  let da : Value := (.string ((a.1).Name))
  let cw : Value := (.int .i64 ((a.1).qN))
  let cv : Value := (.int .i64 ((a.1).Kind))
  refine VE (LH b (Cb (Pb Pz) Cn) call112 (fun hH hN m aE => (xT j c.2.2 w0 w1 w2 w3 w4 w5 _ _ ⟨hH, hN, m⟩ (s3.mono kT.mono (kf.refl _)) (s4.mono mz.mono (kf.refl _)) (s5.mono (Pl.mono _) (kf.refl _)) (s6.mono (Pl.mono _) (kf.refl _)) (s7.mono (Pl.mono _) (kf.refl _)) (s8.mono (Pl.mono _) (kf.refl _)) r4)) (fun z8 ba cj y5 b x2 dj p6 => ?_))
  obtain ⟨cb, cc, a2, a3, a4, a5, a6, a7, h0, rfl, j6, j7, s9, t0, t1, t2, t3, t4⟩ := p6
  let g5 := (#[(.string (((a.2.2).jI).Name)), a2, a3, (.string ((a.2.2).lG)), (.int .i64 ((a.2.2).Room)), a4, a5, a6, a7] : Array Value)
  replace h0 := h0.symm; subst h0
  replace b := b.perm (Tb Tn)
  refine Wm (Wx rfl (Wx rfl (VE (kv b ee (fun z9 G b => ?_)))))
  let cn : Value := (.pointer (some ⟨G, 0, none⟩))
  obtain ⟨I, M, rfl⟩ := j6.form
  let co : Value := (.slice I ((a.1).oF).length M)
  obtain ⟨J, N, rfl⟩ := j7.form
  let cp : Value := (.slice J ((a.1).ns).length N)
  let A := (#[cv, cw, db, da, co, cp] : Array Value)
  refine VO (jY (.agg #[cv, cw, db, da, co, cp]) (#[cv, cw, db, da, co, cp]) b rfl rfl dT oc nb rfl (fun aa b => Wa (lr (bS y fun k r5 y => ?_))))
  refine VE (LH b (bT _) call112 (fun hH hN m aE => lM.lD (El  _ _ ⟨hH, hN, m⟩  r5)) (fun ab bc s y6 b Q dk p7 => ?_) (L0 := []))
  obtain ⟨cd, ce, h1, rfl, t5, t6⟩ := p7
  replace h1 := h1.symm; subst h1
  replace b := b.perm Tn
  refine Wm (Wx rfl (Wx rfl (VE (kv b ee (fun ac ao b => ?_)))))
  obtain ⟨j8, l0, rfl⟩ := t5.form
  obtain ⟨j9, l1, rfl⟩ := t6.form
  refine VO (jY (.agg #[(.int .i64 ((k.1).Kind)), (.int .i64 ((k.1).qN)), (.int .i64 ((k.1).E)), (.string ((k.1).Name)), (.slice j8 ((k.1).oF).length l0), (.slice j9 ((k.1).ns).length l1)]) (#[(.int .i64 ((k.1).Kind)), (.int .i64 ((k.1).qN)), (.int .i64 ((k.1).E)), (.string ((k.1).Name)), (.slice j8 ((k.1).oF).length l0), (.slice j9 ((k.1).ns).length l1)]) b rfl rfl dT oc nb rfl (fun ad b => Wa (ln ?_)))
  replace b := b.jE (Db St)
  refine jX ?_
  replace b := b.drew
  have d := b.has.jE (Kb (Kb (Kb (Kr (Kb Sn)))))
  refine kM d ko (X 0 rfl d (jN rfl) (X 1 rfl d (kL rfl rfl rfl) (X 2 rfl d (jN rfl) (PJ y (fun p2 E W => ∃ k1, ST false kQ w W s ((G, Obj.cells A 164 (0, 0)) :: ((j, Obj.cells g5 160 (0, 0)) :: ((K, Obj.cells b8 164 (0, 0)) :: ((n, Obj.cells g6 53 (0, 0)) :: (q ++ k1))))) ∧ E 1 = (.pointer (some ⟨n, 0, none⟩)) ∧ E 3 = L ∧ E 5 = v9 ∧ E 6 = (.bool o3) ∧ E 7 = cq ∧ E 8 = (.int .i64 c.2.1) ∧ E 9 = cn ∧ E 10 = (.int .i64 a.2.1) ∧ E 12 = (.int .i64 k.2) ∧ E 49 = (.bool p2)) (bm 45 127) 38 ?_ (fun p2 e4 i8 => ?_)))))
  ·rintro bh E W ⟨k1, b, u1, l4, u2, l5, l6, l7, l8, l9, m0, u3⟩ q0
   have d := b.has.jE (Kb (Kb (Kb (Sr (Qb Qz) (Kb Sn)))))
   refine X 7 rfl d (jN u3) (PJ q0 (fun p1 E W => ∃ k2, ST false kQ w W s ((G, Obj.cells A 164 (0, 0)) :: ((j, Obj.cells g5 160 (0, 0)) :: ((K, Obj.cells b8 164 (0, 0)) :: ((n, Obj.cells g6 53 (0, 0)) :: (q ++ k2))))) ∧ E 3 = L ∧ E 6 = (.bool o3) ∧ E 7 = cq ∧ E 8 = (.int .i64 c.2.1) ∧ E 9 = cn ∧ E 10 = (.int .i64 a.2.1) ∧ E 12 = (.int .i64 k.2) ∧ E 56 = (.bool p1)) (bm 45 16383) 31 ?_ (fun p1 c1 i7 => ?_))
   ·rintro bi E W ⟨k2, b, m1, u4, m2, m3, m4, m5, m6, u5⟩ q1
    have d := b.has.jE (Kb (Kb (Kb (Sr (Qb Qz) (Kb Sn)))))
    refine X 14 rfl d (jN u5) (PJ q1 (fun p0 E W => ∃ k3, ST false kQ w W s ((G, Obj.cells A 164 (0, 0)) :: ((j, Obj.cells g5 160 (0, 0)) :: ((K, Obj.cells b8 164 (0, 0)) :: ((n, Obj.cells g6 53 (0, 0)) :: (q ++ k3))))) ∧ E 3 = L ∧ E 7 = cq ∧ E 8 = (.int .i64 c.2.1) ∧ E 9 = cn ∧ E 10 = (.int .i64 a.2.1) ∧ E 12 = (.int .i64 k.2) ∧ E 60 = (.bool p0)) (bm 45 262143) 27 ?_ (fun p0 e3 i6 => ?_))
    ·rintro bj E W ⟨k3, b, m7, m8, u6, m9, n0, n1, u7⟩ q2
     have d := b.has.jE (Kb (Kb (Kb (Sr (Qb Qz) (Kb Sn)))))
     refine X 18 rfl d (jN u7) (PJ q2 (fun o9 E W => ∃ k4, ST false kQ w W s ((G, Obj.cells A 164 (0, 0)) :: ((j, Obj.cells g5 160 (0, 0)) :: ((K, Obj.cells b8 164 (0, 0)) :: ((n, Obj.cells g6 53 (0, 0)) :: (q ++ k4))))) ∧ E 3 = L ∧ E 7 = cq ∧ E 9 = cn ∧ E 10 = (.int .i64 a.2.1) ∧ E 12 = (.int .i64 k.2) ∧ E 64 = (.bool o9)) (bm 45 4194303) 23 ?_ (fun o9 e2 i5 => ?_))
     ·rintro bk E W ⟨k4, b, n2, u8, n3, n4, n5, u9⟩ q3
      have d := b.has.jE (Kb (Kb (Kb (Sr (Qb Qz) (Kb Sn)))))
      refine X 22 rfl d (jN u9) (PJ q3 (fun o8 E W => ∃ k5, ST false kQ w W s ((G, Obj.cells A 164 (0, 0)) :: ((j, Obj.cells g5 160 (0, 0)) :: ((K, Obj.cells b8 164 (0, 0)) :: ((n, Obj.cells g6 53 (0, 0)) :: (q ++ k5))))) ∧ E 3 = L ∧ E 9 = cn ∧ E 10 = (.int .i64 a.2.1) ∧ E 12 = (.int .i64 k.2) ∧ E 70 = (.bool o8)) (bm 45 268435455) 17 ?_ (fun o8 e1 i4 => ?_))
      ·rintro bl E W ⟨k5, b, n6, n7, v0, n8, v1⟩ q4
       have d := b.has.jE (Kb (Kb (Kb (Sr (Qb Qz) (Kb Sn)))))
       refine X 28 rfl d (jN v1) (PJ q4 (fun o7 E W => ∃ k6, ST false kQ w W s ((G, Obj.cells A 164 (0, 0)) :: ((j, Obj.cells g5 160 (0, 0)) :: ((K, Obj.cells b8 164 (0, 0)) :: ((n, Obj.cells g6 53 (0, 0)) :: (q ++ k6))))) ∧ E 3 = L ∧ E 9 = cn ∧ E 12 = (.int .i64 k.2) ∧ E 74 = (.bool o7)) (bm 45 4294967295) 13 ?_ (fun o7 e0 i3 => ?_))
       ·rintro bn E W ⟨k6, b, n9, v2, o0, v3⟩ q5
        have d := b.has.jE (Kb (Kb (Kb (Sr (Qb Qz) (Kb Sn)))))
        refine X 32 rfl d (jN v3) (PJ q5 (fun o6 E W => ∃ k7, ST false kQ w W s ((G, Obj.cells A 164 (0, 0)) :: ((j, Obj.cells g5 160 (0, 0)) :: ((K, Obj.cells b8 164 (0, 0)) :: ((n, Obj.cells g6 53 (0, 0)) :: (q ++ k7))))) ∧ E 3 = L ∧ E 12 = (.int .i64 k.2) ∧ E 78 = (.bool o6)) (bm 45 68719476735) 9 ?_ (fun o6 c0 i2 => ?_))
        ·rintro bo E W ⟨k7, b, o1, v4, v5⟩ q6
         have d := b.has.jE (Kb (Kb (Kb (Sr (Qb Qz) (Kb Sn)))))
         refine X 36 rfl d (jN v5) (PJ q6 (fun o5 E W => ∃ k8, ST false kQ w W s ((G, Obj.cells A 164 (0, 0)) :: ((j, Obj.cells g5 160 (0, 0)) :: ((K, Obj.cells b8 164 (0, 0)) :: ((n, Obj.cells g6 53 (0, 0)) :: (q ++ k8))))) ∧ E 3 = L ∧ E 82 = (.bool o5)) (bm 45 1099511627775) 5 ?_ (fun o5 d9 i1 => ?_))
         ·rintro bp E W ⟨k8, b, v6, v7⟩ q7
          have d := b.has.jE (Kb (Kb (Kb (Sr (Qb Qz) (Kb Sn)))))
          refine X 40 rfl d (jN v7) (PJ q7 (fun o4 E W => ∃ k9, ST false kQ w W s ((G, Obj.cells A 164 (0, 0)) :: ((j, Obj.cells g5 160 (0, 0)) :: ((K, Obj.cells b8 164 (0, 0)) :: ((n, Obj.cells g6 53 (0, 0)) :: (q ++ k9))))) ∧ E 86 = (.bool o4)) (bm 45 17592186044415) 1 ?_ (fun o4 b9 i0 => ?_))
          ·rintro bq E W ⟨k9, b, v8⟩ q8
           have d := b.has.jE (Kb (Kb (Kb (Sr (Qb Qz) (Kb Sn)))))
           refine X 44 rfl d (nU v8) (kV kr (jQ ?_))
           exact kB (rQ q8 b)
          refine bC b9 (fun b7 b9 => ?_) (fun b7 b9 => ?_)
          ·refine ri 41 rfl rfl (cB b7) d (fun _ o => jG v6 (jO o (Mt Mh) [(.string (((a.2.2).jI).Name)), a2, a3, (.string ((a.2.2).lG)), (.int .i64 ((a.2.2).Room)), a4, a5, a6, a7] rfl ew dN)) (bS b9 fun av r6 b9 => xC 42 rfl rfl (cB b7) (Eg b call111 (xu a.2.2 a2 a3 a4 a5 a6 a7 _ _ (s9.mono kT.mono (Q.trans b.jJ)) (t0.mono mz.mono (Q.trans b.jJ)) (t1.mono (Pl.mono _) (Q.trans b.jJ)) (t2.mono (Pl.mono _) (Q.trans b.jJ)) (t3.mono (Pl.mono _) (Q.trans b.jJ)) (t4.mono (Pl.mono _) (Q.trans b.jJ)) r6) (fun ae b => ?_)))
           have d := b.has.jE (Kb (Kb (Kb (Sr (Qb Qz) (Kb Sn)))))
           refine ⟨d, (X 43 rfl d (kd (cB b7) rfl) ?_)⟩
           obtain rfl := sj b9
           refine lU kr (i0 _ _ ⟨_, (b.jE St), rfl⟩)
          refine Xn 41 rfl rfl (cB b7) d (Xn 42 rfl rfl (cB b7) d (X 43 rfl d (ke (cB b7) rfl) ?_))
          obtain rfl := sj b9
          refine lU kr (i0 _ _ ⟨_, (b.jE St), rfl⟩)
         refine bC d9 (fun b6 d9 => ?_) (fun b6 d9 => ?_)
         ·refine Xg 37 rfl rfl (cB b6) d (jN v4) (Xg 38 rfl rfl (cB b6) d (kL rfl rfl rfl) (X 39 rfl d (kd (cB b6) rfl) ?_))
          obtain rfl := sj d9
          refine lU kr (i1 _ _ ⟨_, (b.jE St), o1, rfl⟩)
         refine Xn 37 rfl rfl (cB b6) d (Xn 38 rfl rfl (cB b6) d (X 39 rfl d (ke (cB b6) rfl) ?_))
         obtain rfl := sj d9
         refine lU kr (i1 _ _ ⟨_, (b.jE St), o1, rfl⟩)
        refine bC c0 (fun b5 c0 => ?_) (fun b5 c0 => ?_)
        ·refine ri 33 rfl rfl (cB b5) d (fun _ o => jG v2 (jO o Mh [cv, cw, db, da, co, cp] rfl gl dT)) (bS c0 fun aw r7 c0 => xC 34 rfl rfl (cB b5) (Eg b call114 (ki.lD (DW a.1 co cp _ _ (j6.mono (Pl.mono _) (Q.trans b.jJ)) (j7.mono nC.mono (Q.trans b.jJ)) r7)) (fun af b => ?_)))
         have d := b.has.jE (Kb (Kb (Kb (Sr (Qb Qz) (Kb Sn)))))
         refine ⟨d, (X 35 rfl d (kd (cB b5) rfl) ?_)⟩
         obtain rfl := sj c0
         refine lU kr (i2 _ _ ⟨_, (b.jE St), n9, o0, rfl⟩)
        refine Xn 33 rfl rfl (cB b5) d (Xn 34 rfl rfl (cB b5) d (X 35 rfl d (ke (cB b5) rfl) ?_))
        obtain rfl := sj c0
        refine lU kr (i2 _ _ ⟨_, (b.jE St), n9, o0, rfl⟩)
       refine bC e0 (fun b4 e0 => ?_) (fun b4 e0 => ?_)
       ·refine Xg 29 rfl rfl (cB b4) d (jN v0) (Xg 30 rfl rfl (cB b4) d (kL rfl rfl rfl) (X 31 rfl d (kd (cB b4) rfl) ?_))
        obtain rfl := sj e0
        refine lU kr (i3 _ _ ⟨_, (b.jE St), n6, n7, n8, rfl⟩)
       refine Xn 29 rfl rfl (cB b4) d (Xn 30 rfl rfl (cB b4) d (X 31 rfl d (ke (cB b4) rfl) ?_))
       obtain rfl := sj e0
       refine lU kr (i3 _ _ ⟨_, (b.jE St), n6, n7, n8, rfl⟩)
      refine bC e1 (fun H e1 => ?_) (fun H e1 => ?_)
      ·refine Xg 23 rfl rfl (cB H) d (jM wU u8) (ri 24 rfl rfl (cB H) d (fun _ o => jG rfl (jS o (Mt (Mt Mh)) rfl jz)) (Xg 25 rfl rfl (cB H) d (lf cZ rfl j5) (Xg 26 rfl rfl (cB H) d (kL rfl rfl rfl) (X 27 rfl d (kd (cB H) rfl) ?_))))
       obtain rfl := sj e1
       refine lU kr (i4 _ _ ⟨_, (b.jE St), n2, n3, n4, n5, rfl⟩)
      refine Xn 23 rfl rfl (cB H) d (Xn 24 rfl rfl (cB H) d (Xn 25 rfl rfl (cB H) d (Xn 26 rfl rfl (cB H) d (X 27 rfl d (ke (cB H) rfl) ?_))))
      obtain rfl := sj e1
      refine lU kr (i4 _ _ ⟨_, (b.jE St), n2, n3, n4, n5, rfl⟩)
     refine bC e2 (fun R e2 => ?_) (fun R e2 => ?_)
     ·refine Xg 19 rfl rfl (cB R) d (jN u6) (Xg 20 rfl rfl (cB R) d (kL rfl rfl rfl) (X 21 rfl d (kd (cB R) rfl) ?_))
      obtain rfl := sj e2
      refine lU kr (i5 _ _ ⟨_, (b.jE St), m7, m8, m9, n0, n1, rfl⟩)
     refine Xn 19 rfl rfl (cB R) d (Xn 20 rfl rfl (cB R) d (X 21 rfl d (ke (cB R) rfl) ?_))
     obtain rfl := sj e2
     refine lU kr (i5 _ _ ⟨_, (b.jE St), m7, m8, m9, n0, n1, rfl⟩)
    refine bC e3 (fun P e3 => ?_) (fun P e3 => ?_)
    ·refine Xg 15 rfl rfl (cB P) d (jN u4) (Xg 16 rfl rfl (cB P) d (mC rfl) (X 17 rfl d (kd (cB P) rfl) ?_))
     obtain rfl := sj e3
     refine lU kr (i6 _ _ ⟨_, (b.jE St), m1, m2, m3, m4, m5, m6, rfl⟩)
    refine Xn 15 rfl rfl (cB P) d (Xn 16 rfl rfl (cB P) d (X 17 rfl d (ke (cB P) rfl) ?_))
    obtain rfl := sj e3
    refine lU kr (i6 _ _ ⟨_, (b.jE St), m1, m2, m3, m4, m5, m6, rfl⟩)
   refine bC c1 (fun x c1 => ?_) (fun x c1 => ?_)
   ·refine Xg 8 rfl rfl (cB x) d (jN u2) (bS c1 fun p3 h2 c1 => rH 9 rfl kr (.inr ⟨7, true, 50, rfl, rfl, by decide, (cB x)⟩) rfl dc (fun _ _ h => h) d (nz (i := 0) (x0 := p3) aG aH rfl rfl g3 (kj h2) (kh h2)) (fun ar q9 => ri 10 rfl rfl (cB x) d (fun _ o => jG rfl (pB o (fun p F => (Mt (Mt (Mt (Ml F))))) g3 lm q9 (kh h2) bR aH)) (ri 11 rfl rfl (cB x) d (fun _ o => jG u1 (jO o (Mt (Mt (Mt (Ma Mh)))) (jD K9) rfl bR aH)) (Xg 12 rfl rfl (cB x) d (xg rfl rfl (oQ eG) (tR (tp _ p3 K9))) (X 13 rfl d (kd (cB x) rfl) ?_)))))
    obtain rfl := sj c1
    refine lU kr (i7 _ _ ⟨_, (b.jE St), l4, l5, l6, l7, l8, l9, m0, rfl⟩)
   refine Xn 8 rfl rfl (cB x) d (Xn 9 rfl rfl (cB x) d (Xn 10 rfl rfl (cB x) d (Xn 11 rfl rfl (cB x) d (Xn 12 rfl rfl (cB x) d (X 13 rfl d (ke (cB x) rfl) ?_)))))
   obtain rfl := sj c1
   refine lU kr (i7 _ _ ⟨_, (b.jE St), l4, l5, l6, l7, l8, l9, m0, rfl⟩)
  refine bC e4 (fun T e4 => ?_) (fun T e4 => ?_)
  ·refine Xg 3 rfl rfl (cB T) d (jN rfl) (Xg 4 rfl rfl (cB T) d (qV aG rfl g3) (Xg 5 rfl rfl (cB T) d (kL rfl rfl rfl) (X 6 rfl d (kd (cB T) rfl) ?_)))
   obtain rfl := sj e4
   refine lU kr (i8 _ _ ⟨_, (b.jE (Kb (Kb (Kb (Sb (Pr Pz) St))))), l2, rfl, rfl, rfl, rfl, rfl, rfl, rfl, rfl, rfl⟩)
  refine Xn 3 rfl rfl (cB T) d (Xn 4 rfl rfl (cB T) d (Xn 5 rfl rfl (cB T) d (X 6 rfl d (ke (cB T) rfl) ?_)))
  obtain rfl := sj e4
  refine lU kr (i8 _ _ ⟨_, (b.jE (Kb (Kb (Kb (Sb (Pr Pz) St))))), l2, rfl, rfl, rfl, rfl, rfl, rfl, rfl, rfl, rfl⟩)
 refine CO 1 7 rfl rfl kr (.inl rfl) (.inl rfl) rfl rfl dc dc ?_ ?_
 ·refine bS c2 fun u p8 c2 => DZ (enc := (kU .u8)) (z := 0) b (fun _ => rfl) dc cJ oH.1 oH.2.1 oH.2.2.1 oH.2.2.2 rfl rfl rfl p8 (fun ag bd y7 b d8 => ?_)
  let df := (⟨(⟨K9, u⟩ : Signed), K7⟩ : kw)
  have d := b.has.jE (Dr (Kb Sn))
  refine ⟨d, ?_⟩
  obtain ⟨B, D, rfl⟩ := d8.form
  refine X 2 rfl d (ma (v := (.agg (Qm B u.length D).toArray)) (qf rfl rfl) (ly dH et (JR _ et) kr)) (X 4 rfl d (ma (v := (.agg (C4 B u.length D).toArray)) (qf rfl rfl) (ly ed eE (Kl _ eE) kr)) (CO 5 7 rfl rfl kr (.inl rfl) (.inl rfl) rfl rfl dc dc ?_ ?_))
  ·have x7 := d8.IS b (fun p F => (Ml F))
   obtain ⟨w6, b, f2, ds, r9⟩ := ST.Cl b d8 (fun _ => rfl)
   refine kJ (cs := (C4 B u.length D).toArray) b (mQ rfl) (na du dz ed) (fun ah f8 b => ?_)
   have d := b.has.oA f2 (Db (Kb Sn))
   refine ⟨d, (X 6 rfl d (ma (v := (.agg #[(.string K3), (.slice (some ⟨f8, 0, none⟩) 1 1), (.slice none 0 0)])) (qf rfl rfl) (ly gm eu (Jy _ eu) kr)) (XE 7 rfl (kv b gm (fun ai t7 b => ?_))))⟩
   have d := b.has.oA f2 (Db (Db (Kb Sn)))
   refine ⟨d, ?_⟩
   obtain rfl := sj c2
   replace b := b.perm (Nb (Pb Pz) Nz)
   replace b := b.Cz
   refine lU kr (f3 _ _ ⟨t7, (.slice (some ⟨f8, 0, none⟩) 1 1), [(f8, Ol (C4 B u.length D) 138)], (.slice none 0 0), (.slice none 0 0), (.slice none 0 0), w6, _, f2, (b.jE (Sb (Pr Pz) (Sb (Pr Pz) St))), rfl, rfl, rfl, (kR.lit kT (l := [df]) (.cons (ys := C4 B u.length D) (ku.mk ⟨(.slice B u.length D), (.slice none 0 0), rfl, r9, (Sl.nil _ _ _)⟩) .nil) rfl nb rfl), (Sl.nil _ _ _), (Fr.nil _), (Sl.nil _ _ _), (Fr.nil _), (Sl.nil _ _ _), (Fr.nil _)⟩)
  ·refine kv b gm (fun aj t8 b => ?_)
   have d := b.has.jE (Db (Dr (Kb Sn)))
   refine ⟨d, ?_⟩
   replace b := b.perm (Nr (Qb Qz) Nz)
   have x8 := d8.IS b (fun p F => (Ml F))
   obtain ⟨w7, b, h8, ea, s0⟩ := ST.Cl b d8 (fun _ => rfl)
   refine XE 5 rfl (kJ (cs := (C4 B u.length D).toArray) b (mQ rfl) (na du dz ed) (fun ak f9 b => ?_))
   have d := b.has.oA h8 (Db (Db (Kb Sn)))
   refine ⟨d, (X 6 rfl d (ma (v := (.agg #[(.string K3), (.slice (some ⟨f9, 0, none⟩) 1 1), (.slice none 0 0)])) (qf rfl rfl) (ly gm eu (Jy _ eu) kr)) ?_)⟩
   obtain rfl := sj c2
   replace b := b.Cz
   refine lU kr (f3 _ _ ⟨t8, (.slice (some ⟨f9, 0, none⟩) 1 1), [(f9, Ol (C4 B u.length D) 138)], (.slice none 0 0), (.slice none 0 0), (.slice none 0 0), w7, _, h8, (b.jE (Sb (Pr Pz) (Sb (Pr Pz) St))), rfl, rfl, rfl, (kR.lit kT (l := [df]) (.cons (ys := C4 B u.length D) (ku.mk ⟨(.slice B u.length D), (.slice none 0 0), rfl, s0, (Sl.nil _ _ _)⟩) .nil) rfl nb rfl), (Sl.nil _ _ _), (Fr.nil _), (Sl.nil _ _ _), (Fr.nil _), (Sl.nil _ _ _), (Fr.nil _)⟩)
 ·refine kv b gm (fun al t9 b => ?_)
  have d := b.has.jE (Db (Kb Sn))
  refine ⟨d, (bS c2 fun O p9 c2 => XE 1 rfl (DZ (enc := (kU .u8)) (z := 0) b (fun _ => rfl) dc cJ oH.1 oH.2.1 oH.2.2.1 oH.2.2.2 rfl rfl rfl p9 (fun am be y8 b g4 => ?_)))⟩
  have d := b.has.jE (Dr (Db (Kb Sn)))
  refine ⟨d, ?_⟩
  obtain ⟨a8, a9, rfl⟩ := g4.form
  refine X 2 rfl d (ma (v := (.agg (Qm a8 O.length a9).toArray)) (qf rfl rfl) (ly dH et (JR _ et) kr)) (X 4 rfl d (ma (v := (.agg (C4 a8 O.length a9).toArray)) (qf rfl rfl) (ly ed eE (Kl _ eE) kr)) ?_)
  have x9 := g4.IS b (fun p F => (Ml F))
  obtain ⟨w8, b, h9, eg, s1⟩ := ST.Cl b g4 (fun _ => rfl)
  refine XE 5 rfl (kJ (cs := (C4 a8 O.length a9).toArray) b (mQ rfl) (na du dz ed) (fun an g0 b => ?_))
  have d := b.has.oA h9 (Db (Db (Kb Sn)))
  refine ⟨d, (X 6 rfl d (ma (v := (.agg #[(.string K3), (.slice (some ⟨g0, 0, none⟩) 1 1), (.slice none 0 0)])) (qf rfl rfl) (ly gm eu (Jy _ eu) kr)) ?_)⟩
  obtain rfl := sj c2
  replace b := b.Cz
  refine lU kr (f3 _ _ ⟨t9, (.slice (some ⟨g0, 0, none⟩) 1 1), [(g0, Ol (C4 a8 O.length a9) 138)], (.slice none 0 0), (.slice none 0 0), (.slice none 0 0), w8, _, h9, (b.jE (Sb (Pr Pz) (Sb (Pr Pz) St))), rfl, rfl, rfl, (kR.lit kT (l := [(⟨(⟨K9, O⟩ : Signed), K7⟩ : kw)]) (.cons (ys := C4 a8 O.length a9) (ku.mk ⟨(.slice a8 O.length a9), (.slice none 0 0), rfl, s1, (Sl.nil _ _ _)⟩) .nil) rfl nb rfl), (Sl.nil _ _ _), (Fr.nil _), (Sl.nil _ _ _), (Fr.nil _), (Sl.nil _ _ _), (Fr.nil _)⟩)
theorem wx (k : Value) (u : List jA) (r : Int) (w : World) (j : Sl (Pl jD) 9 (hp w) k u) (hm : py u = some r) :
  ki true Tryz.prog 21 [k] w (.int .i64 r) := by
 refine cG 54 func21 rfl (fun b => sg (Wa (lr (Wa (lS (Wm ?_))))))
 refine V (lf aG rfl j) (Wm (ln (li (fun i E W => ∃ g t, (E 8 = .int .i64 (i : Nat) ∧ E 7 = .int .i64 (u.length : Nat)) ∧ ST true kQ w W (hp w) t ∧ E 3 = (.int .i64 g) ∧ E 6 = k ∧ qP (u.drop i) g = some r) u.length j.len ⟨0, _, ⟨rfl, rfl⟩, (b.jE St), rfl, rfl, hm⟩ dc dc dc (fun _ _ _ h => by obtain ⟨_, _, l, _⟩ := h; exact l) ?_ ?_)))
 ·rintro I E W z ⟨g, t, ⟨d, m⟩, b, x, y, c⟩
  obtain ⟨a, J, G, D, H⟩ := kP z
  rw [G] at c
  refine bg (VQ (ot (enc := jD) (i := (I : Int)) (x0 := a) aG aH y d j (aJ _) D) (fun Q B => V (jG rfl (kl b.has B bR aH)) (VE (kv b cX (fun K N b => VO (jY (.agg (jD a).toArray) ((jD a).toArray) b rfl rfl aH (nF a) nb rfl (fun M b => ln (jW (Wh x (Wf uo (Wf tO (VB b Mh rfl rfl bZ (V (nV bQ rfl) ?_)))))))))))))
  refine Wi rfl (Wf uo (Wf vd (VB b Mh rfl rfl bZ (V (nV bQ rfl) (Wi rfl (Wf AG (VB b Mh rfl rfl bZ (V (nV bQ rfl) (Wi rfl (Wf pu (Wf tO (VB b Mh rfl rfl bZ (V (nV bQ rfl) (Wi rfl ?_))))))))))))))
  refine Wf pu (Wf vd (VB b Mh rfl rfl bZ (V (nV bQ rfl) (Wi rfl (Wf xt (Wf tO (VB b Mh rfl rfl bZ (V (nV bQ rfl) (Wi rfl (Wf xt (Wf vd (VB b Mh rfl rfl bZ (V (nV bQ rfl) (Wi rfl ?_))))))))))))))
  refine Wf yg (VB b Mh rfl rfl bZ (V (nV bQ rfl) (Wi rfl (Wi rfl (Wa (ky (kF (jQ ?_))))))))
  replace b := b.jE (Db St)
  exact ⟨d, (IntKind.i64.wrap (g + (IntKind.i64.wrap ((IntKind.i64.wrap ((IntKind.i64.wrap ((IntKind.i64.wrap ((IntKind.i64.wrap ((IntKind.i64.wrap ((IntKind.i64.wrap ((IntKind.i64.wrap (20 + (a.Head.jF.size : Int))) + (a.Head.jK.size : Int))) + (a.kA.size : Int))) + (a.B.jF.size : Int))) + (a.B.jK.size : Int))) + (a.C.jF.size : Int))) + (a.C.jK.size : Int))) + (a.kz.size : Int))))), _, ⟨rfl, m⟩, (b.jE St), rfl, y, (by rw [H]; exact c)⟩
 rintro E W ⟨g, t, ⟨d, m⟩, b, x, y, c⟩
 rw [aP] at c
 exact jQ (sg (Wh x (Wa (lt (rQ c b)))))
theorem yy (H : Value) (Q : List Key) (u : Value) (J : List Signed) (r : Int) (w : World) (B : Sl AM 2 (hp w) H Q) (D : Sl lL 10 (hp w) u J) (hm : wD Q J = some r) :
  ki true Tryz.prog 35 [H, u] w (.int .i64 r) := by
 refine cG 45 func35 rfl (fun b => sg (Wa (lr (Wa (lS (Wm ?_))))))
 refine V (lf underlying49 rfl B) (Wm (ln (li (fun i E W => ∃ t N, (E 12 = .int .i64 (i : Nat) ∧ E 11 = .int .i64 (Q.length : Nat)) ∧ ST true kQ w W (hp w) N ∧ E 1 = u ∧ E 5 = (.int .i64 t) ∧ E 10 = H ∧ uh J (Q.drop i) t = some r) Q.length B.len ⟨0, _, ⟨rfl, rfl⟩, (b.jE St), rfl, rfl, rfl, hm⟩ dc dc dc (fun _ _ _ h => by obtain ⟨_, _, n, _⟩ := h; exact n) ?_ ?_)))
 ·rintro c3 E W b5 ⟨t, N, ⟨m, o⟩, b, U, Y, Z, g⟩
  obtain ⟨k, d4, b9, b7, c0⟩ := kP b5
  rw [b9] at g
  refine bg (VQ (mo (i := (c3 : Int)) (x0 := k) AM.out underlying49 sizeOf196 Z m B (aJ _) b7) (fun d8 ⟨_, ⟨d9, rfl, a2⟩, b6⟩ => V (jG rfl (kl b.has b6 isAgg196 sizeOf196)) (VE (kv b zeroValue196 (fun d5 d7 b => ?_)))))
  obtain ⟨s, v, rfl⟩ := a2.form
  refine VO (jY (.agg #[(.string k.kA), (.slice s k.Key.length v)]) (#[(.string k.kA), (.slice s k.Key.length v)]) b rfl rfl sizeOf196 oc nb rfl (fun d6 b => ln (jW (Wh Y (Wf NH (VB b Mh rfl rfl bZ (V (nV bQ rfl) (Wi rfl (Wf N1 (VB b Mh rfl rfl gw (V (lf cJ rfl a2) (Wi rfl (Wi rfl (Wa ?_))))))))))))))
  refine ky (kF (jQ ?_))
  replace b := b.jE (Db St)
  exact ⟨m, (IntKind.i64.wrap (t + (IntKind.i64.wrap ((IntKind.i64.wrap (10 + (k.kA.size : Int))) + (k.Key.length : Int))))), _, ⟨rfl, o⟩, (b.jE St), U, rfl, Z, (by rw [c0]; exact g)⟩
 rintro E W ⟨t, N, ⟨m, o⟩, b, U, Y, Z, g⟩
 rw [aP] at g
 refine jQ (jX (sg (Wh U (V (lf cZ rfl D) (Wm (ln (CJ g (fun G E W => ∃ M, ST true kQ w W (hp w) M ∧ E 5 = (.int .i64 G)) (fun G a5 => ?_) ?_)))))))
 ·refine li (fun i E W => ∃ j x, (E 29 = .int .i64 (i : Nat) ∧ E 28 = .int .i64 (J.length : Nat)) ∧ ST true kQ w W (hp w) x ∧ E 5 = (.int .i64 j) ∧ E 27 = u ∧ sw (J.drop i) j = some G) J.length D.len ⟨t, _, ⟨rfl, rfl⟩, (b.jE St), Y, rfl, a5⟩ dc dc dc (fun _ _ _ h => by obtain ⟨_, _, n, _⟩ := h; exact n) ?_ ?_
  ·rintro c1 E W a3 ⟨j, x, ⟨m, o⟩, b, y, z, c⟩
   obtain ⟨a, c4, a9, L, O⟩ := kP a3
   rw [a9] at c
   refine bg (VQ (mo (i := (c1 : Int)) (x0 := a) lL.out cZ dm z m D (aJ _) L) (fun d0 ⟨_, ⟨d1, rfl, I⟩, A⟩ => V (jG rfl (kl b.has A gx dm)) (VE (kv b dH (fun c5 c9 b => ?_)))))
   obtain ⟨K, T, rfl⟩ := I.form
   let a0 := (C2 a.jA.Kind a.jA.Head.jF a.jA.Head.jK a.jA.kA a.jA.B.jF a.jA.B.jK a.jA.C.jF a.jA.C.jK a.jA.kz K a.Tag.length T)
   refine VO (jY (.agg a0.toArray) (a0.toArray) b rfl rfl dm oc nb rfl (fun c6 b => ln ?_))
   replace b := b.drew
   have d := b.has.jE (Kb Sn)
   refine kM d ko (X 0 rfl d (jN y) (X 1 rfl d (jM rM rfl) (XH 2 rfl d (fun _ q => jG rfl (jO q Mh (jD a.jA) rfl bR aH)) (X 5 rfl d (jM Bm rfl) (XH 6 rfl d (fun _ q => jG rfl (jS q Mh rfl gw)) (X 7 rfl d (lf cJ rfl I) (XE 3 rfl (kJ (cs := (jD a.jA).toArray) b (mQ rfl) (na aG aH cX) (fun c7 P b => ?_)))))))))
   have d := b.has.jE (Db (Kb Sn))
   refine ⟨d, (bS c fun c2 F c => XE 4 rfl (Eg b call21 (wx (.slice (some ⟨P, 0, none⟩) 1 1) ([a.jA]) _ _ (Sl.lit (enc := jD) (l := [a.jA]) lm rfl nb rfl (b.at_ Mh)) F) (fun c8 b => ?_)))⟩
   have d := b.has.jE (Db (Kb Sn))
   refine ⟨d, (X 8 rfl d (kL rfl rfl rfl) (X 9 rfl d (kL rfl rfl rfl) (X 10 rfl d (nU rfl) (kV kr (kF (jQ ?_))))))⟩
   replace b := b.jE (Db (Db St))
   exact ⟨m, (IntKind.i64.wrap (j + (IntKind.i64.wrap (c2 + (a.Tag.length : Int))))), _, ⟨rfl, o⟩, (b.jE St), rfl, z, (by rw [O]; exact c)⟩
  rintro E W ⟨j, x, ⟨m, o⟩, b, y, z, c⟩
  rw [aP] at c
  refine jQ ?_
  obtain rfl := sj c
  exact ⟨_, (b.jE St), y⟩
 rintro d3 E W ⟨M, b, R⟩ a4
 exact sg (Wh R (Wa (lt (rQ a4 b))))
theorem Dj (I : (List Formula) → Option Int) (N : ∀ (j : Value) (u : List Formula) (r : Int) (w : World) (t : Sl jC 5 (hp w) j u), I u = some r → ki false Tryz.prog 173 [j] w (.int .i64 r)) (j : Value) (u : List Formula) (r : Int) (w : World) (t : Sl jC 5 (hp w) j u) (hm : uW I u = some r) :
  ki false Tryz.prog 173 [j] w (.int .i64 r) := by
 refine cG 31 func173 rfl (fun l => sg (Wa (lr (Wa (lS (Wm ?_))))))
 refine V (lf aF rfl t) (Wm (ln (li (fun i E W => ∃ x z, (E 8 = .int .i64 (i : Nat) ∧ E 7 = .int .i64 (u.length : Nat)) ∧ ST false kQ w W (hp w) z ∧ E 3 = (.int .i64 x) ∧ E 6 = j ∧ qR I (u.drop i) x = some r) u.length t.len ⟨0, _, ⟨rfl, rfl⟩, (l.jE St), rfl, rfl, hm⟩ dc dc dc (fun _ _ _ h => by obtain ⟨_, _, o, _⟩ := h; exact o) ?_ ?_)))
 ·rintro Z E W M ⟨x, z, ⟨n, s⟩, l, D, G, g⟩
  obtain ⟨c, L, T, Q, U⟩ := kP M
  let a0 := ((c.jB.jF.size : Int) + (c.jB.jK.size : Int))
  rw [T] at g
  refine bg (VQ (mo (i := (Z : Int)) (x0 := c) jC.out aF aC G n t (aJ _) Q) (fun a5 ⟨_, ⟨F, rfl, H⟩, J⟩ => V (jG rfl (kl l.has J aS aC)) (VE (kv l bD (fun A a4 l => ?_)))))
  obtain ⟨y, B, rfl⟩ := H.form
  let q := (C1 c.Op c.K c.jB.jF c.jB.jK y c.Kids.length B)
  refine VO (jY (.agg q.toArray) (q.toArray) l rfl rfl aC oc nb rfl (fun a2 l => ln ?_))
  replace l := l.drew
  have d := l.has.jE (Kb Sn)
  refine kM d ko (X 0 rfl d (jN D) (X 1 rfl d (jM vI rfl) (X 2 rfl d (jM tO rfl) (XH 3 rfl d (fun _ m => jG rfl (jS m Mh rfl bZ)) (X 4 rfl d (nV bQ rfl) (X 5 rfl d (jM vI rfl) (X 6 rfl d (jM vd rfl) (XH 7 rfl d (fun _ m => jG rfl (jS m Mh rfl bZ)) (X 8 rfl d (nV bQ rfl) (X 9 rfl d (kL rfl rfl rfl) (X 10 rfl d (M4 (k := .i64) (a := (IntKind.i64.wrap a0)) (b := 16) (v := (.int .i64 (IntKind.i64.wrap (Int.tdiv (IntKind.i64.wrap a0) 16)))) rfl rfl dc rfl) (X 11 rfl d (kL rfl rfl rfl) (X 12 rfl d (jM qm rfl) (XH 13 rfl d (fun _ m => jG rfl (jS m Mh rfl eO)) ?_))))))))))))))
  refine bS g fun Y K g => XE 14 rfl (Eg l call173 (N (.slice y c.Kids.length B) c.Kids _ _ (H.mono jT.mono l.jJ) K) (fun a3 l => ?_))
  have d := l.has.jE (Kb Sn)
  refine ⟨d, (X 15 rfl d (kL rfl rfl rfl) (X 16 rfl d (kL rfl rfl rfl) (X 17 rfl d (nU rfl) (kV kr (kF (jQ ?_))))))⟩
  replace l := l.jE (Db St)
  exact ⟨n, (IntKind.i64.wrap (x + (IntKind.i64.wrap ((IntKind.i64.wrap (1 + (IntKind.i64.wrap (Int.tdiv (IntKind.i64.wrap a0) 16)))) + Y)))), _, ⟨rfl, s⟩, (l.jE St), rfl, G, (by rw [U]; exact g)⟩
 rintro E W ⟨x, z, ⟨n, s⟩, l, D, G, g⟩
 rw [aP] at g
 exact jQ (sg (Wh D (Wa (lt (rQ g l)))))
theorem yC : ∀ (n : Nat) (a : Value) (c : List Formula) (r : Int) (w : World) (g : Sl jC 5 (hp w) a c) (_ : oR n c = some r),
  ki false Tryz.prog 173 [a] w (.int .i64 r)
 | 0 => by intros; rename_i h; simp only [oR] at h; cases h
 | n + 1 => Dj (oR n) (yC n)
set_option maxHeartbeats 1000000 in
theorem GN (x : jI) (J N : Value) (r : Int) (w : World) (y : Sl ku 15 (hp w) J x.jV) (G : Sl kW 8 (hp w) N x.kx) (hm : wo x = some r) :
  ki false Tryz.prog 102 [(.agg #[(.string x.Name), J, N])] w (.int .i64 r) := by
 refine cG 61 func102 rfl (fun d => sg ?_)
 obtain ⟨A1, c2, rfl⟩ := y.form
 obtain ⟨A3, c4, rfl⟩ := G.form
 let g6 := (C8 x.Name A1 x.jV.length c2 A3 x.kx.length c4)
 refine VE (kH d rfl (fun W6 O d => Wa (lr (Wf IJ (VB d Mh rfl rfl bZ (V (nV bQ rfl) (Wa (lS ?_))))))))
 refine Wf vA (VB d Mh rfl rfl gE (V (lf du rfl y) (Wm (ln (li (fun i E W => ∃ I b1, (E 14 = .int .i64 (i : Nat) ∧ E 13 = .int .i64 (x.jV.length : Nat)) ∧ ST false kQ w W (hp w) ((O, Ol g6 110) :: b1) ∧ E 1 = (.pointer (some ⟨O, 0, none⟩)) ∧ E 3 = (.int .i64 I) ∧ E 12 = (.slice A1 x.jV.length c2) ∧ qI x (x.jV.drop i) I = some r) x.jV.length y.len ⟨(x.Name.size : Int), _, ⟨rfl, rfl⟩, (d.jE St), rfl, rfl, rfl, hm⟩ dc dc dc (fun _ _ _ h => by obtain ⟨_, _, A, _⟩ := h; exact A) ?_ ?_)))))
 ·rintro d5 E W e1 ⟨I, b1, ⟨s, F⟩, d, U, M, Y, H⟩
  obtain ⟨a, h9, e9, e8, f0⟩ := kP e1
  rw [e9] at H
  refine bg (VQ (mo (i := (d5 : Int)) (x0 := a) ku.out du dz Y s y (aJ _) e8) (fun j4 ⟨_, ⟨j8, j9, rfl, Q, T⟩, e2⟩ => V (jG rfl (kl d.has e2 iq dz)) (VE (kv d ed (fun i0 f4 d => ?_)))))
  obtain ⟨t, u, rfl⟩ := Q.form
  let g5 : Value := (.slice t a.Signed.Tag.length u)
  let b8 := (C2 a.Signed.jA.Kind a.Signed.jA.Head.jF a.Signed.jA.Head.jK a.Signed.jA.kA a.Signed.jA.B.jF a.Signed.jA.B.jK a.Signed.jA.C.jF a.Signed.jA.C.jK a.Signed.jA.kz t a.Signed.Tag.length u)
  obtain ⟨g, j, rfl⟩ := T.form
  let d9 : Value := (.slice g a.jL.Kids.length j)
  let v := (C1 a.jL.Op a.jL.K a.jL.jB.jF a.jL.jB.jK g a.jL.Kids.length j)
  let a0 := (C5 a.Signed.jA.Kind a.Signed.jA.Head.jF a.Signed.jA.Head.jK a.Signed.jA.kA a.Signed.jA.B.jF a.Signed.jA.B.jK a.Signed.jA.C.jF a.Signed.jA.C.jK a.Signed.jA.kz t a.Signed.Tag.length u a.jL.Op a.jL.K a.jL.jB.jF a.jL.jB.jK g a.jL.Kids.length j)
  refine VO (jY (.agg a0.toArray) (a0.toArray) d rfl rfl dz oc nb rfl (fun i1 d => ln ?_))
  replace d := d.drew
  have m := d.has.jE (Kb Sn)
  refine kM m ko (X 0 rfl m (jN M) (X 1 rfl m (jM vu rfl) (XH 2 rfl m (fun _ q => jG rfl (jO q Mh b8 rfl gx dm)) (X 5 rfl m (jM FV rfl) (XH 6 rfl m (fun _ q => jG rfl (jO q Mh v rfl aS aC)) (PJ H (fun b4 E W => ∃ L b2 b9, ST false kQ w W (hp w) ((f4, Ol a0 138) :: ((O, Ol g6 110) :: (b2 ++ b9))) ∧ E 1 = (.pointer (some ⟨O, 0, none⟩)) ∧ E 3 = (.int .i64 I) ∧ E 12 = (.slice A1 x.jV.length c2) ∧ E 13 = (.int .i64 (x.jV.length : Int)) ∧ E 14 = (.int .i64 (d5 : Int)) ∧ E 18 = (.int .i64 I) ∧ E 22 = (.int .i64 b4.1) ∧ E 25 = L ∧ kR 113 jC 5 (hp w) L b4.2 b2) (bm 13 255) 5 ?_ (fun b4 z Z => ?_)))))))
  ·rintro ⟨g7, g3⟩ E W ⟨L, b2, b9, d, f6, j3, f7, f8, f9, g0, g1, g2, e7⟩ P
   refine bS P fun g4 e3 P => XE 8 rfl (Eg d call173 ((yC kC) L g3 _ _ (e7.sl jT d.jJ (fun b o n => d.at_ (Mt (Mt (Ml n))))) e3) (fun i2 d => ?_) (ha := Qj g2))
   have m := d.has.jE (Kb Sn)
   refine ⟨m, (X 9 rfl m (kL rfl rfl rfl) (X 10 rfl m (kL g1 rfl rfl) (X 11 rfl m (kL g0 rfl rfl) (X 12 rfl m (nU rfl) (kV kr (kF (jQ ?_)))))))⟩
   replace d := d.jE (Db (Kb (Dr St)))
   exact ⟨f9, (IntKind.i64.wrap (I + (IntKind.i64.wrap (g7 + (IntKind.i64.wrap (20 * g4)))))), _, ⟨rfl, f8⟩, (d.jE St), f6, rfl, f7, (by rw [f0]; exact P)⟩
  refine CO 3 7 rfl rfl kr (.inl rfl) (.inl rfl) rfl rfl dc dc ?_ ?_
  ·refine kJ (cs := b8.toArray) d (mQ rfl) (na cZ dm dH) (fun i3 b3 d => ?_)
   let d8 : Value := (.slice (some ⟨b3, 0, none⟩) 1 1)
   have m := d.has.jE (Db (Kb Sn))
   refine ⟨m, (CO 4 7 rfl rfl kr (.inl rfl) (.inl rfl) rfl rfl dc dc ?_ ?_)⟩
   ·refine bS z fun j5 e4 z => IW (args := [(.slice none 0 0), d8]) d rfl call35 (by exact ua rfl rfl) (ki.lD (yy (.slice none 0 0) ([]) d8 ([a.Signed]) _ _ (Sl.nil _ _ _) ((kR.lit nC (l := [a.Signed]) (.cons (ys := C2 a.Signed.jA.Kind a.Signed.jA.Head.jF a.Signed.jA.Head.jK a.Signed.jA.kA a.Signed.jA.B.jF a.Signed.jA.B.jK a.Signed.jA.C.jF a.Signed.jA.C.jK a.Signed.jA.kz t a.Signed.Tag.length u) (lL.mk ⟨g5, rfl, Q⟩) .nil) rfl nb rfl).sl nC d.jJ (fun b o n => (by rw [bM] at n; cases n; exact d.at_ Mh))) e4)) (fun i4 d => ?_)
    have m := d.has.jE (Db (Kb Sn))
    refine ⟨m, (XE 7 rfl (kJ (cs := v.toArray) d (mQ rfl) (na aF aC bD) (fun i5 c0 d => ?_)))⟩
    have m := d.has.jE (Db (Db (Kb Sn)))
    refine ⟨m, ?_⟩
    obtain rfl := sj z
    replace d := d.Cz
    refine lU kr (Z _ _ ⟨(.slice (some ⟨c0, 0, none⟩) 1 1), [(c0, Ol v 113)], _, (d.jE (Sb (Pr (Pb Pz)) (Sb (Pr (Pb Pz)) (Kr (Db St))))), U, M, Y, F, s, rfl, rfl, rfl, (kR.lit jT (l := [a.jL]) (.cons (ys := C1 a.jL.Op a.jL.K a.jL.jB.jF a.jL.jB.jK g a.jL.Kids.length j) (jC.mk ⟨d9, rfl, T⟩) .nil) rfl nb rfl)⟩)
   ·refine kJ (cs := v.toArray) d (mQ rfl) (na aF aC bD) (fun i6 c1 d => ?_)
    have m := d.has.jE (Db (Db (Kb Sn)))
    refine ⟨m, (bS z fun j6 e5 z => XE 4 rfl (Eg d call35 (ki.lD (yy (.slice none 0 0) ([]) d8 ([a.Signed]) _ _ (Sl.nil _ _ _) ((kR.lit nC (l := [a.Signed]) (.cons (ys := C2 a.Signed.jA.Kind a.Signed.jA.Head.jF a.Signed.jA.Head.jK a.Signed.jA.kA a.Signed.jA.B.jF a.Signed.jA.B.jK a.Signed.jA.C.jF a.Signed.jA.C.jK a.Signed.jA.kz t a.Signed.Tag.length u) (lL.mk ⟨g5, rfl, Q⟩) .nil) rfl nb rfl).sl nC d.jJ (fun b o n => (by rw [bM] at n; cases n; exact d.at_ (Mt Mh)))) e5)) (fun i7 d => ?_)))⟩
    have m := d.has.jE (Db (Db (Kb Sn)))
    refine ⟨m, ?_⟩
    obtain rfl := sj z
    replace d := d.Cz
    refine lU kr (Z _ _ ⟨(.slice (some ⟨c1, 0, none⟩) 1 1), [(c1, Ol v 113)], _, (d.jE (Sb (Pr (Pb Pz)) (Sb (Pr (Pb Pz)) (Kr (Db St))))), U, M, Y, F, s, rfl, rfl, rfl, (kR.lit jT (l := [a.jL]) (.cons (ys := C1 a.jL.Op a.jL.K a.jL.jB.jF a.jL.jB.jK g a.jL.Kids.length j) (jC.mk ⟨d9, rfl, T⟩) .nil) rfl nb rfl)⟩)
  ·refine kJ (cs := v.toArray) d (mQ rfl) (na aF aC bD) (fun i8 c3 d => ?_)
   have m := d.has.jE (Db (Kb Sn))
   refine ⟨m, (XE 3 rfl (kJ (cs := b8.toArray) d (mQ rfl) (na cZ dm dH) (fun i9 f5 d => ?_)))⟩
   have m := d.has.jE (Db (Db (Kb Sn)))
   refine ⟨m, (bS z fun j7 e6 z => XE 4 rfl (Eg d call35 (ki.lD (yy (.slice none 0 0) ([]) (.slice (some ⟨f5, 0, none⟩) 1 1) ([a.Signed]) _ _ (Sl.nil _ _ _) ((kR.lit nC (l := [a.Signed]) (.cons (ys := C2 a.Signed.jA.Kind a.Signed.jA.Head.jF a.Signed.jA.Head.jK a.Signed.jA.kA a.Signed.jA.B.jF a.Signed.jA.B.jK a.Signed.jA.C.jF a.Signed.jA.C.jK a.Signed.jA.kz t a.Signed.Tag.length u) (lL.mk ⟨g5, rfl, Q⟩) .nil) rfl nb rfl).sl nC d.jJ (fun b o n => (by rw [bM] at n; cases n; exact d.at_ Mh))) e6)) (fun j0 d => ?_)))⟩
   have m := d.has.jE (Db (Db (Kb Sn)))
   refine ⟨m, ?_⟩
   obtain rfl := sj z
   replace d := d.perm (Nb (Pb Pz) Nz)
   replace d := d.Cz
   refine lU kr (Z _ _ ⟨(.slice (some ⟨c3, 0, none⟩) 1 1), [(c3, Ol v 113)], _, (d.jE (Sb (Pr (Pb Pz)) (Sb (Pr (Pb Pz)) (Kr (Db St))))), U, M, Y, F, s, rfl, rfl, rfl, (kR.lit jT (l := [a.jL]) (.cons (ys := C1 a.jL.Op a.jL.K a.jL.jB.jF a.jL.jB.jK g a.jL.Kids.length j) (jC.mk ⟨d9, rfl, T⟩) .nil) rfl nb rfl)⟩)
 rintro E W ⟨I, b1, ⟨s, F⟩, d, U, M, Y, H⟩
 rw [aP] at H
 refine jQ (jX (sg (V (jM AS U) (VB d Mh rfl rfl isAgg108 (V (lf cT rfl G) (Wm (ln ?_)))))))
 replace d := d.jE (Db St)
 refine CJ H (fun R E W => ∃ b6, ST false kQ w W (hp w) b6 ∧ E 3 = (.int .i64 R)) (fun R c8 => ?_) ?_
 ·refine li (fun i E W => ∃ K a2, (E 34 = .int .i64 (i : Nat) ∧ E 33 = .int .i64 (x.kx.length : Nat)) ∧ ST false kQ w W (hp w) a2 ∧ E 3 = (.int .i64 K) ∧ E 32 = (.slice A3 x.kx.length c4) ∧ qM (x.kx.drop i) K = some R) x.kx.length G.len ⟨I, _, ⟨rfl, rfl⟩, (d.jE St), M, rfl, c8⟩ dc dc dc (fun _ _ _ h => by obtain ⟨_, _, A, _⟩ := h; exact A) ?_ ?_
  ·rintro f1 E W c6 ⟨K, a2, ⟨s, F⟩, d, a4, a5, k⟩
   obtain ⟨c, g8, d3, d2, d4⟩ := kP c6
   rw [d3] at k
   refine bg (VQ (mo (i := (f1 : Int)) (x0 := c) kW.out cT dG a5 s G (aJ _) d2) (fun h5 ⟨_, ⟨h6, h7, rfl, a9, b0⟩, c9⟩ => V (jG rfl (kl d.has c9 jd dG)) (VE (kv d gk (fun g9 h4 d => ?_)))))
   obtain ⟨B, D, rfl⟩ := a9.form
   let d6 := (C1 c.jL.Op c.jL.K c.jL.jB.jF c.jL.jB.jK B c.jL.Kids.length D)
   obtain ⟨a1, a3, rfl⟩ := b0.form
   let c5 := (C6 c.jB.jF c.jB.jK c.jL.Op c.jL.K c.jL.jB.jF c.jL.jB.jK B c.jL.Kids.length D a1 c.lI.length a3)
   refine VO (jY (.agg c5.toArray) (c5.toArray) d rfl rfl dG oc nb rfl (fun h0 d => ln ?_))
   replace d := d.drew
   have m := d.has.jE (Kb Sn)
   refine kM m ko (X 0 rfl m (jN a4) (X 1 rfl m (jM AO rfl) (X 2 rfl m (jM tO rfl) (XH 3 rfl m (fun _ q => jG rfl (jS q Mh rfl bZ)) (X 4 rfl m (nV bQ rfl) (X 5 rfl m (jM AO rfl) (X 6 rfl m (jM vd rfl) (XH 7 rfl m (fun _ q => jG rfl (jS q Mh rfl bZ)) (X 8 rfl m (nV bQ rfl) (X 9 rfl m (kL rfl rfl rfl) (X 10 rfl m (jM FM rfl) (XH 11 rfl m (fun _ q => jG rfl (jO q Mh d6 rfl aS aC)) (X 16 rfl m (jM Dt rfl) (XH 17 rfl m (fun _ q => jG rfl (jS q Mh rfl eB)) ?_))))))))))))))
   refine XE 12 rfl (kJ (cs := d6.toArray) d (mQ rfl) (na aF aC bD) (fun h1 d7 d => ?_))
   have m := d.has.jE (Db (Kb Sn))
   refine ⟨m, (bS k fun f2 d0 k => XE 13 rfl (Eg d call173 ((yC kC) (.slice (some ⟨d7, 0, none⟩) 1 1) ([c.jL]) _ _ ((kR.lit jT (l := [c.jL]) (.cons (ys := C1 c.jL.Op c.jL.K c.jL.jB.jF c.jL.jB.jK B c.jL.Kids.length D) (jC.mk ⟨(.slice B c.jL.Kids.length D), rfl, a9⟩) .nil) rfl nb rfl).sl jT d.jJ (fun b o n => (by rw [bM] at n; cases n; exact d.at_ Mh))) d0) (fun h2 d => ?_)))⟩
   have m := d.has.jE (Db (Kb Sn))
   refine ⟨m, (X 14 rfl m (kL rfl rfl rfl) (X 15 rfl m (kL rfl rfl rfl) (bS k fun f3 d1 k => XE 18 rfl (Eg d call21 (ki.lD (wx (.slice a1 c.lI.length a3) c.lI _ _ (b0.mono (Pl.mono _) d.jJ) d1)) (fun h3 d => ?_)))))⟩
   have m := d.has.jE (Db (Kb Sn))
   refine ⟨m, (X 19 rfl m (kL rfl rfl rfl) (X 20 rfl m (kL rfl rfl rfl) (X 21 rfl m (nU rfl) (kV kr (kF (jQ ?_))))))⟩
   replace d := d.jE (Db (Db St))
   exact ⟨s, (IntKind.i64.wrap (K + (IntKind.i64.wrap ((IntKind.i64.wrap ((IntKind.i64.wrap ((c.jB.jF.size : Int) + (c.jB.jK.size : Int))) + (IntKind.i64.wrap (20 * f2)))) + f3)))), _, ⟨rfl, F⟩, (d.jE St), rfl, a5, (by rw [d4]; exact k)⟩
  rintro E W ⟨K, a2, ⟨s, F⟩, d, a4, a5, k⟩
  rw [aP] at k
  refine jQ ?_
  obtain rfl := sj k
  exact ⟨_, (d.jE St), a4⟩
 rintro h8 E W ⟨b6, d, e0⟩ c7
 exact sg (Wh e0 (Wa (lt (rQ c7 d))))
theorem GK (a : lP) (g k x H z G : Value) (r : Int) (w : World) (c : Sl ku 15 (hp w) g a.jI.jV) (j : Sl kW 8 (hp w) k a.jI.kx) (u : Sl (Pl jD) 9 (hp w) x a.jU) (D : Sl (Pl jD) 9 (hp w) H a.Shown) (y : Sl (Pl jH) 2 (hp w) z a.kq) (B : Sl (Pl jH) 2 (hp w) G a.lc) (hm : wF a = some r) :
  ki false Tryz.prog 109 [(.agg #[(.string a.jI.Name), g, k, (.string a.lG), (.int .i64 a.Room), x, H, z, G])] w (.int .i64 r) := by
 refine cG 45 func109 rfl (fun b => sg ?_)
 obtain ⟨A1, c2, rfl⟩ := c.form
 obtain ⟨A3, q, rfl⟩ := j.form
 obtain ⟨A5, c6, rfl⟩ := u.form
 obtain ⟨A7, c8, rfl⟩ := D.form
 obtain ⟨A9, a5, rfl⟩ := y.form
 obtain ⟨a3, F, rfl⟩ := B.form
 refine VE (kH b rfl (fun e0 e7 b => Wa (ln (jX ?_))))
 replace b := b.drew
 have d := b.has.jE (Kb Sn)
 refine kM d ko (X 0 rfl d (jM wP rfl) (XH 1 rfl d (fun _ m => jG rfl (jO m Mh (C8 a.jI.Name A1 a.jI.jV.length c2 A3 a.jI.kx.length q) rfl ez dS)) (X 3 rfl d (jM Dv rfl) (XH 4 rfl d (fun _ m => jG rfl (jS m Mh rfl bZ)) (X 5 rfl d (nV bQ rfl) (X 7 rfl d (jM AI rfl) (XH 8 rfl d (fun _ m => jG rfl (jS m Mh rfl eB)) (X 11 rfl d (jM wN rfl) (XH 12 rfl d (fun _ m => jG rfl (jS m Mh rfl eB)) (bS hm fun d0 b4 hm => XE 2 rfl (Eg b call102 (GN a.jI (.slice A1 a.jI.jV.length c2) (.slice A3 a.jI.kx.length q) _ _ (c.mono kT.mono b.jJ) (j.mono mz.mono b.jJ) b4) (fun e1 b => ?_))))))))))))
 have d := b.has.jE (Kb Sn)
 refine ⟨d, (X 6 rfl d (kL rfl rfl rfl) (bS hm fun d1 b5 hm => XE 9 rfl (Eg b call21 (ki.lD (wx (.slice A5 a.jU.length c6) a.jU _ _ (u.mono (Pl.mono _) b.jJ) b5)) (fun e2 b => ?_))))⟩
 have d := b.has.jE (Kb Sn)
 refine ⟨d, (X 10 rfl d (kL rfl rfl rfl) (bS hm fun d2 b6 hm => XE 13 rfl (Eg b call21 (ki.lD (wx (.slice A7 a.Shown.length c8) a.Shown _ _ (D.mono (Pl.mono _) b.jJ) b6)) (fun e3 b => ?_))))⟩
 have d := b.has.jE (Kb Sn)
 refine ⟨d, (X 14 rfl d (kL rfl rfl rfl) (X 15 rfl d (nU rfl) (kV kr (jQ (jX (jX ?_))))))⟩
 replace b := b.drew
 have d := b.has.jE (Kb Sn)
 refine kM d ko (X 1 rfl d (jM FX rfl) (XH 2 rfl d (fun _ m => jG rfl (jS m Mh rfl gz)) (X 4 rfl d (jM FG rfl) (XH 5 rfl d (fun _ m => jG rfl (jS m Mh rfl gz)) (X 8 rfl d (jN rfl) (XE 0 rfl (kJ (cs := #[]) b pK (wS [] bF aI eb dc rfl (by simp) rfl rfl) (fun e4 a4 b => ?_))))))))
 have d := b.has.jE (Db (Kb Sn))
 refine ⟨d, (bS hm fun e8 O hm => XE 3 rfl (oq (enc := jH) (v := (.slice (some ⟨a4, 0, none⟩) 0 0)) (vs := (.slice A9 a.kq.length a5)) (R := [(a4, Ob #[] 28)]) b mY dc pg bF pO.1 pO.2.1 rfl pO.2.2.1 pO.2.2.2 rfl rfl (kk.lit (l := []) (enc := jH) rfl dc rfl rfl) (y.mono (Pl.mono _) b.jJ) O (fun e5 d3 c3 b L => ?_)))⟩
 have d := b.has.jE (Dr (Kb Sn))
 refine ⟨d, (bS hm fun U P hm => XE 6 rfl (oq (enc := jH) (v := d3) (vs := (.slice a3 a.lc.length F)) (R := c3) b mY dc pg bF pO.1 pO.2.1 rfl pO.2.2.1 pO.2.2.2 rfl rfl L (B.mono (Pl.mono _) b.jJ) P (fun e6 d4 c5 b K => ?_)))⟩
 have d := b.has.jE (Dr (Kb Sn))
 refine ⟨d, (X 7 rfl d (qV bF rfl K) (kV kr (jQ ?_)))⟩
 replace b := b.jE (Kr (Db St))
 refine li (fun i E W => ∃ J M, (E 29 = .int .i64 (i : Nat) ∧ E 28 = .int .i64 (U.length : Nat)) ∧ ST false kQ w W (hp w) (c5 ++ M) ∧ E 3 = (.int .i64 J) ∧ E 27 = d4 ∧ qT (U.drop i) J = some r) U.length K.len ⟨(IntKind.i64.wrap ((IntKind.i64.wrap ((IntKind.i64.wrap (d0 + (a.lG.size : Int))) + d1)) + d2)), _, ⟨rfl, rfl⟩, (b.jE St), rfl, rfl, hm⟩ dc dc dc (fun _ _ _ h => by obtain ⟨_, _, o, _⟩ := h; exact o) ?_ ?_
 ·rintro b7 E W Y ⟨J, M, ⟨n, s⟩, b, N, Q, t⟩
  obtain ⟨I, d5, A, T, a2⟩ := kP Y
  rw [A] at t
  refine bg (VQ (nz (i := (b7 : Int)) (x0 := I) bF aI Q n K (aJ _) T) (fun d9 Z => V (jG rfl (pB b.has (fun p hq => (Ml hq)) K mY Z T bL aI)) (VE (kv b eb (fun d6 d8 b => VO (jY (.agg (jH I).toArray) ((jH I).toArray) b rfl rfl aI (pg I) nb rfl (fun d7 b => ln (jW (Wh N (Wf tO (VB b Mh rfl rfl bZ (V (nV bQ rfl) (Wi rfl ?_)))))))))))))
  refine Wf vd (VB b Mh rfl rfl bZ (V (nV bQ rfl) (Wi rfl (Wi rfl (Wa (ky (kF (jQ ?_))))))))
  replace b := b.jE (Db St)
  exact ⟨n, (IntKind.i64.wrap (J + (IntKind.i64.wrap ((IntKind.i64.wrap (5 + (I.jF.size : Int))) + (I.jK.size : Int))))), _, ⟨rfl, s⟩, (b.jE St), rfl, Q, (by rw [a2]; exact t)⟩
 rintro E W ⟨J, M, ⟨n, s⟩, b, N, Q, t⟩
 rw [aP] at t
 refine jQ ?_
 replace b := b.jE (Dr St)
 exact sg (Wh N (Wa (lt (rQ t b))))
theorem Cg (g : Value) (i r : List jB) (w : World) (a : Sl (Pl jH) 2 (hp w) g i) (hm : qG i = some r) :
  mw true Tryz.prog 355 [g] w 28 jH 2 r := by
 unfold qG at hm
 refine wX 8 func355 rfl (fun b => sg (Wa (lS (Wm ?_))))
 obtain ⟨y, B, rfl⟩ := a.form
 refine V (wT bF rfl rfl) (ln ?_)
 rcases y with _ | z
 ·have u := a.isNil
  replace hm : some [] = some r := by rw [u] at hm; simpa [mG, maxLen] using hm
  refine sV (rfl) (sg (Wa (lt (kI ?_))))
  obtain rfl := sj hm
  exact lq (v := (.slice none 0 0)) rfl rfl ⟨_, [], rfl, b.nQ (fun p d => by cases d) (by simp), kk.nil _ _ _⟩
 ·refine oS (rfl) (kg (VE (kJ (cs := #[]) b pK (wS [] bF aI eb dc rfl (by simp) rfl rfl) (fun G k b => Wm (bS hm fun H t hm => VE (oq (enc := jH) (v := (.slice (some ⟨k, 0, none⟩) 0 0)) (vs := (.slice (some z) i.length B)) (R := [(k, Ob #[] 28)]) b mY dc pg bF pO.1 pO.2.1 rfl pO.2.2.1 pO.2.2.2 rfl rfl (kk.lit (l := []) (enc := jH) rfl dc rfl rfl) (a.mono (Pl.mono _) b.jJ) t (fun D x j b c => Wa (lt ?_))))))))
  obtain rfl := sj hm
  exact lq (v := x) rfl rfl ⟨_, j, rfl, b.nQ (fun p d => (Ml d)) c.nd, c⟩
theorem zL (g : Value) (t : List jB) (j : Value) (B : jB → Option Bool) (r : Int) (w : World) (c : Sl (Pl jH) 2 (hp w) g t) (D : wL Tryz.prog j (hp w) (fun (x : jB) => [(.agg (jH x).toArray)]) (fun (r : Bool) => (.bool r)) B) (hm : sH t B = some r) :
  ki false Tryz.prog 408 [g, j] w (.int .i64 r) := by
 refine cG 19 func408 rfl (fun b => sg (Wa (lS (Wm (V (lf bF rfl c) (Wm (ln (li (fun i E W => ∃ k, (E 8 = .int .i64 (i : Nat) ∧ E 7 = .int .i64 (t.length : Nat)) ∧ ST false kQ w W (hp w) k ∧ E 0 = g ∧ E 1 = j ∧ nX B (t.drop i) i = some r) t.length c.len ⟨_, ⟨rfl, rfl⟩, (b.jE St), rfl, rfl, hm⟩ dc dc dc (fun _ _ _ h => by obtain ⟨_, l, _⟩ := h; exact l) ?_ ?_))))))))
 ·rintro Q E W H ⟨k, ⟨d, m⟩, b, u, y, a⟩
  obtain ⟨z, T, M, K, N⟩ := kP H
  rw [M] at a
  refine bg (Wh d (Wa (lr (Wh y (Wh u (Wm (VQ (ot (enc := jH) (i := (Q : Int)) (x0 := z) bF aI rfl rfl c (aJ _) K) (fun Y I => V (jG rfl (kl b.has I bL aI)) (bS a fun Z J a => ?_)))))))))
  refine VE (Hl z b D (kf.refl _) rfl (tD rfl) J (fun U b => ln (CI a rfl (fun G a => ?_) (fun G a => ?_))))
  ·refine sg (Wm (Wa (lt (mn (kI (mn (kI ?_)))))))
   obtain rfl := sj a
   exact rP b
  exact ll (kF (jQ ⟨d, _, ⟨rfl, m⟩, (b.jE St), u, y, (by rw [N]; exact a)⟩))
 rintro E W ⟨k, ⟨d, m⟩, b, u, y, a⟩
 rw [aP] at a
 exact jQ (sg (Wa (lt (rQ a b))))
theorem zi (j : Value) (a0 : List jB) (t : LO) (H : Value) (f1 : jB → Option Bool) (r : List jB) (w : World) {μ0 : km} (h0 : ni μ0 (t ++ []) w) (T : kk 28 jH 2 j a0 t) (a4 : wL Tryz.prog H μ0 (fun (x : jB) => [(.agg (jH x).toArray)]) (fun (r : Bool) => (.bool r)) f1) (hm : qc a0 f1 = some r) :
  lC false Tryz.prog 354 [j, H] w (t ++ []) (fun v L1 W' => ∃ q S2, v = q ∧ L1 = (S2 ++ []) ∧ kk 28 jH 2 q r S2) := by
 refine yl h0 42 func354 rfl (fun d => sg (Wa (lr (Wm (Wm (bS hm fun n d3 hm => VE (Eg d call408 (zL j a0 H f1 _ _ (T.sl mY (fun b o h => d.at_ (Ml h))) (a4.mono d.jJ) d3) (fun W3 d => Wa (ln ?_)))))))))
 refine jX (sg (Wm (Wi rfl (ln (CI hm rfl (fun d2 hm => ?_) (fun d2 hm => ?_))))))
 ·refine sg (Wm (Wa (lt (kI ?_))))
  obtain rfl := sj hm
  exact lq (v := j) rfl rfl ⟨_, _, rfl, (d.mg (Kr Sn)), j, t, rfl, rfl, T⟩
 refine kS (Wm (Wi rfl (Wa (ln (lQ (np (fun m E W => ∃ U I B D a2, ST false (keys (t ++ [])) w W μ0 (I ++ a2) ∧ E 0 = j ∧ E 1 = H ∧ E 5 = (.int .i64 B) ∧ E 6 = (.int .i64 D) ∧ kk 28 jH 2 j U I ∧ mW f1 m U B D = some r) kC ⟨a0, t, n, (IntKind.i64.wrap (n + 1)), _, (d.jE St), rfl, rfl, rfl, rfl, T, hm⟩ ?_))))))
 rintro m E W ⟨U, I, B, D, a2, d, y, Q, G, K, g, a⟩
 cases m with
 | zero => rw [mW] at a; cases a
 | succ c8 =>
  refine jX (sg (Wh K (Wh y (V (qV bF rfl g) (Wi rfl (ln (CI a rfl (fun A a => ?_) (fun A a => ?_))))))))
  ·refine kn (jX (CJ a (fun Y E W => ∃ J a3, ST false (keys (t ++ [])) w W μ0 (J ++ a3) ∧ E 0 = j ∧ E 1 = H ∧ E 5 = (.int .i64 Y.2) ∧ E 6 = (.int .i64 D) ∧ kk 28 jH 2 j Y.1 J) (fun Y c => ?_) ?_))
   ·refine bg (Wh y (Wh K (bS c fun k M c => VQ (nz (i := D) (x0 := k) bF aI rfl rfl g (kj M) (kh M)) (fun e4 O => V (jG rfl (pB d.has (fun p h => (Ml h)) g mY O (kh M) bL aI)) (VE (kv d eb (fun d7 e2 d => VO (jY (.agg (jH k).toArray) ((jH k).toArray) d rfl rfl aI (pg k) nb rfl (fun d8 d => lr (Wh Q ?_))))))))))
    refine VA d Mh (jH k) bL aI (bS c fun e6 R c => VE (Hl k d a4 (kf.refl _) rfl (tD rfl) R (fun d9 d => V (mC rfl) (ln (CI c rfl (fun F c => ?_) (fun F c => ?_))))))
    ·refine sg (Wh y (Wh G (VA d Mh (jH k) bL aI (bS c fun d0 N c => VQ (nz (i := B) (x0 := d0) bF aI rfl rfl g (kj N) (kh N)) (fun e5 P => ?_)))))
     replace d := d.perm (Nr (Qb Qz) Nz)
     refine VO (xq (u := (.agg (jH k).toArray)) (x1 := k)  d g mY pg rfl rfl rfl P (kh N) aI (fun e0 c1 d s => ln ?_))
     replace d := d.jE (Kr (Db St))
     refine jW (Wh G (Wi rfl (Wa (ky (kF (jQ ?_))))))
     obtain rfl := sj c
     exact ⟨c1, _, (d.jE St), y, Q, rfl, K, s⟩
    refine ll (kF (jQ ?_))
    obtain rfl := sj c
    exact ⟨I, _, (d.jE (Db St)), y, Q, G, K, g⟩
   rintro ⟨c7, c9⟩ E W ⟨J, a3, d, c3, c4, c5, c6, b6⟩ L
   exact jW (Wh c6 (Wi rfl (Wa (ln ⟨c8, bI _, c7, J, c9, (IntKind.i64.wrap (D + 1)), _, (d.jE St), c3, c4, c5, rfl, b6, L⟩))))
  refine mZ (mI (mI (rf (jQ (sg (Wh y (Wh G (bS a fun _ Z a => VQ (tg (i := B) bF aI rfl rfl g (rp Z) (ry Z)) (fun e7 b7 => VO (vY (z := K0)  d g mY pg bF eb b7 rfl rfl (fun e1 c2 d a9 => lr (Wh y ?_))))))))))))
  refine Wh G (bS a fun _ l a => VQ (vj (i := B) bF aI rfl rfl a9 mY (rp l) (ry l)) (fun a5 b9 => Wa (lt ?_)))
  obtain rfl := sj a
  exact lq (v := a5) rfl rfl ⟨_, _, rfl, (d.mg (Kr Sn)), a5, c2, rfl, rfl, b9⟩
theorem Gz (a : jB) (r : Bool) (w : World) (hm : wv a = some r) :
  ki true Tryz.prog 356 [(.agg (jH a).toArray)] w (.bool r) := by
 refine cG 6 func356 rfl (fun b => sg (VE (kH b rfl (fun g j b => Wa (lr (VA b Mh (jH a) bL aI (bS hm fun k c hm => VE (Eg b iO (pZ a _ _  c) (fun i b => V (mC rfl) (Wa (ky ?_)))))))))))
 refine jQ ?_
 exact kB (rQ hm b)
theorem JF (c : Value) (k : List jB) (a : LO) (g : Value) (t : (jB × jB) → Option Int) (r : List jB) (w : World) {y : km} (u : ni y (a ++ []) w) (i : kk 28 jH 2 c k a) (j : Pe Tryz.prog g y (fun (x : (jB × jB)) => [(.agg (jH x.1).toArray), (.agg (jH x.2).toArray)]) (fun (r : Int) => (.int .i64 r)) t) (hm : wE t k = some r) :
  lC true Tryz.prog 357 [c, g] w (a ++ []) (fun v z W' => ∃ S, v = (.tuple #[]) ∧ z = (S ++ []) ∧ kk 28 jH 2 c r S) := DM (P := Tryz.prog) (ρ := KJ) PA 2 bL aI jH mY pg u.H u.S i j hm
theorem A8 (j : Value) (a0 : List jB) (x : LO) (r : List jB) (w : World) {μ0 : km} (h0 : ni μ0 (x ++ []) w) (B : kk 28 jH 2 j a0 x) (hm : rq a0 = some r) :
  lC true Tryz.prog 358 [j] w (x ++ []) (fun v L1 W' => ∃ y1 S2, v = y1 ∧ L1 = (S2 ++ []) ∧ kk 28 jH 2 y1 r S2) := by
 refine yl h0 61 func358 rfl (fun b => sg (Wa (lS (Wm (V (qV bF rfl B) (Wi rfl (ln (CI hm rfl (fun g0 hm => ?_) (fun g0 hm => ?_)))))))))
 ·refine sg (Wm (Wa (lt (kI ?_))))
  obtain rfl := sj hm
  exact lq (v := j) rfl rfl ⟨_, _, rfl, (b.mg (Kr Sn)), j, x, rfl, rfl, B⟩
 refine kS (Wa (ln (lQ (np (fun m E W => ∃ t P, ST true (keys (x ++ [])) w W μ0 (x ++ P) ∧ E 0 = j ∧ E 3 = (.int .i64 t) ∧ nE a0 m t = some r) kC ⟨1, _, (b.jE St), rfl, rfl, hm⟩ ?_))))
 rintro m E W ⟨t, P, b, D, H, a⟩
 cases m with
 | zero => rw [nE] at a; cases a
 | succ f5 =>
  refine jX (sg (Wh H (Wh D (V (qV bF rfl B) (Wi rfl (ln (CI a rfl (fun d0 a => ?_) (fun d0 a => ?_))))))))
  ·refine kn (jX (lQ (jX ?_)))
   replace b := b.drew
   have d := b.has.jE (Kr Sn)
   refine kM d ko (X 0 rfl d (jN D) (X 1 rfl d (jN H) (bS a fun c3 Z a => XQ 2 rfl d (nz (i := t) (x0 := c3) bF aI rfl rfl B (kj Z) (kh Z)) (fun g7 d6 => XH 3 rfl d (fun _ l => jG rfl (pB l (fun p h => (Ml h)) B mY d6 (kh Z) bL aI)) (X 4 rfl d (jN D) (X 5 rfl d (jN H) (X 6 rfl d (kL rfl rfl rfl) (bS a fun c4 n a => XQ 7 rfl d (nz (i := (IntKind.i64.wrap (t - 1))) (x0 := c4) bF aI rfl rfl B (kj n) (kh n)) (fun g8 d7 => XH 8 rfl d (fun _ l => jG rfl (pB l (fun p h => (Ml h)) B mY d7 (kh n) bL aI)) (X 9 rfl d (xg rfl rfl (oQ fQ) (tR (tk _ c3 c4))) (kV kr (jQ ?_))))))))))))
   refine CI a rfl (fun d1 a => ?_) (fun d1 a => ?_)
   ·refine sg (Wh D (Wh H (bS a fun _ A a => VQ (tg (i := t) bF aI rfl rfl B (rp A) (ry A)) (fun c1 M => Wa (lS (Wa (ln ?_)))))))
    refine CJ a (fun U E W => ∃ o R, ST true (keys (x ++ [])) w W μ0 (o ++ R) ∧ E 0 = j ∧ E 3 = (.int .i64 U.2) ∧ kk 28 jH 2 j U.1 o) (fun U d4 => ?_) ?_
    ·refine lQ (np (fun m E W => ∃ q K Y y b6, ST true (keys (x ++ [])) w W μ0 (K ++ b6) ∧ E 0 = j ∧ E 3 = (.int .i64 Y) ∧ E 4 = c1 ∧ E 5 = (.int .i64 y) ∧ kk 28 jH 2 j q K ∧ nD t m q Y y = some U) kC ⟨a0, x, t, 1, _, (b.jE St), D, H, rfl, rfl, B, d4⟩ ?_)
     rintro m E W ⟨q, K, Y, y, b6, b, Q, T, I, J, g, k⟩
     cases m with
     | zero => rw [nD] at k; cases k
     | succ f6 =>
      refine jX (sg (Wh J (Wh I (V (CN bF rfl M g) (Wi rfl (ln (CI k rfl (fun d2 k => ?_) (fun d2 k => ?_))))))))
      ·refine kn (jX (CJ k (fun s E W => ∃ N b7, ST true (keys (x ++ [])) w W μ0 (N ++ b7) ∧ E 0 = j ∧ E 3 = (.int .i64 s.2) ∧ E 4 = c1 ∧ E 5 = (.int .i64 y) ∧ kk 28 jH 2 j s.1 N) (fun s c => ?_) ?_))
       ·refine lQ (jX ?_)
        replace b := b.drew
        have d := b.has.jE (Kr Sn)
        refine kM d ko (X 0 rfl d (jN I) (X 1 rfl d (jN J) (bS c fun c6 a2 c => XQ 2 rfl d (tf (i := y) (x0 := c6) bF aI rfl rfl g M (kj a2) (kh a2)) (fun g9 d8 => XH 3 rfl d (fun _ l => jG rfl (pB l (fun p h => (Ml h)) g mY d8 (vg (kh a2)) bL aI)) (X 4 rfl d (jN I) (X 5 rfl d (jN J) (X 6 rfl d (kL rfl rfl rfl) (bS c fun c7 a3 c => XQ 7 rfl d (tf (i := (IntKind.i64.wrap (y - 1))) (x0 := c7) bF aI rfl rfl g M (kj a3) (kh a3)) (fun h1 d9 => XH 8 rfl d (fun _ l => jG rfl (pB l (fun p h => (Ml h)) g mY d9 (vg (kh a3)) bL aI)) (X 9 rfl d (GS rfl rfl (oQ fQ) (Dx (tk _ c6 c7))) (kV kr (jQ ?_))))))))))))
        refine CI c rfl (fun d3 c => ?_) (fun d3 c => ?_)
        ·refine sg (Wh Q (Wh T (Wh I (Wh J (bS c fun a9 a4 c => VQ (tf (i := y) (x0 := a9) bF aI rfl rfl g M (kj a4) (kh a4)) (fun h2 e0 => V (jG rfl (pB b.has (fun p h => (Ml h)) g mY e0 (vg (kh a4)) bL aI)) (bS c fun f8 a5 c => VQ (nz (i := Y) (x0 := f8) bF aI rfl rfl g (kj a5) (kh a5)) (fun h3 e1 => VO (xq (u := (.agg (jH a9).toArray)) (x1 := a9)  b g mY pg rfl rfl rfl e1 (kh a5) aI (fun g3 e8 b c9 => ln (jW ?_)))))))))))
         refine Wh T (Wi rfl (Wa (ky (kF (jQ ?_)))))
         obtain rfl := sj c
         exact ⟨e8, _, (b.jE St), Q, rfl, I, J, c9⟩
        refine ll (kF (jQ ?_))
        obtain rfl := sj c
        exact ⟨K, _, (b.jE St), Q, T, I, J, g⟩
       rintro ⟨f4, f7⟩ E W ⟨N, b7, b, f0, f1, f2, f3, e4⟩ d5
       exact jW (Wh f3 (Wi rfl (Wa (ln ⟨f6, bI _, f4, N, f7, (IntKind.i64.wrap (y + 1)), _, (b.jE St), f0, f1, f2, rfl, e4, d5⟩))))
      refine mZ (mI (mI (rf (jQ ?_))))
      obtain rfl := sj k
      exact ⟨K, _, (b.jE St), Q, T, g⟩
    rintro ⟨g4, c5⟩ E W ⟨o, R, b, b9, c0, O⟩ G
    refine sg (Wh b9 (Wh c0 (bS G fun _ F G => VQ (tg (i := c5) bF aI rfl rfl O (rp F) (ry F)) (fun h4 e2 => VO (vY (z := K0)  b O mY pg bF eb e2 rfl rfl (fun g2 e7 b c8 => lr (Wh b9 (Wh c0 (bS G fun _ L G => VQ (vj (i := c5) bF aI rfl rfl c8 mY (rp L) (ry L)) (fun c2 e3 => ?_))))))))))
    refine Wa (lt (mn (kI (kI (mn (kI ?_))))))
    obtain rfl := sj G
    exact lq (v := c2) rfl rfl ⟨_, _, rfl, (b.mg (Kr Sn)), c2, e7, rfl, rfl, e3⟩
   exact ll (kF (jQ (jW (Wh H (Wi rfl (Wa (ln ⟨f5, bI _, (IntKind.i64.wrap (t + 1)), _, (b.jE St), D, rfl, a⟩)))))))
  refine mZ (mI (mI (rf (jQ (sg (Wh D (Wa (lt ?_))))))))
  obtain rfl := sj a
  exact lq (v := j) rfl rfl ⟨_, _, rfl, (b.mg (Kr Sn)), j, x, rfl, rfl, B⟩
theorem Bp (i : Value) (t r : List jB) (w : World) (B : Sl (Pl jH) 2 (hp w) i t) (hm : sS t = some r) :
  mw false Tryz.prog 315 [i] w 28 jH 2 r := by
 refine wX 11 func315 rfl (fun b => sg (Wa (lr (Wm (bS hm fun u T hm => VE (sG b call355 (mw.lD (Cg i t _ _ (B.mono (Pl.mono _) b.jJ) T)) (fun W3 v7 y R8 b a5 o Q => bS hm fun U D hm => ?_)))))))
 refine VE (eM b (Cr Qz Cn) call354 (fun h _ => (zi v7 u R8 (.func (.func 356) #[] #[]) (fun (x : jB) => wv x) _ _ h Q ⟨356, #[], #[], rfl, call356, fun W x r s hm => (Gz x r W  hm).lD⟩ D)) ?_)
 rintro _ O b9 A b z l d ⟨k, K, a, rfl, I⟩
 obtain rfl := a.symm
 replace b := b.perm (Tr Tn)
 refine Wa (lr (Wm (bS hm fun Y G hm => ?_)))
 refine VE (eM b (Cr Qz Cn) call357 (fun h _ => lC.lD (JF k U K (.func (.func 123) #[] #[]) (fun (x : (jB × jB)) => nc x.1 x.2) _ _ h I ⟨123, #[], rfl, call123, fun W x r s hm => xO x.1 x.2 r W  hm⟩ G)) ?_)
 rintro _ P c0 a9 b a2 m d ⟨M, c, rfl, J⟩
 obtain rfl := c.symm
 replace b := b.perm (Tr Tn)
 refine lr (Wm (bS hm fun L H hm => ?_))
 refine VE (eM b (Cr Qz Cn) call358 (fun h _ => lC.lD (A8 k Y M _ _ h J H)) ?_)
 rintro _ R c1 F b a3 n d ⟨Z, N, g, rfl, j⟩
 obtain rfl := g.symm
 replace b := b.perm (Tr Tn)
 refine Wa (lt ?_)
 obtain rfl := sj hm
 exact lq (v := Z) rfl rfl ⟨_, N, rfl, b.nQ (fun p q => (Ml q)) j.nd, j⟩
theorem sD (t : Value) (y : List jB) (u : Value) (K : List jB) (r : Bool) (w : World) (c : Sl (Pl jH) 2 (hp w) t y) (z : Sl (Pl jH) 2 (hp w) u K) (hm : nw y K = some r) :
  ki true Tryz.prog 314 [t, u] w (.bool r) := by
 refine cG 26 func314 rfl (fun d => sg (Wa (lS (Wm (V (lf bF rfl c) (Wm (V (lf bF rfl z) (Wi rfl (ky ?_)))))))))
 refine jQ (CI hm rfl (fun U hm => ?_) (fun U hm => ?_))
 ·refine sg (Wa (lt (kI ?_)))
  obtain rfl := sj hm
  exact rP d
 refine kS (Wm (V (lf bF rfl c) (Wm (ln (li (fun i E W => ∃ g, (E 13 = .int .i64 (i : Nat) ∧ E 12 = .int .i64 (y.length : Nat)) ∧ ST true kQ w W (hp w) g ∧ E 0 = t ∧ E 1 = u ∧ ol K (y.drop i) i = some r) y.length c.len ⟨_, ⟨rfl, rfl⟩, (d.jE St), rfl, rfl, hm⟩ dc dc dc (fun _ _ _ h => by obtain ⟨_, m, _⟩ := h; exact m) ?_ ?_)))))
 ·rintro I E W M ⟨g, ⟨l, o⟩, d, j, k, a⟩
  obtain ⟨J, a3, Q, N, T⟩ := kP M
  rw [Q] at a
  refine bg (Wh l (Wa (ln (jX ?_))))
  replace d := d.drew
  have b := d.has.jE Sn
  refine kM b ko (X 0 rfl b (jN j) (X 1 rfl b (jN rfl) (XQ 2 rfl b (ot (enc := jH) (i := (I : Int)) (x0 := J) bF aI rfl rfl c (aJ _) N) (fun Y G => XH 3 rfl b (fun _ n => jG rfl (kl n G bL aI)) (X 4 rfl b (jN k) (X 5 rfl b (jN rfl) (bS a fun B x a => XQ 6 rfl b (ot (enc := jH) (i := (I : Int)) (x0 := B) bF aI rfl rfl z (kj x) (kh x)) (fun Z H => XH 7 rfl b (fun _ n => jG rfl (kl n H bL aI)) (X 8 rfl b (GS rfl rfl (oQ fQ) (Dx (tk _ J B))) (kV kr (jQ (CI a rfl (fun D a => ?_) (fun D a => ?_)))))))))))))
  ·refine sg (Wa (lt (mn (kI (mn (kI ?_))))))
   obtain rfl := sj a
   exact rP d
  exact ll (kF (jQ ⟨l, _, ⟨rfl, o⟩, (d.jE St), j, k, (by rw [T]; exact a)⟩))
 rintro E W ⟨g, ⟨l, o⟩, d, j, k, a⟩
 rw [aP] at a
 exact jQ (sg (Wa (lt (rQ a d))))
theorem IG (a : lP) (z B J Z K Y : Value) (r : Bool) (w : World) (M : Sl ku 15 (hp w) z a.jI.jV) (N : Sl kW 8 (hp w) B a.jI.kx) (t : Sl (Pl jD) 9 (hp w) J a.jU) (I : Sl (Pl jD) 9 (hp w) Z a.Shown) (D : Sl (Pl jH) 2 (hp w) K a.kq) (H : Sl (Pl jH) 2 (hp w) Y a.lc) (hm : xW a = some r) :
  ki false Tryz.prog 218 [(.agg #[(.string a.jI.Name), z, B, (.string a.lG), (.int .i64 a.Room), J, Z, K, Y])] w (.bool r) := by
 refine cG 33 func218 rfl (fun h => sg ?_)
 obtain ⟨A1, c2, rfl⟩ := M.form
 obtain ⟨A3, c4, rfl⟩ := N.form
 obtain ⟨A5, A, rfl⟩ := t.form
 obtain ⟨A7, F, rfl⟩ := I.form
 obtain ⟨A9, a4, rfl⟩ := D.form
 obtain ⟨a3, a5, rfl⟩ := H.form
 let a0 := (C3 a.jI.Name A1 a.jI.jV.length c2 A3 a.jI.kx.length c4 a.lG a.Room A5 a.jU.length A A7 a.Shown.length F A9 a.kq.length a4 a3 a.lc.length a5)
 refine VE (kH h rfl (fun i8 q h => Wa (ln (jX ?_))))
 replace h := h.drew
 have d := h.has.jE (Kb Sn)
 refine kM d ko (X 0 rfl d (jM AI rfl) (XH 1 rfl d (fun _ l => jG rfl (jS l Mh rfl eB)) (X 3 rfl d (jM AI rfl) (XH 4 rfl d (fun _ l => jG rfl (jS l Mh rfl eB)) (bS hm fun f5 e4 hm => XE 2 rfl (sG h call116 (vv (.slice A5 a.jU.length A) a.jU _ _ (t.mono (Pl.mono _) h.jJ) e4) (fun h2 f9 d2 g8 h c L d7 => ?_)))))))
 have d := h.has.oA c (Dr (Kb Sn))
 refine ⟨d, (bS hm fun i1 e5 hm => XE 5 rfl (Eg h call313 (ki.lD (uG f9 f5 (.slice A5 a.jU.length A) a.jU _ _ (d7.sl lm (fun b o m => h.at_ (Ml m))) (t.mono (Pl.mono _) (c.trans h.jJ)) e5)) (fun h3 h => ?_)))⟩
 have d := h.has.oA c (Dr (Kb Sn))
 refine ⟨d, (X 6 rfl d (jN rfl) (PJ hm (fun d1 E W => ∃ n b7, kf d2 n ∧ ST false kQ w W n ((q, Ol a0 160) :: b7) ∧ E 1 = (.pointer (some ⟨q, 0, none⟩)) ∧ E 2 = (.bool false) ∧ E 16 = (.bool d1)) (bm 31 16383) 17 ?_ (fun d1 y b0 => ?_)))⟩
 ·rintro i5 E W ⟨n, b7, k, h, s, c1, f2⟩ e1
  have d := h.has.oA (c.trans k) (Kb Sn)
  refine X 14 rfl d (jN f2) (PJ e1 (fun d0 E W => ∃ a2 b9, kf n a2 ∧ ST false kQ w W a2 ((q, Ol a0 160) :: b9) ∧ E 1 = (.pointer (some ⟨q, 0, none⟩)) ∧ E 2 = (.bool false) ∧ E 24 = (.bool d0)) (bm 31 4194303) 9 ?_ (fun d0 x a9 => ?_))
  ·rintro i6 E W ⟨a2, b9, G, h, c3, c5, f3⟩ e2
   have d := h.has.oA ((c.trans k).trans G) (Kb Sn)
   refine X 22 rfl d (jN f3) (PJ e2 (fun c9 E W => ∃ v c0, kf a2 v ∧ ST false kQ w W v ((q, Ol a0 160) :: c0) ∧ E 2 = (.bool false) ∧ E 32 = (.bool c9)) (bm 31 1073741823) 1 ?_ (fun c9 u a8 => ?_))
   ·rintro i7 E W ⟨v, c0, c7, h, i0, f4⟩ e3
    have d := h.has.oA (((c.trans k).trans G).trans c7) (Kb Sn)
    refine X 30 rfl d (nU f4) (kV kr (jQ ?_))
    exact kB (rQ e3 h)
   refine bC u (fun j u => ?_) (fun j u => ?_)
   ·refine Xg 23 rfl rfl (cB j) d (jM FG c3) (ri 24 rfl rfl (cB j) d (fun _ l => jG rfl (jS l Mh rfl gz)) (Xg 26 rfl rfl (cB j) d (jM FG c3) (ri 27 rfl rfl (cB j) d (fun _ l => jG rfl (jS l Mh rfl gz)) (bS u fun f6 e6 u => xC 25 rfl rfl (cB j) (sG h call315 (Bp (.slice a3 a.lc.length a5) a.lc _ _ (H.mono (Pl.mono _) (((c.trans k).trans G).trans h.jJ)) e6) (fun h4 g0 g3 g9 h Q O d8 => ?_))))))
    have d := h.has.oA (((c.trans k).trans G).trans Q) (Dr (Kb Sn))
    refine ⟨d, (bS u fun i2 e7 u => xC 28 rfl rfl (cB j) (Eg h call314 (ki.lD (sD g0 f6 (.slice a3 a.lc.length a5) a.lc _ _ (d8.sl mY (fun b o m => h.at_ (Ml m))) (H.mono (Pl.mono _) ((((c.trans k).trans G).trans Q).trans h.jJ)) e7)) (fun h5 h => ?_)))⟩
    have d := h.has.oA (((c.trans k).trans G).trans Q) (Dr (Kb Sn))
    refine ⟨d, (X 29 rfl d (kd (cB j) rfl) ?_)⟩
    obtain rfl := sj u
    refine lU kr (a8 _ _ ⟨g3, _, Q, (h.jE (Dr St)), c5, rfl⟩)
   refine Xn 23 rfl rfl (cB j) d (Xn 24 rfl rfl (cB j) d (Xn 25 rfl rfl (cB j) d (Xn 26 rfl rfl (cB j) d (Xn 27 rfl rfl (cB j) d (Xn 28 rfl rfl (cB j) d (X 29 rfl d (ke (cB j) rfl) ?_))))))
   obtain rfl := sj u
   refine lU kr (a8 _ _ ⟨a2, _, (kf.refl _), (h.jE St), c5, rfl⟩)
  refine bC x (fun i x => ?_) (fun i x => ?_)
  ·refine Xg 15 rfl rfl (cB i) d (jM FX s) (ri 16 rfl rfl (cB i) d (fun _ l => jG rfl (jS l Mh rfl gz)) (Xg 18 rfl rfl (cB i) d (jM FX s) (ri 19 rfl rfl (cB i) d (fun _ l => jG rfl (jS l Mh rfl gz)) (bS x fun f7 e8 x => xC 17 rfl rfl (cB i) (sG h call315 (Bp (.slice A9 a.kq.length a4) a.kq _ _ (D.mono (Pl.mono _) ((c.trans k).trans h.jJ)) e8) (fun h6 g1 g4 h0 h T P d9 => ?_))))))
   have d := h.has.oA ((c.trans k).trans T) (Dr (Kb Sn))
   refine ⟨d, (bS x fun i3 e9 x => xC 20 rfl rfl (cB i) (Eg h call314 (ki.lD (sD g1 f7 (.slice A9 a.kq.length a4) a.kq _ _ (d9.sl mY (fun b o m => h.at_ (Ml m))) (D.mono (Pl.mono _) (((c.trans k).trans T).trans h.jJ)) e9)) (fun h7 h => ?_)))⟩
   have d := h.has.oA ((c.trans k).trans T) (Dr (Kb Sn))
   refine ⟨d, (X 21 rfl d (kd (cB i) rfl) ?_)⟩
   obtain rfl := sj x
   refine lU kr (a9 _ _ ⟨g4, _, T, (h.jE (Dr St)), s, c1, rfl⟩)
  refine Xn 15 rfl rfl (cB i) d (Xn 16 rfl rfl (cB i) d (Xn 17 rfl rfl (cB i) d (Xn 18 rfl rfl (cB i) d (Xn 19 rfl rfl (cB i) d (Xn 20 rfl rfl (cB i) d (X 21 rfl d (ke (cB i) rfl) ?_))))))
  obtain rfl := sj x
  refine lU kr (a9 _ _ ⟨n, _, (kf.refl _), (h.jE St), s, c1, rfl⟩)
 refine bC y (fun g y => ?_) (fun g y => ?_)
 ·refine Xg 7 rfl rfl (cB g) d (jM wN rfl) (ri 8 rfl rfl (cB g) d (fun _ l => jG rfl (jS l Mh rfl eB)) (Xg 10 rfl rfl (cB g) d (jM wN rfl) (ri 11 rfl rfl (cB g) d (fun _ l => jG rfl (jS l Mh rfl eB)) (bS y fun f8 f0 y => xC 9 rfl rfl (cB g) (sG h call116 (vv (.slice A7 a.Shown.length F) a.Shown _ _ (I.mono (Pl.mono _) (c.trans h.jJ)) f0) (fun h8 g2 g7 h1 h U R e0 => ?_))))))
  have d := h.has.oA (c.trans U) (Dr (Dr (Kb Sn)))
  refine ⟨d, (bS y fun i4 f1 y => xC 12 rfl rfl (cB g) (Eg h call313 (ki.lD (uG g2 f8 (.slice A7 a.Shown.length F) a.Shown _ _ (e0.sl lm (fun b o m => h.at_ (Ml m))) (I.mono (Pl.mono _) ((c.trans U).trans h.jJ)) f1)) (fun h9 h => ?_)))⟩
  have d := h.has.oA (c.trans U) (Dr (Dr (Kb Sn)))
  refine ⟨d, (X 13 rfl d (kd (cB g) rfl) ?_)⟩
  obtain rfl := sj y
  refine lU kr (b0 _ _ ⟨g7, _, U, (h.jE (Dr (Dr St))), rfl, rfl, rfl⟩)
 refine Xn 7 rfl rfl (cB g) d (Xn 8 rfl rfl (cB g) d (Xn 9 rfl rfl (cB g) d (Xn 10 rfl rfl (cB g) d (Xn 11 rfl rfl (cB g) d (Xn 12 rfl rfl (cB g) d (X 13 rfl d (ke (cB g) rfl) ?_))))))
 obtain rfl := sj y
 refine lU kr (b0 _ _ ⟨d2, _, (kf.refl _), (h.jE (Dr St)), rfl, rfl, rfl⟩)
theorem yD (a : Value) (g : List jA) (c : Value) (i : jA → Option Bool) (r : Bool) (w : World) (j : Sl (Pl jD) 9 (hp w) a g) (k : wL Tryz.prog c (hp w) (fun (x : jA) => [(.agg (jD x).toArray)]) (fun (r : Bool) => (.bool r)) i) (hm : pz g i = some r) :
  ki false Tryz.prog 219 [a, c] w (.bool r) := by
 refine cG 9 func219 rfl (fun b => sg (Wa (lr (Wm (Wm (bS hm fun y t hm => VE (Eg b call260 (vN a g c i _ _ (j.mono (Pl.mono _) b.jJ) (k.mono b.jJ) t) (fun u b => Wi rfl (Wa (ky ?_))))))))))
 exact jQ (kB (rQ hm b))
theorem ET (Q : jA) (T : Nat) (g : ByteArray) (a : Value) (i : List kw) (c : Value) (j : List ml) (J : ByteArray) (K : Int) (t : Value) (u : List jA) (D : Value) (I : List jA) (x : Value) (G : List jB) (B : Value) (H : List jB) (r : Bool) (w : World) (y : Sl ku 15 (hp w) a i) (z : Sl kW 8 (hp w) c j) (N : Sl (Pl jD) 9 (hp w) t u) (o : Sl (Pl jD) 9 (hp w) D I) (U : Sl (Pl jH) 2 (hp w) x G) (Z : Sl (Pl jH) 2 (hp w) B H) (Y : At (hp w) (.pointer (some ⟨T, 0, none⟩)) [(.string g), a, c, (.string J), (.int .i64 K), t, D, x, B]) (hm : sP Q g i j J K u I G H = some r) :
  ki true Tryz.prog 220 [(.agg (jD Q).toArray), (.pointer (some ⟨T, 0, none⟩))] w (.bool r) := by
 refine cG 15 func220 rfl (fun b => sg (VE (kH b rfl (fun W2 v b => Wa (lr (VQ (tY [(.string g), a, c] wP rfl Y rfl) (fun P h => V (jG rfl (kl b.has h ez dS)) (VA b Mh (jD Q) bR aH (bS hm fun k l hm => ?_)))))))))
 let a0 := (((k.1).jA).Head)
 refine VE (eD b (bT _) call221 (fun m => (xX (⟨g, i, j⟩ : jI) a c Q _ _ m (y.mono kT.mono (kf.refl _)) (z.mono mz.mono (kf.refl _)) l)) ?_ (L0 := []))
 rintro _ L n a9 b q d ⟨O, M, rfl, a5⟩
 obtain rfl := M.symm
 refine Wm (Wx rfl (Wx rfl (VE (kv b dH (fun s F b => ?_)))))
 obtain ⟨a2, a3, rfl⟩ := a5.form
 refine VO (jY (.agg #[(.int .i64 (((k.1).jA).Kind)), (.string (a0.jF)), (.string (a0.jK)), (.string (((k.1).jA).kA)), (.string ((((k.1).jA).B).jF)), (.string ((((k.1).jA).B).jK)), (.string ((((k.1).jA).C).jF)), (.string ((((k.1).jA).C).jK)), (.string (((k.1).jA).kz)), (.slice a2 ((k.1).Tag).length a3)]) (#[(.int .i64 (((k.1).jA).Kind)), (.string (a0.jF)), (.string (a0.jK)), (.string (((k.1).jA).kA)), (.string ((((k.1).jA).B).jF)), (.string ((((k.1).jA).B).jK)), (.string ((((k.1).jA).C).jF)), (.string ((((k.1).jA).C).jK)), (.string (((k.1).jA).kz)), (.slice a2 ((k.1).Tag).length a3)]) b rfl rfl dm oc nb rfl (fun A b => Wa (ln ?_)))
 replace b := b.jE (Db (Db St))
 exact sg (Wm (V (mC rfl) (Wa (lt (rQ hm b)))))
theorem CG (a : lP) (t u H T J Q : Value) (r : Bool) (w : World) (c : Sl ku 15 (hp w) t a.jI.jV) (g : Sl kW 8 (hp w) u a.jI.kx) (i : Sl (Pl jD) 9 (hp w) H a.jU) (j : Sl (Pl jD) 9 (hp w) T a.Shown) (y : Sl (Pl jH) 2 (hp w) J a.kq) (z : Sl (Pl jH) 2 (hp w) Q a.lc) (hm : vi a = some r) :
  ki false Tryz.prog 110 [(.agg #[(.string a.jI.Name), t, u, (.string a.lG), (.int .i64 a.Room), H, T, J, Q])] w (.bool r) := by
 refine cG 33 func110 rfl (fun b => sg ?_)
 obtain ⟨A1, c2, rfl⟩ := c.form
 let a4 : Value := (.slice A1 a.jI.jV.length c2)
 obtain ⟨A3, q, rfl⟩ := g.form
 let a5 : Value := (.slice A3 a.jI.kx.length q)
 obtain ⟨A5, s, rfl⟩ := i.form
 obtain ⟨A7, c8, rfl⟩ := j.form
 let l : Value := (.slice A7 a.Shown.length c8)
 obtain ⟨A9, Y, rfl⟩ := y.form
 obtain ⟨U, Z, rfl⟩ := z.form
 let a0 := (C3 a.jI.Name A1 a.jI.jV.length c2 A3 a.jI.kx.length q a.lG a.Room A5 a.jU.length s A7 a.Shown.length c8 A9 a.kq.length Y U a.lc.length Z)
 refine VE (kH b rfl (fun e5 I b => Wa (lS (Wf wP (VA b Mh (C8 a.jI.Name A1 a.jI.jV.length c2 A3 a.jI.kx.length q) ez dS (bS hm fun f0 d7 hm => VE (Eg b call103 (B9 a.jI a4 a5 _ _ (c.mono kT.mono b.jJ) (g.mono mz.mono b.jJ) d7) (fun e6 b => Wi rfl (Wm (LJ hm (fun d2 E W => ∃ O, ST false kQ w W (hp w) ((I, Ol a0 160) :: O) ∧ E 1 = (.pointer (some ⟨I, 0, none⟩)) ∧ E 12 = (.bool d2)) 5 ?_ (fun d2 N L => ?_)))))))))))
 ·let a3 : Value := (.pointer (some ⟨I, 0, none⟩))
  rintro f4 E W ⟨O, b, m, e1⟩ d4
  refine Wh e1 (LJ d4 (fun d1 E W => ∃ c1, ST false kQ w W (hp w) ((I, Ol a0 160) :: c1) ∧ E 1 = a3 ∧ E 17 = (.bool d1)) 4 ?_ (fun d1 a2 F => ?_))
  ·rintro f5 E W ⟨c1, b, n, e2⟩ d5
   refine Wh e2 (LJ d5 (fun d0 E W => ∃ P, ST false kQ w W (hp w) ((I, Ol a0 160) :: P) ∧ E 1 = a3 ∧ E 22 = (.bool d0)) 4 ?_ (fun d0 h A => ?_))
   ·rintro f6 E W ⟨P, b, o, e3⟩ d6
    refine Wh e3 (LJ d6 (fun c9 E W => ∃ R, ST false kQ w W (hp w) ((I, Ol a0 160) :: R) ∧ E 1 = a3 ∧ E 27 = (.bool c9)) 4 ?_ (fun c9 M v => ?_))
    ·rintro f7 E W ⟨R, b, c7, e4⟩ K
     refine ln (CI K e4 (fun d3 K => ?_) (fun d3 K => ?_))
     ·refine sg (Wa (ln ?_))
      replace b := b.jE (Db St)
      refine kB (kI ?_)
      obtain rfl := sj K
      exact rP b
     refine kg (V (jM wN c7) (VB b Mh rfl rfl eB (V (qX (by exact tD c7) rfl) (bS K fun f1 d8 K => VE (Eg b call219 (yD l a.Shown (.func (.func 220) #[] #[a3]) (fun (x : jA) => sP x a.jI.Name a.jI.jV a.jI.kx a.lG a.Room a.jU a.Shown a.kq a.lc) _ _ (j.mono (Pl.mono _) b.jJ) ⟨220, #[], #[a3], rfl, call220, fun W x r d hm => (ET x I a.jI.Name a4 a.jI.jV a5 a.jI.kx a.lG a.Room (.slice A5 a.jU.length s) a.jU l a.Shown (.slice A9 a.kq.length Y) a.kq (.slice U a.lc.length Z) a.lc r W (c.mono kT.mono (b.jJ.trans d)) (g.mono mz.mono (b.jJ.trans d)) (i.mono (Pl.mono _) (b.jJ.trans d)) (j.mono (Pl.mono _) (b.jJ.trans d)) (y.mono (Pl.mono _) (b.jJ.trans d)) (z.mono (Pl.mono _) (b.jJ.trans d)) (At.of (d _ _ (b.at_ Mh)) _ rfl) hm).lD⟩ d8) (fun e7 b => V (mC rfl) (Wa (ln ?_))))))))
     exact kB (rQ K b)
    refine bC M (fun G M => ?_) (fun G M => ?_)
    ·refine un G (un G (un G (V (kd (cB G) rfl) ?_)))
     obtain rfl := sj M
     exact v _ _ ⟨_, (b.jE St), o, rfl⟩
    refine ug G (jG o (jO b.has Mh a0 rfl ew dN)) (bS M fun f2 d9 M => rl G (Eg b call218 (IG a a4 a5 (.slice A5 a.jU.length s) l (.slice A9 a.kq.length Y) (.slice U a.lc.length Z) _ _ (c.mono kT.mono b.jJ) (g.mono mz.mono b.jJ) (i.mono (Pl.mono _) b.jJ) (j.mono (Pl.mono _) b.jJ) (y.mono (Pl.mono _) b.jJ) (z.mono (Pl.mono _) b.jJ) d9) (fun e8 b => ug G (mC rfl) (V (ke (cB G) rfl) ?_))))
    obtain rfl := sj M
    exact v _ _ ⟨_, (b.jE St), o, rfl⟩
   refine bC h (fun D h => ?_) (fun D h => ?_)
   ·refine un D (un D (un D (V (kd (cB D) rfl) ?_)))
    obtain rfl := sj h
    exact A _ _ ⟨_, (b.jE St), n, rfl⟩
   refine ug D (jM Jg n) (ug D (jG rfl (jS b.has Mh rfl cL)) (ug D (kL rfl rfl rfl) (V (ke (cB D) rfl) ?_)))
   obtain rfl := sj h
   exact A _ _ ⟨_, (b.jE St), n, rfl⟩
  refine bC a2 (fun B a2 => ?_) (fun B a2 => ?_)
  ·refine un B (un B (un B (V (kd (cB B) rfl) ?_)))
   obtain rfl := sj a2
   exact F _ _ ⟨_, (b.jE St), m, rfl⟩
  refine ug B (jM Jg m) (ug B (jG rfl (jS b.has Mh rfl cL)) (ug B (kL rfl rfl rfl) (V (ke (cB B) rfl) ?_)))
  obtain rfl := sj a2
  exact F _ _ ⟨_, (b.jE St), m, rfl⟩
 refine bC N (fun k N => ?_) (fun k N => ?_)
 ·refine un k (un k (un k (un k (V (kd (cB k) rfl) ?_))))
  obtain rfl := sj N
  exact L _ _ ⟨_, (b.jE St), rfl, rfl⟩
 refine ug k (jM Dv rfl) (ug k (jG rfl (jS b.has Mh rfl bZ)) (bS N fun f3 e0 N => rl k (Eg b iN (ki.lD (qk a.lG _ _  e0)) (fun e9 b => ug k (mC rfl) (V (ke (cB k) rfl) ?_)))))
 obtain rfl := sj N
 exact L _ _ ⟨_, (b.jE St), rfl, rfl⟩
theorem J1 (a : vo) (k j : Value) (r : vo) (w : World) {J : km} (O : ni J [] w) (i : Sl (Pl jH) 2 J k a.oF) (g : Sl lL 10 J j a.ns) (hm : BS a = some r) :
  lM true Tryz.prog 224 [(.agg #[(.int .i64 a.Kind), (.int .i64 a.qN), (.int .i64 a.E), (.string a.Name), k, j])] w J [] (fun v L1 μ1 => ∃ A F, v = (.agg #[(.int .i64 ((r).Kind)), (.int .i64 ((r).qN)), (.int .i64 ((r).E)), (.string ((r).Name)), A, F]) ∧ L1 = [] ∧ Sl (Pl jH) 2 μ1 A ((r).oF) ∧ Sl lL 10 μ1 F ((r).ns)) := by
 let h : Value := (.int .i64 a.Kind)
 refine sO O 31 func224 rfl (fun b => sg ?_)
 obtain ⟨N, Q, rfl⟩ := i.form
 let m : Value := (.slice N a.oF.length Q)
 obtain ⟨Y, Z, rfl⟩ := g.form
 let n : Value := (.slice Y a.ns.length Z)
 refine VE (kH b rfl (fun W6 P b => VE (kv b ee (fun W8 q b => lr (Wf xa (VB b (Mt Mh) rfl rfl cL (V (ma (v := (.agg (Ow a.Kind).toArray)) (mQ rfl) (ly ee dA (GW _ dA) kr)) (VE (kv b ee (fun R s b => VO (jY (.agg (Ow a.Kind).toArray) ((Ow a.Kind).toArray) b rfl rfl dT oc nb rfl (fun c0 b => ln (jX (CJ hm (fun t E W => ∃ K M o, ST true (keys []) w W J ((s, Ob #[h, (.int .i64 t.1), (.int .i64 t.2.1), (.string t.2.2.1), K, M] 164) :: ((q, Ol Cw 164) :: o)) ∧ E 2 = (.pointer (some ⟨q, 0, none⟩)) ∧ E 3 = (.pointer (some ⟨s, 0, none⟩)) ∧ Sl (Pl jH) 2 J K t.2.2.2.1 ∧ Sl lL 10 J M t.2.2.2.2) (fun t c => ?_) ?_))))))))))))))
 ·refine sg (Wf xa (VB b (Mt (Mt Mh)) rfl rfl cL (ln (bg (Wi rfl (Wa (ln (CI c rfl (fun a3 c => ?_) (fun a3 c => ?_)))))))))
  ·replace b := b.drew
   have d := b.has.jE (Db (Db (Kb Sn)))
   refine kM d ko (X 0 rfl d (jM AU rfl) (XH 1 rfl d (fun _ l => jG rfl (jS l Mh rfl bZ)) (X 2 rfl d (jM yZ rfl) (XH 3 rfl d (fun _ l => jG rfl (jS l Mh rfl cL)) (X 4 rfl d (jM AU rfl) (XO 5 rfl (jY (.string a.Name) (#[h, (.int .i64 0), (.int .i64 0), (.string a.Name), (.slice none 0 0), (.slice none 0 0)]) b rfl rfl fG (Ms a.Name) nb rfl (fun c3 b => ?_))))))))
   have d := b.has.jE (Db (Db (Kb Sn)))
   refine ⟨d, (X 6 rfl d (jM yZ rfl) (XO 7 rfl (jY (.int .i64 a.qN) (#[h, (.int .i64 a.qN), (.int .i64 0), (.string a.Name), (.slice none 0 0), (.slice none 0 0)]) b rfl rfl fH (Aq _ a.qN) nb rfl (fun c5 b => ?_))))⟩
   have d := b.has.jE (Db (Db (Kb Sn)))
   refine ⟨d, (kV kr (kF (jQ ?_)))⟩
   obtain rfl := sj c
   exact ⟨(.slice none 0 0), (.slice none 0 0), _, (b.jE (Kb (Kb (Db St)))), rfl, rfl, (Sl.nil _ _ _), (Sl.nil _ _ _)⟩
  refine sg (Wi rfl (Wa (ln (CI c rfl (fun a4 c => ?_) (fun a4 c => ?_)))))
  ·replace b := b.drew
   have d := b.has.jE (Db (Db (Kb Sn)))
   refine kM d ko (X 0 rfl d (jM yY rfl) (XH 1 rfl d (fun _ l => jG rfl (jS l Mh rfl gz)) (X 2 rfl d (jM wU rfl) (XH 3 rfl d (fun _ l => jG rfl (jS l Mh rfl jz)) (X 4 rfl d (jM yY rfl) (XO 5 rfl (jY m (#[h, (.int .i64 0), (.int .i64 0), (.string zS), m, (.slice none 0 0)]) b rfl rfl sizeOf34 oc nb rfl (fun c6 b => ?_))))))))
   have d := b.has.jE (Db (Db (Kb Sn)))
   refine ⟨d, (X 6 rfl d (jM wU rfl) (XO 7 rfl (jY n (#[h, (.int .i64 0), (.int .i64 0), (.string zS), m, n]) b rfl rfl sizeOf50 oc nb rfl (fun c7 b => ?_))))⟩
   have d := b.has.jE (Db (Db (Kb Sn)))
   refine ⟨d, (kV kr (kF (jQ ?_)))⟩
   obtain rfl := sj c
   exact ⟨m, n, _, (b.jE (Kb (Kb (Db St)))), rfl, rfl, i, g⟩
  refine sg (Wi rfl (Wa (ln (CI c rfl (fun a5 c => ?_) (fun a5 c => ?_)))))
  ·refine jW (Wf yV (VB b (Mt (Mt Mh)) rfl rfl cL (Wf yV (VO (jY (.int .i64 a.E) (#[h, (.int .i64 0), (.int .i64 a.E), (.string zS), (.slice none 0 0), (.slice none 0 0)]) b rfl rfl fH (Aq _ a.E) nb rfl (fun c8 b => ky (kF (jQ ?_))))))))
   obtain rfl := sj c
   exact ⟨(.slice none 0 0), (.slice none 0 0), _, (b.jE (Kb (Kb (Db St)))), rfl, rfl, (Sl.nil _ _ _), (Sl.nil _ _ _)⟩
  refine ll (kF (jQ ?_))
  obtain rfl := sj c
  exact ⟨(.slice none 0 0), (.slice none 0 0), _, (b.jE (Kb (Kb (Db St)))), rfl, rfl, (Sl.nil _ _ _), (Sl.nil _ _ _)⟩
 rintro ⟨G, H, I, B, D⟩ E W ⟨K, M, o, b, a2, a9, T, U⟩ L
 refine sg (V (jG a9 (jO b.has Mh [h, (.int .i64 G), (.int .i64 H), (.string I), K, M] rfl gl dT)) ?_)
 obtain ⟨u, y, rfl⟩ := T.form
 obtain ⟨x, z, rfl⟩ := U.form
 let a0 := (C9 a.Kind G H I u B.length y x D.length z)
 replace b := b.perm (Nb (Pb Pz) Nz)
 refine VO (jY (.agg a0.toArray) (a0.toArray) b a2 rfl dT oc nb rfl (fun c1 b => ln ?_))
 replace b := b.jE (Kb (Db St))
 refine kB ?_
 obtain rfl := sj L
 exact pc (v := (.agg a0.toArray)) rfl a2 (jO b.has Mh a0 rfl gl dT) ⟨_, _, _, rfl, (b.mg Sn), (kf.refl _), Lo.refl, (ST.kY b (mB.mem Sn)), (.slice u B.length y), (.slice x D.length z), rfl, rfl, T, U⟩
theorem qw (G : Value) (N : List Signed) (H : Value) (l : List Signed) (I : Value) (f2 : (Signed × Signed) → Option Bool) (r : Bool) (w : World) (x : Sl lL 10 (hp w) G N) (Q : Sl lL 10 (hp w) H l) (o : uK Tryz.prog I (hp w) (th lL lL) (fun (r : Bool) => (.bool r)) f2) (hm : lW N l f2 = some r) :
  ki false Tryz.prog 318 [G, H, I] w (.bool r) := by
 refine cG 32 func318 rfl (fun b => sg (Wa (lS (Wm (V (lf cZ rfl x) (Wm (V (lf cZ rfl Q) (Wi rfl (ky ?_)))))))))
 refine jQ (CI hm rfl (fun s hm => ?_) (fun s hm => ?_))
 ·refine sg (Wa (lt (kI ?_)))
  obtain rfl := sj hm
  exact rP b
 refine kS (Wm (V (lf cZ rfl x) (Wm (ln (li (fun i E W => ∃ y, (E 17 = .int .i64 (i : Nat) ∧ E 16 = .int .i64 (N.length : Nat)) ∧ ST false kQ w W (hp w) y ∧ E 1 = H ∧ E 2 = I ∧ E 15 = G ∧ kO l f2 (N.drop i) i = some r) N.length x.len ⟨_, ⟨rfl, rfl⟩, (b.jE St), rfl, rfl, rfl, hm⟩ dc dc dc (fun _ _ _ h => by obtain ⟨_, m, _⟩ := h; exact m) ?_ ?_)))))
 ·rintro a4 E W U ⟨y, ⟨d, n⟩, b, z, B, D, g⟩
  obtain ⟨c, c5, a9, q, a3⟩ := kP U
  rw [a9] at g
  refine bg (Wh d (VQ (mo (i := (a4 : Int)) (x0 := c) lL.out cZ dm D d x (aJ _) q) (fun b9 ⟨_, ⟨c2, rfl, J⟩, Y⟩ => V (jG rfl (kl b.has Y gx dm)) (VE (kv b dH (fun v P b => Wa ?_))))))
  obtain ⟨j, t, rfl⟩ := J.form
  let a0 := (C2 c.jA.Kind c.jA.Head.jF c.jA.Head.jK c.jA.kA c.jA.B.jF c.jA.B.jK c.jA.C.jF c.jA.C.jK c.jA.kz j c.Tag.length t)
  refine VO (jY (.agg a0.toArray) (a0.toArray) b rfl rfl dm oc nb rfl (fun A b => lr (Wh z (Wm (bS g fun a M g => VQ (mo (i := (a4 : Int)) (x0 := a) lL.out cZ dm rfl rfl Q (kj M) (kh M)) (fun c0 ⟨_, ⟨c3, rfl, K⟩, Z⟩ => V (jG rfl (kl b.has Z gx dm)) (VE (kv b dH (fun F R b => ?_)))))))))
  obtain ⟨k, u, rfl⟩ := K.form
  let a5 := (C2 a.jA.Kind a.jA.Head.jF a.jA.Head.jK a.jA.kA a.jA.B.jF a.jA.B.jK a.jA.C.jF a.jA.C.jK a.jA.kz k a.Tag.length u)
  refine VO (jY (.agg a5.toArray) (a5.toArray) b rfl rfl dm oc nb rfl (fun L b => lr (Wh B (VA b (Mt Mh) a0 gx dm (VA b Mh a5 gx dm (bS g fun c1 a2 g => VE (wu (c, a) b o (kf.refl _) (th.mk nC nC (lL.mk ⟨(.slice j c.Tag.length t), rfl, J⟩) (lL.mk ⟨(.slice k a.Tag.length u), rfl, K⟩) b.jJ) rfl (ua rfl rfl) a2 (fun O b => V (mC rfl) (ln ?_)))))))))
  replace b := b.jE (Db (Db St))
  refine CI g rfl (fun T g => ?_) (fun T g => ?_)
  ·refine sg (Wa (lt (mn (kI (mn (kI ?_))))))
   obtain rfl := sj g
   exact rP b
  exact ll (kF (jQ ⟨d, _, ⟨rfl, n⟩, (b.jE St), z, B, D, (by rw [a3]; exact g)⟩))
 rintro E W ⟨y, ⟨d, n⟩, b, z, B, D, g⟩
 rw [aP] at g
 exact jQ (sg (Wa (lt (rQ g b))))
theorem GJ (a : Value) (j : List Int) (c : Value) (k : List Int) (r : Bool) (w : World) (g : Sl (Pl (kU .u8)) 1 (hp w) a j) (i : Sl (Pl (kU .u8)) 1 (hp w) c k) (hm : yE j k = some r) :
  ki true Tryz.prog 271 [a, c] w (.bool r) := by
 refine cG 10 func271 rfl (fun b => sg (Wa (lr (Wm (V (Jj cJ gD bQ rfl (g.mono (Pl.mono _) b.jJ)) (Wm (V (Jj cJ gD bQ rfl (i.mono (Pl.mono _) b.jJ)) (V (JY rfl rfl rfl) (Wa (ky ?_))))))))))
 exact jQ (kB (rQ hm b))
theorem EB (a : Signed) (t : Value) (c : Signed) (u : Value) (r : Bool) (w : World) (j : Sl (Pl (kU .u8)) 1 (hp w) t a.Tag) (k : Sl (Pl (kU .u8)) 1 (hp w) u c.Tag) (hm : sx a c = some r) :
  ki true Tryz.prog 319 [(.agg #[(.int .i64 a.jA.Kind), (.string a.jA.Head.jF), (.string a.jA.Head.jK), (.string a.jA.kA), (.string a.jA.B.jF), (.string a.jA.B.jK), (.string a.jA.C.jF), (.string a.jA.C.jK), (.string a.jA.kz), t]), (.agg #[(.int .i64 c.jA.Kind), (.string c.jA.Head.jF), (.string c.jA.Head.jK), (.string c.jA.kA), (.string c.jA.B.jF), (.string c.jA.B.jK), (.string c.jA.C.jF), (.string c.jA.C.jK), (.string c.jA.kz), u])] w (.bool r) := by
 refine cG 17 func319 rfl (fun b => sg ?_)
 obtain ⟨G, I, rfl⟩ := j.form
 refine VE (kH b rfl (fun U Z b => ?_))
 obtain ⟨H, J, rfl⟩ := k.form
 refine VE (kH b rfl (fun Y d b => Wa (lr (Wf rM (VA b (Mt Mh) (jD a.jA) bR aH (Wf rM (VA b Mh (jD c.jA) bR aH (V (xg rfl rfl (oQ eG) (tR (tp _ a.jA c.jA))) (Wm (LJ hm (fun z E W => ∃ y, ST true kQ w W (hp w) y ∧ E 4 = (.bool false) ∧ E 16 = (.bool z)) 6 ?_ (fun z i x => ?_)))))))))))
 ·rintro T E W ⟨y, b, N, K⟩ B
  exact Wg K (lt (rQ B b))
 refine bC i (fun g i => ?_) (fun g i => ?_)
 ·refine ug g (jM Bm rfl) (ug g (jG rfl (jS b.has (Mt Mh) rfl gw)) (ug g (jM Bm rfl) (ug g (jG rfl (jS b.has Mh rfl gw)) (bS i fun Q D i => rl g (Eg b call271 (GJ (.slice G a.Tag.length I) a.Tag (.slice H c.Tag.length J) c.Tag _ _ (j.mono (Pl.mono _) b.jJ) (k.mono (Pl.mono _) b.jJ) D) (fun M b => V (kd (cB g) rfl) ?_))))))
  obtain rfl := sj i
  exact x _ _ ⟨_, (b.jE (Db (Db St))), rfl, rfl⟩
 refine un g (un g (un g (un g (un g (V (ke (cB g) rfl) ?_)))))
 obtain rfl := sj i
 exact x _ _ ⟨_, (b.jE (Db (Db St))), rfl, rfl⟩
theorem Kj (a : vo) (I H : Value) (c : vo) (K J : Value) (r : Bool) (w : World) (B : Sl (Pl jH) 2 (hp w) I a.oF) (z : Sl lL 10 (hp w) H a.ns) (G : Sl (Pl jH) 2 (hp w) K c.oF) (D : Sl lL 10 (hp w) J c.ns) (hm : yN a c = some r) :
  ki false Tryz.prog 223 [(.agg #[(.int .i64 a.Kind), (.int .i64 a.qN), (.int .i64 a.E), (.string a.Name), I, H]), (.agg #[(.int .i64 c.Kind), (.int .i64 c.qN), (.int .i64 c.E), (.string c.Name), K, J])] w (.bool r) := by
 refine cG 47 func223 rfl (fun b => sg ?_)
 obtain ⟨A1, c2, rfl⟩ := B.form
 obtain ⟨A3, F, rfl⟩ := z.form
 let a0 := (C9 a.Kind a.qN a.E a.Name A1 a.oF.length c2 A3 a.ns.length F)
 refine VE (kH b rfl (fun W6 Y b => ?_))
 obtain ⟨A7, R, rfl⟩ := G.form
 obtain ⟨A9, U, rfl⟩ := D.form
 let d := (C9 c.Kind c.qN c.E c.Name A7 c.oF.length R A9 c.ns.length U)
 refine VE (kH b rfl (fun f1 M b => Wa (lr (Wf xa (VB b (Mt Mh) rfl rfl cL (Wf xa (VB b Mh rfl rfl cL (Wi rfl (Wm (LJ hm (fun d3 E W => ∃ c1, ST false kQ w W (hp w) ((M, Ol d 164) :: ((Y, Ol a0 164) :: c1)) ∧ E 2 = (.pointer (some ⟨Y, 0, none⟩)) ∧ E 3 = (.pointer (some ⟨M, 0, none⟩)) ∧ E 17 = (.bool d3)) 6 ?_ (fun d3 T a5 => ?_)))))))))))
 ·let l : Value := (.pointer (some ⟨M, 0, none⟩))
  let h : Value := (.pointer (some ⟨Y, 0, none⟩))
  rintro f6 E W ⟨c1, b, m, n, e1⟩ d4
  refine Wh e1 (LJ d4 (fun d2 E W => ∃ A, ST false kQ w W (hp w) ((M, Ol d 164) :: ((Y, Ol a0 164) :: A)) ∧ E 2 = h ∧ E 3 = l ∧ E 24 = (.bool d2)) 6 ?_ (fun d2 Q a4 => ?_))
  ·rintro f7 E W ⟨A, b, o, q, e2⟩ d5
   refine Wh e2 (LJ d5 (fun d1 E W => ∃ L, ST false kQ w W (hp w) ((M, Ol d 164) :: ((Y, Ol a0 164) :: L)) ∧ E 2 = h ∧ E 3 = l ∧ E 31 = (.bool d1)) 6 ?_ (fun d1 N a3 => ?_))
   ·rintro f8 E W ⟨L, b, s, v, e3⟩ d6
    refine Wg e3 (lr (Wm (Wm (LJ d6 (fun d0 E W => ∃ O, ST false kQ w W (hp w) ((M, Ol d 164) :: ((Y, Ol a0 164) :: O)) ∧ E 2 = h ∧ E 3 = l ∧ E 39 = (.bool d0)) 6 ?_ (fun d0 y a2 => ?_)))))
    ·rintro f9 E W ⟨O, b, e4, e5, e6⟩ d7
     refine Wh e6 (LJ d7 (fun c9 E W => ∃ P, ST false kQ w W (hp w) P ∧ E 46 = (.bool c9)) 6 ?_ (fun c9 u Z => ?_))
     ·rintro g0 E W ⟨P, b, e7⟩ d8
      exact Wg e7 (lt (rQ d8 b))
     refine bC u (fun t u => ?_) (fun t u => ?_)
     ·refine ug t (jM wU e4) (ug t (jG rfl (jS b.has (Mt Mh) rfl jz)) (ug t (jM wU e5) (ug t (jG rfl (jS b.has Mh rfl jz)) (bS u fun f4 d9 u => rl t (Eg b call318 (qw (.slice A3 a.ns.length F) a.ns (.slice A9 c.ns.length U) c.ns (.func (.func 319) #[] #[]) (fun (x : (Signed × Signed)) => sx x.1 x.2) _ _ (z.mono nC.mono b.jJ) (D.mono nC.mono b.jJ) ⟨319, #[], #[], rfl, call319, fun W x vs r hs hR hm => by obtain ⟨_, _, rfl, e8, e9⟩ := hR; obtain ⟨u0, rfl, k0⟩ := e8.out; obtain ⟨t0, rfl, j0⟩ := e9.out; exact (EB x.1 u0 x.2 t0 r W k0 j0 hm).lD⟩ d9) (fun f2 b => V (kd (cB t) rfl) ?_))))))
      obtain rfl := sj u
      exact Z _ _ ⟨_, (b.jE (Db (Db St))), rfl⟩
     refine un t (un t (un t (un t (un t (V (ke (cB t) rfl) ?_)))))
     obtain rfl := sj u
     exact Z _ _ ⟨_, (b.jE (Db (Db St))), rfl⟩
    refine bC y (fun k y => ?_) (fun k y => ?_)
    ·refine ug k (jM yY s) (ug k (jG rfl (jS b.has (Mt Mh) rfl gz)) (ug k (jM yY v) (ug k (jG rfl (jS b.has Mh rfl gz)) (bS y fun f5 e0 y => rl k (Eg b call314 (ki.lD (sD (.slice A1 a.oF.length c2) a.oF (.slice A7 c.oF.length R) c.oF _ _ (B.mono (Pl.mono _) b.jJ) (G.mono (Pl.mono _) b.jJ) e0)) (fun f3 b => V (kd (cB k) rfl) ?_))))))
     obtain rfl := sj y
     exact a2 _ _ ⟨_, (b.jE St), s, v, rfl⟩
    refine un k (un k (un k (un k (un k (V (ke (cB k) rfl) ?_)))))
    obtain rfl := sj y
    exact a2 _ _ ⟨_, (b.jE St), s, v, rfl⟩
   refine bC N (fun j N => ?_) (fun j N => ?_)
   ·refine ug j (jM AU o) (ug j (jG rfl (jS b.has (Mt Mh) rfl bZ)) (ug j (jM AU q) (ug j (jG rfl (jS b.has Mh rfl bZ)) (ug j (JY rfl rfl rfl) (V (kd (cB j) rfl) ?_)))))
    obtain rfl := sj N
    exact a3 _ _ ⟨_, (b.jE St), o, q, rfl⟩
   refine un j (un j (un j (un j (un j (V (ke (cB j) rfl) ?_)))))
   obtain rfl := sj N
   exact a3 _ _ ⟨_, (b.jE St), o, q, rfl⟩
  refine bC Q (fun i Q => ?_) (fun i Q => ?_)
  ·refine ug i (jM yV m) (ug i (jG rfl (jS b.has (Mt Mh) rfl cL)) (ug i (jM yV n) (ug i (jG rfl (jS b.has Mh rfl cL)) (ug i (kL rfl rfl rfl) (V (kd (cB i) rfl) ?_)))))
   obtain rfl := sj Q
   exact a4 _ _ ⟨_, (b.jE St), m, n, rfl⟩
  refine un i (un i (un i (un i (un i (V (ke (cB i) rfl) ?_)))))
  obtain rfl := sj Q
  exact a4 _ _ ⟨_, (b.jE St), m, n, rfl⟩
 refine bC T (fun g T => ?_) (fun g T => ?_)
 ·refine ug g (jM yZ rfl) (ug g (jG rfl (jS b.has (Mt Mh) rfl cL)) (ug g (jM yZ rfl) (ug g (jG rfl (jS b.has Mh rfl cL)) (ug g (kL rfl rfl rfl) (V (kd (cB g) rfl) ?_)))))
  obtain rfl := sj T
  exact a5 _ _ ⟨_, (b.jE St), rfl, rfl, rfl⟩
 refine un g (un g (un g (un g (un g (V (ke (cB g) rfl) ?_)))))
 obtain rfl := sj T
 exact a5 _ _ ⟨_, (b.jE St), rfl, rfl, rfl⟩
end Go.Proofs.YtmlncblocfcmiaaGreat
