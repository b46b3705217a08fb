/- a part of a proof of ThriftSpares -/
import Derived.Test.YtklbhegeiijbjaaGreatTSW1p
set_option linter.all false
namespace Go.Proofs.YtklbhegeiijbjaaGreat
open Go.RowKit
set_option maxRecDepth 10000
open Tryz
theorem KE (a : Formula) (k : Value) (c : Formula) (t : Value) (r : (Formula × Int)) (w : World) {N : mF} (q : po N [] w) (i : Sl lH 5 N k a.Kids) (j : Sl lH 5 N t c.Kids) (hm : zN a c = some r) :
  nM false Tryz.prog 133 [(.agg #[(.int .i64 a.Op), (.int .i64 a.K), (.string a.lC.lI), (.string a.lC.lM), k]), (.agg #[(.int .i64 c.Op), (.int .i64 c.K), (.string c.lC.lI), (.string c.lC.lM), t])] w N [] (fun v Z μ1 => ∃ Y, v = (.tuple #[(.agg #[(.int .i64 ((r.1).Op)), (.int .i64 ((r.1).K)), (.string (((r.1).lC).lI)), (.string (((r.1).lC).lM)), Y]), (.int .i64 (r.2))]) ∧ Z = [] ∧ Sl lH 5 μ1 Y ((r.1).Kids)) := by
 refine vA q 13 func133 rfl (fun b => sg ?_)
 obtain ⟨u, z, rfl⟩ := i.form
 let a3 : Value := (.slice u a.Kids.length z)
 refine VE (mI b rfl (fun W4 R b => ?_))
 obtain ⟨y, G, rfl⟩ := j.form
 let n : Value := (.slice y c.Kids.length G)
 refine VE (mI b rfl (fun W8 W b => VE (mz b bI (fun a5 b9 b => Wa (lr (VA b (Mt (Mt Mh)) (C1 a.Op a.K a.lC.lI a.lC.lM u a.Kids.length z) aZ aD (VA b (Mt Mh) (C1 c.Op c.K c.lC.lI c.lC.lM y c.Kids.length G) aZ aD (VE (mN (cs := #[(.int .i64 a.Op), (.int .i64 a.K), (.string a.lC.lI), (.string a.lC.lM), a3, (.int .i64 c.Op), (.int .i64 c.K), (.string c.lC.lI), (.string c.lC.lM), n]) b (rA rfl rfl) (oR aF aD bI) (fun A I b => V (nZ (v := (.agg #[(.int .i64 2), (.int .i64 0), (.string zS), (.string zS), (.slice (some ⟨I, 0, none⟩) 2 2)])) (rA rfl rfl) (nB bI cK (CL _ cK) kr)) ?_))))))))))
 obtain ⟨O, b, K, d, U⟩ := ST.zq (B := [(I, Ob #[(.int .i64 a.Op), (.int .i64 a.K), (.string a.lC.lI), (.string a.lC.lM), a3, (.int .i64 c.Op), (.int .i64 c.K), (.string c.lC.lI), (.string c.lC.lM), n] 58)]) mf b (nl.lit mf (l := [a, c]) (.cons (ys := C1 a.Op a.K a.lC.lI a.lC.lM u a.Kids.length z) (lH.mk ⟨a3, rfl, i⟩) (.cons (ys := C1 c.Op c.K c.lC.lI c.lC.lM y c.Kids.length G) (lH.mk ⟨n, rfl, j⟩) .nil)) rfl nb rfl)
 refine bS hm fun g T hm => ?_
 let o : Value := (.int .i64 ((g.1).Op))
 let a2 : Value := (.string (((g.1).lC).lM))
 let m : Value := (.string (((g.1).lC).lI))
 refine VE (eD b (bE _) call132 (fun s => (HD (⟨2, 0, K0, [a, c]⟩ : Formula) (.slice (some ⟨I, 0, none⟩) 2 2) _ _ s (U.mono mf.mono (mn.refl _)) T)) ?_ (L0 := []))
 rintro _ a9 P a4 b M h ⟨L, H, rfl, J⟩
 obtain rfl := H.symm
 refine Wx rfl (Wx rfl ?_)
 obtain ⟨x, D, rfl⟩ := J.form
 let a0 : Value := (.slice x ((g.1).Kids).length D)
 let Q : Value := (.agg #[o, (.int .i64 ((g.1).K)), m, a2, a0])
 refine VO (mh Q (#[o, (.int .i64 ((g.1).K)), m, a2, a0]) b rfl rfl aD oc nb rfl (fun F b => Wa (ln ?_)))
 replace b := b.lG (Kb (Db (Db St)))
 refine mB ?_
 obtain rfl := sj hm
 exact sK (v0 := Q) (v1 := (.int .i64 g.2)) rfl rfl (lP b.has Mh [o, (.int .i64 ((g.1).K)), m, a2, a0] rfl aZ aD) rfl ⟨_, _, _, rfl, (b.ol Sn), (K.trans M), (d.trans h), (ST.nm b (oK.mem Sn)), a0, rfl, rfl, J⟩
theorem MI (d1 : Value) (a0 : List Formula) (r : (Formula × Int)) (w : World) {μ0 : mF} (h0 : po μ0 [] w) (c7 : Sl lH 5 μ0 d1 a0) (hm : ya a0 = some r) :
  nM false Tryz.prog 71 [d1] w μ0 [] (fun v L1 μ1 => ∃ y1, v = (.tuple #[(.agg #[(.int .i64 ((r.1).Op)), (.int .i64 ((r.1).K)), (.string (((r.1).lC).lI)), (.string (((r.1).lC).lM)), y1]), (.int .i64 (r.2))]) ∧ L1 = [] ∧ Sl lH 5 μ1 y1 ((r.1).Kids)) := by
 let e5 := (a0.drop (Int.toNat 1))
 refine vA h0 36 func71 rfl (fun b => sg (VE (mz b bI (fun W2 A b => Wa (lr (Wm (bS hm fun x6 e3 hm => VQ (od (i := 0) (x0 := x6) lH.out aF aD rfl rfl c7 (mE e3) (mA e3)) (fun p3 ⟨_, ⟨v8, rfl, f2⟩, f1⟩ => V (lK rfl (ms b.has f1 aZ aD)) (bS hm fun j e6 hm => ?_)))))))))
 refine VE (eD b (bE _) call132 (fun hh => (HD x6 v8 _ _ hh (f2.mono mf.mono (mn.refl _)) e6)) ?_ (L0 := []))
 rintro _ i4 a9 i0 b a4 m ⟨i5, b6, rfl, d0⟩
 obtain rfl := b6.symm
 refine Wm (Wx rfl (Wx rfl (VE (mz b bI (fun i2 F b => ?_)))))
 obtain ⟨c2, c5, rfl⟩ := d0.form
 let d2 : Value := (.slice c2 ((j.1).Kids).length c5)
 refine VO (mh (.agg #[(.int .i64 ((j.1).Op)), (.int .i64 ((j.1).K)), (.string (((j.1).lC).lI)), (.string (((j.1).lC).lM)), d2]) (#[(.int .i64 ((j.1).Op)), (.int .i64 ((j.1).K)), (.string (((j.1).lC).lI)), (.string (((j.1).lC).lM)), d2]) b rfl rfl aD oc nb rfl (fun i3 b => Wa (lS (Wm (bS hm fun _ c8 hm => VQ (DZ (i := 1) aF aD rfl rfl (c7.mono mf.mono a4) (tQ c8) (tu c8)) (fun f3 R => V (nh aF rfl R.1) (Wm (ln (CJ hm (fun u E W => ∃ q U c3, mn a9 U ∧ Lo (keys []) w a9 U ∧ ST false (keys []) w W U ((F, Ob #[(.int .i64 u.2.1), (.int .i64 u.2.2.1), (.string u.2.2.2.1.lI), (.string u.2.2.2.1.lM), q] 58) :: ((A, Ol C8 58) :: c3)) ∧ E 2 = (.pointer (some ⟨A, 0, none⟩)) ∧ E 4 = (.pointer (some ⟨F, 0, none⟩)) ∧ E 5 = (.int .i64 u.1) ∧ Sl lH 5 U q u.2.2.2.2) (fun u d7 => ?_) ?_)))))))))
 ·refine mY (fun i E W => ∃ s G H y x N z O, (E 18 = .int .i64 (i : Nat) ∧ E 17 = .int .i64 (e5.length : Nat)) ∧ mn a9 z ∧ Lo (keys []) w a9 z ∧ ST false (keys []) w W z ((F, Ob #[(.int .i64 G), (.int .i64 H), (.string y.lI), (.string y.lM), x] 58) :: ((A, Ol C8 58) :: O)) ∧ E 2 = (.pointer (some ⟨A, 0, none⟩)) ∧ E 4 = (.pointer (some ⟨F, 0, none⟩)) ∧ E 5 = (.int .i64 s) ∧ E 16 = f3 ∧ Sl lH 5 z x N ∧ vG (e5.drop i) s G H y N = some u) e5.length R.1.len ⟨j.2, ((j.1).Op), ((j.1).K), ((j.1).lC), d2, ((j.1).Kids), a9, _, ⟨rfl, rfl⟩, (mn.refl _), Lo.refl, (b.lG St), rfl, rfl, rfl, rfl, d0, d7⟩ dc dc dc (fun _ _ _ h => by obtain ⟨_, _, _, _, _, _, _, _, aa, _⟩ := h; exact aa) ?_ ?_
  ·rintro e7 E W d6 ⟨s, G, H, y, x, N, z, O, ⟨eI, eN⟩, t, d, b, a2, D, a3, P, I, c⟩
   obtain ⟨a, f6, e1, e0, e2⟩ := mM d6
   rw [e1] at c
   refine bg (VQ (od (i := (e7 : Int)) (x0 := a) lH.out aF aD P eI (R.1.mono mf.mono t) (aG _) e0) (fun h1 ⟨_, ⟨h4, rfl, c0⟩, d8⟩ => V (lK rfl (ms b.has d8 aZ aD)) (VE (mz b bI (fun g2 g8 b => ?_)))))
   obtain ⟨Y, Z, rfl⟩ := c0.form
   let b8 := (C1 a.Op a.K a.lC.lI a.lC.lM Y a.Kids.length Z)
   refine VO (mh (.agg b8.toArray) (b8.toArray) b rfl rfl aD oc nb rfl (fun g3 b => lS (Wh a3 (Wi rfl (ln (CI c rfl (fun d5 c => ?_) (fun d5 c => ?_)))))))
   ·refine pc (oQ (Um (by simp) (oQ (tX (lU ?_)))))
    obtain rfl := sj c
    exact ⟨x, z, _, t, d, (b.lG (Db St)), a2, D, a3, I⟩
   refine kn (mc (V (lK D (lP b.has (Mt Mh) [(.int .i64 G), (.int .i64 H), (.string y.lI), (.string y.lM), x] rfl aZ aD)) (VA b Mh b8 aZ aD (bS c fun g d9 c => ?_))))
   refine VE (eD b (bE _) call133 (fun hh => (KE (⟨G, H, y, N⟩ : Formula) x a (.slice Y a.Kids.length Z) _ _ hh (I.mono mf.mono (mn.refl _)) (c0.mono mf.mono (mn.refl _)) d9)) ?_ (L0 := []))
   rintro _ h5 f0 f9 b c9 n ⟨h8, a5, rfl, c1⟩
   obtain rfl := a5.symm
   refine Wm (Wx rfl (Wx rfl ?_))
   obtain ⟨b0, b3, rfl⟩ := c1.form
   let d3 : Value := (.slice b0 ((g.1).Kids).length b3)
   replace b := b.perm (Nb (Pb Pz) Nz)
   refine VO (mh (.agg #[(.int .i64 ((g.1).Op)), (.int .i64 ((g.1).K)), (.string (((g.1).lC).lI)), (.string (((g.1).lC).lM)), d3]) (#[(.int .i64 ((g.1).Op)), (.int .i64 ((g.1).K)), (.string (((g.1).lC).lI)), (.string (((g.1).lC).lM)), d3]) b D rfl aD oc nb rfl (fun g7 b => Wa (mD (mL (lU ?_)))))
   replace b := b.lG (Kb (Db St))
   exact ⟨eI, g.2, ((g.1).Op), ((g.1).K), ((g.1).lC), d3, ((g.1).Kids), f0, _, ⟨rfl, eN⟩, (t.trans c9), (d.trans n), (b.lG St), a2, D, rfl, P, c1, (by rw [e2]; exact c)⟩
  rintro E W ⟨s, G, H, y, x, N, z, O, ⟨eI, eN⟩, t, d, b, a2, D, a3, P, I, c⟩
  rw [aK] at c
  refine lU ?_
  obtain rfl := sj c
  exact ⟨x, z, _, t, d, (b.lG St), a2, D, a3, I⟩
 rintro ⟨e8, Q, T, k, M⟩ E W ⟨q, U, c3, a8, l, b, o, e4, c6, b9⟩ B
 refine me (sg (Wh c6 (Wi rfl (ln (CI B rfl (fun d4 B => ?_) (fun d4 B => ?_))))))
 ·refine sg (V (nZ (v := (.agg C8.toArray)) sL (nB bI cK (CL _ cK) kr)) (Wh c6 ?_))
  replace b := b.perm (Nb (Pb Pz) Nz)
  refine VO (mh (.agg C8.toArray) (C8.toArray) b o rfl aD oc nb rfl (fun g0 b => Wa (ln ?_)))
  replace b := b.lG (Kb (Db St))
  refine mB (mQ ?_)
  obtain rfl := sj B
  exact sK (v0 := (.agg C8.toArray)) (v1 := (.int .i64 e8)) rfl o (lP b.has Mh C8 rfl aZ aD) rfl ⟨_, _, _, rfl, (b.ol Sn), (a4.trans a8), (m.trans l), (ST.nm b (oK.mem Sn)), (.slice none 0 0), rfl, rfl, (Sl.nil _ _ _)⟩
 refine kg (V (lK e4 (lP b.has Mh [(.int .i64 Q), (.int .i64 T), (.string k.lI), (.string k.lM), q] rfl aZ aD)) ?_)
 obtain ⟨J, K, rfl⟩ := b9.form
 let L := (C1 Q T k.lI k.lM J M.length K)
 replace b := b.perm (Nb (Pb Pz) Nz)
 refine VO (mh (.agg L.toArray) (L.toArray) b o rfl aD oc nb rfl (fun g1 b => Wa (ln ?_)))
 replace b := b.lG (Kb (Db St))
 refine mB ?_
 obtain rfl := sj B
 exact sK (v0 := (.agg L.toArray)) (v1 := (.int .i64 0)) rfl o (lP b.has Mh L rfl aZ aD) rfl ⟨_, _, _, rfl, (b.ol Sn), (a4.trans a8), (m.trans l), (ST.nm b (oK.mem Sn)), (.slice J M.length K), rfl, rfl, b9⟩
theorem Cp (k : lF) (G H : Value) (o : lB) (r : (Formula × Int)) (w : World) {μ0 : mF} (h0 : po μ0 [] w) (t : Sl mx 15 μ0 G k.lX) (y : Sl mV 8 μ0 H k.ml) (hm : xL k o = some r) :
  nM false Tryz.prog 23 [(.agg #[(.string k.Name), G, H]), (.agg (lD o).toArray)] w μ0 [] (fun v L1 μ1 => ∃ y1, v = (.tuple #[(.agg #[(.int .i64 ((r.1).Op)), (.int .i64 ((r.1).K)), (.string (((r.1).lC).lI)), (.string (((r.1).lC).lM)), y1]), (.int .i64 (r.2))]) ∧ L1 = [] ∧ Sl lH 5 μ1 y1 ((r.1).Kids)) := by
 refine vA h0 41 func23 rfl (fun b => sg ?_)
 obtain ⟨A1, c2, rfl⟩ := t.form
 obtain ⟨A3, P, rfl⟩ := y.form
 let f5 := (C7 k.Name A1 k.lX.length c2 A3 k.ml.length P)
 refine VE (mI b rfl (fun W6 b5 b => VE (mI b rfl (fun W8 b7 b => VE (mz b bI (fun i4 b9 b => Wa (lr (VA b (Mt (Mt Mh)) f5 gI eX (VA b (Mt Mh) (lD o) bH aI (bS hm fun a e7 hm => ?_))))))))))
 let b8 : Value := (.int .i64 (((a.1).lL).K))
 let q : Value := (.int .i64 (((a.1).lL).Op))
 let b1 := (((a.1).lL).lC)
 let s : Value := (.string (b1.lM))
 let d8 : Value := (.string (b1.lI))
 let a0 := (((a.1).Signed).lB)
 refine VE (eD b (bE _) call69 (fun A => (Mo k (.slice A1 k.lX.length c2) (.slice A3 k.ml.length P) o _ _ A (t.mono mH.mono (mn.refl _)) (y.mono nK.mono (mn.refl _)) e7)) ?_ (L0 := []))
 rintro _ j4 j8 i2 b I d ⟨j6, j7, a5, rfl, e9, c5⟩
 obtain rfl := a5.symm
 refine Wm (Wx rfl (Wx rfl (VE (mz b eZ (fun i6 j3 b => ?_)))))
 obtain ⟨d9, e1, rfl⟩ := e9.form
 let f8 : Value := (.slice d9 (((a.1).Signed).Tag).length e1)
 obtain ⟨z, D, rfl⟩ := c5.form
 let a2 : Value := (.slice z (((a.1).lL).Kids).length D)
 refine VO (mh (.agg #[(.int .i64 (a0.Kind)), (.string ((a0.Head).lI)), (.string ((a0.Head).lM)), (.string (a0.mS)), (.string ((a0.B).lI)), (.string ((a0.B).lM)), (.string ((a0.C).lI)), (.string ((a0.C).lM)), (.string (a0.mK)), f8, q, b8, d8, s, a2]) (#[(.int .i64 (a0.Kind)), (.string ((a0.Head).lI)), (.string ((a0.Head).lM)), (.string (a0.mS)), (.string ((a0.B).lI)), (.string ((a0.B).lM)), (.string ((a0.C).lI)), (.string ((a0.C).lM)), (.string (a0.mK)), f8, q, b8, d8, s, a2]) b rfl rfl dQ oc nb rfl (fun i7 b => Wa (lS (Wm (V (oH rfl) (ln (CI hm rfl (fun e6 hm => ?_) (fun e6 hm => ?_))))))))
 ·refine sg (V (nZ (v := (.agg C8.toArray)) sL (nB bI cK (CL _ cK) kr)) ?_)
  replace b := b.perm (Nb (Pb Pz) Nz)
  refine VO (mh (.agg C8.toArray) (C8.toArray) b rfl rfl aD oc nb rfl (fun i8 b => Wa (ln ?_)))
  replace b := b.lG (Kb (Db (Db (Db St))))
  refine mB (mQ ?_)
  obtain rfl := sj hm
  exact sK (v0 := (.agg C8.toArray)) (v1 := (.int .i64 42)) rfl rfl (lP b.has Mh C8 rfl aZ aD) rfl ⟨_, _, _, rfl, (b.ol Sn), I, d, (ST.nm b (oK.mem Sn)), (.slice none 0 0), rfl, rfl, (Sl.nil _ _ _)⟩
 refine kg (Wf LZ (VA b Mh [q, b8, d8, s, a2] aZ aD (VE (mN (cs := #[q, b8, d8, s, a2]) b (oX rfl) (oR aF aD bI) (fun i9 e0 b => Wa (ln ?_))))))
 replace b := b.lG (Kb (Db St))
 refine me (sg (VA b (Mt (Mt (Mt Mh))) f5 gI eX (VA b (Mt (Mt Mh)) (lD o) bH aI (bS hm fun R e8 hm => ?_))))
 refine VE (eD b (bE _) call70 (fun A => (KO k (.slice A1 k.lX.length c2) (.slice A3 k.ml.length P) o _ _ A (t.mono mH.mono I) (y.mono nK.mono I) e8)) ?_ (L0 := []))
 rintro _ j5 e2 i3 b a8 F ⟨f6, a6, rfl, O⟩
 obtain rfl := a6.symm
 refine V (nh cO rfl O) (Wm (ln ?_))
 replace b := b.lG (Kb (Kb (Db (Db St))))
 replace b := b.GG
 refine mY (fun i E W => ∃ Q N K Z, (E 27 = .int .i64 (i : Nat) ∧ E 26 = .int .i64 (R.length : Nat)) ∧ ST false (keys []) w W e2 ((b9, Ol C8 58) :: (K ++ Z)) ∧ E 4 = (.pointer (some ⟨b9, 0, none⟩)) ∧ E 8 = Q ∧ E 25 = f6 ∧ nl 58 lH 5 e2 Q N K ∧ wv (R.drop i) N = some r) R.length O.len ⟨(.slice (some ⟨e0, 0, none⟩) 1 1), ([(a.1).lL]), [(e0, Ob #[q, b8, d8, s, a2] 58)], _, ⟨rfl, rfl⟩, (b.lG (Sb (Pr Pz) St)), rfl, rfl, rfl, (nl.lit mf (l := [(a.1).lL]) (.cons (ys := [q, b8, d8, s, a2]) (lH.mk ⟨a2, rfl, (c5.mono mf.mono a8)⟩) .nil) rfl nb rfl), hm⟩ dc dc dc (fun _ _ _ h => by obtain ⟨_, _, _, _, aa, _⟩ := h; exact aa) ?_ ?_
 ·rintro f0 E W d0 ⟨Q, N, K, Z, ⟨eI, eN⟩, b, T, a3, a4, U, j⟩
  obtain ⟨c, f7, d6, d5, d7⟩ := mM d0
  rw [d6] at j
  refine bg (VQ (od (i := (f0 : Int)) (x0 := c) mV.out cO dP a4 eI O (aG _) d5) (fun h2 ⟨_, ⟨h5, h6, rfl, a9, d3⟩, d1⟩ => V (lK rfl (ms b.has d1 kG dP)) (VE (mz b iB (fun g0 g8 b => ?_)))))
  obtain ⟨u, x, rfl⟩ := a9.form
  let c7 := (C1 c.lL.Op c.lL.K c.lL.lC.lI c.lL.lC.lM u c.lL.Kids.length x)
  obtain ⟨b2, b6, rfl⟩ := d3.form
  let c0 := (C6 c.lC.lI c.lC.lM c.lL.Op c.lL.K c.lL.lC.lI c.lL.lC.lM u c.lL.Kids.length x b2 c.nn.length b6)
  refine VO (mh (.agg c0.toArray) (c0.toArray) b rfl rfl dP oc nb rfl (fun g1 b => ln (mc (Wh a3 (Wf GZ (VA b Mh c7 aZ aD (VE (mN (cs := c7.toArray) b (oX rfl) (oR aF aD bI) (fun g2 g9 b => ?_)))))))))
  replace b := b.perm (Nr (Qb (Qb (Qb Qz))) Nz)
  refine bS j fun f1 c9 j => VE (xt (B := K) mf b dc aF ra.1 ra.2.1 rfl ra.2.2.1 ra.2.2.2 rfl rfl U (EG.lit mf (l := [c.lL]) (.cons (ys := C1 c.lL.Op c.lL.K c.lL.lC.lI c.lL.lC.lM u c.lL.Kids.length x) (lH.mk ⟨(.slice u c.lL.Kids.length x), rfl, a9⟩) .nil) rfl nb (b.at_ (Ma Mh))) c9 (fun g3 f2 e3 b c8 => Wa (mD (mL (lU ?_)))))
  replace b := b.lG (Kr (Db (Db St)))
  exact ⟨eI, f2, f1, e3, _, ⟨rfl, eN⟩, (b.lG (Sb (Pr Pz) St)), T, rfl, a4, c8, (by rw [d7]; exact j)⟩
 rintro E W ⟨Q, N, K, Z, ⟨eI, eN⟩, b, T, a3, a4, U, j⟩
 rw [aK] at j
 refine lU (sg (Wh a3 ?_))
 replace b := b.perm (Nr (Qb Qz) Nz)
 obtain ⟨i0, b, c1, m, d4⟩ := ST.zq mf b U
 refine bS j fun g d2 j => ?_
 let g4 : Value := (.int .i64 ((g.1).Op))
 let f4 : Value := (.string (((g.1).lC).lM))
 let f3 : Value := (.string (((g.1).lC).lI))
 refine VE (eD b (bE _) call71 (fun A => (MI Q N _ _ A (d4.mono mf.mono (mn.refl _)) d2)) ?_ (L0 := []))
 rintro _ h7 i1 f9 b c3 n ⟨h8, Y, rfl, b0⟩
 obtain rfl := Y.symm
 refine Wx rfl (Wx rfl ?_)
 obtain ⟨J, M, rfl⟩ := b0.form
 let L : Value := (.slice J ((g.1).Kids).length M)
 let b4 : Value := (.agg #[g4, (.int .i64 ((g.1).K)), f3, f4, L])
 refine VO (mh b4 (#[g4, (.int .i64 ((g.1).K)), f3, f4, L]) b T rfl aD oc nb rfl (fun g7 b => Wa (lt ?_)))
 obtain rfl := sj j
 exact sK (v0 := b4) (v1 := (.int .i64 g.2)) rfl T (lP b.has Mh [g4, (.int .i64 ((g.1).K)), f3, f4, L] rfl aZ aD) rfl ⟨_, _, _, rfl, (b.ol Sn), (((I.trans a8).trans c1).trans c3), (((d.trans F).trans m).trans n), (ST.nm b (oK.mem Sn)), L, rfl, rfl, b0⟩
theorem Hm (a : mG) (g c : Value) (H : Nat) (y : ByteArray) (i : Value) (t : List mG) (j : Value) (x : List ny) (r : Bool) (w : World) (u : Sl (Pl (nr .u8)) 1 (hp w) g a.Signed.Tag) (k : Sl lH 5 (hp w) c a.lL.Kids) (B : Sl mx 15 (hp w) i t) (D : Sl mV 8 (hp w) j x) (I : At (hp w) (.pointer (some ⟨H, 0, none⟩)) [(.string y), i, j]) (hm : wY a y t x = some r) :
  mw false Tryz.prog 203 [(.agg #[(.int .i64 a.Signed.lB.Kind), (.string a.Signed.lB.Head.lI), (.string a.Signed.lB.Head.lM), (.string a.Signed.lB.mS), (.string a.Signed.lB.B.lI), (.string a.Signed.lB.B.lM), (.string a.Signed.lB.C.lI), (.string a.Signed.lB.C.lM), (.string a.Signed.lB.mK), g, (.int .i64 a.lL.Op), (.int .i64 a.lL.K), (.string a.lL.lC.lI), (.string a.lL.lC.lM), c]), (.pointer (some ⟨H, 0, none⟩))] w (.bool r) := by
 refine cG 16 func203 rfl (fun b => sg ?_)
 obtain ⟨U, Z, rfl⟩ := u.form
 obtain ⟨Y, q, rfl⟩ := k.form
 refine VE (mI b rfl (fun W6 o b => Wa (lr (V (lK rfl (ms b.has I gI eX)) (Wf yE (Wf tj (VA b Mh (lD a.Signed.lB) bH aI (bS hm fun z Q hm => ?_))))))))
 refine VE (eD b (bE _) call23 (fun h => (Cp (⟨y, t, x⟩ : lF) i j a.Signed.lB _ _ h (B.mono mH.mono (mn.refl _)) (D.mono nK.mono (mn.refl _)) Q)) ?_ (L0 := []))
 rintro _ l n a2 b T d ⟨m, G, rfl, N⟩
 obtain rfl := G.symm
 refine Wm (Wx rfl (Wx rfl (VE (mz b bI (fun a3 a5 b => ?_)))))
 obtain ⟨J, K, rfl⟩ := N.form
 refine VO (mh (.agg #[(.int .i64 ((z.1).Op)), (.int .i64 ((z.1).K)), (.string (((z.1).lC).lI)), (.string (((z.1).lC).lM)), (.slice J ((z.1).Kids).length K)]) (#[(.int .i64 ((z.1).Op)), (.int .i64 ((z.1).K)), (.string (((z.1).lC).lI)), (.string (((z.1).lC).lM)), (.slice J ((z.1).Kids).length K)]) b rfl rfl aD oc nb rfl (fun a4 b => Wa (ln ?_)))
 replace b := b.lG (Db (Db St))
 exact sg (Wm (Wi rfl (Wa (lt (rQ hm b)))))
theorem JJ (c : lF) (g j : Value) (r : Bool) (w : World) (a : Sl mx 15 (hp w) g c.lX) (i : Sl mV 8 (hp w) j c.ml) (hm : yP c = some r) :
  mw false Tryz.prog 143 [(.agg #[(.string c.Name), g, j])] w (.bool r) := by
 refine cG 8 func143 rfl (fun b => sg ?_)
 obtain ⟨k, u, rfl⟩ := a.form
 obtain ⟨y, z, rfl⟩ := i.form
 refine VE (mI b rfl (fun I t b => Wa (lr (Wf AD (VB b Mh rfl rfl kH (V (qk (by exact uC rfl) rfl) (bS hm fun K D hm => VE (Eg b call202 (AZ (.slice k c.lX.length u) c.lX (.func (.func 203) #[] #[(.pointer (some ⟨t, 0, none⟩))]) (fun (x : mG) => wY x c.Name c.lX c.ml) _ _ (a.mono mH.mono b.lJ) ⟨203, #[], #[(.pointer (some ⟨t, 0, none⟩))], rfl, call203, fun W x vs r d h hm => by obtain ⟨_, rfl, B⟩ := h; obtain ⟨G, H, rfl, l, m⟩ := B.out; exact Hm x G H t c.Name (.slice k c.lX.length u) c.lX (.slice y c.ml.length z) c.ml r W l m (a.mono mH.mono (b.lJ.trans d)) (i.mono nK.mono (b.lJ.trans d)) (At.of (d _ _ (b.at_ Mh)) _ rfl) hm⟩ D) (fun J b => V (oH rfl) (Wa (ln ?_)))))))))))
 exact mB (rQ hm b)
theorem FI (a : lF) (u x : Value) (r : Int) (w : World) (g : Sl mx 15 (hp w) u a.lX) (c : Sl mV 8 (hp w) x a.ml) (hm : xS a = some r) :
  mw false Tryz.prog 79 [(.agg #[(.string a.Name), u, x])] w (.int .i64 r) := by
 refine cG 26 func79 rfl (fun b => sg ?_)
 obtain ⟨D, G, rfl⟩ := g.form
 let b8 : Value := (.slice D a.lX.length G)
 obtain ⟨z, B, rfl⟩ := c.form
 let a4 : Value := (.slice z a.ml.length B)
 let a0 := (C7 a.Name D a.lX.length G z a.ml.length B)
 refine VE (mI b rfl (fun W6 d b => Wa (ln (me (bg (Wf Pn (VB b Mh rfl rfl bZ (bS hm fun R n hm => VE (Eg b lq (mw.nz (th a.Name _ _  n)) (fun W9 b => V (oH rfl) (Wa (mD ?_))))))))))))
 refine lU (CI hm rfl (fun Q hm => ?_) (fun Q hm => ?_))
 ·refine sg (Wa (ln ?_))
  replace b := b.lG (Db St)
  refine mB (oh (mQ ?_))
  obtain rfl := sj hm
  exact rP b
 refine sg (VA b Mh a0 gI eX (bS hm fun v Z hm => VE (Eg b call140 (LG a b8 a4 _ _ (g.mono mH.mono b.lJ) (c.mono nK.mono b.lJ) Z) (fun a9 b => Wa (ln (CI hm rfl (fun T hm => ?_) (fun T hm => ?_)))))))
 ·refine sg (Wa (ln ?_))
  replace b := b.lG (Db St)
  refine mB (oh (mQ ?_))
  obtain rfl := sj hm
  exact rP b
 refine sg (VA b Mh a0 gI eX (bS hm fun A h hm => VE (Eg b call141 (Kz a b8 a4 _ _ (g.mono mH.mono b.lJ) (c.mono nK.mono b.lJ) h) (fun o b => V (oH rfl) (Wm (LJ hm (fun N E W => ∃ J, ST false mX w W (hp w) ((d, Ol a0 25) :: J) ∧ E 1 = (.pointer (some ⟨d, 0, none⟩)) ∧ E 20 = (.bool N)) 5 ?_ (fun N t I => ?_)))))))
 ·rintro O E W ⟨J, b, a5, l⟩ Y
  refine Wh l (LJ Y (fun M E W => ∃ K, ST false mX w W (hp w) K ∧ E 25 = (.bool M)) 4 ?_ (fun M k H => ?_))
  ·rintro P E W ⟨K, b, m⟩ y
   refine Wg m (ln (CI y rfl (fun U y => ?_) (fun U y => ?_)))
   ·refine sg (Wa (lt (oh (mQ ?_))))
    obtain rfl := sj y
    exact rP b
   exact np (mL (lU (sg (Wa (lt (rQ y b))))))
  refine bC k (fun j k => ?_) (fun j k => ?_)
  ·refine un j (un j (un j (V (mo (cB j) rfl) ?_)))
   obtain rfl := sj k
   exact H _ _ ⟨_, (b.lG (Db St)), rfl⟩
  refine ug j (lK a5 (lP b.has Mh a0 rfl gI eX)) (bS k fun F a2 k => uJ j (Eg b call143 (JJ a b8 a4 _ _ (g.mono mH.mono b.lJ) (c.mono nK.mono b.lJ) a2) (fun q b => ug j (oH rfl) (V (mq (cB j) rfl) ?_))))
  obtain rfl := sj k
  exact H _ _ ⟨_, (b.lG (Db St)), rfl⟩
 refine bC t (fun i t => ?_) (fun i t => ?_)
 ·refine un i (un i (un i (un i (V (mo (cB i) rfl) ?_))))
  obtain rfl := sj t
  exact I _ _ ⟨_, (b.lG St), rfl, rfl⟩
 refine ug i (lN Es rfl) (ug i (lK rfl (ma b.has Mh rfl isAgg23)) (bS t fun L a3 t => uJ i (Eg b call142 (Mw a4 a.ml _ _ (c.mono nK.mono b.lJ) a3) (fun s b => ug i (oH rfl) (V (mq (cB i) rfl) ?_)))))
 obtain rfl := sj t
 exact I _ _ ⟨_, (b.lG St), rfl, rfl⟩
theorem LI (a : lF) (k z : Value) (B : ByteArray) (I : Int) (r : (mW × Int)) (w : World) {M : mF} (h0 : po M [] w) (g : Sl mx 15 M k a.lX) (i : Sl mV 8 M z a.ml) (hm : yD a B I = some r) :
  nM false Tryz.prog 54 [(.agg #[(.string a.Name), k, z]), (.string B), (.int .i64 I)] w M [] (fun v L1 N => ∃ n o q s A a9, v = (.tuple #[(.agg #[(.string (((r.1).lF).Name)), n, o, (.string ((r.1).na)), (.int .i64 ((r.1).Room)), q, s, A, a9]), (.int .i64 (r.2))]) ∧ L1 = [] ∧ Sl mx 15 N n (((r.1).lF).lX) ∧ Sl mV 8 N o (((r.1).lF).ml) ∧ Sl (Pl lD) 9 N q ((r.1).lQ) ∧ Sl (Pl lD) 9 N s ((r.1).Shown) ∧ Sl (Pl lE) 2 N A ((r.1).mg) ∧ Sl (Pl lE) 2 N a9 ((r.1).mj)) := by
 refine vA h0 33 func54 rfl (fun b => sg ?_)
 obtain ⟨t, x, rfl⟩ := g.form
 obtain ⟨u, y, rfl⟩ := i.form
 let d := (C7 a.Name t a.lX.length x u a.ml.length y)
 let a0 := (VJ a.Name t a.lX.length x u a.ml.length y B I)
 refine VE (mI b rfl (fun W6 Q b => VE (mz b lu (fun W8 T b => Wa (lr (VA b (Mt Mh) d gI eX (bS hm fun r9 R hm => VE (Eg b call79 (FI a (.slice t a.lX.length x) (.slice u a.ml.length y) _ _ (g.mono mH.mono b.lJ) (i.mono nK.mono b.lJ) R) (fun d7 b => Wa (ln (me (CJ hm (fun l E W => ∃ U, ST false (keys []) w W M ((T, Ol Lg 36) :: ((Q, Ol d 25) :: U)) ∧ E 1 = (.string B) ∧ E 2 = (.int .i64 I) ∧ E 3 = (.pointer (some ⟨Q, 0, none⟩)) ∧ E 6 = (.pointer (some ⟨T, 0, none⟩)) ∧ E 8 = (.int .i64 l)) (fun l c => ?_) ?_))))))))))))
 ·refine bg (Wm (Wi rfl (Wa (ln (CI c rfl (fun L c => ?_) (fun L c => ?_))))))
  ·refine np (mL (lU ?_))
   obtain rfl := sj c
   exact ⟨_, (b.lG St), rfl, rfl, rfl, rfl, rfl⟩
  refine sg (Wm (bS c fun e1 b6 c => VE (Eg b lq (mw.nz (th B _ _  b6)) (fun e0 b => V (oH rfl) (Wa (ln (CI c rfl (fun O c => ?_) (fun O c => ?_))))))))
  ·refine mc (Wa (mD (mL (lU ?_))))
   obtain rfl := sj c
   exact ⟨_, (b.lG St), rfl, rfl, rfl, rfl, rfl⟩
  refine sg (Wm (Wi rfl (Wm (LJ c (fun m E W => ∃ Y, ST false (keys []) w W M ((T, Ol Lg 36) :: ((Q, Ol d 25) :: Y)) ∧ E 1 = (.string B) ∧ E 2 = (.int .i64 I) ∧ E 3 = (.pointer (some ⟨Q, 0, none⟩)) ∧ E 6 = (.pointer (some ⟨T, 0, none⟩)) ∧ E 8 = (.int .i64 r9) ∧ E 24 = (.bool m)) 3 ?_ (fun m H K => ?_)))))
  ·rintro e2 E W ⟨Y, b, a3, a4, a5, h, c3, c5⟩ G
   refine Wg c5 (ln (CI G rfl (fun P G => ?_) (fun P G => ?_)))
   ·refine mc (Wa (mD (mL (lU ?_))))
    obtain rfl := sj G
    exact ⟨_, (b.lG St), a3, a4, a5, h, rfl⟩
   refine np (mL (lU ?_))
   obtain rfl := sj G
   exact ⟨_, (b.lG St), a3, a4, a5, h, c3⟩
  refine bC H (fun j H => ?_) (fun j H => ?_)
  ·refine un j (un j (V (mo (cB j) rfl) ?_))
   obtain rfl := sj H
   exact K _ _ ⟨_, (b.lG St), rfl, rfl, rfl, rfl, rfl, rfl⟩
  refine ug j (lO rfl) (ug j (mU rfl rfl rfl) (V (mq (cB j) rfl) ?_))
  obtain rfl := sj H
  exact K _ _ ⟨_, (b.lG St), rfl, rfl, rfl, rfl, rfl, rfl⟩
 rintro c6 E W ⟨U, b, b9, c0, c1, J, Z⟩ D
 refine me (sg (Wh Z (Wi rfl (ln (CI D rfl (fun F D => ?_) (fun F D => ?_))))))
 ·refine sg (V (nZ (v := (.agg Lg.toArray)) sL (nB lu eW (T8 _ eW) kr)) (Wh Z (VO (mh (.agg Lg.toArray) (Lg.toArray) b J rfl cZ oc nb rfl (fun d8 b => Wa (ln ?_))))))
  replace b := b.lG (Kb (Db St))
  refine mB (mQ ?_)
  obtain rfl := sj D
  exact sK (v0 := (.agg Lg.toArray)) (v1 := (.int .i64 c6)) rfl J (lP b.has Mh Lg rfl dU cZ) rfl ⟨_, _, _, rfl, (b.ol Sn), (mn.refl _), Lo.refl, (ST.nm b (oK.mem Sn)), (.slice none 0 0), (.slice none 0 0), (.slice none 0 0), (.slice none 0 0), (.slice none 0 0), (.slice none 0 0), rfl, rfl, (Sl.nil _ _ _), (Sl.nil _ _ _), (Sl.nil _ _ _), (Sl.nil _ _ _), (Sl.nil _ _ _), (Sl.nil _ _ _)⟩
 refine kg (V (lK c1 (lP b.has (Mt Mh) d rfl gI eX)) (Wh b9 (Wh c0 (V (nZ (v := (.agg a0.toArray)) (ES rfl rfl rfl) (nB lu eW (T8 _ eW) kr)) (VO (mh (.agg a0.toArray) (a0.toArray) b J rfl cZ oc nb rfl (fun d9 b => Wa (ln ?_))))))))
 replace b := b.lG (Kb (Db St))
 refine mB ?_
 obtain rfl := sj D
 exact sK (v0 := (.agg a0.toArray)) (v1 := (.int .i64 0)) rfl J (lP b.has Mh a0 rfl dU cZ) rfl ⟨_, _, _, rfl, (b.ol Sn), (mn.refl _), Lo.refl, (ST.nm b (oK.mem Sn)), (.slice t a.lX.length x), (.slice u a.ml.length y), (.slice none 0 0), (.slice none 0 0), (.slice none 0 0), (.slice none 0 0), rfl, rfl, g, i, (Sl.nil _ _ _), (Sl.nil _ _ _), (Sl.nil _ _ _), (Sl.nil _ _ _)⟩
theorem G2 (a : lB) (r : List lC) (w : World) (hm : yB a = some r) :
  nC true Tryz.prog 243 [(.agg (lD a).toArray)] w 50 lE 2 r := by
 refine vV 27 func243 rfl (fun b => sg (VE (mI b rfl (fun W2 h b => Wa (lS (VA b Mh (lD a) bH aI (bS hm fun r3 o hm => VE (Eg b call113 (yJ a _ _  o) (fun W5 b => V (oH rfl) (mD ?_))))))))))
 refine lU (CI hm rfl (fun n hm => ?_) (fun n hm => ?_))
 ·refine sg (Wa (ln ?_))
  replace b := b.lG (Db St)
  refine mB (mQ ?_)
  obtain rfl := sj hm
  exact ng (v := (.slice none 0 0)) rfl rfl ⟨_, [], rfl, b.oA (fun p d => by cases d) (by simp), my.nil _ _ _⟩
 refine kg (Wf vX (VA b Mh (lE a.Head) bB aH (VE (mN (cs := (lE a.Head).toArray) b (oX rfl) (oR aM aH dF) (fun W8 y b => Wa (ln (me (CJ hm (fun I E W => ∃ j i z, ST true mX w W (hp w) ((h, Ol (lD a) 52) :: (i ++ z)) ∧ E 1 = (.pointer (some ⟨h, 0, none⟩)) ∧ E 3 = j ∧ my 50 lE 2 j I i) (fun I g => ?_) ?_))))))))
 ·refine sg (Wf zx (VB b (Mt Mh) rfl rfl cP (Wi rfl (ln (CI g rfl (fun Q g => ?_) (fun Q g => ?_))))))
  ·refine mc (Wm (Wf so (VA b (Mt Mh) (lE a.B) bB aH (VE (mN (cs := (lE a.B).toArray) b (oX rfl) (oR aM aH dF) (fun F a4 b => ?_))))))
   replace b := b.perm (Nb (Pb Pz) Nz)
   refine bS g fun c0 T g => VE (pf (enc := lE) (v := (.slice (some ⟨y, 0, none⟩) 1 1)) (vs := (.slice (some ⟨a4, 0, none⟩) 1 1)) (R := [(y, Ol (lE a.Head) 50)]) b nI dc px aM oF.1 oF.2.1 rfl oF.2.2.1 oF.2.2.2 rfl rfl (my.lit (l := [a.Head]) (enc := lE) rfl dc rfl rfl) (Sl.lit (enc := lE) (l := [a.B]) nI rfl nb rfl (b.at_ (Mt Mh))) T (fun L a9 m b K => Wa (ln ?_)))
   obtain rfl := sj g
   exact ⟨a9, m, _, (b.lG (Sb (Pr (Pb Pz)) (Kr (Db St)))), rfl, rfl, K⟩
  refine kn ?_
  obtain rfl := sj g
  replace b := b.GG
  exact ⟨(.slice (some ⟨y, 0, none⟩) 1 1), [(y, Ol (lE a.Head) 50)], _, (b.lG (Sb (Pr Pz) St)), rfl, rfl, (my.lit (l := [a.Head]) (enc := lE) rfl dc rfl rfl)⟩
 rintro O E W ⟨j, i, z, b, D, G, u⟩ U
 refine me (CJ U (fun H E W => ∃ t k B, ST true mX w W (hp w) (k ++ B) ∧ E 3 = t ∧ my 50 lE 2 t H k) (fun H c => ?_) ?_)
 ·refine sg (V (lN zx D) (VB b Mh rfl rfl cP (Wi rfl (ln (CI c rfl (fun M c => ?_) (fun M c => ?_))))))
  ·refine mc (Wh G (V (lN Az D) (VA b Mh (lE a.C) bB aH (VE (mN (cs := (lE a.C).toArray) b (oX rfl) (oR aM aH dF) (fun s a3 b => ?_))))))
   replace b := b.perm (Nr (Qb (Qb Qz)) Nz)
   refine bS c fun b9 N c => VE (pf (enc := lE) (v := j) (vs := (.slice (some ⟨a3, 0, none⟩) 1 1)) (R := i) b nI dc px aM oF.1 oF.2.1 rfl oF.2.2.1 oF.2.2.2 rfl rfl u (Sl.lit (enc := lE) (l := [a.C]) nI rfl nb rfl (b.at_ (Ma Mh))) N (fun A q Z b J => Wa (ln ?_)))
   obtain rfl := sj c
   exact ⟨q, Z, _, (b.lG (Kr (Db (Db St)))), rfl, J⟩
  refine kn ?_
  obtain rfl := sj c
  exact ⟨j, i, _, (b.lG (Db St)), G, u⟩
 rintro P E W ⟨t, k, B, b, a5, x⟩ Y
 refine sg (Wh a5 (Wa (lt ?_)))
 obtain rfl := sj Y
 exact ng (v := t) rfl rfl ⟨_, k, rfl, b.oA (fun p d => (Ml d)) x.nd, x⟩
theorem FB (M : Nat) (u : Value) (a9 : List (lC × (List (ByteArray × Bool)))) (G : LO) (D : Value) (a0 : List lB) (B : LO) (a : Value) (Y : List (lC × (List lB))) (I : LO) (c : Value) (K : List (ByteArray × (List lB))) (t : LO) (j : Value) (a4 : List lY) (y : LO) (J : Int) (H : lB) (r : ((List lB) × (List (lC × (List lB))) × (List (ByteArray × (List lB))))) (w : World) {μ0 : mF} (h0 : po μ0 ((M, Ob #[u, D, a, c, j, (.int .i64 J)] 189) :: (G ++ (B ++ (I ++ (t ++ (y ++ [])))))) w) (e9 : nT (fun (x : lC) => (.agg (lE x).toArray)) (mJ Value.string (fun (x : Bool) => (Value.bool x))) u a9 G) (a6 : my 52 lD 9 D a0 B) (b2 : nT (fun (x : lC) => (.agg (lE x).toArray)) (my 52 lD 9) a Y I) (T : nT Value.string (my 52 lD 9) c K t) (e1 : sd 111 nU 3 j a4 y) (hm : vy a9 a0 Y K a4 J H = some r) :
  nH true Tryz.prog 187 [(.pointer (some ⟨M, 0, none⟩)), (.agg (lD H).toArray)] w ((M, Ob #[u, D, a, c, j, (.int .i64 J)] 189) :: (G ++ (B ++ (I ++ (t ++ (y ++ [])))))) (fun v L1 W' => ∃ y1 S2 S4 S6, v = (.tuple #[]) ∧ L1 = ((M, Ob #[u, y1, a, c, j, (.int .i64 J)] 189) :: (G ++ (S2 ++ (S4 ++ (S6 ++ (y ++ [])))))) ∧ my 52 lD 9 y1 r.1 S2 ∧ nT (fun (x : lC) => (.agg (lE x).toArray)) (my 52 lD 9) a r.2.1 S4 ∧ nT Value.string (my 52 lD 9) c r.2.2 S6) := by
 refine AF h0 55 func187 rfl (fun d => sg (VE (mI d rfl (fun W2 b1 d => ln (me ?_)))))
 replace d := d.drew
 have m := d.has.lG (Kb Sn)
 have n := d.has.lG (Db (Kb Sn))
 refine xq 10 m n mu (nt 0 rfl kr (.inl rfl) rfl dc (fun _ _ h => ⟨h.1, nO br h.2⟩) ⟨m, fun _ => n⟩ (fun _ _ _ _ => lO rfl) (nt 1 rfl kr (.inl rfl) rfl dc (fun _ _ h => ⟨h.1, nO br h.2⟩) ⟨m, fun _ => n⟩ (fun _ _ _ _ => lO rfl) (nt 2 rfl kr (.inl rfl) rfl dc (fun _ _ h => ⟨h.1, nO br h.2⟩) ⟨m, fun _ => n⟩ (fun _ _ _ _ => nN rfl) (nt 3 rfl kr (.inl rfl) rfl dc (fun _ _ h => ⟨h.1, nO br h.2⟩) ⟨m, fun _ => n⟩ (fun _ _ _ _ => lN JX rfl) (nt 4 rfl kr (.inl rfl) rfl dc (fun _ _ h => ⟨h.1, nO br h.2⟩) ⟨m, fun _ => n⟩ (fun l W s A => have q := (A.2 (s.FQ 10 [4] kr rfl)); lK rfl (ma q Mh rfl eU)) (nt 5 rfl kr (.inl rfl) rfl dc (fun _ _ h => ⟨h.1, nO br h.2⟩) ⟨m, fun _ => n⟩ (fun l W s A => have q := A.1; lK rfl (lP q Mh (lD H) rfl bH aI)) (XE 6 rfl (mN (cs := (lD H).toArray) d (oX rfl) (oR aJ aI cM) (fun k0 g0 d => ?_)))))))))
 have m := d.has.lG (Db (Kb Sn))
 have n := d.has.lG (Db (Db (Kb Sn)))
 refine ⟨⟨m, fun _ => n⟩, ?_⟩
 replace d := d.perm (Nr (Qb (Qb (Qb (Qr Qz)))) Nz)
 refine bS hm fun a5 f0 hm => XE 7 rfl (pf (enc := lD) (v := D) (vs := (.slice (some ⟨g0, 0, none⟩) 1 1)) (R := B) d nj dc pb aJ oG.1 oG.2.1 rfl oG.2.2.1 oG.2.2.2 rfl rfl a6 (Sl.lit (enc := lD) (l := [H]) nj rfl nb rfl (d.at_ (Ma Mh))) f0 (fun k1 k4 b7 d b5 => ?_))
 have m := d.has.lG (Dr (Db (Kb Sn)))
 have n := d.has.lG (Dr (Db (Db (Kb Sn))))
 refine ⟨⟨m, fun _ => n⟩, (nt 8 rfl kr (.inl rfl) rfl dc (fun _ _ h => ⟨h.1, nO br h.2⟩) ⟨m, fun _ => n⟩ (fun _ _ _ _ => nN rfl) (nt 9 rfl kr (.inl rfl) rfl dc (fun _ _ h => ⟨h.1, nO br h.2⟩) ⟨m, fun _ => n⟩ (fun _ _ _ _ => lN JX rfl) ?_))⟩
 obtain ⟨a8, b0, rfl⟩ := b5.form
 let F : Value := (.slice a8 a5.length b0)
 replace d := d.perm (Nb (Pr (Pb (Pb Pz))) Nz)
 refine XO 10 rfl (mh F (#[u, F, a, c, j, (.int .i64 J)]) d rfl rfl iA oc nb rfl (fun k2 d => ?_))
 have m := d.has.lG (Db (Dr (Db (Kb Sn))))
 refine ⟨⟨m, fun h => BN kr h⟩, (nc kr (lU ?_))⟩
 replace d := d.lG (Kb (Kr (Db St)))
 refine me (sg (VA d (Mt (Ma Mh)) (lD H) bH aI (bS hm fun c1 f1 hm => VE (pF d call243 (G2 H _ _  f1) (fun k3 k5 k6 j9 d g4 ab e8 => ?_)))))
 let b8 := (c1.drop (Int.toNat 1))
 obtain ⟨g3, d, g7, ad, f2⟩ := ST.zp d e8 nI
 refine bS hm fun _ b9 hm => VQ (DZ (i := 1) aM aH rfl rfl f2 (tQ b9) (tu b9)) (fun g1 b6 => V (nh aM rfl b6.1) (Wm (ln (mY (fun i E W => ∃ a3 U O, (E 20 = .int .i64 (i : Nat) ∧ E 19 = .int .i64 (b8.length : Nat)) ∧ ST true (keys ((M, Ob #[u, D, a, c, j, (.int .i64 J)] 189) :: (G ++ (B ++ (I ++ (t ++ (y ++ []))))))) w W g3 ((M, Ob #[u, F, a, c, j, (.int .i64 J)] 189) :: ((b1, Ol (lD H) 52) :: (U ++ (b7 ++ (G ++ (t ++ (y ++ O))))))) ∧ E 0 = (.pointer (some ⟨M, 0, none⟩)) ∧ E 3 = (.pointer (some ⟨b1, 0, none⟩)) ∧ E 18 = g1 ∧ nT (fun (x : lC) => (.agg (lE x).toArray)) (my 52 lD 9) a a3 U ∧ qD H K a5 (b8.drop i) a3 = some r) b8.length b6.1.len ⟨Y, I, _, ⟨rfl, rfl⟩, (d.lG (Kb (Sb (Pr Pz) (Sr (Qr (Qr Qz)) St)))), rfl, rfl, rfl, b2, hm⟩ dc dc dc (fun _ _ _ h => by obtain ⟨_, _, _, aa, _⟩ := h; exact aa) ?_ ?_))))
 ·rintro f3 E W d3 ⟨a3, U, O, ⟨eI, eN⟩, d, a2, N, P, Z, g⟩
  obtain ⟨Q, h4, d8, d7, d9⟩ := mM d3
  rw [d8] at g
  refine bg (VQ (pg (enc := lE) (i := (f3 : Int)) (x0 := Q) aM aH P eI b6.1 (aG _) d7) (fun j4 d4 => V (lK rfl (ms d.has d4 bB aH)) (VE (mz d dF (fun i1 j0 d => VO (mh (.agg (lE Q).toArray) ((lE Q).toArray) d rfl rfl aH (px Q) nb rfl (fun i2 d => ln ?_)))))))
  replace d := d.drew
  have m := d.has.lG (Kb (Kb (Kb Sn)))
  refine mO m mu (X 0 rfl m (lO a2) (X 1 rfl m (nN rfl) (X 2 rfl m (lN Nu rfl) (XH 3 rfl m (fun _ q => lK rfl (ma q (Mt Mh) rfl isAgg185)) (XH 4 rfl m (fun _ q => lK rfl (lP q Mh (lE Q) rfl bB aH)) (XH 5 rfl m (fun _ q => lK N (lP q (Mt (Mt Mh)) (lD H) rfl bH aI)) (XE 6 rfl (mN (cs := (lD H).toArray) d (oX rfl) (oR aJ aI cM) (fun i3 e6 d => ?_)))))))))
  have m := d.has.lG (Db (Kb (Kb (Kb Sn))))
  refine ⟨m, ?_⟩
  obtain ⟨h1, d1⟩ := Z
  replace d := d.perm (Nr (Qb (Qb (Qb (Qb Qz)))) Nz)
  refine XE 7 rfl (Oi (k := Q) (x0 := [])  mi yd underlying185 jC (my.nil _ _ _) d d1 rfl rfl (fun i4 f5 h3 h6 e2 d c3 c2 => ?_))
  have m := d.has.lG (Dr (Dr (Db (Kb (Kb (Kb Sn))))))
  refine ⟨m, (X 8 rfl m (wG rfl rfl) (X 10 rfl m (wG rfl rfl) ?_))⟩
  replace d := d.perm (Nr (Qr Qz) Nz)
  refine bS g fun c0 c8 g => XE 9 rfl (pf (enc := lD) (v := f5) (vs := (.slice (some ⟨e6, 0, none⟩) 1 1)) (R := e2) d nj dc pb aJ oG.1 oG.2.1 rfl oG.2.2.1 oG.2.2.2 rfl rfl c3 (Sl.lit (enc := lD) (l := [H]) nj rfl nb rfl (d.at_ (Ma (Ma Mh)))) c8 (fun i5 j5 h7 d c4 => ?_))
  have m := d.has.lG (Dr (Dr (Db (Kb (Kb (Kb Sn))))))
  refine ⟨m, ?_⟩
  replace d := d.perm (Nr (Qr Qz) Nz)
  refine XO 11 rfl (Mp (e := 0) (z := c0)  mi yd d c2 rfl rfl rfl c4 (fun i6 h2 e3 d c5 => ?_))
  have m := d.has.lG (Dr (Db (Kb (Kb (Kb Sn)))))
  refine ⟨m, (nc kr (mL (lU ?_)))⟩
  replace d := d.lG (Kr (Db (Db St)))
  exact ⟨eI, (oz lZ a3 Q c0), e3, _, ⟨rfl, eN⟩, (d.lG (Sb (Pr Pz) (Sb (Pr Pz) St))), a2, N, P, c5.e, (by rw [d9]; exact g)⟩
 rintro E W ⟨a3, U, O, ⟨eI, eN⟩, d, a2, N, P, Z, g⟩
 rw [aK] at g
 refine lU (sg (V (lN zx N) (VB d (Mt Mh) rfl rfl cP (Wi rfl (ln (CI g rfl (fun c9 g => ?_) (fun c9 g => ?_)))))))
 ·replace d := d.drew
  have m := d.has.lG (Kb (Kb Sn))
  have n := d.has.lG (Db (Db (Dr (Dr (Dr (Kr Sn))))))
  refine xq 15 m n mu (nt 0 rfl kr (.inl rfl) rfl dc (fun _ _ h => ⟨h.1, nO br h.2⟩) ⟨m, fun _ => n⟩ (fun _ _ _ _ => lO a2) (nt 1 rfl kr (.inl rfl) rfl dc (fun _ _ h => ⟨h.1, nO br h.2⟩) ⟨m, fun _ => n⟩ (fun _ _ _ _ => nN rfl) (nt 2 rfl kr (.inl rfl) rfl dc (fun _ _ h => ⟨h.1, nO br h.2⟩) ⟨m, fun _ => n⟩ (fun _ _ _ _ => lN Jr rfl) (nt 3 rfl kr (.inl rfl) rfl dc (fun _ _ h => ⟨h.1, nO br h.2⟩) ⟨m, fun _ => n⟩ (fun l W s A => have q := A.1; lK rfl (ma q Mh rfl isAgg186)) (nt 4 rfl kr (.inl rfl) rfl dc (fun _ _ h => ⟨h.1, nO br h.2⟩) ⟨m, fun _ => n⟩ (fun _ _ _ _ => lN AV N) (nt 5 rfl kr (.inl rfl) rfl dc (fun _ _ h => ⟨h.1, nO br h.2⟩) ⟨m, fun _ => n⟩ (fun l W s A => have q := A.1; lK rfl (ma q (Mt Mh) rfl bZ)) (nt 6 rfl kr (.inl rfl) rfl dc (fun _ _ h => ⟨h.1, nO br h.2⟩) ⟨m, fun _ => n⟩ (fun _ _ _ _ => lO a2) (nt 7 rfl kr (.inl rfl) rfl dc (fun _ _ h => ⟨h.1, nO br h.2⟩) ⟨m, fun _ => n⟩ (fun _ _ _ _ => nN rfl) (nt 8 rfl kr (.inl rfl) rfl dc (fun _ _ h => ⟨h.1, nO br h.2⟩) ⟨m, fun _ => n⟩ (fun _ _ _ _ => lN Jr rfl) (nt 9 rfl kr (.inl rfl) rfl dc (fun _ _ h => ⟨h.1, nO br h.2⟩) ⟨m, fun _ => n⟩ (fun l W s A => have q := A.1; lK rfl (ma q Mh rfl isAgg186)) (nt 10 rfl kr (.inl rfl) rfl dc (fun _ _ h => ⟨h.1, nO br h.2⟩) ⟨m, fun _ => n⟩ (fun _ _ _ _ => lN AV N) (nt 11 rfl kr (.inl rfl) rfl dc (fun _ _ h => ⟨h.1, nO br h.2⟩) ⟨m, fun _ => n⟩ (fun l W s A => have q := A.1; lK rfl (ma q (Mt Mh) rfl bZ)) ?_))))))))))))
  obtain ⟨e0, L⟩ := T
  obtain ⟨h8, g8, g9⟩ := oN.rowAt nY.1 L H.mK
  refine nt 12 rfl kr (.inl rfl) rfl dc (fun _ _ h => ⟨h.1, nO br h.2⟩) ⟨m, fun _ => n⟩ (fun l W s A => have q := (A.2 (s.FQ 15 [12] kr rfl)); rl (k := H.mK) (z := (.slice none 0 0)) GC underlying186 jC rfl rfl L (fun b o hq => q.2 b o (Ml hq))) (nt 13 rfl kr (.inl rfl) rfl dc (fun _ _ h => ⟨h.1, nO br h.2⟩) ⟨m, fun _ => n⟩ (fun l W s A => have q := A.1; lK N (lP q (Mt Mh) (lD H) rfl bH aI)) (XE 14 rfl (mN (cs := (lD H).toArray) d (oX rfl) (oR aJ aI cM) (fun i7 e7 d => ?_))))
  have m := d.has.lG (Db (Kb (Kb Sn)))
  have n := d.has.lG (Db (Db (Db (Dr (Dr (Dr (Kr Sn)))))))
  refine ⟨⟨m, fun _ => n⟩, ?_⟩
  replace d := d.perm (Nr (Qb (Qb (Qb (Qr (Qr (Qr Qz)))))) Nz)
  obtain ⟨h9, e4, d5, d6, d2⟩ := oN.open nY.1 (my.nil _ _ _) L H.mK
  replace d := d.perm (VD d5)
  replace d := d.perm (Nr (Qr Qz) Nz)
  refine bS g fun f4 d0 g => XE 15 rfl (pf (enc := lD) (v := (tZ nq e0 H.mK (.slice none 0 0))) (vs := (.slice (some ⟨e7, 0, none⟩) 1 1)) (R := e4) d nj dc pb aJ oG.1 oG.2.1 rfl oG.2.2.1 oG.2.2.2 rfl rfl d6 (Sl.lit (enc := lD) (l := [H]) nj rfl nb rfl (d.at_ (Ma (Ma Mh)))) d0 (fun i8 j6 i0 d c6 => ?_))
  have m := d.has.lG (Dr (Dr (Db (Kb (Kb Sn)))))
  refine ⟨⟨m, fun h => BN kr h⟩, ?_⟩
  replace d := d.perm (Nr (Qr Qz) Nz)
  refine XO 16 rfl (Ts (k := H.mK) (z := f4)  GC underlying186 d d2 rfl rfl rfl c6 (fun i9 e5 d c7 => ?_))
  have m := d.has.lG (Dr (Db (Kb (Kb Sn))))
  refine ⟨⟨m, fun h => BN kr h⟩, (nc kr (rD ?_))⟩
  obtain rfl := sj g
  exact qg rfl ⟨_, _, rfl, (d.ol (Sb (Pr (Pb Pz)) (Sr (Qr (Qb (Qb (Qr (Qr Qz))))) (Sr (Qr (Qb (Qb (Qr Qz)))) (Sr (Qr (Qb (Qb Qz))) (Kr (Db (Db (Kr Sn))))))))), F, b7, U, e5, rfl, rfl, b5, Z, c7.e⟩
 refine np (rD ?_)
 obtain rfl := sj g
 exact qg rfl ⟨_, _, rfl, (d.ol (Kb (Db (Sr (Qr (Qr Qz)) (Sr (Qr Qz) (Kr (Kr (Kr Sn)))))))), F, b7, U, t, rfl, rfl, b5, Z, T⟩
theorem tC (J : Nat) (g : Value) (a0 : List (lC × (List (ByteArray × Bool)))) (D : LO) (a : Value) (M : List lB) (u : LO) (j : Value) (Z : List (lC × (List lB))) (B : LO) (c : Value) (N : List (ByteArray × (List lB))) (y : LO) (i : Value) (Y : List lY) (t : LO) (H : Int) (G : lC) (U : ByteArray) (r : ((List (lC × (List (ByteArray × Bool)))) × (List lY) × Int)) (w : World) {μ0 : mF} (h0 : po μ0 ((J, Ob #[g, a, j, c, i, (.int .i64 H)] 189) :: (D ++ (u ++ (B ++ (y ++ (t ++ [])))))) w) (a5 : nT (fun (x : lC) => (.agg (lE x).toArray)) (mJ Value.string (fun (x : Bool) => (Value.bool x))) g a0 D) (b5 : my 52 lD 9 a M u) (c3 : nT (fun (x : lC) => (.agg (lE x).toArray)) (my 52 lD 9) j Z B) (b6 : nT Value.string (my 52 lD 9) c N y) (K : sd 111 nU 3 i Y t) (hm : pM a0 M Z N Y H G U = some r) :
  nH true Tryz.prog 244 [(.pointer (some ⟨J, 0, none⟩)), (.agg (lE G).toArray), (.string U)] w ((J, Ob #[g, a, j, c, i, (.int .i64 H)] 189) :: (D ++ (u ++ (B ++ (y ++ (t ++ [])))))) (fun v L1 W' => ∃ S1 y3 S4, v = (.tuple #[]) ∧ L1 = ((J, Ob #[g, a, j, c, y3, (.int .i64 (r.2.2))] 189) :: (S1 ++ (u ++ (B ++ (y ++ (S4 ++ [])))))) ∧ nT (fun (x : lC) => (.agg (lE x).toArray)) (mJ Value.string (fun (x : Bool) => (Value.bool x))) g r.1 S1 ∧ sd 111 nU 3 y3 r.2.1 S4) := by
 let a1 := (#[g, a, j, c, i, (.int .i64 H)] : Array Value)
 refine AF h0 53 func244 rfl (fun m => sg (VE (mI m rfl (fun W2 b1 m => ln (me (me ?_))))))
 replace m := m.drew
 have d := m.has.lG (Kb (Kb (Kr Sn)))
 refine mO d mu (X 0 rfl d (lO rfl) (X 1 rfl d (nN rfl) (X 2 rfl d (lN yT rfl) (XH 3 rfl d (fun _ q => lK rfl (ma q (Mt Mh) rfl jD)) (XH 4 rfl d (fun _ q => lK rfl (lP q Mh (lE G) rfl bB aH)) ?_)))))
 obtain ⟨f4, Q⟩ := a5
 refine XH 5 rfl d (fun _ q => rl (k := G) (z := (.map none)) yd fR gY rfl rfl Q (fun b o F => q.2 b o (Mt (Mt (Ml F))))) (X 6 rfl d (lO rfl) (XH 7 rfl d (fun _ q => uK (k := U) (z := false) (vf := (fun (x : Bool) => (Value.bool x))) GC fS gM rfl rfl (oN.Fq (μ := hp _) mi.1 Q G (fun b o F => q.2 b o (Mt (Mt (Ml F)))))) (nc kr (lU (CI hm rfl (fun d5 hm => ?_) (fun d5 hm => ?_))))))
 ·refine mB (mQ ?_)
  obtain rfl := sj hm
  exact qg rfl ⟨_, _, rfl, (m.ol (Db (Kb (Kr (Kr (Kr (Kr (Kr Sn)))))))), D, i, t, rfl, rfl, Q.e, K⟩
 refine kn (me (CJ hm (fun b2 E W => ∃ O c0, ST true (keys ((J, Obj.cells a1 189 (0, 0)) :: (D ++ (u ++ (B ++ (y ++ (t ++ []))))))) w W μ0 ((b1, Ol (lE G) 50) :: ((J, Obj.cells a1 189 (0, 0)) :: (O ++ (u ++ (B ++ (y ++ (t ++ c0))))))) ∧ E 0 = (.pointer (some ⟨J, 0, none⟩)) ∧ E 2 = (.string U) ∧ E 4 = (.pointer (some ⟨b1, 0, none⟩)) ∧ nT (fun (x : lC) => (.agg (lE x).toArray)) (mJ Value.string (fun (x : Bool) => (Value.bool x))) g b2 O) (fun b2 I => ?_) ?_))
 ·refine me ?_
  replace m := m.drew
  have d := m.has.lG (Kb (Kb (Kr Sn)))
  refine mO d mu (X 0 rfl d (lO rfl) (X 1 rfl d (nN rfl) (X 2 rfl d (lN yT rfl) (XH 3 rfl d (fun _ q => lK rfl (ma q (Mt Mh) rfl jD)) (XH 4 rfl d (fun _ q => lK rfl (lP q Mh (lE G) rfl bB aH)) (XH 5 rfl d (fun _ q => rl (k := G) (z := (.map none)) yd fR gY rfl rfl Q (fun b o F => q.2 b o (Mt (Mt (Ml F))))) (X 6 rfl d (MJ mi.1 fS Q rfl rfl) (nc kr (lU (CI I rfl (fun b7 I => ?_) (fun b7 I => ?_)))))))))))
  ·replace m := m.drew
   have d := m.has.lG (Kb (Kb Sn))
   refine mO d mu (X 0 rfl d (lO rfl) (X 1 rfl d (nN rfl) (X 2 rfl d (lN yT rfl) (XH 3 rfl d (fun _ q => lK rfl (ma q (Mt Mh) rfl jD)) (XH 4 rfl d (fun _ q => lK rfl (lP q Mh (lE G) rfl bB aH)) (XE 5 rfl (yz (P := Tryz.prog) Value.string (fun (x : Bool) => (Value.bool x)) m (fun e1 e7 d9 m b3 => ?_))))))))
   have d := m.has.lG (Dr (Kb (Kb Sn)))
   refine ⟨d, ?_⟩
   replace m := m.perm (Nr (Qr (Qb (Qb Qz))) Nz)
   refine bS I fun e4 b9 I => XO 6 rfl (Qk (k := G) (z := ([]))  yd fR m Q rfl rfl rfl b3 b9 (fun e2 c4 m b4 => ?_))
   have d := m.has.lG (Dr (Kb (Kb Sn)))
   refine ⟨d, (nc kr (lU ?_))⟩
   obtain rfl := sj I
   exact ⟨c4, _, (m.lG (Sb (Pr Pz) (Sb (Pr Pz) St))), rfl, rfl, rfl, b4.e⟩
  refine kn ?_
  obtain rfl := sj I
  exact ⟨D, _, (m.lG St), rfl, rfl, rfl, Q.e⟩
 rintro f2 E W ⟨O, c0, m, L, c1, c2, c8⟩ T
 refine me ?_
 replace m := m.drew
 have d := m.has.lG (Kb (Kb Sn))
 have n := m.has.lG (Db (Db (Kr Sn)))
 refine xq 7 d n mu (nt 0 rfl kr (.inl rfl) rfl dc (fun _ _ h => ⟨h.1, nO br h.2⟩) ⟨d, fun _ => n⟩ (fun _ _ _ _ => lO L) (nt 1 rfl kr (.inl rfl) rfl dc (fun _ _ h => ⟨h.1, nO br h.2⟩) ⟨d, fun _ => n⟩ (fun _ _ _ _ => nN rfl) (nt 2 rfl kr (.inl rfl) rfl dc (fun _ _ h => ⟨h.1, nO br h.2⟩) ⟨d, fun _ => n⟩ (fun _ _ _ _ => lN yT rfl) (nt 3 rfl kr (.inl rfl) rfl dc (fun _ _ h => ⟨h.1, nO br h.2⟩) ⟨d, fun _ => n⟩ (fun l W s A => have q := A.1; lK rfl (ma q (Mt Mh) rfl jD)) (nt 4 rfl kr (.inl rfl) rfl dc (fun _ _ h => ⟨h.1, nO br h.2⟩) ⟨d, fun _ => n⟩ (fun l W s A => have q := A.1; lK c2 (lP q Mh (lE G) rfl bB aH)) ?_)))))
 obtain ⟨e5, a9⟩ := c8
 refine nt 5 rfl kr (.inl rfl) rfl dc (fun _ _ h => ⟨h.1, nO br h.2⟩) ⟨d, fun _ => n⟩ (fun l W s A => have q := (A.2 (s.FQ 7 [5] kr rfl)); rl (k := G) (z := (.map none)) yd fR gY rfl rfl a9 (fun b o F => q.2 b o (Ml F))) (nt 6 rfl kr (.inl rfl) rfl dc (fun _ _ h => ⟨h.1, nO br h.2⟩) ⟨d, fun _ => n⟩ (fun _ _ _ _ => lO c1) ?_)
 replace m := m.perm (Nr (Qb (Qb Qz)) Nz)
 refine bS T fun f3 c7 T => XO 7 rfl (OT (k := G) (v := true) (vf := (fun (x : Bool) => (Value.bool x)))  mi.1 GC fS m a9 rfl rfl rfl c7 (fun e8 c9 m c5 => ?_))
 have d := m.has.lG (Dr (Kb (Kb Sn)))
 refine ⟨⟨d, fun h => BN kr h⟩, (nc kr (lU (sg (Wh L (Wn (Wf G7 (VB m (Ma (Mt Mh)) rfl rfl cP (Wi rfl (Wn (Wf G7 ?_))))))))))⟩
 replace m := m.perm (Nb (Pr (Pb Pz)) Nz)
 refine VO (mh (.int .i64 (IntKind.i64.wrap (H + 1))) (#[g, a, j, c, i, (.int .i64 (IntKind.i64.wrap (H + 1)))]) m rfl rfl iG (D8 _ (IntKind.i64.wrap (H + 1))) nb rfl (fun e9 m => ln ?_))
 replace m := m.drew
 have d := m.has.lG (Db (Dr (Kb Sn)))
 have n := m.has.lG (Kb Sn)
 refine xq 12 d n mu (nt 0 rfl kr (.inl rfl) rfl dc (fun _ _ h => ⟨h.1, nO br h.2⟩) ⟨d, fun _ => n⟩ (fun _ _ _ _ => lO L) (nt 1 rfl kr (.inl rfl) rfl dc (fun _ _ h => ⟨h.1, nO br h.2⟩) ⟨d, fun _ => n⟩ (fun _ _ _ _ => lO L) (nt 2 rfl kr (.inl rfl) rfl dc (fun _ _ h => ⟨h.1, nO br h.2⟩) ⟨d, fun _ => n⟩ (fun _ _ _ _ => nN rfl) (nt 3 rfl kr (.inl rfl) rfl dc (fun _ _ h => ⟨h.1, nO br h.2⟩) ⟨d, fun _ => n⟩ (fun _ _ _ _ => lN CA rfl) (nt 4 rfl kr (.inl rfl) rfl dc (fun _ _ h => ⟨h.1, nO br h.2⟩) ⟨d, fun _ => n⟩ (fun l W s A => have q := (A.2 (s.FQ 12 [4] kr rfl)); lK rfl (ma q Mh rfl isAgg187)) (nt 5 rfl kr (.inl rfl) rfl dc (fun _ _ h => ⟨h.1, nO br h.2⟩) ⟨d, fun _ => n⟩ (fun l W s A => have q := A.1; lK c2 (lP q Mh (lE G) rfl bB aH)) (nt 6 rfl kr (.inl rfl) rfl dc (fun _ _ h => ⟨h.1, nO br h.2⟩) ⟨d, fun _ => n⟩ (fun _ _ _ _ => lO c1) (nt 7 rfl kr (.inl rfl) rfl dc (fun _ _ h => ⟨h.1, nO br h.2⟩) ⟨d, fun _ => n⟩ (fun _ _ _ _ => nZ (v := (.agg (nU (⟨G, U⟩ : lY)).toArray)) (rA rfl rfl) (nB lc ij (RN _ ij) kr)) (XE 8 rfl (mN (cs := (nU (⟨G, U⟩ : lY)).toArray) m (oX rfl) (oR jw kW lc) (fun f0 d4 m => ?_)))))))))))
 have d := m.has.lG (Db (Db (Dr (Kb Sn))))
 have n := m.has.lG (Db (Kb Sn))
 refine ⟨⟨d, fun _ => n⟩, ?_⟩
 replace m := m.perm (Nr (Qb (Qb (Qr (Qb (Qr (Qr (Qr Qz))))))) Nz)
 refine bS T fun b0 c6 T => XE 9 rfl (MP (enc := nU) (v := i) (vs := (.slice (some ⟨d4, 0, none⟩) 1 1)) (R := t) m yZ dc M4 jw Hg.1 Hg.2.1 rfl Hg.2.2.1 Hg.2.2.2 rfl rfl K (Sl.lit (enc := nU) (l := [(⟨G, U⟩ : lY)]) yZ rfl nb rfl (m.at_ (Ma Mh))) c6 (fun f1 e6 d0 m a7 => ?_))
 have d := m.has.lG (Dr (Db (Db (Dr (Kb Sn)))))
 have n := m.has.lG (Dr (Db (Kb Sn)))
 refine ⟨⟨d, fun _ => n⟩, (nt 10 rfl kr (.inl rfl) rfl dc (fun _ _ h => ⟨h.1, nO br h.2⟩) ⟨d, fun _ => n⟩ (fun _ _ _ _ => nN rfl) (nt 11 rfl kr (.inl rfl) rfl dc (fun _ _ h => ⟨h.1, nO br h.2⟩) ⟨d, fun _ => n⟩ (fun _ _ _ _ => lN CA rfl) ?_))⟩
 obtain ⟨a3, a4, rfl⟩ := a7.form
 let a2 : Value := (.slice a3 b0.length a4)
 replace m := m.perm (Nb (Pr (Pb Pz)) Nz)
 refine XO 12 rfl (mh a2 (#[g, a, j, c, a2, (.int .i64 (IntKind.i64.wrap (H + 1)))]) m rfl rfl sizeOf187 oc nb rfl (fun e0 m => ?_))
 have d := m.has.lG (Db (Dr (Db (Dr (Kb Sn)))))
 refine ⟨⟨d, fun h => BN kr h⟩, (nc kr (rD ?_))⟩
 obtain rfl := sj T
 exact qg rfl ⟨_, _, rfl, (m.ol (Kb (Sr (Qr (Qb Qz)) (Sr (Qr (Qb (Qb Qz))) (Sr (Qr (Qb (Qb Qz))) (Sr (Qr (Qb (Qb Qz))) (Kr Sn))))))), c9, a2, d0, rfl, rfl, c5.e, a7⟩
theorem xT (a : Value) (g : List (ByteArray × Bool)) (r : Unit) (w : World) (c : sy Value.string (fun (x : Bool) => (Value.bool x)) (hp w) a g) (hm : qR g = some r) :
  nH true Tryz.prog 283 [a] w [] (fun v k W' => ∃ i, v = (.func (.func 319) #[] #[(.pointer (some ⟨i, 0, none⟩))]) ∧ k = ((i, Ob #[a] 190) :: [])) := by
 refine vV 4 func283 rfl (fun b => sg ?_)
 obtain ⟨t, rfl⟩ := c.form
 refine VE (mI b rfl (fun u j b => Wa (lr (V (qk (by exact uC rfl) rfl) (Wa (lt ?_))))))
 obtain rfl := sj hm
 exact ng (v := (.func (.func 319) #[] #[(.pointer (some ⟨j, 0, none⟩))])) rfl rfl ⟨_, _, rfl, (b.Pq (Kb Sn)), j, rfl, rfl⟩
theorem JB {β : Type} {vf : β → Value} {l : List (ByteArray × β)} {b : Nat} {a : Value} {W : World} {r : List ByteArray} (c : W.heap[b]? = some (.cells #[a] 190 (0, 0))) (hm : sy Value.string vf (hp W) a l) (hk : IC l = some r) : nC false Tryz.prog 282 [.func (.func 319) #[] #[.pointer (some ⟨b, 0, none⟩)]] W 9 Fa 1 r := My (P := Tryz.prog) SL SG TI rfl bU call319 call310 c hm hk
theorem Am (T : Nat) (a : Value) (u : List (lC × (List (ByteArray × Bool)))) (c : Value) (t : List lB) (j : Value) (G : List (lC × (List lB))) (g : Value) (B : List (ByteArray × (List lB))) (i : Value) (D : List lY) (Q : Int) (H : lC) (r : List ByteArray) (w : World) (J : ud (fun (x : lC) => (.agg (lE x).toArray)) (mJ Value.string (fun (x : Bool) => (Value.bool x))) (hp w) a u) (Z : Sl (Pl lD) 9 (hp w) c t) (a4 : ud (fun (x : lC) => (.agg (lE x).toArray)) (my 52 lD 9) (hp w) j G) (a0 : ud Value.string (my 52 lD 9) (hp w) g B) (a3 : Sl (Pl nU) 3 (hp w) i D) (Y : At (hp w) (.pointer (some ⟨T, 0, none⟩)) [a, c, j, g, i, (.int .i64 Q)]) (hm : sM u t G B D Q H = some r) :
  nC false Tryz.prog 245 [(.pointer (some ⟨T, 0, none⟩)), (.agg (lE H).toArray)] w 9 Fa 1 r := by
 refine vV 15 func245 rfl (fun d => sg (VE (mI d rfl (fun W2 R d => Wa (lS (Wm (V (tN underlying132 rfl rfl) (ln (qi rfl ?_)))))))))
 refine kn (me ?_)
 replace d := d.drew
 have h := d.has.lG (Kb Sn)
 refine mO h mu (X 0 rfl h (lO rfl) (X 1 rfl h (nN rfl) (XQ 2 rfl h (sO [a] yT rfl Y rfl) (fun b9 A => XH 3 rfl h (fun _ l => lK rfl (pp l (y := a) A jD)) (XH 4 rfl h (fun _ l => lK rfl (lP l Mh (lE H) rfl bB aH)) ?_)))))
 obtain ⟨a9, b4, K, M⟩ := J
 refine XH 5 rfl h (fun _ l => rl (k := H) (z := (.map none)) yd fR gY rfl rfl K (fun b o m => l.1 b o (M b o m))) (bS hm fun c0 F hm => ?_)
 refine XE 6 rfl (FO d (bE _) call283 (fun _ _ _ _ => nH.nz (xT (tZ lZ a9 H (.map none)) ((nA lZ u H).getD []) _ _ ((oN.Fq mi.1 K H M).mono d.lJ) F)) (fun b5 c2 c3 W d I q n a5 => ?_) (L0 := []))
 obtain ⟨b7, N, rfl⟩ := a5
 replace N := N.symm; subst N
 replace d := d.perm (Tb Tn)
 have h := d.has.pC I (Db (Kb Sn))
 refine ⟨h, (bS hm fun c1 L hm => XE 7 rfl (pF d call282 (JB (vf := (fun (x : Bool) => (Value.bool x))) (d.has.2 _ _ Mh) ((oN.Fq mi.1 K H M).mono (fun b o m => d.has.1 b o (I b o m))) L) (fun b6 P c4 O d a2 s U => ?_)))⟩
 have h := d.has.pC (I.trans a2) (Dr (Db (Kb Sn)))
 refine ⟨h, (X 8 rfl h (oL rfl) (nc kr (lU ?_)))⟩
 replace d := d.lG (Kr (Db (Db St)))
 refine mB ?_
 obtain rfl := sj hm
 exact ng (v := P) rfl rfl ⟨_, O, rfl, d.oA (fun p m => (Ml m)) U.nd, U⟩
theorem FU (K : Nat) (g : Value) (N : List (lC × (List (ByteArray × Bool)))) (G : LO) (a : Value) (H : List lB) (k : LO) (j : Value) (J : List (lC × (List lB))) (u : LO) (c : Value) (I : List (ByteArray × (List lB))) (t : LO) (z : Value) (M : List lY) (B : LO) (Z : Int) (A a2 : lC) (r : ((List (lC × (List (ByteArray × Bool)))) × (List lY) × Int)) (w : World) {μ0 : mF} (h0 : po μ0 ((K, Ob #[g, a, j, c, z, (.int .i64 Z)] 189) :: (G ++ (k ++ (u ++ (t ++ (B ++ [])))))) w) (a5 : nT (fun (x : lC) => (.agg (lE x).toArray)) (mJ Value.string (fun (x : Bool) => (Value.bool x))) g N G) (Q : my 52 lD 9 a H k) (a4 : nT (fun (x : lC) => (.agg (lE x).toArray)) (my 52 lD 9) j J u) (T : nT Value.string (my 52 lD 9) c I t) (a3 : sd 111 nU 3 z M B) (hm : wk N H J I M Z A a2 = some r) :
  nH false Tryz.prog 284 [(.pointer (some ⟨K, 0, none⟩)), (.agg (lE A).toArray), (.agg (lE a2).toArray)] w ((K, Ob #[g, a, j, c, z, (.int .i64 Z)] 189) :: (G ++ (k ++ (u ++ (t ++ (B ++ [])))))) (fun v L1 W' => ∃ S1 y3 S4, v = (.tuple #[]) ∧ L1 = ((K, Ob #[g, a, j, c, y3, (.int .i64 (r.2.2))] 189) :: (S1 ++ (k ++ (u ++ (t ++ (S4 ++ [])))))) ∧ nT (fun (x : lC) => (.agg (lE x).toArray)) (mJ Value.string (fun (x : Bool) => (Value.bool x))) g r.1 S1 ∧ sd 111 nU 3 y3 r.2.1 S4) := by
 refine AF h0 21 func284 rfl (fun d => sg (VE (mI d rfl (fun W2 b1 d => VE (mI d rfl (fun W4 b3 d => lr (Wm (VA d (Mt Mh) (lE A) bB aH (bS hm fun r5 e6 hm => VE (pF d call245 (Am K g N a H j J c I z M Z A _ _ (a5.at (fun b o l => d.at_ (Mt (Mt (Mt (Ml l)))))) (Q.sl nj (fun b o l => d.at_ (Mt (Mt (Mt (Ma (Ml l))))))) (a4.at (fun b o l => d.at_ (Mt (Mt (Mt (Ma (Ma (Ml l)))))))) (T.at (fun b o l => d.at_ (Mt (Mt (Mt (Ma (Ma (Ma (Ml l))))))))) ((a3.Er yZ).mono (Pl.mono _) (ou (fun b o l => d.at_ (Mt (Mt (Mt (Ma (Ma (Ma (Ma (Ml l))))))))))) (At.of (d.at_ (Mt (Mt Mh))) _ rfl) e6) (fun W7 e7 s e2 d f5 ae a9 => V (qb kO rfl a9) (Wm ?_))))))))))))
 refine ln ?_
 replace d := d.lG (Kr (Kb (Db St)))
 refine xg (mY (fun i E W => ∃ m U a0 n Y q F P, (E 12 = .int .i64 (i : Nat) ∧ E 11 = .int .i64 (r5.length : Nat)) ∧ mn s F ∧ ST false (keys ((K, Ob #[g, a, j, c, z, (.int .i64 Z)] 189) :: (G ++ (k ++ (u ++ (t ++ (B ++ []))))))) w W F ((K, Ob #[g, a, j, c, a0, (.int .i64 q)] 189) :: ((b3, Ol (lE a2) 50) :: (U ++ (k ++ (u ++ (t ++ (Y ++ (e2 ++ P)))))))) ∧ E 0 = (.pointer (some ⟨K, 0, none⟩)) ∧ E 5 = (.pointer (some ⟨b3, 0, none⟩)) ∧ E 10 = e7 ∧ nT (fun (x : lC) => (.agg (lE x).toArray)) (mJ Value.string (fun (x : Bool) => (Value.bool x))) g m U ∧ sd 111 nU 3 a0 n Y ∧ sa H J I a2 (r5.drop i) m n q = some r) r5.length a9.len ⟨N, G, z, M, B, Z, s, _, ⟨rfl, rfl⟩, (mn.refl _), (d.lG (Sb (Pr (Pb Pz)) (Sb (Pr Pz) (Sr (Qr Qz) (Sr (Qr Qz) (Sr (Qr Qz) (Sr (Qr Qz) (Sr (Qr Qz) St)))))))), rfl, rfl, rfl, a5, a3, hm⟩ dc dc dc (fun _ _ _ h => by obtain ⟨_, _, _, _, _, _, _, _, aa, _⟩ := h; exact aa) ?_ ?_)
 ·rintro d8 E W c9 ⟨m, U, a0, n, Y, q, F, P, ⟨eI, eN⟩, b6, d, R, c1, c2, L, O, D⟩
  obtain ⟨c4, f0, d2, c5, d3⟩ := mM c9
  rw [d2] at D
  refine bg (VQ (pu (i := (d8 : Int)) (x0 := c4) kO iF c2 eI a9 (aG _) c5) (fun f6 d0 => V (lK rfl (Ld d.has (fun p l => (Mt (Mt (Ma (Ma (Ma (Ma (Ma (Ml l))))))))) a9 (fun _ => rfl) d0 c5 (y := (.string c4)) rfl bZ)) (Wa (ln (mc (Wh R (V (lK c1 (lP d.has (Mt Mh) (lE a2) rfl bB aH)) (Wm (bS D fun c3 d1 D => ?_)))))))))
  refine VE (eM d (Cb Pz (Cr (Qb Qz) (Cr (Qb Qz) (Cr (Qb Qz) (Cr (Qb Qz) (Cr (Qb Qz) Cn)))))) call244 (fun hh _ => nH.nz (tC K g m U a H k j J u c I t a0 n Y q a2 c4 _ _ hh L Q a4 T O d1)) ?_)
  rintro _ f7 e1 f2 d c7 ab ad ⟨d6, e0, d7, b4, rfl, d4, d5⟩
  obtain rfl := b4.symm
  replace d := d.perm (Tb (Tr (Tr (Tr (Tr (Tr Tn))))))
  exact mD (mL (lU ⟨eI, c3.1, d6, e0, c3.2.1, d7, c3.2.2, e1, _, ⟨rfl, eN⟩, (b6.trans c7), (d.lG (Kb (Sb (Pr (Pr (Pr (Pr (Pr Pz))))) St))), R, c1, c2, d4, d5, (by rw [d3]; exact D)⟩))
 rintro E W ⟨m, U, a0, n, Y, q, F, P, ⟨eI, eN⟩, b6, d, R, c1, c2, L, O, D⟩
 rw [aK] at D
 refine lU ?_
 replace d := d.lG (Kb (Db (Kr (Kr (Kr (Kr (Kr (Dr St))))))))
 refine rD ?_
 obtain rfl := sj D
 exact qg rfl ⟨_, _, rfl, (d.ol (Kb (Kr (Kr (Kr (Kr (Kr Sn))))))), U, a0, Y, rfl, rfl, L, O⟩
theorem Ba (K : Nat) (G : Value) (Z : List (lC × (List (ByteArray × Bool)))) (D : LO) (g : Value) (I : List lB) (a : LO) (B : Value) (N : List (lC × (List lB))) (y : LO) (i : Value) (J : List (ByteArray × (List lB))) (c : LO) (t : Value) (M : List lY) (j : LO) (a0 : Int) (Q : lB) (a2 : lY) (r : ((List (lC × (List (ByteArray × Bool)))) × (List lY) × Int)) (w : World) {μ0 : mF} (h0 : po μ0 ((K, Ob #[G, g, B, i, t, (.int .i64 a0)] 189) :: (D ++ (a ++ (y ++ (c ++ (j ++ [])))))) w) (U : nT (fun (x : lC) => (.agg (lE x).toArray)) (mJ Value.string (fun (x : Bool) => (Value.bool x))) G Z D) (T : my 52 lD 9 g I a) (a3 : nT (fun (x : lC) => (.agg (lE x).toArray)) (my 52 lD 9) B N y) (Y : nT Value.string (my 52 lD 9) i J c) (H : sd 111 nU 3 t M j) (hm : uc Z I N J M a0 Q a2 = some r) :
  nH false Tryz.prog 246 [(.pointer (some ⟨K, 0, none⟩)), (.agg (lD Q).toArray), (.agg (nU a2).toArray)] w ((K, Ob #[G, g, B, i, t, (.int .i64 a0)] 189) :: (D ++ (a ++ (y ++ (c ++ (j ++ [])))))) (fun v L1 W' => ∃ S1 y3 S4, v = (.tuple #[]) ∧ L1 = ((K, Ob #[G, g, B, i, y3, (.int .i64 (r.2.2))] 189) :: (S1 ++ (a ++ (y ++ (c ++ (S4 ++ [])))))) ∧ nT (fun (x : lC) => (.agg (lE x).toArray)) (mJ Value.string (fun (x : Bool) => (Value.bool x))) G r.1 S1 ∧ sd 111 nU 3 y3 r.2.1 S4) := by
 let A := (#[G, g, B, i, t, (.int .i64 a0)] : Array Value)
 refine AF h0 57 func246 rfl (fun d => sg (VE (mI d rfl (fun W2 F d => VE (mI d rfl (fun W4 O d => lr (Wf zx (VB d (Mt Mh) rfl rfl cP (ln (nS (me ?_)))))))))))
 refine mc (Wi rfl (Wa (ln (CI hm rfl (fun e5 hm => ?_) (fun e5 hm => ?_)))))
 ·refine mc (Wm (Wf vX (VA d (Mt Mh) (lE Q.Head) bB aH (Wf Cz (VB d Mh rfl rfl bZ (bS hm fun r6 e6 hm => ?_))))))
  refine VE (eM d (Cb (Pb (Pb Pz)) (Cr (Qb (Qb Qz)) (Cr (Qb (Qb Qz)) (Cr (Qb (Qb Qz)) (Cr (Qb (Qb Qz)) (Cr (Qb (Qb Qz)) Cn)))))) call244 (fun s _ => nH.nz (tC K G Z D g I a B N y i J c t M j a0 Q.Head a2.mS _ _ s U T a3 Y H e6)) ?_)
  rintro _ g7 ad f8 d f2 a6 m ⟨d2, e7, d3, a8, rfl, c5, c6⟩
  obtain rfl := a8.symm
  replace d := d.perm (Tb (Tr (Tr (Tr (Tr (Tr Tn))))))
  refine mD (mL (rD ?_))
  obtain rfl := sj hm
  exact qg rfl ⟨_, _, rfl, (d.ol (Kb (Kr (Kr (Kr (Kr (Kr Sn))))))), d2, e7, d3, rfl, rfl, c5, c6⟩
 refine sg (Wi rfl (Wa (ln (CI hm rfl (fun c0 hm => ?_) (fun c0 hm => ?_)))))
 ·refine mc (Wm (Wf Cz (VB d Mh rfl rfl bZ (Wf AV (VB d (Mt Mh) rfl rfl bZ (V (nZ (v := (.agg (lE (⟨a2.mS, Q.mK⟩ : lC)).toArray)) (rA rfl rfl) (nB dF dD (Oh _ dD) kr)) (Wf vX (VA d (Mt Mh) (lE Q.Head) bB aH (bS hm fun g3 c3 hm => ?_)))))))))
  refine VE (eM d (Cb (Pb (Pb Pz)) (Cr (Qb (Qb Qz)) (Cr (Qb (Qb Qz)) (Cr (Qb (Qb Qz)) (Cr (Qb (Qb Qz)) (Cr (Qb (Qb Qz)) Cn)))))) call284 (fun s _ => (FU K G Z D g I a B N y i J c t M j a0 (⟨a2.mS, Q.mK⟩ : lC) Q.Head _ _ s U T a3 Y H c3)) ?_)
  rintro _ g8 h2 f9 d f3 aa m ⟨d4, e9, d5, a9, rfl, c7, c8⟩
  obtain rfl := a9.symm
  replace d := d.perm (Tb (Tr (Tr (Tr (Tr (Tr Tn))))))
  refine mD (mL (rD ?_))
  obtain rfl := sj hm
  exact qg rfl ⟨_, _, rfl, (d.ol (Kb (Kr (Kr (Kr (Kr (Kr Sn))))))), d4, e9, d5, rfl, rfl, c7, c8⟩
 refine sg (Wi rfl (Wa (ln (CI hm rfl (fun c1 hm => ?_) (fun c1 hm => ?_)))))
 ·refine me ?_
  replace d := d.drew
  have h := d.has.lG (Kb (Kb (Kb (Kr Sn))))
  refine mO h mu (X 0 rfl h (lO rfl) (X 1 rfl h (nN rfl) (X 2 rfl h (lN yT rfl) (XH 3 rfl h (fun _ l => lK rfl (ma l (Mt (Mt Mh)) rfl jD)) (X 4 rfl h (lN so rfl) (XH 5 rfl h (fun _ l => lK rfl (lP l (Mt Mh) (lE Q.B) rfl bB aH)) ?_))))))
  obtain ⟨f7, a5⟩ := U
  refine XH 6 rfl h (fun _ l => rl (k := Q.B) (z := (.map none)) yd fR gY rfl rfl a5 (fun b o n => l.2 b o (Mt (Mt (Mt (Ml n)))))) (X 7 rfl h (lN Cz rfl) (XH 8 rfl h (fun _ l => lK rfl (ma l Mh rfl bZ)) (XH 9 rfl h (fun _ l => uK (k := a2.mS) (z := false) (vf := (fun (x : Bool) => (Value.bool x))) GC fS gM rfl rfl (oN.Fq (μ := hp _) mi.1 a5 Q.B (fun b o n => l.2 b o (Mt (Mt (Mt (Ml n))))))) (X 10 rfl h (lO rfl) (PJ hm (fun R E W => ∃ P, ST false (keys ((K, Obj.cells A 189 (0, 0)) :: (D ++ (a ++ (y ++ (c ++ (j ++ []))))))) w W μ0 ((O, Ol (nU a2) 111) :: ((F, Ol (lD Q) 52) :: ((K, Obj.cells A 189 (0, 0)) :: (D ++ (a ++ (y ++ (c ++ (j ++ P)))))))) ∧ E 0 = (.pointer (some ⟨K, 0, none⟩)) ∧ E 4 = (.pointer (some ⟨F, 0, none⟩)) ∧ E 5 = (.pointer (some ⟨O, 0, none⟩)) ∧ E 50 = (.bool R)) (bm 22 4194303) 0 ?_ (fun R q L => ?_))))))
  ·rintro h1 E W ⟨P, d, e1, e2, e3, e4⟩ a4
   refine nc kr (lU (CI a4 e4 (fun c2 a4 => ?_) (fun c2 a4 => ?_)))
   ·refine mc (Wh e1 (V (lN vX e2) (VA d (Mt Mh) (lE Q.Head) bB aH (V (lN Cz e3) (VB d Mh rfl rfl bZ (bS a4 fun g4 c4 a4 => ?_))))))
    refine VE (eM d (Cb (Pb (Pb Pz)) (Cr (Qb (Qb Qz)) (Cr (Qb (Qb Qz)) (Cr (Qb (Qb Qz)) (Cr (Qb (Qb Qz)) (Cr (Qb (Qb Qz)) Cn)))))) call244 (fun s _ => nH.nz (tC K G Z D g I a B N y i J c t M j a0 Q.Head a2.mS _ _ s a5.e T a3 Y H c4)) ?_)
    rintro _ g9 h3 g0 d f4 ab m ⟨d7, f0, d8, b0, rfl, c9, d0⟩
    obtain rfl := b0.symm
    replace d := d.perm (Tb (Tr (Tr (Tr (Tr (Tr Tn))))))
    refine mD (mL (rD ?_))
    obtain rfl := sj a4
    exact qg rfl ⟨_, _, rfl, (d.ol (Kb (Kr (Kr (Kr (Kr (Kr Sn))))))), d7, f0, d8, rfl, rfl, c9, d0⟩
   refine np (mL (rD ?_))
   obtain rfl := sj a4
   exact qg rfl ⟨_, _, rfl, (d.ol (Db (Db (Kb (Kr (Kr (Kr (Kr (Kr Sn))))))))), D, t, j, rfl, rfl, a5.e, H⟩
  refine bC q (fun u q => ?_) (fun u q => ?_)
  ·refine Xg 11 rfl rfl (cB u) h (lO rfl) (Xg 12 rfl rfl (cB u) h (nN rfl) (Xg 13 rfl rfl (cB u) h (lN yT rfl) (sc 14 rfl rfl (cB u) h (fun _ l => lK rfl (ma l (Mt (Mt Mh)) rfl jD)) (Xg 15 rfl rfl (cB u) h (lN Az rfl) (sc 16 rfl rfl (cB u) h (fun _ l => lK rfl (lP l (Mt Mh) (lE Q.C) rfl bB aH)) (sc 17 rfl rfl (cB u) h (fun _ l => rl (k := Q.C) (z := (.map none)) yd fR gY rfl rfl a5 (fun b o n => l.2 b o (Mt (Mt (Mt (Ml n)))))) (Xg 18 rfl rfl (cB u) h (lN Cz rfl) (sc 19 rfl rfl (cB u) h (fun _ l => lK rfl (ma l Mh rfl bZ)) (sc 20 rfl rfl (cB u) h (fun _ l => uK (k := a2.mS) (z := false) (vf := (fun (x : Bool) => (Value.bool x))) GC fS gM rfl rfl (oN.Fq (μ := hp _) mi.1 a5 Q.C (fun b o n => l.2 b o (Mt (Mt (Mt (Ml n))))))) (X 21 rfl h (mo (cB u) rfl) ?_))))))))))
   obtain rfl := sj q
   refine nE kr (L _ _ ⟨_, (d.lG St), rfl, rfl, rfl, rfl⟩)
  refine Xn 11 rfl rfl (cB u) h (Xn 12 rfl rfl (cB u) h (Xn 13 rfl rfl (cB u) h (Xn 14 rfl rfl (cB u) h (Xn 15 rfl rfl (cB u) h (Xn 16 rfl rfl (cB u) h (Xn 17 rfl rfl (cB u) h (Xn 18 rfl rfl (cB u) h (Xn 19 rfl rfl (cB u) h (Xn 20 rfl rfl (cB u) h (X 21 rfl h (mq (cB u) rfl) ?_))))))))))
  obtain rfl := sj q
  refine nE kr (L _ _ ⟨_, (d.lG St), rfl, rfl, rfl, rfl⟩)
 refine np (mL (rD ?_))
 obtain rfl := sj hm
 exact qg rfl ⟨_, _, rfl, (d.ol (Db (Db (Kb (Kr (Kr (Kr (Kr (Kr Sn))))))))), D, t, j, rfl, rfl, U, H⟩
theorem EI (K : Nat) (g : Value) (T : List (lC × (List (ByteArray × Bool)))) (D : LO) (a : Value) (G : List lB) (j : LO) (t : Value) (J : List (lC × (List lB))) (u : LO) (c : Value) (H : List (ByteArray × (List lB))) (k : LO) (z : Value) (M : List lY) (B : LO) (a0 : Int) (Z : lB) (r : ((List (lC × (List (ByteArray × Bool)))) × (List lY) × Int)) (w : World) {μ0 : mF} (h0 : po μ0 ((K, Ob #[g, a, t, c, z, (.int .i64 a0)] 189) :: (D ++ (j ++ (u ++ (k ++ (B ++ [])))))) w) (a2 : nT (fun (x : lC) => (.agg (lE x).toArray)) (mJ Value.string (fun (x : Bool) => (Value.bool x))) g T D) (N : my 52 lD 9 a G j) (Y : nT (fun (x : lC) => (.agg (lE x).toArray)) (my 52 lD 9) t J u) (Q : nT Value.string (my 52 lD 9) c H k) (U : sd 111 nU 3 z M B) (hm : uV T G J H M a0 Z = some r) :
  nH false Tryz.prog 188 [(.pointer (some ⟨K, 0, none⟩)), (.agg (lD Z).toArray)] w ((K, Ob #[g, a, t, c, z, (.int .i64 a0)] 189) :: (D ++ (j ++ (u ++ (k ++ (B ++ [])))))) (fun v L1 W' => ∃ S1 y3 S4, v = (.tuple #[]) ∧ L1 = ((K, Ob #[g, a, t, c, y3, (.int .i64 (r.2.2))] 189) :: (S1 ++ (j ++ (u ++ (k ++ (S4 ++ [])))))) ∧ nT (fun (x : lC) => (.agg (lE x).toArray)) (mJ Value.string (fun (x : Bool) => (Value.bool x))) g r.1 S1 ∧ sd 111 nU 3 y3 r.2.1 S4) := by
 refine AF h0 33 func188 rfl (fun d => sg (VE (mI d rfl (fun W2 b1 d => lr (Wf zx (VB d Mh rfl rfl cP (ln (bg ?_))))))))
 refine Wi rfl (Wa (ln (CI hm rfl (fun f1 hm => ?_) (fun f1 hm => ?_))))
 ·refine mc (Wm (Wf vX (VA d Mh (lE Z.Head) bB aH (Wf Eu (VB d Mh rfl rfl bZ (bS hm fun r4 f2 hm => ?_))))))
  refine VE (eM d (Cb (Pb Pz) (Cr (Qb Qz) (Cr (Qb Qz) (Cr (Qb Qz) (Cr (Qb Qz) (Cr (Qb Qz) Cn)))))) call244 (fun hh _ => nH.nz (tC K g T D a G j t J u c H k z M B a0 Z.Head Z.mS _ _ hh a2 N Y Q U f2)) ?_)
  rintro _ h1 ae g8 d g2 ad m ⟨e7, f4, e8, c2, rfl, e0, e1⟩
  obtain rfl := c2.symm
  replace d := d.perm (Tb (Tr (Tr (Tr (Tr (Tr Tn))))))
  refine mD (mL (rD ?_))
  obtain rfl := sj hm
  exact qg rfl ⟨_, _, rfl, (d.ol (Kb (Kr (Kr (Kr (Kr (Kr Sn))))))), e7, f4, e8, rfl, rfl, e0, e1⟩
 refine sg (Wm (Wf so (VA d Mh (lE Z.B) bB aH (bS hm fun c6 d9 hm => VE (pF d call245 (Am K g T a G t J c H z M a0 Z.B _ _ (a2.at (fun b o l => d.at_ (Mt (Mt (Ml l))))) (N.sl nj (fun b o l => d.at_ (Mt (Mt (Ma (Ml l)))))) (Y.at (fun b o l => d.at_ (Mt (Mt (Ma (Ma (Ml l))))))) (Q.at (fun b o l => d.at_ (Mt (Mt (Ma (Ma (Ma (Ml l)))))))) ((U.Er yZ).mono (Pl.mono _) (ou (fun b o l => d.at_ (Mt (Mt (Ma (Ma (Ma (Ma (Ml l)))))))))) (At.of (d.at_ (Mt Mh)) _ rfl) d9) (fun g9 f3 d5 e5 d f6 ab F => V (qb kO rfl F) (Wm (ln (xg (mY (fun i E W => ∃ n a3 a5 q a4 a9 L R, (E 13 = .int .i64 (i : Nat) ∧ E 12 = .int .i64 (c6.length : Nat)) ∧ mn d5 L ∧ ST false (keys ((K, Ob #[g, a, t, c, z, (.int .i64 a0)] 189) :: (D ++ (j ++ (u ++ (k ++ (B ++ []))))))) w W L ((K, Ob #[g, a, t, c, a5, (.int .i64 a9)] 189) :: ((b1, Ol (lD Z) 52) :: (a3 ++ (j ++ (u ++ (k ++ (a4 ++ (e5 ++ R)))))))) ∧ E 0 = (.pointer (some ⟨K, 0, none⟩)) ∧ E 3 = (.pointer (some ⟨b1, 0, none⟩)) ∧ E 11 = f3 ∧ nT (fun (x : lC) => (.agg (lE x).toArray)) (mJ Value.string (fun (x : Bool) => (Value.bool x))) g n a3 ∧ sd 111 nU 3 a5 q a4 ∧ rn G J H Z (c6.drop i) n q a9 = some r) c6.length F.len ⟨T, D, z, M, B, a0, d5, _, ⟨rfl, rfl⟩, (mn.refl _), (d.lG (Sb (Pr (Pb Pz)) (Sb (Pr Pz) (Sr (Qr Qz) (Sr (Qr Qz) (Sr (Qr Qz) (Sr (Qr Qz) (Sr (Qr Qz) St)))))))), rfl, rfl, rfl, a2, U, hm⟩ dc dc dc (fun _ _ _ h => by obtain ⟨_, _, _, _, _, _, _, _, a1, _⟩ := h; exact a1) ?_ ?_))))))))))
 ·rintro e2 E W c8 ⟨n, a3, a5, q, a4, a9, L, R, ⟨eI, eN⟩, b7, d, c0, A, c1, O, P, I⟩
  obtain ⟨s, f7, d1, c4, d2⟩ := mM c8
  rw [d1] at I
  refine bg (VQ (pu (i := (e2 : Int)) (x0 := s) kO iF c1 eI F (aG _) c4) (fun g3 c9 => V (lK rfl (Ld d.has (fun p l => (Mt (Mt (Ma (Ma (Ma (Ma (Ma (Ml l))))))))) F (fun _ => rfl) c9 c4 (y := (.string s)) rfl bZ)) (Wa (ln (mc (Wh c0 (V (lK A (lP d.has (Mt Mh) (lD Z) rfl bH aI)) (V (lN so A) (VA d (Mt Mh) (lE Z.B) bB aH (Wm (V (nZ (v := (.agg (nU (⟨Z.B, s⟩ : lY)).toArray)) (rA rfl rfl) (nB lc ij (RN _ ij) kr)) ?_)))))))))))
  refine bS I fun c3 d0 I => ?_
  refine VE (eM d (Cb Pz (Cr (Qb Qz) (Cr (Qb Qz) (Cr (Qb Qz) (Cr (Qb Qz) (Cr (Qb Qz) Cn)))))) call246 (fun hh _ => (Ba K g n a3 a G j t J u c H k a5 q a4 a9 Z (⟨Z.B, s⟩ : lY) _ _ hh O N Y Q P d0)) ?_)
  rintro _ g4 e4 f9 d c5 aa m ⟨d6, e3, d7, b5, rfl, d3, d4⟩
  obtain rfl := b5.symm
  replace d := d.perm (Tb (Tr (Tr (Tr (Tr (Tr Tn))))))
  exact mD (mL (lU ⟨eI, c3.1, d6, e3, c3.2.1, d7, c3.2.2, e4, _, ⟨rfl, eN⟩, (b7.trans c5), (d.lG (Kb (Sb (Pr (Pr (Pr (Pr (Pr Pz))))) St))), c0, A, c1, d3, d4, (by rw [d2]; exact I)⟩))
 rintro E W ⟨n, a3, a5, q, a4, a9, L, R, ⟨eI, eN⟩, b7, d, c0, A, c1, O, P, I⟩
 rw [aK] at I
 refine lU ?_
 replace d := d.lG (Kb (Db (Kr (Kr (Kr (Kr (Kr (Dr St))))))))
 refine mL (rD ?_)
 obtain rfl := sj I
 exact qg rfl ⟨_, _, rfl, (d.ol (Kb (Kr (Kr (Kr (Kr (Kr Sn))))))), a3, a5, a4, rfl, rfl, O, P⟩
theorem D2 (I : Nat) (a : Value) (e8 : List (lC × (List (ByteArray × Bool)))) (K : LO) (c : Value) (Q : List lB) (j : LO) (u : Value) (N : List (lC × (List lB))) (y : LO) (g : Value) (H : List (ByteArray × (List lB))) (t : LO) (G : Value) (d4 : List lY) (D : LO) (a0 : Int) (r : ((List (lC × (List (ByteArray × Bool)))) × (List lY) × Int)) (w : World) {μ0 : mF} (h0 : po μ0 ((I, Ob #[a, c, u, g, G, (.int .i64 a0)] 189) :: (K ++ (j ++ (y ++ (t ++ (D ++ [])))))) w) (h4 : nT (fun (x : lC) => (.agg (lE x).toArray)) (mJ Value.string (fun (x : Bool) => (Value.bool x))) a e8 K) (c1 : my 52 lD 9 c Q j) (g7 : nT (fun (x : lC) => (.agg (lE x).toArray)) (my 52 lD 9) u N y) (c2 : nT Value.string (my 52 lD 9) g H t) (g4 : sd 111 nU 3 G d4 D) (hm : wO e8 Q N H d4 a0 = some r) :
  nH false Tryz.prog 189 [(.pointer (some ⟨I, 0, none⟩))] w ((I, Ob #[a, c, u, g, G, (.int .i64 a0)] 189) :: (K ++ (j ++ (y ++ (t ++ (D ++ [])))))) (fun v L1 W' => ∃ S1 y3 S4, v = (.tuple #[]) ∧ L1 = ((I, Ob #[a, c, u, g, y3, (.int .i64 (r.2.2))] 189) :: (S1 ++ (j ++ (y ++ (t ++ (S4 ++ [])))))) ∧ nT (fun (x : lC) => (.agg (lE x).toArray)) (mJ Value.string (fun (x : Bool) => (Value.bool x))) a r.1 S1 ∧ sd 111 nU 3 y3 r.2.1 S4) := by
 let g5 : Value := (.pointer (some ⟨I, 0, none⟩))
 let b8 := ((I, Ob #[a, c, u, g, G, (.int .i64 a0)] 189) :: (K ++ (j ++ (y ++ (t ++ (D ++ []))))))
 refine AF h0 75 func189 rfl (fun d => xg (nS (py (fun m E W => ∃ e3 b7 e4 a1 b9 d1 b4 h5, mn μ0 b4 ∧ ST false (keys b8) w W b4 ((I, Ob #[a, c, u, g, e4, (.int .i64 d1)] 189) :: (b7 ++ (j ++ (y ++ (t ++ (b9 ++ h5)))))) ∧ E 0 = g5 ∧ nT (fun (x : lC) => (.agg (lE x).toArray)) (mJ Value.string (fun (x : Bool) => (Value.bool x))) a e3 b7 ∧ sd 111 nU 3 e4 a1 b9 ∧ ph Q N H m e3 a1 d1 = some r) mR ⟨e8, K, G, d4, D, a0, μ0, _, (mn.refl _), (d.lG St), rfl, h4, g4, hm⟩ ?_)))
 rintro m E W ⟨e3, b7, e4, a1, b9, d1, b4, h5, i0, d, L, g9, c5, M⟩
 cases m with
 | zero => rw [ph] at M; cases M
 | succ n0 =>
  refine me (sg (Wh L (Wn (Wf CA (VB d Mh rfl rfl isAgg187 (V (Re jw rfl c5) (Wi rfl (ln (CI M rfl (fun i7 M => ?_) (fun i7 M => ?_))))))))))
  ·refine kn (bg (Wh L (Wn (Wf CA (VB d Mh rfl rfl isAgg187 (bS M fun B h2 M => VQ (pg (enc := nU) (i := 0) (x0 := B) jw kW rfl rfl (c5.Er yZ) (mE h2) (mA h2)) (fun q0 j7 => V (lK rfl (ms (pS.hp _) (j7.mono (ou (fun b o q => d.has.2 b o (Mt (Ma (Ma (Ma (Ma (Ml q))))))))) isAgg111 kW)) (VE (mz d lc (fun o9 a5 d => VO (mh (.agg (nU B).toArray) ((nU B).toArray) d rfl rfl kW (M4 B) nb rfl (fun p0 d => mD ?_))))))))))))
   let j2 := ((nA lZ N B.lC).getD [])
   let j1 : Value := (.pointer (some ⟨a5, 0, none⟩))
   let i6 := ((nU B).toArray : Array Value)
   let i5 := ((nA nq H B.lC.lM).getD [])
   refine lU (sg (Wh L (Wh L (Wn (Wf CA (VB d (Mt Mh) rfl rfl isAgg187 (bS M fun _ g8 M => VQ (Oe (i := 1) jw kW rfl rfl yZ c5 (tQ g8) (tu g8)) (fun q3 h1 => Wn (Wf CA ?_)))))))))
   obtain ⟨f7, g0, rfl⟩ := h1.form
   let g6 : Value := (.slice f7 (a1.drop (Int.toNat 1)).length g0)
   replace d := d.perm (Nb (Pb Pz) Nz)
   refine VO (mh g6 (#[a, c, u, g, g6, (.int .i64 d1)]) d rfl rfl sizeOf187 oc nb rfl (fun p1 d => ln (me (me ?_))))
   replace d := d.drew
   have l := d.has.lG (Kb (Kb (Dr (Dr (Kr Sn)))))
   refine mO l mu (X 0 rfl l (lO L) (X 1 rfl l (nN rfl) (X 2 rfl l (lN Nu rfl) (XH 3 rfl l (fun _ n => lK rfl (ma n Mh rfl isAgg185)) (X 4 rfl l (lN JW rfl) (XH 5 rfl l (fun _ n => lK rfl (lP n (Mt Mh) (lE B.lC) rfl bB aH)) ?_))))))
   obtain ⟨l7, c3⟩ := g7
   obtain ⟨o7, f0, k2⟩ := oN.rowAt mi.1 c3 B.lC
   refine XH 6 rfl l (fun _ n => rl (k := B.lC) (z := (.slice none 0 0)) yd underlying185 jC rfl rfl c3 (fun b o q => n.2 b o (Mt (Mt (Ml q))))) (X 7 rfl l (nh aJ rfl (f0.Er nj)) (X 8 rfl l (lO rfl) (nc kr (lU (CJ M (fun d0 E W => ∃ d6 e5 d7 b5 h6, mn b4 b5 ∧ ST false (keys b8) w W b5 ((I, Ob #[a, c, u, g, e5, (.int .i64 d0.2.2)] 189) :: ((a5, Obj.cells i6 111 (0, 0)) :: (d6 ++ (j ++ (y ++ (t ++ (d7 ++ h6))))))) ∧ E 0 = g5 ∧ E 2 = j1 ∧ nT (fun (x : lC) => (.agg (lE x).toArray)) (mJ Value.string (fun (x : Bool) => (Value.bool x))) a d0.1 d6 ∧ sd 111 nU 3 e5 d0.2.1 d7) (fun d0 j6 => ?_) ?_)))))
   ·refine mY (fun i E W => ∃ c7 a3 R c8 a4 d2 d3 f9, (E 35 = .int .i64 (i : Nat) ∧ E 34 = .int .i64 (j2.length : Nat)) ∧ mn b4 d3 ∧ ST false (keys b8) w W d3 ((I, Ob #[a, c, u, g, R, (.int .i64 d2)] 189) :: ((a5, Obj.cells i6 111 (0, 0)) :: (a3 ++ (j ++ (y ++ (t ++ (a4 ++ f9))))))) ∧ E 0 = g5 ∧ E 2 = j1 ∧ E 33 = (tZ lZ l7 B.lC (.slice none 0 0)) ∧ nT (fun (x : lC) => (.agg (lE x).toArray)) (mJ Value.string (fun (x : Bool) => (Value.bool x))) a c7 a3 ∧ sd 111 nU 3 R c8 a4 ∧ qY Q N H B (j2.drop i) c7 c8 d2 = some d0) j2.length (f0.Er nj).len ⟨e3, b7, g6, (a1.drop (Int.toNat 1)), b9, d1, b4, _, ⟨rfl, rfl⟩, (mn.refl _), (d.lG St), L, rfl, rfl, g9, h1, j6⟩ dc dc dc (fun _ _ _ h => by obtain ⟨_, _, _, _, _, _, _, _, A, _⟩ := h; exact A) ?_ ?_
    ·rintro m5 E W j0 ⟨c7, a3, R, c8, a4, d2, d3, f9, ⟨s, eN⟩, d5, d, e1, e2, g1, f3, f4, T⟩
     obtain ⟨b3, o3, l1, l0, l2⟩ := mM j0
     rw [l1] at T
     refine bg (VQ (pg (enc := lD) (i := (m5 : Int)) (x0 := b3) aJ aI g1 s (f0.Er nj) (aG _) l0) (fun q2 j9 => V (lK rfl (ms (pS.hp _) (j9.mono (ou (fun b o q => d.has.2 b o (Mt (Mt (Ma (Ma (Ml (k2 b o q))))))))) bH aI)) (VE (mz d cM (fun p5 p9 d => VO (mh (.agg (lD b3).toArray) ((lD b3).toArray) d rfl rfl aI (pb b3) nb rfl (fun p6 d => ln (mc (Wh e1 (VA d Mh (lD b3) bH aI (V (lK e2 (lP d.has (Mt (Mt Mh)) (nU B) rfl isAgg111 kW)) (bS T fun g3 k1 T => ?_))))))))))))
     refine VE (eM d (Cb (Pb Pz) (Cr (Qb (Qb Qz)) (Cr (Qb (Qb Qz)) (Cr (Qb (Qb Qz)) (Cr (Qb (Qb Qz)) (Cr (Qb (Qb Qz)) Cn)))))) call246 (fun hh _ => (Ba I a c7 a3 c Q j u N y g H t R c8 a4 d2 b3 B _ _ hh f3 c1 c3.e c2 f4 k1)) ?_)
     rintro _ q5 n6 o6 d i4 ab F ⟨m1, n4, m2, f6, rfl, l5, l6⟩
     obtain rfl := f6.symm
     replace d := d.perm (Tb (Tr (Tr (Tr (Tr (Tr Tn))))))
     refine mD (mL (lU ?_))
     replace d := d.lG (Kb (Kr (Kr (Kr (Kr (Kr (Db St)))))))
     exact ⟨s, g3.1, m1, n4, g3.2.1, m2, g3.2.2, n6, _, ⟨rfl, eN⟩, (d5.trans i4), (d.lG (Kb (Sb (Pr (Pr (Pr (Pr (Pr Pz))))) St))), e1, e2, g1, l5, l6, (by rw [l2]; exact T)⟩
    rintro E W ⟨c7, a3, R, c8, a4, d2, d3, f9, ⟨s, eN⟩, d5, d, e1, e2, g1, f3, f4, T⟩
    rw [aK] at T
    refine lU ?_
    obtain rfl := sj T
    exact ⟨a3, R, a4, d3, _, d5, (d.lG St), e1, e2, f3, f4⟩
   rintro ⟨m6, m7, n1⟩ E W ⟨d6, e5, d7, b5, h6, i1, d, h8, h9, k3, k4⟩ j3
   refine me ?_
   replace d := d.drew
   have l := d.has.lG (Kb (Kb (Dr (Dr (Dr (Kr Sn))))))
   refine mO l mu (X 0 rfl l (lO h8) (X 1 rfl l (nN rfl) (X 2 rfl l (lN Jr rfl) (XH 3 rfl l (fun _ n => lK rfl (ma n Mh rfl isAgg186)) (X 4 rfl l (lN JW h9) (X 5 rfl l (lN xQ rfl) (XH 6 rfl l (fun _ n => lK rfl (ma n (Mt Mh) rfl bZ)) ?_)))))))
   obtain ⟨l8, e9⟩ := c2
   obtain ⟨o8, f1, k5⟩ := oN.rowAt nY.1 e9 B.lC.lM
   refine XH 7 rfl l (fun _ n => rl (k := B.lC.lM) (z := (.slice none 0 0)) GC underlying186 jC rfl rfl e9 (fun b o q => n.2 b o (Mt (Mt (Ml q))))) (X 8 rfl l (nh aJ rfl (f1.Er nj)) (X 9 rfl l (lO rfl) (nc kr (lU (xg (CJ j3 (fun c9 E W => ∃ d8 e6 d9 e7 h7, mn b5 e7 ∧ ST false (keys b8) w W e7 ((I, Ob #[a, c, u, g, e6, (.int .i64 c9.2.2)] 189) :: (d8 ++ (j ++ (y ++ (t ++ (d9 ++ h7)))))) ∧ E 0 = g5 ∧ nT (fun (x : lC) => (.agg (lE x).toArray)) (mJ Value.string (fun (x : Bool) => (Value.bool x))) a c9.1 d8 ∧ sd 111 nU 3 e6 c9.2.1 d9) (fun c9 j5 => ?_) ?_))))))
   ·refine mY (fun i E W => ∃ a9 Y a2 P Z b2 b6 f8, (E 53 = .int .i64 (i : Nat) ∧ E 52 = .int .i64 (i5.length : Nat)) ∧ mn b5 b6 ∧ ST false (keys b8) w W b6 ((I, Ob #[a, c, u, g, a2, (.int .i64 b2)] 189) :: ((a5, Obj.cells i6 111 (0, 0)) :: (Y ++ (j ++ (y ++ (t ++ (Z ++ f8))))))) ∧ E 0 = g5 ∧ E 2 = j1 ∧ E 51 = (tZ nq l8 B.lC.lM (.slice none 0 0)) ∧ nT (fun (x : lC) => (.agg (lE x).toArray)) (mJ Value.string (fun (x : Bool) => (Value.bool x))) a a9 Y ∧ sd 111 nU 3 a2 P Z ∧ pP B Q N H (i5.drop i) a9 P b2 = some c9) i5.length (f1.Er nj).len ⟨m6, d6, e5, m7, d7, n1, b5, _, ⟨rfl, rfl⟩, (mn.refl _), (d.lG St), h8, h9, rfl, k3, k4, j5⟩ dc dc dc (fun _ _ _ h => by obtain ⟨_, _, _, _, _, _, _, _, A, _⟩ := h; exact A) ?_ ?_
    ·rintro m4 E W i9 ⟨a9, Y, a2, P, Z, b2, b6, f8, ⟨s, eN⟩, a8, d, O, c0, e0, f2, c6, J⟩
     obtain ⟨U, o2, k9, k8, h3⟩ := mM i9
     rw [k9] at J
     refine bg (VQ (pg (enc := lD) (i := (m4 : Int)) (x0 := U) aJ aI e0 s (f1.Er nj) (aG _) k8) (fun q1 j8 => V (lK rfl (ms (pS.hp _) (j8.mono (ou (fun b o q => d.has.2 b o (Mt (Mt (Ma (Ma (Ma (Ml (k5 b o q)))))))))) bH aI)) (VE (mz d cM (fun p2 p8 d => VO (mh (.agg (lD U).toArray) ((lD U).toArray) d rfl rfl aI (pb U) nb rfl (fun p3 d => ln (me ?_))))))))
     replace d := d.drew
     have l := d.has.lG (Kb (Kb (Kb (Kr Sn))))
     refine mO l mu (X 0 rfl l (lO O) (X 1 rfl l (nN rfl) (X 2 rfl l (lN yT rfl) (XH 3 rfl l (fun _ n => lK rfl (ma n (Mt Mh) rfl jD)) (X 4 rfl l (lN so rfl) (XH 5 rfl l (fun _ n => lK rfl (lP n Mh (lE U.B) rfl bB aH)) ?_))))))
     obtain ⟨o0, c4⟩ := f2
     refine XH 6 rfl l (fun _ n => rl (k := U.B) (z := (.map none)) yd fR gY rfl rfl c4 (fun b o q => n.2 b o (Mt (Mt (Mt (Ml q)))))) (X 7 rfl l (lN JW c0) (X 8 rfl l (lN xe rfl) (XH 9 rfl l (fun _ n => lK rfl (ma n (Mt (Mt Mh)) rfl bZ)) (XH 10 rfl l (fun _ n => uK (k := B.lC.lI) (z := false) (vf := (fun (x : Bool) => (Value.bool x))) GC fS gM rfl rfl (oN.Fq (μ := hp _) mi.1 c4 U.B (fun b o q => n.2 b o (Mt (Mt (Mt (Ml q))))))) (nc kr (lU (CI J rfl (fun i8 J => ?_) (fun i8 J => ?_))))))))
     ·refine mc (Wh O (Wf vX (VA d Mh (lE U.Head) bB aH (V (lN Cz c0) (VB d (Mt (Mt Mh)) rfl rfl bZ (bS J fun g2 k0 J => ?_))))))
      refine VE (eM d (Cb (Pb Pz) (Cr (Qb (Qb Qz)) (Cr (Qb (Qb Qz)) (Cr (Qb (Qb Qz)) (Cr (Qb (Qb Qz)) (Cr (Qb (Qb Qz)) Cn)))))) call244 (fun hh _ => nH.nz (tC I a a9 Y c Q j u N y g H t a2 P Z b2 U.Head B.mS _ _ hh c4.e c1 c3.e e9.e c6 k0)) ?_)
      rintro _ q4 n5 o5 d i3 aa F ⟨l9, n3, m0, f5, rfl, l3, l4⟩
      obtain rfl := f5.symm
      replace d := d.perm (Tb (Tr (Tr (Tr (Tr (Tr Tn))))))
      refine mD (mL (lU ?_))
      replace d := d.lG (Kb (Kr (Kr (Kr (Kr (Kr (Db St)))))))
      exact ⟨s, g2.1, l9, n3, g2.2.1, m0, g2.2.2, n5, _, ⟨rfl, eN⟩, (a8.trans i3), (d.lG (Kb (Sb (Pr (Pr (Pr (Pr (Pr Pz))))) St))), O, c0, e0, l3, l4, (by rw [h3]; exact J)⟩
     refine np (mL (lU ?_))
     replace d := d.lG (Db St)
     exact ⟨s, a9, Y, a2, P, Z, b2, b6, _, ⟨rfl, eN⟩, a8, (d.lG St), O, c0, e0, c4.e, c6, (by rw [h3]; exact J)⟩
    rintro E W ⟨a9, Y, a2, P, Z, b2, b6, f8, ⟨s, eN⟩, a8, d, O, c0, e0, f2, c6, J⟩
    rw [aK] at J
    refine lU ?_
    obtain rfl := sj J
    exact ⟨Y, a2, Z, b6, _, a8, (d.lG (Kb (Db St))), O, f2, c6⟩
   rintro ⟨m8, m9, n2⟩ E W ⟨d8, e6, d9, e7, h7, i2, d, m3, k6, k7⟩ j4
   exact mL (lU ⟨n0, bL _, m8, d8, e6, m9, d9, n2, e7, _, ((i0.trans i1).trans i2), (d.lG St), m3, k6, k7, j4⟩)
  refine pc (oQ (oQ (tX (lU (rD ?_)))))
  obtain rfl := sj M
  exact qg rfl ⟨_, _, rfl, (d.ol (Kb (Kr (Kr (Kr (Kr (Kr Sn))))))), b7, e4, b9, rfl, rfl, g9, c5⟩
theorem FY (H : Nat) (g : Value) (c2 : List (lC × (List (ByteArray × Bool)))) (G : LO) (u : Value) (a7 : List lB) (k : LO) (c : Value) (b7 : List (lC × (List lB))) (z : LO) (a : Value) (a8 : List (ByteArray × (List lB))) (t : LO) (B : Value) (b6 : List lY) (y : LO) (K : Int) (d1 : Value) (q : List lB) (r : (Int × (List (lC × (List (ByteArray × Bool)))) × (List lB) × (List (lC × (List lB))) × (List (ByteArray × (List lB))) × (List lY) × Int)) (w : World) {μ0 : mF} (h0 : po μ0 ((H, Ob #[g, u, c, a, B, (.int .i64 K)] 189) :: (G ++ (k ++ (z ++ (t ++ (y ++ [])))))) w) (d6 : nT (fun (x : lC) => (.agg (lE x).toArray)) (mJ Value.string (fun (x : Bool) => (Value.bool x))) g c2 G) (c6 : my 52 lD 9 u a7 k) (d3 : nT (fun (x : lC) => (.agg (lE x).toArray)) (my 52 lD 9) c b7 z) (c7 : nT Value.string (my 52 lD 9) a a8 t) (d2 : sd 111 nU 3 B b6 y) (d7 : Sl (Pl lD) 9 μ0 d1 q) (hm : wj c2 a7 b7 a8 b6 K q = some r) :
  nH false Tryz.prog 125 [(.pointer (some ⟨H, 0, none⟩)), d1] w ((H, Ob #[g, u, c, a, B, (.int .i64 K)] 189) :: (G ++ (k ++ (z ++ (t ++ (y ++ [])))))) (fun v L1 W' => ∃ S1 y3 S4 S6 S8 i1 i0, v = (.int .i64 (r.1)) ∧ L1 = ((H, Ob #[g, y3, c, a, i1, (.int .i64 (r.2.2.2.2.2.2))] 189) :: (S1 ++ (S4 ++ (S6 ++ (S8 ++ (i0 ++ [])))))) ∧ nT (fun (x : lC) => (.agg (lE x).toArray)) (mJ Value.string (fun (x : Bool) => (Value.bool x))) g r.2.1 S1 ∧ my 52 lD 9 y3 r.2.2.1 S4 ∧ nT (fun (x : lC) => (.agg (lE x).toArray)) (my 52 lD 9) c r.2.2.2.1 S6 ∧ nT Value.string (my 52 lD 9) a r.2.2.2.2.1 S8 ∧ sd 111 nU 3 i1 r.2.2.2.2.2.1 i0) := by
 let b8 := ((H, Ob #[g, u, c, a, B, (.int .i64 K)] 189) :: (G ++ (k ++ (z ++ (t ++ (y ++ []))))))
 refine AF h0 46 func125 rfl (fun d => sg (Wa (lS (Wm (V (tN underlying132 rfl rfl) (ln (qi rfl (np ?_))))))))
 refine lU (sg (Wm (Wn (Wf G7 (VB d Mh rfl rfl cP (Wa (lS (Wm (V (nh aJ rfl d7) ?_)))))))))
 refine Wm (ln (mY (fun i E W => ∃ a3 N M a4 Q a9 T n U a0 a5 Y a2 c1 d5, (E 16 = .int .i64 (i : Nat) ∧ E 15 = .int .i64 (q.length : Nat)) ∧ mn μ0 c1 ∧ ST false (keys b8) w W c1 ((H, Ob #[g, M, c, a, a0, (.int .i64 a2)] 189) :: (N ++ (Q ++ (T ++ (U ++ (Y ++ d5)))))) ∧ E 0 = (.pointer (some ⟨H, 0, none⟩)) ∧ E 5 = (.int .i64 K) ∧ E 14 = d1 ∧ nT (fun (x : lC) => (.agg (lE x).toArray)) (mJ Value.string (fun (x : Bool) => (Value.bool x))) g a3 N ∧ my 52 lD 9 M a4 Q ∧ nT (fun (x : lC) => (.agg (lE x).toArray)) (my 52 lD 9) c a9 T ∧ nT Value.string (my 52 lD 9) a n U ∧ sd 111 nU 3 a0 a5 Y ∧ pN K (q.drop i) a3 a4 a9 n a5 a2 = some r) q.length d7.len ⟨c2, G, u, a7, k, b7, z, a8, t, B, b6, y, K, μ0, _, ⟨rfl, rfl⟩, (mn.refl _), (d.lG St), rfl, rfl, rfl, d6, c6, d3, c7, d2, hm⟩ dc dc dc (fun _ _ _ h => by obtain ⟨_, _, _, _, _, _, _, _, _, _, _, _, _, _, _, aa, _⟩ := h; exact aa) ?_ ?_))
 ·rintro f6 E W g3 ⟨a3, N, M, a4, Q, a9, T, n, U, a0, a5, Y, a2, c1, d5, ⟨eI, eN⟩, b1, d, A, c3, c4, L, s, O, P, R, D⟩
  obtain ⟨I, j8, h4, h3, d9⟩ := mM g3
  rw [h4] at D
  refine bg (VQ (pg (enc := lD) (i := (f6 : Int)) (x0 := I) aJ aI c4 eI (d7.mono (Pl.mono _) b1) (aG _) h3) (fun l1 g4 => V (lK rfl (ms d.has g4 bH aI)) (VE (mz d cM (fun k3 e8 d => VO (mh (.agg (lD I).toArray) ((lD I).toArray) d rfl rfl aI (pb I) nb rfl (fun k4 d => ln (me ?_))))))))
  replace d := d.drew
  have l := d.has.lG (Kb (Kb Sn))
  refine mO l mu (XH 0 rfl l (fun _ hS => lK rfl (lP hS Mh (lD I) rfl bH aI)) (bS D fun l2 g7 D => XE 1 rfl (Eg d call113 (mw.nz (yJ I _ _  g7)) (fun k5 d => ?_))))
  have l := d.has.lG (Kb (Kb Sn))
  refine ⟨l, (X 2 rfl l (lO rfl) (PJ D (fun f7 E W => ∃ e4, ST false (keys b8) w W c1 ((e8, Ol (lD I) 52) :: ((H, Ob #[g, M, c, a, a0, (.int .i64 a2)] 189) :: (N ++ (Q ++ (T ++ (U ++ (Y ++ e4))))))) ∧ E 0 = (.pointer (some ⟨H, 0, none⟩)) ∧ E 5 = (.int .i64 K) ∧ E 7 = (.pointer (some ⟨e8, 0, none⟩)) ∧ E 14 = d1 ∧ E 15 = (.int .i64 (q.length : Int)) ∧ E 16 = (.int .i64 (f6 : Int)) ∧ E 30 = (.bool f7)) (bm 11 2047) 0 ?_ (fun f7 Z d4 => ?_)))⟩
  ·rintro l7 E W ⟨e4, d, c5, e9, f0, f1, f2, f3, i6⟩ J
   refine nc kr (lU (CI J i6 (fun g2 J => ?_) (fun g2 J => ?_)))
   ·refine sg (Wh c5 (V (lK f0 (lP d.has Mh (lD I) rfl bH aI)) (bS J fun F g8 J => ?_)))
    refine VE (eM d (Cb (Pb Pz) (Cr (Qb Qz) (Cr (Qb Qz) (Cr (Qb Qz) (Cr (Qb Qz) (Cr (Qb Qz) Cn)))))) call187 (fun hh _ => nH.nz (FB H g a3 N M a4 Q c a9 T a n U a0 a5 Y a2 I _ _ hh L s O P R g8)) ?_)
    rintro _ l4 l8 k0 d f4 ab m ⟨f8, e5, e6, e7, c8, rfl, e0, e1, e2⟩
    obtain rfl := c8.symm
    replace d := d.perm (Tb (Tr (Tr (Tr (Tr (Tr Tn))))))
    refine ln (mc (Wh c5 (V (lK f0 (lP d.has (Mt (Ma (Ma (Ma (Ma (Ma Mh)))))) (lD I) rfl bH aI)) (bS J fun d8 g9 J => ?_))))
    refine VE (eM d (Cb Pz (Cr Qz (Cr Qz (Cr Qz (Cr Qz (Cr Qz Cn)))))) call188 (fun hh _ => (EI H g a3 N f8 F.1 e5 c F.2.1 e6 a F.2.2 e7 a0 a5 Y a2 I _ _ hh L e0 e1 e2 R g9)) ?_)
    rintro _ l5 j0 k1 d f5 ad m ⟨i2, i8, i3, c9, rfl, h5, h6⟩
    obtain rfl := c9.symm
    replace d := d.perm (Tb (Tr (Tr (Tr (Tr (Tr Tn))))))
    refine mD (mL (lU ?_))
    replace d := d.lG (Kb (Kr (Kr (Kr (Kr (Kr (Db St)))))))
    exact ⟨f3, d8.1, i2, f8, F.1, e5, F.2.1, e6, F.2.2, e7, i8, d8.2.1, i3, d8.2.2, j0, _, ⟨rfl, f2⟩, ((b1.trans f4).trans f5), (d.lG St), c5, e9, f1, h5, e0, e1, e2, h6, (by rw [d9]; exact J)⟩
   refine np (mL (lU ?_))
   replace d := d.lG (Db St)
   exact ⟨f3, a3, N, M, a4, Q, a9, T, n, U, a0, a5, Y, a2, c1, _, ⟨rfl, f2⟩, b1, (d.lG St), c5, e9, f1, L, s, O, P, R, (by rw [d9]; exact J)⟩
  refine bC Z (fun j Z => ?_) (fun j Z => ?_)
  ·refine Xg 3 rfl rfl (cB j) l (lO A) (Xg 4 rfl rfl (cB j) l (nN rfl) (Xg 5 rfl rfl (cB j) l (lN JX rfl) (sc 6 rfl rfl (cB j) l (fun _ hS => lK rfl (ma hS (Mt Mh) rfl eU)) (sc 7 rfl rfl (cB j) l (fun _ hS => lK rfl (lP hS Mh (lD I) rfl bH aI)) (bS Z fun l3 h1 Z => As 8 rfl rfl (cB j) (Eg d call60 (mw.nz (AJ M a4 I _ _ (s.sl nj (fun b o hq => d.at_ (Mt (Mt (Ma (Ml hq)))))) h1)) (fun k8 d => ?_)))))))
   have l := d.has.lG (Kb (Kb Sn))
   refine ⟨l, (Xg 9 rfl rfl (cB j) l (oH rfl) (X 10 rfl l (mo (cB j) rfl) ?_))⟩
   obtain rfl := sj Z
   refine nE kr (d4 _ _ ⟨_, (d.lG St), A, c3, rfl, c4, eN, eI, rfl⟩)
  refine Xn 3 rfl rfl (cB j) l (Xn 4 rfl rfl (cB j) l (Xn 5 rfl rfl (cB j) l (Xn 6 rfl rfl (cB j) l (Xn 7 rfl rfl (cB j) l (Xn 8 rfl rfl (cB j) l (Xn 9 rfl rfl (cB j) l (X 10 rfl l (mq (cB j) rfl) ?_)))))))
  obtain rfl := sj Z
  refine nE kr (d4 _ _ ⟨_, (d.lG St), A, c3, rfl, c4, eN, eI, rfl⟩)
 rintro E W ⟨a3, N, M, a4, Q, a9, T, n, U, a0, a5, Y, a2, c1, d5, ⟨eI, eN⟩, b1, d, A, c3, c4, L, s, O, P, R, D⟩
 rw [aK] at D
 refine lU (sg (Wh A (bS D fun i7 h2 D => ?_)))
 refine VE (eM d (Cb Pz (Cr Qz (Cr Qz (Cr Qz (Cr Qz (Cr Qz Cn)))))) call189 (fun hh _ => (D2 H g a3 N M a4 Q c a9 T a n U a0 a5 Y a2 _ _ hh L s O P R h2)) ?_)
 rintro _ l6 l9 k2 d j6 ae m ⟨i4, i9, i5, d0, rfl, h7, h8⟩
 obtain rfl := d0.symm
 replace d := d.perm (Tb (Tr (Tr (Tr (Tr (Tr Tn))))))
 refine lr (Wh A (Wn (Wf G7 (VB d Mh rfl rfl cP (Wh c3 (Wi rfl (Wa (lt ?_))))))))
 obtain rfl := sj D
 exact ng (v := (.int .i64 (IntKind.i64.wrap (i7.2.2 - K)))) rfl rfl ⟨_, _, rfl, (d.ol (Kb (Kr (Kr (Kr (Kr (Kr Sn))))))), i4, M, Q, T, U, i9, i5, rfl, rfl, h7, s, O, P, h8⟩
theorem Je (j : Value) (H : List lB) (r : ((List (lC × (List (ByteArray × Bool)))) × (List lB) × (List (lC × (List lB))) × (List (ByteArray × (List lB))) × (List lY) × Int)) (w : World) (J : Sl (Pl lD) 9 (hp w) j H) (hm : xA H = some r) :
  nH false Tryz.prog 62 [j] w [] (fun v L1 W' => ∃ l n S3 o S6 q S9 D u G y, v = (.pointer (some ⟨l, 0, none⟩)) ∧ L1 = ((l, Ob #[n, o, q, D, G, (.int .i64 (r.2.2.2.2.2))] 189) :: (S3 ++ (S6 ++ (S9 ++ (u ++ (y ++ [])))))) ∧ nT (fun (x : lC) => (.agg (lE x).toArray)) (mJ Value.string (fun (x : Bool) => (Value.bool x))) n r.1 S3 ∧ my 52 lD 9 o r.2.1 S6 ∧ nT (fun (x : lC) => (.agg (lE x).toArray)) (my 52 lD 9) q r.2.2.1 S9 ∧ nT Value.string (my 52 lD 9) D r.2.2.2.1 u ∧ sd 111 nU 3 G r.2.2.2.2.1 y) := by
 refine vV 13 func62 rfl (fun b => sg (Wa (lr (VE (E2 (P := Tryz.prog) (fun (x : lC) => (.agg (lE x).toArray)) (mJ Value.string (fun (x : Bool) => (Value.bool x))) b (fun W1 v4 R2 b z => VE (E2 (P := Tryz.prog) (fun (x : lC) => (.agg (lE x).toArray)) (my 52 lD 9) b (fun W5 v8 R6 b B => VE (E2 (P := Tryz.prog) Value.string (my 52 lD 9) b (fun W9 R Y b t => ?_))))))))))
 obtain ⟨a, rfl⟩ := z.form
 obtain ⟨c, rfl⟩ := B.form
 obtain ⟨g, rfl⟩ := t.form
 refine V (nZ (v := (.agg #[(.map (some a)), (.slice none 0 0), (.map (some c)), (.map (some g)), (.slice none 0 0), (.int .i64 0)])) (ES rfl rfl rfl) (nB zeroValue189 fP (UO _ fP) kr)) (VE (mI b rfl (fun c1 k b => Wa (lr (Wm (Wm (bS hm fun O K hm => ?_)))))))
 refine VE (eM b (Cb Pz (Cr (Qr (Qr Qz)) (C0 (Cr (Qr Qz) (Cr Qz (C0 Cn)))))) call125 (fun F h => (FY k (.map (some a)) ([]) R2 (.slice none 0 0) ([]) [] (.map (some c)) ([]) R6 (.map (some g)) ([]) Y (.slice none 0 0) ([]) [] 0 j H _ _ F z (my.nil _ _ _) B t (sd.nil _ _ _) (J.mono (Pl.mono _) h) K)) ?_)
 rintro _ W c6 L b I m d ⟨Z, s, a2, a3, a4, A, a5, i, rfl, M, N, Q, T, U⟩
 obtain rfl := i.symm
 replace b := b.perm (Tb (Tr (Tr (Tr (Tr (Tr Tn))))))
 refine lr (Wm (Wa (lt ?_)))
 obtain rfl := sj hm
 exact ng (v := (.pointer (some ⟨k, 0, none⟩))) rfl rfl ⟨_, _, rfl, (b.Pq (Kb (Kr (Kr (Kr (Kr (Kr Sn))))))), k, (.map (some a)), Z, s, a2, (.map (some c)), a3, (.map (some g)), a4, A, a5, rfl, rfl, M, N, Q, T, U⟩
theorem Kj (i : mW) (a c g t j k : Value) (r : ((List (lC × (List (ByteArray × Bool)))) × (List lB) × (List (lC × (List lB))) × (List (ByteArray × (List lB))) × (List lY) × Int × ByteArray × ByteArray × Int)) (w : World) (y : Sl mx 15 (hp w) a i.lF.lX) (z : Sl mV 8 (hp w) c i.lF.ml) (u : Sl (Pl lD) 9 (hp w) g i.lQ) (G : Sl (Pl lD) 9 (hp w) t i.Shown) (B : Sl (Pl lE) 2 (hp w) j i.mg) (D : Sl (Pl lE) 2 (hp w) k i.mj) (hm : BR i = some r) :
  nH false Tryz.prog 21 [(.agg #[(.string i.lF.Name), a, c, (.string i.na), (.int .i64 i.Room), g, t, j, k])] w [] (fun v L1 W' => ∃ h l n S4 o S7 q J U K Y M Q, v = (.func (.func 63) #[] #[(.pointer (some ⟨h, 0, none⟩)), (.pointer (some ⟨Q, 0, none⟩))]) ∧ L1 = ((h, Ob #[(.pointer (some ⟨l, 0, none⟩))] 132) :: ((l, Ob #[n, o, q, U, Y, (.int .i64 (r.2.2.2.2.2.1))] 189) :: ((Q, Ob #[(.string (r.2.2.2.2.2.2.1)), a, c, (.string (r.2.2.2.2.2.2.2.1)), (.int .i64 (r.2.2.2.2.2.2.2.2)), g, t, j, k] 36) :: (S4 ++ (S7 ++ (J ++ (K ++ (M ++ [])))))))) ∧ nT (fun (x : lC) => (.agg (lE x).toArray)) (mJ Value.string (fun (x : Bool) => (Value.bool x))) n r.1 S4 ∧ my 52 lD 9 o r.2.1 S7 ∧ nT (fun (x : lC) => (.agg (lE x).toArray)) (my 52 lD 9) q r.2.2.1 J ∧ nT Value.string (my 52 lD 9) U r.2.2.2.1 K ∧ sd 111 nU 3 Y r.2.2.2.2.1 M) := by
 refine vV 8 func21 rfl (fun b => sg ?_)
 obtain ⟨A1, c2, rfl⟩ := y.form
 obtain ⟨A3, c4, rfl⟩ := z.form
 obtain ⟨A5, R, rfl⟩ := u.form
 obtain ⟨A7, c8, rfl⟩ := G.form
 obtain ⟨A9, c1, rfl⟩ := B.form
 obtain ⟨a7, c3, rfl⟩ := D.form
 refine VE (mI b rfl (fun e6 N b => Wa (lr (Wf EE (VB b Mh rfl rfl eU (bS hm fun f0 s hm => ?_))))))
 refine VE (FO b (bE _) call62 (fun _ _ _ _ => (Je (.slice A5 i.lQ.length R) i.lQ _ _ (u.mono (Pl.mono _) b.lJ) s)) (fun e7 f1 f2 e5 b d6 m d Z => ?_) (L0 := []))
 obtain ⟨I, W, a9, c9, F, d1, L, d2, O, d3, P, H, rfl, a2, a3, a4, a5, A⟩ := Z
 replace H := H.symm; subst H
 replace b := b.perm (Tb (Tr (Tr (Tr (Tr (Tr Tn))))))
 refine VE (mz b zeroValue132 (fun e8 T b => VO (mh (.pointer (some ⟨I, 0, none⟩)) (#[(.pointer (some ⟨I, 0, none⟩))]) b rfl rfl sizeOf132 oc nb rfl (fun e9 b => lr (V (qk (by exact xM rfl rfl) rfl) (Wa (lt ?_)))))))
 obtain rfl := sj hm
 exact ng (v := (.func (.func 63) #[] #[(.pointer (some ⟨T, 0, none⟩)), (.pointer (some ⟨N, 0, none⟩))])) rfl rfl ⟨_, _, rfl, (b.Pq (Kb (Kb (Sb (Pr (Pr (Pr (Pr (Pr Pz))))) (Kr (Kr (Kr (Kr (Kr Sn))))))))), T, I, W, a9, c9, F, d1, L, d2, O, d3, P, N, rfl, rfl, a2, a3, a4, a5, A⟩
theorem Fb (Q : Formula → (lC → Option Bool) → Option Bool) (a5 : ∀ (g : Formula) (k : Value) (t : Value) (J : lC → Option Bool) (r : Bool) (w : World) (c : Sl lH 5 (hp w) k g.Kids) (K : zn Tryz.prog t (hp w) (fun (x : lC) => [(.agg (lE x).toArray)]) (fun (r : Bool) => (.bool r)) J), Q g J = some r → mw false Tryz.prog 73 [(.agg #[(.int .i64 g.Op), (.int .i64 g.K), (.string g.lC.lI), (.string g.lC.lM), k]), t] w (.bool r)) (g : Formula) (k t : Value) (J : lC → Option Bool) (r : Bool) (w : World) (c : Sl lH 5 (hp w) k g.Kids) (K : zn Tryz.prog t (hp w) (fun (x : lC) => [(.agg (lE x).toArray)]) (fun (r : Bool) => (.bool r)) J) (hm : xB Q g J = some r) :
  mw false Tryz.prog 73 [(.agg #[(.int .i64 g.Op), (.int .i64 g.K), (.string g.lC.lI), (.string g.lC.lM), k]), t] w (.bool r) := by
 refine cG 45 func73 rfl (fun b => sg ?_)
 obtain ⟨A1, c2, rfl⟩ := c.form
 refine VE (mI b rfl (fun W4 n b => Wa (lS (Wf vT (VB b Mh rfl rfl cP (Wi rfl (ln (CI hm rfl (fun a9 hm => ?_) (fun a9 hm => ?_)))))))))
 ·refine sg (Wm (Wf xW (VA b Mh (lE g.lC) bB aH (bS hm fun r6 v hm => VE (Mq g.lC b K (mn.refl _) rfl (uC rfl) v (fun W8 b => Wa (ln ?_)))))))
  replace b := b.lG (Db St)
  refine mB (mQ ?_)
  obtain rfl := sj hm
  exact rP b
 refine kg (Wa (lS (Wf uO (VB b Mh rfl rfl gP (V (nh aF rfl c) (Wm (mD ?_)))))))
 refine lU (mY (fun i E W => ∃ z I, (E 18 = .int .i64 (i : Nat) ∧ E 17 = .int .i64 (g.Kids.length : Nat)) ∧ ST false mX w W (hp w) ((n, Ol (C1 g.Op g.K g.lC.lI g.lC.lM A1 g.Kids.length c2) 58) :: I) ∧ E 1 = t ∧ E 2 = (.pointer (some ⟨n, 0, none⟩)) ∧ E 5 = (.int .i64 z) ∧ E 16 = (.slice A1 g.Kids.length c2) ∧ rB Q J g (g.Kids.drop i) z = some r) g.Kids.length c.len ⟨0, _, ⟨rfl, rfl⟩, (b.lG St), rfl, rfl, rfl, rfl, hm⟩ dc dc dc (fun _ _ _ h => by obtain ⟨_, _, l, _⟩ := h; exact l) ?_ ?_)
 ·rintro A E W a4 ⟨z, I, ⟨d, m⟩, b, G, u, y, H, a⟩
  obtain ⟨j, c1, s, q, N⟩ := mM a4
  rw [s] at a
  refine bg (VQ (od (i := (A : Int)) (x0 := j) lH.out aF aD H d c (aG _) q) (fun R ⟨_, ⟨c0, rfl, M⟩, Z⟩ => V (lK rfl (ms b.has Z aZ aD)) (VE (mz b bI (fun F P b => ?_)))))
  obtain ⟨B, D, rfl⟩ := M.form
  let a0 := (C1 j.Op j.K j.lC.lI j.lC.lM B j.Kids.length D)
  refine VO (mh (.agg a0.toArray) (a0.toArray) b rfl rfl aD oc nb rfl (fun L b => lr (VA b Mh a0 aZ aD (Wh G (bS a fun b9 o a => VE (Eg b call73 (a5 j (.slice B j.Kids.length D) t J _ _ (M.mono mf.mono b.lJ) (K.mono b.lJ) o) (fun O b => ln ?_)))))))
  replace b := b.lG (Db St)
  refine CI a rfl (fun T a => ?_) (fun T a => ?_)
  ·exact mc (Wh y (Wi rfl (Wa (mD (mL (lU ⟨d, (IntKind.i64.wrap (z + 1)), _, ⟨rfl, m⟩, (b.lG St), G, u, rfl, H, (by rw [N]; exact a)⟩))))))
  exact np (mL (lU ⟨d, z, _, ⟨rfl, m⟩, (b.lG St), G, u, y, H, (by rw [N]; exact a)⟩))
 rintro E W ⟨z, I, ⟨d, m⟩, b, G, u, y, H, a⟩
 rw [aK] at a
 refine lU (me (sg (V (lN vT u) (VB b Mh rfl rfl cP (ln (bg (Wi rfl (Wa (ln ?_)))))))))
 refine CI a rfl (fun U a => ?_) (fun U a => ?_)
 ·refine sg (Wh y (V (lN uO u) (VB b Mh rfl rfl gP (V (nh aF rfl c) (Wi rfl (Wa (ln ?_)))))))
  replace b := b.lG (Db St)
  refine mB (oh (mQ ?_))
  obtain rfl := sj a
  exact rP b
 refine sg (Wi rfl (Wa (ln (CI a rfl (fun Y a => ?_) (fun Y a => ?_)))))
 ·refine sg (Wh y (Wi rfl (Wa (ln ?_))))
  replace b := b.lG (Db St)
  refine mB (oh (mQ ?_))
  obtain rfl := sj a
  exact rP b
 refine np (mL (lU (sg (Wh y (V (lN AO u) (VB b Mh rfl rfl cP (Wi rfl (Wa (ln ?_)))))))))
 exact mB (rQ a b)
theorem DL : ∀ (n : Nat) (c : Formula) (a : Value) (g : Value) (j : lC → Option Bool) (r : Bool) (w : World) (i : Sl lH 5 (hp w) a c.Kids) (k : zn Tryz.prog g (hp w) (fun (x : lC) => [(.agg (lE x).toArray)]) (fun (r : Bool) => (.bool r)) j) (_ : rW n c j = some r),
  mw false Tryz.prog 73 [(.agg #[(.int .i64 c.Op), (.int .i64 c.K), (.string c.lC.lI), (.string c.lC.lM), a]), g] w (.bool r)
 | 0 => by intros; rename_i h; simp only [rW] at h; cases h
 | n + 1 => Fb (rW n) (DL n)
theorem Bh (a : Formula) (j k : Value) (G : lC → Option Bool) (r : Bool) (w : World) (c : Sl lH 5 (hp w) j a.Kids) (z : zn Tryz.prog k (hp w) (fun (x : lC) => [(.agg (lE x).toArray)]) (fun (r : Bool) => (.bool r)) G) (hm : uu a G = some r) :
  mw false Tryz.prog 24 [(.agg #[(.int .i64 a.Op), (.int .i64 a.K), (.string a.lC.lI), (.string a.lC.lM), j]), k] w (.bool r) := by
 refine cG 16 func24 rfl (fun b => sg ?_)
 obtain ⟨u, y, rfl⟩ := c.form
 let a0 := (C1 a.Op a.K a.lC.lI a.lC.lM u a.Kids.length y)
 refine VE (mI b rfl (fun U Z b => Wa (lr (Wm (V (Qe underlying65 z.form rfl rfl) (Wm (Vg rfl rfl (lK rfl (lP b.has Mh a0 rfl aZ aD)) (bS hm fun d K hm => P0 rfl rfl (Eg b call72 (uT a (.slice u a.Kids.length y) _ _ (c.mono mf.mono b.lJ) K) (fun Y b => V (mo rfl rfl) (Wm (LJ hm (fun D E W => ∃ B, ST false mX w W (hp w) B ∧ E 4 = (.bool false) ∧ E 15 = (.bool D)) 4 ?_ (fun D g t => ?_)))))))))))))
 ·rintro T E W ⟨B, b, N, J⟩ H
  exact Wg J (lt (rQ H b))
 refine bC g (fun i g => ?_) (fun i g => ?_)
 ·refine ug i (lK rfl (lP b.has Mh a0 rfl aZ aD)) (ug i (lO rfl) (bS g fun Q I g => uJ i (Eg b call73 ((DL mR) a (.slice u a.Kids.length y) k G _ _ (c.mono mf.mono b.lJ) (z.mono b.lJ) I) (fun M b => V (mo (cB i) rfl) ?_))))
  obtain rfl := sj g
  exact t _ _ ⟨_, (b.lG (Db St)), rfl, rfl⟩
 refine un i (un i (un i (V (mq (cB i) rfl) ?_)))
 obtain rfl := sj g
 exact t _ _ ⟨_, (b.lG (Db St)), rfl, rfl⟩
theorem GV (g : ny) (c i : Value) (u : Nat) (k : Value) (t : lC → Option Bool) (r : Bool) (w : World) (a : Sl lH 5 (hp w) c g.lL.Kids) (j : Sl (Pl lD) 9 (hp w) i g.nn) (G : zn Tryz.prog k (hp w) (fun (x : lC) => [(.agg (lE x).toArray)]) (fun (r : Bool) => (.bool r)) t) (z : At (hp w) (.pointer (some ⟨u, 0, none⟩)) [k]) (hm : wL g t = some r) :
  mw false Tryz.prog 196 [(.agg #[(.string g.lC.lI), (.string g.lC.lM), (.int .i64 g.lL.Op), (.int .i64 g.lL.K), (.string g.lL.lC.lI), (.string g.lL.lC.lM), c, i]), (.pointer (some ⟨u, 0, none⟩))] w (.bool r) := by
 refine cG 8 func196 rfl (fun b => sg ?_)
 obtain ⟨B, D, rfl⟩ := a.form
 obtain ⟨I, J, rfl⟩ := j.form
 refine VE (mI b rfl (fun K N b => Wa (lr (Wf GZ (VA b Mh (C1 g.lL.Op g.lL.K g.lL.lC.lI g.lL.lC.lM B g.lL.Kids.length D) aZ aD (V (lK rfl (pp b.has (y := k) z isAgg65)) (bS hm fun Q H hm => VE (Eg b call24 (Bh g.lL (.slice B g.lL.Kids.length D) k t _ _ (a.mono mf.mono b.lJ) (G.mono b.lJ) H) (fun M b => Wa (ln ?_))))))))))
 exact mB (rQ hm b)
theorem De (K : Nat) (a : Value) (G : List (lC × (List (ByteArray × Bool)))) (c : Value) (t : List lB) (j : Value) (D : List (lC × (List lB))) (g : Value) (u : List (ByteArray × (List lB))) (i : Value) (B : List lY) (J : Int) (I : lC) (a2 : ByteArray) (r : Bool) (w : World) (H : ud (fun (x : lC) => (.agg (lE x).toArray)) (mJ Value.string (fun (x : Bool) => (Value.bool x))) (hp w) a G) (T : Sl (Pl lD) 9 (hp w) c t) (Z : ud (fun (x : lC) => (.agg (lE x).toArray)) (my 52 lD 9) (hp w) j D) (U : ud Value.string (my 52 lD 9) (hp w) g u) (Y : Sl (Pl nU) 3 (hp w) i B) (Q : At (hp w) (.pointer (some ⟨K, 0, none⟩)) [a, c, j, g, i, (.int .i64 J)]) (hm : uq G t D u B J I a2 = some r) :
  mw true Tryz.prog 64 [(.pointer (some ⟨K, 0, none⟩)), (.agg (lE I).toArray), (.string a2)] w (.bool r) := by
 refine cG 19 func64 rfl (fun l => sg (VE (mI l rfl (fun W2 s l => Wa (ln (me ?_))))))
 replace l := l.drew
 have d := l.has.lG (Kb Sn)
 refine mO d mu (X 0 rfl d (lO rfl) (X 1 rfl d (Cu underlying132 rfl rfl) (X 2 rfl d (lO rfl) (Xg 3 rfl rfl rfl d (lO rfl) (Xg 4 rfl rfl rfl d (nN rfl) (uP 5 rfl kr (.inr ⟨2, true, 9, rfl, rfl, by decide, rfl⟩) rfl dc (fun _ _ h => h) d (sO [a] yT rfl Q rfl) (fun q a3 => sc 6 rfl rfl rfl d (fun _ m => lK rfl (pp m (y := a) a3 jD)) (sc 7 rfl rfl rfl d (fun _ m => lK rfl (lP m Mh (lE I) rfl bB aH)) ?_))))))))
 obtain ⟨a4, a5, M, N⟩ := H
 refine sc 8 rfl rfl rfl d (fun _ m => rl (k := I) (z := (.map none)) yd fR gY rfl rfl M (fun b o n => m.1 b o (N b o n))) (Xg 9 rfl rfl rfl d (lO rfl) (sc 10 rfl rfl rfl d (fun _ m => uK (k := a2) (z := false) (vf := (fun (x : Bool) => (Value.bool x))) GC fS gM rfl rfl ((oN.Fq mi.1 M I N).mono (fun b o n => m.1 b o n))) (X 11 rfl d (mo rfl rfl) (X 12 rfl d (oL rfl) (nc kr (lU ?_))))))
 exact mB (rQ hm l)
theorem Gm (a0 : lC) (l Z : Nat) (I : Value) (U : List (lC × (List (ByteArray × Bool)))) (g : Value) (G : List lB) (u : Value) (N : List (lC × (List lB))) (i : Value) (H : List (ByteArray × (List lB))) (t : Value) (M : List lY) (d : Int) (m : Nat) (B : ByteArray) (a : Value) (j : List mG) (c : Value) (z : List ny) (k : ByteArray) (a5 : Int) (D : Value) (J : List lB) (T : Value) (a2 : List lB) (K : Value) (Y : List lC) (Q : Value) (h : List lC) (r : Bool) (w : World) (a9 : ud (fun (x : lC) => (.agg (lE x).toArray)) (mJ Value.string (fun (x : Bool) => (Value.bool x))) (hp w) I U) (a3 : Sl (Pl lD) 9 (hp w) g G) (o : ud (fun (x : lC) => (.agg (lE x).toArray)) (my 52 lD 9) (hp w) u N) (a4 : ud Value.string (my 52 lD 9) (hp w) i H) (n : Sl (Pl nU) 3 (hp w) t M) (q : At (hp w) (.pointer (some ⟨Z, 0, none⟩)) [I, g, u, i, t, (.int .i64 d)]) (s : At (hp w) (.pointer (some ⟨l, 0, none⟩)) [(.pointer (some ⟨Z, 0, none⟩))]) (F : Sl mx 15 (hp w) a j) (O : Sl mV 8 (hp w) c z) (P : Sl (Pl lD) 9 (hp w) D J) (W : Sl (Pl lD) 9 (hp w) T a2) (R : Sl (Pl lE) 2 (hp w) K Y) (c2 : Sl (Pl lE) 2 (hp w) Q h) (c1 : At (hp w) (.pointer (some ⟨m, 0, none⟩)) [(.string B), a, c, (.string k), (.int .i64 a5), D, T, K, Q]) (hm : uS a0 U G N H M d B j z k a5 J a2 Y h = some r) :
  mw true Tryz.prog 63 [(.agg (lE a0).toArray), (.pointer (some ⟨l, 0, none⟩)), (.pointer (some ⟨m, 0, none⟩))] w (.bool r) := by
 refine cG 10 func63 rfl (fun b => sg (VE (mI b rfl (fun W2 L b => Wa (lr (V (lK rfl (pp b.has (y := (.pointer (some ⟨Z, 0, none⟩))) s isAgg132)) (VA b Mh (lE a0) bB aH (VQ (sO [(.string k)] Ji rfl c1 rfl) (fun p3 v => V (lK rfl (pp b.has (y := (.string k)) v bZ)) (bS hm fun r6 A hm => VE (Eg b call64 (De Z I U g G u N i H t M d a0 k _ _ (a9.mono b.lJ) (a3.mono (Pl.mono _) b.lJ) (o.mono b.lJ) (a4.mono b.lJ) (n.mono (Pl.mono _) b.lJ) (q.mono b.lJ) A) (fun W8 b => ?_))))))))))))
 refine Wa (ln ?_)
 exact mB (rQ hm b)
theorem DF (a : mW) (H K U a1 Y Z : Value) (r : List ny) (w : World) {μ0 : mF} (h0 : po μ0 [] w) (y : Sl mx 15 μ0 H a.lF.lX) (j : Sl mV 8 μ0 K a.lF.ml) (D : Sl (Pl lD) 9 μ0 U a.lQ) (Q : Sl (Pl lD) 9 μ0 a1 a.Shown) (M : Sl (Pl lE) 2 μ0 Y a.mg) (N : Sl (Pl lE) 2 μ0 Z a.mj) (hm : wK a = some r) :
  nM false Tryz.prog 136 [(.agg #[(.string a.lF.Name), H, K, (.string a.na), (.int .i64 a.Room), U, a1, Y, Z])] w μ0 [] (fun v L1 μ1 => ∃ y1, v = y1 ∧ L1 = [] ∧ Sl mV 8 μ1 y1 (r)) := by
 refine vA h0 12 func136 rfl (fun b => sg ?_)
 obtain ⟨A1, c2, rfl⟩ := y.form
 obtain ⟨A3, c4, rfl⟩ := j.form
 let a8 : Value := (.slice A3 a.lF.ml.length c4)
 obtain ⟨A5, c6, rfl⟩ := D.form
 obtain ⟨A7, c8, rfl⟩ := Q.form
 obtain ⟨A9, a6, rfl⟩ := M.form
 obtain ⟨a5, a7, rfl⟩ := N.form
 refine VE (mI b rfl (fun i5 j0 b => Wa (lr (VA b Mh (C2 a.lF.Name A1 a.lF.lX.length c2 A3 a.lF.ml.length c4 a.na a.Room A5 a.lQ.length c6 A7 a.Shown.length c8 A9 a.mg.length a6 a5 a.mj.length a7) dU cZ (bS hm fun c f0 hm => ?_)))))
 refine VE (FO b (bE _) call21 (fun _ _ _ _ => (Kj a (.slice A1 a.lF.lX.length c2) a8 (.slice A5 a.lQ.length c6) (.slice A7 a.Shown.length c8) (.slice A9 a.mg.length a6) (.slice a5 a.mj.length a7) _ _ (y.mono mH.mono b.lJ) (j.mono nK.mono b.lJ) (D.mono (Pl.mono _) b.lJ) (Q.mono (Pl.mono _) b.lJ) (M.mono (Pl.mono _) b.lJ) (N.mono (Pl.mono _) b.lJ) f0)) (fun i6 j4 j6 h8 b I m ab d7 => ?_) (L0 := []))
 obtain ⟨a2, b9, d2, i0, d3, i1, d4, i2, d5, i3, d6, i4, a3, a9, rfl, f4, f5, f6, f7, f8⟩ := d7
 replace a9 := a9.symm; subst a9
 replace b := b.perm (Tb (Tb (Tb (Tr (Tr (Tr (Tr (Tr Tn))))))))
 refine VE (mz b zeroValue65 (fun i7 b1 b => VO (mh (.func (.func 63) #[] #[(.pointer (some ⟨a2, 0, none⟩)), (.pointer (some ⟨a3, 0, none⟩))]) (#[(.func (.func 63) #[] #[(.pointer (some ⟨a2, 0, none⟩)), (.pointer (some ⟨a3, 0, none⟩))])]) b rfl rfl sizeOf65 oc nb rfl (fun i8 b => lr (Wf zB (Wf Es (VB b (Mt (Mt (Mt (Mt (Ma (Ma (Ma (Ma (Ma Mh))))))))) rfl rfl isAgg23 (bS hm fun g2 f1 hm => ?_))))))))
 let a0 : Value := (.func (.func 63) #[] #[(.pointer (some ⟨a2, 0, none⟩)), (.pointer (some ⟨a3, 0, none⟩))])
 refine VE (eD b (bE _) call130 (fun hh => nM.nz (yF a8 a.lF.ml _ _ hh (j.mono nK.mono I) f1)) ?_ (L0 := []))
 rintro _ j5 j7 h9 b T n ⟨g4, g0, b0, rfl, f9⟩
 obtain rfl := b0.symm
 replace b := b.perm (Tr Tn)
 refine V (qk (by exact uC rfl) rfl) ?_
 replace b := b.perm (Nr (Qr (Qb (Qb (Qb (Qb Qz))))) Nz)
 obtain ⟨j8, b, J, o, e3⟩ := ST.xP b
 replace b := b.perm (Nr (Qr (Qb (Qb (Qb (Qb Qz))))) Nz)
 obtain ⟨j9, b, G, q, f2⟩ := ST.zp b f5 nj
 replace b := b.perm (Nr (Qr (Qb (Qb (Qb (Qb Qz))))) Nz)
 obtain ⟨k2, b, B, s, e4⟩ := ST.xP b
 replace b := b.perm (Nr (Qr (Qb (Qb (Qb (Qb Qz))))) Nz)
 obtain ⟨k3, b, z, A, e5⟩ := ST.xP b
 replace b := b.perm (Nr (Qr (Qb (Qb (Qb (Qb Qz))))) Nz)
 obtain ⟨k4, b, u, F, f3⟩ := ST.UD b f8 yZ
 replace b := b.perm (Nb (Pr (Pb (Pb Pz))) Nz)
 obtain ⟨k5, b, t, L, e6⟩ := ST.xP (R := [(b9, Ob #[d2, d3, d4, d5, d6, (.int .i64 (c.2.2.2.2.2.1))] 189)]) b
 have d9 := At.of (e6 _ _ (.head _)) _ rfl
 replace b := b.perm (Nb (Pr (Pb Pz)) Nz)
 obtain ⟨k6, b, k, O, e7⟩ := ST.xP (R := [(a2, Ob #[(.pointer (some ⟨b9, 0, none⟩))] 132)]) b
 have e0 := At.of (e7 _ _ (.head _)) _ rfl
 replace b := b.perm (Nb (Pr (Pb Pz)) Nz)
 obtain ⟨k7, b, i, P, e8⟩ := ST.xP (R := [(a3, Ol (C2 (c.2.2.2.2.2.2.1) A1 a.lF.lX.length c2 A3 a.lF.ml.length c4 (c.2.2.2.2.2.2.2.1) (c.2.2.2.2.2.2.2.2) A5 a.lQ.length c6 A7 a.Shown.length c8 A9 a.mg.length a6 a5 a.mj.length a7) 36)]) b
 have e1 := At.of (e8 _ _ (.head _)) _ rfl
 replace b := b.perm (Nb (Pr Pz) Nz)
 obtain ⟨k8, b, g, aa, e9⟩ := ST.xP (R := [(b1, Ob #[a0] 65)]) b
 have e2 := At.of (e9 _ _ (.head _)) _ rfl
 refine bS hm fun j3 d0 hm => ?_
 refine VE (eD b (Cr Qz Cn) call129 (fun hh => (wq g4 g2 g0 (.func (.func 196) #[] #[(.pointer (some ⟨b1, 0, none⟩))]) (fun (x : ny) => wL x (fun (x : lC) => uS x c.1 c.2.1 c.2.2.1 c.2.2.2.1 c.2.2.2.2.1 c.2.2.2.2.2.1 c.2.2.2.2.2.2.1 a.lF.lX a.lF.ml c.2.2.2.2.2.2.2.1 c.2.2.2.2.2.2.2.2 a.lQ a.Shown a.mg a.mj)) _ _ hh (f9.mono nK ((((((((J.trans G).trans B).trans z).trans u).trans t).trans k).trans i).trans g)) ⟨196, #[], #[(.pointer (some ⟨b1, 0, none⟩))], rfl, call196, fun W x vs r h hR hm => by obtain ⟨_, rfl, g1⟩ := hR; obtain ⟨u0, u1, rfl, k0, k1⟩ := g1.out; exact GV x u0 u1 b1 a0 (fun (x : lC) => uS x c.1 c.2.1 c.2.2.1 c.2.2.2.1 c.2.2.2.2.1 c.2.2.2.2.2.1 c.2.2.2.2.2.2.1 a.lF.lX a.lF.ml c.2.2.2.2.2.2.2.1 c.2.2.2.2.2.2.2.2 a.lQ a.Shown a.mg a.mj) r W k0 k1 ⟨63, #[], #[(.pointer (some ⟨a2, 0, none⟩)), (.pointer (some ⟨a3, 0, none⟩))], rfl, call63, fun W x r d hm => (Gm x a2 b9 d2 c.1 d3 c.2.1 d4 c.2.2.1 d5 c.2.2.2.1 d6 c.2.2.2.2.1 c.2.2.2.2.2.1 a3 c.2.2.2.2.2.2.1 (.slice A1 a.lF.lX.length c2) a.lF.lX a8 a.lF.ml c.2.2.2.2.2.2.2.1 c.2.2.2.2.2.2.2.2 (.slice A5 a.lQ.length c6) a.lQ (.slice A7 a.Shown.length c8) a.Shown (.slice A9 a.mg.length a6) a.mg (.slice a5 a.mj.length a7) a.mj r W ((f4.at e3).mono (((((((((G.trans B).trans z).trans u).trans t).trans k).trans i).trans g).trans h).trans d)) (f2.mono (Pl.mono _) ((((((((B.trans z).trans u).trans t).trans k).trans i).trans g).trans h).trans d)) ((f6.at e4).mono (((((((z.trans u).trans t).trans k).trans i).trans g).trans h).trans d)) ((f7.at e5).mono ((((((u.trans t).trans k).trans i).trans g).trans h).trans d)) (f3.mono (Pl.mono _) (((((t.trans k).trans i).trans g).trans h).trans d)) (d9.mono ((((k.trans i).trans g).trans h).trans d)) (e0.mono (((i.trans g).trans h).trans d)) (y.mono mH.mono ((((((((((((I.trans T).trans J).trans G).trans B).trans z).trans u).trans t).trans k).trans i).trans g).trans h).trans d)) (j.mono nK.mono ((((((((((((I.trans T).trans J).trans G).trans B).trans z).trans u).trans t).trans k).trans i).trans g).trans h).trans d)) (D.mono (Pl.mono _) ((((((((((((I.trans T).trans J).trans G).trans B).trans z).trans u).trans t).trans k).trans i).trans g).trans h).trans d)) (Q.mono (Pl.mono _) ((((((((((((I.trans T).trans J).trans G).trans B).trans z).trans u).trans t).trans k).trans i).trans g).trans h).trans d)) (M.mono (Pl.mono _) ((((((((((((I.trans T).trans J).trans G).trans B).trans z).trans u).trans t).trans k).trans i).trans g).trans h).trans d)) (N.mono (Pl.mono _) ((((((((((((I.trans T).trans J).trans G).trans B).trans z).trans u).trans t).trans k).trans i).trans g).trans h).trans d)) (e1.mono ((g.trans h).trans d)) hm).nz⟩ (e2.mono ((mn.refl _).trans h)) hm⟩ d0)) ?_)
 rintro _ h5 h7 g9 b c5 l ⟨c7, a4, rfl, d1⟩
 obtain rfl := a4.symm
 refine Wa (ln ?_)
 replace b := b.lG (Db St)
 refine mB ?_
 obtain rfl := sj hm
 exact ng (v := c7) rfl rfl ⟨_, _, _, rfl, (b.ol Sn), (((((((((((I.trans T).trans J).trans G).trans B).trans z).trans u).trans t).trans k).trans i).trans g).trans c5), (((((((((((m.trans n).trans o).trans q).trans s).trans A).trans F).trans L).trans O).trans P).trans aa).trans l), (ST.nm b (oK.mem Sn)), c7, rfl, rfl, d1⟩
theorem GN (c : ny) (a i : Value) (k : Nat) (u : lB) (r : Bool) (w : World) (j : Sl lH 5 (hp w) a c.lL.Kids) (g : Sl (Pl lD) 9 (hp w) i c.nn) (t : At (hp w) (.pointer (some ⟨k, 0, none⟩)) (lD u)) (hm : wN c u = some r) :
  mw true Tryz.prog 198 [(.agg #[(.string c.lC.lI), (.string c.lC.lM), (.int .i64 c.lL.Op), (.int .i64 c.lL.K), (.string c.lL.lC.lI), (.string c.lL.lC.lM), a, i]), (.pointer (some ⟨k, 0, none⟩))] w (.bool r) := by
 refine cG 9 func198 rfl (fun b => sg ?_)
 obtain ⟨B, D, rfl⟩ := j.form
 obtain ⟨x, y, rfl⟩ := g.form
 refine VE (mI b rfl (fun G I b => Wa (lr (Wf EQ (VB b Mh rfl rfl eU (V (lK rfl (ms b.has t bH aI)) (bS hm fun J z hm => VE (Eg b call60 (AJ (.slice x c.nn.length y) c.nn u _ _ (g.mono (Pl.mono _) b.lJ) z) (fun H b => V (oH rfl) (Wa (ln ?_)))))))))))
 exact mB (rQ hm b)
theorem AK (g : Value) (y : List ny) (j : lB) (r : List ny) (w : World) {N : mF} (n : po N [] w) (D : Sl mV 8 N g y) (hm : uX y j = some r) :
  nM false Tryz.prog 139 [g, (.agg (lD j).toArray)] w N [] (fun v L1 μ1 => ∃ Y, v = Y ∧ L1 = [] ∧ Sl mV 8 μ1 Y (r)) := by
 refine vA n 9 func139 rfl (fun b => sg (VE (mI b rfl (fun W2 k b => Wa (lr (Wm (bS hm fun A U hm => ?_)))))))
 refine VE (eD b (bE _) call130 (fun l => nM.nz (yF g y _ _ l (D.mono nK.mono (mn.refl _)) U)) ?_ (L0 := []))
 rintro _ v9 O P b H m ⟨Z, Q, a, rfl, K⟩
 obtain rfl := a.symm
 replace b := b.perm (Tr Tn)
 refine V (qk (by exact uC rfl) rfl) ?_
 replace b := b.perm (Nb (Pr Pz) Nz)
 obtain ⟨b4, b, i, d, I⟩ := ST.xP (R := [(k, Ol (lD j) 52)]) b
 have G := At.of (I _ _ (.head _)) _ rfl
 refine bS hm fun b2 J hm => ?_
 refine VE (eD b (Cr Qz Cn) call129 (fun l => (wq Z A Q (.func (.func 198) #[] #[(.pointer (some ⟨k, 0, none⟩))]) (fun (x : ny) => wN x j) _ _ l (K.mono nK i) ⟨198, #[], #[(.pointer (some ⟨k, 0, none⟩))], rfl, call198, fun W x vs r q o hm => by obtain ⟨_, rfl, T⟩ := o; obtain ⟨F, L, rfl, s, z⟩ := T.out; exact (GN x F L k j r W s z (G.mono ((mn.refl _).trans q)) hm).nz⟩ J)) ?_)
 rintro _ b3 b5 a9 b t h ⟨u, c, rfl, M⟩
 obtain rfl := c.symm
 refine Wa (lt ?_)
 obtain rfl := sj hm
 exact ng (v := u) rfl rfl ⟨_, _, _, rfl, (b.ol Sn), ((H.trans i).trans t), ((m.trans d).trans h), (ST.nm b (oK.mem Sn)), u, rfl, rfl, M⟩
theorem FP (g : mW) (u y D Q H N : Value) (r : List lB) (w : World) (c : Sl mx 15 (hp w) u g.lF.lX) (x : Sl mV 8 (hp w) y g.lF.ml) (B : Sl (Pl lD) 9 (hp w) D g.lQ) (M : Sl (Pl lD) 9 (hp w) Q g.Shown) (G : Sl (Pl lE) 2 (hp w) H g.mg) (K : Sl (Pl lE) 2 (hp w) N g.mj) (hm : vi g = some r) :
  nC false Tryz.prog 78 [(.agg #[(.string g.lF.Name), u, y, (.string g.na), (.int .i64 g.Room), D, Q, H, N])] w 52 lD 9 r := by
 refine vV 46 func78 rfl (fun d => sg ?_)
 obtain ⟨A1, c2, rfl⟩ := c.form
 obtain ⟨A3, c4, rfl⟩ := x.form
 obtain ⟨A5, c6, rfl⟩ := B.form
 obtain ⟨A7, c8, rfl⟩ := M.form
 obtain ⟨A9, d5, rfl⟩ := G.form
 obtain ⟨d0, d6, rfl⟩ := K.form
 refine VE (mI d rfl (fun m4 m6 d => Wa (lr (VA d Mh (C2 g.lF.Name A1 g.lF.lX.length c2 A3 g.lF.ml.length c4 g.na g.Room A5 g.lQ.length c6 A7 g.Shown.length c8 A9 g.mg.length d5 d0 g.mj.length d6) dU cZ (bS hm fun s i4 hm => ?_)))))
 refine VE (eD d (bE _) call136 (fun hh => (DF g (.slice A1 g.lF.lX.length c2) (.slice A3 g.lF.ml.length c4) (.slice A5 g.lQ.length c6) (.slice A7 g.Shown.length c8) (.slice A9 g.mg.length d5) (.slice d0 g.mj.length d6) _ _ hh (c.mono mH.mono (mn.refl _)) (x.mono nK.mono (mn.refl _)) (B.mono (Pl.mono _) (mn.refl _)) (M.mono (Pl.mono _) (mn.refl _)) (G.mono (Pl.mono _) (mn.refl _)) (K.mono (Pl.mono _) (mn.refl _)) i4)) ?_ (L0 := []))
 rintro _ m7 h0 m3 d f2 ad ⟨e0, c1, rfl, F⟩
 obtain rfl := c1.symm
 refine Wa (lr (Wa (lS (Wf zB (Wf AD (VB d Mh rfl rfl kH (V (nh dN rfl c) ?_)))))))
 refine Wm (ln ?_)
 replace d := d.lG (Db St)
 refine mY (fun i E W => ∃ J U I Z P, (E 15 = .int .i64 (i : Nat) ∧ E 14 = .int .i64 (g.lF.lX.length : Nat)) ∧ mn h0 Z ∧ ST false mX w W Z (I ++ P) ∧ E 3 = e0 ∧ E 4 = J ∧ E 13 = (.slice A1 g.lF.lX.length c2) ∧ my 52 lD 9 J U I ∧ sF s (g.lF.lX.drop i) U = some r) g.lF.lX.length c.len ⟨(.slice none 0 0), ([]), [], h0, _, ⟨rfl, rfl⟩, (mn.refl _), (d.lG St), rfl, rfl, rfl, (my.nil _ _ _), hm⟩ dc dc dc (fun _ _ _ h => by obtain ⟨_, _, _, _, _, n, _⟩ := h; exact n) ?_ ?_
 ·rintro i5 E W f0 ⟨J, U, I, Z, P, ⟨m, q⟩, z, d, a2, a3, a4, A, j⟩
  obtain ⟨a, j6, g3, g2, c9⟩ := mM f0
  rw [g3] at j
  refine bg (VQ (od (i := (i5 : Int)) (x0 := a) mx.out dN dQ a4 m (c.mono mH.mono (f2.trans z)) (aG _) g2) (fun l1 ⟨_, ⟨l5, l6, rfl, f8, f9⟩, f4⟩ => V (lK rfl (ms d.has f4 kJ dQ)) (VE (mz d eZ (fun k0 k9 d => ?_)))))
  obtain ⟨d1, d7, rfl⟩ := f8.form
  obtain ⟨d2, d8, rfl⟩ := f9.form
  let a0 := (C4 a.Signed.lB.Kind a.Signed.lB.Head.lI a.Signed.lB.Head.lM a.Signed.lB.mS a.Signed.lB.B.lI a.Signed.lB.B.lM a.Signed.lB.C.lI a.Signed.lB.C.lM a.Signed.lB.mK d1 a.Signed.Tag.length d7 a.lL.Op a.lL.K a.lL.lC.lI a.lL.lC.lM d2 a.lL.Kids.length d8)
  refine VO (mh (.agg a0.toArray) (a0.toArray) d rfl rfl dQ oc nb rfl (fun k1 d => lr (Wh a2 (Wf yE (Wf tj (VA d Mh (lD a.Signed.lB) bH aI (bS j fun l3 f6 j => ?_)))))))
  refine VE (eD d (bE _) call139 (fun hh => (AK e0 s a.Signed.lB _ _ hh (F.mono nK.mono z) f6)) ?_ (L0 := []))
  rintro _ l7 e1 j9 d b1 aa ⟨m1, a7, rfl, g9⟩
  obtain rfl := a7.symm
  refine V (nh cO rfl g9) (Wi rfl (ln (CI j rfl (fun e7 j => ?_) (fun e7 j => ?_))))
  ·refine mc (Wh a3 (Wf yE (Wf tj (VA d Mh (lD a.Signed.lB) bH aI (VE (mN (cs := (lD a.Signed.lB).toArray) d (oX rfl) (oR aJ aI cM) (fun k3 h8 d => ?_)))))))
   replace d := d.perm (Nr (Qb (Qb Qz)) Nz)
   refine bS j fun i7 e8 j => VE (pf (enc := lD) (v := J) (vs := (.slice (some ⟨h8, 0, none⟩) 1 1)) (R := I) d nj dc pb aJ oG.1 oG.2.1 rfl oG.2.2.1 oG.2.2.2 rfl rfl A (Sl.lit (enc := lD) (l := [a.Signed.lB]) nj rfl nb rfl (d.at_ (Ma Mh))) e8 (fun k4 j0 h5 d e5 => Wa (mD (mL (lU ?_)))))
   replace d := d.lG (Kr (Db (Db St)))
   exact ⟨m, j0, i7, h5, e1, _, ⟨rfl, q⟩, (z.trans b1), (d.lG St), a2, rfl, a4, e5, (by rw [c9]; exact j)⟩
  refine np (mL (lU ?_))
  replace d := d.lG (Db St)
  exact ⟨m, J, U, I, e1, _, ⟨rfl, q⟩, (z.trans b1), (d.lG St), a2, a3, a4, A, (by rw [c9]; exact j)⟩
 rintro E W ⟨J, U, I, Z, P, ⟨m, q⟩, z, d, a2, a3, a4, A, j⟩
 rw [aK] at j
 refine lU (me (sg (Wh a2 (V (nh cO rfl F) (Wm (ln (CJ j (fun c3 E W => ∃ L b6 d4, ST false mX w W Z (b6 ++ d4) ∧ E 4 = L ∧ my 52 lD 9 L c3 b6) (fun c3 f3 => ?_) ?_)))))))
 ·refine mY (fun i E W => ∃ Y a9 T b5, (E 35 = .int .i64 (i : Nat) ∧ E 34 = .int .i64 (s.length : Nat)) ∧ ST false mX w W Z (T ++ b5) ∧ E 4 = Y ∧ E 33 = e0 ∧ my 52 lD 9 Y a9 T ∧ ul (s.drop i) a9 = some c3) s.length F.len ⟨J, U, I, _, ⟨rfl, rfl⟩, (d.lG St), a3, rfl, A, f3⟩ dc dc dc (fun _ _ _ h => by obtain ⟨_, _, _, _, n, _⟩ := h; exact n) ?_ ?_
  ·rintro i6 E W f1 ⟨Y, a9, T, b5, ⟨m, q⟩, d, b9, c0, O, t⟩
   obtain ⟨k, j7, g7, g4, g8⟩ := mM f1
   rw [g7] at t
   refine bg (VQ (od (i := (i6 : Int)) (x0 := k) mV.out cO dP c0 m (F.mono nK.mono z) (aG _) g4) (fun l2 ⟨_, ⟨l8, l9, rfl, g1, c7⟩, f5⟩ => V (lK rfl (ms d.has f5 kG dP)) (VE (mz d iB (fun k6 l0 d => ?_)))))
   obtain ⟨d3, d9, rfl⟩ := g1.form
   obtain ⟨b3, b7, rfl⟩ := c7.form
   let b8 := (C6 k.lC.lI k.lC.lM k.lL.Op k.lL.K k.lL.lC.lI k.lL.lC.lM d3 k.lL.Kids.length d9 b3 k.nn.length b7)
   refine VO (mh (.agg b8.toArray) (b8.toArray) d rfl rfl dP oc nb rfl (fun k7 d => ln (mc (Wh b9 (Wf EQ (VB d Mh rfl rfl eU ?_))))))
   replace d := d.perm (Nr (Qb Qz) Nz)
   refine bS t fun i9 e9 t => VE (pf (enc := lD) (v := Y) (vs := (.slice b3 k.nn.length b7)) (R := T) d nj dc pb aJ oG.1 oG.2.1 rfl oG.2.2.1 oG.2.2.2 rfl rfl O (c7.mono (Pl.mono _) d.lJ) e9 (fun k8 j4 h7 d e6 => Wa (mD (mL (lU ?_)))))
   replace d := d.lG (Kr (Db St))
   exact ⟨m, j4, i9, h7, _, ⟨rfl, q⟩, (d.lG St), rfl, c0, e6, (by rw [g8]; exact t)⟩
  rintro E W ⟨Y, a9, T, b5, ⟨m, q⟩, d, b9, c0, O, t⟩
  rw [aK] at t
  refine lU ?_
  obtain rfl := sj t
  exact ⟨Y, T, _, (d.lG St), b9, O⟩
 rintro i8 E W ⟨L, b6, d4, d, i2, g0⟩ a5
 refine sg (Wh i2 (bS a5 fun l4 f7 a5 => VE (pF d call52 (wC L i8 _ _ (g0.sl nj (fun b o hq => d.at_ (Ml hq))) f7) (fun k5 j3 m2 h6 d j5 ab c5 => Wa (ln ?_)))))
 replace d := d.lG (Kr (Dr St))
 refine mB ?_
 obtain rfl := sj a5
 exact ng (v := j3) rfl rfl ⟨_, h6, rfl, d.oA (fun p hq => (Ml hq)) c5.nd, c5⟩
theorem FZ (g : Value) (i r : List lC) (w : World) (a : Sl (Pl lE) 2 (hp w) g i) (hm : ub i = some r) :
  nC true Tryz.prog 151 [g] w 50 lE 2 r := by
 unfold ub at hm
 refine vV 8 func151 rfl (fun b => sg (Wa (lS (Wm ?_))))
 obtain ⟨y, B, rfl⟩ := a.form
 refine V (Ap aM rfl rfl) (ln ?_)
 rcases y with _ | z
 ·have u := a.isNil
  replace hm : some [] = some r := by rw [u] at hm; simpa [oI, maxLen] using hm
  refine vr (rfl) (sg (Wa (lt (mQ ?_))))
  obtain rfl := sj hm
  exact ng (v := (.slice none 0 0)) rfl rfl ⟨_, [], rfl, b.oA (fun p d => by cases d) (by simp), my.nil _ _ _⟩
 ·refine qi (rfl) (kg (VE (mN (cs := #[]) b sL (Au [] aM aH dF dc rfl (by simp) rfl rfl) (fun G k b => Wm (bS hm fun H t hm => VE (pf (enc := lE) (v := (.slice (some ⟨k, 0, none⟩) 0 0)) (vs := (.slice (some z) i.length B)) (R := [(k, Ob #[] 50)]) b nI dc px aM oF.1 oF.2.1 rfl oF.2.2.1 oF.2.2.2 rfl rfl (my.lit (l := []) (enc := lE) rfl dc rfl rfl) (a.mono (Pl.mono _) b.lJ) t (fun D x j b c => Wa (lt ?_))))))))
  obtain rfl := sj hm
  exact ng (v := x) rfl rfl ⟨_, j, rfl, b.oA (fun p d => (Ml d)) c.nd, c⟩
theorem Dk (g : Value) (t : List lC) (j : Value) (B : lC → Option Bool) (r : Int) (w : World) (c : Sl (Pl lE) 2 (hp w) g t) (D : zn Tryz.prog j (hp w) (fun (x : lC) => [(.agg (lE x).toArray)]) (fun (r : Bool) => (.bool r)) B) (hm : wo t B = some r) :
  mw false Tryz.prog 206 [g, j] w (.int .i64 r) := by
 refine cG 19 func206 rfl (fun b => sg (Wa (lS (Wm (V (nh aM rfl c) (Wm (ln (mY (fun i E W => ∃ k, (E 8 = .int .i64 (i : Nat) ∧ E 7 = .int .i64 (t.length : Nat)) ∧ ST false mX w W (hp w) k ∧ E 0 = g ∧ E 1 = j ∧ qO B (t.drop i) i = some r) t.length c.len ⟨_, ⟨rfl, rfl⟩, (b.lG St), rfl, rfl, hm⟩ dc dc dc (fun _ _ _ h => by obtain ⟨_, l, _⟩ := h; exact l) ?_ ?_))))))))
 ·rintro Q E W H ⟨k, ⟨d, m⟩, b, u, y, a⟩
  obtain ⟨z, T, M, K, N⟩ := mM H
  rw [M] at a
  refine bg (Wh d (Wa (lr (Wh y (Wh u (Wm (VQ (pg (enc := lE) (i := (Q : Int)) (x0 := z) aM aH rfl rfl c (aG _) K) (fun Y I => V (lK rfl (ms b.has I bB aH)) (bS a fun Z J a => ?_)))))))))
  refine VE (Mq z b D (mn.refl _) rfl (uC rfl) J (fun U b => ln (CI a rfl (fun G a => ?_) (fun G a => ?_))))
  ·refine sg (Wm (Wa (lt (oh (mQ (oh (mQ ?_)))))))
   obtain rfl := sj a
   exact rP b
  exact np (mL (lU ⟨d, _, ⟨rfl, m⟩, (b.lG St), u, y, (by rw [N]; exact a)⟩))
 rintro E W ⟨k, ⟨d, m⟩, b, u, y, a⟩
 rw [aK] at a
 exact lU (sg (Wa (lt (rQ a b))))
theorem yL (j : Value) (a0 : List lC) (t : LO) (H : Value) (f1 : lC → Option Bool) (r : List lC) (w : World) {μ0 : mF} (h0 : po μ0 (t ++ []) w) (T : my 50 lE 2 j a0 t) (a4 : zn Tryz.prog H μ0 (fun (x : lC) => [(.agg (lE x).toArray)]) (fun (r : Bool) => (.bool r)) f1) (hm : rj a0 f1 = some r) :
  nH false Tryz.prog 148 [j, H] w (t ++ []) (fun v L1 W' => ∃ q S2, v = q ∧ L1 = (S2 ++ []) ∧ my 50 lE 2 q r S2) := by
 refine AF h0 42 func148 rfl (fun d => sg (Wa (lr (Wm (Wm (bS hm fun n d3 hm => VE (Eg d call206 (Dk j a0 H f1 _ _ (T.sl nI (fun b o h => d.at_ (Ml h))) (a4.mono d.lJ) d3) (fun W3 d => Wa (ln ?_)))))))))
 refine me (sg (Wm (Wi rfl (ln (CI hm rfl (fun d2 hm => ?_) (fun d2 hm => ?_))))))
 ·refine sg (Wm (Wa (lt (mQ ?_))))
  obtain rfl := sj hm
  exact ng (v := j) rfl rfl ⟨_, _, rfl, (d.ol (Kr Sn)), j, t, rfl, rfl, T⟩
 refine kS (Wm (Wi rfl (Wa (ln (nS (py (fun m E W => ∃ U I B D a2, ST false (keys (t ++ [])) w W μ0 (I ++ a2) ∧ E 0 = j ∧ E 1 = H ∧ E 5 = (.int .i64 B) ∧ E 6 = (.int .i64 D) ∧ my 50 lE 2 j U I ∧ pw f1 m U B D = some r) mR ⟨a0, t, n, (IntKind.i64.wrap (n + 1)), _, (d.lG St), rfl, rfl, rfl, rfl, T, hm⟩ ?_))))))
 rintro m E W ⟨U, I, B, D, a2, d, y, Q, G, K, g, a⟩
 cases m with
 | zero => rw [pw] at a; cases a
 | succ c8 =>
  refine me (sg (Wh K (Wh y (V (qb aM rfl g) (Wi rfl (ln (CI a rfl (fun A a => ?_) (fun A a => ?_))))))))
  ·refine kn (me (CJ a (fun Y E W => ∃ J a3, ST false (keys (t ++ [])) w W μ0 (J ++ a3) ∧ E 0 = j ∧ E 1 = H ∧ E 5 = (.int .i64 Y.2) ∧ E 6 = (.int .i64 D) ∧ my 50 lE 2 j Y.1 J) (fun Y c => ?_) ?_))
   ·refine bg (Wh y (Wh K (bS c fun k M c => VQ (pu (i := D) (x0 := k) aM aH rfl rfl g (mE M) (mA M)) (fun e4 O => V (lK rfl (rz d.has (fun p h => (Ml h)) g nI O (mA M) bB aH)) (VE (mz d dF (fun d7 e2 d => VO (mh (.agg (lE k).toArray) ((lE k).toArray) d rfl rfl aH (px k) nb rfl (fun d8 d => lr (Wh Q ?_))))))))))
    refine VA d Mh (lE k) bB aH (bS c fun e6 R c => VE (Mq k d a4 (mn.refl _) rfl (uC rfl) R (fun d9 d => V (oH rfl) (ln (CI c rfl (fun F c => ?_) (fun F c => ?_))))))
    ·refine sg (Wh y (Wh G (VA d Mh (lE k) bB aH (bS c fun d0 N c => VQ (pu (i := B) (x0 := d0) aM aH rfl rfl g (mE N) (mA N)) (fun e5 P => ?_)))))
     replace d := d.perm (Nr (Qb Qz) Nz)
     refine VO (Ay (u := (.agg (lE k).toArray)) (x1 := k)  d g nI px rfl rfl rfl P (mA N) aH (fun e0 c1 d s => ln ?_))
     replace d := d.lG (Kr (Db St))
     refine mc (Wh G (Wi rfl (Wa (mD (mL (lU ?_))))))
     obtain rfl := sj c
     exact ⟨c1, _, (d.lG St), y, Q, rfl, K, s⟩
    refine np (mL (lU ?_))
    obtain rfl := sj c
    exact ⟨I, _, (d.lG (Db St)), y, Q, G, K, g⟩
   rintro ⟨c7, c9⟩ E W ⟨J, a3, d, c3, c4, c5, c6, b6⟩ L
   exact mc (Wh c6 (Wi rfl (Wa (ln ⟨c8, bL _, c7, J, c9, (IntKind.i64.wrap (D + 1)), _, (d.lG St), c3, c4, c5, rfl, b6, L⟩))))
  refine pc (oQ (oQ (tX (lU (sg (Wh y (Wh G (bS a fun _ Z a => VQ (wQ (i := B) aM aH rfl rfl g (tQ Z) (tu Z)) (fun e7 b7 => VO (zJ (z := K0)  d g nI px aM dF b7 rfl rfl (fun e1 c2 d a9 => lr (Wh y ?_))))))))))))
  refine Wh G (bS a fun _ l a => VQ (wA (i := B) aM aH rfl rfl a9 nI (tQ l) (tu l)) (fun a5 b9 => Wa (lt ?_)))
  obtain rfl := sj a
  exact ng (v := a5) rfl rfl ⟨_, _, rfl, (d.ol (Kr Sn)), a5, c2, rfl, rfl, b9⟩
theorem KL (a : lC) (r : Bool) (w : World) (hm : zW a = some r) :
  mw true Tryz.prog 152 [(.agg (lE a).toArray)] w (.bool r) := by
 refine cG 6 func152 rfl (fun b => sg (VE (mI b rfl (fun g j b => Wa (lr (VA b Mh (lE a) bB aH (bS hm fun k c hm => VE (Eg b kI (tL a _ _  c) (fun i b => V (oH rfl) (Wa (mD ?_)))))))))))
 refine lU ?_
 exact mB (rQ hm b)
theorem OS (c : Value) (k : List lC) (a : LO) (g : Value) (t : (lC × lC) → Option Int) (r : List lC) (w : World) {y : mF} (u : po y (a ++ []) w) (i : my 50 lE 2 c k a) (j : TX Tryz.prog g y (fun (x : (lC × lC)) => [(.agg (lE x.1).toArray), (.agg (lE x.2).toArray)]) (fun (r : Int) => (.int .i64 r)) t) (hm : zX t k = some r) :
  nH true Tryz.prog 154 [c, g] w (a ++ []) (fun v z W' => ∃ S, v = (.tuple #[]) ∧ z = (S ++ []) ∧ my 50 lE 2 c r S) := HL (P := Tryz.prog) (ρ := Qh) TT 2 bB aH lE nI px u.H u.S i j hm
theorem ER (j : Value) (a0 : List lC) (x : LO) (r : List lC) (w : World) {μ0 : mF} (h0 : po μ0 (x ++ []) w) (B : my 50 lE 2 j a0 x) (hm : vd a0 = some r) :
  nH true Tryz.prog 156 [j] w (x ++ []) (fun v L1 W' => ∃ y1 S2, v = y1 ∧ L1 = (S2 ++ []) ∧ my 50 lE 2 y1 r S2) := by
 refine AF h0 61 func156 rfl (fun b => sg (Wa (lS (Wm (V (qb aM rfl B) (Wi rfl (ln (CI hm rfl (fun g0 hm => ?_) (fun g0 hm => ?_)))))))))
 ·refine sg (Wm (Wa (lt (mQ ?_))))
  obtain rfl := sj hm
  exact ng (v := j) rfl rfl ⟨_, _, rfl, (b.ol (Kr Sn)), j, x, rfl, rfl, B⟩
 refine kS (Wa (ln (nS (py (fun m E W => ∃ t P, ST true (keys (x ++ [])) w W μ0 (x ++ P) ∧ E 0 = j ∧ E 3 = (.int .i64 t) ∧ qf a0 m t = some r) mR ⟨1, _, (b.lG St), rfl, rfl, hm⟩ ?_))))
 rintro m E W ⟨t, P, b, D, H, a⟩
 cases m with
 | zero => rw [qf] at a; cases a
 | succ f5 =>
  refine me (sg (Wh H (Wh D (V (qb aM rfl B) (Wi rfl (ln (CI a rfl (fun d0 a => ?_) (fun d0 a => ?_))))))))
  ·refine kn (me (nS (me ?_)))
   replace b := b.drew
   have d := b.has.lG (Kr Sn)
   refine mO d mu (X 0 rfl d (lO D) (X 1 rfl d (lO H) (bS a fun c3 Z a => XQ 2 rfl d (pu (i := t) (x0 := c3) aM aH rfl rfl B (mE Z) (mA Z)) (fun g7 d6 => XH 3 rfl d (fun _ l => lK rfl (rz l (fun p h => (Ml h)) B nI d6 (mA Z) bB aH)) (X 4 rfl d (lO D) (X 5 rfl d (lO H) (X 6 rfl d (mU rfl rfl rfl) (bS a fun c4 n a => XQ 7 rfl d (pu (i := (IntKind.i64.wrap (t - 1))) (x0 := c4) aM aH rfl rfl B (mE n) (mA n)) (fun g8 d7 => XH 8 rfl d (fun _ l => lK rfl (rz l (fun p h => (Ml h)) B nI d7 (mA n) bB aH)) (X 9 rfl d (yU rfl rfl (qt gK) (vL (vg _ c3 c4))) (nc kr (lU ?_))))))))))))
   refine CI a rfl (fun d1 a => ?_) (fun d1 a => ?_)
   ·refine sg (Wh D (Wh H (bS a fun _ A a => VQ (wQ (i := t) aM aH rfl rfl B (tQ A) (tu A)) (fun c1 M => Wa (lS (Wa (ln ?_)))))))
    refine CJ a (fun U E W => ∃ o R, ST true (keys (x ++ [])) w W μ0 (o ++ R) ∧ E 0 = j ∧ E 3 = (.int .i64 U.2) ∧ my 50 lE 2 j U.1 o) (fun U d4 => ?_) ?_
    ·refine nS (py (fun m E W => ∃ q K Y y b6, ST true (keys (x ++ [])) w W μ0 (K ++ b6) ∧ E 0 = j ∧ E 3 = (.int .i64 Y) ∧ E 4 = c1 ∧ E 5 = (.int .i64 y) ∧ my 50 lE 2 j q K ∧ pY t m q Y y = some U) mR ⟨a0, x, t, 1, _, (b.lG St), D, H, rfl, rfl, B, d4⟩ ?_)
     rintro m E W ⟨q, K, Y, y, b6, b, Q, T, I, J, g, k⟩
     cases m with
     | zero => rw [pY] at k; cases k
     | succ f6 =>
      refine me (sg (Wh J (Wh I (V (Gg aM rfl M g) (Wi rfl (ln (CI k rfl (fun d2 k => ?_) (fun d2 k => ?_))))))))
      ·refine kn (me (CJ k (fun s E W => ∃ N b7, ST true (keys (x ++ [])) w W μ0 (N ++ b7) ∧ E 0 = j ∧ E 3 = (.int .i64 s.2) ∧ E 4 = c1 ∧ E 5 = (.int .i64 y) ∧ my 50 lE 2 j s.1 N) (fun s c => ?_) ?_))
       ·refine nS (me ?_)
        replace b := b.drew
        have d := b.has.lG (Kr Sn)
        refine mO d mu (X 0 rfl d (lO I) (X 1 rfl d (lO J) (bS c fun c6 a2 c => XQ 2 rfl d (wT (i := y) (x0 := c6) aM aH rfl rfl g M (mE a2) (mA a2)) (fun g9 d8 => XH 3 rfl d (fun _ l => lK rfl (rz l (fun p h => (Ml h)) g nI d8 (yI (mA a2)) bB aH)) (X 4 rfl d (lO I) (X 5 rfl d (lO J) (X 6 rfl d (mU rfl rfl rfl) (bS c fun c7 a3 c => XQ 7 rfl d (wT (i := (IntKind.i64.wrap (y - 1))) (x0 := c7) aM aH rfl rfl g M (mE a3) (mA a3)) (fun h1 d9 => XH 8 rfl d (fun _ l => lK rfl (rz l (fun p h => (Ml h)) g nI d9 (yI (mA a3)) bB aH)) (X 9 rfl d (KZ rfl rfl (qt gK) (G6 (vg _ c6 c7))) (nc kr (lU ?_))))))))))))
        refine CI c rfl (fun d3 c => ?_) (fun d3 c => ?_)
        ·refine sg (Wh Q (Wh T (Wh I (Wh J (bS c fun a9 a4 c => VQ (wT (i := y) (x0 := a9) aM aH rfl rfl g M (mE a4) (mA a4)) (fun h2 e0 => V (lK rfl (rz b.has (fun p h => (Ml h)) g nI e0 (yI (mA a4)) bB aH)) (bS c fun f8 a5 c => VQ (pu (i := Y) (x0 := f8) aM aH rfl rfl g (mE a5) (mA a5)) (fun h3 e1 => VO (Ay (u := (.agg (lE a9).toArray)) (x1 := a9)  b g nI px rfl rfl rfl e1 (mA a5) aH (fun g3 e8 b c9 => ln (mc ?_)))))))))))
         refine Wh T (Wi rfl (Wa (mD (mL (lU ?_)))))
         obtain rfl := sj c
         exact ⟨e8, _, (b.lG St), Q, rfl, I, J, c9⟩
        refine np (mL (lU ?_))
        obtain rfl := sj c
        exact ⟨K, _, (b.lG St), Q, T, I, J, g⟩
       rintro ⟨f4, f7⟩ E W ⟨N, b7, b, f0, f1, f2, f3, e4⟩ d5
       exact mc (Wh f3 (Wi rfl (Wa (ln ⟨f6, bL _, f4, N, f7, (IntKind.i64.wrap (y + 1)), _, (b.lG St), f0, f1, f2, rfl, e4, d5⟩))))
      refine pc (oQ (oQ (tX (lU ?_))))
      obtain rfl := sj k
      exact ⟨K, _, (b.lG St), Q, T, g⟩
    rintro ⟨g4, c5⟩ E W ⟨o, R, b, b9, c0, O⟩ G
    refine sg (Wh b9 (Wh c0 (bS G fun _ F G => VQ (wQ (i := c5) aM aH rfl rfl O (tQ F) (tu F)) (fun h4 e2 => VO (zJ (z := K0)  b O nI px aM dF e2 rfl rfl (fun g2 e7 b c8 => lr (Wh b9 (Wh c0 (bS G fun _ L G => VQ (wA (i := c5) aM aH rfl rfl c8 nI (tQ L) (tu L)) (fun c2 e3 => ?_))))))))))
    refine Wa (lt (oh (mQ (mQ (oh (mQ ?_))))))
    obtain rfl := sj G
    exact ng (v := c2) rfl rfl ⟨_, _, rfl, (b.ol (Kr Sn)), c2, e7, rfl, rfl, e3⟩
   exact np (mL (lU (mc (Wh H (Wi rfl (Wa (ln ⟨f5, bL _, (IntKind.i64.wrap (t + 1)), _, (b.lG St), D, rfl, a⟩)))))))
  refine pc (oQ (oQ (tX (lU (sg (Wh D (Wa (lt ?_))))))))
  obtain rfl := sj a
  exact ng (v := j) rfl rfl ⟨_, _, rfl, (b.ol (Kr Sn)), j, x, rfl, rfl, B⟩
theorem vq (i : Value) (t r : List lC) (w : World) (B : Sl (Pl lE) 2 (hp w) i t) (hm : pj t = some r) :
  nC false Tryz.prog 86 [i] w 50 lE 2 r := by
 refine vV 11 func86 rfl (fun b => sg (Wa (lr (Wm (bS hm fun u T hm => VE (pF b call151 (nC.nz (FZ i t _ _ (B.mono (Pl.mono _) b.lJ) T)) (fun W3 v7 y R8 b a5 o Q => bS hm fun U D hm => ?_)))))))
 refine VE (eM b (Cr Qz Cn) call148 (fun h _ => (yL v7 u R8 (.func (.func 152) #[] #[]) (fun (x : lC) => zW x) _ _ h Q ⟨152, #[], #[], rfl, call152, fun W x r s hm => (KL x r W  hm).nz⟩ D)) ?_)
 rintro _ O b9 A b z l d ⟨k, K, a, rfl, I⟩
 obtain rfl := a.symm
 replace b := b.perm (Tr Tn)
 refine Wa (lr (Wm (bS hm fun Y G hm => ?_)))
 refine VE (eM b (Cr Qz Cn) call154 (fun h _ => nH.nz (OS k U K (.func (.func 155) #[] #[]) (fun (x : (lC × lC)) => pG x.1 x.2) _ _ h I ⟨155, #[], rfl, call155, fun W x r s hm => Bd x.1 x.2 r W  hm⟩ G)) ?_)
 rintro _ P c0 a9 b a2 m d ⟨M, c, rfl, J⟩
 obtain rfl := c.symm
 replace b := b.perm (Tr Tn)
 refine lr (Wm (bS hm fun L H hm => ?_))
 refine VE (eM b (Cr Qz Cn) call156 (fun h _ => nH.nz (ER k Y M _ _ h J H)) ?_)
 rintro _ R c1 F b a3 n d ⟨Z, N, g, rfl, j⟩
 obtain rfl := g.symm
 replace b := b.perm (Tr Tn)
 refine Wa (lt ?_)
 obtain rfl := sj hm
 exact ng (v := Z) rfl rfl ⟨_, N, rfl, b.oA (fun p q => (Ml q)) j.nd, j⟩
theorem F2 (Q : Nat) (G : Value) (I : List lB) (c : Value) (t : List (lC × Bool)) (g : Value) (u : List (ByteArray × Bool)) (i : Value) (j : List (lB × Bool)) (J : lB) (r : Bool) (w : World) (Y : Sl (Pl lD) 9 (hp w) G I) (B : sy (fun (x : lC) => (.agg (lE x).toArray)) (fun (x : Bool) => (Value.bool x)) (hp w) c t) (H : sy Value.string (fun (x : Bool) => (Value.bool x)) (hp w) g u) (N : sy (fun (x : lB) => (.agg (lD x).toArray)) (fun (x : Bool) => (Value.bool x)) (hp w) i j) (K : At (hp w) (.pointer (some ⟨Q, 0, none⟩)) [G, c, g, i]) (hm : yh I t u j J = some r) :
  mw true Tryz.prog 204 [(.pointer (some ⟨Q, 0, none⟩)), (.agg (lD J).toArray)] w (.bool r) := by
 refine cG 22 func204 rfl (fun l => sg (VE (mI l rfl (fun W2 q l => Wa (ln (me ?_))))))
 replace l := l.drew
 have d := l.has.lG (Kb Sn)
 refine mO d mu (X 0 rfl d (lO rfl) (X 1 rfl d (nN rfl) (XQ 2 rfl d (sO [c] JE rfl K rfl) (fun s a0 => XH 3 rfl d (fun _ m => lK rfl (pp m (y := c) a0 isAgg75)) (X 4 rfl d (lN vX rfl) (XH 5 rfl d (fun _ m => lK rfl (lP m Mh (lE J.Head) rfl bB aH)) (XH 6 rfl d (fun _ m => uK (k := J.Head) (z := false) (vf := (fun (x : Bool) => (Value.bool x))) yd ji gM rfl rfl (B.mono (fun b o n => m.1 b o n))) (X 7 rfl d (lO rfl) (PJ hm (fun U E W => ∃ T, ST true mX w W (hp w) ((q, Ol (lD J) 52) :: T) ∧ E 4 = (.bool false) ∧ E 21 = (.bool U)) (bm 18 131071) 1 ?_ (fun U D M => ?_))))))))))
 ·rintro A E W ⟨T, l, a5, a3⟩ Z
  have d := l.has.lG (Kb Sn)
  refine X 17 rfl d (oL a3) (nc kr (lU ?_))
  exact mB (rQ Z l)
 refine bC D (fun a D => ?_) (fun a D => ?_)
 ·refine Xn 8 rfl rfl (cB a) d (Xn 9 rfl rfl (cB a) d (Xn 10 rfl rfl (cB a) d (Xn 11 rfl rfl (cB a) d (Xn 12 rfl rfl (cB a) d (Xn 13 rfl rfl (cB a) d (Xn 14 rfl rfl (cB a) d (Xn 15 rfl rfl (cB a) d (X 16 rfl d (mo (cB a) rfl) ?_))))))))
  obtain rfl := sj D
  refine nE kr (M _ _ ⟨_, (l.lG St), rfl, rfl⟩)
 refine Xg 8 rfl rfl (cB a) d (lO rfl) (Xg 9 rfl rfl (cB a) d (nN rfl) (uP 10 rfl kr (.inr ⟨7, false, 12, rfl, rfl, by decide, (cB a)⟩) rfl dc (fun _ _ h => h) d (sO [g] Na rfl K rfl) (fun v a2 => sc 11 rfl rfl (cB a) d (fun _ m => lK rfl (pp m (y := g) a2 isAgg190)) (Xg 12 rfl rfl (cB a) d (lN vX rfl) (Xg 13 rfl rfl (cB a) d (lN xQ rfl) (sc 14 rfl rfl (cB a) d (fun _ m => lK rfl (ma m Mh rfl bZ)) (sc 15 rfl rfl (cB a) d (fun _ m => uK (k := J.Head.lM) (z := false) (vf := (fun (x : Bool) => (Value.bool x))) GC fS gM rfl rfl (H.mono (fun b o n => m.1 b o n))) (X 16 rfl d (mq (cB a) rfl) ?_))))))))
 obtain rfl := sj D
 refine nE kr (M _ _ ⟨_, (l.lG St), rfl, rfl⟩)
theorem Fc (H : Nat) (z : Value) (a0 : List lB) (a : Value) (D : List (lC × Bool)) (j : LO) (g : Value) (G : List (ByteArray × Bool)) (t : LO) (c : Value) (B : List (lB × Bool)) (u : LO) (U : lB) (r : ((List (lC × Bool)) × (List (ByteArray × Bool)) × (List (lB × Bool)))) (w : World) {μ0 : mF} (h0 : po μ0 ((H, Ob #[z, a, g, c] 208) :: (j ++ (t ++ (u ++ [])))) w) (b9 : Sl (Pl lD) 9 μ0 z a0) (N : mJ (fun (x : lC) => (.agg (lE x).toArray)) (fun (x : Bool) => (Value.bool x)) a D j) (I : mJ Value.string (fun (x : Bool) => (Value.bool x)) g G t) (K : mJ (fun (x : lB) => (.agg (lD x).toArray)) (fun (x : Bool) => (Value.bool x)) c B u) (hm : vx a0 D G B U = some r) :
  nH true Tryz.prog 205 [(.pointer (some ⟨H, 0, none⟩)), (.agg (lD U).toArray)] w ((H, Ob #[z, a, g, c] 208) :: (j ++ (t ++ (u ++ [])))) (fun v L1 W' => ∃ S1 S3 S5, v = (.tuple #[]) ∧ L1 = ((H, Ob #[z, a, g, c] 208) :: (S1 ++ (S3 ++ (S5 ++ [])))) ∧ mJ (fun (x : lC) => (.agg (lE x).toArray)) (fun (x : Bool) => (Value.bool x)) a r.1 S1 ∧ mJ Value.string (fun (x : Bool) => (Value.bool x)) g r.2.1 S3 ∧ mJ (fun (x : lB) => (.agg (lD x).toArray)) (fun (x : Bool) => (Value.bool x)) c r.2.2 S5) := by
 refine AF h0 34 func205 rfl (fun b => sg (VE (mI b rfl (fun W2 A b => ln (me ?_)))))
 replace b := b.drew
 have d := b.has.lG (Kb (Kb Sn))
 refine mO d mu (X 0 rfl d (lO rfl) (X 1 rfl d (nN rfl) (X 2 rfl d (lN Bq rfl) (XH 3 rfl d (fun _ l => lK rfl (ma l (Mt Mh) rfl lz)) (XH 4 rfl d (fun _ l => lK rfl (lP l Mh (lD U) rfl bH aI)) ?_)))))
 replace b := b.perm (Nr (Qb (Qb (Qr (Qr Qz)))) Nz)
 refine XO 5 rfl (vz (k := U) (v := true) (vf := (fun (x : Bool) => (Value.bool x)))  Jq fM b K rfl rfl rfl (fun W9 a5 b q => ?_))
 have d := b.has.lG (Dr (Kb (Kb Sn)))
 refine ⟨d, (nc kr (lU (me (sg (VA b (Ma Mh) (lD U) bH aI (bS hm fun m c0 hm => VE (pF b call243 (G2 U _ _  c0) (fun e5 e6 e7 e4 b d3 L b7 => ?_))))))))⟩
 obtain ⟨d2, b, d4, O, c1⟩ := ST.zp b b7 nI
 refine bS hm fun _ s hm => VQ (DZ (i := 1) aM aH rfl rfl c1 (tQ s) (tu s)) (fun d0 a4 => V (nh aM rfl a4.1) (Wm (ln (mY (fun i E W => ∃ Q J a2, (E 15 = .int .i64 (i : Nat) ∧ E 14 = .int .i64 ((m.drop (Int.toNat 1)).length : Nat)) ∧ ST true (keys ((H, Ob #[z, a, g, c] 208) :: (j ++ (t ++ (u ++ []))))) w W d2 ((A, Ol (lD U) 52) :: ((H, Ob #[z, a, g, c] 208) :: (J ++ (a5 ++ (t ++ a2))))) ∧ E 0 = (.pointer (some ⟨H, 0, none⟩)) ∧ E 3 = (.pointer (some ⟨A, 0, none⟩)) ∧ E 13 = d0 ∧ mJ (fun (x : lC) => (.agg (lE x).toArray)) (fun (x : Bool) => (Value.bool x)) a Q J ∧ qy U G B ((m.drop (Int.toNat 1)).drop i) Q = some r) (m.drop (Int.toNat 1)).length a4.1.len ⟨D, j, _, ⟨rfl, rfl⟩, (b.lG (Sb (Pr Pz) (Sb (Pr Pz) (Sr (Qr Qz) St)))), rfl, rfl, rfl, N, hm⟩ dc dc dc (fun _ _ _ h => by obtain ⟨_, _, _, o, _⟩ := h; exact o) ?_ ?_))))
 ·rintro c9 E W b3 ⟨Q, J, a2, ⟨n, F⟩, b, Y, Z, a3, M, y⟩
  obtain ⟨T, e3, c3, c2, c4⟩ := mM b3
  rw [c3] at y
  refine bg (VQ (pg (enc := lE) (i := (c9 : Int)) (x0 := T) aM aH a3 n a4.1 (aG _) c2) (fun e2 b4 => V (lK rfl (ms b.has b4 bB aH)) (VE (mz b dF (fun d6 e0 b => VO (mh (.agg (lE T).toArray) ((lE T).toArray) b rfl rfl aH (px T) nb rfl (fun d7 b => ln ?_)))))))
  replace b := b.drew
  have d := b.has.lG (Kb (Db (Kb Sn)))
  refine mO d mu (X 0 rfl d (lO Y) (X 1 rfl d (nN rfl) (X 2 rfl d (lN JE rfl) (XH 3 rfl d (fun _ l => lK rfl (ma l (Mt Mh) rfl isAgg75)) (XH 4 rfl d (fun _ l => lK rfl (lP l Mh (lE T) rfl bB aH)) ?_)))))
  replace b := b.perm (Nr (Qb (Qb (Qb Qz))) Nz)
  refine XO 5 rfl (vz (k := T) (v := true) (vf := (fun (x : Bool) => (Value.bool x)))  yd ji b M rfl rfl rfl (fun d8 b5 b a9 => ?_))
  have d := b.has.lG (Dr (Kb (Db (Kb Sn))))
  refine ⟨d, (nc kr (mL (lU ?_)))⟩
  replace b := b.lG (Kr (Db St))
  exact ⟨n, (oz lZ Q T true), b5, _, ⟨rfl, F⟩, (b.lG (Sb (Pr Pz) (Sb (Pr Pz) St))), Y, Z, a3, a9, (by rw [c4]; exact y)⟩
 rintro E W ⟨Q, J, a2, ⟨n, F⟩, b, Y, Z, a3, M, y⟩
 rw [aK] at y
 refine lU (sg (V (lN zx Z) (VB b Mh rfl rfl cP (Wi rfl (ln (CI y rfl (fun R y => ?_) (fun R y => ?_)))))))
 ·replace b := b.drew
  have d := b.has.lG (Kb (Kb Sn))
  refine mO d mu (X 0 rfl d (lO Y) (X 1 rfl d (nN rfl) (X 2 rfl d (lN Na rfl) (XH 3 rfl d (fun _ l => lK rfl (ma l (Mt Mh) rfl isAgg190)) (X 4 rfl d (lN AV Z) (XH 5 rfl d (fun _ l => lK rfl (ma l Mh rfl bZ)) ?_))))))
  replace b := b.perm (Nr (Qb (Qb (Qr (Qr Qz)))) Nz)
  refine XO 6 rfl (vz (k := U.mK) (v := true) (vf := (fun (x : Bool) => (Value.bool x)))  GC fS b I rfl rfl rfl (fun d9 b6 b P => ?_))
  have d := b.has.lG (Dr (Kb (Kb Sn)))
  refine ⟨d, (nc kr (rD ?_))⟩
  obtain rfl := sj y
  exact qg rfl ⟨_, _, rfl, (b.ol (Sb (Pr (Pb Pz)) (Sr (Qr (Qb Qz)) (Kr (Db (Kr Sn)))))), J, b6, a5, rfl, rfl, M, P, q⟩
 refine np (rD ?_)
 obtain rfl := sj y
 exact qg rfl ⟨_, _, rfl, (b.ol (Db (Kb (Kr (Sr (Qr Qz) (Kr Sn)))))), J, t, a5, rfl, rfl, M, I, q⟩
theorem E1 (D : Nat) (j : Value) (G : List lB) (c : Value) (a4 : List (lC × Bool)) (u : LO) (g : Value) (a5 : List (ByteArray × Bool)) (B : LO) (a : Value) (y : List (lB × Bool)) (t : LO) (f7 : Value) (a1 : List lC) (r : (Int × (List (lC × Bool)) × (List (ByteArray × Bool)) × (List (lB × Bool)))) (w : World) {μ0 : mF} (h0 : po μ0 ((D, Ob #[j, c, g, a] 208) :: (u ++ (B ++ (t ++ [])))) w) (M : Sl (Pl lD) 9 μ0 j G) (d7 : mJ (fun (x : lC) => (.agg (lE x).toArray)) (fun (x : Bool) => (Value.bool x)) c a4 u) (e4 : mJ Value.string (fun (x : Bool) => (Value.bool x)) g a5 B) (b2 : mJ (fun (x : lB) => (.agg (lD x).toArray)) (fun (x : Bool) => (Value.bool x)) a y t) (m3 : Sl (Pl lE) 2 μ0 f7 a1) (hm : tK G a4 a5 y a1 = some r) :
  nH false Tryz.prog 146 [(.pointer (some ⟨D, 0, none⟩)), f7] w ((D, Ob #[j, c, g, a] 208) :: (u ++ (B ++ (t ++ [])))) (fun v L1 W' => ∃ S1 S3 S5, v = (.int .i64 (r.1)) ∧ L1 = ((D, Ob #[j, c, g, a] 208) :: (S1 ++ (S3 ++ (S5 ++ [])))) ∧ mJ (fun (x : lC) => (.agg (lE x).toArray)) (fun (x : Bool) => (Value.bool x)) c r.2.1 S1 ∧ mJ Value.string (fun (x : Bool) => (Value.bool x)) g r.2.2.1 S3 ∧ mJ (fun (x : lB) => (.agg (lD x).toArray)) (fun (x : Bool) => (Value.bool x)) a r.2.2.2 S5) := by
 let h7 : Value := (.int .i64 (y.length : Int))
 let g6 : Value := (.pointer (some ⟨D, 0, none⟩))
 let g5 := (#[j, c, g, a] : Array Value)
 let b8 := ((D, Obj.cells g5 208 (0, 0)) :: (u ++ (B ++ (t ++ []))))
 refine AF h0 75 func146 rfl (fun d => sg (Wa (lS (Wm (V (tN underlying150 rfl rfl) (ln (qi rfl (np ?_))))))))
 refine lU (me (sg (Wm (bS hm fun r1 n3 hm => VE (pF d lx (vq f7 a1 _ _ (m3.mono (Pl.mono _) d.lJ) n3) (fun W3 v7 s R8 d f5 ae h2 => V (qb aM rfl h2) (Wm (ln (mY (fun i E W => ∃ e1 e8 f3, (E 16 = .int .i64 (i : Nat) ∧ E 15 = .int .i64 (r1.length : Nat)) ∧ ST false (keys b8) w W s ((D, Obj.cells g5 208 (0, 0)) :: (e8 ++ (R8 ++ (B ++ (t ++ f3))))) ∧ E 0 = g6 ∧ E 14 = v7 ∧ mJ (fun (x : lC) => (.agg (lE x).toArray)) (fun (x : Bool) => (Value.bool x)) c e1 e8 ∧ pB G a5 y (r1.drop i) e1 = some r) r1.length h2.len ⟨a4, u, _, ⟨rfl, rfl⟩, (d.lG (Sb (Pr Pz) (Sr (Qr Qz) St))), rfl, rfl, d7, hm⟩ dc dc dc (fun _ _ _ h => by obtain ⟨_, _, _, R, _⟩ := h; exact R) ?_ ?_)))))))))
 ·rintro n4 E W m4 ⟨e1, e8, f3, ⟨A, eN⟩, d, d6, f4, f6, a6⟩
  obtain ⟨d9, p7, m5, j7, m6⟩ := mM m4
  rw [m5] at a6
  refine bg (VQ (pu (i := (n4 : Int)) (x0 := d9) aM aH f4 A h2 (aG _) j7) (fun p4 l3 => V (lK rfl (rz d.has (fun p n => (Mt (Ma (Ml n)))) h2 nI l3 j7 bB aH)) (VE (mz d dF (fun o9 p2 d => VO (mh (.agg (lE d9).toArray) ((lE d9).toArray) d rfl rfl aH (px d9) nb rfl (fun p0 d => ln ?_)))))))
  replace d := d.drew
  have l := d.has.lG (Kb (Kb Sn))
  refine mO l mu (X 0 rfl l (lO d6) (X 1 rfl l (nN rfl) (X 2 rfl l (lN JE rfl) (XH 3 rfl l (fun _ q => lK rfl (ma q (Mt Mh) rfl isAgg75)) (XH 4 rfl l (fun _ q => lK rfl (lP q Mh (lE d9) rfl bB aH)) ?_)))))
  replace d := d.perm (Nr (Qb (Qb Qz)) Nz)
  refine XO 5 rfl (vz (k := d9) (v := true) (vf := (fun (x : Bool) => (Value.bool x)))  yd ji d f6 rfl rfl rfl (fun p1 m1 d l2 => ?_))
  have l := d.has.lG (Dr (Kb (Kb Sn)))
  refine ⟨l, (nc kr (mL (lU ?_)))⟩
  replace d := d.lG (Kr (Db St))
  exact ⟨A, (oz lZ e1 d9 true), m1, _, ⟨rfl, eN⟩, (d.lG (Sb (Pr Pz) St)), d6, f4, l2, (by rw [m6]; exact a6)⟩
 rintro E W ⟨e1, e8, f3, ⟨A, eN⟩, d, d6, f4, f6, a6⟩
 rw [aK] at a6
 refine lU ?_
 replace d := d.lG (Kb (Kr (Dr St)))
 refine sg (Wh d6 (Wn (Wf Bq (VB d Mh rfl rfl lz (V (EV (vf := (fun (x : Bool) => (Value.bool x))) (kenc := (fun (x : lB) => (.agg (lD x).toArray))) fM rfl (b2.at (fun b o n => d.has.2 b o (Mt (Ma (Ma (Ml n))))))) (Wa (lS (Wa (mD ?_)))))))))
 refine lU (CJ a6 (fun c2 E W => ∃ c4 c5 c6 e7 f8, mn s e7 ∧ ST false (keys b8) w W e7 ((D, Obj.cells g5 208 (0, 0)) :: (c4 ++ (c5 ++ (c6 ++ f8)))) ∧ E 0 = g6 ∧ E 7 = h7 ∧ mJ (fun (x : lC) => (.agg (lE x).toArray)) (fun (x : Bool) => (Value.bool x)) c c2.1 c4 ∧ mJ Value.string (fun (x : Bool) => (Value.bool x)) g c2.2.1 c5 ∧ mJ (fun (x : lB) => (.agg (lD x).toArray)) (fun (x : Bool) => (Value.bool x)) a c2.2.2 c6) (fun c2 i2 => ?_) ?_)
 ·refine nS (py (fun m E W => ∃ e6 d3 b6 d4 b7 a0 b9 O f9, mn s O ∧ ST false (keys b8) w W O ((D, Obj.cells g5 208 (0, 0)) :: (b6 ++ (b7 ++ (b9 ++ f9)))) ∧ E 0 = g6 ∧ E 7 = h7 ∧ E 8 = (.int .i64 e6) ∧ mJ (fun (x : lC) => (.agg (lE x).toArray)) (fun (x : Bool) => (Value.bool x)) c d3 b6 ∧ mJ Value.string (fun (x : Bool) => (Value.bool x)) g d4 b7 ∧ mJ (fun (x : lB) => (.agg (lD x).toArray)) (fun (x : Bool) => (Value.bool x)) a a0 b9 ∧ qH G m e6 d3 d4 a0 = some c2) mR ⟨(-1), e1, e8, a5, B, y, t, s, _, (mn.refl _), (d.lG St), d6, rfl, rfl, f6, e4, b2, i2⟩ ?_)
  rintro m E W ⟨e6, d3, b6, d4, b7, a0, b9, O, f9, a2, d, c0, g3, k6, f0, f1, c1, K⟩
  let j1 : Value := (.int .i64 (a0.length : Int))
  cases m with
  | zero => rw [qH] at K; cases K
  | succ l8 =>
   refine me (sg (Wh k6 (Wh c0 (Wn (Wf Bq (VB d Mh rfl rfl lz (V (EV (vf := (fun (x : Bool) => (Value.bool x))) (kenc := (fun (x : lB) => (.agg (lD x).toArray))) fM rfl (c1.at (fun b o n => d.has.2 b o (Mt (Ma (Ma (Ml n))))))) (Wi rfl (ln (CI K rfl (fun h8 K => ?_) (fun h8 K => ?_)))))))))))
   ·refine kn (bg (Wh c0 (Wn (Wf Bq (VB d Mh rfl rfl lz (V (EV (vf := (fun (x : Bool) => (Value.bool x))) (kenc := (fun (x : lB) => (.agg (lD x).toArray))) fM rfl (c1.at (fun b o n => d.has.2 b o (Mt (Ma (Ma (Ml n))))))) (Wa (lr ?_))))))))
    refine Wh c0 (Wn (Wf Nj (VB d Mh rfl rfl eU (V (nh aJ rfl M) (Wm (ln (xg (CJ K (fun c3 E W => ∃ c7 c8 c9 d5 g0, mn O d5 ∧ ST false (keys b8) w W d5 ((D, Obj.cells g5 208 (0, 0)) :: (c7 ++ (c8 ++ (c9 ++ g0)))) ∧ E 0 = g6 ∧ E 7 = h7 ∧ E 8 = j1 ∧ mJ (fun (x : lC) => (.agg (lE x).toArray)) (fun (x : Bool) => (Value.bool x)) c c3.1 c7 ∧ mJ Value.string (fun (x : Bool) => (Value.bool x)) g c3.2.1 c8 ∧ mJ (fun (x : lB) => (.agg (lD x).toArray)) (fun (x : Bool) => (Value.bool x)) a c3.2.2 c9) (fun c3 i4 => ?_) ?_))))))))
    ·refine mY (fun i E W => ∃ F U L Y a9 Z P e2, (E 48 = .int .i64 (i : Nat) ∧ E 47 = .int .i64 (G.length : Nat)) ∧ mn O P ∧ ST false (keys b8) w W P ((D, Obj.cells g5 208 (0, 0)) :: (U ++ (Y ++ (Z ++ e2)))) ∧ E 0 = g6 ∧ E 7 = h7 ∧ E 8 = j1 ∧ E 46 = j ∧ mJ (fun (x : lC) => (.agg (lE x).toArray)) (fun (x : Bool) => (Value.bool x)) c F U ∧ mJ Value.string (fun (x : Bool) => (Value.bool x)) g L Y ∧ mJ (fun (x : lB) => (.agg (lD x).toArray)) (fun (x : Bool) => (Value.bool x)) a a9 Z ∧ pE G (G.drop i) F L a9 = some c3) G.length M.len ⟨d3, b6, d4, b7, a0, b9, O, _, ⟨rfl, rfl⟩, (mn.refl _), (d.lG St), c0, g3, rfl, rfl, f0, f1, c1, i4⟩ dc dc dc (fun _ _ _ h => by obtain ⟨_, _, _, _, _, _, _, _, R, _⟩ := h; exact R) ?_ ?_
     ·rintro h3 E W i0 ⟨F, U, L, Y, a9, Z, P, e2, ⟨A, eN⟩, J, d, b5, d0, d1, d2, b3, b4, a3, N⟩
      obtain ⟨I, n5, j6, j5, f2⟩ := mM i0
      rw [j6] at N
      refine bg (VQ (pg (enc := lD) (i := (h3 : Int)) (x0 := I) aJ aI d2 A (M.mono (Pl.mono _) ((f5.trans a2).trans J)) (aG _) j5) (fun o3 i5 => V (lK rfl (ms d.has i5 bH aI)) (VE (mz d cM (fun n7 g2 d => VO (mh (.agg (lD I).toArray) ((lD I).toArray) d rfl rfl aI (pb I) nb rfl (fun n8 d => ln (me ?_))))))))
      replace d := d.drew
      have l := d.has.lG (Kb (Kb (Dr (Dr (Kr Sn)))))
      refine mO l mu (X 0 rfl l (lO b5) (X 1 rfl l (nN rfl) (X 2 rfl l (lN Bq rfl) (XH 3 rfl l (fun _ q => lK rfl (ma q (Mt Mh) rfl lz)) (XH 4 rfl l (fun _ q => lK rfl (lP q Mh (lD I) rfl bH aI)) (XH 5 rfl l (fun _ q => uK (k := I) (z := false) (vf := (fun (x : Bool) => (Value.bool x))) Jq fM gM rfl rfl (a3.at (fun b o n => q.2 b o (Mt (Mt (Ml n)))))) (X 6 rfl l (oH rfl) (X 7 rfl l (lO rfl) (PJ N (fun h4 E W => ∃ g1, ST false (keys b8) w W P ((g2, Ol (lD I) 52) :: ((D, Obj.cells g5 208 (0, 0)) :: (U ++ (Y ++ (Z ++ g1))))) ∧ E 0 = g6 ∧ E 7 = h7 ∧ E 8 = j1 ∧ E 10 = (.pointer (some ⟨g2, 0, none⟩)) ∧ E 46 = j ∧ E 47 = (.int .i64 (G.length : Int)) ∧ E 48 = (.int .i64 (h3 : Int)) ∧ E 63 = (.bool h4)) (bm 12 4095) 0 ?_ (fun h4 T e0 => ?_))))))))))
      ·rintro o6 E W ⟨g1, d, e3, g4, g7, l0, g8, g9, h1, l1⟩ Q
       refine nc kr (lU (CI Q l1 (fun h9 Q => ?_) (fun h9 Q => ?_)))
       ·refine mc (Wh e3 (V (lK l0 (lP d.has Mh (lD I) rfl bH aI)) (bS Q fun e5 i6 Q => ?_)))
        refine VE (eM d (Cb (Pb Pz) (Cr (Qb Qz) (Cr (Qb Qz) (Cr (Qb Qz) Cn)))) call205 (fun hh ad => nH.nz (Fc D j G c F U g L Y a a9 Z I _ _ hh (M.mono (Pl.mono _) (((f5.trans a2).trans J).trans ad)) b3 b4 a3 i6)) ?_)
        rintro _ o5 l9 n6 d h6 aa ab ⟨k1, k2, k3, d8, rfl, j8, j9, k0⟩
        obtain rfl := d8.symm
        replace d := d.perm (Tb (Tr (Tr (Tr Tn))))
        refine mD (mL (lU ?_))
        replace d := d.lG (Kb (Kr (Kr (Kr (Db St)))))
        exact ⟨h1, e5.1, k1, e5.2.1, k2, e5.2.2, k3, l9, _, ⟨rfl, g9⟩, (J.trans h6), (d.lG St), e3, g4, g7, g8, j8, j9, k0, (by rw [f2]; exact Q)⟩
       refine np (mL (lU ?_))
       replace d := d.lG (Db St)
       exact ⟨h1, F, U, L, Y, a9, Z, P, _, ⟨rfl, g9⟩, J, (d.lG St), e3, g4, g7, g8, b3, b4, a3, (by rw [f2]; exact Q)⟩
      refine bC T (fun H T => ?_) (fun H T => ?_)
      ·refine Xg 8 rfl rfl (cB H) l (lO b5) (sc 9 rfl rfl (cB H) l (fun _ q => lK rfl (lP q Mh (lD I) rfl bH aI)) (bS T fun o4 i7 T => As 10 rfl rfl (cB H) (Eg d call204 (mw.nz (F2 D j G c F g L a a9 I _ _ (M.mono (Pl.mono _) (((f5.trans a2).trans J).trans d.lJ)) (b3.at (fun b o n => d.at_ (Mt (Mt (Ml n))))) (b4.at (fun b o n => d.at_ (Mt (Mt (Ma (Ml n)))))) (a3.at (fun b o n => d.at_ (Mt (Mt (Ma (Ma (Ml n))))))) (At.of (d.at_ (Mt Mh)) _ rfl) i7)) (fun o0 d => ?_))))
       have l := d.has.lG (Kb (Kb (Dr (Dr (Kr Sn)))))
       refine ⟨l, (X 11 rfl l (mo (cB H) rfl) ?_)⟩
       obtain rfl := sj T
       refine nE kr (e0 _ _ ⟨_, (d.lG St), b5, d0, d1, rfl, d2, eN, A, rfl⟩)
      refine Xn 8 rfl rfl (cB H) l (Xn 9 rfl rfl (cB H) l (Xn 10 rfl rfl (cB H) l (X 11 rfl l (mq (cB H) rfl) ?_)))
      obtain rfl := sj T
      refine nE kr (e0 _ _ ⟨_, (d.lG St), b5, d0, d1, rfl, d2, eN, A, rfl⟩)
     rintro E W ⟨F, U, L, Y, a9, Z, P, e2, ⟨A, eN⟩, J, d, b5, d0, d1, d2, b3, b4, a3, N⟩
     rw [aK] at N
     refine lU ?_
     obtain rfl := sj N
     exact ⟨U, Y, Z, P, _, J, (d.lG St), b5, d0, d1, b3, b4, a3⟩
    rintro ⟨l5, l6, l7⟩ E W ⟨c7, c8, c9, d5, g0, h5, d, k7, k8, k9, j0, j3, j4⟩ i3
    exact mL (lU ⟨l8, bL _, (a0.length : Int), l5, c7, l6, c8, l7, c9, d5, _, (a2.trans h5), (d.lG St), k7, k8, k9, j0, j3, j4, i3⟩)
   refine pc (oQ (oQ (tX (lU ?_))))
   obtain rfl := sj K
   exact ⟨b6, b7, b9, O, _, a2, (d.lG St), c0, g3, f0, f1, c1⟩
 rintro ⟨o1, o2, l4⟩ E W ⟨c4, c5, c6, e7, f8, m9, d, k4, k5, i8, i9, e9⟩ i1
 refine sg (Wh k4 (Wn (Wf Bq (VB d Mh rfl rfl lz (V (EV (vf := (fun (x : Bool) => (Value.bool x))) (kenc := (fun (x : lB) => (.agg (lD x).toArray))) fM rfl (e9.at (fun b o n => d.has.2 b o (Mt (Ma (Ma (Ml n))))))) (Wh k5 (Wi rfl (Wa (lt ?_)))))))))
 obtain rfl := sj i1
 exact ng (v := (.int .i64 (IntKind.i64.wrap ((l4.length : Int) - (y.length : Int))))) rfl rfl ⟨_, _, rfl, (d.ol (Kb (Kr (Kr (Kr Sn))))), c4, c5, c6, rfl, rfl, i8, i9, e9⟩
theorem Mz (t : Value) (Q : List lB) (u : Value) (T : List lC) (r : ((List lB) × (List (lC × Bool)) × (List (ByteArray × Bool)) × (List (lB × Bool)))) (w : World) (Y : Sl (Pl lD) 9 (hp w) t Q) (Z : Sl (Pl lE) 2 (hp w) u T) (hm : BE Q T = some r) :
  nH false Tryz.prog 83 [t, u] w [] (fun v L1 W' => ∃ m l q S6 s S9 N M, v = (.pointer (some ⟨m, 0, none⟩)) ∧ L1 = ((m, Ob #[l, q, s, N] 208) :: (S6 ++ (S9 ++ (M ++ [])))) ∧ Sl (Pl lD) 9 (wm W' L1) l r.1 ∧ Fr w.heap.size l ∧ mJ (fun (x : lC) => (.agg (lE x).toArray)) (fun (x : Bool) => (Value.bool x)) q r.2.1 S6 ∧ mJ Value.string (fun (x : Bool) => (Value.bool x)) s r.2.2.1 S9 ∧ mJ (fun (x : lB) => (.agg (lD x).toArray)) (fun (x : Bool) => (Value.bool x)) N r.2.2.2 M) := by
 refine vV 17 func83 rfl (fun b => sg (Wa (lr (Wm (bS hm fun y c1 hm => VE (pF b call52 (wC t Q _ _ (Y.mono (Pl.mono _) b.lJ) c1) (fun W3 v7 a8 R8 b a3 a1 H => VE (yz (P := Tryz.prog) (fun (x : lC) => (.agg (lE x).toArray)) (fun (x : Bool) => (Value.bool x)) b (fun c5 d1 L b B => VE (yz (P := Tryz.prog) Value.string (fun (x : Bool) => (Value.bool x)) b (fun c6 d2 O b D => VE (yz (P := Tryz.prog) (fun (x : lB) => (.agg (lD x).toArray)) (fun (x : Bool) => (Value.bool x)) b (fun c7 d3 R b G => ?_)))))))))))))
 obtain ⟨a, c, rfl⟩ := H.form
 replace b := b.perm (Nr (Qr (Qr (Qr Qz))) Nz)
 have a2 := H.Lt b (fun p hq => (Ml hq))
 obtain ⟨d5, b, J, n, I⟩ := ST.zp b H nj
 obtain ⟨g, rfl⟩ := B.form
 obtain ⟨i, rfl⟩ := D.form
 obtain ⟨j, rfl⟩ := G.form
 refine V (nZ (v := (.agg #[(.slice a y.length c), (.map (some g)), (.map (some i)), (.map (some j))])) (TP rfl rfl rfl rfl) (nB zeroValue208 iq (UB _ iq) kr)) (VE (mI b rfl (fun c8 z b => Wa (lr (Wm (Wm (bS hm fun d0 a4 hm => ?_)))))))
 refine VE (eM b (Cb Pz (Cr (Qr (Qr Qz)) (Cr (Qr Qz) (Cr Qz Cn)))) call146 (fun hh d => (E1 z (.slice a y.length c) y (.map (some g)) ([]) L (.map (some i)) ([]) O (.map (some j)) ([]) R u T _ _ hh (I.mono (Pl.mono _) d) B D G (Z.mono (Pl.mono _) ((a3.trans J).trans d)) a4)) ?_)
 rintro _ d4 d6 c4 b K o h ⟨U, W, b6, k, rfl, a5, A, F⟩
 obtain rfl := k.symm
 replace b := b.perm (Tb (Tr (Tr (Tr Tn))))
 refine lr (Wm (Wa (lt ?_)))
 obtain rfl := sj hm
 exact ng (v := (.pointer (some ⟨z, 0, none⟩))) rfl rfl ⟨_, _, rfl, (b.Pq (Kb (Kr (Kr (Kr Sn))))), z, (.slice a y.length c), (.map (some g)), U, (.map (some i)), W, (.map (some j)), b6, rfl, rfl, (I.mono (Pl.mono _) (K.trans (ST.nm b (oK.mem (Kb (Kr (Kr (Kr Sn)))))))), a2, a5, A, F⟩
theorem Cl (I : lB) (J G : Nat) (B : Value) (D : List lB) (c : Value) (i : List (lC × Bool)) (j : Value) (u : List (ByteArray × Bool)) (a : Value) (g : List (lB × Bool)) (r : Bool) (w : World) (Q : Sl (Pl lD) 9 (hp w) B D) (H : sy (fun (x : lC) => (.agg (lE x).toArray)) (fun (x : Bool) => (Value.bool x)) (hp w) c i) (M : sy Value.string (fun (x : Bool) => (Value.bool x)) (hp w) j u) (t : sy (fun (x : lB) => (.agg (lD x).toArray)) (fun (x : Bool) => (Value.bool x)) (hp w) a g) (K : At (hp w) (.pointer (some ⟨G, 0, none⟩)) [B, c, j, a]) (N : At (hp w) (.pointer (some ⟨J, 0, none⟩)) [(.pointer (some ⟨G, 0, none⟩))]) (hm : sP I D i u g = some r) :
  mw true Tryz.prog 147 [(.agg (lD I).toArray), (.pointer (some ⟨J, 0, none⟩))] w (.bool r) := by
 refine cG 11 func147 rfl (fun h => sg (VE (mI h rfl (fun U Y h => Wa (ln (me ?_))))))
 replace h := h.drew
 have d := h.has.lG (Kb Sn)
 refine mO d mu (XH 0 rfl d (fun _ l => lK rfl (pp l (y := (.pointer (some ⟨G, 0, none⟩))) N isAgg150)) (X 1 rfl d (nN rfl) (XQ 2 rfl d (sO [a] Bq rfl K rfl) (fun Z T => XH 3 rfl d (fun _ l => lK rfl (pp l (y := a) T lz)) (XH 4 rfl d (fun _ l => lK rfl (lP l Mh (lD I) rfl bH aI)) (XH 5 rfl d (fun _ l => uK (k := I) (z := false) (vf := (fun (x : Bool) => (Value.bool x))) Jq fM gM rfl rfl (t.mono (fun b o m => l.1 b o m))) (X 6 rfl d (oH rfl) (X 7 rfl d (oL rfl) (nc kr (lU ?_))))))))))
 exact mB (rQ hm h)
theorem DU (H : Nat) (a : Value) (u : List lB) (j : Value) (i : List (lC × Bool)) (t : Value) (k : List (ByteArray × Bool)) (g : Value) (c : List (lB × Bool)) (r : List lB) (w : World) (D : Sl (Pl lD) 9 (hp w) a u) (G : sy (fun (x : lC) => (.agg (lE x).toArray)) (fun (x : Bool) => (Value.bool x)) (hp w) j i) (I : sy Value.string (fun (x : Bool) => (Value.bool x)) (hp w) t k) (B : sy (fun (x : lB) => (.agg (lD x).toArray)) (fun (x : Bool) => (Value.bool x)) (hp w) g c) (K : At (hp w) (.pointer (some ⟨H, 0, none⟩)) [a, j, t, g]) (hm : uF u i k c = some r) :
  nC false Tryz.prog 84 [(.pointer (some ⟨H, 0, none⟩))] w 52 lD 9 r := by
 refine vV 12 func84 rfl (fun b => sg (VE (mI b rfl (fun W2 N b => Wa (lS (VB b Mh rfl rfl isAgg150 (V (tN underlying150 rfl rfl) (ln (qi rfl ?_)))))))))
 refine kg (VB b Mh rfl rfl isAgg150 (Wn (VQ (sO [a] Nj rfl K rfl) (fun p3 a0 => V (lK rfl (pp b.has (y := a) a0 eU)) (bS hm fun F q hm => VE (pF b call61 (nC.nz (A4 a u _ _ (D.mono (Pl.mono _) b.lJ) q)) (fun W8 a2 L Y b z n T => V (qk (by exact uC rfl) rfl) (bS hm fun R U hm => ?_))))))))
 refine VE (FO b (Cr Qz Cn) call111 (fun hH s d m => (tO a2 F Y (.func (.func 147) #[] #[(.pointer (some ⟨N, 0, none⟩))]) (fun (x : lB) => sP x u i k c) _ _ ⟨hH, s, mn.refl _⟩ T ⟨147, #[], #[(.pointer (some ⟨N, 0, none⟩))], rfl, call147, fun W x r h hm => (Cl x N H a u j i t k g c r W (D.mono (Pl.mono _) ((z.trans d).trans h)) (G.mono ((z.trans d).trans h)) (I.mono ((z.trans d).trans h)) (B.mono ((z.trans d).trans h)) (K.mono ((z.trans d).trans h)) (At.of (h _ _ (m _ _ Mh)) _ rfl) hm).nz⟩ U)) (fun P a9 b0 O b a4 o l Q => ?_))
 obtain ⟨a3, Z, J, rfl, M⟩ := Q
 replace J := J.symm; subst J
 replace b := b.perm (Tr Tn)
 refine Wa (ln ?_)
 replace b := b.lG (Kr (Db St))
 refine mB ?_
 obtain rfl := sj hm
 exact ng (v := a3) rfl rfl ⟨_, Z, rfl, b.oA (fun p A => (Ml A)) M.nd, M⟩
theorem yY (a : mW) (g j u G x D : Value) (r : List lB) (w : World) (c : Sl mx 15 (hp w) g a.lF.lX) (i : Sl mV 8 (hp w) j a.lF.ml) (t : Sl (Pl lD) 9 (hp w) u a.lQ) (z : Sl (Pl lD) 9 (hp w) G a.Shown) (k : Sl (Pl lE) 2 (hp w) x a.mg) (y : Sl (Pl lE) 2 (hp w) D a.mj) (hm : pJ a = some r) :
  nC false Tryz.prog 27 [(.agg #[(.string a.lF.Name), g, j, (.string a.na), (.int .i64 a.Room), u, G, x, D])] w 52 lD 9 r := by
 refine vV 9 func27 rfl (fun d => sg ?_)
 obtain ⟨A1, c2, rfl⟩ := c.form
 obtain ⟨A3, L, rfl⟩ := i.form
 obtain ⟨A5, O, rfl⟩ := t.form
 obtain ⟨A7, P, rfl⟩ := z.form
 obtain ⟨Y, M, rfl⟩ := k.form
 obtain ⟨Q, T, rfl⟩ := y.form
 refine VE (mI d rfl (fun e5 e6 d => Wa (ln (me ?_))))
 replace d := d.drew
 have h := d.has.lG (Kb Sn)
 refine mO h mu (XH 0 rfl h (fun _ n => lK rfl (lP n Mh (C2 a.lF.Name A1 a.lF.lX.length c2 A3 a.lF.ml.length L a.na a.Room A5 a.lQ.length O A7 a.Shown.length P Y a.mg.length M Q a.mj.length T) rfl dU cZ)) (X 2 rfl h (lN EC rfl) (XH 3 rfl h (fun _ n => lK rfl (ma n Mh rfl fN)) (bS hm fun d1 a2 hm => XE 1 rfl (pF d call78 (FP a (.slice A1 a.lF.lX.length c2) (.slice A3 a.lF.ml.length L) (.slice A5 a.lQ.length O) (.slice A7 a.Shown.length P) (.slice Y a.mg.length M) (.slice Q a.mj.length T) _ _ (c.mono mH.mono d.lJ) (i.mono nK.mono d.lJ) (t.mono (Pl.mono _) d.lJ) (z.mono (Pl.mono _) d.lJ) (k.mono (Pl.mono _) d.lJ) (y.mono (Pl.mono _) d.lJ) a2) (fun d7 c1 e2 d3 d B q R => ?_))))))
 have h := d.has.pC B (Dr (Kb Sn))
 refine ⟨h, (bS hm fun J a3 hm => ?_)⟩
 have F := d.size
 refine XE 4 rfl (FO d (bE _) call83 (fun _ _ _ _ => (Mz c1 d1 (.slice Y a.mg.length M) a.mg _ _ (R.sl nj (fun b o l => d.at_ (Ml l))) (k.mono (Pl.mono _) (B.trans d.lJ)) a3)) (fun d8 e1 e3 d2 d K s m Z => ?_) (L0 := []))
 obtain ⟨b5, c5, c7, d4, c9, d5, d0, d6, I, rfl, W, H, a7, a8, a9⟩ := Z
 replace I := I.symm; subst I
 have a5 := W.lift H m
 replace H := H.mono F
 replace d := d.perm (Tb (Tr (Tr (Tr Tn))))
 have h := d.has.pC (B.trans K) (Db (Dr (Dr (Dr (Dr (Kb Sn))))))
 refine ⟨h, (bS hm fun e0 a4 hm => XE 5 rfl (pF d call84 (DU b5 c5 J.1 c7 J.2.1 c9 J.2.2.1 d0 J.2.2.2 _ _ (a5.mono (Pl.mono _) d.lJ) (a7.at (fun b o l => d.at_ (Mt (Ml l)))) (a8.at (fun b o l => d.at_ (Mt (Ma (Ml l))))) (a9.at (fun b o l => d.at_ (Mt (Ma (Ma (Ml l)))))) (At.of (d.at_ Mh) _ rfl) a4) (fun d9 c3 e4 b4 d U A N => ?_)))⟩
 have h := d.has.pC ((B.trans K).trans U) (Dr (Db (Dr (Dr (Dr (Dr (Kb Sn)))))))
 refine ⟨h, (X 6 rfl h (oL rfl) (nc kr (lU ?_)))⟩
 replace d := d.lG (Kr (Db (Dr (Dr (Dr (Dr (Db St)))))))
 refine mB ?_
 obtain rfl := sj hm
 exact ng (v := c3) rfl rfl ⟨_, b4, rfl, d.oA (fun p l => (Ml l)) N.nd, N⟩
theorem Fz (N : Formula → Option (List lC)) (F : ∀ (g : Formula) (k : Value) (r : List lC) (w : World) (j : Sl lH 5 (hp w) k g.Kids), N g = some r → nC false Tryz.prog 250 [(.agg #[(.int .i64 g.Op), (.int .i64 g.K), (.string g.lC.lI), (.string g.lC.lM), k])] w 50 lE 2 r) (g : Formula) (k : Value) (r : List lC) (w : World) (j : Sl lH 5 (hp w) k g.Kids) (hm : xx N g = some r) :
  nC false Tryz.prog 250 [(.agg #[(.int .i64 g.Op), (.int .i64 g.K), (.string g.lC.lI), (.string g.lC.lM), k])] w 50 lE 2 r := by
 refine vV 25 func250 rfl (fun b => sg ?_)
 obtain ⟨A1, c2, rfl⟩ := j.form
 refine VE (mI b rfl (fun W4 b3 b => Wa (lS (Wf vT (VB b Mh rfl rfl cP (Wi rfl (ln (CI hm rfl (fun b7 hm => ?_) (fun b7 hm => ?_)))))))))
 ·refine sg (Wf xW (VA b Mh (lE g.lC) bB aH (VE (mN (cs := (lE g.lC).toArray) b (oX rfl) (oR aM aH dF) (fun W7 q b => Wa (ln ?_))))))
  replace b := b.lG (Kb (Db St))
  refine mB (mQ ?_)
  obtain rfl := sj hm
  exact ng (v := (.slice (some ⟨q, 0, none⟩) 1 1)) rfl rfl ⟨_, [(q, Ol (lE g.lC) 50)], rfl, b.oA (fun p d => by rw [bF] at d; subst d; exact Mh) (by simp), (my.lit (l := [g.lC]) (enc := lE) rfl dc rfl rfl)⟩
 refine kg (Wa (lS (Wf uO (VB b Mh rfl rfl gP (V (nh aF rfl j) (Wm (mD ?_)))))))
 refine lU ?_
 replace b := b.lG (Db St)
 refine mY (fun i E W => ∃ u D t G H, (E 15 = .int .i64 (i : Nat) ∧ E 14 = .int .i64 (g.Kids.length : Nat)) ∧ mn (hp w) G ∧ ST false mX w W G (t ++ H) ∧ E 3 = u ∧ E 13 = (.slice A1 g.Kids.length c2) ∧ my 50 lE 2 u D t ∧ sJ N (g.Kids.drop i) D = some r) g.Kids.length j.len ⟨(.slice none 0 0), ([]), [], (hp w), _, ⟨rfl, rfl⟩, (mn.refl _), (b.lG St), rfl, rfl, (my.nil _ _ _), hm⟩ dc dc dc (fun _ _ _ h => by obtain ⟨_, _, _, _, _, n, _⟩ := h; exact n) ?_ ?_
 ·rintro L E W Y ⟨u, D, t, G, H, ⟨m, s⟩, y, b, I, J, x, c⟩
  obtain ⟨a, b9, a3, a2, a4⟩ := mM Y
  rw [a3] at c
  refine bg (VQ (od (i := (L : Int)) (x0 := a) lH.out aF aD J m (j.mono mf.mono y) (aG _) a2) (fun c7 ⟨_, ⟨c9, rfl, K⟩, Z⟩ => V (lK rfl (ms b.has Z aZ aD)) (VE (mz b bI (fun c1 c6 b => ?_)))))
  obtain ⟨z, B, rfl⟩ := K.form
  let a0 := (C1 a.Op a.K a.lC.lI a.lC.lM z a.Kids.length B)
  refine VO (mh (.agg a0.toArray) (a0.toArray) b rfl rfl aD oc nb rfl (fun c3 b => ln (mc (Wh I (VA b Mh a0 aZ aD (bS c fun c8 A c => VE (pF b call250 (F a (.slice z a.Kids.length B) _ _ (K.mono mf.mono b.lJ) A) (fun c4 a9 b1 c0 b M o Q => ?_))))))))
  replace b := b.perm (Nr (Qr (Qb Qz)) Nz)
  refine bS c fun O U c => VE (pf (enc := lE) (v := u) (vs := a9) (R := t) b nI dc px aM oF.1 oF.2.1 rfl oF.2.2.1 oF.2.2.2 rfl rfl x (Q.RF nI b (fun p d => (Ma (Ml d)))) U (fun c5 P a5 b T => Wa (mD (mL (lU ?_)))))
  replace b := b.lG (Kr (Dr (Db St)))
  exact ⟨m, P, O, a5, b1, _, ⟨rfl, s⟩, (y.trans M), (b.lG St), rfl, J, T, (by rw [a4]; exact c)⟩
 rintro E W ⟨u, D, t, G, H, ⟨m, s⟩, y, b, I, J, x, c⟩
 rw [aK] at c
 refine lU (sg (Wh I (Wa (lt ?_))))
 obtain rfl := sj c
 exact ng (v := u) rfl rfl ⟨_, t, rfl, b.oA (fun p d => (Ml d)) x.nd, x⟩
theorem DA : ∀ (n : Nat) (c : Formula) (a : Value) (r : List lC) (w : World) (g : Sl lH 5 (hp w) a c.Kids) (_ : tp n c = some r),
  nC false Tryz.prog 250 [(.agg #[(.int .i64 c.Op), (.int .i64 c.K), (.string c.lC.lI), (.string c.lC.lM), a])] w 50 lE 2 r
 | 0 => by intros; rename_i h; simp only [tp] at h; cases h
 | n + 1 => Fz (tp n) (DA n)
theorem Dl (a : Formula) (g : Value) (r : List lC) (w : World) (c : Sl lH 5 (hp w) g a.Kids) (hm : uY a = some r) :
  nC false Tryz.prog 197 [(.agg #[(.int .i64 a.Op), (.int .i64 a.K), (.string a.lC.lI), (.string a.lC.lM), g])] w 50 lE 2 r := by
 refine vV 6 func197 rfl (fun d => sg ?_)
 obtain ⟨j, k, rfl⟩ := c.form
 refine VE (mI d rfl (fun N T d => Wa (lr (VA d Mh (C1 a.Op a.K a.lC.lI a.lC.lM j a.Kids.length k) aZ aD (bS hm fun H y hm => VE (pF d call250 ((DA mR) a (.slice j a.Kids.length k) _ _ (c.mono mf.mono d.lJ) y) (fun Q z U I d G l t => bS hm fun K u hm => VE (pF d lx (vq z H _ _ (t.sl nI (fun b o h => d.at_ (Ml h))) u) (fun J B M x d D m i => Wa (ln ?_))))))))))
 replace d := d.lG (Kr (Dr (Db St)))
 refine mB ?_
 obtain rfl := sj hm
 exact ng (v := B) rfl rfl ⟨_, x, rfl, d.oA (fun p h => (Ml h)) i.nd, i⟩
theorem E3 (a : mW) (B D J N K M : Value) (n : lB) (r : Bool) (w : World) (c : Sl mx 15 (hp w) B a.lF.lX) (i : Sl mV 8 (hp w) D a.lF.ml) (y : Sl (Pl lD) 9 (hp w) J a.lQ) (I : Sl (Pl lD) 9 (hp w) N a.Shown) (G : Sl (Pl lE) 2 (hp w) K a.mg) (H : Sl (Pl lE) 2 (hp w) M a.mj) (hm : zd a n = some r) :
  mw false Tryz.prog 19 [(.agg #[(.string a.lF.Name), B, D, (.string a.na), (.int .i64 a.Room), J, N, K, M]), (.agg (lD n).toArray)] w (.bool r) := by
 refine cG 22 func19 rfl (fun d => sg ?_)
 obtain ⟨A1, c2, rfl⟩ := c.form
 let a9 : Value := (.slice A1 a.lF.lX.length c2)
 obtain ⟨A3, P, rfl⟩ := i.form
 let O : Value := (.slice A3 a.lF.ml.length P)
 obtain ⟨A5, R, rfl⟩ := y.form
 obtain ⟨A7, c8, rfl⟩ := I.form
 obtain ⟨A9, Y, rfl⟩ := G.form
 obtain ⟨T, Z, rfl⟩ := H.form
 let a0 := (C2 a.lF.Name A1 a.lF.lX.length c2 A3 a.lF.ml.length P a.na a.Room A5 a.lQ.length R A7 a.Shown.length c8 A9 a.mg.length Y T a.mj.length Z)
 refine VE (mI d rfl (fun g3 e7 d => VE (mI d rfl (fun g4 h0 d => Wa (lr (Wf zB (VA d (Mt Mh) (C7 a.lF.Name A1 a.lF.lX.length c2 A3 a.lF.ml.length P) gI eX (VA d Mh (lD n) bH aI (bS hm fun j e0 hm => ?_)))))))))
 let v : Value := (.int .i64 ((j.1).K))
 let s : Value := (.int .i64 ((j.1).Op))
 let q : Value := (.string (((j.1).lC).lM))
 let a5 : Value := (.string (((j.1).lC).lI))
 refine VE (eD d (bE _) call23 (fun hh => (Cp a.lF a9 O n _ _ hh (c.mono mH.mono (mn.refl _)) (i.mono nK.mono (mn.refl _)) e0)) ?_ (L0 := []))
 rintro _ h1 d6 g2 d t ad ⟨h2, b0, rfl, c1⟩
 obtain rfl := b0.symm
 refine Wm (Wx rfl (Wx rfl (VE (mz d bI (fun g8 e8 d => ?_)))))
 obtain ⟨U, a2, rfl⟩ := c1.form
 let a4 : Value := (.slice U ((j.1).Kids).length a2)
 refine VO (mh (.agg #[s, v, a5, q, a4]) (#[s, v, a5, q, a4]) d rfl rfl aD oc nb rfl (fun g9 d => Wa (ln ?_)))
 replace d := d.lG (Kb (Db St))
 refine me ?_
 replace d := d.drew
 have h := d.has.lG (Kb (Kb Sn))
 refine mO h mu (X 0 rfl h (lO rfl) (X 1 rfl h (mU rfl rfl rfl) (X 2 rfl h (lO rfl) (PJ hm (fun c3 E W => ∃ L b5, mn d6 L ∧ ST false mX w W L ((e8, Ob #[s, v, a5, q, a4] 58) :: ((e7, Ol a0 36) :: b5)) ∧ E 4 = (.bool false) ∧ E 21 = (.bool c3)) (bm 9 255) 1 ?_ (fun c3 z a3 => ?_)))))
 ·rintro g1 E W ⟨L, b5, c0, d, f8, d8⟩ c7
  have h := d.has.pC c0 (Kb (Kb Sn))
  refine X 8 rfl h (oL d8) (nc kr (lU ?_))
  exact mB (rQ c7 d)
 refine bC z (fun u z => ?_) (fun u z => ?_)
 ·refine sc 3 rfl rfl (cB u) h (fun _ hS => lK rfl (lP hS Mh [s, v, a5, q, a4] rfl aZ aD)) (sc 4 rfl rfl (cB u) h (fun _ hS => lK rfl (lP hS (Mt Mh) a0 rfl dU cZ)) (bS z fun g c9 z => ?_))
  refine As 5 rfl rfl (cB u) (FO d (bE _) call21 (fun _ _ _ _ => (Kj a a9 O (.slice A5 a.lQ.length R) (.slice A7 a.Shown.length c8) (.slice A9 a.mg.length Y) (.slice T a.mj.length Z) _ _ (c.mono mH.mono (t.trans d.lJ)) (i.mono nK.mono (t.trans d.lJ)) (y.mono (Pl.mono _) (t.trans d.lJ)) (I.mono (Pl.mono _) (t.trans d.lJ)) (G.mono (Pl.mono _) (t.trans d.lJ)) (H.mono (Pl.mono _) (t.trans d.lJ)) c9)) (fun f6 g0 e6 f0 d k aa ab c5 => ?_) (L0 := []))
  obtain ⟨A, d7, e1, f1, e2, f2, e3, f3, e4, f4, e5, f5, F, Q, rfl, d1, d2, d3, d4, d5⟩ := c5
  replace Q := Q.symm; subst Q
  replace d := d.perm (Tb (Tb (Tb (Tr (Tr (Tr (Tr (Tr Tn))))))))
  have h := d.has.pC k (Db (Db (Db (Dr (Dr (Dr (Dr (Dr (Kb (Kb Sn))))))))))
  refine ⟨h, (bS z fun f9 d0 z => As 6 rfl rfl (cB u) (Eg d call24 (Bh j.1 a4 (.func (.func 63) #[] #[(.pointer (some ⟨A, 0, none⟩)), (.pointer (some ⟨F, 0, none⟩))]) (fun (x : lC) => uS x g.1 g.2.1 g.2.2.1 g.2.2.2.1 g.2.2.2.2.1 g.2.2.2.2.2.1 g.2.2.2.2.2.2.1 a.lF.lX a.lF.ml g.2.2.2.2.2.2.2.1 g.2.2.2.2.2.2.2.2 a.lQ a.Shown a.mg a.mj) _ _ (c1.mono mf.mono (k.trans d.lJ)) ⟨63, #[], #[(.pointer (some ⟨A, 0, none⟩)), (.pointer (some ⟨F, 0, none⟩))], rfl, call63, fun W x r m hm => (Gm x A d7 e1 g.1 e2 g.2.1 e3 g.2.2.1 e4 g.2.2.2.1 e5 g.2.2.2.2.1 g.2.2.2.2.2.1 F g.2.2.2.2.2.2.1 a9 a.lF.lX O a.lF.ml g.2.2.2.2.2.2.2.1 g.2.2.2.2.2.2.2.2 (.slice A5 a.lQ.length R) a.lQ (.slice A7 a.Shown.length c8) a.Shown (.slice A9 a.mg.length Y) a.mg (.slice T a.mj.length Z) a.mj r W (d1.at (fun b o l => m _ _ ((fun b o l => d.at_ (Mt (Mt (Mt (Ml l))))) b o l))) (d2.sl nj (fun b o l => m _ _ ((fun b o l => d.at_ (Mt (Mt (Mt (Ma (Ml l)))))) b o l))) (d3.at (fun b o l => m _ _ ((fun b o l => d.at_ (Mt (Mt (Mt (Ma (Ma (Ml l))))))) b o l))) (d4.at (fun b o l => m _ _ ((fun b o l => d.at_ (Mt (Mt (Mt (Ma (Ma (Ma (Ml l)))))))) b o l))) ((d5.Er yZ).mono (Pl.mono _) (ou (fun b o l => m _ _ ((fun b o l => d.at_ (Mt (Mt (Mt (Ma (Ma (Ma (Ma (Ml l))))))))) b o l)))) (At.of (m _ _ (d.at_ (Mt Mh))) _ rfl) (At.of (m _ _ (d.at_ Mh)) _ rfl) (c.mono mH.mono (((t.trans k).trans d.lJ).trans m)) (i.mono nK.mono (((t.trans k).trans d.lJ).trans m)) (y.mono (Pl.mono _) (((t.trans k).trans d.lJ).trans m)) (I.mono (Pl.mono _) (((t.trans k).trans d.lJ).trans m)) (G.mono (Pl.mono _) (((t.trans k).trans d.lJ).trans m)) (H.mono (Pl.mono _) (((t.trans k).trans d.lJ).trans m)) (At.of (m _ _ (d.at_ (Mt (Mt Mh)))) _ rfl) hm).nz⟩ d0) (fun f7 d => ?_)))⟩
  have h := d.has.pC k (Db (Db (Db (Dr (Dr (Dr (Dr (Dr (Kb (Kb Sn))))))))))
  refine ⟨h, (X 7 rfl h (mo (cB u) rfl) ?_)⟩
  obtain rfl := sj z
  refine nE kr (a3 _ _ ⟨e6, _, k, (d.lG (Db (Db (Db (Dr (Dr (Dr (Dr (Dr St))))))))), rfl, rfl⟩)
 refine Xn 3 rfl rfl (cB u) h (Xn 4 rfl rfl (cB u) h (Xn 5 rfl rfl (cB u) h (Xn 6 rfl rfl (cB u) h (X 7 rfl h (mq (cB u) rfl) ?_))))
 obtain rfl := sj z
 refine nE kr (a3 _ _ ⟨d6, _, (mn.refl _), (d.lG St), rfl, rfl⟩)
theorem Js (a : mW) (D G J a3 M Z n : Value) (l : List ny) (T : lB) (r : List lC) (w : World) (u : Sl mx 15 (hp w) D a.lF.lX) (x : Sl mV 8 (hp w) G a.lF.ml) (I : Sl (Pl lD) 9 (hp w) J a.lQ) (Y : Sl (Pl lD) 9 (hp w) a3 a.Shown) (K : Sl (Pl lE) 2 (hp w) M a.mg) (U : Sl (Pl lE) 2 (hp w) Z a.mj) (e9 : Sl mV 8 (hp w) n l) (hm : vI a l T = some r) :
  nC false Tryz.prog 137 [(.agg #[(.string a.lF.Name), D, G, (.string a.na), (.int .i64 a.Room), J, a3, M, Z]), n, (.agg (lD T).toArray)] w 50 lE 2 r := by
 refine vV 48 func137 rfl (fun b => sg ?_)
 obtain ⟨A1, c2, rfl⟩ := u.form
 obtain ⟨A3, F, rfl⟩ := x.form
 obtain ⟨A5, c6, rfl⟩ := I.form
 obtain ⟨A7, c8, rfl⟩ := Y.form
 obtain ⟨A9, b9, rfl⟩ := K.form
 obtain ⟨b7, c0, rfl⟩ := U.form
 let a0 := (C2 a.lF.Name A1 a.lF.lX.length c2 A3 a.lF.ml.length F a.na a.Room A5 a.lQ.length c6 A7 a.Shown.length c8 A9 a.mg.length b9 b7 a.mj.length c0)
 refine VE (mI b rfl (fun m7 d5 b => VE (mI b rfl (fun m8 d6 b => Wa (lr (Wa (lS (Wm (VA b Mh (lD T) bH aI ?_)))))))))
 refine bS hm fun f1 i2 hm => ?_
 refine VE (eD b (bE _) call139 (fun o => (AK n l T _ _ o (e9.mono nK.mono (mn.refl _)) i2)) ?_ (L0 := []))
 rintro _ n0 h4 m6 b B ag ⟨j5, d3, rfl, d4⟩
 obtain rfl := d3.symm
 refine V (nh cO rfl d4) (Wm (ln (mY (fun i E W => ∃ Q s N A c7, (E 16 = .int .i64 (i : Nat) ∧ E 15 = .int .i64 (f1.length : Nat)) ∧ mn h4 A ∧ ST false mX w W A ((d6, Ol (lD T) 52) :: ((d5, Ol a0 36) :: (N ++ c7))) ∧ E 1 = n ∧ E 3 = (.pointer (some ⟨d5, 0, none⟩)) ∧ E 5 = (.pointer (some ⟨d6, 0, none⟩)) ∧ E 7 = Q ∧ E 14 = j5 ∧ my 50 lE 2 Q s N ∧ rS l T a (f1.drop i) s = some r) f1.length d4.len ⟨(.slice none 0 0), ([]), [], h4, _, ⟨rfl, rfl⟩, (mn.refl _), (b.lG St), rfl, rfl, rfl, rfl, rfl, (my.nil _ _ _), hm⟩ dc dc dc (fun _ _ _ h => by obtain ⟨_, _, _, _, _, aa, _⟩ := h; exact aa) ?_ ?_)))
 ·rintro i3 E W g0 ⟨Q, s, N, A, c7, ⟨eI, eN⟩, g, b, d1, m, a4, q, d2, a5, k⟩
  obtain ⟨c, j6, h1, h0, h2⟩ := mM g0
  rw [h1] at k
  refine bg (VQ (od (i := (i3 : Int)) (x0 := c) mV.out cO dP d2 eI (d4.mono nK.mono g) (aG _) h0) (fun l2 ⟨_, ⟨l7, l8, rfl, d8, g9⟩, g1⟩ => V (lK rfl (ms b.has g1 kG dP)) (VE (mz b iB (fun k0 l0 b => ?_)))))
  obtain ⟨L, O, rfl⟩ := d8.form
  obtain ⟨e0, e6, rfl⟩ := g9.form
  let a2 := (C6 c.lC.lI c.lC.lM c.lL.Op c.lL.K c.lL.lC.lI c.lL.lC.lM L c.lL.Kids.length O e0 c.nn.length e6)
  refine VO (mh (.agg a2.toArray) (a2.toArray) b rfl rfl dP oc nb rfl (fun k1 b => ln (mc (Wh q (Wf GZ (VA b Mh (C1 c.lL.Op c.lL.K c.lL.lC.lI c.lL.lC.lM L c.lL.Kids.length O) aZ aD (bS k fun l3 g2 k => VE (pF b call197 (Dl c.lL (.slice L c.lL.Kids.length O) _ _ (d8.mono mf.mono b.lJ) g2) (fun k2 i5 i8 j9 b f0 ab f5 => ?_)))))))))
  replace b := b.perm (Nr (Qr (Qb (Qb (Qb Qz)))) Nz)
  refine bS k fun i4 f7 k => VE (pf (enc := lE) (v := Q) (vs := i5) (R := N) b nI dc px aM oF.1 oF.2.1 rfl oF.2.2.1 oF.2.2.2 rfl rfl a5 (f5.RF nI b (fun p d => (Ma (Ml d)))) f7 (fun k3 i6 h5 b f6 => Wa (mD (mL (lU ?_)))))
  replace b := b.lG (Kr (Dr (Db St)))
  exact ⟨eI, i6, i4, h5, i8, _, ⟨rfl, eN⟩, (g.trans f0), (b.lG (Sb (Pr Pz) (Sb (Pr Pz) St))), d1, m, a4, rfl, d2, f6, (by rw [h2]; exact k)⟩
 rintro E W ⟨Q, s, N, A, c7, ⟨eI, eN⟩, g, b, d1, m, a4, q, d2, a5, k⟩
 rw [aK] at k
 refine lU (me (sg (Wh d1 (V (lK a4 (lP b.has Mh (lD T) rfl bH aI)) (bS k fun l4 g3 k => ?_)))))
 refine VE (eD b (bE _) call139 (fun o => (AK n l T _ _ o (e9.mono nK.mono (B.trans g)) g3)) ?_ (L0 := []))
 rintro _ l9 i9 j7 b y ad ⟨m2, b3, rfl, h3⟩
 obtain rfl := b3.symm
 refine V (nh cO rfl h3) (Wi rfl (Wm (LJ k (fun f2 E W => ∃ e4, ST false mX w W i9 ((d6, Ol (lD T) 52) :: ((d5, Ol a0 36) :: (N ++ e4))) ∧ E 3 = (.pointer (some ⟨d5, 0, none⟩)) ∧ E 5 = (.pointer (some ⟨d6, 0, none⟩)) ∧ E 7 = Q ∧ E 35 = (.bool f2)) 4 ?_ (fun f2 H c1 => ?_))))
 ·rintro m1 E W ⟨e4, b, h7, h8, h9, i0⟩ t
  refine ln (CI t i0 (fun f8 t => ?_) (fun f8 t => ?_))
  ·refine sg (Wh h9 (Wa (ln ?_)))
   replace b := b.lG (Db (Db St))
   refine mB (mQ ?_)
   obtain rfl := sj t
   exact ng (v := Q) rfl rfl ⟨_, N, rfl, b.oA (fun p d => (Ml d)) a5.nd, a5⟩
  refine kn ?_
  replace b := b.lG (Kb (Kb (Dr St)))
  refine sg (V (lN zB h7) (VA b (Mt Mh) (C7 a.lF.Name A1 a.lF.lX.length c2 A3 a.lF.ml.length F) gI eX (V (lK h8 (lP b.has Mh (lD T) rfl bH aI)) (bS t fun j g4 t => ?_))))
  let c5 : Value := (.string (((j.1).lC).lM))
  let P : Value := (.string (((j.1).lC).lI))
  refine VE (eD b (bE _) call23 (fun o => (Cp a.lF (.slice A1 a.lF.lX.length c2) (.slice A3 a.lF.ml.length F) T _ _ o (u.mono mH.mono ((B.trans g).trans y)) (x.mono nK.mono ((B.trans g).trans y)) g4)) ?_ (L0 := []))
  rintro _ m0 m4 j8 b j3 ae ⟨m3, b4, rfl, d9⟩
  obtain rfl := b4.symm
  refine Wm (Wx rfl (Wx rfl (VE (mz b bI (fun k6 l1 b => ?_)))))
  obtain ⟨a9, b1, rfl⟩ := d9.form
  let b8 : Value := (.slice a9 ((j.1).Kids).length b1)
  refine VO (mh (.agg #[(.int .i64 ((j.1).Op)), (.int .i64 ((j.1).K)), P, c5, b8]) (#[(.int .i64 ((j.1).Op)), (.int .i64 ((j.1).K)), P, c5, b8]) b rfl rfl aD oc nb rfl (fun k7 b => Wa (ln ?_)))
  replace b := b.lG (Kb (Db (Db St)))
  refine me (sg (Wm (Wi rfl (ln (CI t rfl (fun f9 t => ?_) (fun f9 t => ?_))))))
  ·refine sg (Wa (ln ?_))
   replace b := b.lG (Db St)
   refine mB (mQ ?_)
   obtain rfl := sj t
   exact ng (v := (.slice none 0 0)) rfl rfl ⟨_, [], rfl, b.oA (fun p d => by cases d) (by simp), my.nil _ _ _⟩
  refine kg (VA b Mh [(.int .i64 ((j.1).Op)), (.int .i64 ((j.1).K)), P, c5, b8] aZ aD (bS t fun l5 g7 t => VE (pF b call197 (Dl j.1 b8 _ _ (d9.mono mf.mono b.lJ) g7) (fun k8 i7 m5 h6 b j4 af d7 => Wa (ln ?_)))))
  replace b := b.lG (Kr (Db St))
  refine mB ?_
  obtain rfl := sj t
  exact ng (v := i7) rfl rfl ⟨_, h6, rfl, b.oA (fun p d => (Ml d)) d7.nd, d7⟩
 refine bC H (fun z H => ?_) (fun z H => ?_)
 ·refine un z (un z (un z (V (mo (cB z) rfl) ?_)))
  obtain rfl := sj H
  exact c1 _ _ ⟨_, (b.lG St), m, a4, q, rfl⟩
 refine ug z (lK m (lP b.has (Mt Mh) a0 rfl dU cZ)) (ug z (lK a4 (lP b.has Mh (lD T) rfl bH aI)) (bS H fun l6 g8 H => uJ z (Eg b call19 (E3 a (.slice A1 a.lF.lX.length c2) (.slice A3 a.lF.ml.length F) (.slice A5 a.lQ.length c6) (.slice A7 a.Shown.length c8) (.slice A9 a.mg.length b9) (.slice b7 a.mj.length c0) T _ _ (u.mono mH.mono (((B.trans g).trans y).trans b.lJ)) (x.mono nK.mono (((B.trans g).trans y).trans b.lJ)) (I.mono (Pl.mono _) (((B.trans g).trans y).trans b.lJ)) (Y.mono (Pl.mono _) (((B.trans g).trans y).trans b.lJ)) (K.mono (Pl.mono _) (((B.trans g).trans y).trans b.lJ)) (U.mono (Pl.mono _) (((B.trans g).trans y).trans b.lJ)) g8) (fun k9 b => V (mq (cB z) rfl) ?_))))
 obtain rfl := sj H
 exact c1 _ _ ⟨_, (b.lG St), m, a4, q, rfl⟩
theorem EF (a : mW) (B D H K I J : Value) (r : List lC) (w : World) (c : Sl mx 15 (hp w) B a.lF.lX) (g : Sl mV 8 (hp w) D a.lF.ml) (k : Sl (Pl lD) 9 (hp w) H a.lQ) (z : Sl (Pl lD) 9 (hp w) K a.Shown) (x : Sl (Pl lE) 2 (hp w) I a.mg) (y : Sl (Pl lE) 2 (hp w) J a.mj) (hm : rH a = some r) :
  nC false Tryz.prog 76 [(.agg #[(.string a.lF.Name), B, D, (.string a.na), (.int .i64 a.Room), H, K, I, J])] w 50 lE 2 r := by
 refine vV 25 func76 rfl (fun d => sg ?_)
 obtain ⟨A1, c2, rfl⟩ := c.form
 let a4 : Value := (.slice A1 a.lF.lX.length c2)
 obtain ⟨A3, c4, rfl⟩ := g.form
 let a5 : Value := (.slice A3 a.lF.ml.length c4)
 obtain ⟨A5, c6, rfl⟩ := k.form
 let n : Value := (.slice A5 a.lQ.length c6)
 obtain ⟨A7, c8, rfl⟩ := z.form
 let q : Value := (.slice A7 a.Shown.length c8)
 obtain ⟨A9, T, rfl⟩ := x.form
 let s : Value := (.slice A9 a.mg.length T)
 obtain ⟨Q, U, rfl⟩ := y.form
 let a9 : Value := (.slice Q a.mj.length U)
 let a0 := (C2 a.lF.Name A1 a.lF.lX.length c2 A3 a.lF.ml.length c4 a.na a.Room A5 a.lQ.length c6 A7 a.Shown.length c8 A9 a.mg.length T Q a.mj.length U)
 refine VE (mI d rfl (fun h1 d7 d => Wa (lr (VA d Mh a0 dU cZ (bS hm fun d8 e4 hm => ?_)))))
 refine VE (eD d (bE _) call136 (fun hh => (DF a a4 a5 n q s a9 _ _ hh (c.mono mH.mono (mn.refl _)) (g.mono nK.mono (mn.refl _)) (k.mono (Pl.mono _) (mn.refl _)) (z.mono (Pl.mono _) (mn.refl _)) (x.mono (Pl.mono _) (mn.refl _)) (y.mono (Pl.mono _) (mn.refl _)) e4)) ?_ (L0 := []))
 rintro _ h4 h5 h0 d t ae ⟨d9, b9, rfl, e6⟩
 obtain rfl := b9.symm
 refine Wa (lr (Wa (lS (VA d Mh a0 dU cZ (bS hm fun c5 e5 hm => VE (pF d call27 (yY a a4 a5 n q s a9 _ _ (c.mono mH.mono (t.trans d.lJ)) (g.mono nK.mono (t.trans d.lJ)) (k.mono (Pl.mono _) (t.trans d.lJ)) (z.mono (Pl.mono _) (t.trans d.lJ)) (x.mono (Pl.mono _) (t.trans d.lJ)) (y.mono (Pl.mono _) (t.trans d.lJ)) e5) (fun h3 f5 e0 f3 d G af m => V (qb aJ rfl m) ?_)))))))
 refine Wm (ln (mY (fun i E W => ∃ M Z Y a3 A, (E 12 = .int .i64 (i : Nat) ∧ E 11 = .int .i64 (c5.length : Nat)) ∧ mn e0 a3 ∧ ST false mX w W a3 ((d7, Ol a0 36) :: (Y ++ (f3 ++ A))) ∧ E 1 = (.pointer (some ⟨d7, 0, none⟩)) ∧ E 3 = d9 ∧ E 4 = M ∧ E 10 = f5 ∧ my 50 lE 2 M Z Y ∧ pz a d8 (c5.drop i) Z = some r) c5.length m.len ⟨(.slice none 0 0), ([]), [], e0, _, ⟨rfl, rfl⟩, (mn.refl _), (d.lG (Sb (Pr Pz) St)), rfl, rfl, rfl, rfl, (my.nil _ _ _), hm⟩ dc dc dc (fun _ _ _ h => by obtain ⟨_, _, _, _, _, aa, _⟩ := h; exact aa) ?_ ?_))
 ·rintro e7 E W d1 ⟨M, Z, Y, a3, A, ⟨eI, eN⟩, u, d, F, L, O, P, a2, j⟩
  obtain ⟨N, f6, d5, c1, d6⟩ := mM d1
  rw [d5] at j
  refine bg (VQ (pu (i := (e7 : Int)) (x0 := N) aJ aI P eI m (aG _) c1) (fun g4 d2 => V (lK rfl (rz d.has (fun p l => (Mt (Ma (Ml l)))) m nj d2 c1 bH aI)) (VE (mz d cM (fun f8 g3 d => VO (mh (.agg (lD N).toArray) ((lD N).toArray) d rfl rfl aI (pb N) nb rfl (fun f9 d => ln (mc (Wh O (V (lK F (lP d.has (Mt Mh) a0 rfl dU cZ)) (Wh L (VA d Mh (lD N) bH aI (bS j fun g7 d3 j => ?_)))))))))))))
  refine VE (pF d call137 (Js a a4 a5 n q s a9 d9 d8 N _ _ (c.mono mH.mono (((t.trans G).trans u).trans d.lJ)) (g.mono nK.mono (((t.trans G).trans u).trans d.lJ)) (k.mono (Pl.mono _) (((t.trans G).trans u).trans d.lJ)) (z.mono (Pl.mono _) (((t.trans G).trans u).trans d.lJ)) (x.mono (Pl.mono _) (((t.trans G).trans u).trans d.lJ)) (y.mono (Pl.mono _) (((t.trans G).trans u).trans d.lJ)) (e6.mono nK.mono ((G.trans u).trans d.lJ)) d3) (fun g0 e9 f2 f7 d c3 ab c7 => ?_))
  replace d := d.perm (Nr (Qr (Qb (Qb Qz))) Nz)
  refine bS j fun e8 d0 j => VE (pf (enc := lE) (v := M) (vs := e9) (R := Y) d nI dc px aM oF.1 oF.2.1 rfl oF.2.2.1 oF.2.2.2 rfl rfl a2 (c7.RF nI d (fun p l => (Ma (Ml l)))) d0 (fun g1 f0 e1 d c9 => Wa (mD (mL (lU ?_)))))
  replace d := d.lG (Kr (Dr (Db St)))
  exact ⟨eI, f0, e8, e1, f2, _, ⟨rfl, eN⟩, (u.trans c3), (d.lG (Sb (Pr Pz) St)), F, L, rfl, P, c9, (by rw [d6]; exact j)⟩
 rintro E W ⟨M, Z, Y, a3, A, ⟨eI, eN⟩, u, d, F, L, O, P, a2, j⟩
 rw [aK] at j
 refine lU ?_
 replace d := d.lG (Db (Kr (Dr St)))
 refine sg (Wh O (bS j fun g8 d4 j => VE (pF d lx (vq M Z _ _ (a2.sl nI (fun b o l => d.at_ (Ml l))) d4) (fun g2 f1 g9 e2 d f4 ad c0 => Wa (ln ?_)))))
 replace d := d.lG (Kr (Dr St))
 refine mB ?_
 obtain rfl := sj j
 exact ng (v := f1) rfl rfl ⟨_, e2, rfl, d.oA (fun p l => (Ml l)) c0.nd, c0⟩
theorem D3 (I : Int) (r : List lC) (w : World) (hm : uG I = some r) :
  nC true Tryz.prog 157 [(.slice none 0 0), (.int .i64 I)] w 50 lE 2 r := by
 refine vV 27 func157 rfl (fun b => sg (Wa (lS (Wm (Wi rfl (ln (CI hm rfl (fun K hm => ?_) (fun K hm => ?_))))))))
 ·cases hm
 refine kn (me (CJ hm (fun u E W => ∃ g c t, ST true mX w W (hp w) (c ++ t) ∧ E 0 = g ∧ my 50 lE 2 g u c) (fun u a => ?_) ?_))
 ·refine sg (Wm (Wm (V (Fm aM rfl) (Wm (V (ze aM rfl) (Wi rfl (Wi rfl (Wa (lr (Wm ?_))))))))))
  refine Wi rfl (ln (CI a rfl (fun y a => ?_) (fun y a => ?_)))
  ·refine mc (Wm (Wm (V (Fm aM rfl) (V (Jn aM aH rfl rfl) (Wm (bS a fun T B a => VE (Gj (enc := lE) (z := K0) b nI dc aM eT oF.1 oF.2.1 oF.2.2.1 oF.2.2.2 rfl rfl rfl B (fun N U H b x => Wm (V (ze aM rfl) (bS a fun _ j a => VQ (wA (i := 0) aM aH rfl rfl x nI (tQ j) (tu j)) (fun M G => Wa (ln ?_))))))))))))
   obtain rfl := sj a
   exact ⟨M, H, _, (b.lG St), rfl, G⟩
  refine kn ?_
  obtain rfl := sj a
  exact ⟨(.slice none 0 0), [], _, (b.lG St), rfl, (my.nil _ _ _)⟩
 rintro Q E W ⟨g, c, t, b, J, k⟩ D
 refine sg (Wh J (Wa (lt ?_)))
 obtain rfl := sj D
 exact ng (v := g) rfl rfl ⟨_, c, rfl, b.oA (fun p d => (Ml d)) k.nd, k⟩
theorem xN (t : Value) (z : List (List lC)) (r : List lC) (w : World) (j : Sl (Ep lE 2) 1 (hp w) t z) (hm : rK z = some r) :
  nC true Tryz.prog 87 [t] w 50 lE 2 r := by
 refine vV 36 func87 rfl (fun b => sg (Wa (lr (Wa (lS (Wm ?_))))))
 refine V (nh ir rfl j) (Wm (ln (mY (fun i E W => ∃ u Q, (E 11 = .int .i64 (i : Nat) ∧ E 10 = .int .i64 (z.length : Nat)) ∧ ST true mX w W (hp w) Q ∧ E 0 = t ∧ E 3 = (.int .i64 u) ∧ E 9 = t ∧ qE z (z.drop i) u = some r) z.length j.len ⟨0, _, ⟨rfl, rfl⟩, (b.lG St), rfl, rfl, rfl, hm⟩ dc dc dc (fun _ _ _ h => by obtain ⟨_, _, l, _⟩ := h; exact l) ?_ ?_)))
 ·rintro d1 E W b9 ⟨u, Q, ⟨d, m⟩, b, T, U, Y, a⟩
  obtain ⟨n, e0, c4, c3, c5⟩ := mM b9
  rw [c4] at a
  refine bg (VQ (Fl (enc := lE) (k2 := 2) (i := (d1 : Int)) (x0 := n) ir iN Y d j (aG _) c3) (fun e2 ⟨d3, c0, c2⟩ => V (lK rfl (pp b.has (y := d3) c0 fN)) (Wa (lr (Wh U (Wm (V (nh aM rfl c2) (Wi rfl (Wa ?_)))))))))
  refine lr (Wm (Wi rfl (ln (CI a rfl (fun b7 a => ?_) (fun b7 a => ?_)))))
  ·cases a
  exact np (mL (lU ⟨d, (IntKind.i64.wrap (u + (n.length : Int))), _, ⟨rfl, m⟩, (b.lG St), T, rfl, Y, (by rw [c5]; exact a)⟩))
 rintro E W ⟨u, Q, ⟨d, m⟩, b, T, U, Y, a⟩
 rw [aK] at a
 refine lU (sg (Wh U (bS a fun d2 c1 a => VE (pF b call157 (D3 u _ _  c1) (fun e1 d4 o d0 b a4 q b6 => Wa (lS (Wh T (V (nh ir rfl j) (Wm ?_)))))))))
 refine ln (CJ a (fun K E W => ∃ G x N, ST true mX w W o (x ++ N) ∧ E 6 = G ∧ my 50 lE 2 G K x) (fun K A => ?_) ?_)
 ·refine mY (fun i E W => ∃ k D g H, (E 27 = .int .i64 (i : Nat) ∧ E 26 = .int .i64 (z.length : Nat)) ∧ ST true mX w W o (g ++ H) ∧ E 6 = k ∧ E 25 = t ∧ my 50 lE 2 k D g ∧ qx (z.drop i) D = some K) z.length j.len ⟨d4, d2, d0, _, ⟨rfl, rfl⟩, (b.lG St), rfl, rfl, b6, A⟩ dc dc dc (fun _ _ _ h => by obtain ⟨_, _, _, _, l, _⟩ := h; exact l) ?_ ?_
  ·rintro c6 E W a3 ⟨k, D, g, H, ⟨d, m⟩, b, I, J, B, c⟩
   obtain ⟨c9, d5, O, a9, P⟩ := mM a3
   rw [O] at c
   refine bg (VQ (Fl (enc := lE) (k2 := 2) (i := (c6 : Int)) (x0 := c9) ir iN J d (j.mono (Ep.mono _ _) a4) (aG _) a9) (fun d8 ⟨Z, F, L⟩ => V (lK rfl (pp b.has (y := Z) F fN)) (Wa (ln (mc (Wh I (Wm (bS c fun c7 a2 c => VE (pf (enc := lE) (v := k) (vs := Z) (R := g) b nI dc px aM oF.1 oF.2.1 rfl oF.2.2.1 oF.2.2.2 rfl rfl B (L.mono (Pl.mono _) b.lJ) a2 (fun d6 c8 b4 b s => Wa (mD ?_)))))))))))
   exact mL (lU ⟨d, c8, c7, b4, _, ⟨rfl, m⟩, (b.lG St), rfl, J, s, (by rw [P]; exact c)⟩)
  rintro E W ⟨k, D, g, H, ⟨d, m⟩, b, I, J, B, c⟩
  rw [aK] at c
  refine lU ?_
  obtain rfl := sj c
  exact ⟨k, g, _, (b.lG St), I, B⟩
 rintro d7 E W ⟨G, x, N, b, b5, M⟩ a5
 refine sg (Wh b5 (Wa (lt ?_)))
 obtain rfl := sj a5
 exact ng (v := G) rfl rfl ⟨_, x, rfl, b.oA (fun p hq => (Ml hq)) M.nd, M⟩
theorem FW (j : Value) (t : List lC) (c : lC) (r : Int) (w : World) (g : Sl (Pl lE) 2 (hp w) j t) (hm : ye t c = some r) :
  mw true Tryz.prog 251 [j, (.agg (lE c).toArray)] w (.int .i64 r) := by
 refine cG 19 func251 rfl (fun b => sg (VE (mI b rfl (fun Q J b => Wa (lS (Wm (V (nh aM rfl g) (Wm (ln ?_)))))))))
 refine mY (fun i E W => ∃ k, (E 8 = .int .i64 (i : Nat) ∧ E 7 = .int .i64 (t.length : Nat)) ∧ ST true mX w W (hp w) ((J, Ol (lE c) 50) :: k) ∧ E 0 = j ∧ E 3 = (.pointer (some ⟨J, 0, none⟩)) ∧ se c (t.drop i) i = some r) t.length g.len ⟨_, ⟨rfl, rfl⟩, (b.lG St), rfl, rfl, hm⟩ dc dc dc (fun _ _ _ h => by obtain ⟨_, m, _⟩ := h; exact m) ?_ ?_
 ·rintro K E W B ⟨k, ⟨l, o⟩, b, u, x, a⟩
  obtain ⟨y, M, H, G, I⟩ := mM B
  rw [H] at a
  refine bg (Wh l (Wa (ln (me ?_))))
  replace b := b.drew
  have d := b.has.lG (Kb Sn)
  refine mO d mu (XH 0 rfl d (fun _ n => lK x (lP n Mh (lE c) rfl bB aH)) (X 1 rfl d (lO u) (X 2 rfl d (lO rfl) (XQ 3 rfl d (pg (enc := lE) (i := (K : Int)) (x0 := y) aM aH rfl rfl g (aG _) G) (fun N D => XH 4 rfl d (fun _ n => lK rfl (ms n D bB aH)) (X 5 rfl d (yU rfl rfl (qt gK) (vL (vg _ c y))) (nc kr (lU (CI a rfl (fun z a => ?_) (fun z a => ?_))))))))))
  ·refine sg (Wm (Wa (ln ?_)))
   replace b := b.lG (Db St)
   refine mB (oh (mQ (oh (mQ ?_))))
   obtain rfl := sj a
   exact rP b
  exact np (mL (lU ⟨l, _, ⟨rfl, o⟩, (b.lG St), u, x, (by rw [I]; exact a)⟩))
 rintro E W ⟨k, ⟨l, o⟩, b, u, x, a⟩
 rw [aK] at a
 refine lU ?_
 replace b := b.lG (Db St)
 exact sg (Wa (lt (rQ a b)))
theorem D7 (a : Value) (g : List lC) (c : lC) (r : Bool) (w : World) (i : Sl (Pl lE) 2 (hp w) a g) (hm : wP g c = some r) :
  mw true Tryz.prog 207 [a, (.agg (lE c).toArray)] w (.bool r) := by
 refine cG 9 func207 rfl (fun b => sg (VE (mI b rfl (fun k u b => Wa (lr (Wm (VA b Mh (lE c) bB aH (bS hm fun x j hm => VE (Eg b call251 (FW a g c _ _ (i.mono (Pl.mono _) b.lJ) j) (fun t b => Wi rfl (Wa ?_)))))))))))
 refine ln ?_
 exact mB (rQ hm b)
theorem NU (a : Value) (g : List lC) (c : lC) (r : Bool) (w : World) (i : Sl (Pl lE) 2 (hp w) a g) (hm : Ct g c = some r) :
  mw true Tryz.prog 150 [a, (.agg (lE c).toArray)] w (.bool r) := by
 refine cG 8 func150 rfl (fun b => sg (VE (mI b rfl (fun k u b => Wa (lr (Wm (VA b Mh (lE c) bB aH (bS hm fun x j hm => VE (Eg b call207 (D7 a g c _ _ (i.mono (Pl.mono _) b.lJ) j) (fun t b => Wa (mD ?_)))))))))))
 refine lU ?_
 exact mB (rQ hm b)
theorem Ir (Q : lC) (T : Nat) (k : ByteArray) (c : Value) (i : List mG) (g : Value) (j : List ny) (H : ByteArray) (I : Int) (t : Value) (u : List lB) (B : Value) (G : List lB) (x : Value) (D : List lC) (a : Value) (z : List lC) (r : Bool) (w : World) (K : Sl mx 15 (hp w) c i) (M : Sl mV 8 (hp w) g j) (N : Sl (Pl lD) 9 (hp w) t u) (Z : Sl (Pl lD) 9 (hp w) B G) (U : Sl (Pl lE) 2 (hp w) x D) (J : Sl (Pl lE) 2 (hp w) a z) (Y : At (hp w) (.pointer (some ⟨T, 0, none⟩)) [(.string k), c, g, (.string H), (.int .i64 I), t, B, x, a]) (hm : vS Q k i j H I u G D z = some r) :
  mw true Tryz.prog 149 [(.agg (lE Q).toArray), (.pointer (some ⟨T, 0, none⟩))] w (.bool r) := by
 refine cG 8 func149 rfl (fun b => sg (VE (mI b rfl (fun W2 h b => Wa (lr (VQ (sO [a] Dh rfl Y rfl) (fun l d => V (lK rfl (pp b.has (y := a) d fN)) (VA b Mh (lE Q) bB aH (bS hm fun m a2 hm => VE (Eg b call150 (NU a z Q _ _ (J.mono (Pl.mono _) b.lJ) a2) (fun W8 b => Wa ?_)))))))))))
 refine ln ?_
 exact mB (rQ hm b)
theorem FK (a : mW) (t u G M J K b2 : Value) (Q r : List lC) (w : World) (c : Sl mx 15 (hp w) t a.lF.lX) (g : Sl mV 8 (hp w) u a.lF.ml) (j : Sl (Pl lD) 9 (hp w) G a.lQ) (B : Sl (Pl lD) 9 (hp w) M a.Shown) (y : Sl (Pl lE) 2 (hp w) J a.mg) (z : Sl (Pl lE) 2 (hp w) K a.mj) (R : Sl (Pl lE) 2 (hp w) b2 Q) (hm : sw a Q = some r) :
  nC false Tryz.prog 85 [(.agg #[(.string a.lF.Name), t, u, (.string a.na), (.int .i64 a.Room), G, M, J, K]), b2] w 50 lE 2 r := by
 refine vV 19 func85 rfl (fun d => sg ?_)
 obtain ⟨A1, c2, rfl⟩ := c.form
 obtain ⟨A3, s, rfl⟩ := g.form
 obtain ⟨A5, A, rfl⟩ := j.form
 obtain ⟨A7, F, rfl⟩ := B.form
 obtain ⟨A9, a2, rfl⟩ := y.form
 obtain ⟨U, a3, rfl⟩ := z.form
 refine VE (mI d rfl (fun e7 q d => Wa (lr (VA d Mh (C2 a.lF.Name A1 a.lF.lX.length c2 A3 a.lF.ml.length s a.na a.Room A5 a.lQ.length A A7 a.Shown.length F A9 a.mg.length a2 U a.mj.length a3) dU cZ (bS hm fun N d1 hm => VE (pF d call76 (EF a (.slice A1 a.lF.lX.length c2) (.slice A3 a.lF.ml.length s) (.slice A5 a.lQ.length A) (.slice A7 a.Shown.length F) (.slice A9 a.mg.length a2) (.slice U a.mj.length a3) _ _ (c.mono mH.mono d.lJ) (g.mono nK.mono d.lJ) (j.mono (Pl.mono _) d.lJ) (B.mono (Pl.mono _) d.lJ) (y.mono (Pl.mono _) d.lJ) (z.mono (Pl.mono _) d.lJ) d1) (fun e8 f3 f6 e5 d D a1 P => Wm ?_)))))))
 obtain ⟨Y, a4, rfl⟩ := P.form
 obtain ⟨Z, a5, rfl⟩ := R.form
 refine VE (mN (cs := #[(.slice Y N.length a4), (.slice Z Q.length a5)]) d (rA rfl rfl) (oR ir iN zeroValue34) (fun e9 d7 d => bS hm fun d8 d2 hm => VE (pF d call87 (nC.nz (xN (.slice (some ⟨d7, 0, none⟩) 2 2) ([N, Q]) _ _ (Ep.lit (l := [N, Q]) (vs := [(.slice Y N.length a4), (.slice Z Q.length a5)]) rfl nb (d.at_ Mh) (.cons (P.sl nI (fun b o n => d.at_ (Mt (Ml n)))) (.cons (R.mono (Pl.mono _) (D.trans d.lJ)) .nil))) d2)) (fun f0 e0 f7 e6 d H aa c9 => bS hm fun d9 d3 hm => VE (pF d lx (vq e0 d8 _ _ (c9.sl nI (fun b o n => d.at_ (Ml n))) d3) (fun f1 e1 f8 d5 d I ab d0 => V (qk (by exact uC rfl) rfl) (bS hm fun c5 d4 hm => ?_)))))))
 refine VE (FO d (Cr Qz Cn) call148 (fun hH hN h O => (yL e1 d9 d5 (.func (.func 149) #[] #[(.pointer (some ⟨q, 0, none⟩))]) (fun (x : lC) => vS x a.lF.Name a.lF.lX a.lF.ml a.na a.Room a.lQ a.Shown a.mg a.mj) _ _ ⟨hH, hN, mn.refl _⟩ d0 ⟨149, #[], #[(.pointer (some ⟨q, 0, none⟩))], rfl, call149, fun W x r m hm => (Ir x q a.lF.Name (.slice A1 a.lF.lX.length c2) a.lF.lX (.slice A3 a.lF.ml.length s) a.lF.ml a.na a.Room (.slice A5 a.lQ.length A) a.lQ (.slice A7 a.Shown.length F) a.Shown (.slice A9 a.mg.length a2) a.mg (.slice U a.mj.length a3) a.mj r W (c.mono mH.mono ((((D.trans H).trans I).trans h).trans m)) (g.mono nK.mono ((((D.trans H).trans I).trans h).trans m)) (j.mono (Pl.mono _) ((((D.trans H).trans I).trans h).trans m)) (B.mono (Pl.mono _) ((((D.trans H).trans I).trans h).trans m)) (y.mono (Pl.mono _) ((((D.trans H).trans I).trans h).trans m)) (z.mono (Pl.mono _) ((((D.trans H).trans I).trans h).trans m)) (At.of (m _ _ (O _ _ (Ma (Mt (Ma Mh))))) _ rfl) hm).nz⟩ d4)) (fun f2 f4 f9 e4 d e3 ad L c7 => ?_))
 obtain ⟨f5, d6, T, rfl, b1⟩ := c7
 replace T := T.symm; subst T
 replace d := d.perm (Tr Tn)
 refine Wa (ln ?_)
 replace d := d.lG (Kr (Dr (Db (Dr (Db St)))))
 refine sg (Wm (Wm (V (qb aM rfl b1) (V (Qj (k := .i64) rfl rfl) (bS hm fun _ a9 hm => VQ (wA (i := (if 16 < (c5.length : Int) then 16 else (c5.length : Int))) aM aH rfl rfl b1 nI (tQ a9) (tu a9)) (fun e2 b0 => Wa (lt ?_)))))))
 obtain rfl := sj hm
 exact ng (v := e2) rfl rfl ⟨_, d6, rfl, d.oA (fun p n => (Ml n)) b0.nd, b0⟩
theorem L4 (c : Value) (D : List lB) (G : ByteArray) (r : ((List (lC × (List (ByteArray × Bool)))) × (List lB) × (List (lC × (List lB))) × (List (ByteArray × (List lB))) × (List lY) × Int × ByteArray)) (w : World) (I : Sl (Pl lD) 9 (hp w) c D) (hm : AR D G = some r) :
  nH false Tryz.prog 51 [c, (.string G)] w [] (fun v L1 W' => ∃ g h l S4 m S7 n j z k B t u, v = (.func (.func 110) #[] #[(.pointer (some ⟨g, 0, none⟩)), (.pointer (some ⟨u, 0, none⟩))]) ∧ L1 = ((g, Ob #[(.pointer (some ⟨h, 0, none⟩))] 132) :: ((h, Ob #[l, m, n, z, B, (.int .i64 (r.2.2.2.2.2.1))] 189) :: ((u, Ob #[(.string (r.2.2.2.2.2.2))] 9) :: (S4 ++ (S7 ++ (j ++ (k ++ (t ++ [])))))))) ∧ nT (fun (x : lC) => (.agg (lE x).toArray)) (mJ Value.string (fun (x : Bool) => (Value.bool x))) l r.1 S4 ∧ my 52 lD 9 m r.2.1 S7 ∧ nT (fun (x : lC) => (.agg (lE x).toArray)) (my 52 lD 9) n r.2.2.1 j ∧ nT Value.string (my 52 lD 9) z r.2.2.2.1 k ∧ sd 111 nU 3 B r.2.2.2.2.1 t) := by
 refine vV 9 func51 rfl (fun b => sg (VE (mI b rfl (fun W2 g b => Wa (lr (Wm (bS hm fun W o hm => ?_)))))))
 refine VE (FO b (bE _) call62 (fun _ _ _ _ => (Je c D _ _ (I.mono (Pl.mono _) b.lJ) o)) (fun W5 v9 O R b P L d H => ?_) (L0 := []))
 obtain ⟨i, q, T, s, U, a9, Y, A, Z, F, a2, a, rfl, J, K, M, N, Q⟩ := H
 replace a := a.symm; subst a
 replace b := b.perm (Tb (Tr (Tr (Tr (Tr (Tr Tn))))))
 refine VE (mz b zeroValue132 (fun c1 y b => VO (mh (.pointer (some ⟨i, 0, none⟩)) (#[(.pointer (some ⟨i, 0, none⟩))]) b rfl rfl sizeOf132 oc nb rfl (fun c2 b => lr (V (qk (by exact xM rfl rfl) rfl) (Wa (lt ?_)))))))
 obtain rfl := sj hm
 exact ng (v := (.func (.func 110) #[] #[(.pointer (some ⟨y, 0, none⟩)), (.pointer (some ⟨g, 0, none⟩))])) rfl rfl ⟨_, _, rfl, (b.Pq (Kb (Kb (Sb (Pr (Pr (Pr (Pr (Pr Pz))))) (Kr (Kr (Kr (Kr (Kr Sn))))))))), y, i, q, T, s, U, a9, Y, A, Z, F, a2, g, rfl, rfl, J, K, M, N, Q⟩
theorem I4 (N : lC) (Q D : Nat) (t : Value) (B : List (lC × (List (ByteArray × Bool)))) (a : Value) (j : List lB) (i : Value) (z : List (lC × (List lB))) (c : Value) (k : List (ByteArray × (List lB))) (g : Value) (u : List lY) (I : Int) (T : Nat) (Y : ByteArray) (r : Bool) (w : World) (M : ud (fun (x : lC) => (.agg (lE x).toArray)) (mJ Value.string (fun (x : Bool) => (Value.bool x))) (hp w) t B) (G : Sl (Pl lD) 9 (hp w) a j) (K : ud (fun (x : lC) => (.agg (lE x).toArray)) (my 52 lD 9) (hp w) i z) (H : ud Value.string (my 52 lD 9) (hp w) c k) (J : Sl (Pl nU) 3 (hp w) g u) (U : At (hp w) (.pointer (some ⟨D, 0, none⟩)) [t, a, i, c, g, (.int .i64 I)]) (Z : At (hp w) (.pointer (some ⟨Q, 0, none⟩)) [(.pointer (some ⟨D, 0, none⟩))]) (d : At (hp w) (.pointer (some ⟨T, 0, none⟩)) [(.string Y)]) (hm : uZ N B j z k u I Y = some r) :
  mw true Tryz.prog 110 [(.agg (lE N).toArray), (.pointer (some ⟨Q, 0, none⟩)), (.pointer (some ⟨T, 0, none⟩))] w (.bool r) := by
 refine cG 9 func110 rfl (fun b => sg (VE (mI b rfl (fun W2 h b => Wa (lr (V (lK rfl (pp b.has (y := (.pointer (some ⟨D, 0, none⟩))) Z isAgg132)) (VA b Mh (lE N) bB aH (V (lK rfl (pp b.has (y := (.string Y)) d bZ)) (bS hm fun l a2 hm => VE (Eg b call64 (De D t B a j i z c k g u I N Y _ _ (M.mono b.lJ) (G.mono (Pl.mono _) b.lJ) (K.mono b.lJ) (H.mono b.lJ) (J.mono (Pl.mono _) b.lJ) (U.mono b.lJ) a2) (fun W5 b => Wa ?_)))))))))))
 refine ln ?_
 exact mB (rQ hm b)
theorem Lv (k : lF) (H K c1 : Value) (L : List lB) (a2 : ByteArray) (r : List lB) (w : World) (g : Sl mx 15 (hp w) H k.lX) (J : Sl mV 8 (hp w) K k.ml) (h5 : Sl (Pl lD) 9 (hp w) c1 L) (hm : tz k L a2 = some r) :
  nC false Tryz.prog 13 [(.agg #[(.string k.Name), H, K]), c1, (.string a2)] w 52 lD 9 r := by
 refine vV 47 func13 rfl (fun d => sg ?_)
 obtain ⟨A1, c2, rfl⟩ := g.form
 let c8 : Value := (.slice A1 k.lX.length c2)
 obtain ⟨A3, c4, rfl⟩ := J.form
 let O := (C7 k.Name A1 k.lX.length c2 A3 k.ml.length c4)
 refine VE (mI d rfl (fun W6 A d => Wa (lr (Wm (Wm (bS hm fun B i5 hm => ?_))))))
 refine VE (FO d (bE _) call51 (fun _ _ _ _ => (L4 c1 L a2 _ _ (h5.mono (Pl.mono _) d.lJ) i5)) (fun W9 l1 g4 l0 d a5 af ae h4 => ?_) (L0 := []))
 obtain ⟨N, q, e0, f9, e1, g0, e2, g1, e3, g2, e4, g3, Q, c0, rfl, h6, h7, h8, h9, i0⟩ := h4
 replace c0 := c0.symm; subst c0
 replace d := d.perm (Tb (Tb (Tb (Tr (Tr (Tr (Tr (Tr Tn))))))))
 refine Wa (lr (Wa (lS (Wf AD (VB d (Mt (Mt (Mt (Ma (Ma (Ma (Ma (Ma Mh)))))))) rfl rfl kH (V (nh dN rfl g) (Wm ?_)))))))
 refine ln (mY (fun i E W => ∃ D I G s P, (E 19 = .int .i64 (i : Nat) ∧ E 18 = .int .i64 (k.lX.length : Nat)) ∧ mn g4 s ∧ ST false mX w W s ((N, Ob #[(.pointer (some ⟨q, 0, none⟩))] 132) :: ((q, Ob #[e0, e1, e2, e3, e4, (.int .i64 B.2.2.2.2.2.1)] 189) :: ((Q, Ob #[(.string B.2.2.2.2.2.2)] 9) :: ((A, Ol O 25) :: (G ++ (f9 ++ (g0 ++ (g1 ++ (g2 ++ (g3 ++ P)))))))))) ∧ E 3 = (.pointer (some ⟨A, 0, none⟩)) ∧ E 7 = (.func (.func 110) #[] #[(.pointer (some ⟨N, 0, none⟩)), (.pointer (some ⟨Q, 0, none⟩))]) ∧ E 8 = D ∧ E 17 = c8 ∧ my 52 lD 9 D I G ∧ tH k B (k.lX.drop i) I = some r) k.lX.length g.len ⟨(.slice none 0 0), ([]), [], g4, _, ⟨rfl, rfl⟩, (mn.refl _), (d.lG (Kb (Kb (Kb (Sb (Pr (Pr (Pr (Pr (Pr Pz))))) St))))), rfl, rfl, rfl, rfl, (my.nil _ _ _), hm⟩ dc dc dc (fun _ _ _ h => by obtain ⟨_, _, _, _, _, aa, _⟩ := h; exact aa) ?_ ?_)
 ·let b6 : Value := (.func (.func 110) #[] #[(.pointer (some ⟨N, 0, none⟩)), (.pointer (some ⟨Q, 0, none⟩))])
  rintro d8 E W f0 ⟨D, I, G, s, P, ⟨F, eN⟩, u, d, Y, Z, a3, a4, M, j⟩
  obtain ⟨a, i6, f8, f7, c6⟩ := mM f0
  rw [f8] at j
  refine bg (VQ (od (i := (d8 : Int)) (x0 := a) mx.out dN dQ a4 F (g.mono mH.mono (a5.trans u)) (aG _) f7) (fun k1 ⟨_, ⟨k4, k5, rfl, f5, f6⟩, f1⟩ => V (lK rfl (ms d.has f1 kJ dQ)) (VE (mz d eZ (fun i9 d0 d => ?_)))))
  obtain ⟨b2, b7, rfl⟩ := f5.form
  obtain ⟨b3, b9, rfl⟩ := f6.form
  let a0 := (C4 a.Signed.lB.Kind a.Signed.lB.Head.lI a.Signed.lB.Head.lM a.Signed.lB.mS a.Signed.lB.B.lI a.Signed.lB.B.lM a.Signed.lB.C.lI a.Signed.lB.C.lM a.Signed.lB.mK b2 a.Signed.Tag.length b7 a.lL.Op a.lL.K a.lL.lC.lI a.lL.lC.lM b3 a.lL.Kids.length b9)
  refine VO (mh (.agg a0.toArray) (a0.toArray) d rfl rfl dQ oc nb rfl (fun j0 d => lr (V (lK Y (lP d.has (Mt (Mt (Mt (Mt Mh)))) O rfl gI eX)) (Wf yE (Wf tj (VA d Mh (lD a.Signed.lB) bH aI (bS j fun c f2 j => ?_)))))))
  let e5 : Value := (.string (((c.1).lC).lM))
  let d1 : Value := (.string (((c.1).lC).lI))
  refine VE (eD d (bE _) call23 (fun hh => (Cp k c8 (.slice A3 k.ml.length c4) a.Signed.lB _ _ hh (g.mono mH.mono (a5.trans u)) (J.mono nK.mono (a5.trans u)) f2)) ?_ (L0 := []))
  rintro _ k6 c3 i8 d a9 ab ⟨k8, a6, rfl, c7⟩
  obtain rfl := a6.symm
  refine Wm (Wx rfl (Wx rfl (VE (mz d bI (fun j4 k0 d => ?_)))))
  obtain ⟨T, U, rfl⟩ := c7.form
  let b8 : Value := (.slice T ((c.1).Kids).length U)
  refine VO (mh (.agg #[(.int .i64 ((c.1).Op)), (.int .i64 ((c.1).K)), d1, e5, b8]) (#[(.int .i64 ((c.1).Op)), (.int .i64 ((c.1).K)), d1, e5, b8]) d rfl rfl aD oc nb rfl (fun j5 d => Wa (lr (Wm (Wi rfl (Wm (LJ j (fun d9 E W => ∃ c9, ST false mX w W c3 ((d0, Ol a0 60) :: ((N, Ob #[(.pointer (some ⟨q, 0, none⟩))] 132) :: ((q, Ob #[e0, e1, e2, e3, e4, (.int .i64 B.2.2.2.2.2.1)] 189) :: ((Q, Ob #[(.string B.2.2.2.2.2.2)] 9) :: ((A, Ol O 25) :: (G ++ (f9 ++ (g0 ++ (g1 ++ (g2 ++ (g3 ++ c9))))))))))) ∧ E 3 = (.pointer (some ⟨A, 0, none⟩)) ∧ E 7 = b6 ∧ E 8 = D ∧ E 10 = (.pointer (some ⟨d0, 0, none⟩)) ∧ E 17 = c8 ∧ E 18 = (.int .i64 (k.lX.length : Int)) ∧ E 19 = (.int .i64 (d8 : Int)) ∧ E 37 = (.bool d9)) 4 ?_ (fun d9 z b0 => ?_))))))))
  ·rintro k7 E W ⟨c9, d, d2, d3, d4, h2, d5, d6, d7, h3⟩ y
   refine ln (CI y h3 (fun e8 y => ?_) (fun e8 y => ?_))
   ·refine mc (Wh d4 (V (lN yE h2) (Wf tj (VA d Mh (lD a.Signed.lB) bH aI (VE (mN (cs := (lD a.Signed.lB).toArray) d (oX rfl) (oR aJ aI cM) (fun j6 h1 d => ?_)))))))
    replace d := d.perm (Nr (Qb (Qb (Qb (Qb (Qb (Qb Qz)))))) Nz)
    refine bS y fun i1 e9 y => VE (pf (enc := lD) (v := D) (vs := (.slice (some ⟨h1, 0, none⟩) 1 1)) (R := G) d nj dc pb aJ oG.1 oG.2.1 rfl oG.2.2.1 oG.2.2.2 rfl rfl M (Sl.lit (enc := lD) (l := [a.Signed.lB]) nj rfl nb rfl (d.at_ (Ma Mh))) e9 (fun j7 i2 g7 d e7 => Wa (mD (mL (lU ?_)))))
    replace d := d.lG (Kr (Db (Db St)))
    exact ⟨d7, i2, i1, g7, c3, _, ⟨rfl, d6⟩, (u.trans a9), (d.lG (Sb (Pr Pz) (Sb (Pr Pz) (Sb (Pr Pz) (Sb (Pr Pz) St))))), d2, d3, rfl, d5, e7, (by rw [c6]; exact y)⟩
   refine np (mL (lU ?_))
   replace d := d.lG (Db St)
   exact ⟨d7, D, I, G, c3, _, ⟨rfl, d6⟩, (u.trans a9), (d.lG St), d2, d3, d4, d5, M, (by rw [c6]; exact y)⟩
  refine bC z (fun t z => ?_) (fun t z => ?_)
  ·refine ug t (lK rfl (lP d.has Mh [(.int .i64 ((c.1).Op)), (.int .i64 ((c.1).K)), d1, e5, b8] rfl aZ aD)) (ug t (lO Z) (bS z fun k2 f3 z => uJ t (Eg d call24 (Bh c.1 b8 b6 (fun (x : lC) => uZ x B.1 B.2.1 B.2.2.1 B.2.2.2.1 B.2.2.2.2.1 B.2.2.2.2.2.1 B.2.2.2.2.2.2) _ _ (c7.mono mf.mono d.lJ) ⟨110, #[], #[(.pointer (some ⟨N, 0, none⟩)), (.pointer (some ⟨Q, 0, none⟩))], rfl, call110, fun W x r n hm => (I4 x N q e0 B.1 e1 B.2.1 e2 B.2.2.1 e3 B.2.2.2.1 e4 B.2.2.2.2.1 B.2.2.2.2.2.1 Q B.2.2.2.2.2.2 r W (h6.at (fun b o m => n _ _ ((fun b o m => d.at_ (Mt (Mt (Mt (Mt (Mt (Mt (Ma (Ml m))))))))) b o m))) (h7.sl nj (fun b o m => n _ _ ((fun b o m => d.at_ (Mt (Mt (Mt (Mt (Mt (Mt (Ma (Ma (Ml m)))))))))) b o m))) (h8.at (fun b o m => n _ _ ((fun b o m => d.at_ (Mt (Mt (Mt (Mt (Mt (Mt (Ma (Ma (Ma (Ml m))))))))))) b o m))) (h9.at (fun b o m => n _ _ ((fun b o m => d.at_ (Mt (Mt (Mt (Mt (Mt (Mt (Ma (Ma (Ma (Ma (Ml m)))))))))))) b o m))) ((i0.Er yZ).mono (Pl.mono _) (ou (fun b o m => n _ _ ((fun b o m => d.at_ (Mt (Mt (Mt (Mt (Mt (Mt (Ma (Ma (Ma (Ma (Ma (Ml m))))))))))))) b o m)))) (At.of (n _ _ (d.at_ (Mt (Mt (Mt Mh))))) _ rfl) (At.of (n _ _ (d.at_ (Mt (Mt Mh)))) _ rfl) (At.of (n _ _ (d.at_ (Mt (Mt (Mt (Mt Mh)))))) _ rfl) hm).nz⟩ f3) (fun j8 d => V (mo (cB t) rfl) ?_))))
   obtain rfl := sj z
   exact b0 _ _ ⟨_, (d.lG (Db St)), Y, Z, a3, rfl, a4, eN, F, rfl⟩
  refine un t (un t (un t (V (mq (cB t) rfl) ?_)))
  obtain rfl := sj z
  exact b0 _ _ ⟨_, (d.lG (Db St)), Y, Z, a3, rfl, a4, eN, F, rfl⟩
 rintro E W ⟨D, I, G, s, P, ⟨F, eN⟩, u, d, Y, Z, a3, a4, M, j⟩
 rw [aK] at j
 refine lU ?_
 replace d := d.lG (Db (Db (Db (Db (Kr (Dr (Dr (Dr (Dr (Dr St))))))))))
 refine sg (Wh a3 (bS j fun k3 f4 j => VE (pF d call52 (wC D I _ _ (M.sl nj (fun b o m => d.at_ (Ml m))) f4) (fun j9 i3 k9 g8 d i4 ad c5 => Wa (ln ?_)))))
 replace d := d.lG (Kr (Dr St))
 refine mB ?_
 obtain rfl := sj j
 exact ng (v := i3) rfl rfl ⟨_, g8, rfl, d.oA (fun p m => (Ml m)) c5.nd, c5⟩
theorem JN (Q : lB) (T : Nat) (k : ByteArray) (c : Value) (i : List mG) (g : Value) (j : List ny) (H : ByteArray) (I : Int) (t : Value) (u : List lB) (a : Value) (z : List lB) (x : Value) (D : List lC) (B : Value) (G : List lC) (r : Bool) (w : World) (K : Sl mx 15 (hp w) c i) (M : Sl mV 8 (hp w) g j) (N : Sl (Pl lD) 9 (hp w) t u) (J : Sl (Pl lD) 9 (hp w) a z) (U : Sl (Pl lE) 2 (hp w) x D) (Z : Sl (Pl lE) 2 (hp w) B G) (Y : At (hp w) (.pointer (some ⟨T, 0, none⟩)) [(.string k), c, g, (.string H), (.int .i64 I), t, a, x, B]) (hm : yS Q k i j H I u z D G = some r) :
  mw true Tryz.prog 120 [(.agg (lD Q).toArray), (.pointer (some ⟨T, 0, none⟩))] w (.bool r) := by
 refine cG 8 func120 rfl (fun b => sg (VE (mI b rfl (fun W2 h b => Wa (lr (VQ (sO [a] BM rfl Y rfl) (fun l d => V (lK rfl (pp b.has (y := a) d eU)) (VA b Mh (lD Q) bH aI (bS hm fun m a2 hm => VE (Eg b call60 (AJ a z Q _ _ (J.mono (Pl.mono _) b.lJ) a2) (fun W8 b => Wa ?_)))))))))))
 refine ln ?_
 exact mB (rQ hm b)
theorem MC (a : mW) (j k t H z G : Value) (r : List lB) (w : World) (c : Sl mx 15 (hp w) j a.lF.lX) (g : Sl mV 8 (hp w) k a.lF.ml) (i : Sl (Pl lD) 9 (hp w) t a.lQ) (D : Sl (Pl lD) 9 (hp w) H a.Shown) (y : Sl (Pl lE) 2 (hp w) z a.mg) (B : Sl (Pl lE) 2 (hp w) G a.mj) (hm : BH a = some r) :
  nC false Tryz.prog 55 [(.agg #[(.string a.lF.Name), j, k, (.string a.na), (.int .i64 a.Room), t, H, z, G])] w 52 lD 9 r := by
 refine vV 12 func55 rfl (fun b => sg ?_)
 obtain ⟨M, Q, rfl⟩ := c.form
 obtain ⟨N, T, rfl⟩ := g.form
 obtain ⟨A5, n, rfl⟩ := i.form
 obtain ⟨A7, P, rfl⟩ := D.form
 obtain ⟨A9, Y, rfl⟩ := y.form
 obtain ⟨U, Z, rfl⟩ := B.form
 refine VE (mI b rfl (fun b7 J b => Wa (lr (Wf zB (VA b Mh (C7 a.lF.Name M a.lF.lX.length Q N a.lF.ml.length T) gI eX (Wf EE (VB b Mh rfl rfl eU (Wf Ji (VB b Mh rfl rfl bZ (bS hm fun F a5 hm => VE (pF b call13 (Lv a.lF (.slice M a.lF.lX.length Q) (.slice N a.lF.ml.length T) (.slice A5 a.lQ.length n) a.lQ a.na _ _ (c.mono mH.mono b.lJ) (g.mono nK.mono b.lJ) (i.mono (Pl.mono _) b.lJ) a5) (fun b9 L c5 a9 b u o a4 => V (qk (by exact uC rfl) rfl) ?_))))))))))))
 refine bS hm fun c1 s hm => ?_
 refine VE (FO b (Cr Qz Cn) call111 (fun hH R d m => (tO L F a9 (.func (.func 120) #[] #[(.pointer (some ⟨J, 0, none⟩))]) (fun (x : lB) => yS x a.lF.Name a.lF.lX a.lF.ml a.na a.Room a.lQ a.Shown a.mg a.mj) _ _ ⟨hH, R, mn.refl _⟩ a4 ⟨120, #[], #[(.pointer (some ⟨J, 0, none⟩))], rfl, call120, fun W x r h hm => (JN x J a.lF.Name (.slice M a.lF.lX.length Q) a.lF.lX (.slice N a.lF.ml.length T) a.lF.ml a.na a.Room (.slice A5 a.lQ.length n) a.lQ (.slice A7 a.Shown.length P) a.Shown (.slice A9 a.mg.length Y) a.mg (.slice U a.mj.length Z) a.mj r W (c.mono mH.mono ((u.trans d).trans h)) (g.mono nK.mono ((u.trans d).trans h)) (i.mono (Pl.mono _) ((u.trans d).trans h)) (D.mono (Pl.mono _) ((u.trans d).trans h)) (y.mono (Pl.mono _) ((u.trans d).trans h)) (B.mono (Pl.mono _) ((u.trans d).trans h)) (At.of (h _ _ (m _ _ Mh)) _ rfl) hm).nz⟩ s)) (fun c0 c3 c7 b6 b b5 q l a3 => ?_))
 obtain ⟨O, A, I, rfl, K⟩ := a3
 replace I := I.symm; subst I
 replace b := b.perm (Tr Tn)
 refine Wa (ln ?_)
 replace b := b.lG (Kr (Db St))
 refine mB ?_
 obtain rfl := sj hm
 exact ng (v := O) rfl rfl ⟨_, A, rfl, b.oA (fun p hq => (Ml hq)) K.nd, K⟩
theorem Hn (c : lB) (g : Nat) (a : Value) (j : List lB) (r : Bool) (w : World) (k : Sl (Pl lD) 9 (hp w) a j) (i : At (hp w) (.pointer (some ⟨g, 0, none⟩)) [a]) (hm : xa c j = some r) :
  mw true Tryz.prog 138 [(.agg (lD c).toArray), (.pointer (some ⟨g, 0, none⟩))] w (.bool r) := by
 refine cG 8 func138 rfl (fun b => sg (VE (mI b rfl (fun u z b => Wa (lr (V (lK rfl (pp b.has (y := a) i eU)) (VA b Mh (lD c) bH aI (bS hm fun B t hm => VE (Eg b call60 (AJ a j c _ _ (k.mono (Pl.mono _) b.lJ) t) (fun x b => V (oH rfl) (Wa ?_)))))))))))
 refine ln ?_
 exact mB (rQ hm b)
theorem Bg (a : mW) (t u D J H I : Value) (r : List lB) (w : World) (c : Sl mx 15 (hp w) t a.lF.lX) (g : Sl mV 8 (hp w) u a.lF.ml) (j : Sl (Pl lD) 9 (hp w) D a.lQ) (B : Sl (Pl lD) 9 (hp w) J a.Shown) (y : Sl (Pl lE) 2 (hp w) H a.mg) (z : Sl (Pl lE) 2 (hp w) I a.mj) (hm : sI a = some r) :
  nC false Tryz.prog 77 [(.agg #[(.string a.lF.Name), t, u, (.string a.na), (.int .i64 a.Room), D, J, H, I])] w 52 lD 9 r := by
 refine vV 16 func77 rfl (fun d => sg ?_)
 obtain ⟨U, c2, rfl⟩ := c.form
 obtain ⟨Z, n, rfl⟩ := g.form
 obtain ⟨A5, q, rfl⟩ := j.form
 obtain ⟨A7, s, rfl⟩ := B.form
 obtain ⟨A9, M, rfl⟩ := y.form
 obtain ⟨K, N, rfl⟩ := z.form
 let a0 := (C2 a.lF.Name U a.lF.lX.length c2 Z a.lF.ml.length n a.na a.Room A5 a.lQ.length q A7 a.Shown.length s A9 a.mg.length M K a.mj.length N)
 refine VE (mI d rfl (fun d4 e0 d => Wa (lr (VA d Mh a0 dU cZ (bS hm fun Q b7 hm => VE (pF d call27 (yY a (.slice U a.lF.lX.length c2) (.slice Z a.lF.ml.length n) (.slice A5 a.lQ.length q) (.slice A7 a.Shown.length s) (.slice A9 a.mg.length M) (.slice K a.mj.length N) _ _ (c.mono mH.mono d.lJ) (g.mono nK.mono d.lJ) (j.mono (Pl.mono _) d.lJ) (B.mono (Pl.mono _) d.lJ) (y.mono (Pl.mono _) d.lJ) (z.mono (Pl.mono _) d.lJ) b7) (fun d5 e1 e4 d3 d G a7 F => VE (mz d jC (fun d6 a4 d => ?_)))))))))
 obtain ⟨Y, a6, rfl⟩ := F.form
 let m : Value := (.slice Y Q.length a6)
 refine VO (mh m (#[m]) d rfl rfl iA oc nb rfl (fun d7 d => lr (VA d (Mt (Ma Mh)) a0 dU cZ (bS hm fun c5 b9 hm => VE (pF d call55 (MC a (.slice U a.lF.lX.length c2) (.slice Z a.lF.ml.length n) (.slice A5 a.lQ.length q) (.slice A7 a.Shown.length s) (.slice A9 a.mg.length M) (.slice K a.mj.length N) _ _ (c.mono mH.mono (G.trans d.lJ)) (g.mono nK.mono (G.trans d.lJ)) (j.mono (Pl.mono _) (G.trans d.lJ)) (B.mono (Pl.mono _) (G.trans d.lJ)) (y.mono (Pl.mono _) (G.trans d.lJ)) (z.mono (Pl.mono _) (G.trans d.lJ)) b9) (fun d8 c7 e5 c1 d d0 a8 b6 => V (qk (by exact uC rfl) rfl) (bS hm fun R c0 hm => ?_)))))))
 refine VE (FO d (Cr Qz Cn) call111 (fun hH hN ab h => (tO c7 c5 c1 (.func (.func 138) #[] #[(.pointer (some ⟨a4, 0, none⟩))]) (fun (x : lB) => xa x Q) _ _ ⟨hH, hN, mn.refl _⟩ b6 ⟨138, #[], #[(.pointer (some ⟨a4, 0, none⟩))], rfl, call138, fun W x r hs hm => (Hn x a4 m Q r W (F.sl nj (fun b o l => hs _ _ ((fun b o l => h b o (Mt (Ml l))) b o l))) (At.of (hs _ _ (h _ _ Mh)) _ rfl) hm).nz⟩ c0)) (fun d9 e2 e6 d2 d d1 aa A b5 => ?_))
 obtain ⟨e3, c3, T, rfl, P⟩ := b5
 replace T := T.symm; subst T
 replace d := d.perm (Tr Tn)
 refine Wa (ln ?_)
 replace d := d.lG (Kr (Db (Dr (Db St))))
 refine sg (Wm (Wm (V (qb aJ rfl P) (V (Qj (k := .i64) rfl rfl) (bS hm fun _ L hm => VQ (wA (i := (if 8 < (R.length : Int) then 8 else (R.length : Int))) aJ aI rfl rfl P nj (tQ L) (tu L)) (fun c9 O => Wa (lt ?_)))))))
 obtain rfl := sj hm
 exact ng (v := c9) rfl rfl ⟨_, c3, rfl, d.oA (fun p l => (Ml l)) O.nd, O⟩
theorem FN (a : mW) (j t z G B D K : Value) (h : List lC) (r : Bool) (w : World) (c : Sl mx 15 (hp w) j a.lF.lX) (g : Sl mV 8 (hp w) t a.lF.ml) (i : Sl (Pl lD) 9 (hp w) z a.lQ) (y : Sl (Pl lD) 9 (hp w) G a.Shown) (u : Sl (Pl lE) 2 (hp w) B a.mg) (x : Sl (Pl lE) 2 (hp w) D a.mj) (A : Sl (Pl lE) 2 (hp w) K h) (hm : vj a h = some r) :
  mw false Tryz.prog 74 [(.agg #[(.string a.lF.Name), j, t, (.string a.na), (.int .i64 a.Room), z, G, B, D]), K] w (.bool r) := by
 refine cG 14 func74 rfl (fun b => sg ?_)
 obtain ⟨M, Y, rfl⟩ := c.form
 obtain ⟨N, Z, rfl⟩ := g.form
 obtain ⟨Q, l, rfl⟩ := i.form
 obtain ⟨T, m, rfl⟩ := y.form
 obtain ⟨U, I, rfl⟩ := u.form
 obtain ⟨H, J, rfl⟩ := x.form
 let a0 := (C2 a.lF.Name M a.lF.lX.length Y N a.lF.ml.length Z a.na a.Room Q a.lQ.length l T a.Shown.length m U a.mg.length I H a.mj.length J)
 refine VE (mI b rfl (fun P b6 b => Wa (ln (me ?_))))
 replace b := b.drew
 have d := b.has.lG (Kb Sn)
 refine mO d mu (XH 0 rfl d (fun _ n => lK rfl (lP n Mh a0 rfl dU cZ)) (X 1 rfl d (lO rfl) (XH 4 rfl d (fun _ n => lK rfl (lP n Mh a0 rfl dU cZ)) (bS hm fun b7 a9 hm => XE 2 rfl (pF b call85 (FK a (.slice M a.lF.lX.length Y) (.slice N a.lF.ml.length Z) (.slice Q a.lQ.length l) (.slice T a.Shown.length m) (.slice U a.mg.length I) (.slice H a.mj.length J) K h _ _ (c.mono mH.mono b.lJ) (g.mono nK.mono b.lJ) (i.mono (Pl.mono _) b.lJ) (y.mono (Pl.mono _) b.lJ) (u.mono (Pl.mono _) b.lJ) (x.mono (Pl.mono _) b.lJ) (A.mono (Pl.mono _) b.lJ) a9) (fun R c0 c3 L b k o s => ?_))))))
 have d := b.has.pC k (Dr (Kb Sn))
 refine ⟨d, (X 3 rfl d (qb aM rfl s) (bS hm fun b9 F hm => XE 5 rfl (pF b call77 (Bg a (.slice M a.lF.lX.length Y) (.slice N a.lF.ml.length Z) (.slice Q a.lQ.length l) (.slice T a.Shown.length m) (.slice U a.mg.length I) (.slice H a.mj.length J) _ _ (c.mono mH.mono (k.trans b.lJ)) (g.mono nK.mono (k.trans b.lJ)) (i.mono (Pl.mono _) (k.trans b.lJ)) (y.mono (Pl.mono _) (k.trans b.lJ)) (u.mono (Pl.mono _) (k.trans b.lJ)) (x.mono (Pl.mono _) (k.trans b.lJ)) F) (fun W c1 c5 O b a4 q v => ?_))))⟩
 have d := b.has.pC (k.trans a4) (Dr (Dr (Kb Sn)))
 refine ⟨d, (X 6 rfl d (qb aJ rfl v) (X 7 rfl d (mU rfl rfl rfl) (X 8 rfl d (mU rfl rfl rfl) (X 9 rfl d (oL rfl) (nc kr (lU ?_))))))⟩
 exact mB (rQ hm b)
theorem IP (H : Nat) (k : mW) (a c g j t i a2 : Value) (M : List lC) (r : mW) (w : World) {K : mF} (h0 : po K ((H, Ob #[(.string k.lF.Name), a, c, (.string k.na), (.int .i64 k.Room), g, j, t, i] 36) :: []) w) (B : Sl mx 15 K a k.lF.lX) (D : Sl mV 8 K c k.lF.ml) (G : Sl (Pl lD) 9 K g k.lQ) (J : Sl (Pl lD) 9 K j k.Shown) (z : Sl (Pl lE) 2 K t k.mg) (I : Sl (Pl lE) 2 K i k.mj) (Y : Sl (Pl lE) 2 K a2 M) (hm : wJ k M = some r) :
  nM false Tryz.prog 75 [(.pointer (some ⟨H, 0, none⟩)), a2] w K ((H, Ob #[(.string k.lF.Name), a, c, (.string k.na), (.int .i64 k.Room), g, j, t, i] 36) :: []) (fun v L1 N => ∃ A F L O P q, v = (.tuple #[]) ∧ L1 = ((H, Ob #[(.string (((r).lF).Name)), A, F, (.string ((r).na)), (.int .i64 ((r).Room)), L, O, P, q] 36) :: []) ∧ Sl mx 15 N A (((r).lF).lX) ∧ Sl mV 8 N F (((r).lF).ml) ∧ Sl (Pl lD) 9 N L ((r).lQ) ∧ Sl (Pl lD) 9 N O ((r).Shown) ∧ Sl (Pl lE) 2 N P ((r).mg) ∧ Sl (Pl lE) 2 N q ((r).mj)) := by
 refine vA h0 17 func75 rfl (fun d => sg (Wm (V (Cu lf rfl rfl) (ln (vr rfl (mc (Wm (Wm (Wn (Wf EC (VB d Mh rfl rfl fN (Wm ?_))))))))))))
 obtain ⟨A1, c2, rfl⟩ := z.form
 obtain ⟨A3, s, rfl⟩ := Y.form
 refine VE (mN (cs := #[(.slice A1 k.mg.length c2), (.slice A3 M.length s)]) d (rA rfl rfl) (oR ir iN zeroValue34) (fun W6 b5 d => bS hm fun r7 b1 hm => VE (pF d call87 (nC.nz (xN (.slice (some ⟨b5, 0, none⟩) 2 2) ([k.mg, M]) _ _ (Ep.lit (l := [k.mg, M]) (vs := [(.slice A1 k.mg.length c2), (.slice A3 M.length s)]) rfl nb (d.at_ Mh) (.cons (z.mono (Pl.mono _) d.lJ) (.cons (Y.mono (Pl.mono _) d.lJ) .nil))) b1)) (fun W9 b2 d1 c6 d u h R => bS hm fun Z a9 hm => VE (pF d lx (vq b2 r7 _ _ (R.sl nI (fun b o hq => d.at_ (Ml hq))) a9) (fun c8 d0 d2 c7 d x m U => Wn (Wf EC ?_)))))))
 obtain ⟨Q, T, rfl⟩ := U.form
 replace d := d.perm (Nb (Pr (Pr (Pb Pz))) Nz)
 refine VO (mh (.slice Q Z.length T) (#[(.string k.lF.Name), a, c, (.string k.na), (.int .i64 k.Room), g, j, (.slice Q Z.length T), i]) d rfl rfl iN oc nb rfl (fun c9 d => mD (rD ?_)))
 obtain rfl := sj hm
 refine qg rfl ?_
 replace d := d.perm (Nr (Qb Qz) Nz)
 obtain ⟨d3, d, y, n, W⟩ := ST.zp d U nI
 exact ⟨_, _, _, rfl, (d.ol (Kb Sn)), ((u.trans x).trans y), ((h.trans m).trans n), (ST.nm d (oK.mem (Kb Sn))), a, c, g, j, (.slice Q Z.length T), i, rfl, rfl, (B.mono mH.mono ((u.trans x).trans y)), (D.mono nK.mono ((u.trans x).trans y)), (G.mono (Pl.mono _) ((u.trans x).trans y)), (J.mono (Pl.mono _) ((u.trans x).trans y)), W, (I.mono (Pl.mono _) ((u.trans x).trans y))⟩
theorem BG (y : lF) (t x : Value) (D : lB) (r : (Signed × Bool)) (w : World) {M : mF} (F : po M [] w) (g : Sl mx 15 M t y.lX) (z : Sl mV 8 M x y.ml) (hm : zH y D = some r) :
  nM true Tryz.prog 66 [(.agg #[(.string y.Name), t, x]), (.agg (lD D).toArray)] w M [] (fun v L1 μ1 => ∃ s, v = (.tuple #[(.agg #[(.int .i64 (((r.1).lB).Kind)), (.string ((((r.1).lB).Head).lI)), (.string ((((r.1).lB).Head).lM)), (.string (((r.1).lB).mS)), (.string ((((r.1).lB).B).lI)), (.string ((((r.1).lB).B).lM)), (.string ((((r.1).lB).C).lI)), (.string ((((r.1).lB).C).lM)), (.string (((r.1).lB).mK)), s]), (.bool (r.2))]) ∧ L1 = [] ∧ Sl (Pl (nr .u8)) 1 μ1 s ((r.1).Tag)) := by
 refine vA F 24 func66 rfl (fun b => sg ?_)
 obtain ⟨A1, c2, rfl⟩ := g.form
 obtain ⟨A3, c4, rfl⟩ := z.form
 refine VE (mI b rfl (fun W6 b5 b => VE (mI b rfl (fun W8 n b => VE (mz b dW (fun d1 o b => Wa (lS (Wf AD (VB b (Mt (Mt Mh)) rfl rfl kH (V (nh dN rfl g) (Wm (ln ?_))))))))))))
 replace b := b.lG (Kb (Kb (Db St)))
 refine mY (fun i E W => ∃ B, (E 11 = .int .i64 (i : Nat) ∧ E 10 = .int .i64 (y.lX.length : Nat)) ∧ ST true (keys []) w W M ((o, Ol Nq 55) :: ((n, Ol (lD D) 52) :: B)) ∧ E 3 = (.pointer (some ⟨n, 0, none⟩)) ∧ E 4 = (.pointer (some ⟨o, 0, none⟩)) ∧ E 9 = (.slice A1 y.lX.length c2) ∧ vM D (y.lX.drop i) = some r) y.lX.length g.len ⟨_, ⟨rfl, rfl⟩, (b.lG St), rfl, rfl, rfl, hm⟩ dc dc dc (fun _ _ _ h => by obtain ⟨_, l, _⟩ := h; exact l) ?_ ?_
 ·rintro A E W U ⟨B, ⟨d, q⟩, b, G, u, H, c⟩
  obtain ⟨a, c9, Z, Y, a2⟩ := mM U
  rw [Z] at c
  refine bg (VQ (od (i := (A : Int)) (x0 := a) mx.out dN dQ H d g (aG _) Y) (fun c3 ⟨_, ⟨c7, c8, rfl, I, T⟩, Q⟩ => V (lK rfl (ms b.has Q kJ dQ)) (VE (mz b eZ (fun L b6 b => ?_)))))
  obtain ⟨j, k, rfl⟩ := I.form
  let a0 := (C3 a.Signed.lB.Kind a.Signed.lB.Head.lI a.Signed.lB.Head.lM a.Signed.lB.mS a.Signed.lB.B.lI a.Signed.lB.B.lM a.Signed.lB.C.lI a.Signed.lB.C.lM a.Signed.lB.mK j a.Signed.Tag.length k)
  obtain ⟨J, K, rfl⟩ := T.form
  let m := (C4 a.Signed.lB.Kind a.Signed.lB.Head.lI a.Signed.lB.Head.lM a.Signed.lB.mS a.Signed.lB.B.lI a.Signed.lB.B.lM a.Signed.lB.C.lI a.Signed.lB.C.lM a.Signed.lB.mK j a.Signed.Tag.length k a.lL.Op a.lL.K a.lL.lC.lI a.lL.lC.lM J a.lL.Kids.length K)
  refine VO (mh (.agg m.toArray) (m.toArray) b rfl rfl dQ oc nb rfl (fun O b => lr (Wf yE (Wf tj (VA b Mh (lD a.Signed.lB) bH aI (V (lK G (lP b.has (Mt (Mt Mh)) (lD D) rfl bH aI)) (V (yU rfl rfl (qt fQ) (vL (wS _ a.Signed.lB D))) (ln (CI c rfl (fun N c => ?_) (fun N c => ?_))))))))))
  ·refine sg (Wf yE (VA b Mh a0 jx dH ?_))
   replace b := b.perm (Nb (Pb Pz) Nz)
   refine VO (mh (.agg a0.toArray) (a0.toArray) b u rfl dH oc nb rfl (fun P b => Wa (ln ?_)))
   replace b := b.lG (Kb (Db (Db St)))
   refine mB (oh (mQ (oh (mQ ?_))))
   obtain rfl := sj c
   exact sK (v0 := (.agg a0.toArray)) (v1 := (.bool true)) rfl u (lP b.has Mh a0 rfl jx dH) rfl ⟨_, _, _, rfl, (b.ol Sn), (mn.refl _), Lo.refl, (ST.nm b (oK.mem Sn)), (.slice j a.Signed.Tag.length k), rfl, rfl, I⟩
  refine np (mL (lU ?_))
  replace b := b.lG (Db St)
  exact ⟨d, _, ⟨rfl, q⟩, (b.lG St), G, u, H, (by rw [a2]; exact c)⟩
 rintro E W ⟨B, ⟨d, q⟩, b, G, u, H, c⟩
 rw [aK] at c
 refine lU ?_
 replace b := b.lG (Kb (Db St))
 refine sg (V (nZ (v := (.agg Nq.toArray)) sL (nB dW fE (Oo _ fE) kr)) (VO (mh (.agg Nq.toArray) (Nq.toArray) b u rfl dH oc nb rfl (fun R b => Wa (lt ?_)))))
 obtain rfl := sj c
 exact sK (v0 := (.agg Nq.toArray)) (v1 := (.bool false)) rfl u (lP b.has Mh Nq rfl jx dH) rfl ⟨_, _, _, rfl, (b.ol Sn), (mn.refl _), Lo.refl, (ST.nm b (oK.mem Sn)), (.slice none 0 0), rfl, rfl, (Sl.nil _ _ _)⟩
theorem JK (a : mW) (x y B M G K U : Value) (Y : List lB) (r : Int) (w : World) (t : Sl mx 15 (hp w) x a.lF.lX) (u : Sl mV 8 (hp w) y a.lF.ml) (z : Sl (Pl lD) 9 (hp w) B a.lQ) (J : Sl (Pl lD) 9 (hp w) M a.Shown) (D : Sl (Pl lE) 2 (hp w) G a.mg) (I : Sl (Pl lE) 2 (hp w) K a.mj) (H : Sl (Pl lD) 9 (hp w) U Y) (hm : Bj a Y = some r) :
  mw false Tryz.prog 65 [(.agg #[(.string a.lF.Name), x, y, (.string a.na), (.int .i64 a.Room), B, M, G, K]), U] w (.int .i64 r) := by
 refine cG 41 func65 rfl (fun b => sg ?_)
 obtain ⟨A1, c2, rfl⟩ := t.form
 obtain ⟨A3, q, rfl⟩ := u.form
 obtain ⟨A5, c6, rfl⟩ := z.form
 obtain ⟨A7, c8, rfl⟩ := J.form
 obtain ⟨A9, a5, rfl⟩ := D.form
 obtain ⟨a4, P, rfl⟩ := I.form
 let a0 := (C2 a.lF.Name A1 a.lF.lX.length c2 A3 a.lF.ml.length q a.na a.Room A5 a.lQ.length c6 A7 a.Shown.length c8 A9 a.mg.length a5 a4 a.mj.length P)
 refine VE (mI b rfl (fun h7 o b => Wa (lS (Wm (V (nh aJ rfl H) (Wi rfl (ln (CI hm rfl (fun f1 hm => ?_) (fun f1 hm => ?_)))))))))
 ·refine sg (Wa (ln ?_))
  replace b := b.lG (Db St)
  refine mB (mQ ?_)
  obtain rfl := sj hm
  exact rP b
 refine kS (Wm (V (nh aJ rfl H) (Wm (ln (mY (fun i E W => ∃ T a9, (E 16 = .int .i64 (i : Nat) ∧ E 15 = .int .i64 (Y.length : Nat)) ∧ mn (hp w) T ∧ ST false mX w W T ((o, Ol a0 36) :: a9) ∧ E 1 = U ∧ E 2 = (.pointer (some ⟨o, 0, none⟩)) ∧ E 14 = U ∧ tT a Y (Y.drop i) = some r) Y.length H.len ⟨(hp w), _, ⟨rfl, rfl⟩, (mn.refl _), (b.lG St), rfl, rfl, rfl, hm⟩ dc dc dc (fun _ _ _ h => by obtain ⟨_, _, l, _⟩ := h; exact l) ?_ ?_)))))
 ·rintro f2 E W d6 ⟨T, a9, ⟨d, m⟩, g, b, v, Z, A, j⟩
  obtain ⟨N, f5, e5, e4, e6⟩ := mM d6
  rw [e5] at j
  refine bg (VQ (pg (enc := lD) (i := (f2 : Int)) (x0 := N) aJ aI A d (H.mono (Pl.mono _) g) (aG _) e4) (fun h1 e0 => V (lK rfl (ms b.has e0 bH aI)) (VE (mz b cM (fun f8 g8 b => VO (mh (.agg (lD N).toArray) ((lD N).toArray) b rfl rfl aI (pb N) nb rfl (fun f9 b => lr (V (lN zB Z) (VA b (Mt Mh) (C7 a.lF.Name A1 a.lF.lX.length c2 A3 a.lF.ml.length q) gI eX (VA b Mh (lD N) bH aI (bS j fun c e2 j => ?_)))))))))))
  let n := (((c.1).lB).Head)
  refine VE (eD b (bE _) call66 (fun hh => nM.nz (BG a.lF (.slice A1 a.lF.lX.length c2) (.slice A3 a.lF.ml.length q) N _ _ hh (t.mono mH.mono g) (u.mono nK.mono g) e2)) ?_ (L0 := []))
  rintro _ h4 f4 f7 b d1 O ⟨h6, a3, rfl, f0⟩
  obtain rfl := a3.symm
  refine Wm (Wx rfl (Wx rfl (VE (mz b dW (fun g1 g9 b => ?_)))))
  obtain ⟨R, c7, rfl⟩ := f0.form
  refine VO (mh (.agg #[(.int .i64 (((c.1).lB).Kind)), (.string (n.lI)), (.string (n.lM)), (.string (((c.1).lB).mS)), (.string ((((c.1).lB).B).lI)), (.string ((((c.1).lB).B).lM)), (.string ((((c.1).lB).C).lI)), (.string ((((c.1).lB).C).lM)), (.string (((c.1).lB).mK)), (.slice R ((c.1).Tag).length c7)]) (#[(.int .i64 (((c.1).lB).Kind)), (.string (n.lI)), (.string (n.lM)), (.string (((c.1).lB).mS)), (.string ((((c.1).lB).B).lI)), (.string ((((c.1).lB).B).lM)), (.string ((((c.1).lB).C).lI)), (.string ((((c.1).lB).C).lM)), (.string (((c.1).lB).mK)), (.slice R ((c.1).Tag).length c7)]) b rfl rfl dH oc nb rfl (fun g2 b => Wa (ln ?_)))
  replace b := b.lG (Db (Db St))
  refine sg (Wm (V (oH rfl) (ln (CI j rfl (fun d4 j => ?_) (fun d4 j => ?_)))))
  ·refine sg (Wa (ln ?_))
   replace b := b.lG (Db St)
   refine mB (oh (mQ (oh (mQ ?_))))
   obtain rfl := sj j
   exact rP b
  exact np (mL (lU ⟨d, f4, _, ⟨rfl, m⟩, (g.trans d1), (b.lG St), v, Z, A, (by rw [e6]; exact j)⟩))
 rintro E W ⟨T, a9, ⟨d, m⟩, g, b, v, Z, A, j⟩
 rw [aK] at j
 refine lU (me (sg (Wh v (V (nh aJ rfl H) (Wm (ln (PM j (fun d2 E W => ∃ c5, ST false mX w W T c5) (fun d2 d9 a2 => ?_) ?_)))))))
 ·refine mY (fun i E W => ∃ s, (E 32 = .int .i64 (i : Nat) ∧ E 31 = .int .i64 (Y.length : Nat)) ∧ ST false mX w W T ((o, Ol a0 36) :: s) ∧ E 2 = (.pointer (some ⟨o, 0, none⟩)) ∧ E 30 = U ∧ tR a (Y.drop i) = some d2) Y.length H.len ⟨_, ⟨rfl, rfl⟩, (b.lG St), Z, rfl, d9⟩ dc dc dc (fun _ _ _ h => by obtain ⟨_, l, _⟩ := h; exact l) ?_ ?_
  ·rintro f3 E W d7 ⟨s, ⟨d, m⟩, b, F, L, k⟩
   obtain ⟨Q, f6, e8, e7, e9⟩ := mM d7
   rw [e8] at k
   refine bg (VQ (pg (enc := lD) (i := (f3 : Int)) (x0 := Q) aJ aI L d (H.mono (Pl.mono _) g) (aG _) e7) (fun h2 e1 => V (lK rfl (ms b.has e1 bH aI)) (VE (mz b cM (fun g3 h0 b => VO (mh (.agg (lD Q).toArray) ((lD Q).toArray) b rfl rfl aI (pb Q) nb rfl (fun g4 b => lr (V (lK F (lP b.has (Mt Mh) a0 rfl dU cZ)) (VA b Mh (lD Q) bH aI (bS k fun h3 e3 k => VE (Eg b call19 (E3 a (.slice A1 a.lF.lX.length c2) (.slice A3 a.lF.ml.length q) (.slice A5 a.lQ.length c6) (.slice A7 a.Shown.length c8) (.slice A9 a.mg.length a5) (.slice a4 a.mj.length P) Q _ _ (t.mono mH.mono (g.trans b.lJ)) (u.mono nK.mono (g.trans b.lJ)) (z.mono (Pl.mono _) (g.trans b.lJ)) (J.mono (Pl.mono _) (g.trans b.lJ)) (D.mono (Pl.mono _) (g.trans b.lJ)) (I.mono (Pl.mono _) (g.trans b.lJ)) e3) (fun g7 b => ?_))))))))))))
   refine V (oH rfl) (ln ?_)
   replace b := b.lG (Db St)
   refine CI k rfl (fun d5 k => ?_) (fun d5 k => ?_)
   ·refine sg (Wa (ln ?_))
    replace b := b.lG (Db St)
    refine mB (oh (mQ (oh (mQ ?_))))
    obtain rfl := sj k
    replace a2 : some 44 = some r := a2
    obtain rfl := sj a2
    exact rP b
   exact np (mL (lU ⟨d, _, ⟨rfl, m⟩, (b.lG St), F, L, (by rw [e9]; exact k)⟩))
  rintro E W ⟨s, ⟨d, m⟩, b, F, L, k⟩
  rw [aK] at k
  refine lU ?_
  obtain rfl := sj k
  exact ⟨_, rfl, _, (b.lG (Db St))⟩
 rintro ⟨⟩ E W ⟨c5, b⟩ d8
 exact sg (Wa (lt (rQ d8 b)))
theorem F0 (g : Value) (i r : List Int) (w : World) (a : Sl (Pl (nr .u8)) 1 (hp w) g i) (hm : wi i = some r) :
  nC true Tryz.prog 67 [g] w 5 (nr .u8) 1 r := by
 unfold wi at hm
 refine vV 8 func67 rfl (fun b => sg (Wa (lS (Wm ?_))))
 obtain ⟨y, B, rfl⟩ := a.form
 refine V (Ap cN rfl rfl) (ln ?_)
 rcases y with _ | z
 ·have u := a.isNil
  replace hm : some [] = some r := by rw [u] at hm; simpa [oI, maxLen] using hm
  refine vr (rfl) (sg (Wa (lt (mQ ?_))))
  obtain rfl := sj hm
  exact ng (v := (.slice none 0 0)) rfl rfl ⟨_, [], rfl, b.oA (fun p d => by cases d) (by simp), my.nil _ _ _⟩
 ·refine qi (rfl) (kg (VE (mN (cs := #[]) b sL (Au [] cN sizeOf5 zeroValue5 dc rfl (by simp) rfl rfl) (fun G k b => Wm (bS hm fun H t hm => VE (pf (enc := (nr .u8)) (v := (.slice (some ⟨k, 0, none⟩) 0 0)) (vs := (.slice (some z) i.length B)) (R := [(k, Ob #[] 5)]) b (fun _ => rfl) dc (D8 _) cN rh.1 rh.2.1 rfl rh.2.2.1 rh.2.2.2 rfl rfl (my.lit (l := []) (enc := (nr .u8)) rfl dc rfl rfl) (a.mono (Pl.mono _) b.lJ) t (fun D x j b c => Wa (lt ?_))))))))
  obtain rfl := sj hm
  exact ng (v := x) rfl rfl ⟨_, j, rfl, b.oA (fun p d => (Ml d)) c.nd, c⟩
theorem DT (I : Int) (r : List lB) (w : World) (hm : uA I = some r) :
  nC true Tryz.prog 126 [(.slice none 0 0), (.int .i64 I)] w 52 lD 9 r := by
 refine vV 27 func126 rfl (fun b => sg (Wa (lS (Wm (Wi rfl (ln (CI hm rfl (fun K hm => ?_) (fun K hm => ?_))))))))
 ·cases hm
 refine kn (me (CJ hm (fun u E W => ∃ g c t, ST true mX w W (hp w) (c ++ t) ∧ E 0 = g ∧ my 52 lD 9 g u c) (fun u a => ?_) ?_))
 ·refine sg (Wm (Wm (V (Fm aJ rfl) (Wm (V (ze aJ rfl) (Wi rfl (Wi rfl (Wa (lr (Wm ?_))))))))))
  refine Wi rfl (ln (CI a rfl (fun y a => ?_) (fun y a => ?_)))
  ·refine mc (Wm (Wm (V (Fm aJ rfl) (V (Jn aJ aI rfl rfl) (Wm (bS a fun T B a => VE (Gj (enc := lD) (z := Ty) b nj dc aJ eT oG.1 oG.2.1 oG.2.2.1 oG.2.2.2 rfl rfl rfl B (fun N U H b x => Wm (V (ze aJ rfl) (bS a fun _ j a => VQ (wA (i := 0) aJ aI rfl rfl x nj (tQ j) (tu j)) (fun M G => Wa (ln ?_))))))))))))
   obtain rfl := sj a
   exact ⟨M, H, _, (b.lG St), rfl, G⟩
  refine kn ?_
  obtain rfl := sj a
  exact ⟨(.slice none 0 0), [], _, (b.lG St), rfl, (my.nil _ _ _)⟩
 rintro Q E W ⟨g, c, t, b, J, k⟩ D
 refine sg (Wh J (Wa (lt ?_)))
 obtain rfl := sj D
 exact ng (v := g) rfl rfl ⟨_, c, rfl, b.oA (fun p d => (Ml d)) k.nd, k⟩
theorem FF (t : Value) (z : List (List lB)) (r : List lB) (w : World) (j : Sl (Ep lD 9) 1 (hp w) t z) (hm : tE z = some r) :
  nC true Tryz.prog 68 [t] w 52 lD 9 r := by
 refine vV 36 func68 rfl (fun b => sg (Wa (lr (Wa (lS (Wm ?_))))))
 refine V (nh jy rfl j) (Wm (ln (mY (fun i E W => ∃ u Q, (E 11 = .int .i64 (i : Nat) ∧ E 10 = .int .i64 (z.length : Nat)) ∧ ST true mX w W (hp w) Q ∧ E 0 = t ∧ E 3 = (.int .i64 u) ∧ E 9 = t ∧ qF z (z.drop i) u = some r) z.length j.len ⟨0, _, ⟨rfl, rfl⟩, (b.lG St), rfl, rfl, rfl, hm⟩ dc dc dc (fun _ _ _ h => by obtain ⟨_, _, l, _⟩ := h; exact l) ?_ ?_)))
 ·rintro d1 E W b9 ⟨u, Q, ⟨d, m⟩, b, T, U, Y, a⟩
  obtain ⟨n, e0, c4, c3, c5⟩ := mM b9
  rw [c4] at a
  refine bg (VQ (Fl (enc := lD) (k2 := 9) (i := (d1 : Int)) (x0 := n) jy iA Y d j (aG _) c3) (fun e2 ⟨d3, c0, c2⟩ => V (lK rfl (pp b.has (y := d3) c0 eU)) (Wa (lr (Wh U (Wm (V (nh aJ rfl c2) (Wi rfl (Wa ?_)))))))))
  refine lr (Wm (Wi rfl (ln (CI a rfl (fun b7 a => ?_) (fun b7 a => ?_)))))
  ·cases a
  exact np (mL (lU ⟨d, (IntKind.i64.wrap (u + (n.length : Int))), _, ⟨rfl, m⟩, (b.lG St), T, rfl, Y, (by rw [c5]; exact a)⟩))
 rintro E W ⟨u, Q, ⟨d, m⟩, b, T, U, Y, a⟩
 rw [aK] at a
 refine lU (sg (Wh U (bS a fun d2 c1 a => VE (pF b call126 (DT u _ _  c1) (fun e1 d4 o d0 b a4 q b6 => Wa (lS (Wh T (V (nh jy rfl j) (Wm ?_)))))))))
 refine ln (CJ a (fun K E W => ∃ G x N, ST true mX w W o (x ++ N) ∧ E 6 = G ∧ my 52 lD 9 G K x) (fun K A => ?_) ?_)
 ·refine mY (fun i E W => ∃ k D g H, (E 27 = .int .i64 (i : Nat) ∧ E 26 = .int .i64 (z.length : Nat)) ∧ ST true mX w W o (g ++ H) ∧ E 6 = k ∧ E 25 = t ∧ my 52 lD 9 k D g ∧ qv (z.drop i) D = some K) z.length j.len ⟨d4, d2, d0, _, ⟨rfl, rfl⟩, (b.lG St), rfl, rfl, b6, A⟩ dc dc dc (fun _ _ _ h => by obtain ⟨_, _, _, _, l, _⟩ := h; exact l) ?_ ?_
  ·rintro c6 E W a3 ⟨k, D, g, H, ⟨d, m⟩, b, I, J, B, c⟩
   obtain ⟨c9, d5, O, a9, P⟩ := mM a3
   rw [O] at c
   refine bg (VQ (Fl (enc := lD) (k2 := 9) (i := (c6 : Int)) (x0 := c9) jy iA J d (j.mono (Ep.mono _ _) a4) (aG _) a9) (fun d8 ⟨Z, F, L⟩ => V (lK rfl (pp b.has (y := Z) F eU)) (Wa (ln (mc (Wh I (Wm (bS c fun c7 a2 c => VE (pf (enc := lD) (v := k) (vs := Z) (R := g) b nj dc pb aJ oG.1 oG.2.1 rfl oG.2.2.1 oG.2.2.2 rfl rfl B (L.mono (Pl.mono _) b.lJ) a2 (fun d6 c8 b4 b s => Wa (mD ?_)))))))))))
   exact mL (lU ⟨d, c8, c7, b4, _, ⟨rfl, m⟩, (b.lG St), rfl, J, s, (by rw [P]; exact c)⟩)
  rintro E W ⟨k, D, g, H, ⟨d, m⟩, b, I, J, B, c⟩
  rw [aK] at c
  refine lU ?_
  obtain rfl := sj c
  exact ⟨k, g, _, (b.lG St), I, B⟩
 rintro d7 E W ⟨G, x, N, b, b5, M⟩ a5
 refine sg (Wh b5 (Wa (lt ?_)))
 obtain rfl := sj a5
 exact ng (v := G) rfl rfl ⟨_, x, rfl, b.oA (fun p hq => (Ml hq)) M.nd, M⟩
theorem HU (N : Nat) (D : mW) (c g j x k t b9 : Value) (q : List lB) (r : ((List Signed) × Int × mW)) (w : World) {μ0 : mF} (h0 : po μ0 ((N, Ob #[(.string D.lF.Name), c, g, (.string D.na), (.int .i64 D.Room), j, x, k, t] 36) :: []) w) (G : Sl mx 15 μ0 c D.lF.lX) (H : Sl mV 8 μ0 g D.lF.ml) (Q : Sl (Pl lD) 9 μ0 j D.lQ) (U : Sl (Pl lD) 9 μ0 x D.Shown) (a3 : Sl (Pl lE) 2 μ0 k D.mg) (a8 : Sl (Pl lE) 2 μ0 t D.mj) (e4 : Sl (Pl lD) 9 μ0 b9 q) (hm : xI D q = some r) :
  nM false Tryz.prog 22 [(.pointer (some ⟨N, 0, none⟩)), b9] w μ0 ((N, Ob #[(.string D.lF.Name), c, g, (.string D.na), (.int .i64 D.Room), j, x, k, t] 36) :: []) (fun v L1 μ1 => ∃ y1 y3 y5 y7 y9 k4 k5, v = (.tuple #[y1, (.int .i64 (r.2.1))]) ∧ L1 = ((N, Ob #[(.string (((r.2.2).lF).Name)), y3, y5, (.string ((r.2.2).na)), (.int .i64 ((r.2.2).Room)), y7, y9, k4, k5] 36) :: []) ∧ Sl nV 10 μ1 y1 (r.1) ∧ Sl mx 15 μ1 y3 (((r.2.2).lF).lX) ∧ Sl mV 8 μ1 y5 (((r.2.2).lF).ml) ∧ Sl (Pl lD) 9 μ1 y7 ((r.2.2).lQ) ∧ Sl (Pl lD) 9 μ1 y9 ((r.2.2).Shown) ∧ Sl (Pl lE) 2 μ1 k4 ((r.2.2).mg) ∧ Sl (Pl lE) 2 μ1 k5 ((r.2.2).mj)) := by
 let f1 : Value := (.string D.lF.Name)
 let a0 := (#[f1, c, g, (.string D.na), (.int .i64 D.Room), j, x, k, t] : Array Value)
 let b8 := ((N, Obj.cells a0 36 (0, 0)) :: [])
 refine vA h0 60 func22 rfl (fun d => sg (Wa (Wa (lS (Wm (V (tN lf rfl rfl) (ln (qi rfl ?_))))))))
 refine kS (Wm (Wn (VA d Mh [f1, c, g, (.string D.na), (.int .i64 D.Room), j, x, k, t] dU cZ (Wm (bS hm fun r1 k9 hm => VE (Eg d call65 (JK D c g j x k t b9 q _ _ (G.mono mH.mono d.lJ) (H.mono nK.mono d.lJ) (Q.mono (Pl.mono _) d.lJ) (U.mono (Pl.mono _) d.lJ) (a3.mono (Pl.mono _) d.lJ) (a8.mono (Pl.mono _) d.lJ) (e4.mono (Pl.mono _) d.lJ) k9) (fun W3 d => Wa (ln (me ?_)))))))))
 refine mc (Wm (Wi rfl (ln (CI hm rfl (fun k7 hm => ?_) (fun k7 hm => ?_)))))
 ·refine sg (Wm (Wa (Wa (lt (mQ ?_)))))
  obtain rfl := sj hm
  exact Gh (v := (.slice none 0 0)) (u := (.int .i64 r1)) rfl rfl rfl ⟨_, _, _, rfl, (d.ol (Kb Sn)), (mn.refl _), Lo.refl, (ST.nm d (oK.mem (Kb Sn))), (.slice none 0 0), c, g, j, x, k, t, rfl, rfl, (Sl.nil _ _ _), G, H, Q, U, a3, a8⟩
 refine kg (Wa (lS (Wm (bS hm fun r5 l0 hm => VE (pF d call52 (wC b9 q _ _ (e4.mono (Pl.mono _) d.lJ) l0) (fun W7 k3 ae k2 d T af e3 => V (qb aJ rfl e3) (Wm ?_)))))))
 refine ln (mY (fun i E W => ∃ a9 c7 b2 a2 d8, (E 25 = .int .i64 (i : Nat) ∧ E 24 = .int .i64 (r5.length : Nat)) ∧ mn ae a2 ∧ Lo (keys b8) w ae a2 ∧ ST false (keys b8) w W a2 ((N, Obj.cells a0 36 (0, 0)) :: (b2 ++ (k2 ++ d8))) ∧ E 0 = (.pointer (some ⟨N, 0, none⟩)) ∧ E 1 = b9 ∧ E 7 = a9 ∧ E 23 = k3 ∧ nl 55 nV 10 a2 a9 c7 b2 ∧ rY D q (r5.drop i) c7 = some r) r5.length e3.len ⟨(.slice none 0 0), ([]), [], ae, _, ⟨rfl, rfl⟩, (mn.refl _), Lo.refl, (d.lG (Sb (Pr Pz) St)), rfl, rfl, rfl, rfl, (nl.nil _ _ _ _), hm⟩ dc dc dc (fun _ _ _ h => by obtain ⟨_, _, _, _, _, ag, _⟩ := h; exact ag) ?_ ?_)
 ·rintro h3 E W i7 ⟨a9, c7, b2, a2, d8, ⟨eI, eN⟩, z, n, d, b3, c4, c5, c6, d1, I⟩
  obtain ⟨s, o7, i8, f3, i9⟩ := mM i7
  rw [i8] at I
  refine bg (VQ (pu (i := (h3 : Int)) (x0 := s) aJ aI c6 eI e3 (aG _) f3) (fun n8 f9 => V (lK rfl (rz d.has (fun p hq => (Mt (Ma (Ml hq)))) e3 nj f9 f3 bH aI)) (VE (mz d cM (fun m2 h5 d => VO (mh (.agg (lD s).toArray) ((lD s).toArray) d rfl rfl aI (pb s) nb rfl (fun m3 d => ln (me ?_))))))))
  replace d := d.drew
  have m := d.has.lG (Kb (Kb Sn))
  refine mO m mu (X 0 rfl m (lO b3) (X 1 rfl m (nN rfl) (X 2 rfl m (lN zB rfl) (XH 3 rfl m (fun _ hS => lK rfl (lP hS (Mt Mh) [f1, c, g] rfl gI eX)) (XH 4 rfl m (fun _ hS => lK rfl (lP hS Mh (lD s) rfl bH aI)) (PJ I (fun y E W => ∃ d9 e6 c9 b6 f2, mn a2 b6 ∧ Lo (keys b8) w a2 b6 ∧ ST false (keys b8) w W b6 ((d9, Ob #[(.int .i64 y.2.2.2.1.Kind), (.string y.2.2.2.1.Head.lI), (.string y.2.2.2.1.Head.lM), (.string y.2.2.2.1.mS), (.string y.2.2.2.1.B.lI), (.string y.2.2.2.1.B.lM), (.string y.2.2.2.1.C.lI), (.string y.2.2.2.1.C.lM), (.string y.2.2.2.1.mK), c9] 55) :: ((h5, Ol (lD s) 52) :: ((N, Obj.cells a0 36 (0, 0)) :: (b2 ++ (k2 ++ f2))))) ∧ E 0 = (.pointer (some ⟨N, 0, none⟩)) ∧ E 1 = b9 ∧ E 7 = a9 ∧ E 10 = (.pointer (some ⟨d9, 0, none⟩)) ∧ E 23 = k3 ∧ E 24 = (.int .i64 (r5.length : Int)) ∧ E 25 = (.int .i64 (h3 : Int)) ∧ E 36 = (.agg #[(.int .i64 y.1.Kind), (.string y.1.Head.lI), (.string y.1.Head.lM), (.string y.1.mS), (.string y.1.B.lI), (.string y.1.B.lM), (.string y.1.C.lI), (.string y.1.C.lM), (.string y.1.mK), e6]) ∧ E 37 = (.bool y.2.2.1) ∧ Sl (Pl (nr .u8)) 1 b6 e6 y.2.1 ∧ Sl (Pl (nr .u8)) 1 b6 c9 y.2.2.2.2 ∧ Fr w.heap.size c9) (bm 12 1023) 2 ?_ (fun y a5 d5 => ?_)))))))
  ·rintro ⟨a, c8, o5, o6, n7⟩ E W ⟨d9, e6, c9, b6, f2, b4, A, d, h9, i0, i1, e2, i2, i3, i4, i5, i6, f0, l1, k8⟩ b1
   obtain ⟨d6, e0, rfl⟩ := f0.form
   let d0 := (C3 a.Kind a.Head.lI a.Head.lM a.mS a.B.lI a.B.lM a.C.lI a.C.lM a.mK d6 c8.length e0)
   refine XO 10 rfl (mh (.agg d0.toArray) (d0.toArray) d e2 i5 dH oc nb rfl (fun m4 d => ?_))
   have m := d.has.pC b4 (Db (Kb (Kb Sn)))
   refine ⟨m, (X 11 rfl m (oL i6) (nc kr (lU ?_)))⟩
   replace d := d.lG (Kb (Db St))
   replace d := d.drew
   have m := d.has.lG (Kb Sn)
   refine mO m mu (X 0 rfl m (lO i1) (X 1 rfl m (lN tj e2) (XH 2 rfl m (fun _ hS => lK rfl (lP hS Mh (lD a) rfl bH aI)) (X 3 rfl m (lN En e2) (XH 4 rfl m (fun _ hS => lK rfl (ma hS Mh rfl jv)) (bS b1 fun Z g0 b1 => XE 5 rfl (pF d call67 (nC.nz (F0 (.slice d6 c8.length e0) c8 _ _ (f0.mono (Pl.mono _) d.lJ) g0)) (fun m5 o1 o8 l9 d a4 F e8 => ?_))))))))
   have m := d.has.pC a4 (Dr (Kb Sn))
   refine ⟨m, ?_⟩
   obtain ⟨a6, a7, rfl⟩ := e8.form
   let e7 := (C3 a.Kind a.Head.lI a.Head.lM a.mS a.B.lI a.B.lM a.C.lI a.C.lM a.mK a6 Z.length a7)
   refine X 6 rfl m (nZ (v := (.agg e7.toArray)) (rA rfl rfl) (nB dW fE (Oo _ fE) kr)) ?_
   obtain ⟨j9, d, b5, L, g7⟩ := ST.zp d e8 (fun _ => rfl)
   refine XE 7 rfl (mN (cs := e7.toArray) d (oX rfl) (oR dE dH dW) (fun m6 n6 d => ?_))
   have m := d.has.pC (a4.trans b5) (Db (Kb Sn))
   refine ⟨m, ?_⟩
   replace d := d.perm (Nr (Qb (Qb (Qb Qz))) Nz)
   refine bS b1 fun j0 f8 b1 => XE 8 rfl (xt (B := b2) qw d dc dE Iy.1 Iy.2.1 rfl Iy.2.2.1 Iy.2.2.2 rfl rfl (d1.mono qw ((b4.trans a4).trans b5)) (EG.lit qw (l := [(⟨a, Z⟩ : Signed)]) (.cons (ys := C3 a.Kind a.Head.lI a.Head.lM a.mS a.B.lI a.B.lM a.C.lI a.C.lM a.mK a6 Z.length a7) (nV.mk ⟨(.slice a6 Z.length a7), rfl, g7⟩) .nil) rfl nb (d.at_ (Ma Mh))) f8 (fun m7 j5 h4 d f6 => ?_))
   have m := d.has.pC (a4.trans b5) (Dr (Db (Kb Sn)))
   refine ⟨m, (X 9 rfl m (oL rfl) (nc kr (mL (lU ?_))))⟩
   replace d := d.lG (Kr (Db (Db St)))
   exact ⟨i4, j5, j0, h4, j9, _, ⟨rfl, i3⟩, (((z.trans b4).trans a4).trans b5), (((n.trans A).trans F).trans L), (d.lG (Sb (Pr Pz) St)), h9, i0, rfl, i2, f6, (by rw [i9]; exact b1)⟩
  refine Gt 5 9 rfl rfl kr (.inl rfl) (.inl rfl) rfl rfl dc dc ?_ ?_
  ·refine bS a5 fun n9 g1 a5 => ?_
   refine Ms (args := [(.agg #[f1, c, g]), (.agg (lD s).toArray)]) (caps := #[]) [] _ d (bE _) rfl call66 (by exact xM rfl rfl) (fun hH hN ah ai => nM.nz (BG D.lF c g s _ _ ⟨hH, hN, ah⟩ (G.mono mH.mono (T.trans z)) (H.mono nK.mono (T.trans z)) g1)) (fun m8 o2 k0 l7 d b7 O f4 => ?_)
   obtain ⟨j7, d2, rfl, h1⟩ := f4
   replace d2 := d2.symm; subst d2
   replace d := d.perm Tn
   have m := d.has.pC b7 (Kb (Kb Sn))
   refine ⟨m, (X 6 rfl m (lO rfl) (X 7 rfl m (wG rfl rfl) (X 8 rfl m (wG rfl rfl) (XE 9 rfl (mz d dW (fun m9 h6 d => ?_))))))⟩
   have m := d.has.pC b7 (Db (Kb (Kb Sn)))
   refine ⟨m, ?_⟩
   obtain rfl := sj a5
   refine nE kr (d5 _ _ ⟨h6, j7, (.slice none 0 0), k0, _, b7, O, (d.lG St), b3, c4, c5, rfl, c6, eN, eI, rfl, rfl, h1, (Sl.nil _ _ _), (Fr.nil _)⟩)
  ·refine mz d dW (fun n0 h7 d => ?_)
   have m := d.has.lG (Db (Kb (Kb Sn)))
   refine ⟨m, (bS a5 fun o0 g2 a5 => ?_)⟩
   refine XE 5 rfl (eD d (bE _) call66 (fun hh => nM.nz (BG D.lF c g s _ _ hh (G.mono mH.mono (T.trans z)) (H.mono nK.mono (T.trans z)) g2)) ?_ (L0 := []))
   rintro _ o3 k1 l8 d d4 P ⟨j8, d3, rfl, h2⟩
   obtain rfl := d3.symm
   have m := d.has.pC d4 (Db (Kb (Kb Sn)))
   refine ⟨m, (X 6 rfl m (lO rfl) (X 7 rfl m (wG rfl rfl) (X 8 rfl m (wG rfl rfl) ?_)))⟩
   obtain rfl := sj a5
   refine nE kr (d5 _ _ ⟨h7, j8, (.slice none 0 0), k1, _, d4, P, (d.lG St), b3, c4, c5, rfl, c6, eN, eI, rfl, rfl, h2, (Sl.nil _ _ _), (Fr.nil _)⟩)
 rintro E W ⟨a9, c7, b2, a2, d8, ⟨eI, eN⟩, z, n, d, b3, c4, c5, c6, d1, I⟩
 rw [aK] at I
 refine lU ?_
 replace d := d.lG (Kb (Kr (Dr St)))
 refine sg (Wh b3 (Wh b3 (Wn (Wf BM (VB d Mh rfl rfl eU (Wh c4 ?_))))))
 obtain ⟨c0, c2, rfl⟩ := U.form
 obtain ⟨c1, c3, rfl⟩ := e4.form
 refine VE (mN (cs := #[(.slice c0 D.Shown.length c2), (.slice c1 q.length c3)]) d (rA rfl rfl) (oR jy iA jC) (fun n2 h8 d => bS I fun j3 g3 I => VE (pF d call68 (nC.nz (FF (.slice (some ⟨h8, 0, none⟩) 2 2) ([D.Shown, q]) _ _ (Ep.lit (l := [D.Shown, q]) (vs := [(.slice c0 D.Shown.length c2), (.slice c1 q.length c3)]) rfl nb (d.at_ Mh) (.cons (U.mono (Pl.mono _) ((T.trans z).trans d.lJ)) (.cons (e4.mono (Pl.mono _) ((T.trans z).trans d.lJ)) .nil))) g3)) (fun n3 j6 o9 m0 d J R f7 => bS I fun e5 g4 I => VE (pF d call52 (wC j6 j3 _ _ (f7.sl nj (fun b o hq => d.at_ (Ml hq))) g4) (fun n4 o4 p0 m1 d K aa e9 => Wn (Wf BM ?_)))))))
 obtain ⟨d7, e1, rfl⟩ := e9.form
 let f5 : Value := (.slice d7 e5.length e1)
 replace d := d.perm (Nb (Pr (Pr (Pb Pz))) Nz)
 refine VO (mh f5 (#[f1, c, g, (.string D.na), (.int .i64 D.Room), j, f5, k, t]) d rfl rfl iA oc nb rfl (fun n5 d => ln ?_))
 replace d := d.lG (Kb (Kr (Dr (Db St))))
 refine sg (Wh c5 (Wa (Wa (lt ?_))))
 obtain rfl := sj I
 refine Gh (v := a9) (u := (.int .i64 0)) rfl rfl rfl ?_
 replace d := d.perm (Nr (Qb (Qr Qz)) Nz)
 obtain ⟨p1, d, Y, ab, g8⟩ := ST.zq qw d (d1.mono qw (J.trans K))
 replace d := d.perm (Nr (Qb Qz) Nz)
 obtain ⟨p2, d, M, ad, g9⟩ := ST.zp d e9 nj
 exact ⟨_, _, _, rfl, (d.ol (Kb Sn)), (((((T.trans z).trans J).trans K).trans Y).trans M), (((((af.trans n).trans R).trans aa).trans ab).trans ad), (ST.nm d (oK.mem (Kb Sn))), a9, c, g, j, f5, k, t, rfl, rfl, (g8.mono qw.mono M), (G.mono mH.mono (((((T.trans z).trans J).trans K).trans Y).trans M)), (H.mono nK.mono (((((T.trans z).trans J).trans K).trans Y).trans M)), (Q.mono (Pl.mono _) (((((T.trans z).trans J).trans K).trans Y).trans M)), g9, (a3.mono (Pl.mono _) (((((T.trans z).trans J).trans K).trans Y).trans M)), (a8.mono (Pl.mono _) (((((T.trans z).trans J).trans K).trans Y).trans M))⟩
end Go.Proofs.YtklbhegeiijbjaaGreat
