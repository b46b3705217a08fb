/- a part of a proof of StuckTells -/
import Derived.Test.YtmlncblocfcmiaaGreatS1W1t
set_option linter.all false
namespace Go.Proofs.YtmlncblocfcmiaaGreat
open Go.RowKit
set_option maxRecDepth 10000
open Tryz
theorem vS : ∀ (n : Nat) (i : Nat) (g : Value) (k : List Int) (c : LO) (j : Formula) (a : Value) (r : List Int) (w : World) {z : bW} (D : gj z ((i, Ob #[g] 92) :: (c ++ [])) w) (x : bG 5 (dM .u8) 1 g k c) (t : Sl aD 5 z a j.Kids) (_ : jf n k j = some r),
    dV false Tryz.prog 471 [(.pointer (some ⟨i, 0, none⟩)), (.agg #[(.int .i64 j.Op), (.int .i64 j.K), (.string j.aA.aC), (.string j.aA.aJ), a])] w ((i, Ob #[g] 92) :: (c ++ [])) (fun v B W' => ∃ y u, v = (.tuple #[]) ∧ B = ((i, Ob #[y] 92) :: (u ++ [])) ∧ bG 5 (dM .u8) 1 y r u)
  | 0 => by intros; rename_i h; simp only [jf] at h; cases h
  | n + 1 => xH (jf n) (vS n)
theorem AV (k : Nat) (i : Value) (u : List Int) (c : LO) (a : Formula) (j : Value) (r : (Bool × (List Int))) (w : World) {Q : bW} (Y : gj Q ((k, Ob #[i] 92) :: (c ++ [])) w) (t : bG 5 (dM .u8) 1 i u c) (g : Sl aD 5 Q j a.Kids) (hm : pK u a = some r) :
    dV false Tryz.prog 469 [(.pointer (some ⟨k, 0, none⟩)), (.agg #[(.int .i64 a.Op), (.int .i64 a.K), (.string a.aA.aC), (.string a.aA.aJ), j])] w ((k, Ob #[i] 92) :: (c ++ [])) (fun v U W' => ∃ M I, v = (.bool (r.1)) ∧ U = ((k, Ob #[M] 92) :: (I ++ [])) ∧ bG 5 (dM .u8) 1 M r.2 I) := by
  refine uY Y 15 func469 rfl (fun b => sg ?_)
  obtain ⟨y, z, rfl⟩ := g.form
  let B := (C1 a.Op a.K a.aA.aC a.aA.aJ y a.Kids.length z)
  refine VE (bX b rfl (fun W4 n b => Wa (lS (Wm (V (qv underlying90 rfl rfl) (Wm (Vg rfl rfl (aH rfl (aK b.has Mh B rfl isAgg113 sizeOf113)) (bS hm fun p K hm => HG rfl rfl (Eg b call107 ((pE a (.slice y a.Kids.length z) _ _ (g.mono aN.mono b.aP) K)) (fun W7 b => Vg rfl rfl (gn rfl) (V (aZ rfl rfl) ?_)))))))))))
  refine ln (CI hm rfl (fun J hm => ?_) (fun J hm => ?_))
  · refine sg (Wa (ln ?_))
    replace b := b.aF (Db St)
    refine bH (bU ?_)
    obtain rfl := sj hm
    exact dH (v := (.bool false)) rfl rfl ⟨_, _, rfl, (b.ej (Kb (Kr Sn))), i, c, rfl, rfl, t⟩
  refine kg (Wm (VA b Mh B isAgg113 sizeOf113 (bS hm fun q D hm => ?_)))
  refine VE (eM b (Cb (Pb Pz) (Cr (Qb Qz) Cn)) call471 (fun m h => ((vS bL) k i u c a (.slice y a.Kids.length z) _ _ m t (g.mono aN.mono h) D)) ?_)
  rintro _ a2 a3 Z b T l d ⟨N, H, x, rfl, G⟩
  obtain rfl := x.symm
  replace b := b.perm (Tb (Tr Tn))
  refine ln ?_
  replace b := b.aF (Kb (Kr (Db St)))
  refine sg (Wa (lt ?_))
  obtain rfl := sj hm
  exact dH (v := (.bool true)) rfl rfl ⟨_, _, rfl, (b.ej (Kb (Kr Sn))), N, H, rfl, rfl, G⟩
theorem uq (a : Formula) (g : Value) (r : List Int) (w : World) (c : Sl aD 5 (hp w) g a.Kids) (hm : mH a = some r) :
    dP false Tryz.prog 465 [(.agg #[(.int .i64 a.Op), (.int .i64 a.K), (.string a.aA.aC), (.string a.aA.aJ), g])] w 5 (dM .u8) 1 r := by
  refine ng 11 func465 rfl (fun d => sg ?_)
  obtain ⟨k, t, rfl⟩ := c.form
  refine VE (bX d rfl (fun W4 u d => Wa (lr (V (dJ (v := (.agg #[(.slice none 0 0)])) ju (cN zeroValue92 underlying92 (LB _ underlying92) kr)) (VE (bX d rfl (fun W6 B d => Wa (lr (Wm (VA d (Mt Mh) (C1 a.Op a.K a.aA.aC a.aA.aJ k a.Kids.length t) isAgg113 sizeOf113 ?_))))))))))
  refine bS hm fun K D hm => ?_
  refine VE (eM d (Cb Pz (C0 Cn)) call469 (fun s m => (AV B (.slice none 0 0) ([]) [] a (.slice k a.Kids.length t) _ _ s (bG.nil _ _ _) (c.mono aN.mono m) D)) ?_)
  rintro _ U Y M d I n h ⟨H, N, i, rfl, y⟩
  obtain rfl := i.symm
  replace d := d.perm (Tb (Tr Tn))
  refine ln ?_
  replace d := d.aF (Kb (Kr (Db St)))
  refine sg (Wm (bS hm fun T x hm => VE (jg d call66 (dP.dK (uP B H K.2 _ _ (y.sl (fun _ => rfl) (fun b o l => d.at_ (Mt (Ml l)))) (At.of (d.at_ Mh) _ rfl) x)) (fun Q G Z z d J q j => Wa (ln ?_)))))
  replace d := d.aF (Kr (Db (Dr St)))
  refine bH ?_
  obtain rfl := sj hm
  exact dH (v := G) rfl rfl ⟨_, z, rfl, d.gb (fun p l => (Ml l)) j.nd, j⟩
theorem zH (a : Formula) (j : Value) (c : Formula) (k : Value) (r : Int) (w : World) (g : Sl aD 5 (hp w) j a.Kids) (i : Sl aD 5 (hp w) k c.Kids) (hm : mG a c = some r) :
    bF false Tryz.prog 458 [(.agg #[(.int .i64 a.Op), (.int .i64 a.K), (.string a.aA.aC), (.string a.aA.aJ), j]), (.agg #[(.int .i64 c.Op), (.int .i64 c.K), (.string c.aA.aC), (.string c.aA.aJ), k])] w (.int .i64 r) := by
  refine cG 10 func458 rfl (fun d => sg ?_)
  obtain ⟨x, z, rfl⟩ := g.form
  refine VE (bX d rfl (fun W4 q d => ?_))
  obtain ⟨y, B, rfl⟩ := i.form
  refine VE (bX d rfl (fun W8 s d => Wa (ln (aW ?_))))
  replace d := d.drew
  have h := d.has.aF (Kb (Kb Sn))
  refine cT h cE (XH 0 rfl h (fun _ l => aH rfl (aK l (Mt Mh) (C1 a.Op a.K a.aA.aC a.aA.aJ x a.Kids.length z) rfl isAgg113 sizeOf113)) (XH 2 rfl h (fun _ l => aH rfl (aK l Mh (C1 c.Op c.K c.aA.aC c.aA.aJ y c.Kids.length B) rfl isAgg113 sizeOf113)) (bS hm fun K H hm => XE 1 rfl (jg d call465 ((uq a (.slice x a.Kids.length z) _ _ (g.mono aN.mono d.aP) H)) (fun Y N a4 T d t n D => ?_)))))
  have h := d.has.na t (Dr (Kb (Kb Sn)))
  refine ⟨h, (bS hm fun M I hm => XE 3 rfl (jg d call465 ((uq c (.slice y c.Kids.length B) _ _ (i.mono aN.mono (t.trans d.aP)) I)) (fun Z Q a5 U d u p G => ?_)))⟩
  have h := d.has.na (t.trans u) (Dr (Dr (Kb (Kb Sn))))
  refine ⟨h, (bS hm fun a3 J hm => XE 4 rfl (Eg d call323 (bF.dK (vE N K Q M _ _ (D.sl (fun _ => rfl) (fun b o m => d.at_ (Ma (Ml m)))) (G.sl (fun _ => rfl) (fun b o m => d.at_ (Ml m))) J)) (fun a2 d => ?_)))⟩
  have h := d.has.na (t.trans u) (Dr (Dr (Kb (Kb Sn))))
  refine ⟨h, (X 5 rfl h (fW rfl) (dG kr (aR ?_)))⟩
  exact bH (rQ hm d)
theorem wA (g : Value) (k r : List Formula) (w : World) {G : bW} (Y : gj G [] w) (u : Sl aD 5 G g k) (hm : ol k = some r) :
    dR false Tryz.prog 436 [g] w G [] (fun v U μ1 => ∃ T I, v = T ∧ U = (I ++ []) ∧ cL 113 aD 5 μ1 T r I) := by
  refine nm Y 9 func436 rfl (fun b => sg (Wa (lr (Wm (bS hm fun Z Q hm => ?_)))))
  refine VE (eD b (List.Perm.refl _) call456 (fun h => dR.dK (vU g k _ _ h (u.mono aN.mono (bO.refl _)) Q)) ?_ (L0 := []))
  rintro _ v7 s L9 b y l ⟨i, H, a, rfl, B⟩
  obtain rfl := a.symm
  replace b := b.perm (Tr Tn)
  refine Wa (lr (Wm (bS hm fun a5 z hm => ?_)))
  refine VE (eD b (Cr Qz Cn) call457 (fun h => (rR i Z H (.func (.func 458) #[] #[]) (fun (x : (Formula × Formula)) => mG x.1 x.2) _ _ h B ⟨458, #[], #[], rfl, call458, fun W x vs r E m hm => by obtain ⟨_, _, rfl, M, N⟩ := m; obtain ⟨q, rfl, p⟩ := M.out; obtain ⟨t0, rfl, n⟩ := N.out; exact zH x.1 q x.2 t0 r W p n hm⟩ z)) ?_)
  rintro _ t A a3 b j d ⟨J, c, rfl, D⟩
  obtain rfl := c.symm
  replace b := b.perm (Tr Tn)
  refine lr (Wm (Wa (lt ?_)))
  obtain rfl := sj hm
  exact dH (v := i) rfl rfl ⟨_, _, _, rfl, (b.ej (Kr Sn)), (y.trans j), (l.trans d), (ST.cJ b (eE.mem (Kr Sn))), i, J, rfl, rfl, D⟩
theorem sW (g : Value) (a0 : List Formula) (x : LO) (Z : Value) (f1 : ((Formula × Formula)) → Option Bool) (r : List Formula) (w : World) {μ0 : bW} (h0 : gj μ0 (x ++ []) w) (B : cL 113 aD 5 μ0 g a0 x) (d2 : qP Tryz.prog Z μ0 (oO aD aD) (fun (r : Bool) => (.bool r)) f1) (hm : iV a0 f1 = some r) :
    dR false Tryz.prog 439 [g, Z] w μ0 (x ++ []) (fun v L1 μ1 => ∃ y1, v = y1 ∧ L1 = [] ∧ Sl aD 5 μ1 y1 (r)) := by
  refine nm h0 66 func439 rfl (fun d => sg (Wa (lS (Wm (V (lN underlying111 rfl B) (Wi rfl (ln (CI hm rfl (fun i3 hm => ?_) (fun i3 hm => ?_)))))))))
  · refine sg (Wm (Wa (lt (bU ?_))))
    obtain rfl := sj hm
    refine dH (v := g) rfl rfl ?_
    obtain ⟨a1, d, i2, A, j0⟩ := ST.ms aN d B
    exact ⟨_, _, _, rfl, (d.ej Sn), i2, A, (ST.cJ d (eE.mem Sn)), g, rfl, rfl, j0⟩
  refine kS (Wa (ln (dN (fB (fun m E W => ∃ t b7, ST false (keys (x ++ [])) w W μ0 (x ++ b7) ∧ E 0 = g ∧ E 1 = Z ∧ E 5 = (.int .i64 t) ∧ fe a0 f1 m t = some r) bL ⟨1, _, (d.aF St), rfl, rfl, rfl, hm⟩ ?_))))
  rintro m E W ⟨t, b7, d, y, a3, G, a⟩
  cases m with
  | zero => rw [fe] at a; cases a
  | succ h1 =>
    refine aW (sg (Wh G (Wh y (V (lN underlying111 rfl B) (Wi rfl (ln (CI a rfl (fun d3 a => ?_) (fun d3 a => ?_))))))))
    · refine kn (aW (dN (aW ?_)))
      replace d := d.drew
      have h := d.has.aF (Kr Sn)
      refine cT h cE (X 0 rfl h (aQ a3) (X 1 rfl h (aQ y) (X 2 rfl h (aQ G) (bS a fun h7 R a => XQ 3 rfl h (cX (i := t) aD.out underlying111 sizeOf113 rfl rfl B (bV R) (bQ R)) (fun k1 ⟨_, ⟨h3, rfl, e7⟩, e0, i4⟩ => XH 4 rfl h (fun _ q => aH rfl (bE (gf.hp _) (e0.mono (ep (fun b o p => q.2 b o (Ml p)))) isAgg113 sizeOf113)) (X 5 rfl h (aQ y) (X 6 rfl h (aQ G) (X 7 rfl h (cF rfl rfl rfl) (bS a fun h8 b3 a => XQ 8 rfl h (cX (i := (IntKind.i64.wrap (t - 1))) aD.out underlying111 sizeOf113 rfl rfl B (bV b3) (bQ b3)) (fun k2 ⟨_, ⟨h4, rfl, e8⟩, e1, i5⟩ => XH 9 rfl h (fun _ q => aH rfl (bE (gf.hp _) (e1.mono (ep (fun b o p => q.2 b o (Ml p)))) isAgg113 sizeOf113)) (bS a fun k7 e5 a => XE 10 rfl (rT ((h7, h8)) d d2 (bO.refl _) (oO.mk aN aN (aD.mk ⟨h3, rfl, e7⟩) (aD.mk ⟨h4, rfl, e8⟩) d.aP) rfl (pC rfl rfl) e5 (fun j6 d => ?_)))))))))))))
      have h := d.has.aF (Kr Sn)
      refine ⟨h, (dG kr (aR (CI a rfl (fun d4 a => ?_) (fun d4 a => ?_))))⟩
      · refine sg (Wh y (Wh G (bS a fun _ F a => VQ (vn (i := t) underlying111 sizeOf113 rfl rfl B (oM F) (oL F)) (fun c4 K => Wa (lS (Wa (ln ?_)))))))
        refine CJ a (fun T E W => ∃ a2 b9, ST false (keys (x ++ [])) w W μ0 (a2 ++ b9) ∧ E 0 = g ∧ E 5 = (.int .i64 T.2) ∧ cL 113 aD 5 μ0 g T.1 a2) (fun T d8 => ?_) ?_
        · refine dN (fB (fun m E W => ∃ a5 J U u c0, ST false (keys (x ++ [])) w W μ0 (J ++ c0) ∧ E 0 = g ∧ E 1 = Z ∧ E 5 = (.int .i64 U) ∧ E 6 = c4 ∧ E 7 = (.int .i64 u) ∧ cL 113 aD 5 μ0 g a5 J ∧ eZ t f1 m a5 U u = some T) bL ⟨a0, x, t, 1, _, (d.aF St), y, a3, G, rfl, rfl, B, d8⟩ ?_)
          rintro m E W ⟨a5, J, U, u, c0, d, N, a4, Q, H, I, k, j⟩
          cases m with
          | zero => rw [eZ] at j; cases j
          | succ h2 =>
            refine aW (sg (Wh I (Wh H (V (Gm underlying111 rfl K k) (Wi rfl (ln (CI j rfl (fun d5 j => ?_) (fun d5 j => ?_))))))))
            · refine kn (aW (CJ j (fun s E W => ∃ M c1, ST false (keys (x ++ [])) w W μ0 (M ++ c1) ∧ E 0 = g ∧ E 1 = Z ∧ E 5 = (.int .i64 s.2) ∧ E 6 = c4 ∧ E 7 = (.int .i64 u) ∧ cL 113 aD 5 μ0 g s.1 M) (fun s c => ?_) ?_))
              · refine dN (aW ?_)
                replace d := d.drew
                have h := d.has.aF (Kr Sn)
                refine cT h cE (X 0 rfl h (aQ a4) (X 1 rfl h (aQ H) (X 2 rfl h (aQ I) (bS c fun i0 b4 c => XQ 3 rfl h (uO (i := u) aD.out underlying111 sizeOf113 rfl rfl k K (bV b4) (bQ b4)) (fun k3 ⟨_, ⟨h5, rfl, f4⟩, e2, i6⟩ => XH 4 rfl h (fun _ q => aH rfl (bE (gf.hp _) (e2.mono (ep (fun b o p => q.2 b o (Ml p)))) isAgg113 sizeOf113)) (X 5 rfl h (aQ H) (X 6 rfl h (aQ I) (X 7 rfl h (cF rfl rfl rfl) (bS c fun i1 b5 c => XQ 8 rfl h (uO (i := (IntKind.i64.wrap (u - 1))) aD.out underlying111 sizeOf113 rfl rfl k K (bV b5) (bQ b5)) (fun k4 ⟨_, ⟨h6, rfl, f5⟩, e3, i7⟩ => XH 9 rfl h (fun _ q => aH rfl (bE (gf.hp _) (e3.mono (ep (fun b o p => q.2 b o (Ml p)))) isAgg113 sizeOf113)) (bS c fun k8 e6 c => XE 10 rfl (rT ((i0, i1)) d d2 (bO.refl _) (oO.mk aN aN (aD.mk ⟨h5, rfl, f4⟩) (aD.mk ⟨h6, rfl, f5⟩) d.aP) rfl (pC rfl rfl) e6 (fun j8 d => ?_)))))))))))))
                have h := d.has.aF (Kr Sn)
                refine ⟨h, (X 11 rfl h (gn rfl) (dG kr (aR (CI c rfl (fun d6 c => ?_) (fun d6 c => ?_)))))⟩
                · refine sg (Wh N (Wh Q (Wh H (Wh I (bS c fun c7 b6 c => VQ (uO (i := u) aD.out underlying111 sizeOf113 rfl rfl k K (bV b6) (bQ b6)) (fun k5 ⟨_, ⟨l0, rfl, P⟩, e4, i8⟩ => V (aH rfl (bE (gf.hp _) (e4.mono (ep (fun b o p => d.has.2 b o (Ml p)))) isAgg113 sizeOf113)) (bS c fun l2 Y c => VQ (cX (i := U) aD.out underlying111 sizeOf113 rfl rfl k (bV Y) (bQ Y)) (fun k6 ⟨_, ⟨l1, rfl, j3⟩, i9, d7⟩ => ?_))))))))
                  obtain ⟨f7, g0, rfl⟩ := P.form
                  refine VO (ke (x1 := c7) aN d k rfl rfl (aD.mk ⟨(.slice f7 c7.Kids.length g0), rfl, P⟩) d7 (bQ Y) sizeOf113 (fun j9 f8 d d1 => ln (aU (Wh Q (Wi rfl (Wa (bK (bY (aR ?_)))))))))
                  obtain rfl := sj c
                  exact ⟨f8, _, (d.aF St), N, a4, rfl, H, I, d1⟩
                refine cZ (bY (aR ?_))
                obtain rfl := sj c
                exact ⟨J, _, (d.aF St), N, a4, Q, H, I, k⟩
              rintro ⟨g9, h9⟩ E W ⟨M, c1, d, g1, g2, g3, g4, g7, f3⟩ d9
              exact aU (Wh g7 (Wi rfl (Wa (ln ⟨h2, Nat.lt_succ_self _, g9, M, h9, ((IntKind.i64.wrap (u + 1))), _, (d.aF St), g1, g2, g3, g4, rfl, f3, d9⟩))))
            refine fI (fD (fD (kz (aR ?_))))
            obtain rfl := sj j
            exact ⟨J, _, (d.aF St), N, Q, k⟩
        rintro ⟨k0, c6⟩ E W ⟨a2, b9, d, c2, c3, O⟩ D
        refine sg (Wh c2 (Wh c3 (bS D fun _ L D => VQ (vn (i := c6) underlying111 sizeOf113 rfl rfl O (oM L) (oL L)) (fun k9 e9 => VO (zg (z := (⟨0, 0, K0, []⟩ : Formula)) (zs := C4) aN d O (aD.mk ⟨(.slice none 0 0), rfl, (Sl.nil _ _ _)⟩) underlying111 zeroValue113 e9 rfl rfl (fun j7 j5 d d0 => lr (Wh c2 (Wh c3 (bS D fun _ a9 D => VQ (xa (i := c6) underlying111 sizeOf113 rfl rfl d0 (oM a9) (oL a9)) (fun c5 f0 => ?_))))))))))
        refine Wa (lt (eF (bU (bU (eF (bU ?_))))))
        obtain rfl := sj D
        refine dH (v := c5) rfl rfl ?_
        obtain ⟨l3, d, c8, l, f2⟩ := ST.ms aN d f0
        exact ⟨_, _, _, rfl, (d.ej Sn), c8, l, (ST.cJ d (eE.mem Sn)), c5, rfl, rfl, f2⟩
      exact cZ (bY (aR (aU (Wh G (Wi rfl (Wa (ln ⟨h1, Nat.lt_succ_self _, ((IntKind.i64.wrap (t + 1))), _, (d.aF St), y, a3, rfl, a⟩)))))))
    refine fI (fD (fD (kz (aR (sg (Wh y (Wa (lt ?_))))))))
    obtain rfl := sj a
    refine dH (v := g) rfl rfl ?_
    obtain ⟨l4, d, c9, n, f6⟩ := ST.ms aN d B
    exact ⟨_, _, _, rfl, (d.ej Sn), c9, n, (ST.cJ d (eE.mem Sn)), g, rfl, rfl, f6⟩
theorem kd (G : Value) (N : List Formula) (H : Value) (l : List Formula) (I : Value) (f2 : ((Formula × Formula)) → Option Bool) (r : Bool) (w : World) (x : Sl aD 5 (hp w) G N) (Q : Sl aD 5 (hp w) H l) (p : qP Tryz.prog I (hp w) (oO aD aD) (fun (r : Bool) => (.bool r)) f2) (hm : eY N l f2 = some r) :
    bF false Tryz.prog 459 [G, H, I] w (.bool r) := by
  refine cG 32 func459 rfl (fun b => sg (Wa (lS (Wm (V (cU underlying111 rfl x) (Wm (V (cU underlying111 rfl Q) (Wi rfl (bK ?_)))))))))
  refine aR (CI hm rfl (fun s hm => ?_) (fun s hm => ?_))
  · refine sg (Wa (lt (bU ?_)))
    obtain rfl := sj hm
    exact rP b
  refine kS (Wm (V (cU underlying111 rfl x) (Wm (ln (cK (fun i E W => ∃ y, (E 17 = .int .i64 (i : Nat) ∧ E 16 = .int .i64 (N.length : Nat)) ∧ ST false cA w W (hp w) y ∧ E 1 = H ∧ E 2 = I ∧ E 15 = G ∧ dB l f2 (N.drop i) i = some r) N.length x.len ⟨_, ⟨rfl, rfl⟩, (b.aF St), rfl, rfl, rfl, hm⟩ dc dc dc (fun _ _ _ h => by obtain ⟨_, m, _⟩ := h; exact m) ?_ ?_)))))
  · rintro a4 E W U ⟨y, ⟨d, n⟩, b, z, B, D, a⟩
    obtain ⟨g, c5, a9, q, a3⟩ := cC U
    rw [a9] at a
    refine bg (Wh d (VQ (ei (i := (a4 : Int)) (x0 := g) aD.out underlying111 sizeOf113 D d x (Int.natCast_nonneg _) q) (fun b9 ⟨_, ⟨c2, rfl, J⟩, Y⟩ => V (aH rfl (bE b.has Y isAgg113 sizeOf113)) (VE (bR b zeroValue113 (fun v P b => Wa ?_))))))
    obtain ⟨j, t, rfl⟩ := J.form
    let a0 := (C1 g.Op g.K g.aA.aC g.aA.aJ j g.Kids.length t)
    refine VO (aX (.agg a0.toArray) (a0.toArray) b rfl rfl sizeOf113 oc nb rfl (fun A b => lr (Wh z (Wm (bS a fun c M a => VQ (ei (i := (a4 : Int)) (x0 := c) aD.out underlying111 sizeOf113 rfl rfl Q (bV M) (bQ M)) (fun c0 ⟨_, ⟨c3, rfl, K⟩, Z⟩ => V (aH rfl (bE b.has Z isAgg113 sizeOf113)) (VE (bR b zeroValue113 (fun F R b => ?_)))))))))
    obtain ⟨k, u, rfl⟩ := K.form
    let a5 := (C1 c.Op c.K c.aA.aC c.aA.aJ k c.Kids.length u)
    refine VO (aX (.agg a5.toArray) (a5.toArray) b rfl rfl sizeOf113 oc nb rfl (fun L b => lr (Wh B (VA b (Mt Mh) a0 isAgg113 sizeOf113 (VA b Mh a5 isAgg113 sizeOf113 (bS a fun c1 a2 a => VE (rT ((g, c)) b p (bO.refl _) (oO.mk aN aN (aD.mk ⟨(.slice j g.Kids.length t), rfl, J⟩) (aD.mk ⟨(.slice k c.Kids.length u), rfl, K⟩) b.aP) rfl (pC rfl rfl) a2 (fun O b => V (gn rfl) (ln ?_)))))))))
    replace b := b.aF (Db (Db St))
    refine CI a rfl (fun T a => ?_) (fun T a => ?_)
    · refine sg (Wa (lt (eF (bU (eF (bU ?_))))))
      obtain rfl := sj a
      exact rP b
    exact cZ (bY (aR ⟨d, _, ⟨rfl, n⟩, (b.aF St), z, B, D, (by rw [a3]; exact a)⟩))
  rintro E W ⟨y, ⟨d, n⟩, b, z, B, D, a⟩
  rw [List.drop_length] at a
  exact aR (sg (Wa (lt (rQ a b))))
theorem xW (M : Formula → Formula → Option Bool) (v : ∀ (a : Formula) (j : Value) (c : Formula) (k : Value) (r : Bool) (w : World) (u : Sl aD 5 (hp w) j a.Kids) (y : Sl aD 5 (hp w) k c.Kids), M a c = some r → bF false Tryz.prog 440 [(.agg #[(.int .i64 a.Op), (.int .i64 a.K), (.string a.aA.aC), (.string a.aA.aJ), j]), (.agg #[(.int .i64 c.Op), (.int .i64 c.K), (.string c.aA.aC), (.string c.aA.aJ), k])] w (.bool r)) (a : Formula) (j : Value) (c : Formula) (k : Value) (r : Bool) (w : World) (u : Sl aD 5 (hp w) j a.Kids) (y : Sl aD 5 (hp w) k c.Kids) (hm : pB M a c = some r) :
    bF false Tryz.prog 440 [(.agg #[(.int .i64 a.Op), (.int .i64 a.K), (.string a.aA.aC), (.string a.aA.aJ), j]), (.agg #[(.int .i64 c.Op), (.int .i64 c.K), (.string c.aA.aC), (.string c.aA.aJ), k])] w (.bool r) := by
  refine cG 31 func440 rfl (fun b => sg ?_)
  obtain ⟨N, Y, rfl⟩ := u.form
  let d := (C1 a.Op a.K a.aA.aC a.aA.aJ N a.Kids.length Y)
  refine VE (bX b rfl (fun W4 T b => ?_))
  obtain ⟨Q, Z, rfl⟩ := y.form
  let a0 := (C1 c.Op c.K c.aA.aC c.aA.aJ Q c.Kids.length Z)
  refine VE (bX b rfl (fun W8 U b => Wa (lr (Wf fq (VB b (Mt Mh) rfl rfl isAgg3 (Wf fq (VB b Mh rfl rfl isAgg3 (Wi rfl (Wm (LJ hm (fun a9 E W => ∃ a2, ST false cA w W (hp w) ((U, Ol a0 113) :: ((T, Ol d 113) :: a2)) ∧ E 2 = (.pointer (some ⟨T, 0, none⟩)) ∧ E 3 = (.pointer (some ⟨U, 0, none⟩)) ∧ E 4 = (.bool false) ∧ E 16 = (.bool a9)) 6 ?_ (fun a9 D I => ?_)))))))))))
  · rintro d1 E W ⟨a2, b, J, K, a5, A⟩ n
    refine Wh A (LJ n (fun m E W => ∃ a3, ST false cA w W (hp w) ((U, Ol a0 113) :: ((T, Ol d 113) :: a3)) ∧ E 2 = (.pointer (some ⟨T, 0, none⟩)) ∧ E 3 = (.pointer (some ⟨U, 0, none⟩)) ∧ E 4 = (.bool false) ∧ E 23 = (.bool m)) 6 ?_ (fun m B H => ?_))
    · rintro d2 E W ⟨a3, b, F, L, h, c1⟩ p
      refine Wh c1 (LJ p (fun l E W => ∃ a4, ST false cA w W (hp w) a4 ∧ E 4 = (.bool false) ∧ E 30 = (.bool l)) 6 ?_ (fun l z G => ?_))
      · rintro d3 E W ⟨a4, b, c9, O⟩ q
        exact Wg O (lt (rQ q b))
      refine bC z (fun i z => ?_) (fun i z => ?_)
      · refine ug i (aO fu F) (ug i (aH rfl (bA b.has (Mt Mh) rfl isAgg111)) (ug i (aO fu L) (ug i (aH rfl (bA b.has Mh rfl isAgg111)) (bS z fun d0 s z => kf i (Eg b call459 ((kd (.slice N a.Kids.length Y) a.Kids (.slice Q c.Kids.length Z) c.Kids (.func (.func 440) #[] #[]) (fun (x : (Formula × Formula)) => M x.1 x.2) _ _ (u.mono aN.mono b.aP) (y.mono aN.mono b.aP) ⟨440, #[], #[], rfl, call440, fun W x vs r hs hR hm => by obtain ⟨_, _, rfl, P, R⟩ := hR; obtain ⟨u0, rfl, k0⟩ := P.out; obtain ⟨t0, rfl, j0⟩ := R.out; exact v x.1 u0 x.2 t0 r W k0 j0 hm⟩ s)) (fun c8 b => V (aY (cB i) rfl) ?_))))))
        obtain rfl := sj z
        exact G _ _ ⟨_, (b.aF (Db (Db St))), h, rfl⟩
      refine un i (un i (un i (un i (un i (V (aZ (cB i) rfl) ?_)))))
      obtain rfl := sj z
      exact G _ _ ⟨_, (b.aF (Db (Db St))), h, rfl⟩
    refine bC B (fun g B => ?_) (fun g B => ?_)
    · refine ug g (aO kU J) (ug g (aH rfl (aK b.has (Mt Mh) (aM a.aA) rfl isAgg28 sizeOf28)) (ug g (aO kU K) (ug g (aH rfl (aK b.has Mh (aM c.aA) rfl isAgg28 sizeOf28)) (ug g (oa rfl rfl (fS eqGuardType28) (kC (jc _ a.aA c.aA))) (V (aY (cB g) rfl) ?_)))))
      obtain rfl := sj B
      exact H _ _ ⟨_, (b.aF St), J, K, a5, rfl⟩
    refine un g (un g (un g (un g (un g (V (aZ (cB g) rfl) ?_)))))
    obtain rfl := sj B
    exact H _ _ ⟨_, (b.aF St), J, K, a5, rfl⟩
  refine bC D (fun t D => ?_) (fun t D => ?_)
  · refine ug t (aO jm rfl) (ug t (aH rfl (bA b.has (Mt Mh) rfl isAgg3)) (ug t (aO jm rfl) (ug t (aH rfl (bA b.has Mh rfl isAgg3)) (ug t (cF rfl rfl rfl) (V (aY (cB t) rfl) ?_)))))
    obtain rfl := sj D
    exact I _ _ ⟨_, (b.aF St), rfl, rfl, rfl, rfl⟩
  refine un t (un t (un t (un t (un t (V (aZ (cB t) rfl) ?_)))))
  obtain rfl := sj D
  exact I _ _ ⟨_, (b.aF St), rfl, rfl, rfl, rfl⟩
theorem wC : ∀ (n : Nat) (g : Formula) (a : Value) (i : Formula) (c : Value) (r : Bool) (w : World) (j : Sl aD 5 (hp w) a g.Kids) (k : Sl aD 5 (hp w) c i.Kids) (_ : gF n g i = some r),
    bF false Tryz.prog 440 [(.agg #[(.int .i64 g.Op), (.int .i64 g.K), (.string g.aA.aC), (.string g.aA.aJ), a]), (.agg #[(.int .i64 i.Op), (.int .i64 i.K), (.string i.aA.aC), (.string i.aA.aJ), c])] w (.bool r)
  | 0 => by intros; rename_i h; simp only [gF] at h; cases h
  | n + 1 => xW (gF n) (wC n)
theorem mY (j : Nat) (a0 : cM) (c : Int) (K : Value) (a2 : List Formula) (r : (Formula × cM)) (w : World) {μ0 : bW} (h0 : gj μ0 ((j, Ol (dT a0) 376) :: []) w) (b5 : Sl aD 5 μ0 K a2) (hm : gH a0 c a2 = some r) :
    dR false Tryz.prog 407 [(.pointer (some ⟨j, 0, none⟩)), (.int .i64 c), K] w μ0 ((j, Ol (dT a0) 376) :: []) (fun v L1 μ1 => ∃ y1, v = (.agg #[(.int .i64 ((r.1).Op)), (.int .i64 ((r.1).K)), (.string (((r.1).aA).aC)), (.string (((r.1).aA).aJ)), y1]) ∧ L1 = ((j, Ol (dT (r.2)) 376) :: []) ∧ Sl aD 5 μ1 y1 ((r.1).Kids)) := by
  refine nm h0 37 func407 rfl (fun b => sg (VE (bR b zeroValue113 (fun W2 P b => lr (Wm (Wi rfl (VE (bR b zeroValue3 (fun W4 q b => VO (aX (.int .i64 ((IntKind.i64.wrap (5 - c)))) (#[(.int .i64 ((IntKind.i64.wrap (5 - c))))]) b rfl rfl sizeOf3 (Aw _ ((IntKind.i64.wrap (5 - c)))) nb rfl (fun W5 b => ln (aW ?_))))))))))))
  let a4 := ((IntKind.i64.wrap (5 - c)))
  let a9 : Value := (.agg (BA a4).toArray)
  refine aU (Wm (Wm (bS hm fun r6 d1 hm => ?_)))
  refine VE (eD b (List.Perm.refl _) call437 (fun n => dR.dK (DA c K a2 _ _ n (b5.mono aN.mono (bO.refl _)) d1)) ?_ (L0 := []))
  rintro _ f4 aa e2 b B d ⟨O, H, rfl, a3⟩
  obtain rfl := H.symm
  refine Wa (lS (Wm (V (lF (by exact nK rfl) rfl) (bS hm fun f3 c1 hm => VE (Eg b call310 ((nZ O r6 (.func (.func 438) #[] #[(.pointer (some ⟨q, 0, none⟩))]) (fun (x : Formula) => jX x a4) _ _ (a3.mono aN.mono b.aP) ⟨438, #[], #[(.pointer (some ⟨q, 0, none⟩))], rfl, call438, fun W x vs r R s hm => by obtain ⟨_, rfl, U⟩ := s; obtain ⟨F, rfl, A⟩ := U.out; exact (uz x F q a4 r W A (At.of (R _ _ (b.at_ Mh)) _ rfl) hm).dK⟩ c1)) (fun e5 b => ln (CI hm rfl (fun b6 hm => ?_) (fun b6 hm => ?_))))))))
  · refine sg (VB b Mh rfl rfl isAgg3 (V (dJ (v := a9) (dZ rfl) (cN zeroValue113 underlying113 (jZ _ underlying113) kr)) ?_))
    replace b := b.perm (Nb (Pb Pz) Nz)
    refine VO (aX a9 ((BA a4).toArray) b rfl rfl sizeOf113 oc nb rfl (fun e6 b => ln ?_))
    replace b := b.aF (Kb (Db St))
    refine bH (bU ?_)
    obtain rfl := sj hm
    exact fA (v := a9) rfl rfl (aK b.has Mh (BA a4) rfl isAgg113 sizeOf113) ⟨_, _, _, rfl, (b.ej (Db (Kb Sn))), B, d, (ST.cJ b (eE.mem (Db (Kb Sn)))), (.slice none 0 0), rfl, rfl, (Sl.nil _ _ _)⟩
  refine kn ?_
  replace b := b.aF (Db St)
  refine sg (Wm (bS hm fun d2 c2 hm => ?_))
  refine VE (eD b (List.Perm.refl _) call436 (fun n => (wA O r6 _ _ n (a3.mono aN.mono (bO.refl _)) c2)) ?_ (L0 := []))
  rintro _ f5 f9 e3 b N h ⟨d5, c7, I, rfl, c4⟩
  obtain rfl := I.symm
  replace b := b.perm (Tr Tn)
  refine bS hm fun z c3 hm => ?_
  refine VE (eD b (Cr Qz Cn) call439 (fun n => (sW d5 d2 c7 (.func (.func 440) #[] #[]) (fun (x : (Formula × Formula)) => gF bL x.1 x.2) _ _ n c4 ⟨440, #[], #[], rfl, call440, fun W x vs r R s hm => by obtain ⟨_, _, rfl, U, d0⟩ := s; obtain ⟨F, rfl, A⟩ := U.out; obtain ⟨t0, rfl, j0⟩ := d0.out; exact (wC bL) x.1 F x.2 t0 r W A j0 hm⟩ c3)) ?_)
  rintro _ f6 d7 e4 b Q l ⟨d6, J, rfl, y⟩
  obtain rfl := J.symm
  refine Wa (ln (aW (CJ hm (fun L E W => ∃ a5, ST false (keys ((j, Ol (dT a0) 376) :: [])) w W d7 ((P, Ol C4 113) :: ((j, Ol (dT L) 376) :: a5)) ∧ E 1 = (.int .i64 c) ∧ E 6 = (.pointer (some ⟨P, 0, none⟩)) ∧ E 8 = d6) (fun L u => ?_) ?_)))
  · refine sg (Wm (V (cU underlying111 rfl y) (Wi rfl (ln (CI u rfl (fun b9 u => ?_) (fun b9 u => ?_))))))
    · refine aU (Wm (Wn (Wf Fz ?_)))
      replace b := b.perm (Nb (Pb Pz) Nz)
      refine VO (aX (.int .i64 12) ((dT ((⟨12⟩ : cM))).toArray) b rfl rfl sizeOf57 (Aw _ 12) nb rfl (fun f1 b => ln ?_))
      obtain rfl := sj u
      exact ⟨_, (b.aF (Sb (Pb Pz) St)), rfl, rfl, rfl⟩
    refine kn ?_
    obtain rfl := sj u
    exact ⟨_, (b.aF St), rfl, rfl, rfl⟩
  rintro f8 E W ⟨a5, b, c9, M, T⟩ g
  refine aW (sg (Wh T (V (cU underlying111 rfl y) (Wi rfl (ln (CI g rfl (fun b7 g => ?_) (fun b7 g => ?_)))))))
  · refine sg (Wh T (bS g fun a Z g => VQ (ei (i := 0) (x0 := a) aD.out underlying111 sizeOf113 rfl rfl y (bV Z) (bQ Z)) (fun f2 ⟨_, ⟨f7, rfl, Y⟩, c0⟩ => V (aH rfl (bE b.has c0 isAgg113 sizeOf113)) ?_)))
    obtain ⟨D, G, rfl⟩ := Y.form
    let p := (C1 a.Op a.K a.aA.aC a.aA.aJ D a.Kids.length G)
    refine VO (aX (.agg p.toArray) (p.toArray) b M rfl sizeOf113 oc nb rfl (fun e9 b => lt (bU ?_)))
    obtain rfl := sj g
    exact fA (v := (.agg p.toArray)) rfl M (aK b.has Mh p rfl isAgg113 sizeOf113) ⟨_, _, _, rfl, (b.ej (Db (Kb Sn))), ((B.trans N).trans Q), ((d.trans h).trans l), (ST.cJ b (eE.mem (Db (Kb Sn)))), (.slice D a.Kids.length G), rfl, rfl, Y⟩
  refine kg (Wh c9 (Wh T ?_))
  obtain ⟨k, t, rfl⟩ := y.form
  let m := (Mw c k z.length t)
  refine V (dJ (v := (.agg m.toArray)) (gK rfl rfl) (cN zeroValue113 underlying113 (jZ _ underlying113) kr)) (VO (aX (.agg m.toArray) (m.toArray) b M rfl sizeOf113 oc nb rfl (fun f0 b => lt ?_)))
  obtain rfl := sj g
  exact fA (v := (.agg m.toArray)) rfl M (aK b.has Mh m rfl isAgg113 sizeOf113) ⟨_, _, _, rfl, (b.ej (Db (Kb Sn))), ((B.trans N).trans Q), ((d.trans h).trans l), (ST.cJ b (eE.mem (Db (Kb Sn)))), (.slice k z.length t), rfl, rfl, y⟩
theorem uD (G : Nat) (a0 : cM) (a1 : Int) (c2 : Value) (a2 : List Formula) (r : (Formula × cM)) (w : World) {μ0 : bW} (h0 : gj μ0 ((G, Ol (dT a0) 376) :: []) w) (c1 : Sl aD 5 μ0 c2 a2) (hm : jY a0 a1 a2 = some r) :
    dR false Tryz.prog 406 [(.pointer (some ⟨G, 0, none⟩)), (.int .i64 a1), c2] w μ0 ((G, Ol (dT a0) 376) :: []) (fun v L1 μ1 => ∃ y1, v = (.agg #[(.int .i64 ((r.1).Op)), (.int .i64 ((r.1).K)), (.string (((r.1).aA).aC)), (.string (((r.1).aA).aJ)), y1]) ∧ L1 = ((G, Ol (dT (r.2)) 376) :: []) ∧ Sl aD 5 μ1 y1 ((r.1).Kids)) := by
  let j6 := ((dT a0).toArray : Array Value)
  refine nm h0 58 func406 rfl (fun b => sg (VE (bR b zeroValue113 (fun W2 b1 b => lr (Wa (lS (Wm ?_)))))))
  refine V (cU underlying111 rfl c1) (Wm (ln (cK (fun i E W => ∃ x K J N c0, (E 12 = .int .i64 (i : Nat) ∧ E 11 = .int .i64 (a2.length : Nat)) ∧ ST false (keys ((G, Obj.cells j6 376 (0, 0)) :: [])) w W μ0 ((b1, Ol C4 113) :: ((G, Obj.cells j6 376 (0, 0)) :: (N ++ c0))) ∧ E 0 = (.pointer (some ⟨G, 0, none⟩)) ∧ E 1 = (.int .i64 x) ∧ E 6 = (.pointer (some ⟨b1, 0, none⟩)) ∧ E 7 = K ∧ E 10 = c2 ∧ cL 113 aD 5 μ0 K J N ∧ eW a0 (a2.drop i) x J = some r) a2.length c1.len ⟨a1, (.slice none 0 0), ([]), [], _, ⟨rfl, rfl⟩, (b.aF St), rfl, rfl, rfl, rfl, rfl, (cL.nil _ _ _ _), hm⟩ dc dc dc (fun _ _ _ h => by obtain ⟨_, _, _, _, _, aa, _⟩ := h; exact aa) ?_ ?_)))
  · rintro h2 E W f2 ⟨x, K, J, N, c0, ⟨R, eN⟩, b, U, H, u, I, P, D, a⟩
    obtain ⟨c, h8, g8, g7, b7⟩ := cC f2
    rw [g8] at a
    refine bg (VQ (ei (i := (h2 : Int)) (x0 := c) aD.out underlying111 sizeOf113 P R c1 (Int.natCast_nonneg _) g7) (fun k7 ⟨_, ⟨l0, rfl, Y⟩, f3⟩ => V (aH rfl (bE b.has f3 isAgg113 sizeOf113)) (VE (bR b zeroValue113 (fun i6 k4 b => ?_)))))
    obtain ⟨y, z, rfl⟩ := Y.form
    let j4 : Value := (.slice y c.Kids.length z)
    let b8 := (C1 c.Op c.K c.aA.aC c.aA.aJ y c.Kids.length z)
    refine VO (aX (.agg b8.toArray) (b8.toArray) b rfl rfl sizeOf113 oc nb rfl (fun i7 b => ln (bg (VA b Mh b8 isAgg113 sizeOf113 (bS a fun k8 f4 a => VE (Eg b call433 (bF.dK (te c j4 2 _ _ (Y.mono aN.mono b.aP) f4)) (fun i8 b => Wa (ln (CI a rfl (fun e5 a => ?_) (fun e5 a => ?_))))))))))
    · refine aU (Wh H (Wi rfl (Wa (bK (bY (bY (aR ?_)))))))
      replace b := b.aF (Db St)
      exact ⟨R, ((IntKind.i64.wrap (x - 1))), K, J, N, _, ⟨rfl, eN⟩, (b.aF St), U, rfl, u, I, P, D, (by rw [b7]; exact a)⟩
    refine sg (VA b Mh b8 isAgg113 sizeOf113 (bS a fun k9 f5 a => VE (Eg b call433 (bF.dK (te c j4 3 _ _ (Y.mono aN.mono b.aP) f5)) (fun i9 b => V (gn rfl) (Wa (ln (CI a rfl (fun e6 a => ?_) (fun e6 a => ?_))))))))
    · refine aU (Wh I (VA b Mh b8 isAgg113 sizeOf113 (VE (bJ (cs := b8.toArray) b (dZ rfl) (ew underlying111 sizeOf113 zeroValue113) (fun j0 k5 b => ?_)))))
      replace b := b.perm (Nr (Qb (Qb (Qb (Qb Qz)))) Nz)
      refine bS a fun h3 e7 a => VE (iP (B := N) aN b dc underlying111 dI.1 dI.2.1 rfl dI.2.2.1 dI.2.2.2 rfl rfl D (qE.lit aN (l := [c]) (.cons (ys := C1 c.Op c.K c.aA.aC c.aA.aJ y c.Kids.length z) (aD.mk ⟨j4, rfl, Y⟩) .nil) rfl nb (b.at_ (Ma Mh))) e7 (fun j3 h4 g9 b e4 => Wa (bK (bY (bY (aR ?_))))))
      replace b := b.aF (Kr (Db (Db St)))
      exact ⟨R, x, h4, h3, g9, _, ⟨rfl, eN⟩, (b.aF (Sb (Pr Pz) (Sb (Pr Pz) St))), U, H, u, rfl, P, e4, (by rw [b7]; exact a)⟩
    refine cZ (bY (bY (aR ?_)))
    replace b := b.aF (Db St)
    exact ⟨R, x, K, J, N, _, ⟨rfl, eN⟩, (b.aF St), U, H, u, I, P, D, (by rw [b7]; exact a)⟩
  rintro E W ⟨x, K, J, N, c0, ⟨R, eN⟩, b, U, H, u, I, P, D, a⟩
  rw [List.drop_length] at a
  refine aR (aW (bg (Wh H (Wi rfl (Wa (ln (CI a rfl (fun e8 a => ?_) (fun e8 a => ?_))))))))
  · refine sg (bS a fun g f6 a => ?_)
    let j1 : Value := (.string (((g).aA).aJ))
    let h7 : Value := (.string (((g).aA).aC))
    refine VE (eD b (List.Perm.refl _) call434 (fun d => dR.dK (Bn  _ _ d  f6)) ?_ (L0 := []))
    rintro _ l1 m2 i0 b c9 m ⟨l6, b2, rfl, c3⟩
    obtain rfl := b2.symm
    obtain ⟨Z, a6, rfl⟩ := c3.form
    let e3 : Value := (.slice Z ((g).Kids).length a6)
    let d9 : Value := (.agg #[(.int .i64 ((g).Op)), (.int .i64 ((g).K)), h7, j1, e3])
    refine VO (aX d9 (#[(.int .i64 ((g).Op)), (.int .i64 ((g).K)), h7, j1, e3]) b u rfl sizeOf113 oc nb rfl (fun j5 b => ln ?_))
    replace b := b.aF (Kb (Kb (Dr St)))
    refine bH (eF (bU ?_))
    obtain rfl := sj a
    exact fA (v := d9) rfl u (aK b.has Mh [(.int .i64 ((g).Op)), (.int .i64 ((g).K)), h7, j1, e3] rfl isAgg113 sizeOf113) ⟨_, _, _, rfl, (b.ej (Db (Kb Sn))), c9, m, (ST.cJ b (eE.mem (Db (Kb Sn)))), e3, rfl, rfl, c3⟩
  refine sg (Wh H (Wh I (V (lN underlying111 rfl D) (Wi rfl (Wa (ln (CI a rfl (fun e9 a => ?_) (fun e9 a => ?_))))))))
  · refine sg (bS a fun j f7 a => ?_)
    let j2 : Value := (.string (((j).aA).aJ))
    let h9 : Value := (.string (((j).aA).aC))
    refine VE (eD b (List.Perm.refl _) call435 (fun d => dR.dK (Cy  _ _ d  f7)) ?_ (L0 := []))
    rintro _ l2 m3 i1 b d0 n ⟨l7, b3, rfl, c4⟩
    obtain rfl := b3.symm
    obtain ⟨a3, a7, rfl⟩ := c4.form
    let e2 : Value := (.slice a3 ((j).Kids).length a7)
    let d8 : Value := (.agg #[(.int .i64 ((j).Op)), (.int .i64 ((j).K)), h9, j2, e2])
    refine VO (aX d8 (#[(.int .i64 ((j).Op)), (.int .i64 ((j).K)), h9, j2, e2]) b u rfl sizeOf113 oc nb rfl (fun j7 b => ln ?_))
    replace b := b.aF (Kb (Kb (Dr St)))
    refine bH (eF (bU ?_))
    obtain rfl := sj a
    exact fA (v := d8) rfl u (aK b.has Mh [(.int .i64 ((j).Op)), (.int .i64 ((j).K)), h9, j2, e2] rfl isAgg113 sizeOf113) ⟨_, _, _, rfl, (b.ej (Db (Kb Sn))), d0, n, (ST.cJ b (eE.mem (Db (Kb Sn)))), e2, rfl, rfl, c4⟩
  refine sg (Wh H (Wh I (V (lN underlying111 rfl D) (Wi rfl (Wa (ln (CI a rfl (fun f0 a => ?_) (fun f0 a => ?_))))))))
  · refine sg (Wh U (Wh I ?_))
    replace b := b.perm (Nr (Qb (Qb Qz)) Nz)
    obtain ⟨m4, b, d1, p, g1⟩ := ST.ms aN b D
    refine bS a fun k f8 a => ?_
    let h5 : Value := (.string (((k.1).aA).aJ))
    let g6 : Value := (.string (((k.1).aA).aC))
    refine VE (eD b (Cb (Pb Pz) Cn) call407 (fun d => (mY G a0 2 K J _ _ d (g1.mono aN.mono (bO.refl _)) f8)) ?_)
    rintro _ l3 m5 i2 b d2 q ⟨l8, b4, rfl, c5⟩
    obtain rfl := b4.symm
    replace b := b.perm (Tb Tn)
    obtain ⟨a4, a8, rfl⟩ := c5.form
    let e0 : Value := (.slice a4 ((k.1).Kids).length a8)
    let b9 : Value := (.agg #[(.int .i64 ((k.1).Op)), (.int .i64 ((k.1).K)), g6, h5, e0])
    replace b := b.perm (Nb (Pb Pz) Nz)
    refine VO (aX b9 (#[(.int .i64 ((k.1).Op)), (.int .i64 ((k.1).K)), g6, h5, e0]) b u rfl sizeOf113 oc nb rfl (fun j9 b => lt (eF (bU ?_))))
    obtain rfl := sj a
    exact fA (v := b9) rfl u (aK b.has Mh [(.int .i64 ((k.1).Op)), (.int .i64 ((k.1).K)), g6, h5, e0] rfl isAgg113 sizeOf113) ⟨_, _, _, rfl, (b.ej (Db (Kb Sn))), (d1.trans d2), (p.trans q), (ST.cJ b (eE.mem (Db (Kb Sn)))), e0, rfl, rfl, c5⟩
  refine sg (Wh H (Wi rfl (Wa (ln (CI a rfl (fun f1 a => ?_) (fun f1 a => ?_))))))
  · refine sg (Wh U (Wh I ?_))
    replace b := b.perm (Nr (Qb (Qb Qz)) Nz)
    obtain ⟨m6, b, d3, s, g2⟩ := ST.ms aN b D
    refine bS a fun t f9 a => ?_
    let h6 : Value := (.string (((t.1).aA).aJ))
    let h1 : Value := (.string (((t.1).aA).aC))
    refine VE (eD b (Cb (Pb Pz) Cn) call407 (fun d => (mY G a0 3 K J _ _ d (g2.mono aN.mono (bO.refl _)) f9)) ?_)
    rintro _ l4 m7 i3 b d4 A ⟨l9, b5, rfl, c6⟩
    obtain rfl := b5.symm
    replace b := b.perm (Tb Tn)
    obtain ⟨a5, a9, rfl⟩ := c6.form
    let e1 : Value := (.slice a5 ((t.1).Kids).length a9)
    let c8 : Value := (.agg #[(.int .i64 ((t.1).Op)), (.int .i64 ((t.1).K)), h1, h6, e1])
    replace b := b.perm (Nb (Pb Pz) Nz)
    refine VO (aX c8 (#[(.int .i64 ((t.1).Op)), (.int .i64 ((t.1).K)), h1, h6, e1]) b u rfl sizeOf113 oc nb rfl (fun k1 b => lt (eF (bU ?_))))
    obtain rfl := sj a
    exact fA (v := c8) rfl u (aK b.has Mh [(.int .i64 ((t.1).Op)), (.int .i64 ((t.1).K)), h1, h6, e1] rfl isAgg113 sizeOf113) ⟨_, _, _, rfl, (b.ej (Db (Kb Sn))), (d3.trans d4), (s.trans A), (ST.cJ b (eE.mem (Db (Kb Sn)))), e1, rfl, rfl, c6⟩
  refine cZ (bY (aR (sg (Wh H (Wh I ?_)))))
  replace b := b.perm (Nr (Qb (Qb Qz)) Nz)
  obtain ⟨m8, b, d5, F, g3⟩ := ST.ms aN b D
  refine bS a fun T g0 a => ?_
  refine VE (eD b (List.Perm.refl _) call436 (fun d => (wA K J _ _ d (g3.mono aN.mono (bO.refl _)) g0)) ?_ (L0 := []))
  rintro _ l5 m9 i4 b d6 L ⟨m0, i5, b6, rfl, c7⟩
  obtain rfl := b6.symm
  replace b := b.perm (Tr Tn)
  obtain ⟨M, Q, rfl⟩ := c7.form
  let g5 := (Mz x M T.length Q)
  refine V (dJ (v := (.agg g5.toArray)) (yk rfl rfl rfl) (cN zeroValue113 underlying113 (jZ _ underlying113) kr)) ?_
  replace b := b.perm (Nb (Pr Pz) Nz)
  refine VO (aX (.agg g5.toArray) (g5.toArray) b u rfl sizeOf113 oc nb rfl (fun k3 b => lt ?_))
  obtain rfl := sj a
  refine fA (v := (.agg g5.toArray)) rfl u (aK b.has Mh g5 rfl isAgg113 sizeOf113) ?_
  replace b := b.perm (Nr (Qb Qz) Nz)
  obtain ⟨n0, b, d7, O, g4⟩ := ST.ms aN b c7
  exact ⟨_, _, _, rfl, (b.ej (Db (Kb Sn))), ((d5.trans d6).trans d7), ((F.trans L).trans O), (ST.cJ b (eE.mem (Db (Kb Sn)))), (.slice M T.length Q), rfl, rfl, g4⟩
theorem tb (c9 : cM → Formula → Option ((Formula × cM))) (e9 : ∀ (u : Nat) (a0 : cM) (a : Formula) (y : Value) (r : (Formula × cM)) (w : World) {μ0 : bW} (h0 : gj μ0 ((u, Ol (dT a0) 376) :: []) w) (x : Sl aD 5 μ0 y a.Kids), c9 a0 a = some r → dR false Tryz.prog 351 [(.pointer (some ⟨u, 0, none⟩)), (.agg #[(.int .i64 a.Op), (.int .i64 a.K), (.string a.aA.aC), (.string a.aA.aJ), y])] w μ0 ((u, Ol (dT a0) 376) :: []) (fun v L1 μ1 => ∃ L, v = (.agg #[(.int .i64 ((r.1).Op)), (.int .i64 ((r.1).K)), (.string (((r.1).aA).aC)), (.string (((r.1).aA).aJ)), L]) ∧ L1 = ((u, Ol (dT (r.2)) 376) :: []) ∧ Sl aD 5 μ1 L ((r.1).Kids))) (u : Nat) (a0 : cM) (a : Formula) (y : Value) (r : (Formula × cM)) (w : World) {μ0 : bW} (h0 : gj μ0 ((u, Ol (dT a0) 376) :: []) w) (x : Sl aD 5 μ0 y a.Kids) (hm : kT c9 a0 a = some r) :
    dR false Tryz.prog 351 [(.pointer (some ⟨u, 0, none⟩)), (.agg #[(.int .i64 a.Op), (.int .i64 a.K), (.string a.aA.aC), (.string a.aA.aJ), y])] w μ0 ((u, Ol (dT a0) 376) :: []) (fun v L1 μ1 => ∃ L, v = (.agg #[(.int .i64 ((r.1).Op)), (.int .i64 ((r.1).K)), (.string (((r.1).aA).aC)), (.string (((r.1).aA).aJ)), L]) ∧ L1 = ((u, Ol (dT (r.2)) 376) :: []) ∧ Sl aD 5 μ1 L ((r.1).Kids)) := by
  let d0 := ((u, Ol (dT a0) 376) :: [])
  refine nm h0 39 func351 rfl (fun b => sg ?_)
  obtain ⟨A1, c2, rfl⟩ := x.form
  let A := (C1 a.Op a.K a.aA.aC a.aA.aJ A1 a.Kids.length c2)
  refine VE (bX b rfl (fun W4 b3 b => VE (bR b zeroValue113 (fun W6 b5 b => lS (Wf fq (VB b (Mt Mh) rfl rfl isAgg3 (Wi rfl (ln (CI hm rfl (fun f8 hm => ?_) (fun f8 hm => ?_))))))))))
  · refine sg (VA b (Mt Mh) A isAgg113 sizeOf113 (VO (aX (.agg A.toArray) (A.toArray) b rfl rfl sizeOf113 oc nb rfl (fun W8 b => ln ?_))))
    replace b := b.aF (Kb (Db St))
    refine bH (bU ?_)
    obtain rfl := sj hm
    exact fA (v := (.agg A.toArray)) rfl rfl (aK b.has Mh A rfl isAgg113 sizeOf113) ⟨_, _, _, rfl, (b.ej (Db (Kb Sn))), (bO.refl _), Lo.refl, (ST.cJ b (eE.mem (Db (Kb Sn)))), (.slice A1 a.Kids.length c2), rfl, rfl, x⟩
  refine kg (Wa (lS (Wf fu (VB b (Mt Mh) rfl rfl isAgg111 (V (cU underlying111 rfl x) (Wm (bK ?_)))))))
  refine aR (cK (fun i E W => ∃ I H T D J b7, (E 15 = .int .i64 (i : Nat) ∧ E 14 = .int .i64 (a.Kids.length : Nat)) ∧ bO μ0 J ∧ Lo (keys d0) w μ0 J ∧ ST false (keys d0) w W J ((u, Ol (dT D) 376) :: ((b5, Ol C4 113) :: ((b3, Ol A 113) :: (T ++ b7)))) ∧ E 0 = (.pointer (some ⟨u, 0, none⟩)) ∧ E 3 = (.pointer (some ⟨b3, 0, none⟩)) ∧ E 4 = (.pointer (some ⟨b5, 0, none⟩)) ∧ E 5 = I ∧ E 13 = (.slice A1 a.Kids.length c2) ∧ cL 113 aD 5 J I H T ∧ gm c9 a (a.Kids.drop i) H D = some r) a.Kids.length x.len ⟨(.slice none 0 0), ([]), [], a0, μ0, _, ⟨rfl, rfl⟩, (bO.refl _), Lo.refl, (b.aF (Sb (Pb (Pb Pz)) St)), rfl, rfl, rfl, rfl, rfl, (cL.nil _ _ _ _), hm⟩ dc dc dc (fun _ _ _ h => by obtain ⟨_, _, _, _, _, _, aa, _⟩ := h; exact aa) ?_ ?_)
  · rintro f0 E W d7 ⟨I, H, T, D, J, b7, ⟨eI, eN⟩, z, d, b, a2, a3, G, P, b9, K, c⟩
    obtain ⟨t, f9, e5, e4, e6⟩ := cC d7
    rw [e5] at c
    refine bg (VQ (ei (i := (f0 : Int)) (x0 := t) aD.out underlying111 sizeOf113 b9 eI (x.mono aN.mono z) (Int.natCast_nonneg _) e4) (fun h7 ⟨_, ⟨h8, rfl, c0⟩, d8⟩ => V (aH rfl (bE b.has d8 isAgg113 sizeOf113)) (VE (bR b zeroValue113 (fun g3 h5 b => ?_)))))
    obtain ⟨a7, a9, rfl⟩ := c0.form
    let R := (C1 t.Op t.K t.aA.aC t.aA.aJ a7 t.Kids.length a9)
    refine VO (aX (.agg R.toArray) (R.toArray) b rfl rfl sizeOf113 oc nb rfl (fun g4 b => ln (aU (Wh P (Wh a2 (VA b Mh R isAgg113 sizeOf113 (bS c fun g d9 c => ?_)))))))
    refine VE (eD b (Cb (Pb Pz) Cn) call351 (fun F => (e9 u D t (.slice a7 t.Kids.length a9) _ _ F (c0.mono aN.mono (bO.refl _)) d9)) ?_)
    rintro _ h9 f4 g0 b b6 m ⟨i2, b1, rfl, c1⟩
    obtain rfl := b1.symm
    replace b := b.perm (Tb Tn)
    obtain ⟨M, U, rfl⟩ := c1.form
    let d1 : Value := (.slice M ((g.1).Kids).length U)
    refine VE (bJ (cs := #[(.int .i64 ((g.1).Op)), (.int .i64 ((g.1).K)), (.string (((g.1).aA).aC)), (.string (((g.1).aA).aJ)), d1]) b (dZ rfl) (ew underlying111 sizeOf113 zeroValue113) (fun g8 h6 b => ?_))
    replace b := b.perm (Nr (Qb (Qb (Qb (Qb (Qb Qz))))) Nz)
    refine bS c fun f1 d5 c => VE (iP (B := T) aN b dc underlying111 dI.1 dI.2.1 rfl dI.2.2.1 dI.2.2.2 rfl rfl (K.mono aN b6) (qE.lit aN (l := [g.1]) (.cons (ys := [(.int .i64 ((g.1).Op)), (.int .i64 ((g.1).K)), (.string (((g.1).aA).aC)), (.string (((g.1).aA).aJ)), d1]) (aD.mk ⟨d1, rfl, c1⟩) .nil) rfl nb (b.at_ (Ma Mh))) d5 (fun g9 f2 e8 b d4 => Wa (bK (bY (aR ?_)))))
    replace b := b.aF (Kr (Db (Kb (Db St))))
    exact ⟨eI, f2, f1, e8, g.2, f4, _, ⟨rfl, eN⟩, (z.trans b6), (d.trans m), (b.aF (Sb (Pr Pz) (Sb (Pr Pz) (Sb (Pr Pz) St)))), a2, a3, G, rfl, b9, d4, (by rw [e6]; exact c)⟩
  rintro E W ⟨I, H, T, D, J, b7, ⟨eI, eN⟩, z, d, b, a2, a3, G, P, b9, K, c⟩
  rw [List.drop_length] at c
  refine aR (aW (sg (V (aO fq a3) (VB b (Mt (Mt Mh)) rfl rfl isAgg3 (Wi rfl (ln (CI c rfl (fun d6 c => ?_) (fun d6 c => ?_))))))))
  · refine sg (Wh a2 (V (aO jm a3) (VB b (Mt (Mt Mh)) rfl rfl isAgg3 (Wh P ?_))))
    replace b := b.perm (Nr (Qb (Qb (Qb Qz))) Nz)
    obtain ⟨i5, b, c5, n, e2⟩ := ST.ms aN b K
    refine bS c fun j e0 c => ?_
    let f3 : Value := (.string (((j.1).aA).aJ))
    let d3 : Value := (.string (((j.1).aA).aC))
    refine VE (eD b (Cb Pz Cn) call406 (fun F => (uD u D a.K I H _ _ F (e2.mono aN.mono (bO.refl _)) e0)) ?_)
    rintro _ i0 i6 g1 b c6 p ⟨i3, b2, rfl, c3⟩
    obtain rfl := b2.symm
    replace b := b.perm (Tb Tn)
    obtain ⟨N, Y, rfl⟩ := c3.form
    let b8 : Value := (.slice N ((j.1).Kids).length Y)
    let a5 : Value := (.agg #[(.int .i64 ((j.1).Op)), (.int .i64 ((j.1).K)), d3, f3, b8])
    replace b := b.perm (Nb (Pb Pz) Nz)
    refine VO (aX a5 (#[(.int .i64 ((j.1).Op)), (.int .i64 ((j.1).K)), d3, f3, b8]) b G rfl sizeOf113 oc nb rfl (fun h2 b => ln ?_))
    replace b := b.aF (Kb (Kb (Db St)))
    refine bH (bU ?_)
    obtain rfl := sj c
    exact fA (v := a5) rfl G (aK b.has Mh [(.int .i64 ((j.1).Op)), (.int .i64 ((j.1).K)), d3, f3, b8] rfl isAgg113 sizeOf113) ⟨_, _, _, rfl, (b.ej (Db (Kb Sn))), ((z.trans c5).trans c6), ((d.trans n).trans p), (ST.cJ b (eE.mem (Db (Kb Sn)))), b8, rfl, rfl, c3⟩
  refine kg (Wh a2 (V (aO fq a3) (VB b (Mt (Mt Mh)) rfl rfl isAgg3 (Wh P ?_))))
  replace b := b.perm (Nr (Qb (Qb (Qb Qz))) Nz)
  obtain ⟨i7, b, c7, q, e3⟩ := ST.ms aN b K
  refine bS c fun k e1 c => ?_
  let f5 : Value := (.int .i64 ((k.1).Op))
  let e7 : Value := (.string (((k.1).aA).aJ))
  let d2 : Value := (.string (((k.1).aA).aC))
  refine VE (eD b (Cb Pz Cn) call407 (fun F => (mY u D a.Op I H _ _ F (e3.mono aN.mono (bO.refl _)) e1)) ?_)
  rintro _ i1 i8 g2 b c8 s ⟨i4, b4, rfl, c4⟩
  obtain rfl := b4.symm
  replace b := b.perm (Tb Tn)
  obtain ⟨Q, Z, rfl⟩ := c4.form
  let O : Value := (.slice Q ((k.1).Kids).length Z)
  let a4 : Value := (.agg #[f5, (.int .i64 ((k.1).K)), d2, e7, O])
  replace b := b.perm (Nb (Pb Pz) Nz)
  refine VO (aX a4 (#[f5, (.int .i64 ((k.1).K)), d2, e7, O]) b G rfl sizeOf113 oc nb rfl (fun h4 b => ln ?_))
  replace b := b.aF (Kb (Kb (Db St)))
  refine bH ?_
  obtain rfl := sj c
  exact fA (v := a4) rfl G (aK b.has Mh [f5, (.int .i64 ((k.1).K)), d2, e7, O] rfl isAgg113 sizeOf113) ⟨_, _, _, rfl, (b.ej (Db (Kb Sn))), ((z.trans c7).trans c8), ((d.trans q).trans s), (ST.cJ b (eE.mem (Db (Kb Sn)))), O, rfl, rfl, c4⟩
theorem qF : ∀ (n : Nat) (c : Nat) (j : cM) (g : Formula) (a : Value) (r : (Formula × cM)) (w : World) {k : bW} (y : gj k ((c, Ol (dT j) 376) :: []) w) (i : Sl aD 5 k a g.Kids) (_ : fK n j g = some r),
    dR false Tryz.prog 351 [(.pointer (some ⟨c, 0, none⟩)), (.agg #[(.int .i64 g.Op), (.int .i64 g.K), (.string g.aA.aC), (.string g.aA.aJ), a])] w k ((c, Ol (dT j) 376) :: []) (fun v u x => ∃ t, v = (.agg #[(.int .i64 ((r.1).Op)), (.int .i64 ((r.1).K)), (.string (((r.1).aA).aC)), (.string (((r.1).aA).aJ)), t]) ∧ u = ((c, Ol (dT (r.2)) 376) :: []) ∧ Sl aD 5 x t ((r.1).Kids))
  | 0 => by intros; rename_i h; simp only [fK] at h; cases h
  | n + 1 => tb (fK n) (qF n)
theorem Aa (c : Formula) (u : Value) (r : (Formula × Int)) (w : World) {Z : bW} (A : gj Z [] w) (k : Sl aD 5 Z u c.Kids) (hm : qS c = some r) :
    dR false Tryz.prog 306 [(.agg #[(.int .i64 c.Op), (.int .i64 c.K), (.string c.aA.aC), (.string c.aA.aJ), u])] w Z [] (fun v L1 μ1 => ∃ q, v = (.tuple #[(.agg #[(.int .i64 ((r.1).Op)), (.int .i64 ((r.1).K)), (.string (((r.1).aA).aC)), (.string (((r.1).aA).aJ)), q]), (.int .i64 (r.2))]) ∧ L1 = [] ∧ Sl aD 5 μ1 q ((r.1).Kids)) := by
  refine nm A 27 func306 rfl (fun b => sg ?_)
  obtain ⟨H, I, rfl⟩ := k.form
  let n := (C1 c.Op c.K c.aA.aC c.aA.aJ H c.Kids.length I)
  refine VE (bX b rfl (fun W4 L b => VE (bR b zeroValue113 (fun W6 p b => Wa (lS (VA b (Mt Mh) n isAgg113 sizeOf113 (bS hm fun r7 a5 hm => VE (Eg b call107 ((pE c (.slice H c.Kids.length I) _ _ (k.mono aN.mono b.aP) a5)) (fun W9 b => V (gn rfl) (ln (CI hm rfl (fun Q hm => ?_) (fun Q hm => ?_))))))))))))
  · refine sg (V (dJ (v := (.agg C4.toArray)) ju (cN zeroValue113 underlying113 (jZ _ underlying113) kr)) (VO (aX (.agg C4.toArray) (C4.toArray) b rfl rfl sizeOf113 oc nb rfl (fun P b => Wa (ln ?_)))))
    replace b := b.aF (Kb (Db St))
    refine bH (bU ?_)
    obtain rfl := sj hm
    exact ir (v0 := (.agg C4.toArray)) (v1 := (.int .i64 11)) rfl rfl (aK b.has Mh C4 rfl isAgg113 sizeOf113) rfl ⟨_, _, _, rfl, (b.ej Sn), (bO.refl _), Lo.refl, (ST.cJ b (eE.mem Sn)), (.slice none 0 0), rfl, rfl, (Sl.nil _ _ _)⟩
  refine kg (V (dJ (v := (.agg (dT K6).toArray)) ju (cN zeroValue376 underlying376 (Mb _ underlying376) kr)) (VE (bX b rfl (fun R s b => Wa (lr (Wm (VA b (Mt (Mt Mh)) n isAgg113 sizeOf113 (bS hm fun a U hm => ?_))))))))
  let m : Value := (.int .i64 ((a.1).K))
  let l : Value := (.int .i64 ((a.1).Op))
  let h : Value := (.string (((a.1).aA).aJ))
  let a2 : Value := (.string (((a.1).aA).aC))
  refine VE (eD b (Cb Pz Cn) call351 (fun F => ((qF bL) s K6 c (.slice H c.Kids.length I) _ _ F (k.mono aN.mono (bO.refl _)) U)) ?_)
  rintro _ c7 a9 O b D d ⟨c9, y, rfl, z⟩
  obtain rfl := y.symm
  replace b := b.perm (Tb Tn)
  refine VE (bR b zeroValue113 (fun c0 K b => ?_))
  obtain ⟨i, j, rfl⟩ := z.form
  let a0 : Value := (.slice i ((a.1).Kids).length j)
  let N : Value := (.agg #[l, m, a2, h, a0])
  refine VO (aX N (#[l, m, a2, h, a0]) b rfl rfl sizeOf113 oc nb rfl (fun c1 b => ln ?_))
  replace b := b.aF (Kb (Kb (Kb (Db St))))
  refine aW (sg (Wm (Wn (Wf Fz (VB b (Mt Mh) rfl rfl isAgg57 (Wi rfl (Wm (LJ hm (fun M E W => ∃ J, ST false (keys []) w W a9 ((K, Ob #[l, m, a2, h, a0] 113) :: ((p, Ol C4 113) :: J)) ∧ E 2 = (.pointer (some ⟨p, 0, none⟩)) ∧ E 5 = (.pointer (some ⟨K, 0, none⟩)) ∧ E 24 = (.bool M)) 4 ?_ (fun M t G => ?_)))))))))
  · rintro c8 E W ⟨J, b, B, a3, a4⟩ x
    refine ln (CI x a4 (fun T x => ?_) (fun T x => ?_))
    · refine sg (V (dJ (v := (.agg C4.toArray)) ju (cN zeroValue113 underlying113 (jZ _ underlying113) kr)) ?_)
      replace b := b.perm (Nb (Pb Pz) Nz)
      refine VO (aX (.agg C4.toArray) (C4.toArray) b B rfl sizeOf113 oc nb rfl (fun c3 b => Wa (ln ?_)))
      replace b := b.aF (Kb (Db St))
      refine bH (bU ?_)
      obtain rfl := sj x
      exact ir (v0 := (.agg C4.toArray)) (v1 := (.int .i64 12)) rfl B (aK b.has Mh C4 rfl isAgg113 sizeOf113) rfl ⟨_, _, _, rfl, (b.ej Sn), D, d, (ST.cJ b (eE.mem Sn)), (.slice none 0 0), rfl, rfl, (Sl.nil _ _ _)⟩
    refine kg (V (aH a3 (aK b.has Mh [l, m, a2, h, a0] rfl isAgg113 sizeOf113)) ?_)
    replace b := b.perm (Nb (Pb Pz) Nz)
    refine VO (aX N (#[l, m, a2, h, a0]) b B rfl sizeOf113 oc nb rfl (fun c4 b => Wa (ln ?_)))
    replace b := b.aF (Kb (Db St))
    refine bH ?_
    obtain rfl := sj x
    exact ir (v0 := N) (v1 := (.int .i64 0)) rfl B (aK b.has Mh [l, m, a2, h, a0] rfl isAgg113 sizeOf113) rfl ⟨_, _, _, rfl, (b.ej Sn), D, d, (ST.cJ b (eE.mem Sn)), a0, rfl, rfl, z⟩
  refine bC t (fun g t => ?_) (fun g t => ?_)
  · refine un g (un g (un g (V (aY (cB g) rfl) ?_)))
    obtain rfl := sj t
    exact G _ _ ⟨_, (b.aF (Kb (Db St))), rfl, rfl, rfl⟩
  refine ug g (aH rfl (aK b.has Mh [l, m, a2, h, a0] rfl isAgg113 sizeOf113)) (bS t fun c6 Y t => kf g (Eg b call107 ((pE a.1 a0 _ _ (z.mono aN.mono b.aP) Y)) (fun c5 b => ug g (gn rfl) (V (aZ (cB g) rfl) ?_))))
  obtain rfl := sj t
  exact G _ _ ⟨_, (b.aF (Kb (Db St))), rfl, rfl, rfl⟩
theorem Dn (a : Formula) (k : Value) (c : Formula) (t : Value) (r : (Formula × Int)) (w : World) {N : bW} (q : gj N [] w) (i : Sl aD 5 N k a.Kids) (j : Sl aD 5 N t c.Kids) (hm : rb a c = some r) :
    dR false Tryz.prog 307 [(.agg #[(.int .i64 a.Op), (.int .i64 a.K), (.string a.aA.aC), (.string a.aA.aJ), k]), (.agg #[(.int .i64 c.Op), (.int .i64 c.K), (.string c.aA.aC), (.string c.aA.aJ), t])] w N [] (fun v Z μ1 => ∃ Y, v = (.tuple #[(.agg #[(.int .i64 ((r.1).Op)), (.int .i64 ((r.1).K)), (.string (((r.1).aA).aC)), (.string (((r.1).aA).aJ)), Y]), (.int .i64 (r.2))]) ∧ Z = [] ∧ Sl aD 5 μ1 Y ((r.1).Kids)) := by
  refine nm q 13 func307 rfl (fun b => sg ?_)
  obtain ⟨u, z, rfl⟩ := i.form
  let a3 : Value := (.slice u a.Kids.length z)
  refine VE (bX b rfl (fun W4 P b => ?_))
  obtain ⟨y, G, rfl⟩ := j.form
  let n : Value := (.slice y c.Kids.length G)
  refine VE (bX b rfl (fun W8 R b => VE (bR b zeroValue113 (fun a5 W b => Wa (lr (VA b (Mt (Mt Mh)) (C1 a.Op a.K a.aA.aC a.aA.aJ u a.Kids.length z) isAgg113 sizeOf113 (VA b (Mt Mh) (C1 c.Op c.K c.aA.aC c.aA.aJ y c.Kids.length G) isAgg113 sizeOf113 (VE (bJ (cs := #[(.int .i64 a.Op), (.int .i64 a.K), (.string a.aA.aC), (.string a.aA.aJ), a3, (.int .i64 c.Op), (.int .i64 c.K), (.string c.aA.aC), (.string c.aA.aJ), n]) b (gK rfl rfl) (ew underlying111 sizeOf113 zeroValue113) (fun A I b => V (dJ (v := (.agg #[(.int .i64 2), (.int .i64 0), (.string zS), (.string zS), (.slice (some ⟨I, 0, none⟩) 2 2)])) (gK rfl rfl) (cN zeroValue113 underlying113 (jZ _ underlying113) kr)) ?_))))))))))
  obtain ⟨L, b, K, d, U⟩ := ST.ms (B := [(I, Ob #[(.int .i64 a.Op), (.int .i64 a.K), (.string a.aA.aC), (.string a.aA.aJ), a3, (.int .i64 c.Op), (.int .i64 c.K), (.string c.aA.aC), (.string c.aA.aJ), n] 113)]) aN b (cL.lit aN (l := [a, c]) (.cons (ys := C1 a.Op a.K a.aA.aC a.aA.aJ u a.Kids.length z) (aD.mk ⟨a3, rfl, i⟩) (.cons (ys := C1 c.Op c.K c.aA.aC c.aA.aJ y c.Kids.length G) (aD.mk ⟨n, rfl, j⟩) .nil)) rfl nb rfl)
  refine bS hm fun g T hm => ?_
  let p : Value := (.int .i64 ((g.1).Op))
  let a2 : Value := (.string (((g.1).aA).aJ))
  let m : Value := (.string (((g.1).aA).aC))
  refine VE (eD b (List.Perm.refl _) call306 (fun s => (Aa ((⟨2, 0, K0, [a, c]⟩ : Formula)) (.slice (some ⟨I, 0, none⟩) 2 2) _ _ s (U.mono aN.mono (bO.refl _)) T)) ?_ (L0 := []))
  rintro _ a9 O a4 b M h ⟨F, H, rfl, J⟩
  obtain rfl := H.symm
  refine Wx rfl (Wx rfl ?_)
  obtain ⟨x, D, rfl⟩ := J.form
  let a0 : Value := (.slice x ((g.1).Kids).length D)
  let Q : Value := (.agg #[p, (.int .i64 ((g.1).K)), m, a2, a0])
  refine VO (aX Q (#[p, (.int .i64 ((g.1).K)), m, a2, a0]) b rfl rfl sizeOf113 oc nb rfl (fun E b => Wa (ln ?_)))
  replace b := b.aF (Kb (Db (Db St)))
  refine bH ?_
  obtain rfl := sj hm
  exact ir (v0 := Q) (v1 := (.int .i64 g.2)) rfl rfl (aK b.has Mh [p, (.int .i64 ((g.1).K)), m, a2, a0] rfl isAgg113 sizeOf113) rfl ⟨_, _, _, rfl, (b.ej Sn), (K.trans M), (d.trans h), (ST.cJ b (eE.mem Sn)), a0, rfl, rfl, J⟩
theorem Fh (d1 : Value) (a0 : List Formula) (r : (Formula × Int)) (w : World) {μ0 : bW} (h0 : gj μ0 [] w) (c7 : Sl aD 5 μ0 d1 a0) (hm : pt a0 = some r) :
    dR false Tryz.prog 213 [d1] w μ0 [] (fun v L1 μ1 => ∃ y1, v = (.tuple #[(.agg #[(.int .i64 ((r.1).Op)), (.int .i64 ((r.1).K)), (.string (((r.1).aA).aC)), (.string (((r.1).aA).aJ)), y1]), (.int .i64 (r.2))]) ∧ L1 = [] ∧ Sl aD 5 μ1 y1 ((r.1).Kids)) := by
  let e5 := ((a0.drop (Int.toNat 1)))
  refine nm h0 36 func213 rfl (fun b => sg (VE (bR b zeroValue113 (fun W2 A b => Wa (lr (Wm (bS hm fun x6 e3 hm => VQ (ei (i := 0) (x0 := x6) aD.out underlying111 sizeOf113 rfl rfl c7 (bV e3) (bQ e3)) (fun p3 ⟨_, ⟨v8, rfl, f2⟩, f1⟩ => V (aH rfl (bE b.has f1 isAgg113 sizeOf113)) (bS hm fun j e6 hm => ?_)))))))))
  refine VE (eD b (List.Perm.refl _) call306 (fun hh => (Aa x6 v8 _ _ hh (f2.mono aN.mono (bO.refl _)) e6)) ?_ (L0 := []))
  rintro _ i4 a9 i0 b a4 m ⟨i5, b6, rfl, d0⟩
  obtain rfl := b6.symm
  refine Wm (Wx rfl (Wx rfl (VE (bR b zeroValue113 (fun i2 F b => ?_)))))
  obtain ⟨c2, c5, rfl⟩ := d0.form
  let d2 : Value := (.slice c2 ((j.1).Kids).length c5)
  refine VO (aX (.agg #[(.int .i64 ((j.1).Op)), (.int .i64 ((j.1).K)), (.string (((j.1).aA).aC)), (.string (((j.1).aA).aJ)), d2]) (#[(.int .i64 ((j.1).Op)), (.int .i64 ((j.1).K)), (.string (((j.1).aA).aC)), (.string (((j.1).aA).aJ)), d2]) b rfl rfl sizeOf113 oc nb rfl (fun i3 b => Wa (lS (Wm (bS hm fun _ c8 hm => VQ (vV (i := 1) underlying111 sizeOf113 rfl rfl (c7.mono aN.mono a4) (oM c8) (oL c8)) (fun f3 R => V (cU underlying111 rfl R.1) (Wm (ln (CJ hm (fun u E W => ∃ q U c3, bO a9 U ∧ Lo (keys []) w a9 U ∧ ST false (keys []) w W U ((F, Ob #[(.int .i64 u.2.1), (.int .i64 u.2.2.1), (.string u.2.2.2.1.aC), (.string u.2.2.2.1.aJ), q] 113) :: ((A, Ol C4 113) :: c3)) ∧ E 2 = (.pointer (some ⟨A, 0, none⟩)) ∧ E 4 = (.pointer (some ⟨F, 0, none⟩)) ∧ E 5 = (.int .i64 u.1) ∧ Sl aD 5 U q u.2.2.2.2) (fun u d7 => ?_) ?_)))))))))
  · refine cK (fun i E W => ∃ s G H y x N z O, (E 18 = .int .i64 (i : Nat) ∧ E 17 = .int .i64 (e5.length : Nat)) ∧ bO a9 z ∧ Lo (keys []) w a9 z ∧ ST false (keys []) w W z ((F, Ob #[(.int .i64 G), (.int .i64 H), (.string y.aC), (.string y.aJ), x] 113) :: ((A, Ol C4 113) :: O)) ∧ E 2 = (.pointer (some ⟨A, 0, none⟩)) ∧ E 4 = (.pointer (some ⟨F, 0, none⟩)) ∧ E 5 = (.int .i64 s) ∧ E 16 = f3 ∧ Sl aD 5 z x N ∧ mX (e5.drop i) s G H y N = some u) e5.length R.1.len ⟨j.2, ((j.1).Op), ((j.1).K), ((j.1).aA), d2, ((j.1).Kids), a9, _, ⟨rfl, rfl⟩, (bO.refl _), Lo.refl, (b.aF St), rfl, rfl, rfl, rfl, d0, d7⟩ dc dc dc (fun _ _ _ h => by obtain ⟨_, _, _, _, _, _, _, _, aa, _⟩ := h; exact aa) ?_ ?_
    · rintro e7 E W d6 ⟨s, G, H, y, x, N, z, O, ⟨eI, eN⟩, t, d, b, a2, D, a3, P, I, c⟩
      obtain ⟨a, f6, e1, e0, e2⟩ := cC d6
      rw [e1] at c
      refine bg (VQ (ei (i := (e7 : Int)) (x0 := a) aD.out underlying111 sizeOf113 P eI (R.1.mono aN.mono t) (Int.natCast_nonneg _) e0) (fun h1 ⟨_, ⟨h4, rfl, c0⟩, d8⟩ => V (aH rfl (bE b.has d8 isAgg113 sizeOf113)) (VE (bR b zeroValue113 (fun g2 g8 b => ?_)))))
      obtain ⟨Y, Z, rfl⟩ := c0.form
      let b8 := (C1 a.Op a.K a.aA.aC a.aA.aJ Y a.Kids.length Z)
      refine VO (aX (.agg b8.toArray) (b8.toArray) b rfl rfl sizeOf113 oc nb rfl (fun g3 b => lS (Wh a3 (Wi rfl (ln (CI c rfl (fun d5 c => ?_) (fun d5 c => ?_)))))))
      · refine fI (fD (Lp (by simp) (fD (kz (aR ?_)))))
        obtain rfl := sj c
        exact ⟨x, z, _, t, d, (b.aF (Db St)), a2, D, a3, I⟩
      refine kn (aU (V (aH D (aK b.has (Mt Mh) [(.int .i64 G), (.int .i64 H), (.string y.aC), (.string y.aJ), x] rfl isAgg113 sizeOf113)) (VA b Mh b8 isAgg113 sizeOf113 (bS c fun g d9 c => ?_))))
      refine VE (eD b (List.Perm.refl _) call307 (fun hh => (Dn ((⟨G, H, y, N⟩ : Formula)) x a (.slice Y a.Kids.length Z) _ _ hh (I.mono aN.mono (bO.refl _)) (c0.mono aN.mono (bO.refl _)) d9)) ?_ (L0 := []))
      rintro _ h5 f0 f9 b c9 n ⟨h8, a5, rfl, c1⟩
      obtain rfl := a5.symm
      refine Wm (Wx rfl (Wx rfl ?_))
      obtain ⟨b0, b3, rfl⟩ := c1.form
      let d3 : Value := (.slice b0 ((g.1).Kids).length b3)
      replace b := b.perm (Nb (Pb Pz) Nz)
      refine VO (aX (.agg #[(.int .i64 ((g.1).Op)), (.int .i64 ((g.1).K)), (.string (((g.1).aA).aC)), (.string (((g.1).aA).aJ)), d3]) (#[(.int .i64 ((g.1).Op)), (.int .i64 ((g.1).K)), (.string (((g.1).aA).aC)), (.string (((g.1).aA).aJ)), d3]) b D rfl sizeOf113 oc nb rfl (fun g7 b => Wa (bK (bY (aR ?_)))))
      replace b := b.aF (Kb (Db St))
      exact ⟨eI, g.2, ((g.1).Op), ((g.1).K), ((g.1).aA), d3, ((g.1).Kids), f0, _, ⟨rfl, eN⟩, (t.trans c9), (d.trans n), (b.aF St), a2, D, rfl, P, c1, (by rw [e2]; exact c)⟩
    rintro E W ⟨s, G, H, y, x, N, z, O, ⟨eI, eN⟩, t, d, b, a2, D, a3, P, I, c⟩
    rw [List.drop_length] at c
    refine aR ?_
    obtain rfl := sj c
    exact ⟨x, z, _, t, d, (b.aF St), a2, D, a3, I⟩
  rintro ⟨e8, Q, T, k, M⟩ E W ⟨q, U, c3, a8, l, b, p, e4, c6, b9⟩ B
  refine aW (sg (Wh c6 (Wi rfl (ln (CI B rfl (fun d4 B => ?_) (fun d4 B => ?_))))))
  · refine sg (V (dJ (v := (.agg C4.toArray)) ju (cN zeroValue113 underlying113 (jZ _ underlying113) kr)) (Wh c6 ?_))
    replace b := b.perm (Nb (Pb Pz) Nz)
    refine VO (aX (.agg C4.toArray) (C4.toArray) b p rfl sizeOf113 oc nb rfl (fun g0 b => Wa (ln ?_)))
    replace b := b.aF (Kb (Db St))
    refine bH (bU ?_)
    obtain rfl := sj B
    exact ir (v0 := (.agg C4.toArray)) (v1 := (.int .i64 e8)) rfl p (aK b.has Mh C4 rfl isAgg113 sizeOf113) rfl ⟨_, _, _, rfl, (b.ej Sn), (a4.trans a8), (m.trans l), (ST.cJ b (eE.mem Sn)), (.slice none 0 0), rfl, rfl, (Sl.nil _ _ _)⟩
  refine kg (V (aH e4 (aK b.has Mh [(.int .i64 Q), (.int .i64 T), (.string k.aC), (.string k.aJ), q] rfl isAgg113 sizeOf113)) ?_)
  obtain ⟨J, K, rfl⟩ := b9.form
  let L := (C1 Q T k.aC k.aJ J M.length K)
  replace b := b.perm (Nb (Pb Pz) Nz)
  refine VO (aX (.agg L.toArray) (L.toArray) b p rfl sizeOf113 oc nb rfl (fun g1 b => Wa (ln ?_)))
  replace b := b.aF (Kb (Db St))
  refine bH ?_
  obtain rfl := sj B
  exact ir (v0 := (.agg L.toArray)) (v1 := (.int .i64 0)) rfl p (aK b.has Mh L rfl isAgg113 sizeOf113) rfl ⟨_, _, _, rfl, (b.ej Sn), (a4.trans a8), (m.trans l), (ST.cJ b (eE.mem Sn)), (.slice J M.length K), rfl, rfl, b9⟩
theorem Gj (k : cR) (G H : Value) (p : aB) (r : (Formula × Int)) (w : World) {μ0 : bW} (h0 : gj μ0 [] w) (t : Sl bN 15 μ0 G k.aT) (y : Sl dF 8 μ0 H k.bP) (hm : uw k p = some r) :
    dR false Tryz.prog 106 [(.agg #[(.string k.Name), G, H]), (.agg (aG p).toArray)] w μ0 [] (fun v L1 μ1 => ∃ y1, v = (.tuple #[(.agg #[(.int .i64 ((r.1).Op)), (.int .i64 ((r.1).K)), (.string (((r.1).aA).aC)), (.string (((r.1).aA).aJ)), y1]), (.int .i64 (r.2))]) ∧ L1 = [] ∧ Sl aD 5 μ1 y1 ((r.1).Kids)) := by
  refine nm h0 41 func106 rfl (fun b => sg ?_)
  obtain ⟨A1, c2, rfl⟩ := t.form
  obtain ⟨A3, P, rfl⟩ := y.form
  let f5 := (C5 k.Name A1 k.aT.length c2 A3 k.bP.length P)
  refine VE (bX b rfl (fun W6 b5 b => VE (bX b rfl (fun W8 b7 b => VE (bR b zeroValue113 (fun i4 b9 b => Wa (lr (VA b (Mt (Mt Mh)) f5 isAgg110 sizeOf110 (VA b (Mt Mh) (aG p) isAgg53 sizeOf53 (bS hm fun a e7 hm => ?_))))))))))
  let b8 : Value := (.int .i64 (((a.1).aI).K))
  let q : Value := (.int .i64 (((a.1).aI).Op))
  let b1 := (((a.1).aI).aA)
  let s : Value := (.string (b1.aJ))
  let d8 : Value := (.string (b1.aC))
  let a0 := (((a.1).Signed).aB)
  refine VE (eD b (List.Perm.refl _) call212 (fun A => (Ef k (.slice A1 k.aT.length c2) (.slice A3 k.bP.length P) p _ _ A (t.mono bM.mono (bO.refl _)) (y.mono ev.mono (bO.refl _)) e7)) ?_ (L0 := []))
  rintro _ j4 j8 i2 b I d ⟨j6, j7, a5, rfl, e9, c5⟩
  obtain rfl := a5.symm
  refine Wm (Wx rfl (Wx rfl (VE (bR b zeroValue138 (fun i6 j3 b => ?_)))))
  obtain ⟨d9, e1, rfl⟩ := e9.form
  let f8 : Value := (.slice d9 (((a.1).Signed).Tag).length e1)
  obtain ⟨z, D, rfl⟩ := c5.form
  let a2 : Value := (.slice z (((a.1).aI).Kids).length D)
  refine VO (aX (.agg #[(.int .i64 (a0.Kind)), (.string ((a0.Head).aC)), (.string ((a0.Head).aJ)), (.string (a0.cH)), (.string ((a0.B).aC)), (.string ((a0.B).aJ)), (.string ((a0.C).aC)), (.string ((a0.C).aJ)), (.string (a0.cO)), f8, q, b8, d8, s, a2]) (#[(.int .i64 (a0.Kind)), (.string ((a0.Head).aC)), (.string ((a0.Head).aJ)), (.string (a0.cH)), (.string ((a0.B).aC)), (.string ((a0.B).aJ)), (.string ((a0.C).aC)), (.string ((a0.C).aJ)), (.string (a0.cO)), f8, q, b8, d8, s, a2]) b rfl rfl sizeOf138 oc nb rfl (fun i7 b => Wa (lS (Wm (V (gn rfl) (ln (CI hm rfl (fun e6 hm => ?_) (fun e6 hm => ?_))))))))
  · refine sg (V (dJ (v := (.agg C4.toArray)) ju (cN zeroValue113 underlying113 (jZ _ underlying113) kr)) ?_)
    replace b := b.perm (Nb (Pb Pz) Nz)
    refine VO (aX (.agg C4.toArray) (C4.toArray) b rfl rfl sizeOf113 oc nb rfl (fun i8 b => Wa (ln ?_)))
    replace b := b.aF (Kb (Db (Db (Db St))))
    refine bH (bU ?_)
    obtain rfl := sj hm
    exact ir (v0 := (.agg C4.toArray)) (v1 := (.int .i64 42)) rfl rfl (aK b.has Mh C4 rfl isAgg113 sizeOf113) rfl ⟨_, _, _, rfl, (b.ej Sn), I, d, (ST.cJ b (eE.mem Sn)), (.slice none 0 0), rfl, rfl, (Sl.nil _ _ _)⟩
  refine kg (Wf wJ (VA b Mh [q, b8, d8, s, a2] isAgg113 sizeOf113 (VE (bJ (cs := #[q, b8, d8, s, a2]) b (dZ rfl) (ew underlying111 sizeOf113 zeroValue113) (fun i9 e0 b => Wa (ln ?_))))))
  replace b := b.aF (Kb (Db St))
  refine aW (sg (VA b (Mt (Mt (Mt Mh))) f5 isAgg110 sizeOf110 (VA b (Mt (Mt Mh)) (aG p) isAgg53 sizeOf53 (bS hm fun R e8 hm => ?_))))
  refine VE (eD b (List.Perm.refl _) call209 (fun A => (Dx k (.slice A1 k.aT.length c2) (.slice A3 k.bP.length P) p _ _ A (t.mono bM.mono I) (y.mono ev.mono I) e8)) ?_ (L0 := []))
  rintro _ j5 e2 i3 b a8 F ⟨f6, a6, rfl, O⟩
  obtain rfl := a6.symm
  refine V (cU underlying108 rfl O) (Wm (ln ?_))
  replace b := b.aF (Kb (Kb (Db (Db St))))
  replace b := b.xY
  refine cK (fun i E W => ∃ Q N K Z, (E 27 = .int .i64 (i : Nat) ∧ E 26 = .int .i64 (R.length : Nat)) ∧ ST false (keys []) w W e2 ((b9, Ol C4 113) :: (K ++ Z)) ∧ E 4 = (.pointer (some ⟨b9, 0, none⟩)) ∧ E 8 = Q ∧ E 25 = f6 ∧ cL 113 aD 5 e2 Q N K ∧ nA (R.drop i) N = some r) R.length O.len ⟨(.slice (some ⟨e0, 0, none⟩) 1 1), ([(a.1).aI]), [(e0, Ob #[q, b8, d8, s, a2] 113)], _, ⟨rfl, rfl⟩, (b.aF (Sb (Pr Pz) St)), rfl, rfl, rfl, (cL.lit aN (l := [(a.1).aI]) (.cons (ys := [q, b8, d8, s, a2]) (aD.mk ⟨a2, rfl, (c5.mono aN.mono a8)⟩) .nil) rfl nb rfl), hm⟩ dc dc dc (fun _ _ _ h => by obtain ⟨_, _, _, _, aa, _⟩ := h; exact aa) ?_ ?_
  · rintro f0 E W d0 ⟨Q, N, K, Z, ⟨eI, eN⟩, b, T, a3, a4, U, j⟩
    obtain ⟨c, f7, d6, d5, d7⟩ := cC d0
    rw [d6] at j
    refine bg (VQ (ei (i := (f0 : Int)) (x0 := c) dF.out underlying108 sizeOf263 a4 eI O (Int.natCast_nonneg _) d5) (fun h2 ⟨_, ⟨h5, h6, rfl, a9, d3⟩, d1⟩ => V (aH rfl (bE b.has d1 isAgg263 sizeOf263)) (VE (bR b zeroValue263 (fun g0 g8 b => ?_)))))
    obtain ⟨u, x, rfl⟩ := a9.form
    let c7 := (C1 c.aI.Op c.aI.K c.aI.aA.aC c.aI.aA.aJ u c.aI.Kids.length x)
    obtain ⟨b2, b6, rfl⟩ := d3.form
    let c0 := (C7 c.aA.aC c.aA.aJ c.aI.Op c.aI.K c.aI.aA.aC c.aI.aA.aJ u c.aI.Kids.length x b2 c.eS.length b6)
    refine VO (aX (.agg c0.toArray) (c0.toArray) b rfl rfl sizeOf263 oc nb rfl (fun g1 b => ln (aU (Wh a3 (Wf Cd (VA b Mh c7 isAgg113 sizeOf113 (VE (bJ (cs := c7.toArray) b (dZ rfl) (ew underlying111 sizeOf113 zeroValue113) (fun g2 g9 b => ?_)))))))))
    replace b := b.perm (Nr (Qb (Qb (Qb Qz))) Nz)
    refine bS j fun f1 c9 j => VE (iP (B := K) aN b dc underlying111 dI.1 dI.2.1 rfl dI.2.2.1 dI.2.2.2 rfl rfl U (qE.lit aN (l := [c.aI]) (.cons (ys := C1 c.aI.Op c.aI.K c.aI.aA.aC c.aI.aA.aJ u c.aI.Kids.length x) (aD.mk ⟨(.slice u c.aI.Kids.length x), rfl, a9⟩) .nil) rfl nb (b.at_ (Ma Mh))) c9 (fun g3 f2 e3 b c8 => Wa (bK (bY (aR ?_)))))
    replace b := b.aF (Kr (Db (Db St)))
    exact ⟨eI, f2, f1, e3, _, ⟨rfl, eN⟩, (b.aF (Sb (Pr Pz) St)), T, rfl, a4, c8, (by rw [d7]; exact j)⟩
  rintro E W ⟨Q, N, K, Z, ⟨eI, eN⟩, b, T, a3, a4, U, j⟩
  rw [List.drop_length] at j
  refine aR (sg (Wh a3 ?_))
  replace b := b.perm (Nr (Qb Qz) Nz)
  obtain ⟨i0, b, c1, m, d4⟩ := ST.ms aN b U
  refine bS j fun g d2 j => ?_
  let g4 : Value := (.int .i64 ((g.1).Op))
  let f4 : Value := (.string (((g.1).aA).aJ))
  let f3 : Value := (.string (((g.1).aA).aC))
  refine VE (eD b (List.Perm.refl _) call213 (fun A => (Fh Q N _ _ A (d4.mono aN.mono (bO.refl _)) d2)) ?_ (L0 := []))
  rintro _ h7 i1 f9 b c3 n ⟨h8, Y, rfl, b0⟩
  obtain rfl := Y.symm
  refine Wx rfl (Wx rfl ?_)
  obtain ⟨J, M, rfl⟩ := b0.form
  let L : Value := (.slice J ((g.1).Kids).length M)
  let b4 : Value := (.agg #[g4, (.int .i64 ((g.1).K)), f3, f4, L])
  refine VO (aX b4 (#[g4, (.int .i64 ((g.1).K)), f3, f4, L]) b T rfl sizeOf113 oc nb rfl (fun g7 b => Wa (lt ?_)))
  obtain rfl := sj j
  exact ir (v0 := b4) (v1 := (.int .i64 g.2)) rfl T (aK b.has Mh [g4, (.int .i64 ((g.1).K)), f3, f4, L] rfl isAgg113 sizeOf113) rfl ⟨_, _, _, rfl, (b.ej Sn), (((I.trans a8).trans c1).trans c3), (((d.trans F).trans m).trans n), (ST.cJ b (eE.mem Sn)), L, rfl, rfl, b0⟩
theorem xn (Q : Formula → (aA → Option Bool) → Option Bool) (a5 : ∀ (g : Formula) (k : Value) (t : Value) (J : aA → Option Bool) (r : Bool) (w : World) (c : Sl aD 5 (hp w) k g.Kids) (K : ue Tryz.prog t (hp w) (fun (x : aA) => [(.agg (aM x).toArray)]) (fun (r : Bool) => (.bool r)) J), Q g J = some r → bF false Tryz.prog 288 [(.agg #[(.int .i64 g.Op), (.int .i64 g.K), (.string g.aA.aC), (.string g.aA.aJ), k]), t] w (.bool r)) (g : Formula) (k t : Value) (J : aA → Option Bool) (r : Bool) (w : World) (c : Sl aD 5 (hp w) k g.Kids) (K : ue Tryz.prog t (hp w) (fun (x : aA) => [(.agg (aM x).toArray)]) (fun (r : Bool) => (.bool r)) J) (hm : oF Q g J = some r) :
    bF false Tryz.prog 288 [(.agg #[(.int .i64 g.Op), (.int .i64 g.K), (.string g.aA.aC), (.string g.aA.aJ), k]), t] w (.bool r) := by
  refine cG 45 func288 rfl (fun b => sg ?_)
  obtain ⟨A1, c2, rfl⟩ := c.form
  refine VE (bX b rfl (fun W4 n b => Wa (lS (Wf fq (VB b Mh rfl rfl isAgg3 (Wi rfl (ln (CI hm rfl (fun a9 hm => ?_) (fun a9 hm => ?_)))))))))
  · refine sg (Wm (Wf kU (VA b Mh (aM g.aA) isAgg28 sizeOf28 (bS hm fun r6 v hm => VE (Il g.aA b K (bO.refl _) rfl (nK rfl) v (fun W8 b => Wa (ln ?_)))))))
    replace b := b.aF (Db St)
    refine bH (bU ?_)
    obtain rfl := sj hm
    exact rP b
  refine kg (Wa (lS (Wf fu (VB b Mh rfl rfl isAgg111 (V (cU underlying111 rfl c) (Wm (bK ?_)))))))
  refine aR (cK (fun i E W => ∃ z I, (E 18 = .int .i64 (i : Nat) ∧ E 17 = .int .i64 (g.Kids.length : Nat)) ∧ ST false cA w W (hp w) ((n, Ol (C1 g.Op g.K g.aA.aC g.aA.aJ A1 g.Kids.length c2) 113) :: I) ∧ E 1 = t ∧ E 2 = (.pointer (some ⟨n, 0, none⟩)) ∧ E 5 = (.int .i64 z) ∧ E 16 = (.slice A1 g.Kids.length c2) ∧ iJ Q J g (g.Kids.drop i) z = some r) g.Kids.length c.len ⟨0, _, ⟨rfl, rfl⟩, (b.aF St), rfl, rfl, rfl, rfl, hm⟩ dc dc dc (fun _ _ _ h => by obtain ⟨_, _, l, _⟩ := h; exact l) ?_ ?_)
  · rintro A E W a4 ⟨z, I, ⟨d, m⟩, b, G, u, y, H, a⟩
    obtain ⟨j, c1, s, q, N⟩ := cC a4
    rw [s] at a
    refine bg (VQ (ei (i := (A : Int)) (x0 := j) aD.out underlying111 sizeOf113 H d c (Int.natCast_nonneg _) q) (fun R ⟨_, ⟨c0, rfl, M⟩, Z⟩ => V (aH rfl (bE b.has Z isAgg113 sizeOf113)) (VE (bR b zeroValue113 (fun F P b => ?_)))))
    obtain ⟨B, D, rfl⟩ := M.form
    let a0 := (C1 j.Op j.K j.aA.aC j.aA.aJ B j.Kids.length D)
    refine VO (aX (.agg a0.toArray) (a0.toArray) b rfl rfl sizeOf113 oc nb rfl (fun L b => lr (VA b Mh a0 isAgg113 sizeOf113 (Wh G (bS a fun b9 p a => VE (Eg b call288 ((a5 j (.slice B j.Kids.length D) t J _ _ (M.mono aN.mono b.aP) (K.mono b.aP) p)) (fun O b => ln ?_)))))))
    replace b := b.aF (Db St)
    refine CI a rfl (fun T a => ?_) (fun T a => ?_)
    · exact aU (Wh y (Wi rfl (Wa (bK (bY (aR ⟨d, ((IntKind.i64.wrap (z + 1))), _, ⟨rfl, m⟩, (b.aF St), G, u, rfl, H, (by rw [N]; exact a)⟩))))))
    exact cZ (bY (aR ⟨d, z, _, ⟨rfl, m⟩, (b.aF St), G, u, y, H, (by rw [N]; exact a)⟩))
  rintro E W ⟨z, I, ⟨d, m⟩, b, G, u, y, H, a⟩
  rw [List.drop_length] at a
  refine aR (aW (sg (V (aO fq u) (VB b Mh rfl rfl isAgg3 (ln (bg (Wi rfl (Wa (ln ?_)))))))))
  refine CI a rfl (fun U a => ?_) (fun U a => ?_)
  · refine sg (Wh y (V (aO fu u) (VB b Mh rfl rfl isAgg111 (V (cU underlying111 rfl c) (Wi rfl (Wa (ln ?_)))))))
    replace b := b.aF (Db St)
    refine bH (eF (bU ?_))
    obtain rfl := sj a
    exact rP b
  refine sg (Wi rfl (Wa (ln (CI a rfl (fun Y a => ?_) (fun Y a => ?_)))))
  · refine sg (Wh y (Wi rfl (Wa (ln ?_))))
    replace b := b.aF (Db St)
    refine bH (eF (bU ?_))
    obtain rfl := sj a
    exact rP b
  refine cZ (bY (aR (sg (Wh y (V (aO jm u) (VB b Mh rfl rfl isAgg3 (Wi rfl (Wa (ln ?_)))))))))
  exact bH (rQ a b)
theorem vL : ∀ (n : Nat) (c : Formula) (a : Value) (g : Value) (j : aA → Option Bool) (r : Bool) (w : World) (i : Sl aD 5 (hp w) a c.Kids) (k : ue Tryz.prog g (hp w) (fun (x : aA) => [(.agg (aM x).toArray)]) (fun (r : Bool) => (.bool r)) j) (_ : jj n c j = some r),
    bF false Tryz.prog 288 [(.agg #[(.int .i64 c.Op), (.int .i64 c.K), (.string c.aA.aC), (.string c.aA.aJ), a]), g] w (.bool r)
  | 0 => by intros; rename_i h; simp only [jj] at h; cases h
  | n + 1 => xn (jj n) (vL n)
theorem Ci (a : Formula) (j k : Value) (G : aA → Option Bool) (r : Bool) (w : World) (c : Sl aD 5 (hp w) j a.Kids) (z : ue Tryz.prog k (hp w) (fun (x : aA) => [(.agg (aM x).toArray)]) (fun (r : Bool) => (.bool r)) G) (hm : qu a G = some r) :
    bF false Tryz.prog 183 [(.agg #[(.int .i64 a.Op), (.int .i64 a.K), (.string a.aA.aC), (.string a.aA.aJ), j]), k] w (.bool r) := by
  refine cG 16 func183 rfl (fun b => sg ?_)
  obtain ⟨u, y, rfl⟩ := c.form
  let a0 := (C1 a.Op a.K a.aA.aC a.aA.aJ u a.Kids.length y)
  refine VE (bX b rfl (fun U Z b => Wa (lr (Wm (V (HY underlying242 z.form rfl rfl) (Wm (Vg rfl rfl (aH rfl (aK b.has Mh a0 rfl isAgg113 sizeOf113)) (bS hm fun d K hm => HG rfl rfl (Eg b call107 ((pE a (.slice u a.Kids.length y) _ _ (c.mono aN.mono b.aP) K)) (fun Y b => V (aY rfl rfl) (Wm (LJ hm (fun D E W => ∃ B, ST false cA w W (hp w) B ∧ E 4 = (.bool false) ∧ E 15 = (.bool D)) 4 ?_ (fun D g t => ?_)))))))))))))
  · rintro T E W ⟨B, b, N, J⟩ H
    exact Wg J (lt (rQ H b))
  refine bC g (fun i g => ?_) (fun i g => ?_)
  · refine ug i (aH rfl (aK b.has Mh a0 rfl isAgg113 sizeOf113)) (ug i (aQ rfl) (bS g fun Q I g => kf i (Eg b call288 (((vL bL) a (.slice u a.Kids.length y) k G _ _ (c.mono aN.mono b.aP) (z.mono b.aP) I)) (fun M b => V (aY (cB i) rfl) ?_))))
    obtain rfl := sj g
    exact t _ _ ⟨_, (b.aF (Db St)), rfl, rfl⟩
  refine un i (un i (un i (V (aZ (cB i) rfl) ?_)))
  obtain rfl := sj g
  exact t _ _ ⟨_, (b.aF (Db St)), rfl, rfl⟩
theorem Ak (K : Nat) (a : Value) (G : List (aA × (List (ByteArray × Bool)))) (c : Value) (t : List aB) (j : Value) (D : List (aA × (List aB))) (g : Value) (u : List (ByteArray × (List aB))) (i : Value) (B : List aV) (J : Int) (I : aA) (a2 : ByteArray) (r : Bool) (w : World) (H : np (fun (x : aA) => (.agg (aM x).toArray)) (ek Value.string (fun (x : Bool) => (Value.bool x))) (hp w) a G) (T : Sl (Pl aG) 9 (hp w) c t) (Z : np (fun (x : aA) => (.agg (aM x).toArray)) (bG 53 aG 9) (hp w) j D) (U : np Value.string (bG 53 aG 9) (hp w) g u) (Y : Sl (Pl bZ) 3 (hp w) i B) (Q : At (hp w) (.pointer (some ⟨K, 0, none⟩)) [a, c, j, g, i, (.int .i64 J)]) (hm : oP G t D u B J I a2 = some r) :
    bF true Tryz.prog 149 [(.pointer (some ⟨K, 0, none⟩)), (.agg (aM I).toArray), (.string a2)] w (.bool r) := by
  refine cG 19 func149 rfl (fun l => sg (VE (bX l rfl (fun W2 q l => Wa (ln (aW ?_))))))
  replace l := l.drew
  have d := l.has.aF (Kb Sn)
  refine cT d cE (X 0 rfl d (aQ rfl) (X 1 rfl d (xA underlying171 rfl rfl) (X 2 rfl d (aQ rfl) (Xg 3 rfl rfl rfl d (aQ rfl) (Xg 4 rfl rfl rfl d (fG rfl) (mB 5 rfl kr (.inr ⟨2, true, 9, rfl, rfl, by decide, rfl⟩) rfl dc (fun _ _ h => h) d (yV [a] qw rfl Q rfl) (fun p a3 => ou 6 rfl rfl rfl d (fun _ m => aH rfl (mC m (y := a) a3 isAgg290)) (ou 7 rfl rfl rfl d (fun _ m => aH rfl (aK m Mh (aM I) rfl isAgg28 sizeOf28)) ?_))))))))
  obtain ⟨a4, a5, M, N⟩ := H
  refine ou 8 rfl rfl rfl d (fun _ m => iO (k := I) (z := (.map none)) uf underlying290 zeroValue296 rfl rfl M (fun b o n => m.1 b o (N b o n))) (Xg 9 rfl rfl rfl d (aQ rfl) (ou 10 rfl rfl rfl d (fun _ m => tR (k := a2) (z := false) (vf := (fun (x : Bool) => (Value.bool x))) BK underlying296 zeroValue4 rfl rfl ((fl.xf bD.1 M I N).mono (fun b o n => m.1 b o n))) (X 11 rfl d (aY rfl rfl) (X 12 rfl d (fW rfl) (dG kr (aR ?_))))))
  exact bH (rQ hm l)
theorem Bj (N : aA) (Q D : Nat) (t : Value) (B : List (aA × (List (ByteArray × Bool)))) (a : Value) (j : List aB) (i : Value) (z : List (aA × (List aB))) (c : Value) (k : List (ByteArray × (List aB))) (g : Value) (u : List aV) (I : Int) (T : Nat) (Y : ByteArray) (r : Bool) (w : World) (M : np (fun (x : aA) => (.agg (aM x).toArray)) (ek Value.string (fun (x : Bool) => (Value.bool x))) (hp w) t B) (G : Sl (Pl aG) 9 (hp w) a j) (K : np (fun (x : aA) => (.agg (aM x).toArray)) (bG 53 aG 9) (hp w) i z) (H : np Value.string (bG 53 aG 9) (hp w) c k) (J : Sl (Pl bZ) 3 (hp w) g u) (U : At (hp w) (.pointer (some ⟨D, 0, none⟩)) [t, a, i, c, g, (.int .i64 I)]) (Z : At (hp w) (.pointer (some ⟨Q, 0, none⟩)) [(.pointer (some ⟨D, 0, none⟩))]) (d : At (hp w) (.pointer (some ⟨T, 0, none⟩)) [(.string Y)]) (hm : ji N B j z k u I Y = some r) :
    bF true Tryz.prog 287 [(.agg (aM N).toArray), (.pointer (some ⟨Q, 0, none⟩)), (.pointer (some ⟨T, 0, none⟩))] w (.bool r) := by
  refine cG 9 func287 rfl (fun b => sg (VE (bX b rfl (fun W2 h b => Wa (lr (V (aH rfl (mC b.has (y := (.pointer (some ⟨D, 0, none⟩))) Z isAgg171)) (VA b Mh (aM N) isAgg28 sizeOf28 (V (aH rfl (mC b.has (y := (.string Y)) d isAgg9)) (bS hm fun l a2 hm => VE (Eg b call149 ((Ak D t B a j i z c k g u I N Y _ _ (M.mono b.aP) (G.mono (Pl.mono _) b.aP) (K.mono b.aP) (H.mono b.aP) (J.mono (Pl.mono _) b.aP) (U.mono b.aP) a2)) (fun W5 b => Wa ?_)))))))))))
  refine ln ?_
  exact bH (rQ hm b)
theorem su (k : cR) (H K c1 : Value) (L : List aB) (a2 : ByteArray) (r : List aB) (w : World) (g : Sl bN 15 (hp w) H k.aT) (J : Sl dF 8 (hp w) K k.bP) (h5 : Sl (Pl aG) 9 (hp w) c1 L) (hm : jv k L a2 = some r) :
    dP false Tryz.prog 80 [(.agg #[(.string k.Name), H, K]), c1, (.string a2)] w 53 aG 9 r := by
  refine ng 47 func80 rfl (fun d => sg ?_)
  obtain ⟨A1, c2, rfl⟩ := g.form
  let c8 : Value := (.slice A1 k.aT.length c2)
  obtain ⟨A3, c4, rfl⟩ := J.form
  let O := (C5 k.Name A1 k.aT.length c2 A3 k.bP.length c4)
  refine VE (bX d rfl (fun W6 A d => Wa (lr (Wm (Wm (bS hm fun B i5 hm => ?_))))))
  refine VE (tY d (List.Perm.refl _) call182 (fun _ _ _ _ => (EU c1 L a2 _ _ (h5.mono (Pl.mono _) d.aP) i5)) (fun W9 l1 g4 l0 d a5 af ae h4 => ?_) (L0 := []))
  obtain ⟨N, q, e0, f9, e1, g0, e2, g1, e3, g2, e4, g3, Q, c0, rfl, h6, h7, h8, h9, i0⟩ := h4
  replace c0 := c0.symm; subst c0
  replace d := d.perm (Tb (Tb (Tb (Tr (Tr (Tr (Tr (Tr Tn))))))))
  refine Wa (lr (Wa (lS (Wf kD (VB d (Mt (Mt (Mt (Ma (Ma (Ma (Ma (Ma Mh)))))))) rfl rfl isAgg107 (V (cU underlying107 rfl g) (Wm ?_)))))))
  refine ln (cK (fun i E W => ∃ D I G s P, (E 19 = .int .i64 (i : Nat) ∧ E 18 = .int .i64 (k.aT.length : Nat)) ∧ bO g4 s ∧ ST false cA w W s ((N, Ob #[(.pointer (some ⟨q, 0, none⟩))] 171) :: ((q, Ob #[e0, e1, e2, e3, e4, (.int .i64 B.2.2.2.2.2.1)] 294) :: ((Q, Ob #[(.string B.2.2.2.2.2.2)] 9) :: ((A, Ol O 110) :: (G ++ (f9 ++ (g0 ++ (g1 ++ (g2 ++ (g3 ++ P)))))))))) ∧ E 3 = (.pointer (some ⟨A, 0, none⟩)) ∧ E 7 = (.func (.func 287) #[] #[(.pointer (some ⟨N, 0, none⟩)), (.pointer (some ⟨Q, 0, none⟩))]) ∧ E 8 = D ∧ E 17 = c8 ∧ bG 53 aG 9 D I G ∧ ky k B (k.aT.drop i) I = some r) k.aT.length g.len ⟨(.slice none 0 0), ([]), [], g4, _, ⟨rfl, rfl⟩, (bO.refl _), (d.aF (Kb (Kb (Kb (Sb (Pr (Pr (Pr (Pr (Pr Pz))))) St))))), rfl, rfl, rfl, rfl, (bG.nil _ _ _), hm⟩ dc dc dc (fun _ _ _ h => by obtain ⟨_, _, _, _, _, aa, _⟩ := h; exact aa) ?_ ?_)
  · let b6 : Value := (.func (.func 287) #[] #[(.pointer (some ⟨N, 0, none⟩)), (.pointer (some ⟨Q, 0, none⟩))])
    rintro d8 E W f0 ⟨D, I, G, s, P, ⟨F, eN⟩, u, d, Y, Z, a3, a4, M, j⟩
    obtain ⟨a, i6, f8, f7, c6⟩ := cC f0
    rw [f8] at j
    refine bg (VQ (ei (i := (d8 : Int)) (x0 := a) bN.out underlying107 sizeOf138 a4 F (g.mono bM.mono (a5.trans u)) (Int.natCast_nonneg _) f7) (fun k1 ⟨_, ⟨k4, k5, rfl, f5, f6⟩, f1⟩ => V (aH rfl (bE d.has f1 isAgg138 sizeOf138)) (VE (bR d zeroValue138 (fun i9 d0 d => ?_)))))
    obtain ⟨b2, b7, rfl⟩ := f5.form
    obtain ⟨b3, b9, rfl⟩ := f6.form
    let a0 := (C3 a.Signed.aB.Kind a.Signed.aB.Head.aC a.Signed.aB.Head.aJ a.Signed.aB.cH a.Signed.aB.B.aC a.Signed.aB.B.aJ a.Signed.aB.C.aC a.Signed.aB.C.aJ a.Signed.aB.cO b2 a.Signed.Tag.length b7 a.aI.Op a.aI.K a.aI.aA.aC a.aI.aA.aJ b3 a.aI.Kids.length b9)
    refine VO (aX (.agg a0.toArray) (a0.toArray) d rfl rfl sizeOf138 oc nb rfl (fun j0 d => lr (V (aH Y (aK d.has (Mt (Mt (Mt (Mt Mh)))) O rfl isAgg110 sizeOf110)) (Wf po (Wf qW (VA d Mh (aG a.Signed.aB) isAgg53 sizeOf53 (bS j fun c f2 j => ?_)))))))
    let e5 : Value := (.string (((c.1).aA).aJ))
    let d1 : Value := (.string (((c.1).aA).aC))
    refine VE (eD d (List.Perm.refl _) call106 (fun hh => (Gj k c8 (.slice A3 k.bP.length c4) a.Signed.aB _ _ hh (g.mono bM.mono (a5.trans u)) (J.mono ev.mono (a5.trans u)) f2)) ?_ (L0 := []))
    rintro _ k6 c3 i8 d a9 ab ⟨k8, a6, rfl, c7⟩
    obtain rfl := a6.symm
    refine Wm (Wx rfl (Wx rfl (VE (bR d zeroValue113 (fun j4 k0 d => ?_)))))
    obtain ⟨T, U, rfl⟩ := c7.form
    let b8 : Value := (.slice T ((c.1).Kids).length U)
    refine VO (aX (.agg #[(.int .i64 ((c.1).Op)), (.int .i64 ((c.1).K)), d1, e5, b8]) (#[(.int .i64 ((c.1).Op)), (.int .i64 ((c.1).K)), d1, e5, b8]) d rfl rfl sizeOf113 oc nb rfl (fun j5 d => Wa (lr (Wm (Wi rfl (Wm (LJ j (fun d9 E W => ∃ c9, ST false cA w W c3 ((d0, Ol a0 138) :: ((N, Ob #[(.pointer (some ⟨q, 0, none⟩))] 171) :: ((q, Ob #[e0, e1, e2, e3, e4, (.int .i64 B.2.2.2.2.2.1)] 294) :: ((Q, Ob #[(.string B.2.2.2.2.2.2)] 9) :: ((A, Ol O 110) :: (G ++ (f9 ++ (g0 ++ (g1 ++ (g2 ++ (g3 ++ c9))))))))))) ∧ E 3 = (.pointer (some ⟨A, 0, none⟩)) ∧ E 7 = b6 ∧ E 8 = D ∧ E 10 = (.pointer (some ⟨d0, 0, none⟩)) ∧ E 17 = c8 ∧ E 18 = (.int .i64 ((k.aT.length : Int))) ∧ E 19 = (.int .i64 ((d8 : Int))) ∧ E 37 = (.bool d9)) 4 ?_ (fun d9 z b0 => ?_))))))))
    · rintro k7 E W ⟨c9, d, d2, d3, d4, h2, d5, d6, d7, h3⟩ y
      refine ln (CI y h3 (fun e8 y => ?_) (fun e8 y => ?_))
      · refine aU (Wh d4 (V (aO po h2) (Wf qW (VA d Mh (aG a.Signed.aB) isAgg53 sizeOf53 (VE (bJ (cs := (aG a.Signed.aB).toArray) d (dZ rfl) (ew underlying22 sizeOf53 zeroValue53) (fun j6 h1 d => ?_)))))))
        replace d := d.perm (Nr (Qb (Qb (Qb (Qb (Qb (Qb Qz)))))) Nz)
        refine bS y fun i1 e9 y => VE (ga (enc := aG) (v := D) (vs := (.slice (some ⟨h1, 0, none⟩) 1 1)) (R := G) d bI dc fC underlying22 eJ.1 eJ.2.1 rfl eJ.2.2.1 eJ.2.2.2 rfl rfl M (Sl.lit (enc := aG) (l := [a.Signed.aB]) bI rfl nb rfl (d.at_ (Ma Mh))) e9 (fun j7 i2 g7 d e7 => Wa (bK (bY (aR ?_)))))
        replace d := d.aF (Kr (Db (Db St)))
        exact ⟨d7, i2, i1, g7, c3, _, ⟨rfl, d6⟩, (u.trans a9), (d.aF (Sb (Pr Pz) (Sb (Pr Pz) (Sb (Pr Pz) (Sb (Pr Pz) St))))), d2, d3, rfl, d5, e7, (by rw [c6]; exact y)⟩
      refine cZ (bY (aR ?_))
      replace d := d.aF (Db St)
      exact ⟨d7, D, I, G, c3, _, ⟨rfl, d6⟩, (u.trans a9), (d.aF St), d2, d3, d4, d5, M, (by rw [c6]; exact y)⟩
    refine bC z (fun t z => ?_) (fun t z => ?_)
    · refine ug t (aH rfl (aK d.has Mh [(.int .i64 ((c.1).Op)), (.int .i64 ((c.1).K)), d1, e5, b8] rfl isAgg113 sizeOf113)) (ug t (aQ Z) (bS z fun k2 f3 z => kf t (Eg d call183 ((Ci c.1 b8 b6 (fun (x : aA) => ji x B.1 B.2.1 B.2.2.1 B.2.2.2.1 B.2.2.2.2.1 B.2.2.2.2.2.1 B.2.2.2.2.2.2) _ _ (c7.mono aN.mono d.aP) ⟨287, #[], #[(.pointer (some ⟨N, 0, none⟩)), (.pointer (some ⟨Q, 0, none⟩))], rfl, call287, fun W x r n hm => (Bj x N q e0 B.1 e1 B.2.1 e2 B.2.2.1 e3 B.2.2.2.1 e4 B.2.2.2.2.1 B.2.2.2.2.2.1 Q B.2.2.2.2.2.2 r W (h6.at (fun b o m => n _ _ ((fun b o m => d.at_ (Mt (Mt (Mt (Mt (Mt (Mt (Ma (Ml m))))))))) b o m))) (h7.sl bI (fun b o m => n _ _ ((fun b o m => d.at_ (Mt (Mt (Mt (Mt (Mt (Mt (Ma (Ma (Ml m)))))))))) b o m))) (h8.at (fun b o m => n _ _ ((fun b o m => d.at_ (Mt (Mt (Mt (Mt (Mt (Mt (Ma (Ma (Ma (Ml m))))))))))) b o m))) (h9.at (fun b o m => n _ _ ((fun b o m => d.at_ (Mt (Mt (Mt (Mt (Mt (Mt (Ma (Ma (Ma (Ma (Ml m)))))))))))) b o m))) ((i0.yP kB).mono (Pl.mono _) (ep (fun b o m => n _ _ ((fun b o m => d.at_ (Mt (Mt (Mt (Mt (Mt (Mt (Ma (Ma (Ma (Ma (Ma (Ml m))))))))))))) b o m)))) (At.of (n _ _ (d.at_ (Mt (Mt (Mt Mh))))) _ rfl) (At.of (n _ _ (d.at_ (Mt (Mt Mh)))) _ rfl) (At.of (n _ _ (d.at_ (Mt (Mt (Mt (Mt Mh)))))) _ rfl) hm).dK⟩ f3)) (fun j8 d => V (aY (cB t) rfl) ?_))))
      obtain rfl := sj z
      exact b0 _ _ ⟨_, (d.aF (Db St)), Y, Z, a3, rfl, a4, eN, F, rfl⟩
    refine un t (un t (un t (V (aZ (cB t) rfl) ?_)))
    obtain rfl := sj z
    exact b0 _ _ ⟨_, (d.aF (Db St)), Y, Z, a3, rfl, a4, eN, F, rfl⟩
  rintro E W ⟨D, I, G, s, P, ⟨F, eN⟩, u, d, Y, Z, a3, a4, M, j⟩
  rw [List.drop_length] at j
  refine aR ?_
  replace d := d.aF (Db (Db (Db (Db (Kr (Dr (Dr (Dr (Dr (Dr St))))))))))
  refine sg (Wh a3 (bS j fun k3 f4 j => VE (jg d call116 ((BD D I _ _ (M.sl bI (fun b o m => d.at_ (Ml m))) f4)) (fun j9 i3 k9 g8 d i4 ad c5 => Wa (ln ?_)))))
  replace d := d.aF (Kr (Dr St))
  refine bH ?_
  obtain rfl := sj j
  exact dH (v := i3) rfl rfl ⟨_, g8, rfl, d.gb (fun p m => (Ml m)) c5.nd, c5⟩
theorem AX (c : aB) (g : Nat) (a : Value) (j : List aB) (r : Bool) (w : World) (k : Sl (Pl aG) 9 (hp w) a j) (i : At (hp w) (.pointer (some ⟨g, 0, none⟩)) [a]) (hm : pD c j = some r) :
    bF true Tryz.prog 282 [(.agg (aG c).toArray), (.pointer (some ⟨g, 0, none⟩))] w (.bool r) := by
  refine cG 8 func282 rfl (fun b => sg (VE (bX b rfl (fun u z b => Wa (lr (V (aH rfl (mC b.has (y := a) i isAgg22)) (VA b Mh (aG c) isAgg53 sizeOf53 (bS hm fun B t hm => VE (Eg b call201 ((uA a j c _ _ (k.mono (Pl.mono _) b.aP) t)) (fun x b => V (gn rfl) (Wa ?_)))))))))))
  refine ln ?_
  exact bH (rQ hm b)
theorem yB (c : Value) (t : List aB) (k : Value) (g r : List aB) (w : World) (B : Sl (Pl aG) 9 (hp w) c t) (i : Sl (Pl aG) 9 (hp w) k g) (hm : qe t g = some r) :
    dP false Tryz.prog 175 [c, k] w 53 aG 9 r := by
  refine ng 9 func175 rfl (fun b => sg ?_)
  obtain ⟨H, K, rfl⟩ := i.form
  refine VE (bX b rfl (fun W4 u b => Wa (lr (Wm (bS hm fun U M hm => VE (jg b call228 (dP.dK (py c t _ _ (B.mono (Pl.mono _) b.aP) M)) (fun W7 N E I b D m z => V (lF (by exact nK rfl) rfl) (bS hm fun a2 G hm => ?_))))))))
  refine VE (tY b (Cr Qz Cn) call143 (fun hH s l h => (nq N U I (.func (.func 282) #[] #[(.pointer (some ⟨u, 0, none⟩))]) (fun (x : aB) => pD x g) _ _ ⟨hH, s, bO.refl _⟩ z ⟨282, #[], #[(.pointer (some ⟨u, 0, none⟩))], rfl, call282, fun W x r q hm => (AX x u (.slice H g.length K) g r W (i.mono (Pl.mono _) ((D.trans l).trans q)) (At.of (q _ _ (h _ _ Mh)) _ rfl) hm).dK⟩ G)) (fun Z a3 a4 Y b T n d y => ?_))
  obtain ⟨Q, J, a, rfl, j⟩ := y
  replace a := a.symm; subst a
  replace b := b.perm (Tr Tn)
  refine Wa (ln ?_)
  replace b := b.aF (Kr (Db St))
  refine bH ?_
  obtain rfl := sj hm
  exact dH (v := Q) rfl rfl ⟨_, J, rfl, b.gb (fun p A => (Ml A)) j.nd, j⟩
theorem ub (a : fL) (B G x z y U : Value) (r : ((List aB) × (List aB))) (w : World) (k : Sl bN 15 (hp w) B a.aC.aT) (t : Sl dF 8 (hp w) G a.aC.bP) (g : Sl bN 15 (hp w) x a.Client.aT) (j : Sl dF 8 (hp w) z a.Client.bP) (K : Sl aD 5 (hp w) y a.Formula.Kids) (a9 : Sl jV 2 (hp w) U a.Keys) (hm : iS a = some r) :
    dV false Tryz.prog 74 [(.agg #[(.string a.aC.Name), B, G, (.string a.Client.Name), x, z, (.int .i64 a.Formula.Op), (.int .i64 a.Formula.K), (.string a.Formula.aA.aC), (.string a.Formula.aA.aJ), y, (.int .i64 a.mo), (.int .i64 a.fh.oz), (.int .i64 a.fh.oA), (.int .i64 a.gl), (.int .i64 a.jE), (.int .i64 a.ij), U])] w [] (fun v L1 W' => ∃ y1 S2 y4 S5, v = (.tuple #[y1, y4]) ∧ L1 = (S2 ++ (S5 ++ [])) ∧ bG 53 aG 9 y1 r.1 S2 ∧ bG 53 aG 9 y4 r.2 S5) := by
  refine ng 48 func74 rfl (fun d => sg ?_)
  obtain ⟨A1, c2, rfl⟩ := k.form
  obtain ⟨A3, s, rfl⟩ := t.form
  let b2 := (C5 a.aC.Name A1 a.aC.aT.length c2 A3 a.aC.bP.length s)
  obtain ⟨A5, A, rfl⟩ := g.form
  obtain ⟨A7, F, rfl⟩ := j.form
  let b1 := (C5 a.Client.Name A5 a.Client.aT.length A A7 a.Client.bP.length F)
  obtain ⟨A9, d3, rfl⟩ := K.form
  obtain ⟨c7, d4, rfl⟩ := a9.form
  let a0 := (C2 a.aC.Name A1 a.aC.aT.length c2 A3 a.aC.bP.length s a.Client.Name A5 a.Client.aT.length A A7 a.Client.bP.length F a.Formula.Op a.Formula.K a.Formula.aA.aC a.Formula.aA.aJ A9 a.Formula.Kids.length d3 a.mo a.fh.oz a.fh.oA a.gl a.jE a.ij c7 a.Keys.length d4)
  refine VE (bX d rfl (fun j0 c1 d => Wa (Wa (ln (aW ?_)))))
  replace d := d.drew
  have h := d.has.aF (Kb Sn)
  refine cT h cE (X 0 rfl h (aO pu rfl) (XH 1 rfl h (fun _ P => aH rfl (aK P Mh b2 rfl isAgg110 sizeOf110)) (X 3 rfl h (aO pq rfl) (XH 4 rfl h (fun _ P => aH rfl (aK P Mh b1 rfl isAgg110 sizeOf110)) (bS hm fun h3 f8 hm => XE 2 rfl (jg d call174 ((zY a.aC (.slice A1 a.aC.aT.length c2) (.slice A3 a.aC.bP.length s) _ _ (k.mono bM.mono d.aP) (t.mono ev.mono d.aP) f8)) (fun j3 h5 j5 g9 d D ae f6 => ?_)))))))
  have h := d.has.na D (Dr (Kb Sn))
  refine ⟨h, (bS hm fun h4 f9 hm => XE 5 rfl (jg d call174 ((zY a.Client (.slice A5 a.Client.aT.length A) (.slice A7 a.Client.bP.length F) _ _ (g.mono bM.mono (D.trans d.aP)) (j.mono ev.mono (D.trans d.aP)) f9)) (fun j4 h6 e8 h0 d M af f7 => ?_)))⟩
  have h := d.has.na (D.trans M) (Dr (Dr (Kb Sn)))
  refine ⟨h, (X 6 rfl h (fW rfl) (X 7 rfl h (fW rfl) (dG kr (aR (jO (dN (fB (fun m E W => ∃ I p n J q a2 O c9, bO e8 O ∧ ST false cA w W O ((c1, Ol a0 116) :: (a2 ++ (n ++ c9))) ∧ E 1 = (.pointer (some ⟨c1, 0, none⟩)) ∧ E 4 = I ∧ E 5 = J ∧ bG 53 aG 9 I p n ∧ bG 53 aG 9 J q a2 ∧ gT a m p q = some r) bL ⟨h5, h3, g9, h6, h4, h0, e8, _, (bO.refl _), (d.aF (Sb (Pr (Pr Pz)) St)), rfl, rfl, rfl, f6, f7, hm⟩ ?_)))))))⟩
  rintro m E W ⟨I, p, n, J, q, a2, O, c9, H, d, T, a3, a4, Y, Z, i⟩
  cases m with
  | zero => rw [gT] at i; cases i
  | succ g0 =>
    refine bg (Wh a3 (V (aO pu T) (VA d Mh b2 isAgg110 sizeOf110 (Wh a4 (V (aO pq T) (Wf qi (VB d Mh rfl rfl isAgg9 (bS i fun g1 e4 i => VE (jg d call80 ((su a.aC (.slice A1 a.aC.aT.length c2) (.slice A3 a.aC.bP.length s) J q a.Client.Name _ _ (k.mono bM.mono (((D.trans M).trans H).trans d.aP)) (t.mono ev.mono (((D.trans M).trans H).trans d.aP)) (Z.sl bI (fun b o l => d.at_ (Mt (Ml l)))) e4)) (fun i2 g7 i7 i0 d a5 R e1 => bS i fun g2 e5 i => VE (jg d call175 ((yB I p g7 g1 _ _ (Y.sl bI (fun b o l => d.at_ (Ma (Mt (Ma (Ml l)))))) (e1.sl bI (fun b o l => d.at_ (Ml l))) e5)) (fun i3 d8 i8 d1 d L aa c3 => Wa ?_))))))))))))
    refine ln ?_
    replace d := d.aF (Kr (Dr St))
    refine sg (Wh a4 (V (aO pq T) (VA d (Ma Mh) b1 isAgg110 sizeOf110 (Wh a3 (V (aO pu T) (Wf qi (VB d (Ma Mh) rfl rfl isAgg9 (bS i fun g3 e6 i => VE (jg d call80 ((su a.Client (.slice A5 a.Client.aT.length A) (.slice A7 a.Client.bP.length F) I p a.aC.Name _ _ (g.mono bM.mono (((((D.trans M).trans H).trans a5).trans L).trans d.aP)) (j.mono ev.mono (((((D.trans M).trans H).trans a5).trans L).trans d.aP)) (Y.sl bI (fun b o l => d.at_ (Ma (Mt (Ma (Ml l)))))) e6)) (fun i4 g8 i9 i1 d d5 ab e2 => bS i fun g4 e7 i => VE (jg d call175 ((yB J q g8 g3 _ _ (Z.sl bI (fun b o l => d.at_ (Ma (Ma (Mt (Ml l)))))) (e2.sl bI (fun b o l => d.at_ (Ml l))) e7)) (fun i5 d9 e0 d2 d d6 ad c5 => Wa (bK ?_)))))))))))))
    refine aR ?_
    replace d := d.aF (Kr (Dr St))
    refine aW (sg (Wm (V (fi underlying22 rfl c3) (Wh a3 (V (fi underlying22 rfl Y) (Wi rfl (Wm (LJ i (fun d7 E W => ∃ d0, ST false cA w W e0 ((c1, Ol a0 116) :: (d2 ++ (d1 ++ (a2 ++ (n ++ d0))))) ∧ E 1 = (.pointer (some ⟨c1, 0, none⟩)) ∧ E 4 = I ∧ E 5 = J ∧ E 6 = d8 ∧ E 7 = d9 ∧ E 43 = (.bool d7)) 6 ?_ (fun d7 Q b0 => ?_)))))))))
    · rintro i6 E W ⟨d0, d, f0, f1, f2, f3, f4, f5⟩ N
      refine ln (CI N f5 (fun e3 N => ?_) (fun e3 N => ?_))
      · refine sg (Wh f1 (Wh f2 (Wa (Wa (ln ?_)))))
        replace d := d.aF (Db (Dr (Dr St)))
        refine bH (bU (eF (bU (eF (bU ?_)))))
        obtain rfl := sj N
        exact uQ (v := I) (u := J) rfl rfl rfl ⟨_, _, rfl, (d.Bx (Sr (Qr Qz) (Kr Sn))), I, n, J, a2, rfl, rfl, Y, Z⟩
      refine kn ?_
      replace d := d.aF (Kb (Kr (Kr (Dr (Dr St)))))
      exact aU (Wh f3 (Wh f4 (Wa (Wa (bK (bY (aR ⟨g0, Nat.lt_succ_self _, d8, g2, d1, d9, g4, d2, e0, _, ((((H.trans a5).trans L).trans d5).trans d6), (d.aF St), f0, rfl, rfl, c3, c5, N⟩)))))))
    refine bC Q (fun c Q => ?_) (fun c Q => ?_)
    · refine ug c (aQ rfl) (ug c (fi underlying22 rfl c5) (ug c (aQ a4) (ug c (fi underlying22 rfl Z) (ug c (cF rfl rfl rfl) (V (aY (cB c) rfl) ?_)))))
      obtain rfl := sj Q
      exact b0 _ _ ⟨_, (d.aF (Sb (Pr (Pr Pz)) St)), T, a3, a4, rfl, rfl, rfl⟩
    refine un c (un c (un c (un c (un c (V (aZ (cB c) rfl) ?_)))))
    obtain rfl := sj Q
    exact b0 _ _ ⟨_, (d.aF (Sb (Pr (Pr Pz)) St)), T, a3, a4, rfl, rfl, rfl⟩
theorem Fe (g : cR) (D K : Value) (i : cR) (G M : Value) (r : ((List aB) × (List aB) × Int)) (w : World) (x : Sl bN 15 (hp w) D g.aT) (I : Sl dF 8 (hp w) K g.bP) (y : Sl bN 15 (hp w) G i.aT) (J : Sl dF 8 (hp w) M i.bP) (hm : qX g i = some r) :
    dV false Tryz.prog 79 [(.agg #[(.string g.Name), D, K]), (.agg #[(.string i.Name), G, M])] w [] (fun v L1 W' => ∃ y1 S2 y4 S5, v = (.tuple #[y1, y4, (.int .i64 (r.2.2))]) ∧ L1 = (S2 ++ (S5 ++ [])) ∧ bG 53 aG 9 y1 r.1 S2 ∧ bG 53 aG 9 y4 r.2.1 S5) := by
  refine ng 41 func79 rfl (fun d => sg ?_)
  obtain ⟨A1, c2, rfl⟩ := x.form
  obtain ⟨A3, c4, rfl⟩ := I.form
  let q := (C5 g.Name A1 g.aT.length c2 A3 g.bP.length c4)
  refine VE (bX d rfl (fun W6 p d => ?_))
  obtain ⟨A7, c8, rfl⟩ := y.form
  obtain ⟨A9, L, rfl⟩ := J.form
  let a0 := (C5 i.Name A7 i.aT.length c8 A9 i.bP.length L)
  refine VE (bX d rfl (fun f8 n d => Wa (Wa (Wa (lr (Wa (Wa (lr (Wa ?_)))))))))
  refine ln (jO (dN (fB (fun m E W => ∃ t a4 N u a5 Q H a9 b9, bO (hp w) a9 ∧ ST false cA w W a9 ((n, Ol a0 110) :: ((p, Ol q 110) :: (Q ++ (N ++ b9)))) ∧ E 2 = (.pointer (some ⟨p, 0, none⟩)) ∧ E 3 = (.pointer (some ⟨n, 0, none⟩)) ∧ E 7 = t ∧ E 8 = u ∧ E 9 = (.int .i64 H) ∧ bG 53 aG 9 t a4 N ∧ bG 53 aG 9 u a5 Q ∧ iX g i m a4 a5 H = some r) bL ⟨(.slice none 0 0), ([]), [], (.slice none 0 0), ([]), [], 0, (hp w), _, (bO.refl _), (d.aF St), rfl, rfl, rfl, rfl, rfl, (bG.nil _ _ _), (bG.nil _ _ _), hm⟩ ?_)))
  rintro m E W ⟨t, a4, N, u, a5, Q, H, a9, b9, j, d, T, U, Y, Z, c9, a2, a3, c⟩
  cases m with
  | zero => rw [iX] at c; cases c
  | succ e6 =>
    refine aW (dN (aW ?_))
    replace d := d.drew
    have h := d.has.aF (Kb (Kb Sn))
    refine cT h cE (XH 0 rfl h (fun _ l => aH T (aK l (Mt Mh) q rfl isAgg110 sizeOf110)) (X 1 rfl h (aQ Z) (X 2 rfl h (aO qi U) (XH 3 rfl h (fun _ l => aH rfl (bA l Mh rfl isAgg9)) (XH 5 rfl h (fun _ l => aH U (aK l Mh a0 rfl isAgg110 sizeOf110)) (X 6 rfl h (aQ Y) (X 7 rfl h (aO qi T) (XH 8 rfl h (fun _ l => aH rfl (bA l (Mt Mh) rfl isAgg9)) (bS c fun e7 d7 c => XE 4 rfl (jg d call80 ((su g (.slice A1 g.aT.length c2) (.slice A3 g.bP.length c4) u a5 i.Name _ _ (x.mono bM.mono (j.trans d.aP)) (I.mono ev.mono (j.trans d.aP)) (a3.sl bI (fun b o F => d.at_ (Mt (Mt (Ml F))))) d7)) (fun f4 d2 f7 c1 d k s R => ?_)))))))))))
    have h := d.has.na k (Dr (Kb (Kb Sn)))
    refine ⟨h, (bS c fun e8 d8 c => XE 9 rfl (jg d call80 ((su i (.slice A7 i.aT.length c8) (.slice A9 i.bP.length L) t a4 g.Name _ _ (y.mono bM.mono ((j.trans k).trans d.aP)) (J.mono ev.mono ((j.trans k).trans d.aP)) (a2.sl bI (fun b o F => d.at_ (Ma (Mt (Mt (Ma (Ml F))))))) d8)) (fun f5 d3 d4 c3 d O A b2 => ?_)))⟩
    have h := d.has.na (k.trans O) (Dr (Dr (Kb (Kb Sn))))
    refine ⟨h, (X 10 rfl h (fW rfl) (X 11 rfl h (fW rfl) (dG kr (aR (aW (sg (Wm (V (fi underlying22 rfl R) (Wh Y (V (fi underlying22 rfl a2) (Wi rfl (Wm (LJ c (fun d1 E W => ∃ c0, ST false cA w W d4 ((n, Ol a0 110) :: ((p, Ol q 110) :: (c3 ++ (c1 ++ (Q ++ (N ++ c0)))))) ∧ E 2 = (.pointer (some ⟨p, 0, none⟩)) ∧ E 3 = (.pointer (some ⟨n, 0, none⟩)) ∧ E 7 = t ∧ E 8 = u ∧ E 9 = (.int .i64 H) ∧ E 10 = d2 ∧ E 11 = d3 ∧ E 35 = (.bool d1)) 6 ?_ (fun d1 B P => ?_))))))))))))))⟩
    · rintro f6 E W ⟨c0, d, d9, e0, e1, e2, d0, e3, e4, e5⟩ z
      refine ln (CI z e5 (fun d6 z => ?_) (fun d6 z => ?_))
      · refine sg (Wh e1 (Wh e2 (Wh d0 (Wa (Wa (Wa (ln ?_)))))))
        replace d := d.aF (Db (Db (Dr (Dr St))))
        refine bH (bU (eF (bU (bU (eF (bU ?_))))))
        obtain rfl := sj z
        exact DV (v0 := t) (v1 := u) (v2 := (.int .i64 H)) rfl rfl rfl rfl ⟨_, _, rfl, (d.Bx (Sr (Qr Qz) (Kr Sn))), t, N, u, Q, rfl, rfl, a2, a3⟩
      refine kn ?_
      replace d := d.aF (Kb (Kb (Kr (Kr (Dr (Dr St))))))
      exact aU (Wh e3 (Wh e4 (Wa (Wa (bK (bY (aR (aU (Wh d0 (Wi rfl (Wa (ln ⟨e6, Nat.lt_succ_self _, d2, e7, c1, d3, e8, c3, ((IntKind.i64.wrap (H + 1))), d4, _, ((j.trans k).trans O), (d.aF St), d9, e0, rfl, rfl, rfl, R, b2, z⟩))))))))))))
    refine bC B (fun a B => ?_) (fun a B => ?_)
    · refine ug a (aQ rfl) (ug a (fi underlying22 rfl b2) (ug a (aQ Z) (ug a (fi underlying22 rfl a3) (ug a (cF rfl rfl rfl) (V (aY (cB a) rfl) ?_)))))
      obtain rfl := sj B
      exact P _ _ ⟨_, (d.aF (Sb (Pr (Pr Pz)) (Sb (Pr (Pr Pz)) St))), T, U, Y, Z, c9, rfl, rfl, rfl⟩
    refine un a (un a (un a (un a (un a (V (aZ (cB a) rfl) ?_)))))
    obtain rfl := sj B
    exact P _ _ ⟨_, (d.aF (Sb (Pr (Pr Pz)) (Sb (Pr (Pr Pz)) St))), T, U, Y, Z, c9, rfl, rfl, rfl⟩
theorem AS (c : aB) (g : Nat) (a : Value) (j : List aB) (r : Bool) (w : World) (k : Sl (Pl aG) 9 (hp w) a j) (i : At (hp w) (.pointer (some ⟨g, 0, none⟩)) [a]) (hm : oH c j = some r) :
    bF true Tryz.prog 286 [(.agg (aG c).toArray), (.pointer (some ⟨g, 0, none⟩))] w (.bool r) := by
  refine cG 7 func286 rfl (fun b => sg (VE (bX b rfl (fun u z b => Wa (lr (V (aH rfl (mC b.has (y := a) i isAgg22)) (VA b Mh (aG c) isAgg53 sizeOf53 (bS hm fun B t hm => VE (Eg b call201 ((uA a j c _ _ (k.mono (Pl.mono _) b.aP) t)) (fun x b => Wa (bK ?_)))))))))))
  refine aR ?_
  exact bH (rQ hm b)
theorem xI (c : Value) (t : List aB) (k : Value) (g r : List aB) (w : World) (B : Sl (Pl aG) 9 (hp w) c t) (i : Sl (Pl aG) 9 (hp w) k g) (hm : pg t g = some r) :
    dP false Tryz.prog 179 [c, k] w 53 aG 9 r := by
  refine ng 9 func179 rfl (fun b => sg ?_)
  obtain ⟨H, K, rfl⟩ := i.form
  refine VE (bX b rfl (fun W4 u b => Wa (lr (Wm (bS hm fun U M hm => VE (jg b call228 (dP.dK (py c t _ _ (B.mono (Pl.mono _) b.aP) M)) (fun W7 N E I b D m z => V (lF (by exact nK rfl) rfl) (bS hm fun a2 G hm => ?_))))))))
  refine VE (tY b (Cr Qz Cn) call143 (fun hH s l h => (nq N U I (.func (.func 286) #[] #[(.pointer (some ⟨u, 0, none⟩))]) (fun (x : aB) => oH x g) _ _ ⟨hH, s, bO.refl _⟩ z ⟨286, #[], #[(.pointer (some ⟨u, 0, none⟩))], rfl, call286, fun W x r q hm => (AS x u (.slice H g.length K) g r W (i.mono (Pl.mono _) ((D.trans l).trans q)) (At.of (q _ _ (h _ _ Mh)) _ rfl) hm).dK⟩ G)) (fun Z a3 a4 Y b T n d y => ?_))
  obtain ⟨Q, J, a, rfl, j⟩ := y
  replace a := a.symm; subst a
  replace b := b.perm (Tr Tn)
  refine Wa (ln ?_)
  replace b := b.aF (Kr (Db St))
  refine bH ?_
  obtain rfl := sj hm
  exact dH (v := Q) rfl rfl ⟨_, J, rfl, b.gb (fun p A => (Ml A)) j.nd, j⟩
theorem uh (a : fL) (z B t y x G : Value) (r : ((List aB) × (List aB))) (w : World) (i : Sl bN 15 (hp w) z a.aC.aT) (j : Sl dF 8 (hp w) B a.aC.bP) (c : Sl bN 15 (hp w) t a.Client.aT) (g : Sl dF 8 (hp w) y a.Client.bP) (k : Sl aD 5 (hp w) x a.Formula.Kids) (D : Sl jV 2 (hp w) G a.Keys) (hm : kK a = some r) :
    dV false Tryz.prog 76 [(.agg #[(.string a.aC.Name), z, B, (.string a.Client.Name), t, y, (.int .i64 a.Formula.Op), (.int .i64 a.Formula.K), (.string a.Formula.aA.aC), (.string a.Formula.aA.aJ), x, (.int .i64 a.mo), (.int .i64 a.fh.oz), (.int .i64 a.fh.oA), (.int .i64 a.gl), (.int .i64 a.jE), (.int .i64 a.ij), G])] w [] (fun v L1 W' => ∃ O S2 P S5, v = (.tuple #[O, P]) ∧ L1 = (S2 ++ (S5 ++ [])) ∧ bG 53 aG 9 O r.1 S2 ∧ bG 53 aG 9 P r.2 S5) := by
  refine ng 29 func76 rfl (fun d => sg ?_)
  obtain ⟨K, Z, rfl⟩ := i.form
  obtain ⟨N, m, rfl⟩ := j.form
  obtain ⟨Q, n, rfl⟩ := c.form
  obtain ⟨T, p, rfl⟩ := g.form
  obtain ⟨A9, U, rfl⟩ := k.form
  obtain ⟨M, Y, rfl⟩ := D.form
  refine VE (bX d rfl (fun e7 f2 d => Wa (Wa (lr (VA d Mh (C2 a.aC.Name K a.aC.aT.length Z N a.aC.bP.length m a.Client.Name Q a.Client.aT.length n T a.Client.bP.length p a.Formula.Op a.Formula.K a.Formula.aA.aC a.Formula.aA.aJ A9 a.Formula.Kids.length U a.mo a.fh.oz a.fh.oA a.gl a.jE a.ij M a.Keys.length Y) isAgg116 sizeOf116 (bS hm fun a4 b3 hm => ?_))))))
  refine VE (tY d (List.Perm.refl _) call74 (fun _ _ _ _ => (ub a (.slice K a.aC.aT.length Z) (.slice N a.aC.bP.length m) (.slice Q a.Client.aT.length n) (.slice T a.Client.bP.length p) (.slice A9 a.Formula.Kids.length U) (.slice M a.Keys.length Y) _ _ (i.mono bM.mono d.aP) (j.mono ev.mono d.aP) (c.mono bM.mono d.aP) (g.mono ev.mono d.aP) (k.mono aN.mono d.aP) (D.mono px.mono d.aP) b3)) (fun e8 f5 f7 e1 d H A h a9 => ?_) (L0 := []))
  obtain ⟨d1, e3, d2, e4, I, rfl, b7, b9⟩ := a9
  replace I := I.symm; subst I
  replace d := d.perm (Tr (Tr Tn))
  refine Wm (Wx rfl (Wx rfl (Wa (Wa (lr (Wf pu (VA d (Ma (Ma Mh)) (C5 a.aC.Name K a.aC.aT.length Z N a.aC.bP.length m) isAgg110 sizeOf110 (Wf pq (VA d (Ma (Ma Mh)) (C5 a.Client.Name Q a.Client.aT.length n T a.Client.bP.length p) isAgg110 sizeOf110 (bS hm fun a5 b4 hm => ?_))))))))))
  refine VE (tY d (List.Perm.refl _) call79 (fun _ _ _ _ => (Fe a.aC (.slice K a.aC.aT.length Z) (.slice N a.aC.bP.length m) a.Client (.slice Q a.Client.aT.length n) (.slice T a.Client.bP.length p) _ _ (i.mono bM.mono (H.trans d.aP)) (j.mono ev.mono (H.trans d.aP)) (c.mono bM.mono (H.trans d.aP)) (g.mono ev.mono (H.trans d.aP)) b4)) (fun e9 f6 f8 e2 d d6 E h R => ?_) (L0 := []))
  obtain ⟨d4, e5, d5, e6, J, rfl, c0, c1⟩ := R
  replace J := J.symm; subst J
  replace d := d.perm (Tr (Tr Tn))
  refine Wm (Wx rfl (Wx rfl (Wx rfl (Wa (Wa (Wa (ln ?_)))))))
  replace d := d.aF (Kr (Kr (Kr (Kr (Db St)))))
  refine sg (Wm (Wm (bS hm fun f3 b5 hm => VE (jg d call179 ((xI d1 a4.1 d4 a5.1 _ _ (b7.sl bI (fun b o l => d.at_ (Ma (Ma (Ml l))))) (c0.sl bI (fun b o l => d.at_ (Ml l))) b5)) (fun f0 q f9 c3 d d7 F W => Wm (Wm (bS hm fun f4 b6 hm => VE (jg d call179 ((xI d2 a4.2 d5 a5.2.1 _ _ (b9.sl bI (fun b o l => d.at_ (Ma (Ma (Ma (Ma (Ml l))))))) (c1.sl bI (fun b o l => d.at_ (Ma (Ma (Ml l))))) b6)) (fun f1 s g0 c5 d d8 L b2 => Wa (Wa (ln ?_)))))))))))
  replace d := d.aF (Kr (Kr (Dr (Dr (Dr (Dr St))))))
  refine bH ?_
  obtain rfl := sj hm
  exact uQ (v := q) (u := s) rfl rfl rfl ⟨_, _, rfl, (d.Bx (Sr (Qr Qz) (Kr Sn))), q, c3, s, c5, rfl, rfl, W, b2⟩
theorem vo (a : cI) (g c : Value) (k : Nat) (u : aB) (r : Bool) (w : World) (j : Sl (Pl (dM .u8)) 1 (hp w) g a.Signed.Tag) (i : Sl aD 5 (hp w) c a.aI.Kids) (t : At (hp w) (.pointer (some ⟨k, 0, none⟩)) (aG u)) (hm : iL a u = some r) :
    bF true Tryz.prog 185 [(.agg #[(.int .i64 a.Signed.aB.Kind), (.string a.Signed.aB.Head.aC), (.string a.Signed.aB.Head.aJ), (.string a.Signed.aB.cH), (.string a.Signed.aB.B.aC), (.string a.Signed.aB.B.aJ), (.string a.Signed.aB.C.aC), (.string a.Signed.aB.C.aJ), (.string a.Signed.aB.cO), g, (.int .i64 a.aI.Op), (.int .i64 a.aI.K), (.string a.aI.aA.aC), (.string a.aI.aA.aJ), c]), (.pointer (some ⟨k, 0, none⟩))] w (.bool r) := by
  refine cG 9 func185 rfl (fun b => sg ?_)
  obtain ⟨x, z, rfl⟩ := j.form
  obtain ⟨y, B, rfl⟩ := i.form
  refine VE (bX b rfl (fun D G b => Wa (lr (Wf po (Wf qW (VA b Mh (aG a.Signed.aB) isAgg53 sizeOf53 (V (aH rfl (bE b.has t isAgg53 sizeOf53)) (V (oa rfl rfl (fS eqGuardType53) (kC (oN _ a.Signed.aB u))) (Wa (ln ?_))))))))))
  exact bH (rQ hm b)
theorem qT (c : Value) (u r : List cI) (w : World) {j : bW} (I : gj j [] w) (a : Sl bN 15 j c u) (hm : jr u = some r) :
    dR true Tryz.prog 186 [c] w j [] (fun v G J => ∃ z t, v = z ∧ G = (t ++ []) ∧ cL 138 bN 15 J z r t) := by
  unfold jr at hm
  refine nm I 8 func186 rfl (fun b => sg (Wa (lS (Wm ?_))))
  obtain ⟨D, Q, rfl⟩ := a.form
  refine V (tO underlying107 rfl rfl) (ln ?_)
  rcases D with _ | M
  · have y := a.isNil
    replace hm : some [] = some r := by rw [y] at hm; simpa [eT, maxLen] using hm
    refine qh (rfl) (sg (Wa (lt (bU ?_))))
    obtain rfl := sj hm
    refine dH (v := (.slice none 0 0)) rfl rfl ?_
    replace b := b.I5
    exact ⟨_, _, _, rfl, (b.ej (Kr Sn)), (bO.refl _), Lo.refl, (ST.cJ b (eE.mem (Kr Sn))), (.slice none 0 0), [], rfl, rfl, (cL.nil _ _ _ _)⟩
  · refine lI (rfl) (kg (VE (bJ (cs := #[]) b ju (th [] underlying107 sizeOf138 zeroValue138 dc rfl (by simp) rfl rfl) (fun N H b => Wm (bS hm fun T x hm => VE (iP (B := [(H, Ob #[] 138)]) bM b dc underlying107 zx.1 zx.2.1 rfl zx.2.2.1 zx.2.2.2 rfl rfl (cL.lit bM (l := []) .nil rfl nb rfl) (qE.sl bM a b.aP) x (fun K g k b i => Wa (lt ?_))))))))
    obtain rfl := sj hm
    exact dH (v := g) rfl rfl ⟨_, _, _, rfl, (b.ej (Kr Sn)), (bO.refl _), Lo.refl, (ST.cJ b (eE.mem (Kr Sn))), g, k, rfl, rfl, i⟩
set_option maxHeartbeats 1000000 in
theorem xT (a : fL) (a7 a8 a3 a6 a4 c7 : Value) (a1 : Int) (a2 : aB) (r : (fL × Bool)) (w : World) {μ0 : bW} (h0 : gj μ0 [] w) (k : Sl bN 15 μ0 a7 a.aC.aT) (D : Sl dF 8 μ0 a8 a.aC.bP) (c : Sl bN 15 μ0 a3 a.Client.aT) (u : Sl dF 8 μ0 a6 a.Client.bP) (t : Sl aD 5 μ0 a4 a.Formula.Kids) (N : Sl jV 2 μ0 c7 a.Keys) (hm : jD a a1 a2 = some r) :
    dR false Tryz.prog 81 [(.agg #[(.string a.aC.Name), a7, a8, (.string a.Client.Name), a3, a6, (.int .i64 a.Formula.Op), (.int .i64 a.Formula.K), (.string a.Formula.aA.aC), (.string a.Formula.aA.aJ), a4, (.int .i64 a.mo), (.int .i64 a.fh.oz), (.int .i64 a.fh.oA), (.int .i64 a.gl), (.int .i64 a.jE), (.int .i64 a.ij), c7]), (.int .i64 a1), (.agg (aG a2).toArray)] w μ0 [] (fun v L1 μ1 => ∃ y1 y3 y5 y7 y9 g2, v = (.tuple #[(.agg #[(.string (((r.1).aC).Name)), y1, y3, (.string (((r.1).Client).Name)), y5, y7, (.int .i64 (((r.1).Formula).Op)), (.int .i64 (((r.1).Formula).K)), (.string ((((r.1).Formula).aA).aC)), (.string ((((r.1).Formula).aA).aJ)), y9, (.int .i64 ((r.1).mo)), (.int .i64 (((r.1).fh).oz)), (.int .i64 (((r.1).fh).oA)), (.int .i64 ((r.1).gl)), (.int .i64 ((r.1).jE)), (.int .i64 ((r.1).ij)), g2]), (.bool (r.2))]) ∧ L1 = [] ∧ Sl bN 15 μ1 y1 (((r.1).aC).aT) ∧ Sl dF 8 μ1 y3 (((r.1).aC).bP) ∧ Sl bN 15 μ1 y5 (((r.1).Client).aT) ∧ Sl dF 8 μ1 y7 (((r.1).Client).bP) ∧ Sl aD 5 μ1 y9 (((r.1).Formula).Kids) ∧ Sl jV 2 μ1 g2 ((r.1).Keys)) := by
  refine nm h0 53 func81 rfl (fun b => sg ?_)
  obtain ⟨Q, U, rfl⟩ := k.form
  let s : Value := (.slice Q a.aC.aT.length U)
  obtain ⟨H, K, rfl⟩ := D.form
  let L : Value := (.slice H a.aC.bP.length K)
  obtain ⟨T, Y, rfl⟩ := c.form
  let q : Value := (.slice T a.Client.aT.length Y)
  obtain ⟨I, M, rfl⟩ := u.form
  let d3 : Value := (.slice I a.Client.bP.length M)
  obtain ⟨J, z, rfl⟩ := t.form
  let d2 : Value := (.slice J a.Formula.Kids.length z)
  obtain ⟨y, B, rfl⟩ := N.form
  let f4 : Value := (.slice y a.Keys.length B)
  let a0 := (C2 a.aC.Name Q a.aC.aT.length U H a.aC.bP.length K a.Client.Name T a.Client.aT.length Y I a.Client.bP.length M a.Formula.Op a.Formula.K a.Formula.aA.aC a.Formula.aA.aJ J a.Formula.Kids.length z a.mo a.fh.oz a.fh.oA a.gl a.jE a.ij y a.Keys.length B)
  refine VE (bX b rfl (fun l7 p b => VE (bX b rfl (fun l8 c0 b => VE (bR b zeroValue116 (fun l9 f7 b => Wa (lr (Wf pu (Wf pq (VE (bJ (cs := #[(.pointer (some ⟨p, 0, none⟩)), (.pointer (some ⟨p, 3, none⟩))]) b (gK rfl rfl) (ew underlying246 sizeOf245 zeroValue245) (fun m0 f8 b => Wa (ln (aW ?_))))))))))))))
  let F : Value := (.pointer (some ⟨c0, 0, none⟩))
  refine sg (Wm (Wi rfl (Wm (LJ hm (fun e7 E W => ∃ f6, ST false (keys []) w W μ0 ((f8, Ob #[(.pointer (some ⟨p, 0, none⟩)), (.pointer (some ⟨p, 3, none⟩))] 245) :: ((f7, Ob #[(.string zS), (.slice none 0 0), (.slice none 0 0), (.string zS), (.slice none 0 0), (.slice none 0 0), (.int .i64 0), (.int .i64 0), (.string zS), (.string zS), (.slice none 0 0), (.int .i64 0), (.int .i64 0), (.int .i64 0), (.int .i64 0), (.int .i64 0), (.int .i64 0), (.slice none 0 0)] 116) :: ((c0, Ol (aG a2) 53) :: ((p, Ol a0 116) :: f6)))) ∧ E 1 = (.int .i64 a1) ∧ E 3 = (.pointer (some ⟨p, 0, none⟩)) ∧ E 5 = F ∧ E 6 = (.pointer (some ⟨f7, 0, none⟩)) ∧ E 8 = (.slice (some ⟨f8, 0, none⟩) 2 2) ∧ E 21 = (.bool e7)) 5 ?_ (fun e7 A d5 => ?_)))))
  · rintro n5 E W ⟨f6, b, i2, d4, f9, d, i3, i4⟩ g
    refine ln (CI g i4 (fun g9 g => ?_) (fun g9 g => ?_))
    · refine sg (V (aH d4 (aK b.has (Mt (Mt (Mt Mh))) a0 rfl isAgg116 sizeOf116)) ?_)
      replace b := b.perm (Nb (Pb Pz) Nz)
      refine VO (aX (.agg a0.toArray) (a0.toArray) b d rfl sizeOf116 oc nb rfl (fun m1 b => Wa (ln ?_)))
      replace b := b.aF (Kb (Db (Db (Db St))))
      refine bH (bU ?_)
      obtain rfl := sj g
      exact ir (v0 := (.agg a0.toArray)) (v1 := (.bool false)) rfl d (aK b.has Mh a0 rfl isAgg116 sizeOf116) rfl ⟨_, _, _, rfl, (b.ej Sn), (bO.refl _), Lo.refl, (ST.cJ b (eE.mem Sn)), s, L, q, d3, d2, f4, rfl, rfl, k, D, c, u, t, N⟩
    refine kg (Wh i3 (Wh i2 (bC g (fun e3 g => ?_) (fun e3 g => ?_))))
    · refine V (A4 (i := 0) underlying246 sizeOf245 rfl (MC (j := 0) e3 rfl) dc dc rfl) (VB b Mh rfl rfl isAgg245 (Wa (ln ?_)))
      replace b := b.aF (Db St)
      refine sg (Wm (Wn (Wf kD (VB b (Mt (Mt Mh)) rfl rfl isAgg107 (V (lF (by exact nK f9) rfl) (bS g fun i5 h4 g => VE (Eg b call184 ((mr s a.aC.aT (.func (.func 185) #[] #[F]) (fun (x : cI) => iL x a2) _ _ (k.mono bM.mono b.aP) ⟨185, #[], #[F], rfl, call185, fun W x vs r hs hR hm => by obtain ⟨_, rfl, e2⟩ := hR; obtain ⟨u0, u1, rfl, k0, k1⟩ := e2.out; exact (vo x u0 u1 c0 a2 r W k0 k1 (At.of (hs _ _ (b.at_ (Mt Mh))) _ rfl) hm).dK⟩ h4)) (fun m2 b => Wa (ln ?_)))))))))
      replace b := b.aF (Kb (Db St))
      refine aW (sg (Wm (Wi rfl (ln (CI g rfl (fun h1 g => ?_) (fun h1 g => ?_))))))
      · refine sg (V (aH d4 (aK b.has (Mt Mh) a0 rfl isAgg116 sizeOf116)) (VO (aX (.agg a0.toArray) (a0.toArray) b d rfl sizeOf116 oc nb rfl (fun m3 b => Wa (ln ?_)))))
        replace b := b.aF (Kb (Db St))
        refine bH (bU ?_)
        obtain rfl := sj g
        exact ir (v0 := (.agg a0.toArray)) (v1 := (.bool false)) rfl d (aK b.has Mh a0 rfl isAgg116 sizeOf116) rfl ⟨_, _, _, rfl, (b.ej Sn), (bO.refl _), Lo.refl, (ST.cJ b (eE.mem Sn)), s, L, q, d3, d2, f4, rfl, rfl, k, D, c, u, t, N⟩
      refine kg (Wm (Wm (Wn (Wf kD (VB b (Mt Mh) rfl rfl isAgg107 (bS g fun c3 h5 g => ?_))))))
      refine VE (eD b (List.Perm.refl _) call186 (fun hh => dR.dK (qT s a.aC.aT _ _ hh (k.mono bM.mono (bO.refl _)) h5)) ?_ (L0 := []))
      rintro _ n3 n7 l4 b l O ⟨n6, l6, d6, rfl, d8⟩
      obtain rfl := d6.symm
      replace b := b.perm (Tr Tn)
      refine Wn (Wf kD ?_)
      obtain ⟨b9, c1, rfl⟩ := d8.form
      let b8 := (C2 a.aC.Name b9 c3.length c1 H a.aC.bP.length K a.Client.Name T a.Client.aT.length Y I a.Client.bP.length M a.Formula.Op a.Formula.K a.Formula.aA.aC a.Formula.aA.aJ J a.Formula.Kids.length z a.mo a.fh.oz a.fh.oA a.gl a.jE a.ij y a.Keys.length B)
      replace b := b.perm (Nb (Pr (Pb Pz)) Nz)
      refine VO (aX (.slice b9 c3.length c1) (b8.toArray) b rfl rfl sizeOf107 oc nb rfl (fun m5 b => lr (Wm (Wn (Wf kD (VB b Mh rfl rfl isAgg107 (Wm (V (dJ (v := (.agg vJ.toArray)) (dZ rfl) (cN zeroValue113 underlying113 (jZ _ underlying113) kr)) (bS g fun Z d7 g => VQ (cX (i := i5) bN.out underlying107 sizeOf138 rfl rfl d8 (bV d7) (bQ d7)) (fun n1 ⟨_, ⟨g0, g1, rfl, h8, k8⟩, e6, e5⟩ => VQ (Dj [(.int .i64 Z.aI.Op), (.int .i64 Z.aI.K), (.string Z.aI.aA.aC), (.string Z.aI.aA.aJ), g1] wJ rfl e6 (e5).f rfl) (fun n2 ⟨k7, h3⟩ => ?_)))))))))))
      replace b := b.perm (Nr (Qb Qz) Nz)
      refine VO (zc (x1 := ((⟨Z.Signed, (⟨2, 0, K0, []⟩ : Formula)⟩ : cI))) (ys := [(.int .i64 Z.Signed.aB.Kind), (.string Z.Signed.aB.Head.aC), (.string Z.Signed.aB.Head.aJ), (.string Z.Signed.aB.cH), (.string Z.Signed.aB.B.aC), (.string Z.Signed.aB.B.aJ), (.string Z.Signed.aB.C.aC), (.string Z.Signed.aB.C.aJ), (.string Z.Signed.aB.cO), g0, (.int .i64 Z.aI.Op), (.int .i64 Z.aI.K), (.string Z.aI.aA.aC), (.string Z.aI.aA.aJ), g1]) vJ bM b d8 rfl rfl e6 rfl e5 h3 (bQ d7) rfl (bN.mk ⟨g0, (.slice none 0 0), rfl, h8, (Sl.nil _ _ _)⟩) sizeOf113 dc (fun m6 l5 b g8 => lr (V (aH d4 (aK b.has (Ma Mh) b8 rfl isAgg116 sizeOf116)) ?_)))
      replace b := b.perm (Nb (Pr (Pb Pz)) Nz)
      refine VO (aX (.agg b8.toArray) (b8.toArray) b d rfl sizeOf116 oc nb rfl (fun m7 b => Wa (ln ?_)))
      replace b := b.aF (Kb (Kr (Db St)))
      refine bH ?_
      obtain rfl := sj g
      refine ir (v0 := (.agg b8.toArray)) (v1 := (.bool true)) rfl d (aK b.has Mh b8 rfl isAgg116 sizeOf116) rfl ?_
      replace b := b.perm (Nr (Qb Qz) Nz)
      obtain ⟨n8, b, m, P, h9⟩ := ST.ms bM b g8
      exact ⟨_, _, _, rfl, (b.ej Sn), (l.trans m), (O.trans P), (ST.cJ b (eE.mem Sn)), (.slice b9 c3.length c1), L, q, d3, d2, f4, rfl, rfl, h9, (D.mono ev.mono (l.trans m)), (c.mono bM.mono (l.trans m)), (u.mono ev.mono (l.trans m)), (t.mono aN.mono (l.trans m)), (N.mono px.mono (l.trans m))⟩
    refine bC g (fun e4 g => ?_) (fun e4 g => ?_)
    · refine V (A4 (i := 1) underlying246 sizeOf245 rfl (MC (j := 1) e4 rfl) dc dc rfl) (VB b Mh rfl rfl isAgg245 (Wa (ln ?_)))
      replace b := b.aF (Db St)
      refine sg (Wm (Wn (Wf kD (VB b (Mt (Mt Mh)) rfl rfl isAgg107 (V (lF (by exact nK f9) rfl) (bS g fun i6 h6 g => VE (Eg b call184 ((mr q a.Client.aT (.func (.func 185) #[] #[F]) (fun (x : cI) => iL x a2) _ _ (c.mono bM.mono b.aP) ⟨185, #[], #[F], rfl, call185, fun W x vs r hs hR hm => by obtain ⟨_, rfl, e2⟩ := hR; obtain ⟨u0, u1, rfl, k0, k1⟩ := e2.out; exact (vo x u0 u1 c0 a2 r W k0 k1 (At.of (hs _ _ (b.at_ (Mt Mh))) _ rfl) hm).dK⟩ h6)) (fun m8 b => Wa (ln ?_)))))))))
      replace b := b.aF (Kb (Db St))
      refine aW (sg (Wm (Wi rfl (ln (CI g rfl (fun h2 g => ?_) (fun h2 g => ?_))))))
      · refine sg (V (aH d4 (aK b.has (Mt Mh) a0 rfl isAgg116 sizeOf116)) (VO (aX (.agg a0.toArray) (a0.toArray) b d rfl sizeOf116 oc nb rfl (fun m9 b => Wa (ln ?_)))))
        replace b := b.aF (Kb (Db St))
        refine bH (bU ?_)
        obtain rfl := sj g
        exact ir (v0 := (.agg a0.toArray)) (v1 := (.bool false)) rfl d (aK b.has Mh a0 rfl isAgg116 sizeOf116) rfl ⟨_, _, _, rfl, (b.ej Sn), (bO.refl _), Lo.refl, (ST.cJ b (eE.mem Sn)), s, L, q, d3, d2, f4, rfl, rfl, k, D, c, u, t, N⟩
      refine kg (Wm (Wm (Wn (Wf kD (VB b (Mt Mh) rfl rfl isAgg107 (bS g fun c5 h7 g => ?_))))))
      refine VE (eD b (List.Perm.refl _) call186 (fun hh => dR.dK (qT q a.Client.aT _ _ hh (c.mono bM.mono (bO.refl _)) h7)) ?_ (L0 := []))
      rintro _ n4 n9 j8 b n R ⟨l2, k2, c9, rfl, d1⟩
      obtain rfl := c9.symm
      replace b := b.perm (Tr Tn)
      refine Wn (Wf kD ?_)
      obtain ⟨b0, b1, rfl⟩ := d1.form
      let c2 := (C2 a.aC.Name Q a.aC.aT.length U H a.aC.bP.length K a.Client.Name b0 c5.length b1 I a.Client.bP.length M a.Formula.Op a.Formula.K a.Formula.aA.aC a.Formula.aA.aJ J a.Formula.Kids.length z a.mo a.fh.oz a.fh.oA a.gl a.jE a.ij y a.Keys.length B)
      replace b := b.perm (Nb (Pr (Pb Pz)) Nz)
      refine VO (aX (.slice b0 c5.length b1) (c2.toArray) b rfl rfl sizeOf107 oc nb rfl (fun k3 b => lr (Wm (Wn (Wf kD (VB b Mh rfl rfl isAgg107 (Wm (V (dJ (v := (.agg vJ.toArray)) (dZ rfl) (cN zeroValue113 underlying113 (jZ _ underlying113) kr)) (bS g fun G d0 g => VQ (cX (i := i6) bN.out underlying107 sizeOf138 rfl rfl d1 (bV d0) (bQ d0)) (fun k9 ⟨_, ⟨e8, e9, rfl, f2, j5⟩, e0, d9⟩ => VQ (Dj [(.int .i64 G.aI.Op), (.int .i64 G.aI.K), (.string G.aI.aA.aC), (.string G.aI.aA.aJ), e9] wJ rfl e0 (d9).f rfl) (fun l0 ⟨j4, f1⟩ => ?_)))))))))))
      replace b := b.perm (Nr (Qb Qz) Nz)
      refine VO (zc (x1 := ((⟨G.Signed, (⟨2, 0, K0, []⟩ : Formula)⟩ : cI))) (ys := [(.int .i64 G.Signed.aB.Kind), (.string G.Signed.aB.Head.aC), (.string G.Signed.aB.Head.aJ), (.string G.Signed.aB.cH), (.string G.Signed.aB.B.aC), (.string G.Signed.aB.B.aJ), (.string G.Signed.aB.C.aC), (.string G.Signed.aB.C.aJ), (.string G.Signed.aB.cO), e8, (.int .i64 G.aI.Op), (.int .i64 G.aI.K), (.string G.aI.aA.aC), (.string G.aI.aA.aJ), e9]) vJ bM b d1 rfl rfl e0 rfl d9 f1 (bQ d0) rfl (bN.mk ⟨e8, (.slice none 0 0), rfl, f2, (Sl.nil _ _ _)⟩) sizeOf113 dc (fun k4 j9 b f0 => lr (V (aH d4 (aK b.has (Ma Mh) c2 rfl isAgg116 sizeOf116)) ?_)))
      replace b := b.perm (Nb (Pr (Pb Pz)) Nz)
      refine VO (aX (.agg c2.toArray) (c2.toArray) b d rfl sizeOf116 oc nb rfl (fun k5 b => Wa (ln ?_)))
      replace b := b.aF (Kb (Kr (Db St)))
      refine bH ?_
      obtain rfl := sj g
      refine ir (v0 := (.agg c2.toArray)) (v1 := (.bool true)) rfl d (aK b.has Mh c2 rfl isAgg116 sizeOf116) rfl ?_
      replace b := b.perm (Nr (Qb Qz) Nz)
      obtain ⟨l3, b, a9, h, f3⟩ := ST.ms bM b f0
      exact ⟨_, _, _, rfl, (b.ej Sn), (n.trans a9), (R.trans h), (ST.cJ b (eE.mem Sn)), s, L, (.slice b0 c5.length b1), d3, d2, f4, rfl, rfl, (k.mono bM.mono (n.trans a9)), (D.mono ev.mono (n.trans a9)), f3, (u.mono ev.mono (n.trans a9)), (t.mono aN.mono (n.trans a9)), (N.mono px.mono (n.trans a9))⟩
    cases g
  refine bC A (fun a5 A => ?_) (fun a5 A => ?_)
  · refine un a5 (un a5 (un a5 (un a5 (V (aY (cB a5) rfl) ?_))))
    obtain rfl := sj A
    exact d5 _ _ ⟨_, (b.aF St), rfl, rfl, rfl, rfl, rfl, rfl⟩
  refine ug a5 (aQ rfl) (ug a5 (aQ rfl) (ug a5 (uF underlying246 rfl) (ug a5 (cF rfl rfl rfl) (V (aZ (cB a5) rfl) ?_))))
  obtain rfl := sj A
  exact d5 _ _ ⟨_, (b.aF St), rfl, rfl, rfl, rfl, rfl, rfl⟩
theorem vh (a : fL) (x z i u j D : Value) (r : Bool) (w : World) (t : Sl bN 15 (hp w) x a.aC.aT) (y : Sl dF 8 (hp w) z a.aC.bP) (c : Sl bN 15 (hp w) i a.Client.aT) (k : Sl dF 8 (hp w) u a.Client.bP) (g : Sl aD 5 (hp w) j a.Formula.Kids) (B : Sl jV 2 (hp w) D a.Keys) (hm : jz a = some r) :
    bF false Tryz.prog 78 [(.agg #[(.string a.aC.Name), x, z, (.string a.Client.Name), i, u, (.int .i64 a.Formula.Op), (.int .i64 a.Formula.K), (.string a.Formula.aA.aC), (.string a.Formula.aA.aJ), j, (.int .i64 a.mo), (.int .i64 a.fh.oz), (.int .i64 a.fh.oA), (.int .i64 a.gl), (.int .i64 a.jE), (.int .i64 a.ij), D])] w (.bool r) := by
  refine cG 16 func78 rfl (fun b => sg ?_)
  obtain ⟨K, U, rfl⟩ := t.form
  obtain ⟨M, Y, rfl⟩ := y.form
  obtain ⟨N, Z, rfl⟩ := c.form
  obtain ⟨Q, h, rfl⟩ := k.form
  obtain ⟨T, I, rfl⟩ := g.form
  obtain ⟨H, J, rfl⟩ := B.form
  refine VE (bX b rfl (fun q v b => Wa (lr (VA b Mh (C2 a.aC.Name K a.aC.aT.length U M a.aC.bP.length Y a.Client.Name N a.Client.aT.length Z Q a.Client.bP.length h a.Formula.Op a.Formula.K a.Formula.aA.aC a.Formula.aA.aJ T a.Formula.Kids.length I a.mo a.fh.oz a.fh.oA a.gl a.jE a.ij H a.Keys.length J) isAgg116 sizeOf116 (bS hm fun A a3 hm => ?_)))))
  refine VE (tY b (List.Perm.refl _) call76 (fun _ _ _ _ => (uh a (.slice K a.aC.aT.length U) (.slice M a.aC.bP.length Y) (.slice N a.Client.aT.length Z) (.slice Q a.Client.bP.length h) (.slice T a.Formula.Kids.length I) (.slice H a.Keys.length J) _ _ (t.mono bM.mono b.aP) (y.mono ev.mono b.aP) (c.mono bM.mono b.aP) (k.mono ev.mono b.aP) (g.mono aN.mono b.aP) (B.mono px.mono b.aP) a3)) (fun s E O n b m l d a2 => ?_) (L0 := []))
  obtain ⟨F, p, L, a9, G, rfl, a4, a5⟩ := a2
  replace G := G.symm; subst G
  replace b := b.perm (Tr (Tr Tn))
  refine Wm (Wx rfl (Wx rfl (Wa (Wa (ln ?_)))))
  replace b := b.aF (Kr (Kr (Db St)))
  refine sg (Wm (V (fi underlying22 rfl a4) (Wm (V (fi underlying22 rfl a5) (Wi rfl (Wi rfl (Wa (ln ?_))))))))
  exact bH (rQ hm b)
set_option maxHeartbeats 1000000 in
theorem Dp (r : Bool) (w : World) (hm : pn  = some r) :
    bF false Tryz.prog 72 [] w (.bool r) := by
  let dy : Value := (.agg (aG E4).toArray)
  let dx : Value := (.agg (aG xM).toArray)
  refine cG 86 func72 rfl (fun b => sg (Wa (lr (V (dJ (v := (.agg (aM K7).toArray)) (gK rfl rfl) (cN zeroValue28 underlying28 (B3 _ underlying28) kr)) (V (dJ (v := dx) (yk rfl rfl rfl) (cN zeroValue53 underlying53 (IW _ underlying53) kr)) (VE (bR b zeroValue53 (fun W2 b1 b => VO (aX dx ((aG xM).toArray) b rfl rfl sizeOf53 (fC xM) nb rfl (fun W3 b => ln (aW ?_)))))))))))
  refine aU (V (dJ (v := (.agg (aM K9).toArray)) (gK rfl rfl) (cN zeroValue28 underlying28 (B3 _ underlying28) kr)) (V (dJ (v := dy) (yk rfl rfl rfl) (cN zeroValue53 underlying53 (IW _ underlying53) kr)) (VE (bR b zeroValue53 (fun W5 b4 b => VO (aX dy ((aG E4).toArray) b rfl rfl sizeOf53 (fC E4) nb rfl (fun W6 b => lr (Wa (ln (aW ?_))))))))))
  replace b := b.drew
  have d := b.has.aF (Kb (Kb Sn))
  refine cT d cE (X 0 rfl d (aQ rfl) (XH 1 rfl d (fun _ R => aH rfl (aK R Mh (aG E4) rfl isAgg53 sizeOf53)) (X 2 rfl d (aO jT rfl) (XH 3 rfl d (fun _ R => aH rfl (aK R (Mt Mh) (aM K7) rfl isAgg28 sizeOf28)) (X 6 rfl d (aQ rfl) (XH 7 rfl d (fun _ R => aH rfl (aK R (Mt Mh) (aG xM) rfl isAgg53 sizeOf53)) (X 8 rfl d (aO jT rfl) (XH 9 rfl d (fun _ R => aH rfl (aK R Mh (aM K9) rfl isAgg28 sizeOf28)) (PJ hm (fun g E W => ∃ d4 k5 i5 k6 i6 i7 i8 i9 j0 j3 j4 j5 j6 l m4, bO (hp w) l ∧ ST false cA w W l ((d4, Ob #[(.string g.2.2.2.2.2.2.2.2.2.2.2.2.2.2.2.2.1), i9, j0, (.string g.2.2.2.2.2.2.2.2.2.2.2.2.2.2.2.2.2.2.2.1), j3, j4, (.int .i64 g.2.2.2.2.2.2.2.2.2.2.2.2.2.2.2.2.2.2.2.2.2.2.1), (.int .i64 g.2.2.2.2.2.2.2.2.2.2.2.2.2.2.2.2.2.2.2.2.2.2.2.1), (.string g.2.2.2.2.2.2.2.2.2.2.2.2.2.2.2.2.2.2.2.2.2.2.2.2.1.aC), (.string g.2.2.2.2.2.2.2.2.2.2.2.2.2.2.2.2.2.2.2.2.2.2.2.2.1.aJ), j5, (.int .i64 g.2.2.2.2.2.2.2.2.2.2.2.2.2.2.2.2.2.2.2.2.2.2.2.2.2.2.1), (.int .i64 g.2.2.2.2.2.2.2.2.2.2.2.2.2.2.2.2.2.2.2.2.2.2.2.2.2.2.2.1.oz), (.int .i64 g.2.2.2.2.2.2.2.2.2.2.2.2.2.2.2.2.2.2.2.2.2.2.2.2.2.2.2.1.oA), (.int .i64 g.2.2.2.2.2.2.2.2.2.2.2.2.2.2.2.2.2.2.2.2.2.2.2.2.2.2.2.2.1), (.int .i64 g.2.2.2.2.2.2.2.2.2.2.2.2.2.2.2.2.2.2.2.2.2.2.2.2.2.2.2.2.2.1), (.int .i64 g.2.2.2.2.2.2.2.2.2.2.2.2.2.2.2.2.2.2.2.2.2.2.2.2.2.2.2.2.2.2.1), j6] 116) :: ((b4, Ol (aG E4) 53) :: ((b1, Ol (aG xM) 53) :: m4))) ∧ E 1 = (.pointer (some ⟨b1, 0, none⟩)) ∧ E 4 = (.pointer (some ⟨d4, 0, none⟩)) ∧ E 29 = (.agg #[(.string g.1), k5, i5, (.string g.2.2.2.1), k6, i6, (.int .i64 g.2.2.2.2.2.2.1), (.int .i64 g.2.2.2.2.2.2.2.1), (.string g.2.2.2.2.2.2.2.2.1.aC), (.string g.2.2.2.2.2.2.2.2.1.aJ), i7, (.int .i64 g.2.2.2.2.2.2.2.2.2.2.1), (.int .i64 g.2.2.2.2.2.2.2.2.2.2.2.1.oz), (.int .i64 g.2.2.2.2.2.2.2.2.2.2.2.1.oA), (.int .i64 g.2.2.2.2.2.2.2.2.2.2.2.2.1), (.int .i64 g.2.2.2.2.2.2.2.2.2.2.2.2.2.1), (.int .i64 g.2.2.2.2.2.2.2.2.2.2.2.2.2.2.1), i8]) ∧ Sl bN 15 l k5 g.2.1 ∧ Sl dF 8 l i5 g.2.2.1 ∧ Fr w.heap.size i5 ∧ Sl bN 15 l k6 g.2.2.2.2.1 ∧ Sl dF 8 l i6 g.2.2.2.2.2.1 ∧ Fr w.heap.size i6 ∧ Sl aD 5 l i7 g.2.2.2.2.2.2.2.2.2.1 ∧ Fr w.heap.size i7 ∧ Sl jV 2 l i8 g.2.2.2.2.2.2.2.2.2.2.2.2.2.2.2.1 ∧ Fr w.heap.size i8 ∧ Sl bN 15 l i9 g.2.2.2.2.2.2.2.2.2.2.2.2.2.2.2.2.2.1 ∧ Fr w.heap.size i9 ∧ Sl dF 8 l j0 g.2.2.2.2.2.2.2.2.2.2.2.2.2.2.2.2.2.2.1 ∧ Fr w.heap.size j0 ∧ Sl bN 15 l j3 g.2.2.2.2.2.2.2.2.2.2.2.2.2.2.2.2.2.2.2.2.1 ∧ Fr w.heap.size j3 ∧ Sl dF 8 l j4 g.2.2.2.2.2.2.2.2.2.2.2.2.2.2.2.2.2.2.2.2.2.1 ∧ Fr w.heap.size j4 ∧ Sl aD 5 l j5 g.2.2.2.2.2.2.2.2.2.2.2.2.2.2.2.2.2.2.2.2.2.2.2.2.2.1 ∧ Fr w.heap.size j5 ∧ Sl jV 2 l j6 g.2.2.2.2.2.2.2.2.2.2.2.2.2.2.2.2.2.2.2.2.2.2.2.2.2.2.2.2.2.2.2 ∧ Fr w.heap.size j6) (bm 15 16383) 1 ?_ (fun g I h0 => ?_))))))))))
  · rintro ⟨a3, u, x, a4, y, z, a5, a6, k, B, a7, t, a8, a9, b0, D, bi, al, am, bj, an, ao, bk, bl, bn, ap, bo, bp, bq, bs, bt, aq⟩ E W ⟨d4, k5, i5, k6, i6, i7, i8, i9, j0, j3, j4, j5, j6, l, m4, j7, b, n9, O, u4, e2, e3, w3, e4, e5, w4, e6, w5, e7, w6, x3, w7, x4, w8, x5, w9, x6, x0, x7, x1, x8, x2⟩ F
    let dv : Value := (.pointer (some ⟨d4, 0, none⟩))
    let g6 := ((⟨(⟨a3, u, x⟩ : cR), (⟨a4, y, z⟩ : cR), (⟨a5, a6, k, B⟩ : Formula), a7, t, a8, a9, b0, D⟩ : fL))
    obtain ⟨J, U, rfl⟩ := e2.form
    let dn : Value := (.slice J u.length U)
    obtain ⟨K, Y, rfl⟩ := e3.form
    let dp : Value := (.slice K x.length Y)
    obtain ⟨M, Z, rfl⟩ := e4.form
    let dq : Value := (.slice M y.length Z)
    obtain ⟨N, a0, rfl⟩ := e5.form
    let dk : Value := (.slice N z.length a0)
    obtain ⟨Q, a1, rfl⟩ := e6.form
    let dl : Value := (.slice Q B.length a1)
    obtain ⟨T, a2, rfl⟩ := e7.form
    let dm : Value := (.slice T D.length a2)
    let g5 := (C2 a3 J u.length U K x.length Y a4 M y.length Z N z.length a0 a5 a6 k.aC k.aJ Q B.length a1 a7 t.oz t.oA a8 a9 b0 T D.length a2)
    refine XO 14 rfl (aX (.agg g5.toArray) (g5.toArray) b O u4 sizeOf116 oc nb rfl (fun z0 b => ?_))
    have d := b.has.na j7 (Db (Kb (Kb Sn)))
    refine ⟨d, (dG kr (aR ?_))⟩
    replace b := b.aF (Kb (Db St))
    refine sg (V (aH O (aK b.has Mh g5 rfl isAgg116 sizeOf116)) (bS F fun ar r9 F => ?_))
    refine VE (tY b (List.Perm.refl _) call76 (fun _ _ _ _ => (uh g6 dn dp dq dk dl dm _ _ (e2.mono bM.mono b.aP) (e3.mono ev.mono b.aP) (e4.mono bM.mono b.aP) (e5.mono ev.mono b.aP) (e6.mono aN.mono b.aP) (e7.mono px.mono b.aP) r9)) (fun z1 ay cv x9 b i cS aE q3 => ?_) (L0 := []))
    obtain ⟨cc, y8, cd, y9, h5, rfl, t0, t1⟩ := q3
    replace h5 := h5.symm; subst h5
    replace b := b.perm (Tr (Tr Tn))
    refine Wm (Wx rfl (Wx rfl (Wa (Wa (lr (V (aH O (aK b.has (Ma (Ma Mh)) g5 rfl isAgg116 sizeOf116)) (bS F fun au s0 F => ?_)))))))
    refine VE (tY b (List.Perm.refl _) call74 (fun _ _ _ _ => (ub g6 dn dp dq dk dl dm _ _ (e2.mono bM.mono (i.trans b.aP)) (e3.mono ev.mono (i.trans b.aP)) (e4.mono bM.mono (i.trans b.aP)) (e5.mono ev.mono (i.trans b.aP)) (e6.mono aN.mono (i.trans b.aP)) (e7.mono px.mono (i.trans b.aP)) s0)) (fun z2 az cw y0 b j eg aE q4 => ?_) (L0 := []))
    obtain ⟨v8, u0, q2, n2, h6, rfl, t2, t3⟩ := q4
    replace h6 := h6.symm; subst h6
    replace b := b.perm (Tr (Tr Tn))
    refine Wm (Wx rfl (Wx rfl (Wa (Wa (lr (V (aH O (aK b.has (Ma (Ma (Ma (Ma Mh)))) g5 rfl isAgg116 sizeOf116)) (V (aH n9 (aK b.has (Ma (Ma (Ma (Ma (Mt Mh))))) (aG xM) rfl isAgg53 sizeOf53)) (bS F fun a s1 F => ?_))))))))
    let du : Value := (.int .i64 ((a.1).mo))
    let dt : Value := (.int .i64 ((a.1).jE))
    let ds : Value := (.int .i64 ((a.1).ij))
    let dr : Value := (.int .i64 ((a.1).gl))
    let dj : Value := (.string (((a.1).aC).Name))
    let di : Value := (.int .i64 (((a.1).fh).oA))
    let dh : Value := (.int .i64 (((a.1).fh).oz))
    let dg : Value := (.int .i64 (((a.1).Formula).K))
    let df : Value := (.string (((a.1).Client).Name))
    let de : Value := (.int .i64 (((a.1).Formula).Op))
    let db := (((a.1).Formula).aA)
    let ea : Value := (.string (db.aJ))
    let dz : Value := (.string (db.aC))
    refine VE (Fo b (List.Perm.refl _) call81 (fun hH m h n => (xT g6 dn dp dq dk dl dm 1 xM _ _ ⟨hH, m, h⟩ (e2.mono bM.mono (i.trans j)) (e3.mono ev.mono (i.trans j)) (e4.mono bM.mono (i.trans j)) (e5.mono ev.mono (i.trans j)) (e6.mono aN.mono (i.trans j)) (e7.mono px.mono (i.trans j)) s1)) (fun z3 ba cx y1 b G eh q5 => ?_) (L0 := []))
    obtain ⟨ce, cf, cg, ch, ci, cj, h7, rfl, k7, k8, k9, l0, l1, l2⟩ := q5
    replace h7 := h7.symm; subst h7
    replace b := b.perm Tn
    refine Wm (Wx rfl (Wx rfl (VE (bR b zeroValue116 (fun z4 L b => ?_)))))
    let l7 : Value := (.pointer (some ⟨L, 0, none⟩))
    obtain ⟨c2, c8, rfl⟩ := k7.form
    let w2 : Value := (.slice c2 (((a.1).aC).aT).length c8)
    obtain ⟨c3, c9, rfl⟩ := k8.form
    let da : Value := (.slice c3 (((a.1).aC).bP).length c9)
    obtain ⟨c4, d0, rfl⟩ := k9.form
    let j1 : Value := (.slice c4 (((a.1).Client).aT).length d0)
    obtain ⟨c5, d1, rfl⟩ := l0.form
    let aj : Value := (.slice c5 (((a.1).Client).bP).length d1)
    obtain ⟨c6, d2, rfl⟩ := l1.form
    let j2 : Value := (.slice c6 (((a.1).Formula).Kids).length d2)
    obtain ⟨c7, d3, rfl⟩ := l2.form
    let dd : Value := (.slice c7 ((a.1).Keys).length d3)
    let b8 := (#[dj, w2, da, df, j1, aj, de, dg, dz, ea, j2, du, dh, di, dr, dt, ds, dd] : Array Value)
    refine VO (aX (.agg #[dj, w2, da, df, j1, aj, de, dg, dz, ea, j2, du, dh, di, dr, dt, ds, dd]) (#[dj, w2, da, df, j1, aj, de, dg, dz, ea, j2, du, dh, di, dr, dt, ds, dd]) b rfl rfl sizeOf116 oc nb rfl (fun z5 b => Wa (lr (V (aH O (aK b.has (Mt (Ma (Ma (Ma (Ma Mh))))) g5 rfl isAgg116 sizeOf116)) (V (aH n9 (aK b.has (Mt (Ma (Ma (Ma (Ma (Mt Mh)))))) (aG xM) rfl isAgg53 sizeOf53)) (bS F fun c s2 F => ?_))))))
    let dw := (((c.1).Formula).aA)
    refine VE (Fo b (List.Perm.refl _) call81 (fun hH m h n => (xT g6 dn dp dq dk dl dm 0 xM _ _ ⟨hH, m, h⟩ (e2.mono bM.mono ((i.trans j).trans G)) (e3.mono ev.mono ((i.trans j).trans G)) (e4.mono bM.mono ((i.trans j).trans G)) (e5.mono ev.mono ((i.trans j).trans G)) (e6.mono aN.mono ((i.trans j).trans G)) (e7.mono px.mono ((i.trans j).trans G)) s2)) (fun z6 bb P y2 b H en q6 => ?_) (L0 := []))
    obtain ⟨ck, cl, cm, cn, co, cp, h8, rfl, t4, t5, t6, t7, t8, t9⟩ := q6
    replace h8 := h8.symm; subst h8
    replace b := b.perm Tn
    refine Wm (Wx rfl (Wx rfl (VE (bR b zeroValue116 (fun z7 ak b => ?_)))))
    obtain ⟨l8, n3, rfl⟩ := t4.form
    let ee : Value := (.slice l8 (((c.1).aC).aT).length n3)
    obtain ⟨l9, n4, rfl⟩ := t5.form
    obtain ⟨m0, n5, rfl⟩ := t6.form
    let ec : Value := (.slice m0 (((c.1).Client).aT).length n5)
    obtain ⟨m1, n6, rfl⟩ := t7.form
    let ef : Value := (.slice m1 (((c.1).Client).bP).length n6)
    obtain ⟨m2, n7, rfl⟩ := t8.form
    let ed : Value := (.slice m2 (((c.1).Formula).Kids).length n7)
    obtain ⟨m3, n8, rfl⟩ := t9.form
    refine VO (aX (.agg #[(.string (((c.1).aC).Name)), ee, (.slice l9 (((c.1).aC).bP).length n4), (.string (((c.1).Client).Name)), ec, ef, (.int .i64 (((c.1).Formula).Op)), (.int .i64 (((c.1).Formula).K)), (.string (dw.aC)), (.string (dw.aJ)), ed, (.int .i64 ((c.1).mo)), (.int .i64 (((c.1).fh).oz)), (.int .i64 (((c.1).fh).oA)), (.int .i64 ((c.1).gl)), (.int .i64 ((c.1).jE)), (.int .i64 ((c.1).ij)), (.slice m3 ((c.1).Keys).length n8)]) (#[(.string (((c.1).aC).Name)), ee, (.slice l9 (((c.1).aC).bP).length n4), (.string (((c.1).Client).Name)), ec, ef, (.int .i64 (((c.1).Formula).Op)), (.int .i64 (((c.1).Formula).K)), (.string (dw.aC)), (.string (dw.aJ)), ed, (.int .i64 ((c.1).mo)), (.int .i64 (((c.1).fh).oz)), (.int .i64 (((c.1).fh).oA)), (.int .i64 ((c.1).gl)), (.int .i64 ((c.1).jE)), (.int .i64 ((c.1).ij)), (.slice m3 ((c.1).Keys).length n8)]) b rfl rfl sizeOf116 oc nb rfl (fun z8 b => Wa (ln ?_)))
    replace b := b.aF (Db (Kb (Kr (Kr (Kr (Kr (Kb (Db St))))))))
    refine sg (Wm (V (fi underlying22 rfl t0) (Wi rfl (Wm (LJ F (fun q1 E W => ∃ m5, ST false cA w W P ((L, Obj.cells b8 116 (0, 0)) :: ((d4, Ol g5 116) :: (u0 ++ (n2 ++ m5)))) ∧ E 4 = dv ∧ E 7 = v8 ∧ E 8 = q2 ∧ E 9 = l7 ∧ E 10 = (.bool a.2) ∧ E 12 = (.bool c.2) ∧ E 59 = (.bool q1)) 4 ?_ (fun q1 f6 k4 => ?_))))))
    · rintro bu E W ⟨m5, b, o0, u5, o1, o2, o3, o4, u6⟩ r2
      refine Wh u6 (LJ r2 (fun q0 E W => ∃ m6, ST false cA w W P ((L, Obj.cells b8 116 (0, 0)) :: ((d4, Ol g5 116) :: (n2 ++ m6))) ∧ E 4 = dv ∧ E 8 = q2 ∧ E 9 = l7 ∧ E 10 = (.bool a.2) ∧ E 12 = (.bool c.2) ∧ E 64 = (.bool q0)) 4 ?_ (fun q0 f5 k3 => ?_))
      · rintro bv E W ⟨m6, b, o5, u7, o6, o7, o8, u8⟩ r3
        refine Wh u8 (LJ r3 (fun p9 E W => ∃ m7, ST false cA w W P ((L, Obj.cells b8 116 (0, 0)) :: ((d4, Ol g5 116) :: m7)) ∧ E 4 = dv ∧ E 9 = l7 ∧ E 10 = (.bool a.2) ∧ E 12 = (.bool c.2) ∧ E 69 = (.bool p9)) 4 ?_ (fun p9 f4 k2 => ?_))
        · rintro bw E W ⟨m7, b, u9, o9, p0, p1, v0⟩ r4
          refine Wh v0 (LJ r4 (fun p8 E W => ∃ m8, ST false cA w W P ((L, Obj.cells b8 116 (0, 0)) :: m8) ∧ E 9 = l7 ∧ E 10 = (.bool a.2) ∧ E 12 = (.bool c.2) ∧ E 74 = (.bool p8)) 4 ?_ (fun p8 d8 k1 => ?_))
          · rintro bx E W ⟨m8, b, p2, v1, p3, v2⟩ r5
            refine Wh v2 (LJ r5 (fun p7 E W => ∃ m9, ST false cA w W P ((L, Obj.cells b8 116 (0, 0)) :: m9) ∧ E 9 = l7 ∧ E 12 = (.bool c.2) ∧ E 77 = (.bool p7)) 2 ?_ (fun p7 f3 k0 => ?_))
            · rintro bz E W ⟨m9, b, p4, v3, v4⟩ r6
              refine Wh v4 (LJ r6 (fun p6 E W => ∃ n0, ST false cA w W P ((L, Obj.cells b8 116 (0, 0)) :: n0) ∧ E 9 = l7 ∧ E 81 = (.bool p6)) 3 ?_ (fun p6 f2 j9 => ?_))
              · rintro ca E W ⟨n0, b, v5, v6⟩ r7
                refine Wh v6 (LJ r7 (fun p5 E W => ∃ n1, ST false cA w W P n1 ∧ E 85 = (.bool p5)) 3 ?_ (fun p5 d7 j8 => ?_))
                · rintro cb E W ⟨n1, b, v7⟩ r8
                  exact Wg v7 (lt (rQ r8 b))
                refine bC d7 (fun d6 d7 => ?_) (fun d6 d7 => ?_)
                · refine ug d6 (aH v5 (aK b.has Mh [dj, w2, da, df, j1, aj, de, dg, dz, ea, j2, du, dh, di, dr, dt, ds, dd] rfl isAgg116 sizeOf116)) (bS d7 fun av s3 d7 => kf d6 (Eg b call78 ((vh a.1 w2 da j1 aj j2 dd _ _ (k7.mono bM.mono (H.trans b.aP)) (k8.mono ev.mono (H.trans b.aP)) (k9.mono bM.mono (H.trans b.aP)) (l0.mono ev.mono (H.trans b.aP)) (l1.mono aN.mono (H.trans b.aP)) (l2.mono px.mono (H.trans b.aP)) s3)) (fun z9 b => V (aY (cB d6) rfl) ?_)))
                  obtain rfl := sj d7
                  exact j8 _ _ ⟨_, (b.aF (Db St)), rfl⟩
                refine un d6 (un d6 (V (aZ (cB d6) rfl) ?_))
                obtain rfl := sj d7
                exact j8 _ _ ⟨_, (b.aF (Db St)), rfl⟩
              refine bC f2 (fun d5 f2 => ?_) (fun d5 f2 => ?_)
              · refine ug d5 (aQ v3) (ug d5 (gn rfl) (V (aY (cB d5) rfl) ?_))
                obtain rfl := sj f2
                exact j9 _ _ ⟨_, (b.aF St), p4, rfl⟩
              refine un d5 (un d5 (V (aZ (cB d5) rfl) ?_))
              obtain rfl := sj f2
              exact j9 _ _ ⟨_, (b.aF St), p4, rfl⟩
            refine bC f3 (fun f0 f3 => ?_) (fun f0 f3 => ?_)
            · refine ug f0 (aQ v1) (V (aY (cB f0) rfl) ?_)
              obtain rfl := sj f3
              exact k0 _ _ ⟨_, (b.aF St), p2, p3, rfl⟩
            refine un f0 (V (aZ (cB f0) rfl) ?_)
            obtain rfl := sj f3
            exact k0 _ _ ⟨_, (b.aF St), p2, p3, rfl⟩
          refine bC d8 (fun A d8 => ?_) (fun A d8 => ?_)
          · refine ug A (aH u9 (aK b.has (Mt Mh) g5 rfl isAgg116 sizeOf116)) (bS d8 fun aw s4 d8 => kf A (Eg b call78 ((vh g6 dn dp dq dk dl dm _ _ (e2.mono bM.mono ((((i.trans j).trans G).trans H).trans b.aP)) (e3.mono ev.mono ((((i.trans j).trans G).trans H).trans b.aP)) (e4.mono bM.mono ((((i.trans j).trans G).trans H).trans b.aP)) (e5.mono ev.mono ((((i.trans j).trans G).trans H).trans b.aP)) (e6.mono aN.mono ((((i.trans j).trans G).trans H).trans b.aP)) (e7.mono px.mono ((((i.trans j).trans G).trans H).trans b.aP)) s4)) (fun aa b => ug A (gn rfl) (V (aY (cB A) rfl) ?_))))
            obtain rfl := sj d8
            exact k1 _ _ ⟨_, (b.aF (Kb (Db St))), o9, p0, p1, rfl⟩
          refine un A (un A (un A (V (aZ (cB A) rfl) ?_)))
          obtain rfl := sj d8
          exact k1 _ _ ⟨_, (b.aF (Kb (Db St))), o9, p0, p1, rfl⟩
        refine bC f4 (fun s f4 => ?_) (fun s f4 => ?_)
        · refine ug s (aQ u7) (ug s (fi underlying22 rfl t3) (ug s (cF rfl rfl rfl) (V (aY (cB s) rfl) ?_)))
          obtain rfl := sj f4
          exact k2 _ _ ⟨_, (b.aF (Kb (Kb (Dr St)))), o5, o6, o7, o8, rfl⟩
        refine un s (un s (un s (V (aZ (cB s) rfl) ?_)))
        obtain rfl := sj f4
        exact k2 _ _ ⟨_, (b.aF (Kb (Kb (Dr St)))), o5, o6, o7, o8, rfl⟩
      refine bC f5 (fun q f5 => ?_) (fun q f5 => ?_)
      · refine ug q (aQ u5) (ug q (fi underlying22 rfl t2) (ug q (cF rfl rfl rfl) (V (aY (cB q) rfl) ?_)))
        obtain rfl := sj f5
        exact k3 _ _ ⟨_, (b.aF (Kb (Kb (Dr St)))), o0, o1, o2, o3, o4, rfl⟩
      refine un q (un q (un q (V (aZ (cB q) rfl) ?_)))
      obtain rfl := sj f5
      exact k3 _ _ ⟨_, (b.aF (Kb (Kb (Dr St)))), o0, o1, o2, o3, o4, rfl⟩
    refine bC f6 (fun p f6 => ?_) (fun p f6 => ?_)
    · refine ug p (aQ rfl) (ug p (fi underlying22 rfl t1) (ug p (cF rfl rfl rfl) (V (aY (cB p) rfl) ?_)))
      obtain rfl := sj f6
      exact k4 _ _ ⟨_, (b.aF (Kb (Sb (Pr (Pr (Pr (Pr Pz)))) (Kr (Kr (Dr (Dr St))))))), O, rfl, rfl, rfl, rfl, rfl, rfl⟩
    refine un p (un p (un p (V (aZ (cB p) rfl) ?_)))
    obtain rfl := sj f6
    exact k4 _ _ ⟨_, (b.aF (Kb (Sb (Pr (Pr (Pr (Pr Pz)))) (Kr (Kr (Dr (Dr St))))))), O, rfl, rfl, rfl, rfl, rfl, rfl⟩
  refine wB 4 13 rfl rfl kr (.inl rfl) (.inl rfl) rfl rfl dc dc ?_ ?_
  · refine bS I fun e1 s5 I => ?_
    refine AR (args := [dy, (.agg (aM K7).toArray)]) (caps := #[]) [] _ b (List.Perm.refl _) rfl call172 (by exact pC rfl rfl) (fun hH m h n => dR.dK (nc E4 K7 _ _ ⟨hH, m, h⟩  s5)) (fun ab bc cy y3 b c1 eI q7 => ?_)
    obtain ⟨cq, h9, rfl, i4⟩ := q7
    replace h9 := h9.symm; subst h9
    replace b := b.perm Tn
    have d := b.has.na c1 (Kb (Kb Sn))
    refine ⟨d, ?_⟩
    obtain ⟨d9, e0, rfl⟩ := i4.form
    let eb : Value := (.slice d9 e1.length e0)
    refine X 5 rfl d (dJ (v := (.agg #[(.string K4), eb, (.slice none 0 0)])) (gK rfl rfl) (cN zeroValue110 underlying110 (Bk _ underlying110) kr)) (wB 10 13 rfl rfl kr (.inl rfl) (.inl rfl) rfl rfl dc dc ?_ ?_)
    · refine bS I fun h1 s6 I => ?_
      refine AR (args := [dx, (.agg (aM K9).toArray)]) (caps := #[]) [] _ b (List.Perm.refl _) rfl call172 (by exact pC rfl rfl) (fun hH m h n => dR.dK (nc xM K9 _ _ ⟨hH, m, h⟩  s6)) (fun ac bd v9 y4 b f1 eN q8 => ?_)
      obtain ⟨cr, i0, rfl, l3⟩ := q8
      replace i0 := i0.symm; subst i0
      replace b := b.perm Tn
      have d := b.has.na (c1.trans f1) (Kb (Kb Sn))
      refine ⟨d, ?_⟩
      obtain ⟨f7, g1, rfl⟩ := l3.form
      refine X 11 rfl d (dJ (v := (.agg #[(.string K2), (.slice f7 h1.length g1), (.slice none 0 0)])) (gK rfl rfl) (cN zeroValue110 underlying110 (Bk _ underlying110) kr)) (X 12 rfl d (dJ (v := (.agg (Lr d9 e1.length e0 f7 h1.length g1).toArray)) (gK rfl rfl) (cN zeroValue116 underlying116 (Gh _ underlying116) kr)) (XE 13 rfl (bR b zeroValue116 (fun ad u1 b => ?_))))
      have d := b.has.na (c1.trans f1) (Db (Kb (Kb Sn)))
      refine ⟨d, ?_⟩
      obtain rfl := sj I
      refine fO kr (h0 _ _ ⟨u1, eb, (.slice none 0 0), (.slice f7 h1.length g1), (.slice none 0 0), (.slice none 0 0), (.slice none 0 0), (.slice none 0 0), (.slice none 0 0), (.slice none 0 0), (.slice none 0 0), (.slice none 0 0), (.slice none 0 0), v9, _, (c1.trans f1), (b.aF St), rfl, rfl, rfl, (i4.mono bM.mono f1), (Sl.nil _ _ _), (Fr.nil _), l3, (Sl.nil _ _ _), (Fr.nil _), (Sl.nil _ _ _), (Fr.nil _), (Sl.nil _ _ _), (Fr.nil _), (Sl.nil _ _ _), (Fr.nil _), (Sl.nil _ _ _), (Fr.nil _), (Sl.nil _ _ _), (Fr.nil _), (Sl.nil _ _ _), (Fr.nil _), (Sl.nil _ _ _), (Fr.nil _), (Sl.nil _ _ _), (Fr.nil _)⟩)
    · refine bR b zeroValue116 (fun ae u2 b => ?_)
      have d := b.has.na c1 (Db (Kb (Kb Sn)))
      refine ⟨d, (bS I fun h2 s7 I => ?_)⟩
      refine XE 10 rfl (Fo b (List.Perm.refl _) call172 (fun hH m h n => dR.dK (nc xM K9 _ _ ⟨hH, m, h⟩  s7)) (fun af be w0 y5 b g7 eR q9 => ?_) (L0 := []))
      obtain ⟨cs, i1, rfl, l4⟩ := q9
      replace i1 := i1.symm; subst i1
      replace b := b.perm Tn
      have d := b.has.na (c1.trans g7) (Db (Kb (Kb Sn)))
      refine ⟨d, ?_⟩
      obtain ⟨f8, g2, rfl⟩ := l4.form
      refine X 11 rfl d (dJ (v := (.agg #[(.string K2), (.slice f8 h2.length g2), (.slice none 0 0)])) (gK rfl rfl) (cN zeroValue110 underlying110 (Bk _ underlying110) kr)) (X 12 rfl d (dJ (v := (.agg (Lr d9 e1.length e0 f8 h2.length g2).toArray)) (gK rfl rfl) (cN zeroValue116 underlying116 (Gh _ underlying116) kr)) ?_)
      obtain rfl := sj I
      refine fO kr (h0 _ _ ⟨u2, eb, (.slice none 0 0), (.slice f8 h2.length g2), (.slice none 0 0), (.slice none 0 0), (.slice none 0 0), (.slice none 0 0), (.slice none 0 0), (.slice none 0 0), (.slice none 0 0), (.slice none 0 0), (.slice none 0 0), w0, _, (c1.trans g7), (b.aF St), rfl, rfl, rfl, (i4.mono bM.mono g7), (Sl.nil _ _ _), (Fr.nil _), l4, (Sl.nil _ _ _), (Fr.nil _), (Sl.nil _ _ _), (Fr.nil _), (Sl.nil _ _ _), (Fr.nil _), (Sl.nil _ _ _), (Fr.nil _), (Sl.nil _ _ _), (Fr.nil _), (Sl.nil _ _ _), (Fr.nil _), (Sl.nil _ _ _), (Fr.nil _), (Sl.nil _ _ _), (Fr.nil _), (Sl.nil _ _ _), (Fr.nil _)⟩)
  · refine bR b zeroValue116 (fun ag u3 b => ?_)
    have d := b.has.aF (Db (Kb (Kb Sn)))
    refine ⟨d, (bS I fun h3 s8 I => ?_)⟩
    refine XE 4 rfl (Fo b (List.Perm.refl _) call172 (fun hH m h n => dR.dK (nc E4 K7 _ _ ⟨hH, m, h⟩  s8)) (fun ah bf cz y6 b g8 fc r0 => ?_) (L0 := []))
    obtain ⟨ct, i2, rfl, l5⟩ := r0
    replace i2 := i2.symm; subst i2
    replace b := b.perm Tn
    have d := b.has.na g8 (Db (Kb (Kb Sn)))
    refine ⟨d, ?_⟩
    obtain ⟨f9, g3, rfl⟩ := l5.form
    refine X 5 rfl d (dJ (v := (.agg #[(.string K4), (.slice f9 h3.length g3), (.slice none 0 0)])) (gK rfl rfl) (cN zeroValue110 underlying110 (Bk _ underlying110) kr)) (bS I fun h4 s9 I => ?_)
    refine XE 10 rfl (Fo b (List.Perm.refl _) call172 (fun hH m h n => dR.dK (nc xM K9 _ _ ⟨hH, m, h⟩  s9)) (fun ai bh w1 y7 b g9 fo r1 => ?_) (L0 := []))
    obtain ⟨cu, i3, rfl, l6⟩ := r1
    replace i3 := i3.symm; subst i3
    replace b := b.perm Tn
    have d := b.has.na (g8.trans g9) (Db (Kb (Kb Sn)))
    refine ⟨d, ?_⟩
    obtain ⟨g0, g4, rfl⟩ := l6.form
    refine X 11 rfl d (dJ (v := (.agg #[(.string K2), (.slice g0 h4.length g4), (.slice none 0 0)])) (gK rfl rfl) (cN zeroValue110 underlying110 (Bk _ underlying110) kr)) (X 12 rfl d (dJ (v := (.agg (Lr f9 h3.length g3 g0 h4.length g4).toArray)) (gK rfl rfl) (cN zeroValue116 underlying116 (Gh _ underlying116) kr)) ?_)
    obtain rfl := sj I
    refine fO kr (h0 _ _ ⟨u3, (.slice f9 h3.length g3), (.slice none 0 0), (.slice g0 h4.length g4), (.slice none 0 0), (.slice none 0 0), (.slice none 0 0), (.slice none 0 0), (.slice none 0 0), (.slice none 0 0), (.slice none 0 0), (.slice none 0 0), (.slice none 0 0), w1, _, (g8.trans g9), (b.aF St), rfl, rfl, rfl, (l5.mono bM.mono g9), (Sl.nil _ _ _), (Fr.nil _), l6, (Sl.nil _ _ _), (Fr.nil _), (Sl.nil _ _ _), (Fr.nil _), (Sl.nil _ _ _), (Fr.nil _), (Sl.nil _ _ _), (Fr.nil _), (Sl.nil _ _ _), (Fr.nil _), (Sl.nil _ _ _), (Fr.nil _), (Sl.nil _ _ _), (Fr.nil _), (Sl.nil _ _ _), (Fr.nil _), (Sl.nil _ _ _), (Fr.nil _)⟩)
theorem xO (k : Value) (u : List aB) (r : Int) (w : World) (j : Sl (Pl aG) 9 (hp w) k u) (hm : pc u = some r) :
    bF true Tryz.prog 21 [k] w (.int .i64 r) := by
  refine cG 54 func21 rfl (fun b => sg (Wa (lr (Wa (lS (Wm ?_))))))
  refine V (cU underlying22 rfl j) (Wm (ln (cK (fun i E W => ∃ g t, (E 8 = .int .i64 (i : Nat) ∧ E 7 = .int .i64 (u.length : Nat)) ∧ ST true cA w W (hp w) t ∧ E 3 = (.int .i64 g) ∧ E 6 = k ∧ kW (u.drop i) g = some r) u.length j.len ⟨0, _, ⟨rfl, rfl⟩, (b.aF St), rfl, rfl, hm⟩ dc dc dc (fun _ _ _ h => by obtain ⟨_, _, l, _⟩ := h; exact l) ?_ ?_)))
  · rintro I E W z ⟨g, t, ⟨d, m⟩, b, x, y, c⟩
    obtain ⟨a, J, G, D, H⟩ := cC z
    rw [G] at c
    refine bg (VQ (fJ (enc := aG) (i := (I : Int)) (x0 := a) underlying22 sizeOf53 y d j (Int.natCast_nonneg _) D) (fun Q B => V (aH rfl (bE b.has B isAgg53 sizeOf53)) (VE (bR b zeroValue53 (fun K N b => VO (aX (.agg (aG a).toArray) ((aG a).toArray) b rfl rfl sizeOf53 (fC a) nb rfl (fun M b => ln (aU (Wh x (Wf jT (Wf iH (VB b Mh rfl rfl isAgg9 (V (gV underlying9 rfl) ?_)))))))))))))
    refine Wi rfl (Wf jT (Wf nG (VB b Mh rfl rfl isAgg9 (V (gV underlying9 rfl) (Wi rfl (Wf qc (VB b Mh rfl rfl isAgg9 (V (gV underlying9 rfl) (Wi rfl (Wf gh (Wf iH (VB b Mh rfl rfl isAgg9 (V (gV underlying9 rfl) (Wi rfl ?_))))))))))))))
    refine Wf gh (Wf nG (VB b Mh rfl rfl isAgg9 (V (gV underlying9 rfl) (Wi rfl (Wf lP (Wf iH (VB b Mh rfl rfl isAgg9 (V (gV underlying9 rfl) (Wi rfl (Wf lP (Wf nG (VB b Mh rfl rfl isAgg9 (V (gV underlying9 rfl) (Wi rfl ?_))))))))))))))
    refine Wf nL (VB b Mh rfl rfl isAgg9 (V (gV underlying9 rfl) (Wi rfl (Wi rfl (Wa (bK (bY (aR ?_))))))))
    replace b := b.aF (Db St)
    exact ⟨d, ((IntKind.i64.wrap (g + ((IntKind.i64.wrap (((IntKind.i64.wrap (((IntKind.i64.wrap (((IntKind.i64.wrap (((IntKind.i64.wrap (((IntKind.i64.wrap (((IntKind.i64.wrap (((IntKind.i64.wrap (20 + ((a.Head.aC.size : Int))))) + ((a.Head.aJ.size : Int))))) + ((a.cH.size : Int))))) + ((a.B.aC.size : Int))))) + ((a.B.aJ.size : Int))))) + ((a.C.aC.size : Int))))) + ((a.C.aJ.size : Int))))) + ((a.cO.size : Int)))))))), _, ⟨rfl, m⟩, (b.aF St), rfl, y, (by rw [H]; exact c)⟩
  rintro E W ⟨g, t, ⟨d, m⟩, b, x, y, c⟩
  rw [List.drop_length] at c
  exact aR (sg (Wh x (Wa (lt (rQ c b)))))
theorem re (H : Value) (Q : List Key) (u : Value) (J : List Signed) (r : Int) (w : World) (B : Sl jV 2 (hp w) H Q) (D : Sl mR 10 (hp w) u J) (hm : nC Q J = some r) :
    bF true Tryz.prog 35 [H, u] w (.int .i64 r) := by
  refine cG 45 func35 rfl (fun b => sg (Wa (lr (Wa (lS (Wm ?_))))))
  refine V (cU underlying49 rfl B) (Wm (ln (cK (fun i E W => ∃ t N, (E 12 = .int .i64 (i : Nat) ∧ E 11 = .int .i64 (Q.length : Nat)) ∧ ST true cA w W (hp w) N ∧ E 1 = u ∧ E 5 = (.int .i64 t) ∧ E 10 = H ∧ jJ J (Q.drop i) t = some r) Q.length B.len ⟨0, _, ⟨rfl, rfl⟩, (b.aF St), rfl, rfl, rfl, hm⟩ dc dc dc (fun _ _ _ h => by obtain ⟨_, _, n, _⟩ := h; exact n) ?_ ?_)))
  · rintro c3 E W b5 ⟨t, N, ⟨m, p⟩, b, U, Y, Z, g⟩
    obtain ⟨k, d4, b9, b7, c0⟩ := cC b5
    rw [b9] at g
    refine bg (VQ (ei (i := (c3 : Int)) (x0 := k) jV.out underlying49 sizeOf196 Z m B (Int.natCast_nonneg _) b7) (fun d8 ⟨_, ⟨d9, rfl, a2⟩, b6⟩ => V (aH rfl (bE b.has b6 isAgg196 sizeOf196)) (VE (bR b zeroValue196 (fun d5 d7 b => ?_)))))
    obtain ⟨s, v, rfl⟩ := a2.form
    refine VO (aX (.agg #[(.string k.cH), (.slice s k.Key.length v)]) (#[(.string k.cH), (.slice s k.Key.length v)]) b rfl rfl sizeOf196 oc nb rfl (fun d6 b => ln (aU (Wh Y (Wf Kd (VB b Mh rfl rfl isAgg9 (V (gV underlying9 rfl) (Wi rfl (Wf J7 (VB b Mh rfl rfl isAgg54 (V (cU underlying54 rfl a2) (Wi rfl (Wi rfl (Wa ?_))))))))))))))
    refine bK (bY (aR ?_))
    replace b := b.aF (Db St)
    exact ⟨m, ((IntKind.i64.wrap (t + ((IntKind.i64.wrap (((IntKind.i64.wrap (10 + ((k.cH.size : Int))))) + ((k.Key.length : Int)))))))), _, ⟨rfl, p⟩, (b.aF St), U, rfl, Z, (by rw [c0]; exact g)⟩
  rintro E W ⟨t, N, ⟨m, p⟩, b, U, Y, Z, g⟩
  rw [List.drop_length] at g
  refine aR (aW (sg (Wh U (V (cU underlying50 rfl D) (Wm (ln (CJ g (fun G E W => ∃ M, ST true cA w W (hp w) M ∧ E 5 = (.int .i64 G)) (fun G a5 => ?_) ?_)))))))
  · refine cK (fun i E W => ∃ j x, (E 29 = .int .i64 (i : Nat) ∧ E 28 = .int .i64 (J.length : Nat)) ∧ ST true cA w W (hp w) x ∧ E 5 = (.int .i64 j) ∧ E 27 = u ∧ lm (J.drop i) j = some G) J.length D.len ⟨t, _, ⟨rfl, rfl⟩, (b.aF St), Y, rfl, a5⟩ dc dc dc (fun _ _ _ h => by obtain ⟨_, _, n, _⟩ := h; exact n) ?_ ?_
    · rintro c1 E W a3 ⟨j, x, ⟨m, p⟩, b, y, z, c⟩
      obtain ⟨a, c4, a9, L, O⟩ := cC a3
      rw [a9] at c
      refine bg (VQ (ei (i := (c1 : Int)) (x0 := a) mR.out underlying50 sizeOf56 z m D (Int.natCast_nonneg _) L) (fun d0 ⟨_, ⟨d1, rfl, I⟩, A⟩ => V (aH rfl (bE b.has A isAgg56 sizeOf56)) (VE (bR b zeroValue56 (fun c5 c9 b => ?_)))))
      obtain ⟨K, T, rfl⟩ := I.form
      let a0 := (C6 a.aB.Kind a.aB.Head.aC a.aB.Head.aJ a.aB.cH a.aB.B.aC a.aB.B.aJ a.aB.C.aC a.aB.C.aJ a.aB.cO K a.Tag.length T)
      refine VO (aX (.agg a0.toArray) (a0.toArray) b rfl rfl sizeOf56 oc nb rfl (fun c6 b => ln ?_))
      replace b := b.drew
      have d := b.has.aF (Kb Sn)
      refine cT d cE (X 0 rfl d (aQ y) (X 1 rfl d (aO qW rfl) (XH 2 rfl d (fun _ q => aH rfl (aK q Mh (aG a.aB) rfl isAgg53 sizeOf53)) (X 5 rfl d (aO Lc rfl) (XH 6 rfl d (fun _ q => aH rfl (bA q Mh rfl isAgg54)) (X 7 rfl d (cU underlying54 rfl I) (XE 3 rfl (bJ (cs := (aG a.aB).toArray) b (dZ rfl) (ew underlying22 sizeOf53 zeroValue53) (fun c7 P b => ?_)))))))))
      have d := b.has.aF (Db (Kb Sn))
      refine ⟨d, (bS c fun c2 F c => XE 4 rfl (Eg b call21 ((xO (.slice (some ⟨P, 0, none⟩) 1 1) ([a.aB]) _ _ (Sl.lit (enc := aG) (l := [a.aB]) bI rfl nb rfl (b.at_ Mh)) F)) (fun c8 b => ?_)))⟩
      have d := b.has.aF (Db (Kb Sn))
      refine ⟨d, (X 8 rfl d (cF rfl rfl rfl) (X 9 rfl d (cF rfl rfl rfl) (X 10 rfl d (fW rfl) (dG kr (bY (aR ?_))))))⟩
      replace b := b.aF (Db (Db St))
      exact ⟨m, ((IntKind.i64.wrap (j + ((IntKind.i64.wrap (c2 + ((a.Tag.length : Int)))))))), _, ⟨rfl, p⟩, (b.aF St), rfl, z, (by rw [O]; exact c)⟩
    rintro E W ⟨j, x, ⟨m, p⟩, b, y, z, c⟩
    rw [List.drop_length] at c
    refine aR ?_
    obtain rfl := sj c
    exact ⟨_, (b.aF St), y⟩
  rintro d3 E W ⟨M, b, R⟩ a4
  exact sg (Wh R (Wa (lt (rQ a4 b))))
theorem yU (I : (List Formula) → Option Int) (N : ∀ (j : Value) (u : List Formula) (r : Int) (w : World) (t : Sl aD 5 (hp w) j u), I u = some r → bF false Tryz.prog 173 [j] w (.int .i64 r)) (j : Value) (u : List Formula) (r : Int) (w : World) (t : Sl aD 5 (hp w) j u) (hm : pW I u = some r) :
    bF false Tryz.prog 173 [j] w (.int .i64 r) := by
  refine cG 31 func173 rfl (fun l => sg (Wa (lr (Wa (lS (Wm ?_))))))
  refine V (cU underlying111 rfl t) (Wm (ln (cK (fun i E W => ∃ x z, (E 8 = .int .i64 (i : Nat) ∧ E 7 = .int .i64 (u.length : Nat)) ∧ ST false cA w W (hp w) z ∧ E 3 = (.int .i64 x) ∧ E 6 = j ∧ lC I (u.drop i) x = some r) u.length t.len ⟨0, _, ⟨rfl, rfl⟩, (l.aF St), rfl, rfl, hm⟩ dc dc dc (fun _ _ _ h => by obtain ⟨_, _, p, _⟩ := h; exact p) ?_ ?_)))
  · rintro Z E W M ⟨x, z, ⟨n, s⟩, l, D, G, g⟩
    obtain ⟨c, L, T, Q, U⟩ := cC M
    let a0 := (((c.aA.aC.size : Int)) + ((c.aA.aJ.size : Int)))
    rw [T] at g
    refine bg (VQ (ei (i := (Z : Int)) (x0 := c) aD.out underlying111 sizeOf113 G n t (Int.natCast_nonneg _) Q) (fun a5 ⟨_, ⟨F, rfl, H⟩, J⟩ => V (aH rfl (bE l.has J isAgg113 sizeOf113)) (VE (bR l zeroValue113 (fun A a4 l => ?_)))))
    obtain ⟨y, B, rfl⟩ := H.form
    let q := (C1 c.Op c.K c.aA.aC c.aA.aJ y c.Kids.length B)
    refine VO (aX (.agg q.toArray) (q.toArray) l rfl rfl sizeOf113 oc nb rfl (fun a2 l => ln ?_))
    replace l := l.drew
    have d := l.has.aF (Kb Sn)
    refine cT d cE (X 0 rfl d (aQ D) (X 1 rfl d (aO kU rfl) (X 2 rfl d (aO iH rfl) (XH 3 rfl d (fun _ m => aH rfl (bA m Mh rfl isAgg9)) (X 4 rfl d (gV underlying9 rfl) (X 5 rfl d (aO kU rfl) (X 6 rfl d (aO nG rfl) (XH 7 rfl d (fun _ m => aH rfl (bA m Mh rfl isAgg9)) (X 8 rfl d (gV underlying9 rfl) (X 9 rfl d (cF rfl rfl rfl) (X 10 rfl d (DK (k := .i64) (a := ((IntKind.i64.wrap a0))) (b := 16) (v := (.int .i64 ((IntKind.i64.wrap (Int.tdiv ((IntKind.i64.wrap a0)) 16))))) rfl rfl dc rfl) (X 11 rfl d (cF rfl rfl rfl) (X 12 rfl d (aO fu rfl) (XH 13 rfl d (fun _ m => aH rfl (bA m Mh rfl isAgg111)) ?_))))))))))))))
    refine bS g fun Y K g => XE 14 rfl (Eg l call173 ((N (.slice y c.Kids.length B) c.Kids _ _ (H.mono aN.mono l.aP) K)) (fun a3 l => ?_))
    have d := l.has.aF (Kb Sn)
    refine ⟨d, (X 15 rfl d (cF rfl rfl rfl) (X 16 rfl d (cF rfl rfl rfl) (X 17 rfl d (fW rfl) (dG kr (bY (aR ?_))))))⟩
    replace l := l.aF (Db St)
    exact ⟨n, ((IntKind.i64.wrap (x + ((IntKind.i64.wrap (((IntKind.i64.wrap (1 + ((IntKind.i64.wrap (Int.tdiv ((IntKind.i64.wrap a0)) 16)))))) + Y)))))), _, ⟨rfl, s⟩, (l.aF St), rfl, G, (by rw [U]; exact g)⟩
  rintro E W ⟨x, z, ⟨n, s⟩, l, D, G, g⟩
  rw [List.drop_length] at g
  exact aR (sg (Wh D (Wa (lt (rQ g l)))))
theorem rl : ∀ (n : Nat) (a : Value) (c : List Formula) (r : Int) (w : World) (g : Sl aD 5 (hp w) a c) (_ : gZ n c = some r),
    bF false Tryz.prog 173 [a] w (.int .i64 r)
  | 0 => by intros; rename_i h; simp only [gZ] at h; cases h
  | n + 1 => yU (gZ n) (rl n)
set_option maxHeartbeats 1000000 in
theorem oY (x : cR) (J N : Value) (r : Int) (w : World) (y : Sl bN 15 (hp w) J x.aT) (G : Sl dF 8 (hp w) N x.bP) (hm : pb x = some r) :
    bF false Tryz.prog 102 [(.agg #[(.string x.Name), J, N])] w (.int .i64 r) := by
  refine cG 61 func102 rfl (fun d => sg ?_)
  obtain ⟨A1, c2, rfl⟩ := y.form
  obtain ⟨A3, c4, rfl⟩ := G.form
  let g6 := (C5 x.Name A1 x.aT.length c2 A3 x.bP.length c4)
  refine VE (bX d rfl (fun W6 L d => Wa (lr (Wf qi (VB d Mh rfl rfl isAgg9 (V (gV underlying9 rfl) (Wa (lS ?_))))))))
  refine Wf kD (VB d Mh rfl rfl isAgg107 (V (cU underlying107 rfl y) (Wm (ln (cK (fun i E W => ∃ I R, (E 14 = .int .i64 (i : Nat) ∧ E 13 = .int .i64 (x.aT.length : Nat)) ∧ ST false cA w W (hp w) ((L, Ol g6 110) :: R) ∧ E 1 = (.pointer (some ⟨L, 0, none⟩)) ∧ E 3 = (.int .i64 I) ∧ E 12 = (.slice A1 x.aT.length c2) ∧ kZ x (x.aT.drop i) I = some r) x.aT.length y.len ⟨((x.Name.size : Int)), _, ⟨rfl, rfl⟩, (d.aF St), rfl, rfl, rfl, hm⟩ dc dc dc (fun _ _ _ h => by obtain ⟨_, _, v, _⟩ := h; exact v) ?_ ?_)))))
  · rintro d5 E W e1 ⟨I, R, ⟨q, A⟩, d, U, M, Y, H⟩
    obtain ⟨a, h9, e9, e8, f0⟩ := cC e1
    rw [e9] at H
    refine bg (VQ (ei (i := (d5 : Int)) (x0 := a) bN.out underlying107 sizeOf138 Y q y (Int.natCast_nonneg _) e8) (fun j4 ⟨_, ⟨j8, j9, rfl, Q, T⟩, e2⟩ => V (aH rfl (bE d.has e2 isAgg138 sizeOf138)) (VE (bR d zeroValue138 (fun i0 f4 d => ?_)))))
    obtain ⟨t, u, rfl⟩ := Q.form
    let g5 : Value := (.slice t a.Signed.Tag.length u)
    let b8 := (C6 a.Signed.aB.Kind a.Signed.aB.Head.aC a.Signed.aB.Head.aJ a.Signed.aB.cH a.Signed.aB.B.aC a.Signed.aB.B.aJ a.Signed.aB.C.aC a.Signed.aB.C.aJ a.Signed.aB.cO t a.Signed.Tag.length u)
    obtain ⟨g, j, rfl⟩ := T.form
    let d9 : Value := (.slice g a.aI.Kids.length j)
    let s := (C1 a.aI.Op a.aI.K a.aI.aA.aC a.aI.aA.aJ g a.aI.Kids.length j)
    let a0 := (C3 a.Signed.aB.Kind a.Signed.aB.Head.aC a.Signed.aB.Head.aJ a.Signed.aB.cH a.Signed.aB.B.aC a.Signed.aB.B.aJ a.Signed.aB.C.aC a.Signed.aB.C.aJ a.Signed.aB.cO t a.Signed.Tag.length u a.aI.Op a.aI.K a.aI.aA.aC a.aI.aA.aJ g a.aI.Kids.length j)
    refine VO (aX (.agg a0.toArray) (a0.toArray) d rfl rfl sizeOf138 oc nb rfl (fun i1 d => ln ?_))
    replace d := d.drew
    have m := d.has.aF (Kb Sn)
    refine cT m cE (X 0 rfl m (aQ M) (X 1 rfl m (aO po rfl) (XH 2 rfl m (fun _ p => aH rfl (aK p Mh b8 rfl isAgg56 sizeOf56)) (X 5 rfl m (aO wJ rfl) (XH 6 rfl m (fun _ p => aH rfl (aK p Mh s rfl isAgg113 sizeOf113)) (PJ H (fun b4 E W => ∃ F b2 b9, ST false cA w W (hp w) ((f4, Ol a0 138) :: ((L, Ol g6 110) :: (b2 ++ b9))) ∧ E 1 = (.pointer (some ⟨L, 0, none⟩)) ∧ E 3 = (.int .i64 I) ∧ E 12 = (.slice A1 x.aT.length c2) ∧ E 13 = (.int .i64 ((x.aT.length : Int))) ∧ E 14 = (.int .i64 ((d5 : Int))) ∧ E 18 = (.int .i64 I) ∧ E 22 = (.int .i64 b4.1) ∧ E 25 = F ∧ cL 113 aD 5 (hp w) F b4.2 b2) (bm 13 255) 5 ?_ (fun b4 z Z => ?_)))))))
    · rintro ⟨g7, g3⟩ E W ⟨F, b2, b9, d, f6, j3, f7, f8, f9, g0, g1, g2, e7⟩ O
      refine bS O fun g4 e3 O => XE 8 rfl (Eg d call173 (((rl bL) F g3 _ _ (e7.sl aN d.aP (fun b o n => d.at_ (Mt (Mt (Ml n))))) e3)) (fun i2 d => ?_) (ha := MD g2))
      have m := d.has.aF (Kb Sn)
      refine ⟨m, (X 9 rfl m (cF rfl rfl rfl) (X 10 rfl m (cF g1 rfl rfl) (X 11 rfl m (cF g0 rfl rfl) (X 12 rfl m (fW rfl) (dG kr (bY (aR ?_)))))))⟩
      replace d := d.aF (Db (Kb (Dr St)))
      exact ⟨f9, ((IntKind.i64.wrap (I + ((IntKind.i64.wrap (g7 + ((IntKind.i64.wrap (20 * g4))))))))), _, ⟨rfl, f8⟩, (d.aF St), f6, rfl, f7, (by rw [f0]; exact O)⟩
    refine wB 3 7 rfl rfl kr (.inl rfl) (.inl rfl) rfl rfl dc dc ?_ ?_
    · refine bJ (cs := b8.toArray) d (dZ rfl) (ew underlying50 sizeOf56 zeroValue56) (fun i3 b3 d => ?_)
      let d8 : Value := (.slice (some ⟨b3, 0, none⟩) 1 1)
      have m := d.has.aF (Db (Kb Sn))
      refine ⟨m, (wB 4 7 rfl rfl kr (.inl rfl) (.inl rfl) rfl rfl dc dc ?_ ?_)⟩
      · refine bS z fun j5 e4 z => zy (args := [(.slice none 0 0), d8]) d rfl call35 (by exact pC rfl rfl) (bF.dK (re (.slice none 0 0) ([]) d8 ([a.Signed]) _ _ (Sl.nil _ _ _) ((cL.lit uI (l := [a.Signed]) (.cons (ys := C6 a.Signed.aB.Kind a.Signed.aB.Head.aC a.Signed.aB.Head.aJ a.Signed.aB.cH a.Signed.aB.B.aC a.Signed.aB.B.aJ a.Signed.aB.C.aC a.Signed.aB.C.aJ a.Signed.aB.cO t a.Signed.Tag.length u) (mR.mk ⟨g5, rfl, Q⟩) .nil) rfl nb rfl).sl uI d.aP (fun b o n => (by rw [List.mem_singleton] at n; cases n; exact d.at_ Mh))) e4)) (fun i4 d => ?_)
        have m := d.has.aF (Db (Kb Sn))
        refine ⟨m, (XE 7 rfl (bJ (cs := s.toArray) d (dZ rfl) (ew underlying111 sizeOf113 zeroValue113) (fun i5 c0 d => ?_)))⟩
        have m := d.has.aF (Db (Db (Kb Sn)))
        refine ⟨m, ?_⟩
        obtain rfl := sj z
        replace d := d.xY
        refine fO kr (Z _ _ ⟨(.slice (some ⟨c0, 0, none⟩) 1 1), [(c0, Ol s 113)], _, (d.aF (Sb (Pr (Pb Pz)) (Sb (Pr (Pb Pz)) (Kr (Db St))))), U, M, Y, A, q, rfl, rfl, rfl, (cL.lit aN (l := [a.aI]) (.cons (ys := C1 a.aI.Op a.aI.K a.aI.aA.aC a.aI.aA.aJ g a.aI.Kids.length j) (aD.mk ⟨d9, rfl, T⟩) .nil) rfl nb rfl)⟩)
      · refine bJ (cs := s.toArray) d (dZ rfl) (ew underlying111 sizeOf113 zeroValue113) (fun i6 c1 d => ?_)
        have m := d.has.aF (Db (Db (Kb Sn)))
        refine ⟨m, (bS z fun j6 e5 z => XE 4 rfl (Eg d call35 (bF.dK (re (.slice none 0 0) ([]) d8 ([a.Signed]) _ _ (Sl.nil _ _ _) ((cL.lit uI (l := [a.Signed]) (.cons (ys := C6 a.Signed.aB.Kind a.Signed.aB.Head.aC a.Signed.aB.Head.aJ a.Signed.aB.cH a.Signed.aB.B.aC a.Signed.aB.B.aJ a.Signed.aB.C.aC a.Signed.aB.C.aJ a.Signed.aB.cO t a.Signed.Tag.length u) (mR.mk ⟨g5, rfl, Q⟩) .nil) rfl nb rfl).sl uI d.aP (fun b o n => (by rw [List.mem_singleton] at n; cases n; exact d.at_ (Mt Mh)))) e5)) (fun i7 d => ?_)))⟩
        have m := d.has.aF (Db (Db (Kb Sn)))
        refine ⟨m, ?_⟩
        obtain rfl := sj z
        replace d := d.xY
        refine fO kr (Z _ _ ⟨(.slice (some ⟨c1, 0, none⟩) 1 1), [(c1, Ol s 113)], _, (d.aF (Sb (Pr (Pb Pz)) (Sb (Pr (Pb Pz)) (Kr (Db St))))), U, M, Y, A, q, rfl, rfl, rfl, (cL.lit aN (l := [a.aI]) (.cons (ys := C1 a.aI.Op a.aI.K a.aI.aA.aC a.aI.aA.aJ g a.aI.Kids.length j) (aD.mk ⟨d9, rfl, T⟩) .nil) rfl nb rfl)⟩)
    · refine bJ (cs := s.toArray) d (dZ rfl) (ew underlying111 sizeOf113 zeroValue113) (fun i8 c3 d => ?_)
      have m := d.has.aF (Db (Kb Sn))
      refine ⟨m, (XE 3 rfl (bJ (cs := b8.toArray) d (dZ rfl) (ew underlying50 sizeOf56 zeroValue56) (fun i9 f5 d => ?_)))⟩
      have m := d.has.aF (Db (Db (Kb Sn)))
      refine ⟨m, (bS z fun j7 e6 z => XE 4 rfl (Eg d call35 (bF.dK (re (.slice none 0 0) ([]) (.slice (some ⟨f5, 0, none⟩) 1 1) ([a.Signed]) _ _ (Sl.nil _ _ _) ((cL.lit uI (l := [a.Signed]) (.cons (ys := C6 a.Signed.aB.Kind a.Signed.aB.Head.aC a.Signed.aB.Head.aJ a.Signed.aB.cH a.Signed.aB.B.aC a.Signed.aB.B.aJ a.Signed.aB.C.aC a.Signed.aB.C.aJ a.Signed.aB.cO t a.Signed.Tag.length u) (mR.mk ⟨g5, rfl, Q⟩) .nil) rfl nb rfl).sl uI d.aP (fun b o n => (by rw [List.mem_singleton] at n; cases n; exact d.at_ Mh))) e6)) (fun j0 d => ?_)))⟩
      have m := d.has.aF (Db (Db (Kb Sn)))
      refine ⟨m, ?_⟩
      obtain rfl := sj z
      replace d := d.perm (Nb (Pb Pz) Nz)
      replace d := d.xY
      refine fO kr (Z _ _ ⟨(.slice (some ⟨c3, 0, none⟩) 1 1), [(c3, Ol s 113)], _, (d.aF (Sb (Pr (Pb Pz)) (Sb (Pr (Pb Pz)) (Kr (Db St))))), U, M, Y, A, q, rfl, rfl, rfl, (cL.lit aN (l := [a.aI]) (.cons (ys := C1 a.aI.Op a.aI.K a.aI.aA.aC a.aI.aA.aJ g a.aI.Kids.length j) (aD.mk ⟨d9, rfl, T⟩) .nil) rfl nb rfl)⟩)
  rintro E W ⟨I, R, ⟨q, A⟩, d, U, M, Y, H⟩
  rw [List.drop_length] at H
  refine aR (aW (sg (V (aO Cq U) (VB d Mh rfl rfl isAgg108 (V (cU underlying108 rfl G) (Wm (ln ?_)))))))
  replace d := d.aF (Db St)
  refine CJ H (fun P E W => ∃ b6, ST false cA w W (hp w) b6 ∧ E 3 = (.int .i64 P)) (fun P c8 => ?_) ?_
  · refine cK (fun i E W => ∃ K a2, (E 34 = .int .i64 (i : Nat) ∧ E 33 = .int .i64 (x.bP.length : Nat)) ∧ ST false cA w W (hp w) a2 ∧ E 3 = (.int .i64 K) ∧ E 32 = (.slice A3 x.bP.length c4) ∧ lB (x.bP.drop i) K = some P) x.bP.length G.len ⟨I, _, ⟨rfl, rfl⟩, (d.aF St), M, rfl, c8⟩ dc dc dc (fun _ _ _ h => by obtain ⟨_, _, v, _⟩ := h; exact v) ?_ ?_
    · rintro f1 E W c6 ⟨K, a2, ⟨q, A⟩, d, a4, a5, k⟩
      obtain ⟨c, g8, d3, d2, d4⟩ := cC c6
      rw [d3] at k
      refine bg (VQ (ei (i := (f1 : Int)) (x0 := c) dF.out underlying108 sizeOf263 a5 q G (Int.natCast_nonneg _) d2) (fun h5 ⟨_, ⟨h6, h7, rfl, a9, b0⟩, c9⟩ => V (aH rfl (bE d.has c9 isAgg263 sizeOf263)) (VE (bR d zeroValue263 (fun g9 h4 d => ?_)))))
      obtain ⟨B, D, rfl⟩ := a9.form
      let d6 := (C1 c.aI.Op c.aI.K c.aI.aA.aC c.aI.aA.aJ B c.aI.Kids.length D)
      obtain ⟨a1, a3, rfl⟩ := b0.form
      let c5 := (C7 c.aA.aC c.aA.aJ c.aI.Op c.aI.K c.aI.aA.aC c.aI.aA.aJ B c.aI.Kids.length D a1 c.eS.length a3)
      refine VO (aX (.agg c5.toArray) (c5.toArray) d rfl rfl sizeOf263 oc nb rfl (fun h0 d => ln ?_))
      replace d := d.drew
      have m := d.has.aF (Kb Sn)
      refine cT m cE (X 0 rfl m (aQ a4) (X 1 rfl m (aO F2 rfl) (X 2 rfl m (aO iH rfl) (XH 3 rfl m (fun _ p => aH rfl (bA p Mh rfl isAgg9)) (X 4 rfl m (gV underlying9 rfl) (X 5 rfl m (aO F2 rfl) (X 6 rfl m (aO nG rfl) (XH 7 rfl m (fun _ p => aH rfl (bA p Mh rfl isAgg9)) (X 8 rfl m (gV underlying9 rfl) (X 9 rfl m (cF rfl rfl rfl) (X 10 rfl m (aO Cd rfl) (XH 11 rfl m (fun _ p => aH rfl (aK p Mh d6 rfl isAgg113 sizeOf113)) (X 16 rfl m (aO Cw rfl) (XH 17 rfl m (fun _ p => aH rfl (bA p Mh rfl isAgg22)) ?_))))))))))))))
      refine XE 12 rfl (bJ (cs := d6.toArray) d (dZ rfl) (ew underlying111 sizeOf113 zeroValue113) (fun h1 d7 d => ?_))
      have m := d.has.aF (Db (Kb Sn))
      refine ⟨m, (bS k fun f2 d0 k => XE 13 rfl (Eg d call173 (((rl bL) (.slice (some ⟨d7, 0, none⟩) 1 1) ([c.aI]) _ _ ((cL.lit aN (l := [c.aI]) (.cons (ys := C1 c.aI.Op c.aI.K c.aI.aA.aC c.aI.aA.aJ B c.aI.Kids.length D) (aD.mk ⟨(.slice B c.aI.Kids.length D), rfl, a9⟩) .nil) rfl nb rfl).sl aN d.aP (fun b o n => (by rw [List.mem_singleton] at n; cases n; exact d.at_ Mh))) d0)) (fun h2 d => ?_)))⟩
      have m := d.has.aF (Db (Kb Sn))
      refine ⟨m, (X 14 rfl m (cF rfl rfl rfl) (X 15 rfl m (cF rfl rfl rfl) (bS k fun f3 d1 k => XE 18 rfl (Eg d call21 (bF.dK (xO (.slice a1 c.eS.length a3) c.eS _ _ (b0.mono (Pl.mono _) d.aP) d1)) (fun h3 d => ?_)))))⟩
      have m := d.has.aF (Db (Kb Sn))
      refine ⟨m, (X 19 rfl m (cF rfl rfl rfl) (X 20 rfl m (cF rfl rfl rfl) (X 21 rfl m (fW rfl) (dG kr (bY (aR ?_))))))⟩
      replace d := d.aF (Db (Db St))
      exact ⟨q, ((IntKind.i64.wrap (K + ((IntKind.i64.wrap (((IntKind.i64.wrap (((IntKind.i64.wrap (((c.aA.aC.size : Int)) + ((c.aA.aJ.size : Int))))) + ((IntKind.i64.wrap (20 * f2)))))) + f3)))))), _, ⟨rfl, A⟩, (d.aF St), rfl, a5, (by rw [d4]; exact k)⟩
    rintro E W ⟨K, a2, ⟨q, A⟩, d, a4, a5, k⟩
    rw [List.drop_length] at k
    refine aR ?_
    obtain rfl := sj k
    exact ⟨_, (d.aF St), a4⟩
  rintro h8 E W ⟨b6, d, e0⟩ c7
  exact sg (Wh e0 (Wa (lt (rQ c7 d))))
theorem Dy (a : fL) (B D x z y J : Value) (r : Int) (w : World) (t : Sl bN 15 (hp w) B a.aC.aT) (u : Sl dF 8 (hp w) D a.aC.bP) (c : Sl bN 15 (hp w) x a.Client.aT) (i : Sl dF 8 (hp w) z a.Client.bP) (g : Sl aD 5 (hp w) y a.Formula.Kids) (I : Sl jV 2 (hp w) J a.Keys) (hm : rf a = some r) :
    bF false Tryz.prog 73 [(.agg #[(.string a.aC.Name), B, D, (.string a.Client.Name), x, z, (.int .i64 a.Formula.Op), (.int .i64 a.Formula.K), (.string a.Formula.aA.aC), (.string a.Formula.aA.aJ), y, (.int .i64 a.mo), (.int .i64 a.fh.oz), (.int .i64 a.fh.oA), (.int .i64 a.gl), (.int .i64 a.jE), (.int .i64 a.ij), J])] w (.int .i64 r) := by
  refine cG 20 func73 rfl (fun d => sg ?_)
  obtain ⟨A1, c2, rfl⟩ := t.form
  obtain ⟨A3, n, rfl⟩ := u.form
  let a3 := (C5 a.aC.Name A1 a.aC.aT.length c2 A3 a.aC.bP.length n)
  obtain ⟨N, U, rfl⟩ := c.form
  let a5 : Value := (.slice N a.Client.aT.length U)
  obtain ⟨Q, Y, rfl⟩ := i.form
  let b8 : Value := (.slice Q a.Client.bP.length Y)
  let a4 := (C5 a.Client.Name N a.Client.aT.length U Q a.Client.bP.length Y)
  obtain ⟨G, k, rfl⟩ := g.form
  let q : Value := (.slice G a.Formula.Kids.length k)
  let a0 := (C1 a.Formula.Op a.Formula.K a.Formula.aA.aC a.Formula.aA.aJ G a.Formula.Kids.length k)
  obtain ⟨p, a2, rfl⟩ := I.form
  refine VE (bX d rfl (fun e8 c7 d => Wa (ln (aW ?_))))
  replace d := d.drew
  have h := d.has.aF (Kb Sn)
  refine cT h cE (X 0 rfl h (aO pu rfl) (XH 1 rfl h (fun _ m => aH rfl (aK m Mh a3 rfl isAgg110 sizeOf110)) (X 3 rfl h (aO pq rfl) (XH 4 rfl h (fun _ m => aH rfl (aK m Mh a4 rfl isAgg110 sizeOf110)) (X 7 rfl h (aO JH rfl) (XH 8 rfl h (fun _ m => aH rfl (aK m Mh a0 rfl isAgg113 sizeOf113)) (X 13 rfl h (aO JI rfl) (XH 14 rfl h (fun _ m => aH rfl (bA m Mh rfl isAgg49)) (PJ hm (fun Z E W => ∃ M T s, ST false cA w W (hp w) ((c7, Ol (C2 a.aC.Name A1 a.aC.aT.length c2 A3 a.aC.bP.length n a.Client.Name N a.Client.aT.length U Q a.Client.bP.length Y a.Formula.Op a.Formula.K a.Formula.aA.aC a.Formula.aA.aJ G a.Formula.Kids.length k a.mo a.fh.oz a.fh.oA a.gl a.jE a.ij p a.Keys.length a2) 116) :: (T ++ s)) ∧ E 2 = (.int .i64 0) ∧ E 9 = (.int .i64 Z.1) ∧ E 12 = M ∧ E 17 = (.slice p a.Keys.length a2) ∧ cL 113 aD 5 (hp w) M Z.2 T) (bm 18 25599) 6 ?_ (fun Z j K => ?_))))))))))
  · rintro ⟨e7, c5⟩ E W ⟨M, T, s, d, d9, c0, c1, c3, b9⟩ H
    refine bS H fun e0 F H => XE 10 rfl (Eg d call173 (((rl bL) M c5 _ _ (b9.sl aN d.aP (fun b o hq => d.at_ (Mt (Ml hq)))) F)) (fun c9 d => ?_) (ha := MD c1))
    have h := d.has.aF (Kb Sn)
    refine ⟨h, (X 11 rfl h (cF rfl rfl rfl) (X 12 rfl h (cF c0 rfl rfl) (bS H fun e1 L H => XE 15 rfl (Eg d call35 (bF.dK (re (.slice p a.Keys.length a2) a.Keys (.slice none 0 0) ([]) _ _ (I.mono px.mono d.aP) (Sl.nil _ _ _) L)) (fun d0 d => ?_) (ha := Nk c3 rfl)))))⟩
    have h := d.has.aF (Kb Sn)
    refine ⟨h, (X 16 rfl h (cF rfl rfl rfl) (X 17 rfl h (fW rfl) (dG kr (aR ?_))))⟩
    exact bH (rQ H d)
  refine wB 2 9 rfl rfl kr (.inl rfl) (.inl rfl) rfl rfl dc dc ?_ ?_
  · refine bS j fun e2 O j => zy (args := [(.agg a3.toArray)]) d rfl call102 (by exact nK rfl) ((oY a.aC (.slice A1 a.aC.aT.length c2) (.slice A3 a.aC.bP.length n) _ _ (t.mono bM.mono d.aP) (u.mono ev.mono d.aP) O)) (fun d1 d => ?_)
    have h := d.has.aF (Kb Sn)
    refine ⟨h, (wB 5 9 rfl rfl kr (.inl rfl) (.inl rfl) rfl rfl dc dc ?_ ?_)⟩
    · refine bS j fun e3 P j => zy (args := [(.agg a4.toArray)]) d rfl call102 (by exact nK rfl) ((oY a.Client a5 b8 _ _ (c.mono bM.mono d.aP) (i.mono ev.mono d.aP) P)) (fun d2 d => ?_)
      have h := d.has.aF (Kb Sn)
      refine ⟨h, (X 6 rfl h (cF rfl rfl rfl) (XE 9 rfl (bJ (cs := a0.toArray) d (dZ rfl) (ew underlying111 sizeOf113 zeroValue113) (fun d3 v d => ?_))))⟩
      have h := d.has.aF (Db (Kb Sn))
      refine ⟨h, ?_⟩
      obtain rfl := sj j
      replace d := d.xY
      refine fO kr (K _ _ ⟨(.slice (some ⟨v, 0, none⟩) 1 1), [(v, Ol a0 113)], _, (d.aF (Sb (Pr Pz) St)), rfl, rfl, rfl, rfl, (cL.lit aN (l := [a.Formula]) (.cons (ys := C1 a.Formula.Op a.Formula.K a.Formula.aA.aC a.Formula.aA.aJ G a.Formula.Kids.length k) (aD.mk ⟨q, rfl, g⟩) .nil) rfl nb rfl)⟩)
    · refine bJ (cs := a0.toArray) d (dZ rfl) (ew underlying111 sizeOf113 zeroValue113) (fun d4 a9 d => ?_)
      have h := d.has.aF (Db (Kb Sn))
      refine ⟨h, (bS j fun e4 R j => XE 5 rfl (Eg d call102 ((oY a.Client a5 b8 _ _ (c.mono bM.mono d.aP) (i.mono ev.mono d.aP) R)) (fun d5 d => ?_)))⟩
      have h := d.has.aF (Db (Kb Sn))
      refine ⟨h, (X 6 rfl h (cF rfl rfl rfl) ?_)⟩
      obtain rfl := sj j
      replace d := d.xY
      refine fO kr (K _ _ ⟨(.slice (some ⟨a9, 0, none⟩) 1 1), [(a9, Ol a0 113)], _, (d.aF (Sb (Pr Pz) St)), rfl, rfl, rfl, rfl, (cL.lit aN (l := [a.Formula]) (.cons (ys := C1 a.Formula.Op a.Formula.K a.Formula.aA.aC a.Formula.aA.aJ G a.Formula.Kids.length k) (aD.mk ⟨q, rfl, g⟩) .nil) rfl nb rfl)⟩)
  · refine bJ (cs := a0.toArray) d (dZ rfl) (ew underlying111 sizeOf113 zeroValue113) (fun d6 A d => ?_)
    have h := d.has.aF (Db (Kb Sn))
    refine ⟨h, (bS j fun e5 b6 j => XE 2 rfl (Eg d call102 ((oY a.aC (.slice A1 a.aC.aT.length c2) (.slice A3 a.aC.bP.length n) _ _ (t.mono bM.mono d.aP) (u.mono ev.mono d.aP) b6)) (fun d7 d => ?_)))⟩
    have h := d.has.aF (Db (Kb Sn))
    refine ⟨h, (bS j fun e6 b7 j => XE 5 rfl (Eg d call102 ((oY a.Client a5 b8 _ _ (c.mono bM.mono d.aP) (i.mono ev.mono d.aP) b7)) (fun d8 d => ?_)))⟩
    have h := d.has.aF (Db (Kb Sn))
    refine ⟨h, (X 6 rfl h (cF rfl rfl rfl) ?_)⟩
    obtain rfl := sj j
    replace d := d.xY
    refine fO kr (K _ _ ⟨(.slice (some ⟨A, 0, none⟩) 1 1), [(A, Ol a0 113)], _, (d.aF (Sb (Pr Pz) St)), rfl, rfl, rfl, rfl, (cL.lit aN (l := [a.Formula]) (.cons (ys := C1 a.Formula.Op a.Formula.K a.Formula.aA.aC a.Formula.aA.aJ G a.Formula.Kids.length k) (aD.mk ⟨q, rfl, g⟩) .nil) rfl nb rfl)⟩)
theorem pf (M : ByteArray) (r : Bool) (w : World) (hm : kH M = some r) :
    bF true Tryz.prog 158 [(.string M)] w (.bool r) := by
  refine cG 49 func158 rfl (fun b => sg (Wa (lS (Wm (V (kM rfl rfl rfl) (Wm (LJ hm (fun c7 E W => ∃ L3, ST true cA w W (hp w) L3 ∧ E 0 = (.string M) ∧ E 11 = (.bool c7)) 4 ?_ (fun c7 K a5 => ?_))))))))
  · rintro x2 E W ⟨L3, b, p, e6⟩ f7
    refine Wh e6 (LJ f7 (fun c6 E W => ∃ d3, ST true cA w W (hp w) d3 ∧ E 0 = (.string M) ∧ E 16 = (.bool c6)) 4 ?_ (fun c6 x a4 => ?_))
    · rintro g4 E W ⟨d3, b, n, f4⟩ f0
      refine Wh f4 (LJ f0 (fun c5 E W => ∃ d4, ST true cA w W (hp w) d4 ∧ E 0 = (.string M) ∧ E 21 = (.bool c5)) 4 ?_ (fun c5 u a3 => ?_))
      · rintro g7 E W ⟨d4, b, f5, f6⟩ Q
        refine ln (CI Q f6 (fun e9 Q => ?_) (fun e9 Q => ?_))
        · refine sg (Wa (lt (bU ?_)))
          obtain rfl := sj Q
          exact rP b
        refine kS (Wa (ln (dN (fB (fun m E W => ∃ y A, ST true cA w W (hp w) A ∧ E 0 = (.string M) ∧ E 3 = (.int .i64 y) ∧ jN M m y = some r) bL ⟨0, _, (b.aF St), f5, rfl, Q⟩ ?_))))
        rintro m E W ⟨y, A, b, T, U, c⟩
        cases m with
        | zero => rw [jN] at c; cases c
        | succ f1 =>
          refine aW (sg (Wh U (Wh T (V (gV underlying9 rfl) (Wi rfl (ln (CI c rfl (fun c8 c => ?_) (fun c8 c => ?_))))))))
          · refine kn (aW (bg (Wh T (Wh U (bS c fun d a9 c => V (uy (i := y) underlying9 rfl rfl (tH a9) (xr a9)) (Wa (lr ?_)))))))
            refine Wm (Wi rfl (Wm (LJ c (fun c4 E W => ∃ F, ST true cA w W (hp w) F ∧ E 0 = (.string M) ∧ E 3 = (.int .i64 y) ∧ E 4 = (.int .u8 ((d.toNat : Int))) ∧ E 36 = (.bool c4)) 3 ?_ (fun c4 J a2 => ?_))))
            · rintro f2 E W ⟨F, b, h, l, N, d5⟩ d0
              refine Wh d5 (LJ d0 (fun c2 E W => ∃ L, ST true cA w W (hp w) L ∧ E 0 = (.string M) ∧ E 3 = (.int .i64 y) ∧ E 4 = (.int .u8 ((d.toNat : Int))) ∧ E 44 = (.bool c2)) 7 ?_ (fun c2 H Z => ?_))
              · rintro g1 E W ⟨L, b, R, c0, d6, d7⟩ d1
                refine Wh d7 (LJ d1 (fun c1 E W => ∃ O, ST true cA w W (hp w) O ∧ E 0 = (.string M) ∧ E 3 = (.int .i64 y) ∧ E 48 = (.bool c1)) 3 ?_ (fun c1 G Y => ?_))
                · rintro g2 E W ⟨O, b, d8, d9, e0⟩ D
                  refine ln (CI D e0 (fun c9 D => ?_) (fun c9 D => ?_))
                  · refine sg (Wa (lt (eF (bU (bU (eF (bU ?_)))))))
                    obtain rfl := sj D
                    exact rP b
                  exact cZ (bY (aR (aU (Wh d9 (Wi rfl (Wa (ln ⟨f1, Nat.lt_succ_self _, ((IntKind.i64.wrap (y + 1))), _, (b.aF St), d8, rfl, D⟩)))))))
                refine bC G (fun k G => ?_) (fun k G => ?_)
                · refine ug k (aQ d6) (ug k (cF rfl rfl rfl) (V (aY (cB k) rfl) ?_))
                  obtain rfl := sj G
                  exact Y _ _ ⟨_, (b.aF St), R, c0, rfl⟩
                refine un k (un k (V (aZ (cB k) rfl) ?_))
                obtain rfl := sj G
                exact Y _ _ ⟨_, (b.aF St), R, c0, rfl⟩
              refine bC H (fun a H => ?_) (fun a H => ?_)
              · refine ug a (aQ N) (ug a (cF rfl rfl rfl) (ug a (aQ rfl) (LJ H (fun c3 E W => ∃ P, ST true cA w W (hp w) P ∧ E 0 = (.string M) ∧ E 3 = (.int .i64 y) ∧ E 4 = (.int .u8 ((d.toNat : Int))) ∧ E 37 = (.bool f2) ∧ E 43 = (.bool c3)) 3 ?_ (fun c3 I q => ?_))))
                · rintro g3 E W ⟨P, b, e1, e2, e3, e4, e7⟩ d2
                  refine V (aY (e4.trans (cB a)) e7) ?_
                  obtain rfl := sj d2
                  exact Z _ _ ⟨_, (b.aF St), e1, e2, e3, rfl⟩
                refine bC I (fun t I => ?_) (fun t I => ?_)
                · refine un t (un t (ug a (aY (cB t) rfl) ?_))
                  obtain rfl := sj I
                  exact q _ _ ⟨_, (b.aF St), h, l, N, rfl, rfl⟩
                refine ug t (aQ N) (ug t (cF rfl rfl rfl) (ug a (aZ (cB t) rfl) ?_))
                obtain rfl := sj I
                exact q _ _ ⟨_, (b.aF St), h, l, N, rfl, rfl⟩
              refine un a (un a (un a (Vu rfl rfl (Vu rfl rfl (un a (V (aZ (cB a) rfl) ?_))))))
              obtain rfl := sj H
              exact Z _ _ ⟨_, (b.aF St), h, l, N, rfl⟩
            refine bC J (fun j J => ?_) (fun j J => ?_)
            · refine un j (un j (V (aY (cB j) rfl) ?_))
              obtain rfl := sj J
              exact a2 _ _ ⟨_, (b.aF St), T, U, rfl, rfl⟩
            refine ug j (aQ rfl) (ug j (cF rfl rfl rfl) (V (aZ (cB j) rfl) ?_))
            obtain rfl := sj J
            exact a2 _ _ ⟨_, (b.aF St), T, U, rfl, rfl⟩
          exact fI (fD (fD (kz (aR (sg (Wa (lt (rQ c b))))))))
      refine bC u (fun g u => ?_) (fun g u => ?_)
      · refine un g (un g (un g (V (aY (cB g) rfl) ?_)))
        obtain rfl := sj u
        exact a3 _ _ ⟨_, (b.aF St), n, rfl⟩
      refine ug g (aQ n) (bS u fun f8 s u => ug g (uy (i := 0) underlying9 rfl rfl (tH s) (xr s)) (ug g (cF rfl rfl rfl) (V (aZ (cB g) rfl) ?_)))
      obtain rfl := sj u
      exact a3 _ _ ⟨_, (b.aF St), n, rfl⟩
    refine bC x (fun B x => ?_) (fun B x => ?_)
    · refine un B (un B (un B (V (aY (cB B) rfl) ?_)))
      obtain rfl := sj x
      exact a4 _ _ ⟨_, (b.aF St), p, rfl⟩
    refine ug B (aQ p) (bS x fun f9 v x => ug B (uy (i := 0) underlying9 rfl rfl (tH v) (xr v)) (ug B (cF rfl rfl rfl) (V (aZ (cB B) rfl) ?_)))
    obtain rfl := sj x
    exact a4 _ _ ⟨_, (b.aF St), p, rfl⟩
  refine bC K (fun z K => ?_) (fun z K => ?_)
  · refine un z (un z (un z (V (aY (cB z) rfl) ?_)))
    obtain rfl := sj K
    exact a5 _ _ ⟨_, (b.aF St), rfl, rfl⟩
  refine ug z (aQ rfl) (ug z (gV underlying9 rfl) (ug z (cF rfl rfl rfl) (V (aZ (cB z) rfl) ?_)))
  obtain rfl := sj K
  exact a5 _ _ ⟨_, (b.aF St), rfl, rfl⟩
theorem rk (i : aA) (r : Bool) (w : World) (hm : mj i = some r) :
    bF true Tryz.prog 241 [(.agg (aM i).toArray)] w (.bool r) := by
  refine cG 11 func241 rfl (fun b => sg (VE (bX b rfl (fun H J b => Wa (lr (Wf iH (VB b Mh rfl rfl isAgg9 (bS hm fun K y hm => VE (Eg b call158 ((pf i.aC _ _  y)) (fun I b => Wm (LJ hm (fun k E W => ∃ j, ST true cA w W (hp w) j ∧ E 2 = (.bool false) ∧ E 10 = (.bool k)) 4 ?_ (fun k a g => ?_))))))))))))
  · rintro G E W ⟨j, b, B, x⟩ t
    exact Wg x (lt (rQ t b))
  refine bC a (fun c a => ?_) (fun c a => ?_)
  · refine ug c (aO nG rfl) (ug c (aH rfl (bA b.has Mh rfl isAgg9)) (bS a fun D u a => kf c (Eg b call158 ((pf i.aJ _ _  u)) (fun z b => V (aY (cB c) rfl) ?_))))
    obtain rfl := sj a
    exact g _ _ ⟨_, (b.aF (Db St)), rfl, rfl⟩
  refine un c (un c (un c (V (aZ (cB c) rfl) ?_)))
  obtain rfl := sj a
  exact g _ _ ⟨_, (b.aF (Db St)), rfl, rfl⟩
theorem yh (t u : aA) (r : Bool) (w : World) (hm : pR t u = some r) :
    bF true Tryz.prog 242 [(.agg (aM t).toArray), (.agg (aM u).toArray)] w (.bool r) := by
  refine cG 24 func242 rfl (fun b => sg (VE (bX b rfl (fun T Y b => VE (bX b rfl (fun U Z b => Wa (lr (Wf iH (VB b (Mt Mh) rfl rfl isAgg9 (Wf iH (VB b Mh rfl rfl isAgg9 (V (kM rfl rfl rfl) ?_))))))))))))
  refine Wm (LJ hm (fun z E W => ∃ x, ST true cA w W (hp w) x ∧ E 4 = (.bool false) ∧ E 23 = (.bool z)) 13 ?_ (fun z g j => ?_))
  · rintro N E W ⟨x, b, M, H⟩ D
    exact Wg H (lt (rQ D b))
  refine bC g (fun a g => ?_) (fun a g => ?_)
  · refine un a (un a (un a (un a (un a (un a (Vu rfl rfl (Vu rfl rfl (Vu rfl rfl (Vu rfl rfl (Vu rfl rfl (un a (V (aY (cB a) rfl) ?_))))))))))))
    obtain rfl := sj g
    exact j _ _ ⟨_, (b.aF (Db (Db St))), rfl, rfl⟩
  refine ug a (aO iH rfl) (ug a (aH rfl (bA b.has (Mt Mh) rfl isAgg9)) (ug a (aO iH rfl) (ug a (aH rfl (bA b.has Mh rfl isAgg9)) (ug a (kM rfl rfl rfl) (ug a (aQ rfl) (LJ g (fun B E W => ∃ y, ST true cA w W (hp w) y ∧ E 4 = (.bool false) ∧ E 10 = (.bool ((jB t.aC u.aC))) ∧ E 22 = (.bool B)) 6 ?_ (fun B i k => ?_)))))))
  · rintro Q E W ⟨y, b, I, J, K⟩ G
    refine V (aZ (J.trans (cB a)) K) ?_
    obtain rfl := sj G
    exact j _ _ ⟨_, (b.aF St), I, rfl⟩
  refine bC i (fun c i => ?_) (fun c i => ?_)
  · refine ug c (aO nG rfl) (ug c (aH rfl (bA b.has (Mt Mh) rfl isAgg9)) (ug c (aO nG rfl) (ug c (aH rfl (bA b.has Mh rfl isAgg9)) (ug c (kM rfl rfl rfl) (ug a (aY (cB c) rfl) ?_)))))
    obtain rfl := sj i
    exact k _ _ ⟨_, (b.aF (Db (Db St))), rfl, rfl, rfl⟩
  refine un c (un c (un c (un c (un c (ug a (aZ (cB c) rfl) ?_)))))
  obtain rfl := sj i
  exact k _ _ ⟨_, (b.aF (Db (Db St))), rfl, rfl, rfl⟩
theorem xS (g : aB) (r : Bool) (w : World) (hm : pa g = some r) :
    bF true Tryz.prog 134 [(.agg (aG g).toArray)] w (.bool r) := by
  refine cG 93 func134 rfl (fun b => sg (VE (bX b rfl (fun W2 M b => Wa (lr (VE (bR b zeroValue28 (fun W4 h b => lS ?_))))))))
  refine Wf jT (VA b (Mt Mh) (aM g.Head) isAgg28 sizeOf28 (bS hm fun r5 h4 hm => VE (Eg b call241 ((rk g.Head _ _  h4)) (fun W7 b => V (gn rfl) (ln (CI hm rfl (fun h2 hm => ?_) (fun h2 hm => ?_)))))))
  · refine sg (Wa (ln ?_))
    replace b := b.aF (Db (Db St))
    refine bH (bU ?_)
    obtain rfl := sj hm
    exact rP b
  refine kS (Wf jQ (VB b (Mt Mh) rfl rfl isAgg3 (Wi rfl (ln (CI hm rfl (fun h3 hm => ?_) (fun h3 hm => ?_))))))
  · refine sg (Wf qc (VB b (Mt Mh) rfl rfl isAgg9 (bS hm fun i6 f7 hm => VE (Eg b call158 ((pf g.cH _ _  f7)) (fun i3 b => Wm (LJ hm (fun e1 E W => ∃ R, ST true cA w W (hp w) ((h, Ol (aM K0) 28) :: ((M, Ol (aG g) 53) :: R)) ∧ E 1 = (.pointer (some ⟨M, 0, none⟩)) ∧ E 2 = (.bool false) ∧ E 3 = (.pointer (some ⟨h, 0, none⟩)) ∧ E 19 = (.bool e1)) 5 ?_ (fun e1 T p => ?_)))))))
    · rintro i8 E W ⟨R, b, l, d6, f9, g0⟩ f0
      refine Wh g0 (LJ f0 (fun e0 E W => ∃ c9, ST true cA w W (hp w) ((M, Ol (aG g) 53) :: c9) ∧ E 1 = (.pointer (some ⟨M, 0, none⟩)) ∧ E 2 = (.bool false) ∧ E 25 = (.bool e0)) 5 ?_ (fun e0 Q a5 => ?_))
      · rintro i9 E W ⟨c9, b, g1, d7, g2⟩ f1
        refine Wh g2 (LJ f1 (fun d9 E W => ∃ d0, ST true cA w W (hp w) d0 ∧ E 2 = (.bool false) ∧ E 30 = (.bool d9)) 4 ?_ (fun d9 N a4 => ?_))
        · rintro j0 E W ⟨d0, b, i5, g3⟩ f2
          refine Wg g3 (lt (bU ?_))
          obtain rfl := sj f2
          exact rP b
        refine bC N (fun x N => ?_) (fun x N => ?_)
        · refine ug x (aO nL g1) (ug x (aH rfl (bA b.has Mh rfl isAgg9)) (ug x (kM rfl rfl rfl) (V (aY (cB x) rfl) ?_)))
          obtain rfl := sj N
          exact a4 _ _ ⟨_, (b.aF (Db St)), d7, rfl⟩
        refine un x (un x (un x (V (aZ (cB x) rfl) ?_)))
        obtain rfl := sj N
        exact a4 _ _ ⟨_, (b.aF (Db St)), d7, rfl⟩
      refine bC Q (fun k Q => ?_) (fun k Q => ?_)
      · refine ug k (aO lP l) (ug k (aH rfl (aK b.has (Mt Mh) (aM g.C) rfl isAgg28 sizeOf28)) (ug k (aH f9 (aK b.has Mh (aM K0) rfl isAgg28 sizeOf28)) (ug k (oa rfl rfl (fS eqGuardType28) (kC (jc _ g.C K0))) (V (aY (cB k) rfl) ?_))))
        obtain rfl := sj Q
        exact a5 _ _ ⟨_, (b.aF (Db St)), l, d6, rfl⟩
      refine un k (un k (un k (un k (V (aZ (cB k) rfl) ?_))))
      obtain rfl := sj Q
      exact a5 _ _ ⟨_, (b.aF (Db St)), l, d6, rfl⟩
    refine bC T (fun j T => ?_) (fun j T => ?_)
    · refine ug j (aO gh rfl) (ug j (aH rfl (aK b.has (Mt Mh) (aM g.B) rfl isAgg28 sizeOf28)) (ug j (aH rfl (aK b.has Mh (aM K0) rfl isAgg28 sizeOf28)) (ug j (oa rfl rfl (fS eqGuardType28) (kC (jc _ g.B K0))) (V (aY (cB j) rfl) ?_))))
      obtain rfl := sj T
      exact p _ _ ⟨_, (b.aF St), rfl, rfl, rfl, rfl⟩
    refine un j (un j (un j (un j (V (aZ (cB j) rfl) ?_))))
    obtain rfl := sj T
    exact p _ _ ⟨_, (b.aF St), rfl, rfl, rfl, rfl⟩
  let a0 := ((aG g).toArray : Array Value)
  let d : Value := (.pointer (some ⟨M, 0, none⟩))
  refine kS (Wf qc (VB b (Mt Mh) rfl rfl isAgg9 (V (kM rfl rfl rfl) (Wm (LJ hm (fun c1 E W => ∃ d1, ST true cA w W (hp w) ((h, Ol (aM K0) 28) :: ((M, Obj.cells a0 53 (0, 0)) :: d1)) ∧ E 1 = d ∧ E 3 = (.pointer (some ⟨h, 0, none⟩)) ∧ E 39 = (.bool c1)) 5 ?_ (fun c1 I a3 => ?_))))))
  · rintro j3 E W ⟨d1, b, u, d8, g4⟩ i
    refine ln (CI i g4 (fun e7 i => ?_) (fun e7 i => ?_))
    · refine sg (Wa (ln ?_))
      replace b := b.aF (Db (Db St))
      refine bH (bU ?_)
      obtain rfl := sj i
      exact rP b
    refine kS (V (aO jQ u) (VB b (Mt Mh) rfl rfl isAgg3 (Wi rfl (ln (CI i rfl (fun e8 i => ?_) (fun e8 i => ?_))))))
    · refine sg (V (aO lP u) (VA b (Mt Mh) (aM g.C) isAgg28 sizeOf28 (V (aH d8 (aK b.has Mh (aM K0) rfl isAgg28 sizeOf28)) (V (oa rfl rfl (fS eqGuardType28) (kC (jc _ g.C K0))) (Wm (LJ i (fun e2 E W => ∃ d2, ST true cA w W (hp w) d2 ∧ E 51 = (.bool e2)) 4 ?_ (fun e2 U q => ?_)))))))
      · rintro j4 E W ⟨d2, b, g7⟩ f3
        refine Wg g7 (lt (bU ?_))
        obtain rfl := sj f3
        exact rP b
      refine bC U (fun y U => ?_) (fun y U => ?_)
      · refine ug y (aO nL u) (ug y (aH rfl (bA b.has (Mt Mh) rfl isAgg9)) (ug y (kM rfl rfl rfl) (V (aY (cB y) rfl) ?_)))
        obtain rfl := sj U
        exact q _ _ ⟨_, (b.aF (Db (Db St))), rfl⟩
      refine un y (un y (un y (V (aZ (cB y) rfl) ?_)))
      obtain rfl := sj U
      exact q _ _ ⟨_, (b.aF (Db (Db St))), rfl⟩
    refine kS (V (aO jQ u) (VB b (Mt Mh) rfl rfl isAgg3 (Wi rfl (ln (CI i rfl (fun e9 i => ?_) (fun e9 i => ?_))))))
    · refine sg (V (aO lP u) (VA b (Mt Mh) (aM g.C) isAgg28 sizeOf28 (V (aH d8 (aK b.has Mh (aM K0) rfl isAgg28 sizeOf28)) (V (oa rfl rfl (fS eqGuardType28) (kC (jc _ g.C K0))) (Wm (LJ i (fun e4 E W => ∃ d3, ST true cA w W (hp w) ((M, Obj.cells a0 53 (0, 0)) :: d3) ∧ E 1 = d ∧ E 67 = (.bool e4)) 8 ?_ (fun e4 Y a9 => ?_)))))))
      · rintro j5 E W ⟨d3, b, g8, g9⟩ f4
        refine Wh g9 (LJ f4 (fun e3 E W => ∃ d4, ST true cA w W (hp w) d4 ∧ E 72 = (.bool e3)) 4 ?_ (fun e3 J s => ?_))
        · rintro j6 E W ⟨d4, b, h0⟩ f5
          refine Wg h0 (lt (bU ?_))
          obtain rfl := sj f5
          exact rP b
        refine bC J (fun z J => ?_) (fun z J => ?_)
        · refine ug z (aO nL g8) (ug z (aH rfl (bA b.has Mh rfl isAgg9)) (bS J fun i7 f8 J => kf z (Eg b call158 ((pf g.cO _ _  f8)) (fun i4 b => V (aY (cB z) rfl) ?_))))
          obtain rfl := sj J
          exact s _ _ ⟨_, (b.aF (Db St)), rfl⟩
        refine un z (un z (un z (V (aZ (cB z) rfl) ?_)))
        obtain rfl := sj J
        exact s _ _ ⟨_, (b.aF (Db St)), rfl⟩
      refine bC Y (fun a Y => ?_) (fun a Y => ?_)
      · refine ug a (aO gh u) (ug a (aO iH rfl) (ug a (aH rfl (bA b.has (Mt Mh) rfl isAgg9)) (ug a (aO jT u) (ug a (aO iH rfl) (ug a (aH rfl (bA b.has (Mt Mh) rfl isAgg9)) (ug a (kM rfl rfl rfl) (V (aY (cB a) rfl) ?_)))))))
        obtain rfl := sj Y
        exact a9 _ _ ⟨_, (b.aF (Db St)), u, rfl⟩
      refine un a (un a (un a (un a (un a (un a (un a (V (aZ (cB a) rfl) ?_)))))))
      obtain rfl := sj Y
      exact a9 _ _ ⟨_, (b.aF (Db St)), u, rfl⟩
    refine kn ?_
    replace b := b.aF (Db St)
    refine sg (V (aO jQ u) (VB b Mh rfl rfl isAgg3 (Wi rfl (Wm (LJ i (fun P E W => ∃ d5, ST true cA w W (hp w) ((M, Obj.cells a0 53 (0, 0)) :: d5) ∧ E 1 = d ∧ E 80 = (.bool P)) 4 ?_ (fun P K a2 => ?_))))))
    · rintro j7 E W ⟨d5, b, m, h1⟩ f6
      refine Wh h1 (LJ f6 (fun O E W => ∃ v, ST true cA w W (hp w) ((M, Obj.cells a0 53 (0, 0)) :: v) ∧ E 1 = d ∧ E 85 = (.bool O)) 4 ?_ (fun O H n => ?_))
      · rintro i1 E W ⟨v, b, F, e5⟩ c3
        refine Wh e5 (LJ c3 (fun L E W => ∃ A, ST true cA w W (hp w) A ∧ E 92 = (.bool L)) 6 ?_ (fun L G Z => ?_))
        · rintro i2 E W ⟨A, b, e6⟩ c4
          exact Wg e6 (lt (rQ c4 b))
        refine bC G (fun c G => ?_) (fun c G => ?_)
        · refine ug c (aO gh F) (ug c (aH rfl (aK b.has Mh (aM g.B) rfl isAgg28 sizeOf28)) (ug c (aO lP F) (ug c (aH rfl (aK b.has Mh (aM g.C) rfl isAgg28 sizeOf28)) (bS G fun h8 c5 G => kf c (Eg b call242 ((yh g.B g.C _ _  c5)) (fun h5 b => V (aY (cB c) rfl) ?_))))))
          obtain rfl := sj G
          exact Z _ _ ⟨_, (b.aF (Db St)), rfl⟩
        refine un c (un c (un c (un c (un c (V (aZ (cB c) rfl) ?_)))))
        obtain rfl := sj G
        exact Z _ _ ⟨_, (b.aF (Db St)), rfl⟩
      refine bC H (fun D H => ?_) (fun D H => ?_)
      · refine ug D (aO lP m) (ug D (aH rfl (aK b.has Mh (aM g.C) rfl isAgg28 sizeOf28)) (bS H fun h9 c6 H => kf D (Eg b call241 ((rk g.C _ _  c6)) (fun h6 b => V (aY (cB D) rfl) ?_))))
        obtain rfl := sj H
        exact n _ _ ⟨_, (b.aF St), m, rfl⟩
      refine un D (un D (un D (V (aZ (cB D) rfl) ?_)))
      obtain rfl := sj H
      exact n _ _ ⟨_, (b.aF St), m, rfl⟩
    refine bC K (fun B K => ?_) (fun B K => ?_)
    · refine ug B (aO nL u) (ug B (aH rfl (bA b.has Mh rfl isAgg9)) (ug B (kM rfl rfl rfl) (V (aY (cB B) rfl) ?_)))
      obtain rfl := sj K
      exact a2 _ _ ⟨_, (b.aF St), u, rfl⟩
    refine un B (un B (un B (V (aZ (cB B) rfl) ?_)))
    obtain rfl := sj K
    exact a2 _ _ ⟨_, (b.aF St), u, rfl⟩
  refine bC I (fun t I => ?_) (fun t I => ?_)
  · refine un t (un t (un t (un t (V (aY (cB t) rfl) ?_))))
    obtain rfl := sj I
    exact a3 _ _ ⟨_, (b.aF St), rfl, rfl, rfl⟩
  refine ug t (aO gh rfl) (ug t (aH rfl (aK b.has (Mt Mh) (aM g.B) rfl isAgg28 sizeOf28)) (bS I fun i0 c7 I => kf t (Eg b call241 ((rk g.B _ _  c7)) (fun h7 b => ug t (gn rfl) (V (aZ (cB t) rfl) ?_)))))
  obtain rfl := sj I
  exact a3 _ _ ⟨_, (b.aF St), rfl, rfl, rfl⟩
theorem og (x : Int) (r : ByteArray) (w : World) (hm : jR x = some r) :
    bF true Tryz.prog 258 [(.int .i64 x)] w (.string r) := by
  refine cG 22 func258 rfl (fun d => sg (Wa (lr (Wa (ln (aW (dN (fB (fun m E W => ∃ c j t, ST true cA w W (hp w) t ∧ E 0 = (.int .i64 c) ∧ E 3 = (.string j) ∧ mF m c j = some r) bL ⟨x, zS, _, (d.aF St), rfl, rfl, hm⟩ ?_))))))))
  rintro m E W ⟨c, j, t, d, i, u, g⟩
  let N := ((Int.tmod c 128))
  cases m with
  | zero => rw [mF] at g; cases g
  | succ D =>
    refine aW (sg (Wh i (Wi rfl (ln (CI g rfl (fun y g => ?_) (fun y g => ?_))))))
    · refine kn (bg (Wh u (Wh i (V (DK (k := .i64) (a := c) (b := 128) (v := (.int .i64 N)) rfl rfl dc rfl) (Wi rfl (V (kF (k' := .i64) (a := (IntKind.i64.wrap (128 + N))) underlying3 underlying5 rfl) (VE (bJ (cs := [(.int .u8 ((IntKind.u8.wrap ((IntKind.i64.wrap (128 + N))))))].toArray) d (dZ rfl) (ew underlying54 sizeOf5 zeroValue5) (fun H J d => V (FZ underlying54 underlying5 underlying9 rfl (Sl.lit (enc := (dM .u8)) (l := [(IntKind.u8.wrap ((IntKind.i64.wrap (128 + N))))]) (fun _ => rfl) rfl nb rfl (d.at_ Mh))) (bS g fun G z g => V (qx rfl rfl z) (Wa ?_)))))))))))
      refine ln ?_
      replace d := d.aF (Db St)
      exact aU (Wh i (V (DK (k := .i64) (a := c) (b := 128) (v := (.int .i64 ((IntKind.i64.wrap (Int.tdiv c 128))))) rfl rfl dc rfl) (Wa (bK (bY (aR ⟨D, Nat.lt_succ_self _, ((IntKind.i64.wrap (Int.tdiv c 128))), G, _, (d.aF St), rfl, rfl, g⟩))))))
    refine fI (fD (fD (kz (aR (sg (Wh u (Wh i (V (kF (k' := .i64) (a := c) underlying3 underlying5 rfl) (VE (bJ (cs := [(.int .u8 ((IntKind.u8.wrap c)))].toArray) d (dZ rfl) (ew underlying54 sizeOf5 zeroValue5) (fun I K d => V (FZ underlying54 underlying5 underlying9 rfl (Sl.lit (enc := (dM .u8)) (l := [(IntKind.u8.wrap c)]) (fun _ => rfl) rfl nb rfl (d.at_ Mh))) (bS g fun M B g => V (qx rfl rfl B) (Wa (ln ?_))))))))))))))
    exact bH (rQ g d)
theorem se (a r : ByteArray) (w : World) (hm : nr a = some r) :
    bF true Tryz.prog 163 [(.string a)] w (.string r) := by
  refine cG 8 func163 rfl (fun b => sg (Wa (lr (Wm (V (gV underlying9 rfl) (bS hm fun j c hm => VE (Eg b call258 ((og ((a.size : Int)) _ _  c)) (fun i b => Wm (bS hm fun k g hm => V (qx rfl rfl g) ?_)))))))))
  exact Wa (lt (rQ hm b))
theorem ri (a : aA) (r : ByteArray) (w : World) (hm : mw a = some r) :
    bF true Tryz.prog 259 [(.agg (aM a).toArray)] w (.string r) := by
  refine cG 10 func259 rfl (fun b => sg (VE (bX b rfl (fun y z b => Wa (ln (aW ?_))))))
  replace b := b.drew
  have d := b.has.aF (Kb Sn)
  refine cT d cE (X 0 rfl d (aO iH rfl) (XH 1 rfl d (fun _ h => aH rfl (bA h Mh rfl isAgg9)) (X 3 rfl d (aO nG rfl) (XH 4 rfl d (fun _ h => aH rfl (bA h Mh rfl isAgg9)) (bS hm fun t c hm => XE 2 rfl (Eg b call163 ((se a.aC _ _  c)) (fun j b => ?_)))))))
  have d := b.has.aF (Kb Sn)
  refine ⟨d, (bS hm fun u g hm => XE 5 rfl (Eg b call163 ((se a.aJ _ _  g)) (fun k b => ?_)))⟩
  have d := b.has.aF (Kb Sn)
  refine ⟨d, (bS hm fun x i hm => X 6 rfl d (qx rfl rfl i) (X 7 rfl d (fW rfl) (dG kr (aR ?_))))⟩
  exact bH (rQ hm b)
theorem Ds (g : aB) (r : ByteArray) (w : World) (hm : uc g = some r) :
    bF true Tryz.prog 141 [(.agg (aG g).toArray)] w (.string r) := by
  refine cG 41 func141 rfl (fun b => sg (VE (bX b rfl (fun W2 l b => Wa (ln (aW ?_))))))
  replace b := b.drew
  have d := b.has.aF (Kb Sn)
  refine cT d cE (X 0 rfl d (aO jQ rfl) (XH 1 rfl d (fun _ h => aH rfl (bA h Mh rfl isAgg3)) (X 3 rfl d (aO jT rfl) (XH 4 rfl d (fun _ h => aH rfl (aK h Mh (aM g.Head) rfl isAgg28 sizeOf28)) (bS hm fun a9 H hm => XE 2 rfl (Eg b call258 ((og g.Kind _ _  H)) (fun a3 b => ?_)))))))
  have d := b.has.aF (Kb Sn)
  refine ⟨d, (bS hm fun q I hm => XE 5 rfl (Eg b call259 ((ri g.Head _ _  I)) (fun a4 b => ?_)))⟩
  have d := b.has.aF (Kb Sn)
  refine ⟨d, (bS hm fun L Q hm => X 6 rfl d (qx rfl rfl Q) (X 7 rfl d (fW rfl) (dG kr (aR (aW (sg (Wf jQ (VB b Mh rfl rfl isAgg3 (Wi rfl (ln (CI hm rfl (fun y hm => ?_) (fun y hm => ?_))))))))))))⟩
  · refine sg (Wm (Wf qc (VB b Mh rfl rfl isAgg9 (bS hm fun s J hm => VE (Eg b call163 ((se g.cH _ _  J)) (fun a5 b => bS hm fun O T hm => V (qx rfl rfl T) (Wa (ln ?_))))))))
    replace b := b.aF (Db St)
    refine bH (bU ?_)
    obtain rfl := sj hm
    exact rP b
  refine kg (Wm (Wf gh (VA b Mh (aM g.B) isAgg28 sizeOf28 (bS hm fun v K hm => VE (Eg b call259 ((ri g.B _ _  K)) (fun m b => bS hm fun P U hm => V (qx rfl rfl U) (Wa (ln (aW ?_)))))))))
  refine CJ hm (fun x E W => ∃ i, ST true cA w W (hp w) ((l, Ol (aG g) 53) :: i) ∧ E 1 = (.pointer (some ⟨l, 0, none⟩)) ∧ E 3 = (.string x)) (fun x c => ?_) ?_
  · refine sg (Wf jQ (VB b Mh rfl rfl isAgg3 (Wi rfl (ln (CI c rfl (fun B c => ?_) (fun B c => ?_))))))
    · refine aU (Wm (Wf nL (VB b Mh rfl rfl isAgg9 (bS c fun F N c => VE (Eg b call163 ((se g.cO _ _  N)) (fun p b => bS c fun c1 Z c => V (qx rfl rfl Z) (Wa (ln ?_))))))))
      obtain rfl := sj c
      exact ⟨_, (b.aF St), rfl, rfl⟩
    refine kn ?_
    obtain rfl := sj c
    exact ⟨_, (b.aF St), rfl, rfl⟩
  rintro c2 E W ⟨i, b, k, t⟩ D
  refine aW (CJ D (fun u E W => ∃ j, ST true cA w W (hp w) j ∧ E 3 = (.string u)) (fun u a => ?_) ?_)
  · refine sg (V (aO jQ k) (VB b Mh rfl rfl isAgg3 (Wi rfl (ln (CI a rfl (fun z a => ?_) (fun z a => ?_))))))
    · refine aU (Wh t (V (aO lP k) (VA b Mh (aM g.C) isAgg28 sizeOf28 (bS a fun A M a => VE (Eg b call259 ((ri g.C _ _  M)) (fun n b => bS a fun R Y a => V (qx rfl rfl Y) (Wa (ln ?_))))))))
      obtain rfl := sj a
      exact ⟨_, (b.aF (Db St)), rfl⟩
    refine kn ?_
    obtain rfl := sj a
    exact ⟨_, (b.aF (Db St)), t⟩
  rintro c3 E W ⟨j, b, a2⟩ G
  exact sg (Wh a2 (Wa (lt (rQ G b))))
theorem xQ (a : aB) (r : ByteArray) (w : World) (hm : oT a = some r) :
    bF true Tryz.prog 253 [(.agg (aG a).toArray)] w (.string r) := by
  refine cG 8 func253 rfl (fun b => sg (VE (bX b rfl (fun j u b => Wa (lS (VA b Mh (aG a) isAgg53 sizeOf53 (bS hm fun x g hm => VE (Eg b call134 ((xS a _ _  g)) (fun k b => V (gn rfl) (bK ?_))))))))))
  refine aR (CI hm rfl (fun c hm => ?_) (fun c hm => ?_))
  · refine sg (Wa (ln ?_))
    replace b := b.aF (Db St)
    refine bH (bU ?_)
    obtain rfl := sj hm
    exact rP b
  refine kg (VA b Mh (aG a) isAgg53 sizeOf53 (bS hm fun y i hm => VE (Eg b call141 ((Ds a _ _  i)) (fun t b => Wa (ln ?_)))))
  exact bH (rQ hm b)
theorem vR (a c : aB) (r : Int) (w : World) (hm : mh a c = some r) :
    bF true Tryz.prog 135 [(.agg (aG a).toArray), (.agg (aG c).toArray)] w (.int .i64 r) := by
  refine cG 17 func135 rfl (fun b => sg (VE (bX b rfl (fun u z b => VE (bX b rfl (fun x B b => Wa (lr (VA b (Mt Mh) (aG a) isAgg53 sizeOf53 (bS hm fun D j hm => VE (Eg b call253 ((xQ a _ _  j)) (fun y b => Wa (bK ?_))))))))))))
  refine aR ?_
  replace b := b.aF (Kb (Db St))
  refine sg (VA b Mh (aG c) isAgg53 sizeOf53 (bS hm fun G k hm => VE (Eg b call253 ((xQ c _ _  k)) (fun t b => Wa (ln ?_)))))
  replace b := b.aF (Db St)
  refine aW (sg (Wm (Wm (V (kM rfl rfl rfl) (ln (CI hm rfl (fun g hm => ?_) (fun g hm => ?_)))))))
  · refine sg (Wa (lt (bU ?_)))
    obtain rfl := sj hm
    exact rP b
  refine kS (Wm (Wm (V (kM rfl rfl rfl) (ln (CI hm rfl (fun i hm => ?_) (fun i hm => ?_))))))
  · refine sg (Wa (lt (bU ?_)))
    obtain rfl := sj hm
    exact rP b
  exact kg (Wa (lt (rQ hm b)))
theorem wi (D : Value) (a0 r : List aB) (w : World) (e3 : Sl (Pl aG) 9 (hp w) D a0) (hm : nT a0 = some r) :
    dP true Tryz.prog 33 [D] w 53 aG 9 r := by
  refine ng 51 func33 rfl (fun d => sg (Wa (lr (Wa (ln (jO (dN (fB (fun m E W => ∃ x a3 u c5, ST true cA w W (hp w) (u ++ c5) ∧ E 0 = D ∧ E 3 = x ∧ bG 53 aG 9 x a3 u ∧ mS a0 m a3 = some r) bL ⟨(.slice none 0 0), ([]), [], _, (d.aF St), rfl, rfl, (bG.nil _ _ _), hm⟩ ?_))))))))
  rintro m E W ⟨x, a3, u, c5, d, d1, g2, J, a5⟩
  cases m with
  | zero => rw [mS] at a5; cases a5
  | succ j5 =>
    refine bg (VE (bR d zeroValue53 (fun k0 t d => lr (Wa (lS (Wh d1 ?_))))))
    let b8 : Value := (.pointer (some ⟨t, 0, none⟩))
    refine V (cU underlying22 rfl e3) (Wm (ln (CJ a5 (fun a9 E W => ∃ c6, ST true cA w W (hp w) ((t, Ol (aG a9.2) 53) :: (u ++ c6)) ∧ E 0 = D ∧ E 3 = x ∧ E 4 = b8 ∧ E 5 = (.bool a9.1)) (fun a9 e9 => ?_) ?_)))
    · refine cK (fun i E W => ∃ G y b1, (E 10 = .int .i64 (i : Nat) ∧ E 9 = .int .i64 (a0.length : Nat)) ∧ ST true cA w W (hp w) ((t, Ol (aG y) 53) :: (u ++ b1)) ∧ E 0 = D ∧ E 3 = x ∧ E 4 = b8 ∧ E 5 = (.bool G) ∧ E 8 = D ∧ kY a3 (a0.drop i) G y = some a9) a0.length e3.len ⟨false, Ky, _, ⟨rfl, rfl⟩, (d.aF St), d1, g2, rfl, rfl, rfl, e9⟩ dc dc dc (fun _ _ _ h => by obtain ⟨_, _, _, aa, _⟩ := h; exact aa) ?_ ?_
      · rintro a2 E W e8 ⟨G, y, b1, ⟨s, P⟩, d, U, M, Y, Z, q, z⟩
        let g5 := ((aG y).toArray : Array Value)
        obtain ⟨c, j9, f9, f8, c4⟩ := cC e8
        let O := ((aG c).toArray : Array Value)
        rw [f9] at z
        refine bg (VQ (fJ (enc := aG) (i := (a2 : Int)) (x0 := c) underlying22 sizeOf53 q s e3 (Int.natCast_nonneg _) f8) (fun k9 f3 => V (aH rfl (bE d.has f3 isAgg53 sizeOf53)) (VE (bR d zeroValue53 (fun k3 K d => VO (aX (.agg (aG c).toArray) ((aG c).toArray) d rfl rfl sizeOf53 (fC c) nb rfl (fun k4 d => ln (aW ?_))))))))
        let j2 : Value := (.int .i64 ((a2 : Int)))
        let j1 : Value := (.int .i64 ((a0.length : Int)))
        let g6 : Value := (.pointer (some ⟨K, 0, none⟩))
        replace d := d.drew
        have b := d.has.aF (Kb (Kb (Kr Sn)))
        refine cT b cE (XH 0 rfl b (fun _ n => aH rfl (aK n Mh (aG c) rfl isAgg53 sizeOf53)) (bS z fun j6 f5 z => XE 1 rfl (Eg d call134 ((xS c _ _  f5)) (fun k5 d => ?_))))
        have b := d.has.aF (Kb (Kb (Kr Sn)))
        refine ⟨b, (X 2 rfl b (aQ rfl) (PJ z (fun e0 E W => ∃ c7, ST true cA w W (hp w) ((K, Obj.cells O 53 (0, 0)) :: ((t, Obj.cells g5 53 (0, 0)) :: (u ++ c7))) ∧ E 0 = D ∧ E 3 = x ∧ E 4 = b8 ∧ E 5 = (.bool G) ∧ E 7 = g6 ∧ E 8 = D ∧ E 9 = j1 ∧ E 10 = j2 ∧ E 31 = (.bool e0)) (bm 28 262143) 10 ?_ (fun e0 T c1 => ?_)))⟩
        · rintro j8 E W ⟨c7, d, b2, b3, A, F, L, b4, b5, b6, g8⟩ f0
          have b := d.has.aF (Kb (Kb (Kr Sn)))
          refine X 18 rfl b (aQ g8) (PJ f0 (fun d8 E W => ∃ c8, ST true cA w W (hp w) ((K, Obj.cells O 53 (0, 0)) :: ((t, Obj.cells g5 53 (0, 0)) :: (u ++ c8))) ∧ E 0 = D ∧ E 3 = x ∧ E 4 = b8 ∧ E 5 = (.bool G) ∧ E 7 = g6 ∧ E 8 = D ∧ E 9 = j1 ∧ E 10 = j2 ∧ E 41 = (.bool d8)) (bm 28 268435455) 0 ?_ (fun d8 Q b9 => ?_))
          · rintro l4 E W ⟨c8, d, d3, d4, b7, g9, h0, d5, d6, d7, h1⟩ N
            refine dG kr (aR (CI N h1 (fun e7 N => ?_) (fun e7 N => ?_)))
            · refine sg (V (aH h0 (aK d.has Mh (aG c) rfl isAgg53 sizeOf53)) ?_)
              replace d := d.perm (Nb (Pb Pz) Nz)
              refine VO (aX (.agg (aG c).toArray) ((aG c).toArray) d b7 rfl sizeOf53 (fC c) nb rfl (fun k6 d => ln ?_))
              replace d := d.aF (Kb (Db St))
              exact aU (Wa (bK (bY (aR ⟨d7, true, c, _, ⟨rfl, d6⟩, (d.aF St), d3, d4, b7, rfl, d5, (by rw [c4]; exact N)⟩))))
            refine cZ (bY (aR ?_))
            replace d := d.aF (Db St)
            exact ⟨d7, G, y, _, ⟨rfl, d6⟩, (d.aF St), d3, d4, b7, g9, d5, (by rw [c4]; exact N)⟩
          refine bC Q (fun j Q => ?_) (fun j Q => ?_)
          · refine Xg 19 rfl rfl (cB j) b (aQ F) (Xg 20 rfl rfl (cB j) b (gn rfl) (Xg 21 rfl rfl (cB j) b (aQ rfl) (PJ Q (fun d9 E W => ∃ c9, ST true cA w W (hp w) ((K, Obj.cells O 53 (0, 0)) :: ((t, Obj.cells g5 53 (0, 0)) :: (u ++ c9))) ∧ E 0 = D ∧ E 3 = x ∧ E 4 = b8 ∧ E 5 = (.bool G) ∧ E 7 = g6 ∧ E 8 = D ∧ E 9 = j1 ∧ E 10 = j2 ∧ E 32 = (.bool j8) ∧ E 40 = (.bool d9)) (bm 28 134217727) 1 ?_ (fun d9 I c0 => ?_))))
            · rintro l5 E W ⟨c9, d, h2, h3, h4, h5, h6, h7, h8, h9, i0, i1⟩ f1
              have b := d.has.aF (Kb (Kb (Kr Sn)))
              refine X 27 rfl b (aY (i0.trans (cB j)) i1) ?_
              obtain rfl := sj f1
              refine fO kr (b9 _ _ ⟨_, (d.aF St), h2, h3, h4, h5, h6, h7, h8, h9, rfl⟩)
            refine bC I (fun k I => ?_) (fun k I => ?_)
            · refine Xn 22 rfl rfl (cB k) b (Xn 23 rfl rfl (cB k) b (Xn 24 rfl rfl (cB k) b (Xn 25 rfl rfl (cB k) b (Xg 26 rfl rfl (cB j) b (aY (cB k) rfl) ?_))))
              obtain rfl := sj I
              refine fO kr (c0 _ _ ⟨_, (d.aF St), b2, b3, A, F, L, b4, b5, b6, rfl, rfl⟩)
            refine ou 22 rfl rfl (cB k) b (fun _ n => aH L (aK n Mh (aG c) rfl isAgg53 sizeOf53)) (ou 23 rfl rfl (cB k) b (fun _ n => aH A (aK n (Mt Mh) (aG y) rfl isAgg53 sizeOf53)) (bS I fun l1 f6 I => zZ 24 rfl rfl (cB k) (Eg d call135 ((vR c y _ _  f6)) (fun k7 d => ?_))))
            have b := d.has.aF (Kb (Kb (Kr Sn)))
            refine ⟨b, (Xg 25 rfl rfl (cB k) b (cF rfl rfl rfl) (Xg 26 rfl rfl (cB j) b (aZ (cB k) rfl) ?_))⟩
            obtain rfl := sj I
            refine fO kr (c0 _ _ ⟨_, (d.aF St), b2, b3, A, F, L, b4, b5, b6, rfl, rfl⟩)
          refine Xn 19 rfl rfl (cB j) b (Xn 20 rfl rfl (cB j) b (Xn 21 rfl rfl (cB j) b (Xu 22 rfl rfl rfl b (Xu 23 rfl rfl rfl b (Xu 24 rfl rfl rfl b (Xu 25 rfl rfl rfl b (Xn 26 rfl rfl (cB j) b (X 27 rfl b (aZ (cB j) rfl) ?_))))))))
          obtain rfl := sj Q
          refine fO kr (b9 _ _ ⟨_, (d.aF St), b2, b3, A, F, L, b4, b5, b6, rfl⟩)
        refine bC T (fun g T => ?_) (fun g T => ?_)
        · refine Xg 3 rfl rfl (cB g) b (aQ M) (Xg 4 rfl rfl (cB g) b (fi underlying22 rfl J) (Xg 5 rfl rfl (cB g) b (cF rfl rfl rfl) (Xg 6 rfl rfl (cB g) b (aQ rfl) (PJ T (fun e1 E W => ∃ d0, ST true cA w W (hp w) ((K, Obj.cells O 53 (0, 0)) :: ((t, Obj.cells g5 53 (0, 0)) :: (u ++ d0))) ∧ E 0 = D ∧ E 3 = x ∧ E 4 = b8 ∧ E 5 = (.bool G) ∧ E 7 = g6 ∧ E 8 = D ∧ E 9 = j1 ∧ E 10 = j2 ∧ E 16 = (.bool j6) ∧ E 30 = (.bool e1)) (bm 28 131071) 11 ?_ (fun e1 B c2 => ?_)))))
          · rintro l6 E W ⟨d0, d, i2, i3, i4, i5, i6, i7, i8, i9, j0, j3⟩ f2
            have b := d.has.aF (Kb (Kb (Kr Sn)))
            refine X 17 rfl b (aY (j0.trans (cB g)) j3) ?_
            obtain rfl := sj f2
            refine fO kr (c1 _ _ ⟨_, (d.aF St), i2, i3, i4, i5, i6, i7, i8, i9, rfl⟩)
          refine bC B (fun a B => ?_) (fun a B => ?_)
          · refine Xn 7 rfl rfl (cB a) b (Xn 8 rfl rfl (cB a) b (Xn 9 rfl rfl (cB a) b (Xn 10 rfl rfl (cB a) b (Xn 11 rfl rfl (cB a) b (Xn 12 rfl rfl (cB a) b (Xn 13 rfl rfl (cB a) b (Xn 14 rfl rfl (cB a) b (Xn 15 rfl rfl (cB a) b (Xg 16 rfl rfl (cB g) b (aY (cB a) rfl) ?_)))))))))
            obtain rfl := sj B
            refine fO kr (c2 _ _ ⟨_, (d.aF St), U, M, Y, Z, rfl, q, P, s, rfl, rfl⟩)
          refine Xg 7 rfl rfl (cB a) b (aQ M) (Xg 8 rfl rfl (cB a) b (aQ M) (Xg 9 rfl rfl (cB a) b (fi underlying22 rfl J) (Xg 10 rfl rfl (cB a) b (cF rfl rfl rfl) (bS B fun e2 b0 B => mB 11 rfl kr (.inr ⟨6, false, 20, rfl, rfl, by decide, (cB a)⟩) rfl dc (fun _ _ h => h) b (iZ (i := (IntKind.i64.wrap (((a3.length : Int)) - 1))) (x0 := e2) underlying22 sizeOf53 rfl rfl J (bV b0) (bQ b0)) (fun l0 f4 => ou 12 rfl rfl (cB a) b (fun _ n => aH rfl (oJ n (fun p hq => (Mt (Mt (Ml hq)))) J bI f4 (bQ b0) isAgg53 sizeOf53)) (ou 13 rfl rfl (cB a) b (fun _ n => aH rfl (aK n Mh (aG c) rfl isAgg53 sizeOf53)) (bS B fun l2 f7 B => zZ 14 rfl rfl (cB a) (Eg d call135 ((vR e2 c _ _  f7)) (fun k8 d => ?_)))))))))
          have b := d.has.aF (Kb (Kb (Kr Sn)))
          refine ⟨b, (Xg 15 rfl rfl (cB a) b (cF rfl rfl rfl) (Xg 16 rfl rfl (cB g) b (aZ (cB a) rfl) ?_))⟩
          obtain rfl := sj B
          refine fO kr (c2 _ _ ⟨_, (d.aF St), U, M, Y, Z, rfl, q, P, s, rfl, rfl⟩)
        refine Xn 3 rfl rfl (cB g) b (Xn 4 rfl rfl (cB g) b (Xn 5 rfl rfl (cB g) b (Xn 6 rfl rfl (cB g) b (Xu 7 rfl rfl rfl b (Xu 8 rfl rfl rfl b (Xu 9 rfl rfl rfl b (Xu 10 rfl rfl rfl b (Xu 11 rfl rfl rfl b (Xu 12 rfl rfl rfl b (Xu 13 rfl rfl rfl b (Xu 14 rfl rfl rfl b (Xu 15 rfl rfl rfl b (Xn 16 rfl rfl (cB g) b (X 17 rfl b (aZ (cB g) rfl) ?_))))))))))))))
        obtain rfl := sj T
        refine fO kr (c1 _ _ ⟨_, (d.aF St), U, M, Y, Z, rfl, q, P, s, rfl⟩)
      rintro E W ⟨G, y, b1, ⟨s, P⟩, d, U, M, Y, Z, q, z⟩
      rw [List.drop_length] at z
      refine aR ?_
      obtain rfl := sj z
      exact ⟨_, (d.aF St), U, M, Y, Z⟩
    rintro ⟨l3, a4⟩ E W ⟨c6, d, g3, d2, g4, g7⟩ H
    refine aW (sg (Wh g7 (V (gn rfl) (ln (CI H rfl (fun e5 H => ?_) (fun e5 H => ?_))))))
    · refine sg (Wh d2 (Wa (ln ?_)))
      replace d := d.aF (Db St)
      refine bH (bU (eF (bU (eF (bU ?_)))))
      obtain rfl := sj H
      exact dH (v := x) rfl rfl ⟨_, u, rfl, d.gb (fun p hq => (Ml hq)) J.nd, J⟩
    refine kn (aU (Wh d2 (V (aH g4 (aK d.has Mh (aG a4) rfl isAgg53 sizeOf53)) (VE (bJ (cs := (aG a4).toArray) d (dZ rfl) (ew underlying22 sizeOf53 zeroValue53) (fun k1 g1 d => ?_))))))
    replace d := d.perm (Nr (Qb (Qb Qz)) Nz)
    refine bS H fun j4 e6 H => VE (ga (enc := aG) (v := x) (vs := (.slice (some ⟨g1, 0, none⟩) 1 1)) (R := u) d bI dc fC underlying22 eJ.1 eJ.2.1 rfl eJ.2.2.1 eJ.2.2.2 rfl rfl J (Sl.lit (enc := aG) (l := [a4]) bI rfl nb rfl (d.at_ (Ma Mh))) e6 (fun k2 j7 g0 d e4 => Wa (bK (bY (aR ?_)))))
    replace d := d.aF (Kr (Db (Db St)))
    exact ⟨j5, Nat.lt_succ_self _, j7, j4, g0, _, (d.aF St), g3, rfl, e4, H⟩
theorem Ah (x : cR) (j t : Value) (r : List aB) (w : World) (g : Sl bN 15 (hp w) j x.aT) (B : Sl dF 8 (hp w) t x.bP) (hm : qU x = some r) :
    dP true Tryz.prog 176 [(.agg #[(.string x.Name), j, t])] w 53 aG 9 r := by
  refine ng 22 func176 rfl (fun d => sg ?_)
  obtain ⟨A1, c2, rfl⟩ := g.form
  obtain ⟨A3, c4, rfl⟩ := B.form
  refine VE (bX d rfl (fun W6 b5 d => Wa (lr (Wa (lS (Wf kD (VB d Mh rfl rfl isAgg107 (V (cU underlying107 rfl g) ?_))))))))
  refine Wm (ln ?_)
  replace d := d.aF (Db St)
  refine cK (fun i E W => ∃ k y u D, (E 9 = .int .i64 (i : Nat) ∧ E 8 = .int .i64 (x.aT.length : Nat)) ∧ ST true cA w W (hp w) (u ++ D) ∧ E 3 = k ∧ E 7 = (.slice A1 x.aT.length c2) ∧ bG 53 aG 9 k y u ∧ mT (x.aT.drop i) y = some r) x.aT.length g.len ⟨(.slice none 0 0), ([]), [], _, ⟨rfl, rfl⟩, (d.aF St), rfl, rfl, (bG.nil _ _ _), hm⟩ dc dc dc (fun _ _ _ h => by obtain ⟨_, _, _, _, n, _⟩ := h; exact n) ?_ ?_
  · rintro b6 E W U ⟨k, y, u, D, ⟨m, A⟩, d, G, H, z, c⟩
    obtain ⟨a, d2, O, L, P⟩ := cC U
    rw [O] at c
    refine bg (VQ (ei (i := (b6 : Int)) (x0 := a) bN.out underlying107 sizeOf138 H m g (Int.natCast_nonneg _) L) (fun c8 ⟨_, ⟨d0, d1, rfl, F, a2⟩, Y⟩ => V (aH rfl (bE d.has Y isAgg138 sizeOf138)) (VE (bR d zeroValue138 (fun b9 c6 d => ?_)))))
    obtain ⟨J, M, rfl⟩ := F.form
    obtain ⟨K, N, rfl⟩ := a2.form
    let a0 := (C3 a.Signed.aB.Kind a.Signed.aB.Head.aC a.Signed.aB.Head.aJ a.Signed.aB.cH a.Signed.aB.B.aC a.Signed.aB.B.aJ a.Signed.aB.C.aC a.Signed.aB.C.aJ a.Signed.aB.cO J a.Signed.Tag.length M a.aI.Op a.aI.K a.aI.aA.aC a.aI.aA.aJ K a.aI.Kids.length N)
    refine VO (aX (.agg a0.toArray) (a0.toArray) d rfl rfl sizeOf138 oc nb rfl (fun c0 d => ln (aU (Wh G (Wf po (Wf qW (VA d Mh (aG a.Signed.aB) isAgg53 sizeOf53 (VE (bJ (cs := (aG a.Signed.aB).toArray) d (dZ rfl) (ew underlying22 sizeOf53 zeroValue53) (fun c1 a5 d => ?_))))))))))
    replace d := d.perm (Nr (Qb (Qb Qz)) Nz)
    refine bS c fun a9 T c => VE (ga (enc := aG) (v := k) (vs := (.slice (some ⟨a5, 0, none⟩) 1 1)) (R := u) d bI dc fC underlying22 eJ.1 eJ.2.1 rfl eJ.2.2.1 eJ.2.2.2 rfl rfl z (Sl.lit (enc := aG) (l := [a.Signed.aB]) bI rfl nb rfl (d.at_ (Ma Mh))) T (fun c3 b0 a3 d Q => Wa (bK (bY (aR ?_)))))
    replace d := d.aF (Kr (Db (Db St)))
    exact ⟨m, b0, a9, a3, _, ⟨rfl, A⟩, (d.aF St), rfl, H, Q, (by rw [P]; exact c)⟩
  rintro E W ⟨k, y, u, D, ⟨m, A⟩, d, G, H, z, c⟩
  rw [List.drop_length] at c
  refine aR (sg (Wh G (bS c fun c9 Z c => VE (jg d call33 ((wi k y _ _ (z.sl bI (fun b o s => d.at_ (Ml s))) Z)) (fun c5 b1 d3 a4 d b4 q I => Wa (ln ?_))))))
  replace d := d.aF (Kr (Dr St))
  refine bH ?_
  obtain rfl := sj c
  exact dH (v := b1) rfl rfl ⟨_, a4, rfl, d.gb (fun p s => (Ml s)) I.nd, I⟩
theorem Fb (x : Value) (a0 r : List ByteArray) (w : World) (c0 : Sl (Pl mJ) 1 (hp w) x a0) (hm : tL a0 = some r) :
    dP true Tryz.prog 162 [x] w 9 mJ 1 r := by
  refine ng 48 func162 rfl (fun b => sg (Wa (lr (Wa (ln (jO (dN (fB (fun m E W => ∃ u a2 j c1, ST true cA w W (hp w) (j ++ c1) ∧ E 0 = x ∧ E 3 = u ∧ bG 9 mJ 1 u a2 j ∧ mW a0 m a2 = some r) bL ⟨(.slice none 0 0), ([]), [], _, (b.aF St), rfl, rfl, (bG.nil _ _ _), hm⟩ ?_))))))))
  rintro m E W ⟨u, a2, j, c1, b, c7, f6, G, Z⟩
  cases m with
  | zero => rw [mW] at Z; cases Z
  | succ i3 =>
    refine bg (Wa (lS (Wh c7 (V (cU underlying82 rfl c0) (Wm (ln (CJ Z (fun b7 E W => ∃ c2, ST true cA w W (hp w) (j ++ c2) ∧ E 0 = x ∧ E 3 = u ∧ E 4 = (.string b7)) (fun b7 e5 => ?_) ?_)))))))
    · refine cK (fun i E W => ∃ z s, (E 9 = .int .i64 (i : Nat) ∧ E 8 = .int .i64 (a0.length : Nat)) ∧ ST true cA w W (hp w) (j ++ s) ∧ E 0 = x ∧ E 3 = u ∧ E 4 = (.string z) ∧ E 7 = x ∧ lz a2 (a0.drop i) z = some b7) a0.length c0.len ⟨zS, _, ⟨rfl, rfl⟩, (b.aF St), c7, f6, rfl, rfl, e5⟩ dc dc dc (fun _ _ _ h => by obtain ⟨_, _, a6, _⟩ := h; exact a6) ?_ ?_
      · rintro d E W e4 ⟨z, s, ⟨n, q⟩, b, Q, H, T, U, t⟩
        obtain ⟨I, i7, f3, f2, b9⟩ := cC e4
        rw [f3] at t
        refine bg (VQ (fJ (enc := mJ) (i := (d : Int)) (x0 := I) underlying82 sizeOf9 U n c0 (Int.natCast_nonneg _) f2) (fun j3 e9 => V (aH rfl (mC b.has (y := (.string I)) e9 isAgg9)) (Wa (lr (Wm (bS t fun i4 f1 t => VE (Eg b call158 ((pf I _ _  f1)) (fun j0 b => Wm (LJ t (fun d7 E W => ∃ c3, ST true cA w W (hp w) (j ++ c3) ∧ E 0 = x ∧ E 3 = u ∧ E 4 = (.string z) ∧ E 6 = (.string I) ∧ E 7 = x ∧ E 8 = (.int .i64 ((a0.length : Int))) ∧ E 9 = (.int .i64 ((d : Int))) ∧ E 29 = (.bool d7)) 14 ?_ (fun d7 N a9 => ?_))))))))))
        · rintro i6 E W ⟨c3, b, A, F, Y, a3, L, O, P, f8⟩ e6
          refine Wh f8 (LJ e6 (fun d5 E W => ∃ c4, ST true cA w W (hp w) (j ++ c4) ∧ E 0 = x ∧ E 3 = u ∧ E 4 = (.string z) ∧ E 6 = (.string I) ∧ E 7 = x ∧ E 8 = (.int .i64 ((a0.length : Int))) ∧ E 9 = (.int .i64 ((d : Int))) ∧ E 38 = (.bool d5)) 8 ?_ (fun d5 K a7 => ?_))
          · rintro j5 E W ⟨c4, b, d0, d1, f9, g0, d2, d3, d4, g1⟩ J
            refine ln (CI J g1 (fun e3 J => ?_) (fun e3 J => ?_))
            · exact aU (Wh g0 (Wa (bK (bY (aR ⟨d4, I, _, ⟨rfl, d3⟩, (b.aF St), d0, d1, rfl, d2, (by rw [b9]; exact J)⟩)))))
            exact cZ (bY (aR ⟨d4, z, _, ⟨rfl, d3⟩, (b.aF St), d0, d1, f9, d2, (by rw [b9]; exact J)⟩))
          refine bC K (fun g K => ?_) (fun g K => ?_)
          · refine ug g (aQ Y) (ug g (kM rfl rfl rfl) (ug g (aQ rfl) (LJ K (fun d6 E W => ∃ c5, ST true cA w W (hp w) (j ++ c5) ∧ E 0 = x ∧ E 3 = u ∧ E 4 = (.string z) ∧ E 6 = (.string I) ∧ E 7 = x ∧ E 8 = (.int .i64 ((a0.length : Int))) ∧ E 9 = (.int .i64 ((d : Int))) ∧ E 30 = (.bool i6) ∧ E 37 = (.bool d6)) 4 ?_ (fun d6 M a8 => ?_))))
            · rintro j6 E W ⟨c5, b, g2, g3, g4, g7, g8, g9, h0, h1, h2⟩ e7
              refine V (aY (h1.trans (cB g)) h2) ?_
              obtain rfl := sj e7
              exact a7 _ _ ⟨_, (b.aF St), g2, g3, g4, g7, g8, g9, h0, rfl⟩
            refine bC M (fun k M => ?_) (fun k M => ?_)
            · refine un k (un k (un k (ug g (aY (cB k) rfl) ?_)))
              obtain rfl := sj M
              exact a8 _ _ ⟨_, (b.aF St), A, F, Y, a3, L, O, P, rfl, rfl⟩
            refine ug k (aQ a3) (ug k (aQ Y) (ug k (kM rfl rfl rfl) (ug g (aZ (cB k) rfl) ?_)))
            obtain rfl := sj M
            exact a8 _ _ ⟨_, (b.aF St), A, F, Y, a3, L, O, P, rfl, rfl⟩
          refine un g (un g (un g (Vu rfl rfl (Vu rfl rfl (Vu rfl rfl (un g (V (aZ (cB g) rfl) ?_)))))))
          obtain rfl := sj K
          exact a7 _ _ ⟨_, (b.aF St), A, F, Y, a3, L, O, P, rfl⟩
        refine bC N (fun c N => ?_) (fun c N => ?_)
        · refine ug c (aQ H) (ug c (fi underlying82 rfl G) (ug c (cF rfl rfl rfl) (ug c (aQ rfl) (LJ N (fun d8 E W => ∃ c6, ST true cA w W (hp w) (j ++ c6) ∧ E 0 = x ∧ E 3 = u ∧ E 4 = (.string z) ∧ E 6 = (.string I) ∧ E 7 = x ∧ E 8 = (.int .i64 ((a0.length : Int))) ∧ E 9 = (.int .i64 ((d : Int))) ∧ E 15 = (.bool i4) ∧ E 28 = (.bool d8)) 9 ?_ (fun d8 D b0 => ?_)))))
          · rintro j7 E W ⟨c6, b, h3, h4, h5, h6, h7, h8, h9, i0, i1⟩ e8
            refine V (aY (i0.trans (cB c)) i1) ?_
            obtain rfl := sj e8
            exact a9 _ _ ⟨_, (b.aF St), h3, h4, h5, h6, h7, h8, h9, rfl⟩
          refine bC D (fun a D => ?_) (fun a D => ?_)
          · refine un a (un a (un a (un a (un a (un a (un a (un a (ug c (aY (cB a) rfl) ?_))))))))
            obtain rfl := sj D
            exact b0 _ _ ⟨_, (b.aF St), Q, H, T, rfl, U, q, n, rfl, rfl⟩
          refine ug a (aQ rfl) (ug a (aQ H) (ug a (aQ H) (ug a (fi underlying82 rfl G) (ug a (cF rfl rfl rfl) (bS D fun d9 a5 D => No a (iZ (i := (IntKind.i64.wrap (((a2.length : Int)) - 1))) (x0 := d9) underlying82 sizeOf9 rfl rfl G (bV a5) (bQ a5)) (fun j4 f0 => ug a (aH rfl (xq b.has (fun p hq => (Ml hq)) G (fun _ => rfl) f0 (bQ a5) (y := (.string d9)) rfl isAgg9)) (ug a (kM rfl rfl rfl) (ug c (aZ (cB a) rfl) ?_))))))))
          obtain rfl := sj D
          exact b0 _ _ ⟨_, (b.aF St), Q, H, T, rfl, U, q, n, rfl, rfl⟩
        refine un c (un c (un c (un c (Vu rfl rfl (Vu rfl rfl (Vu rfl rfl (Vu rfl rfl (Vu rfl rfl (Vu rfl rfl (Vu rfl rfl (Vu rfl rfl (un c (V (aZ (cB c) rfl) ?_)))))))))))))
        obtain rfl := sj N
        exact a9 _ _ ⟨_, (b.aF St), Q, H, T, rfl, U, q, n, rfl⟩
      rintro E W ⟨z, s, ⟨n, q⟩, b, Q, H, T, U, t⟩
      rw [List.drop_length] at t
      refine aR ?_
      obtain rfl := sj t
      exact ⟨_, (b.aF St), Q, H, T⟩
    rintro a4 E W ⟨c2, b, f7, c8, c9⟩ B
    refine aW (sg (Wh c9 (V (kM rfl rfl rfl) (ln (CI B rfl (fun e1 B => ?_) (fun e1 B => ?_))))))
    · refine sg (Wh c8 (Wa (lt (bU (eF (bU (eF (bU ?_))))))))
      obtain rfl := sj B
      exact dH (v := u) rfl rfl ⟨_, j, rfl, b.gb (fun p hq => (Ml hq)) G.nd, G⟩
    refine kn (aU (Wh c8 (Wh c9 (VE (bJ (cs := [(.string a4)].toArray) b (dZ rfl) (ew underlying82 sizeOf9 zeroValue9) (fun i8 f5 b => ?_))))))
    replace b := b.perm (Nr (Qb Qz) Nz)
    refine bS B fun i2 e2 B => VE (ga (enc := mJ) (v := u) (vs := (.slice (some ⟨f5, 0, none⟩) 1 1)) (R := j) b (fun _ => rfl) dc Gt underlying82 vy.1 vy.2.1 rfl vy.2.2.1 vy.2.2.2 rfl rfl G (Sl.lit (enc := mJ) (l := [a4]) (fun _ => rfl) rfl nb rfl (b.at_ (Ma Mh))) e2 (fun i9 i5 f4 b e0 => Wa (bK (bY (aR ?_)))))
    replace b := b.aF (Kr (Db St))
    exact ⟨i3, Nat.lt_succ_self _, i5, i2, f4, _, (b.aF St), f7, rfl, e0, B⟩
theorem DF (B : Value) (G : List aB) (r : List ByteArray) (w : World) (y : Sl (Pl aG) 9 (hp w) B G) (hm : rc G = some r) :
    dP true Tryz.prog 130 [B] w 9 mJ 1 r := by
  refine ng 29 func130 rfl (fun d => sg (Wa (lr (Wa (lS (Wm ?_))))))
  refine V (cU underlying22 rfl y) (Wm (ln (cK (fun i E W => ∃ g k j t, (E 8 = .int .i64 (i : Nat) ∧ E 7 = .int .i64 (G.length : Nat)) ∧ ST true cA w W (hp w) (j ++ t) ∧ E 3 = g ∧ E 6 = B ∧ bG 9 mJ 1 g k j ∧ lA (G.drop i) k = some r) G.length y.len ⟨(.slice none 0 0), ([]), [], _, ⟨rfl, rfl⟩, (d.aF St), rfl, rfl, (bG.nil _ _ _), hm⟩ dc dc dc (fun _ _ _ h => by obtain ⟨_, _, _, _, n, _⟩ := h; exact n) ?_ ?_)))
  · rintro a5 E W T ⟨g, k, j, t, ⟨m, A⟩, d, u, x, z, c⟩
    obtain ⟨a, b4, Y, U, Z⟩ := cC T
    rw [Y] at c
    refine bg (VQ (fJ (enc := aG) (i := (a5 : Int)) (x0 := a) underlying22 sizeOf53 x m y (Int.natCast_nonneg _) U) (fun b2 J => V (aH rfl (bE d.has J isAgg53 sizeOf53)) (VE (bR d zeroValue53 (fun L b1 d => VO (aX (.agg (aG a).toArray) ((aG a).toArray) d rfl rfl sizeOf53 (fC a) nb rfl (fun O d => ln (aU (Wh u (Wf qc (VB d Mh rfl rfl isAgg9 (Wf jT (Wf iH ?_)))))))))))))
    refine VB d Mh rfl rfl isAgg9 (Wf gh (Wf iH (VB d Mh rfl rfl isAgg9 (Wf lP (Wf iH (VB d Mh rfl rfl isAgg9 (VE (bJ (cs := #[(.string a.cH), (.string a.Head.aC), (.string a.B.aC), (.string a.C.aC)]) d (Kt rfl rfl rfl rfl) (ew underlying82 sizeOf9 zeroValue9) (fun P Q d => ?_)))))))))
    replace d := d.perm (Nr (Qb (Qb Qz)) Nz)
    refine bS c fun F I c => VE (ga (enc := mJ) (v := g) (vs := (.slice (some ⟨Q, 0, none⟩) 4 4)) (R := j) d (fun _ => rfl) dc Gt underlying82 vy.1 vy.2.1 rfl vy.2.2.1 vy.2.2.2 rfl rfl z (Sl.lit (enc := mJ) (l := [a.cH, a.Head.aC, a.B.aC, a.C.aC]) (fun _ => rfl) rfl nb rfl (d.at_ (Ma Mh))) I (fun a9 a2 M d H => Wa (bK (bY (aR ?_)))))
    replace d := d.aF (Kr (Db (Db St)))
    exact ⟨m, a2, F, M, _, ⟨rfl, A⟩, (d.aF St), rfl, x, H, (by rw [Z]; exact c)⟩
  rintro E W ⟨g, k, j, t, ⟨m, A⟩, d, u, x, z, c⟩
  rw [List.drop_length] at c
  refine aR (sg (Wh u (bS c fun b3 K c => VE (jg d call162 ((Fb g k _ _ (z.sl (fun _ => rfl) (fun b o s => d.at_ (Ml s))) K)) (fun b0 a3 b5 N d a4 q D => Wa (ln ?_))))))
  replace d := d.aF (Kr (Dr St))
  refine bH ?_
  obtain rfl := sj c
  exact dH (v := a3) rfl rfl ⟨_, N, rfl, d.gb (fun p s => (Ml s)) D.nd, D⟩
theorem qk (y : Value) (H : List aV) (z : aA) (J : ByteArray) (r : Bool) (w : World) (G : Sl (Pl bZ) 3 (hp w) y H) (hm : nF H z J = some r) :
    bF true Tryz.prog 129 [y, (.agg (aM z).toArray), (.string J)] w (.bool r) := by
  refine cG 26 func129 rfl (fun b => sg (VE (bX b rfl (fun W2 M b => Wa (lS (Wm (V (cU underlying68 rfl G) (Wm (ln ?_)))))))))
  refine cK (fun i E W => ∃ D, (E 11 = .int .i64 (i : Nat) ∧ E 10 = .int .i64 (H.length : Nat)) ∧ ST true cA w W (hp w) ((M, Ol (aM z) 28) :: D) ∧ E 2 = (.string J) ∧ E 4 = (.pointer (some ⟨M, 0, none⟩)) ∧ E 9 = y ∧ pj z J (H.drop i) = some r) H.length G.len ⟨_, ⟨rfl, rfl⟩, (b.aF St), rfl, rfl, rfl, hm⟩ dc dc dc (fun _ _ _ h => by obtain ⟨_, l, _⟩ := h; exact l) ?_ ?_
  · rintro T E W n ⟨D, ⟨d, m⟩, b, t, u, x, c⟩
    obtain ⟨k, O, q, p, a9⟩ := cC n
    rw [q] at c
    refine bg (VQ (fJ (enc := bZ) (i := (T : Int)) (x0 := k) underlying68 sizeOf38 x d G (Int.natCast_nonneg _) p) (fun F Q => V (aH rfl (bE b.has Q isAgg38 sizeOf38)) (VE (bR b zeroValue38 (fun s A b => VO (aX (.agg (bZ k).toArray) ((bZ k).toArray) b rfl rfl sizeOf38 (sR k) nb rfl (fun v b => lr (Wf sI (VA b Mh (aM k.aA) isAgg28 sizeOf28 (V (aH u (aK b.has (Mt Mh) (aM z) rfl isAgg28 sizeOf28)) (V (oa rfl rfl (fS eqGuardType28) (kC (jc _ k.aA z))) ?_)))))))))))
    refine Wm (LJ c (fun K E W => ∃ I, ST true cA w W (hp w) ((M, Ol (aM z) 28) :: I) ∧ E 2 = (.string J) ∧ E 4 = (.pointer (some ⟨M, 0, none⟩)) ∧ E 9 = y ∧ E 10 = (.int .i64 ((H.length : Int))) ∧ E 11 = (.int .i64 ((T : Int))) ∧ E 24 = (.bool K)) 5 ?_ (fun K j B => ?_))
    · rintro L E W ⟨I, b, U, Y, Z, a3, a4, a5⟩ g
      refine ln (CI g a5 (fun N g => ?_) (fun N g => ?_))
      · refine sg (Wa (ln ?_))
        replace b := b.aF (Db St)
        refine bH (eF (bU (eF (bU ?_))))
        obtain rfl := sj g
        exact rP b
      exact cZ (bY (aR ⟨a4, _, ⟨rfl, a3⟩, (b.aF St), U, Y, Z, (by rw [a9]; exact g)⟩))
    refine bC j (fun a j => ?_) (fun a j => ?_)
    · refine ug a (aO qN rfl) (ug a (aH rfl (bA b.has Mh rfl isAgg9)) (ug a (aQ t) (ug a (kM rfl rfl rfl) (V (aY (cB a) rfl) ?_))))
      obtain rfl := sj j
      exact B _ _ ⟨_, (b.aF (Db St)), t, u, x, m, d, rfl⟩
    refine un a (un a (un a (un a (V (aZ (cB a) rfl) ?_))))
    obtain rfl := sj j
    exact B _ _ ⟨_, (b.aF (Db St)), t, u, x, m, d, rfl⟩
  rintro E W ⟨D, ⟨d, m⟩, b, t, u, x, c⟩
  rw [List.drop_length] at c
  refine aR ?_
  replace b := b.aF (Db St)
  exact sg (Wa (lt (rQ c b)))
theorem DW (k : Value) (M : List aV) (t : aB) (K : Value) (Y : List ByteArray) (H : ByteArray) (r : Bool) (w : World) (G : Sl (Pl bZ) 3 (hp w) k M) (T : Sl (Pl mJ) 1 (hp w) K Y) (hm : sJ M t Y H = some r) :
    bF true Tryz.prog 131 [k, (.agg (aG t).toArray), K, (.string H)] w (.bool r) := by
  refine cG 62 func131 rfl (fun b => sg (VE (bX b rfl (fun W2 d b => Wa (lS (Wf jQ (VB b Mh rfl rfl isAgg3 (Wi rfl (ln ?_)))))))))
  refine CI hm rfl (fun d0 hm => ?_) (fun d0 hm => ?_)
  · refine sg (Wf qc (VB b Mh rfl rfl isAgg9 (Wm (V (kM rfl rfl rfl) (Wa (ln ?_))))))
    replace b := b.aF (Db St)
    refine bH (bU ?_)
    obtain rfl := sj hm
    exact rP b
  refine kS (Wf jQ (VB b Mh rfl rfl isAgg3 (Wi rfl (ln (CI hm rfl (fun d1 hm => ?_) (fun d1 hm => ?_))))))
  · refine sg (Wm (Wf gh (VA b Mh (aM t.B) isAgg28 sizeOf28 (Wm (bS hm fun r5 d3 hm => VE (Eg b call129 ((qk k M t.B H _ _ (G.mono (Pl.mono _) b.aP) d3)) (fun W7 b => Wa (ln ?_))))))))
    replace b := b.aF (Db St)
    refine bH (bU ?_)
    obtain rfl := sj hm
    exact rP b
  refine kS (Wf jQ (VB b Mh rfl rfl isAgg3 (Wi rfl (ln (CI hm rfl (fun d2 hm => ?_) (fun d2 hm => ?_))))))
  · refine sg (Wm (Wf gh (VA b Mh (aM t.B) isAgg28 sizeOf28 (Wm (bS hm fun r9 c7 hm => VE (Eg b call129 ((qk k M t.B H _ _ (G.mono (Pl.mono _) b.aP) c7)) (fun e1 b => Wm (LJ hm (fun q E W => ∃ p, ST true cA w W (hp w) p ∧ E 8 = (.bool false) ∧ E 40 = (.bool q)) 6 ?_ (fun q u U => ?_)))))))))
    · rintro e5 E W ⟨p, b, e3, c9⟩ c6
      refine Wg c9 (lt (bU ?_))
      obtain rfl := sj c6
      exact rP b
    refine bC u (fun c u => ?_) (fun c u => ?_)
    · refine ug c (aQ rfl) (ug c (aO lP rfl) (ug c (aH rfl (aK b.has Mh (aM t.C) rfl isAgg28 sizeOf28)) (ug c (aQ rfl) (bS u fun e4 c8 u => kf c (Eg b call129 ((qk k M t.C H _ _ (G.mono (Pl.mono _) b.aP) c8)) (fun e2 b => V (aY (cB c) rfl) ?_))))))
      obtain rfl := sj u
      exact U _ _ ⟨_, (b.aF (Db St)), rfl, rfl⟩
    refine un c (un c (un c (un c (un c (V (aZ (cB c) rfl) ?_)))))
    obtain rfl := sj u
    exact U _ _ ⟨_, (b.aF (Db St)), rfl, rfl⟩
  refine kS (Wm (V (cU underlying82 rfl T) (Wm (ln (cK (fun i E W => ∃ Q, (E 43 = .int .i64 (i : Nat) ∧ E 42 = .int .i64 (Y.length : Nat)) ∧ ST true cA w W (hp w) ((d, Ol (aG t) 53) :: Q) ∧ E 0 = k ∧ E 3 = (.string H) ∧ E 5 = (.pointer (some ⟨d, 0, none⟩)) ∧ E 41 = K ∧ nN M t H (Y.drop i) = some r) Y.length T.len ⟨_, ⟨rfl, rfl⟩, (b.aF St), rfl, rfl, rfl, rfl, hm⟩ dc dc dc (fun _ _ _ h => by obtain ⟨_, m, _⟩ := h; exact m) ?_ ?_)))))
  · rintro a4 E W A ⟨Q, ⟨l, n⟩, b, B, I, D, J, g⟩
    obtain ⟨z, d4, P, O, R⟩ := cC A
    rw [P] at g
    refine bg (VQ (fJ (enc := mJ) (i := (a4 : Int)) (x0 := z) underlying82 sizeOf9 J l T (Int.natCast_nonneg _) O) (fun d7 a9 => V (aH rfl (mC b.has (y := (.string z)) a9 isAgg9)) (Wa (lr (Wh B (V (aO gh D) (VA b Mh (aM t.B) isAgg28 sizeOf28 (Wm (bS g fun d8 F g => ?_)))))))))
    refine VE (Eg b call129 ((qk k M t.B z _ _ (G.mono (Pl.mono _) b.aP) F)) (fun d5 b => Wm (LJ g (fun a5 E W => ∃ Z, ST true cA w W (hp w) ((d, Ol (aG t) 53) :: Z) ∧ E 0 = k ∧ E 3 = (.string H) ∧ E 5 = (.pointer (some ⟨d, 0, none⟩)) ∧ E 41 = K ∧ E 42 = (.int .i64 ((Y.length : Int))) ∧ E 43 = (.int .i64 ((a4 : Int))) ∧ E 60 = (.bool a5)) 8 ?_ (fun a5 j N => ?_))))
    · rintro e0 E W ⟨Z, b, b9, c0, c1, c2, c3, c4, c5⟩ x
      refine ln (CI x c5 (fun s x => ?_) (fun s x => ?_))
      · refine sg (Wa (ln ?_))
        replace b := b.aF (Db St)
        refine bH (eF (bU (eF (bU ?_))))
        obtain rfl := sj x
        exact rP b
      exact cZ (bY (aR ⟨c4, _, ⟨rfl, c3⟩, (b.aF St), b9, c0, c1, c2, (by rw [R]; exact x)⟩))
    refine bC j (fun a j => ?_) (fun a j => ?_)
    · refine ug a (aQ B) (ug a (aQ rfl) (ug a (aO nL D) (ug a (aH rfl (bA b.has Mh rfl isAgg9)) (ug a (dJ (v := (.agg (aM ((⟨z, t.cO⟩ : aA))).toArray)) (gK rfl rfl) (cN zeroValue28 underlying28 (B3 _ underlying28) kr)) (ug a (aQ I) (bS j fun d9 L j => kf a (Eg b call129 ((qk k M ((⟨z, t.cO⟩ : aA)) H _ _ (G.mono (Pl.mono _) b.aP) L)) (fun d6 b => V (aY (cB a) rfl) ?_))))))))
      obtain rfl := sj j
      exact N _ _ ⟨_, (b.aF St), B, I, D, J, n, l, rfl⟩
    refine un a (un a (un a (un a (un a (un a (un a (V (aZ (cB a) rfl) ?_)))))))
    obtain rfl := sj j
    exact N _ _ ⟨_, (b.aF St), B, I, D, J, n, l, rfl⟩
  rintro E W ⟨Q, ⟨l, n⟩, b, B, I, D, J, g⟩
  rw [List.drop_length] at g
  refine aR ?_
  replace b := b.aF (Db St)
  exact sg (Wa (lt (rQ g b)))
theorem yx (j k : aV) (r : Bool) (w : World) (hm : nh j k = some r) :
    bF true Tryz.prog 331 [(.agg (bZ j).toArray), (.agg (bZ k).toArray)] w (.bool r) := by
  refine cG 24 func331 rfl (fun b => sg (VE (bX b rfl (fun Y d b => VE (bX b rfl (fun Z h b => Wa (lr (Wf sI (VA b (Mt Mh) (aM j.aA) isAgg28 sizeOf28 (Wf sI (VA b Mh (aM k.aA) isAgg28 sizeOf28 (bS hm fun N M hm => ?_))))))))))))
  refine VE (Eg b call242 ((yh j.aA k.aA _ _  M)) (fun W7 b => Wm (LJ hm (fun z E W => ∃ x, ST true cA w W (hp w) x ∧ E 4 = (.bool false) ∧ E 23 = (.bool z)) 13 ?_ (fun z g t => ?_))))
  · rintro T E W ⟨x, b, Q, H⟩ D
    exact Wg H (lt (rQ D b))
  refine bC g (fun a g => ?_) (fun a g => ?_)
  · refine un a (un a (un a (un a (un a (un a (Vu rfl rfl (Vu rfl rfl (Vu rfl rfl (Vu rfl rfl (Vu rfl rfl (un a (V (aY (cB a) rfl) ?_))))))))))))
    obtain rfl := sj g
    exact t _ _ ⟨_, (b.aF (Db (Db St))), rfl, rfl⟩
  refine ug a (aO sI rfl) (ug a (aH rfl (aK b.has (Mt Mh) (aM j.aA) rfl isAgg28 sizeOf28)) (ug a (aO sI rfl) (ug a (aH rfl (aK b.has Mh (aM k.aA) rfl isAgg28 sizeOf28)) (ug a (oa rfl rfl (fS eqGuardType28) (kC (jc _ j.aA k.aA))) (ug a (aQ rfl) (LJ g (fun B E W => ∃ y, ST true cA w W (hp w) y ∧ E 4 = (.bool false) ∧ E 10 = (.bool N) ∧ E 22 = (.bool B)) 6 ?_ (fun B i u => ?_)))))))
  · rintro U E W ⟨y, b, I, J, K⟩ G
    refine V (aZ (J.trans (cB a)) K) ?_
    obtain rfl := sj G
    exact t _ _ ⟨_, (b.aF St), I, rfl⟩
  refine bC i (fun c i => ?_) (fun c i => ?_)
  · refine ug c (aO qN rfl) (ug c (aH rfl (bA b.has (Mt Mh) rfl isAgg9)) (ug c (aO qN rfl) (ug c (aH rfl (bA b.has Mh rfl isAgg9)) (ug c (kM rfl rfl rfl) (ug a (aY (cB c) rfl) ?_)))))
    obtain rfl := sj i
    exact u _ _ ⟨_, (b.aF (Db (Db St))), rfl, rfl, rfl⟩
  refine un c (un c (un c (un c (un c (ug a (aZ (cB c) rfl) ?_)))))
  obtain rfl := sj i
  exact u _ _ ⟨_, (b.aF (Db (Db St))), rfl, rfl, rfl⟩
theorem B4 (I : Value) (Q r : List aV) (w : World) (Y : Sl (Pl bZ) 3 (hp w) I Q) (hm : ta Q = some r) :
    dP true Tryz.prog 240 [I] w 38 bZ 3 r := by
  refine ng 56 func240 rfl (fun d => sg (Wa (lr (Wa (lS (Wm ?_))))))
  refine V (cU underlying68 rfl Y) (Wm (ln (cK (fun i E W => ∃ y N x a9, (E 9 = .int .i64 (i : Nat) ∧ E 8 = .int .i64 (Q.length : Nat)) ∧ ST true cA w W (hp w) (x ++ a9) ∧ E 0 = I ∧ E 3 = y ∧ bG 38 bZ 3 y N x ∧ iv Q (Q.drop i) N = some r) Q.length Y.len ⟨(.slice none 0 0), ([]), [], _, ⟨rfl, rfl⟩, (d.aF St), rfl, rfl, (bG.nil _ _ _), hm⟩ dc dc dc (fun _ _ _ h => by obtain ⟨_, _, _, _, n, _⟩ := h; exact n) ?_ ?_)))
  · rintro a7 E W i6 ⟨y, N, x, a9, ⟨m, s⟩, d, P, b2, z, D⟩
    obtain ⟨l2, l1, i7, k2, e4⟩ := cC i6
    rw [i7] at D
    refine bg (Wa (lS (Wh P (V (cU underlying68 rfl Y) (Wm (ln (CJ D (fun c5 E W => ∃ c9, ST true cA w W (hp w) (x ++ c9) ∧ E 0 = I ∧ E 3 = y ∧ E 4 = (.int .i64 c5) ∧ E 8 = (.int .i64 ((Q.length : Int))) ∧ E 9 = (.int .i64 ((a7 : Int)))) (fun c5 f5 => ?_) ?_)))))))
    · let g5 : Value := (.int .i64 ((a7 : Int)))
      let a0 : Value := (.int .i64 ((Q.length : Int)))
      refine cK (fun i E W => ∃ B O, (E 13 = .int .i64 (i : Nat) ∧ E 12 = .int .i64 (Q.length : Nat)) ∧ ST true cA w W (hp w) (x ++ O) ∧ E 0 = I ∧ E 3 = y ∧ E 4 = (.int .i64 B) ∧ E 8 = a0 ∧ E 9 = g5 ∧ E 11 = I ∧ iw N Q (Q.drop i) i B = some c5) Q.length Y.len ⟨((-1)), _, ⟨rfl, rfl⟩, (d.aF St), P, b2, rfl, s, m, rfl, f5⟩ dc dc dc (fun _ _ _ h => by obtain ⟨_, _, n, _⟩ := h; exact n) ?_ ?_
      · rintro H E W f4 ⟨B, O, ⟨m, s⟩, d, A, J, a2, a3, a4, a5, G⟩
        let b8 : Value := (.int .i64 ((H : Int)))
        obtain ⟨j, j5, g7, g4, c7⟩ := cC f4
        rw [g7] at G
        refine bg (Wh m (VQ (fJ (enc := bZ) (i := (H : Int)) (x0 := j) underlying68 sizeOf38 a5 m Y (Int.natCast_nonneg _) g4) (fun k4 f9 => V (aH rfl (bE d.has f9 isAgg38 sizeOf38)) (VE (bR d zeroValue38 (fun j8 Z d => Wa (VO (aX (.agg (bZ j).toArray) ((bZ j).toArray) d rfl rfl sizeOf38 (sR j) nb rfl (fun j9 d => ln (aW ?_))))))))))
        replace d := d.drew
        have b := d.has.aF (Kb (Kr Sn))
        refine cT b cE (X 0 rfl b (aQ J) (X 1 rfl b (fi underlying68 rfl z) (X 2 rfl b (cF rfl rfl rfl) (X 3 rfl b (aQ rfl) (PJ G (fun e7 E W => ∃ d0, ST true cA w W (hp w) ((Z, Ol (bZ j) 38) :: (x ++ d0)) ∧ E 0 = I ∧ E 3 = y ∧ E 4 = (.int .i64 B) ∧ E 5 = b8 ∧ E 6 = (.pointer (some ⟨Z, 0, none⟩)) ∧ E 8 = a0 ∧ E 9 = g5 ∧ E 11 = I ∧ E 12 = a0 ∧ E 13 = b8 ∧ E 30 = (.bool e7)) (bm 25 8191) 12 ?_ (fun e7 u c4 => ?_))))))
        · rintro j3 E W ⟨d0, d, F, b4, T, b5, h0, b6, b7, b9, c0, c1, h1⟩ f6
          have b := d.has.aF (Kb (Kr Sn))
          refine X 13 rfl b (aQ h1) (PJ f6 (fun e5 E W => ∃ d1, ST true cA w W (hp w) ((Z, Ol (bZ j) 38) :: (x ++ d1)) ∧ E 0 = I ∧ E 3 = y ∧ E 4 = (.int .i64 B) ∧ E 5 = b8 ∧ E 8 = a0 ∧ E 9 = g5 ∧ E 11 = I ∧ E 12 = a0 ∧ E 13 = b8 ∧ E 42 = (.bool e5)) (bm 25 33554431) 0 ?_ (fun e5 M c2 => ?_))
          · rintro k9 E W ⟨d1, d, d7, d8, h2, h3, d9, e0, e1, e2, e3, h4⟩ K
            refine dG kr (aR ?_)
            replace d := d.aF (Db St)
            refine CI K h4 (fun f3 K => ?_) (fun f3 K => ?_)
            · exact aU (Wh h3 (Wa (bK (bY (aR ⟨e3, ((H : Int)), _, ⟨rfl, e2⟩, (d.aF St), d7, d8, rfl, d9, e0, e1, (by rw [c7]; exact K)⟩)))))
            exact cZ (bY (aR ⟨e3, B, _, ⟨rfl, e2⟩, (d.aF St), d7, d8, h2, d9, e0, e1, (by rw [c7]; exact K)⟩))
          refine bC M (fun g M => ?_) (fun g M => ?_)
          · refine Xg 14 rfl rfl (cB g) b (aQ T) (Xg 15 rfl rfl (cB g) b (cF rfl rfl rfl) (Xg 16 rfl rfl (cB g) b (aQ rfl) (PJ M (fun e6 E W => ∃ d2, ST true cA w W (hp w) ((Z, Ol (bZ j) 38) :: (x ++ d2)) ∧ E 0 = I ∧ E 3 = y ∧ E 4 = (.int .i64 B) ∧ E 5 = b8 ∧ E 8 = a0 ∧ E 9 = g5 ∧ E 11 = I ∧ E 12 = a0 ∧ E 13 = b8 ∧ E 31 = (.bool j3) ∧ E 41 = (.bool e6)) (bm 25 16777215) 1 ?_ (fun e6 t c3 => ?_))))
            · rintro l0 E W ⟨d2, d, h5, h6, h7, h8, h9, i0, i1, i2, i3, i4, i5⟩ f7
              have b := d.has.aF (Kb (Kr Sn))
              refine X 24 rfl b (aY (i4.trans (cB g)) i5) ?_
              obtain rfl := sj f7
              refine fO kr (c2 _ _ ⟨_, (d.aF St), h5, h6, h7, h8, h9, i0, i1, i2, i3, rfl⟩)
            refine bC t (fun c t => ?_) (fun c t => ?_)
            · refine Xn 17 rfl rfl (cB c) b (Xn 18 rfl rfl (cB c) b (Xn 19 rfl rfl (cB c) b (Xn 20 rfl rfl (cB c) b (Xn 21 rfl rfl (cB c) b (Xn 22 rfl rfl (cB c) b (Xg 23 rfl rfl (cB g) b (aY (cB c) rfl) ?_))))))
              obtain rfl := sj t
              refine fO kr (c3 _ _ ⟨_, (d.aF St), F, b4, T, b5, b6, b7, b9, c0, c1, rfl, rfl⟩)
            refine ou 17 rfl rfl (cB c) b (fun _ q => aH h0 (aK q Mh (bZ j) rfl isAgg38 sizeOf38)) (Xg 18 rfl rfl (cB c) b (aQ F) (Xg 19 rfl rfl (cB c) b (aQ T) (bS t fun e8 c8 t => mB 20 rfl kr (.inr ⟨16, false, 34, rfl, rfl, by decide, (cB c)⟩) rfl dc (fun _ _ h => h) b (fJ (enc := bZ) (i := B) (x0 := e8) underlying68 sizeOf38 rfl rfl Y (bV c8) (bQ c8)) (fun k5 g0 => ou 21 rfl rfl (cB c) b (fun _ q => aH rfl (bE q g0 isAgg38 sizeOf38)) (bS t fun k7 g2 t => zZ 22 rfl rfl (cB c) (Eg d call331 ((yx j e8 _ _  g2)) (fun k0 d => ?_)))))))
            have b := d.has.aF (Kb (Kr Sn))
            refine ⟨b, (Xg 23 rfl rfl (cB g) b (aZ (cB c) rfl) ?_)⟩
            obtain rfl := sj t
            refine fO kr (c3 _ _ ⟨_, (d.aF St), F, b4, T, b5, b6, b7, b9, c0, c1, rfl, rfl⟩)
          refine Xn 14 rfl rfl (cB g) b (Xn 15 rfl rfl (cB g) b (Xn 16 rfl rfl (cB g) b (Xu 17 rfl rfl rfl b (Xu 18 rfl rfl rfl b (Xu 19 rfl rfl rfl b (Xu 20 rfl rfl rfl b (Xu 21 rfl rfl rfl b (Xu 22 rfl rfl rfl b (Xn 23 rfl rfl (cB g) b (X 24 rfl b (aZ (cB g) rfl) ?_))))))))))
          obtain rfl := sj M
          refine fO kr (c2 _ _ ⟨_, (d.aF St), F, b4, T, b5, b6, b7, b9, c0, c1, rfl⟩)
        refine bC u (fun a u => ?_) (fun a u => ?_)
        · refine Xn 4 rfl rfl (cB a) b (Xn 5 rfl rfl (cB a) b (Xn 6 rfl rfl (cB a) b (Xn 7 rfl rfl (cB a) b (Xn 8 rfl rfl (cB a) b (Xn 9 rfl rfl (cB a) b (Xn 10 rfl rfl (cB a) b (Xn 11 rfl rfl (cB a) b (X 12 rfl b (aY (cB a) rfl) ?_))))))))
          obtain rfl := sj u
          refine fO kr (c4 _ _ ⟨_, (d.aF St), A, J, a2, rfl, rfl, a3, a4, a5, s, m, rfl⟩)
        refine Xg 4 rfl rfl (cB a) b (aQ J) (Xg 5 rfl rfl (cB a) b (aQ J) (Xg 6 rfl rfl (cB a) b (fi underlying68 rfl z) (Xg 7 rfl rfl (cB a) b (cF rfl rfl rfl) (bS u fun e9 L u => mB 8 rfl kr (.inr ⟨3, false, 21, rfl, rfl, by decide, (cB a)⟩) rfl dc (fun _ _ h => h) b (iZ (i := (IntKind.i64.wrap (((N.length : Int)) - 1))) (x0 := e9) underlying68 sizeOf38 rfl rfl z (bV L) (bQ L)) (fun k6 g1 => ou 9 rfl rfl (cB a) b (fun _ q => aH rfl (oJ q (fun p hq => (Mt (Ml hq))) z kB g1 (bQ L) isAgg38 sizeOf38)) (ou 10 rfl rfl (cB a) b (fun _ q => aH rfl (aK q Mh (bZ j) rfl isAgg38 sizeOf38)) (bS u fun k8 g3 u => zZ 11 rfl rfl (cB a) (Eg d call331 ((yx e9 j _ _  g3)) (fun k1 d => ?_)))))))))
        have b := d.has.aF (Kb (Kr Sn))
        refine ⟨b, (X 12 rfl b (aZ (cB a) rfl) ?_)⟩
        obtain rfl := sj u
        refine fO kr (c4 _ _ ⟨_, (d.aF St), A, J, a2, rfl, rfl, a3, a4, a5, s, m, rfl⟩)
      rintro E W ⟨B, O, ⟨m, s⟩, d, A, J, a2, a3, a4, a5, G⟩
      rw [List.drop_length] at G
      refine aR ?_
      obtain rfl := sj G
      exact ⟨_, (d.aF St), A, J, a2, a3, a4⟩
    rintro j0 E W ⟨c9, d, b3, d3, d4, d5, d6⟩ k
    refine sg (Wh d4 (Wi rfl (ln (CI k rfl (fun f1 k => ?_) (fun f1 k => ?_)))))
    · refine aU (Wh d3 (Wh b3 (Wh d4 (bS k fun U c6 k => VQ (fJ (enc := bZ) (i := j0) (x0 := U) underlying68 sizeOf38 rfl rfl Y (bV c6) (bQ c6)) (fun k3 f8 => V (aH rfl (bE d.has f8 isAgg38 sizeOf38)) (VE (bJ (cs := (bZ U).toArray) d (dZ rfl) (ew underlying68 sizeOf38 zeroValue38) (fun j6 g9 d => ?_))))))))
      replace d := d.perm (Nr (Qb Qz) Nz)
      refine bS k fun i8 f2 k => VE (ga (enc := bZ) (v := y) (vs := (.slice (some ⟨g9, 0, none⟩) 1 1)) (R := x) d kB dc sR underlying68 oS.1 oS.2.1 rfl oS.2.2.1 oS.2.2.2 rfl rfl z (Sl.lit (enc := bZ) (l := [U]) kB rfl nb rfl (d.at_ (Ma Mh))) f2 (fun j7 i9 g8 d f0 => Wa (bK (bY (aR ?_)))))
      replace d := d.aF (Kr (Db St))
      exact ⟨d6, i9, i8, g8, _, ⟨rfl, d5⟩, (d.aF St), b3, rfl, f0, (by rw [e4]; exact k)⟩
    exact cZ (bY (aR ⟨d6, y, N, x, _, ⟨rfl, d5⟩, (d.aF St), b3, d3, z, (by rw [e4]; exact k)⟩))
  rintro E W ⟨y, N, x, a9, ⟨m, s⟩, d, P, b2, z, D⟩
  rw [List.drop_length] at D
  refine aR (sg (Wh b2 (Wa (lt ?_))))
  obtain rfl := sj D
  exact dH (v := y) rfl rfl ⟨_, x, rfl, d.gb (fun p hq => (Ml hq)) z.nd, z⟩
theorem GA (f8 : Value) (a0 : List aB) (r : List aV) (w : World) (k8 : Sl (Pl aG) 9 (hp w) f8 a0) (hm : qm a0 = some r) :
    dP true Tryz.prog 124 [f8] w 38 bZ 3 r := by
  refine ng 53 func124 rfl (fun d => sg (Wa (lr (Wm (bS hm fun O m0 hm => VE (jg d call33 ((wi f8 a0 _ _ (k8.mono (Pl.mono _) d.aP) m0)) (fun W3 v7 ae R8 d n0 ad f3 => Wa (ln (aW ?_)))))))))
  refine aU (Wm (bS hm fun s l0 hm => VE (jg d call130 ((DF v7 O _ _ (f3.sl bI (fun b o n => d.at_ (Ml n))) l0)) (fun n2 q d7 d1 d m9 ab P => Wa (lr (Wa (ln (jO (dN (fB (fun m E W => ∃ c0 b9 b7 d8, ST true cA w W d7 (b7 ++ (d1 ++ (R8 ++ d8))) ∧ E 3 = v7 ∧ E 4 = q ∧ E 5 = c0 ∧ bG 38 bZ 3 c0 b9 b7 ∧ nB s O m b9 = some r) bL ⟨(.slice none 0 0), ([]), [], _, (d.aF St), rfl, rfl, rfl, (bG.nil _ _ _), hm⟩ ?_))))))))))
  rintro m E W ⟨c0, b9, b7, d8, d, e2, i3, i4, k0, Y⟩
  cases m with
  | zero => rw [nB] at Y; cases Y
  | succ k3 =>
    refine bg (Wa (lS (Wh e2 (V (fi underlying22 rfl f3) (Wm (ln (CJ Y (fun b1 E W => ∃ T Z d9, ST true cA w W d7 (Z ++ (d1 ++ (R8 ++ d9))) ∧ E 3 = v7 ∧ E 4 = q ∧ E 5 = T ∧ E 6 = (.bool b1.2) ∧ bG 38 bZ 3 T b1.1 Z) (fun b1 g8 => ?_) ?_)))))))
    · refine cK (fun i E W => ∃ J Q H U c1, (E 17 = .int .i64 (i : Nat) ∧ E 16 = .int .i64 (O.length : Nat)) ∧ ST true cA w W d7 (H ++ (d1 ++ (R8 ++ c1))) ∧ E 3 = v7 ∧ E 4 = q ∧ E 5 = J ∧ E 6 = (.bool U) ∧ E 15 = v7 ∧ bG 38 bZ 3 J Q H ∧ pe s (O.drop i) Q U = some b1) O.length f3.len ⟨c0, b9, b7, false, _, ⟨rfl, rfl⟩, (d.aF St), e2, i3, i4, rfl, rfl, k0, g8⟩ dc dc dc (fun _ _ _ h => by obtain ⟨_, _, _, _, _, F, _⟩ := h; exact F) ?_ ?_
      · rintro b0 E W g4 ⟨J, Q, H, U, c1, ⟨A, L⟩, d, c3, a3, c4, c5, c6, b5, u⟩
        obtain ⟨a, l1, h7, d4, h8⟩ := cC g4
        rw [h7] at u
        refine bg (VQ (iZ (i := (b0 : Int)) (x0 := a) underlying22 sizeOf53 c6 A f3 (Int.natCast_nonneg _) d4) (fun m1 h1 => V (aH rfl (oJ d.has (fun p n => (Ma (Ma (Ml n)))) f3 bI h1 d4 isAgg53 sizeOf53)) (VE (bR d zeroValue53 (fun l4 a2 d => VO (aX (.agg (aG a).toArray) ((aG a).toArray) d rfl rfl sizeOf53 (fC a) nb rfl (fun l5 d => lr (Wh a3 (V (fi underlying82 rfl P) (Wm (bK ?_)))))))))))
        let b8 : Value := (.int .i64 ((O.length : Int)))
        refine aR (jO (CJ u (fun b2 E W => ∃ b3 a1 e0, ST true cA w W d7 (a1 ++ (d1 ++ (R8 ++ e0))) ∧ E 3 = v7 ∧ E 4 = q ∧ E 5 = b3 ∧ E 6 = (.bool b2.2) ∧ E 15 = v7 ∧ E 16 = b8 ∧ E 17 = (.int .i64 ((b0 : Int))) ∧ bG 38 bZ 3 b3 b2.1 a1) (fun b2 h0 => ?_) ?_))
        · refine cK (fun i E W => ∃ k G B K c2, (E 23 = .int .i64 (i : Nat) ∧ E 22 = .int .i64 (s.length : Nat)) ∧ ST true cA w W d7 ((a2, Ol (aG a) 53) :: (B ++ (d1 ++ (R8 ++ c2)))) ∧ E 3 = v7 ∧ E 4 = q ∧ E 5 = k ∧ E 6 = (.bool K) ∧ E 8 = (.pointer (some ⟨a2, 0, none⟩)) ∧ E 15 = v7 ∧ E 16 = b8 ∧ E 17 = (.int .i64 ((b0 : Int))) ∧ E 21 = q ∧ bG 38 bZ 3 k G B ∧ nz a s (s.drop i) G K = some b2) s.length P.len ⟨J, Q, H, U, _, ⟨rfl, rfl⟩, (d.aF St), c3, a3, c4, c5, rfl, c6, L, A, rfl, b5, h0⟩ dc dc dc (fun _ _ _ h => by obtain ⟨_, _, _, _, _, F, _⟩ := h; exact F) ?_ ?_
          · rintro f4 E W g7 ⟨k, G, B, K, c2, ⟨A, L⟩, d, a4, M, I, a5, N, a6, a7, a8, a9, D, j⟩
            obtain ⟨g, l2, h9, d5, d6⟩ := cC g7
            rw [h9] at j
            refine bg (VQ (iZ (i := (f4 : Int)) (x0 := g) underlying82 sizeOf9 a9 A P (Int.natCast_nonneg _) d5) (fun m2 h2 => V (aH rfl (xq d.has (fun p n => (Mt (Ma (Ml n)))) P (fun _ => rfl) h2 d5 (y := (.string g)) rfl isAgg9)) (Wa (lr (Wh I (V (aO jT N) (VA d Mh (aM a.Head) isAgg28 sizeOf28 (Wm (bS j fun m4 h4 j => ?_)))))))))
            refine VE (Eg d call129 ((qk k G a.Head g _ _ (D.sl kB (fun b o n => d.at_ (Mt (Ml n)))) h4)) (fun l6 d => V (gn rfl) (Wm (LJ j (fun f7 E W => ∃ e1, ST true cA w W d7 ((a2, Ol (aG a) 53) :: (B ++ (d1 ++ (R8 ++ e1)))) ∧ E 3 = v7 ∧ E 4 = q ∧ E 5 = k ∧ E 6 = (.bool K) ∧ E 8 = (.pointer (some ⟨a2, 0, none⟩)) ∧ E 10 = (.string g) ∧ E 15 = v7 ∧ E 16 = b8 ∧ E 17 = (.int .i64 ((b0 : Int))) ∧ E 21 = q ∧ E 22 = (.int .i64 ((s.length : Int))) ∧ E 23 = (.int .i64 ((f4 : Int))) ∧ E 39 = (.bool f7)) 6 ?_ (fun f7 z c9 => ?_)))))
            · rintro m7 E W ⟨e1, d, e4, e5, e6, j7, c7, j8, e7, e8, e9, f0, f1, f2, j9⟩ x
              refine ln (CI x j9 (fun g2 x => ?_) (fun g2 x => ?_))
              · refine sg (Wh e6 (V (aO jT c7) (VA d Mh (aM a.Head) isAgg28 sizeOf28 (Wh j8 (V (dJ (v := (.agg (bZ ((⟨a.Head, g⟩ : aV))).toArray)) (gK rfl rfl) (cN zeroValue38 underlying38 (Ir _ underlying38) kr)) (VE (bJ (cs := (bZ ((⟨a.Head, g⟩ : aV))).toArray) d (dZ rfl) (ew underlying68 sizeOf38 zeroValue38) (fun l7 i2 d => ?_))))))))
                replace d := d.perm (Nr (Qb (Qb Qz)) Nz)
                refine bS x fun k2 g3 x => VE (ga (enc := bZ) (v := k) (vs := (.slice (some ⟨i2, 0, none⟩) 1 1)) (R := B) d kB dc sR underlying68 oS.1 oS.2.1 rfl oS.2.2.1 oS.2.2.2 rfl rfl D (Sl.lit (enc := bZ) (l := [(⟨a.Head, g⟩ : aV)]) kB rfl nb rfl (d.at_ (Ma Mh))) g3 (fun l8 k5 i1 d g0 => Wa (ln ?_)))
                replace d := d.aF (Kr (Db St))
                exact aU (Wa (bK (bY (aR ⟨f2, k5, k2, i1, true, _, ⟨rfl, f1⟩, (d.aF (Sb (Pr Pz) St)), e4, e5, rfl, rfl, c7, e7, e8, e9, f0, g0, (by rw [d6]; exact x)⟩))))
              exact cZ (bY (aR ⟨f2, k, G, B, K, _, ⟨rfl, f1⟩, (d.aF St), e4, e5, e6, j7, c7, e7, e8, e9, f0, D, (by rw [d6]; exact x)⟩))
            refine bC z (fun c z => ?_) (fun c z => ?_)
            · refine ug c (aQ I) (ug c (aH N (aK d.has Mh (aG a) rfl isAgg53 sizeOf53)) (ug c (aQ M) (ug c (aQ rfl) (bS z fun m5 h5 z => kf c (Eg d call131 ((DW k G a q s g _ _ (D.sl kB (fun b o n => d.at_ (Mt (Ml n)))) (P.sl (fun _ => rfl) (fun b o n => d.at_ (Mt (Ma (Ml n))))) h5)) (fun l9 d => V (aY (cB c) rfl) ?_))))))
              obtain rfl := sj z
              exact c9 _ _ ⟨_, (d.aF St), a4, M, I, a5, N, rfl, a6, a7, a8, a9, L, A, rfl⟩
            refine un c (un c (un c (un c (un c (V (aZ (cB c) rfl) ?_)))))
            obtain rfl := sj z
            exact c9 _ _ ⟨_, (d.aF St), a4, M, I, a5, N, rfl, a6, a7, a8, a9, L, A, rfl⟩
          rintro E W ⟨k, G, B, K, c2, ⟨A, L⟩, d, a4, M, I, a5, N, a6, a7, a8, a9, D, j⟩
          rw [List.drop_length] at j
          refine aR ?_
          obtain rfl := sj j
          exact ⟨k, B, _, (d.aF (Db St)), a4, M, I, a5, a6, a7, a8, D⟩
        rintro ⟨k1, k6⟩ E W ⟨b3, a1, e0, d, i8, i9, j0, j3, j4, j5, j6, h6⟩ g9
        exact bY (aR ⟨j6, b3, k1, a1, k6, _, ⟨rfl, j5⟩, (d.aF St), i8, i9, j0, j3, j4, h6, (by rw [h8]; exact g9)⟩)
      rintro E W ⟨J, Q, H, U, c1, ⟨A, L⟩, d, c3, a3, c4, c5, c6, b5, u⟩
      rw [List.drop_length] at u
      refine aR ?_
      obtain rfl := sj u
      exact ⟨J, H, _, (d.aF St), c3, a3, c4, c5, b5⟩
    rintro ⟨f5, m6⟩ E W ⟨T, Z, d9, d, i5, i6, e3, i7, d3⟩ t
    refine sg (Wh i7 (V (gn rfl) (ln (CI t rfl (fun g1 t => ?_) (fun g1 t => ?_)))))
    · refine sg (Wh e3 (bS t fun m3 h3 t => VE (jg d call240 ((B4 T f5 _ _ (d3.sl kB (fun b o n => d.at_ (Ml n))) h3)) (fun l3 k4 m8 i0 d k9 aa d2 => Wa (ln ?_)))))
      replace d := d.aF (Kr (Dr (Dr (Dr St))))
      refine bH (eF (bU (eF (bU ?_))))
      obtain rfl := sj t
      exact dH (v := k4) rfl rfl ⟨_, i0, rfl, d.gb (fun p n => (Ml n)) d2.nd, d2⟩
    exact cZ (bY (aR ⟨k3, Nat.lt_succ_self _, T, f5, Z, _, (d.aF St), i5, i6, e3, d3, t⟩))
theorem DB (D : Value) (G : List aV) (I : ByteArray) (r : List aA) (w : World) (B : Sl (Pl bZ) 3 (hp w) D G) (hm : oU G I = some r) :
    dP true Tryz.prog 283 [D, (.string I)] w 28 aM 2 r := by
  refine ng 25 func283 rfl (fun b => sg (Wa (lr (Wa (lS (Wm ?_))))))
  refine V (cU underlying68 rfl B) (Wm (ln (cK (fun i E W => ∃ k y g z, (E 10 = .int .i64 (i : Nat) ∧ E 9 = .int .i64 (G.length : Nat)) ∧ ST true cA w W (hp w) (g ++ z) ∧ E 1 = (.string I) ∧ E 5 = k ∧ E 8 = D ∧ bG 28 aM 2 k y g ∧ jG I (G.drop i) y = some r) G.length B.len ⟨(.slice none 0 0), ([]), [], _, ⟨rfl, rfl⟩, (b.aF St), rfl, rfl, rfl, (bG.nil _ _ _), hm⟩ dc dc dc (fun _ _ _ h => by obtain ⟨_, _, _, _, m, _⟩ := h; exact m) ?_ ?_)))
  · rintro a4 E W U ⟨k, y, g, z, ⟨d, n⟩, b, t, u, x, j, a⟩
    obtain ⟨c, O, Z, Y, H⟩ := cC U
    rw [Z] at a
    refine bg (VQ (fJ (enc := bZ) (i := (a4 : Int)) (x0 := c) underlying68 sizeOf38 x d B (Int.natCast_nonneg _) Y) (fun L N => V (aH rfl (bE b.has N isAgg38 sizeOf38)) (VE (bR b zeroValue38 (fun a5 a9 b => VO (aX (.agg (bZ c).toArray) ((bZ c).toArray) b rfl rfl sizeOf38 (sR c) nb rfl (fun s b => lr (Wf qN (VB b Mh rfl rfl isAgg9 (Wh t (V (kM rfl rfl rfl) ?_)))))))))))
    refine ln (CI a rfl (fun K a => ?_) (fun K a => ?_))
    · refine aU (Wh u (Wf sI (VA b Mh (aM c.aA) isAgg28 sizeOf28 (VE (bJ (cs := (aM c.aA).toArray) b (dZ rfl) (ew underlying34 sizeOf28 zeroValue28) (fun A T b => ?_))))))
      replace b := b.perm (Nr (Qb (Qb Qz)) Nz)
      refine bS a fun a2 M a => VE (ga (enc := aM) (v := k) (vs := (.slice (some ⟨T, 0, none⟩) 1 1)) (R := g) b rL dc pp underlying34 oX.1 oX.2.1 rfl oX.2.2.1 oX.2.2.2 rfl rfl j (Sl.lit (enc := aM) (l := [c.aA]) rL rfl nb rfl (b.at_ (Ma Mh))) M (fun F a3 Q b J => Wa (bK (bY (aR ?_)))))
      replace b := b.aF (Kr (Db (Db St)))
      exact ⟨d, a3, a2, Q, _, ⟨rfl, n⟩, (b.aF St), t, rfl, x, J, (by rw [H]; exact a)⟩
    refine cZ (bY (aR ?_))
    replace b := b.aF (Db St)
    exact ⟨d, k, y, g, _, ⟨rfl, n⟩, (b.aF St), t, u, x, j, (by rw [H]; exact a)⟩
  rintro E W ⟨k, y, g, z, ⟨d, n⟩, b, t, u, x, j, a⟩
  rw [List.drop_length] at a
  refine aR (sg (Wh u (Wa (lt ?_))))
  obtain rfl := sj a
  exact dH (v := k) rfl rfl ⟨_, g, rfl, b.gb (fun p q => (Ml q)) j.nd, j⟩
theorem yf (G : Formula → Option Int) (K : ∀ (j : Formula) (g : Value) (r : Int) (w : World) (c : Sl aD 5 (hp w) g j.Kids), G j = some r → bF false Tryz.prog 347 [(.agg #[(.int .i64 j.Op), (.int .i64 j.K), (.string j.aA.aC), (.string j.aA.aJ), g])] w (.int .i64 r)) (j : Formula) (g : Value) (r : Int) (w : World) (c : Sl aD 5 (hp w) g j.Kids) (hm : pV G j = some r) :
    bF false Tryz.prog 347 [(.agg #[(.int .i64 j.Op), (.int .i64 j.K), (.string j.aA.aC), (.string j.aA.aJ), g])] w (.int .i64 r) := by
  refine cG 19 func347 rfl (fun b => sg ?_)
  obtain ⟨U, Y, rfl⟩ := c.form
  refine VE (bX b rfl (fun W4 s b => Wa (lr (Wa (lS (Wf fu (VB b Mh rfl rfl isAgg111 (V (cU underlying111 rfl c) ?_))))))))
  refine Wm (ln ?_)
  replace b := b.aF (Db St)
  refine cK (fun i E W => ∃ x z, (E 9 = .int .i64 (i : Nat) ∧ E 8 = .int .i64 (j.Kids.length : Nat)) ∧ ST false cA w W (hp w) z ∧ E 3 = (.int .i64 x) ∧ E 7 = (.slice U j.Kids.length Y) ∧ lu G (j.Kids.drop i) x = some r) j.Kids.length c.len ⟨1, _, ⟨rfl, rfl⟩, (b.aF St), rfl, rfl, hm⟩ dc dc dc (fun _ _ _ h => by obtain ⟨_, _, l, _⟩ := h; exact l) ?_ ?_
  · rintro Z E W J ⟨x, z, ⟨d, m⟩, b, B, D, k⟩
    obtain ⟨a, q, N, M, Q⟩ := cC J
    rw [N] at k
    refine bg (VQ (ei (i := (Z : Int)) (x0 := a) aD.out underlying111 sizeOf113 D d c (Int.natCast_nonneg _) M) (fun a5 ⟨_, ⟨p, rfl, y⟩, H⟩ => V (aH rfl (bE b.has H isAgg113 sizeOf113)) (VE (bR b zeroValue113 (fun n a4 b => ?_)))))
    obtain ⟨t, u, rfl⟩ := y.form
    let a0 := (C1 a.Op a.K a.aA.aC a.aA.aJ t a.Kids.length u)
    refine VO (aX (.agg a0.toArray) (a0.toArray) b rfl rfl sizeOf113 oc nb rfl (fun a2 b => ln (aU (Wh B (VA b Mh a0 isAgg113 sizeOf113 (bS k fun T I k => VE (Eg b call347 ((K a (.slice t a.Kids.length u) _ _ (y.mono aN.mono b.aP) I)) (fun a3 b => Wi rfl (Wa (bK (bY (aR ?_))))))))))))
    replace b := b.aF (Db St)
    exact ⟨d, ((IntKind.i64.wrap (x + T))), _, ⟨rfl, m⟩, (b.aF St), rfl, D, (by rw [Q]; exact k)⟩
  rintro E W ⟨x, z, ⟨d, m⟩, b, B, D, k⟩
  rw [List.drop_length] at k
  exact aR (sg (Wh B (Wa (lt (rQ k b)))))
theorem xK : ∀ (n : Nat) (c : Formula) (a : Value) (r : Int) (w : World) (g : Sl aD 5 (hp w) a c.Kids) (_ : kG n c = some r),
    bF false Tryz.prog 347 [(.agg #[(.int .i64 c.Op), (.int .i64 c.K), (.string c.aA.aC), (.string c.aA.aJ), a])] w (.int .i64 r)
  | 0 => by intros; rename_i h; simp only [kG] at h; cases h
  | n + 1 => yf (kG n) (xK n)
theorem zI (I : Formula → Option Int) (N : ∀ (j : Formula) (g : Value) (r : Int) (w : World) (c : Sl aD 5 (hp w) g j.Kids), I j = some r → bF false Tryz.prog 348 [(.agg #[(.int .i64 j.Op), (.int .i64 j.K), (.string j.aA.aC), (.string j.aA.aJ), g])] w (.int .i64 r)) (j : Formula) (g : Value) (r : Int) (w : World) (c : Sl aD 5 (hp w) g j.Kids) (hm : qI I j = some r) :
    bF false Tryz.prog 348 [(.agg #[(.int .i64 j.Op), (.int .i64 j.K), (.string j.aA.aC), (.string j.aA.aJ), g])] w (.int .i64 r) := by
  refine cG 20 func348 rfl (fun b => sg ?_)
  obtain ⟨Y, Z, rfl⟩ := c.form
  refine VE (bX b rfl (fun W4 v b => Wa (lr (Wa (lS (Wf fu (VB b Mh rfl rfl isAgg111 (V (cU underlying111 rfl c) ?_))))))))
  refine Wm (ln ?_)
  replace b := b.aF (Db St)
  refine cK (fun i E W => ∃ u B, (E 9 = .int .i64 (i : Nat) ∧ E 8 = .int .i64 (j.Kids.length : Nat)) ∧ ST false cA w W (hp w) B ∧ E 3 = (.int .i64 u) ∧ E 7 = (.slice Y j.Kids.length Z) ∧ ma I (j.Kids.drop i) u = some r) j.Kids.length c.len ⟨0, _, ⟨rfl, rfl⟩, (b.aF St), rfl, rfl, hm⟩ dc dc dc (fun _ _ _ h => by obtain ⟨_, _, l, _⟩ := h; exact l) ?_ ?_
  · rintro n E W M ⟨u, B, ⟨d, m⟩, b, D, G, t⟩
    obtain ⟨a, s, T, Q, U⟩ := cC M
    rw [T] at t
    refine bg (VQ (ei (i := (n : Int)) (x0 := a) aD.out underlying111 sizeOf113 G d c (Int.natCast_nonneg _) Q) (fun p ⟨_, ⟨q, rfl, z⟩, J⟩ => V (aH rfl (bE b.has J isAgg113 sizeOf113)) (VE (bR b zeroValue113 (fun a2 a5 b => ?_)))))
    obtain ⟨x, y, rfl⟩ := z.form
    let a0 := (C1 a.Op a.K a.aA.aC a.aA.aJ x a.Kids.length y)
    refine VO (aX (.agg a0.toArray) (a0.toArray) b rfl rfl sizeOf113 oc nb rfl (fun a3 b => ln (aU (Wh D (VA b Mh a0 isAgg113 sizeOf113 (bS t fun H K t => VE (Eg b call348 ((N a (.slice x a.Kids.length y) _ _ (z.mono aN.mono b.aP) K)) (fun a4 b => V (HC (k := .i64) rfl rfl) (Wa (bK (bY (aR ?_))))))))))))
    replace b := b.aF (Db St)
    exact ⟨d, ((if H > u then H else u)), _, ⟨rfl, m⟩, (b.aF St), rfl, G, (by rw [U]; exact t)⟩
  rintro E W ⟨u, B, ⟨d, m⟩, b, D, G, t⟩
  rw [List.drop_length] at t
  exact aR (sg (Wh D (Wi rfl (Wa (lt (rQ t b))))))
theorem yy : ∀ (n : Nat) (c : Formula) (a : Value) (r : Int) (w : World) (g : Sl aD 5 (hp w) a c.Kids) (_ : lT n c = some r),
    bF false Tryz.prog 348 [(.agg #[(.int .i64 c.Op), (.int .i64 c.K), (.string c.aA.aC), (.string c.aA.aJ), a])] w (.int .i64 r)
  | 0 => by intros; rename_i h; simp only [lT] at h; cases h
  | n + 1 => zI (lT n) (yy n)
end Go.Proofs.YtmlncblocfcmiaaGreat
