/- a part of a proof of StuckTells -/
import Derived.Test.YtmlncblocfcmiaaGreatS1W1t
set_option linter.all false
namespace Go.Proofs.YtmlncblocfcmiaaGreat
open Go.RowKit
set_option maxRecDepth 10000
open Tryz
theorem Bg : ∀ (n : Nat) (i : Nat) (g : Value) (k : List Int) (c : LO) (j : Formula) (a : Value) (r : List Int) (w : World) {z : kl} (D : nB z ((i, Ob #[g] 92) :: (c ++ [])) w) (x : jT 5 (lu .u8) 1 g k c) (t : Sl jt 5 z a j.Kids) (_ : pq n k j = some r),
  lF false Tryz.prog 471 [(.pointer (some ⟨i, 0, none⟩)), (.agg #[(.int .i64 j.Op), (.int .i64 j.K), (.string j.jq.js), (.string j.jq.jy), a])] w ((i, Ob #[g] 92) :: (c ++ [])) (fun v B W' => ∃ y u, v = (.tuple #[]) ∧ B = ((i, Ob #[y] 92) :: (u ++ [])) ∧ jT 5 (lu .u8) 1 y r u)
 | 0 => by intros; rename_i h; simp only [pq] at h; cases h
 | n + 1 => CM (pq n) (Bg n)
theorem FW (k : Nat) (i : Value) (u : List Int) (c : LO) (a : Formula) (j : Value) (r : (Bool × (List Int))) (w : World) {Q : kl} (Y : nB Q ((k, Ob #[i] 92) :: (c ++ [])) w) (t : jT 5 (lu .u8) 1 i u c) (g : Sl jt 5 Q j a.Kids) (hm : wh u a = some r) :
  lF false Tryz.prog 469 [(.pointer (some ⟨k, 0, none⟩)), (.agg #[(.int .i64 a.Op), (.int .i64 a.K), (.string a.jq.js), (.string a.jq.jy), j])] w ((k, Ob #[i] 92) :: (c ++ [])) (fun v U W' => ∃ M I, v = (.bool (r.1)) ∧ U = ((k, Ob #[M] 92) :: (I ++ [])) ∧ jT 5 (lu .u8) 1 M r.2 I) := by
 refine AS Y 15 func469 rfl (fun b => sg ?_)
 obtain ⟨y, z, rfl⟩ := g.form
 let B := (C1 a.Op a.K a.jq.js a.jq.jy y a.Kids.length z)
 refine VE (km b rfl (fun W4 n b => Wa (lS (Wm (V (wO gJ rfl rfl) (Wm (Vg rfl rfl (jw rfl (jz b.has Mh B rfl aG aB)) (bS hm fun p K hm => LC rfl rfl (Eg b call107 (vY a (.slice y a.Kids.length z) _ _ (g.mono jB.mono b.jD) K) (fun W7 b => Vg rfl rfl (nH rfl) (V (jN rfl rfl) ?_)))))))))))
 refine ln (CI hm rfl (fun J hm => ?_) (fun J hm => ?_))
 ·refine sg (Wa (ln ?_))
  replace b := b.ju (Db St)
  refine jU (kj ?_)
  obtain rfl := sj hm
  exact kY (v := (.bool false)) rfl rfl ⟨_, _, rfl, (b.lM (Kb (Kr Sn))), i, c, rfl, rfl, t⟩
 refine kg (Wm (VA b Mh B aG aB (bS hm fun q D hm => ?_)))
 refine VE (eM b (Cb (Pb Pz) (Cr (Qb Qz) Cn)) call471 (fun m h => ((Bg jY) k i u c a (.slice y a.Kids.length z) _ _ m t (g.mono jB.mono h) D)) ?_)
 rintro _ a2 a3 Z b T l d ⟨N, H, x, rfl, G⟩
 obtain rfl := x.symm
 replace b := b.perm (Tb (Tr Tn))
 refine ln ?_
 replace b := b.ju (Kb (Kr (Db St)))
 refine sg (Wa (lt ?_))
 obtain rfl := sj hm
 exact kY (v := (.bool true)) rfl rfl ⟨_, _, rfl, (b.lM (Kb (Kr Sn))), N, H, rfl, rfl, G⟩
theorem zZ (a : Formula) (g : Value) (r : List Int) (w : World) (c : Sl jt 5 (hp w) g a.Kids) (hm : sK a = some r) :
  lz false Tryz.prog 465 [(.agg #[(.int .i64 a.Op), (.int .i64 a.K), (.string a.jq.js), (.string a.jq.jy), g])] w 5 (lu .u8) 1 r := by
 refine tF 11 func465 rfl (fun d => sg ?_)
 obtain ⟨k, t, rfl⟩ := c.form
 refine VE (km d rfl (fun W4 u d => Wa (lr (V (kZ (v := (.agg #[(.slice none 0 0)])) pM (kE zeroValue92 gI (Qi _ gI) kr)) (VE (km d rfl (fun W6 B d => Wa (lr (Wm (VA d (Mt Mh) (C1 a.Op a.K a.jq.js a.jq.jy k a.Kids.length t) aG aB ?_))))))))))
 refine bS hm fun K D hm => ?_
 refine VE (eM d (Cb Pz (C0 Cn)) call469 (fun s m => (FW B (.slice none 0 0) ([]) [] a (.slice k a.Kids.length t) _ _ s (jT.nil _ _ _) (c.mono jB.mono m) D)) ?_)
 rintro _ U Y M d I n h ⟨H, N, i, rfl, y⟩
 obtain rfl := i.symm
 replace d := d.perm (Tb (Tr Tn))
 refine ln ?_
 replace d := d.ju (Kb (Kr (Db St)))
 refine sg (Wm (bS hm fun T x hm => VE (pv d call66 (lz.li (AN B H K.2 _ _ (y.sl (fun _ => rfl) (fun b o l => d.at_ (Mt (Ml l)))) (At.of (d.at_ Mh) _ rfl) x)) (fun Q G Z z d J q j => Wa (ln ?_)))))
 replace d := d.ju (Kr (Db (Dr St)))
 refine jU ?_
 obtain rfl := sj hm
 exact kY (v := G) rfl rfl ⟨_, z, rfl, d.nx (fun p l => (Ml l)) j.nd, j⟩
theorem EN (a : Formula) (j : Value) (c : Formula) (k : Value) (r : Int) (w : World) (g : Sl jt 5 (hp w) j a.Kids) (i : Sl jt 5 (hp w) k c.Kids) (hm : sQ a c = some r) :
  jS false Tryz.prog 458 [(.agg #[(.int .i64 a.Op), (.int .i64 a.K), (.string a.jq.js), (.string a.jq.jy), j]), (.agg #[(.int .i64 c.Op), (.int .i64 c.K), (.string c.jq.js), (.string c.jq.jy), k])] w (.int .i64 r) := by
 refine cG 10 func458 rfl (fun d => sg ?_)
 obtain ⟨x, z, rfl⟩ := g.form
 refine VE (km d rfl (fun W4 q d => ?_))
 obtain ⟨y, B, rfl⟩ := i.form
 refine VE (km d rfl (fun W8 s d => Wa (ln (jK ?_))))
 replace d := d.drew
 have h := d.has.ju (Kb (Kb Sn))
 refine kJ h kw (XH 0 rfl h (fun _ l => jw rfl (jz l (Mt Mh) (C1 a.Op a.K a.jq.js a.jq.jy x a.Kids.length z) rfl aG aB)) (XH 2 rfl h (fun _ l => jw rfl (jz l Mh (C1 c.Op c.K c.jq.js c.jq.jy y c.Kids.length B) rfl aG aB)) (bS hm fun K H hm => XE 1 rfl (pv d call465 (zZ a (.slice x a.Kids.length z) _ _ (g.mono jB.mono d.jD) H) (fun Y N a4 T d t n D => ?_)))))
 have h := d.has.tH t (Dr (Kb (Kb Sn)))
 refine ⟨h, (bS hm fun M I hm => XE 3 rfl (pv d call465 (zZ c (.slice y c.Kids.length B) _ _ (i.mono jB.mono (t.trans d.jD)) I) (fun Z Q a5 U d u p G => ?_)))⟩
 have h := d.has.tH (t.trans u) (Dr (Dr (Kb (Kb Sn))))
 refine ⟨h, (bS hm fun a3 J hm => XE 4 rfl (Eg d call323 (jS.li (Be N K Q M _ _ (D.sl (fun _ => rfl) (fun b o m => d.at_ (Ma (Ml m)))) (G.sl (fun _ => rfl) (fun b o m => d.at_ (Ml m))) J)) (fun a2 d => ?_)))⟩
 have h := d.has.tH (t.trans u) (Dr (Dr (Kb (Kb Sn))))
 refine ⟨h, (X 5 rfl h (nu rfl) (kW kr (jF ?_)))⟩
 exact jU (rQ hm d)
theorem BW (g : Value) (k r : List Formula) (w : World) {G : kl} (Y : nB G [] w) (u : Sl jt 5 G g k) (hm : uJ k = some r) :
  lB false Tryz.prog 436 [g] w G [] (fun v U μ1 => ∃ T I, v = T ∧ U = (I ++ []) ∧ kD 113 jt 5 μ1 T r I) := by
 refine tE Y 9 func436 rfl (fun b => sg (Wa (lr (Wm (bS hm fun Z Q hm => ?_)))))
 refine VE (eD b (bB _) call456 (fun h => lB.li (BB g k _ _ h (u.mono jB.mono (kd.refl _)) Q)) ?_ (L0 := []))
 rintro _ v7 s L9 b y l ⟨i, H, a, rfl, B⟩
 obtain rfl := a.symm
 replace b := b.perm (Tr Tn)
 refine Wa (lr (Wm (bS hm fun a5 z hm => ?_)))
 refine VE (eD b (Cr Qz Cn) call457 (fun h => (yf i Z H (.func (.func 458) #[] #[]) (fun (x : (Formula × Formula)) => sQ x.1 x.2) _ _ h B ⟨458, #[], #[], rfl, call458, fun W x vs r E m hm => by obtain ⟨_, _, rfl, M, N⟩ := m; obtain ⟨q, rfl, p⟩ := M.out; obtain ⟨t0, rfl, n⟩ := N.out; exact EN x.1 q x.2 t0 r W p n hm⟩ z)) ?_)
 rintro _ t A a3 b j d ⟨J, c, rfl, D⟩
 obtain rfl := c.symm
 replace b := b.perm (Tr Tn)
 refine lr (Wm (Wa (lt ?_)))
 obtain rfl := sj hm
 exact kY (v := i) rfl rfl ⟨_, _, _, rfl, (b.lM (Kr Sn)), (y.trans j), (l.trans d), (ST.kA b (ma.mem (Kr Sn))), i, J, rfl, rfl, D⟩
theorem yR (g : Value) (a0 : List Formula) (x : LO) (Z : Value) (f1 : (Formula × Formula) → Option Bool) (r : List Formula) (w : World) {μ0 : kl} (h0 : nB μ0 (x ++ []) w) (B : kD 113 jt 5 μ0 g a0 x) (d2 : xy Tryz.prog Z μ0 (vg jt jt) (fun (r : Bool) => (.bool r)) f1) (hm : ph a0 f1 = some r) :
  lB false Tryz.prog 439 [g, Z] w μ0 (x ++ []) (fun v L1 μ1 => ∃ y1, v = y1 ∧ L1 = [] ∧ Sl jt 5 μ1 y1 (r)) := by
 refine tE h0 66 func439 rfl (fun d => sg (Wa (lS (Wm (V (rL aD rfl B) (Wi rfl (ln (CI hm rfl (fun i3 hm => ?_) (fun i3 hm => ?_)))))))))
 ·refine sg (Wm (Wa (lt (kj ?_))))
  obtain rfl := sj hm
  refine kY (v := g) rfl rfl ?_
  obtain ⟨a1, d, i2, A, j0⟩ := ST.so jB d B
  exact ⟨_, _, _, rfl, (d.lM Sn), i2, A, (ST.kA d (ma.mem Sn)), g, rfl, rfl, j0⟩
 refine kS (Wa (ln (ll (mU (fun m E W => ∃ t b7, ST false (keys (x ++ [])) w W μ0 (x ++ b7) ∧ E 0 = g ∧ E 1 = Z ∧ E 5 = (.int .i64 t) ∧ mD a0 f1 m t = some r) jY ⟨1, _, (d.ju St), rfl, rfl, rfl, hm⟩ ?_))))
 rintro m E W ⟨t, b7, d, y, a3, G, a⟩
 cases m with
 | zero => rw [mD] at a; cases a
 | succ h1 =>
  refine jK (sg (Wh G (Wh y (V (rL aD rfl B) (Wi rfl (ln (CI a rfl (fun d3 a => ?_) (fun d3 a => ?_))))))))
  ·refine kn (jK (ll (jK ?_)))
   replace d := d.drew
   have h := d.has.ju (Kr Sn)
   refine kJ h kw (X 0 rfl h (jE a3) (X 1 rfl h (jE y) (X 2 rfl h (jE G) (bS a fun h7 R a => XQ 3 rfl h (kN (i := t) jt.out aD aB rfl rfl B (kk R) (ki R)) (fun k1 ⟨_, ⟨h3, rfl, e7⟩, e0, i4⟩ => XH 4 rfl h (fun _ q => jw rfl (jR (ny.hp _) (e0.mono (lP (fun b o p => q.2 b o (Ml p)))) aG aB)) (X 5 rfl h (jE y) (X 6 rfl h (jE G) (X 7 rfl h (kx rfl rfl rfl) (bS a fun h8 b3 a => XQ 8 rfl h (kN (i := (IntKind.i64.wrap (t - 1))) jt.out aD aB rfl rfl B (kk b3) (ki b3)) (fun k2 ⟨_, ⟨h4, rfl, e8⟩, e1, i5⟩ => XH 9 rfl h (fun _ q => jw rfl (jR (ny.hp _) (e1.mono (lP (fun b o p => q.2 b o (Ml p)))) aG aB)) (bS a fun k7 e5 a => XE 10 rfl (yz (h7, h8) d d2 (kd.refl _) (vg.mk jB jB (jt.mk ⟨h3, rfl, e7⟩) (jt.mk ⟨h4, rfl, e8⟩) d.jD) rfl (we rfl rfl) e5 (fun j6 d => ?_)))))))))))))
   have h := d.has.ju (Kr Sn)
   refine ⟨h, (kW kr (jF (CI a rfl (fun d4 a => ?_) (fun d4 a => ?_))))⟩
   ·refine sg (Wh y (Wh G (bS a fun _ F a => VQ (AE (i := t) aD aB rfl rfl B (vd F) (vc F)) (fun c4 K => Wa (lS (Wa (ln ?_)))))))
    refine CJ a (fun T E W => ∃ a2 b9, ST false (keys (x ++ [])) w W μ0 (a2 ++ b9) ∧ E 0 = g ∧ E 5 = (.int .i64 T.2) ∧ kD 113 jt 5 μ0 g T.1 a2) (fun T d8 => ?_) ?_
    ·refine ll (mU (fun m E W => ∃ a5 J U u c0, ST false (keys (x ++ [])) w W μ0 (J ++ c0) ∧ E 0 = g ∧ E 1 = Z ∧ E 5 = (.int .i64 U) ∧ E 6 = c4 ∧ E 7 = (.int .i64 u) ∧ kD 113 jt 5 μ0 g a5 J ∧ mF t f1 m a5 U u = some T) jY ⟨a0, x, t, 1, _, (d.ju St), y, a3, G, rfl, rfl, B, d8⟩ ?_)
     rintro m E W ⟨a5, J, U, u, c0, d, N, a4, Q, H, I, k, j⟩
     cases m with
     | zero => rw [mF] at j; cases j
     | succ h2 =>
      refine jK (sg (Wh I (Wh H (V (KN aD rfl K k) (Wi rfl (ln (CI j rfl (fun d5 j => ?_) (fun d5 j => ?_))))))))
      ·refine kn (jK (CJ j (fun s E W => ∃ M c1, ST false (keys (x ++ [])) w W μ0 (M ++ c1) ∧ E 0 = g ∧ E 1 = Z ∧ E 5 = (.int .i64 s.2) ∧ E 6 = c4 ∧ E 7 = (.int .i64 u) ∧ kD 113 jt 5 μ0 g s.1 M) (fun s c => ?_) ?_))
       ·refine ll (jK ?_)
        replace d := d.drew
        have h := d.has.ju (Kr Sn)
        refine kJ h kw (X 0 rfl h (jE a4) (X 1 rfl h (jE H) (X 2 rfl h (jE I) (bS c fun i0 b4 c => XQ 3 rfl h (AM (i := u) jt.out aD aB rfl rfl k K (kk b4) (ki b4)) (fun k3 ⟨_, ⟨h5, rfl, f4⟩, e2, i6⟩ => XH 4 rfl h (fun _ q => jw rfl (jR (ny.hp _) (e2.mono (lP (fun b o p => q.2 b o (Ml p)))) aG aB)) (X 5 rfl h (jE H) (X 6 rfl h (jE I) (X 7 rfl h (kx rfl rfl rfl) (bS c fun i1 b5 c => XQ 8 rfl h (AM (i := (IntKind.i64.wrap (u - 1))) jt.out aD aB rfl rfl k K (kk b5) (ki b5)) (fun k4 ⟨_, ⟨h6, rfl, f5⟩, e3, i7⟩ => XH 9 rfl h (fun _ q => jw rfl (jR (ny.hp _) (e3.mono (lP (fun b o p => q.2 b o (Ml p)))) aG aB)) (bS c fun k8 e6 c => XE 10 rfl (yz (i0, i1) d d2 (kd.refl _) (vg.mk jB jB (jt.mk ⟨h5, rfl, f4⟩) (jt.mk ⟨h6, rfl, f5⟩) d.jD) rfl (we rfl rfl) e6 (fun j8 d => ?_)))))))))))))
        have h := d.has.ju (Kr Sn)
        refine ⟨h, (X 11 rfl h (nH rfl) (kW kr (jF (CI c rfl (fun d6 c => ?_) (fun d6 c => ?_)))))⟩
        ·refine sg (Wh N (Wh Q (Wh H (Wh I (bS c fun c7 b6 c => VQ (AM (i := u) jt.out aD aB rfl rfl k K (kk b6) (ki b6)) (fun k5 ⟨_, ⟨l0, rfl, P⟩, e4, i8⟩ => V (jw rfl (jR (ny.hp _) (e4.mono (lP (fun b o p => d.has.2 b o (Ml p)))) aG aB)) (bS c fun l2 Y c => VQ (kN (i := U) jt.out aD aB rfl rfl k (kk Y) (ki Y)) (fun k6 ⟨_, ⟨l1, rfl, j3⟩, i9, d7⟩ => ?_))))))))
         obtain ⟨f7, g0, rfl⟩ := P.form
         refine VO (qp (x1 := c7) jB d k rfl rfl (jt.mk ⟨(.slice f7 c7.Kids.length g0), rfl, P⟩) d7 (ki Y) aB (fun j9 f8 d d1 => ln (jI (Wh Q (Wi rfl (Wa (jW (ko (jF ?_)))))))))
         obtain rfl := sj c
         exact ⟨f8, _, (d.ju St), N, a4, rfl, H, I, d1⟩
        refine kP (ko (jF ?_))
        obtain rfl := sj c
        exact ⟨J, _, (d.ju St), N, a4, Q, H, I, k⟩
       rintro ⟨g9, h9⟩ E W ⟨M, c1, d, g1, g2, g3, g4, g7, f3⟩ d9
       exact jI (Wh g7 (Wi rfl (Wa (ln ⟨h2, bE _, g9, M, h9, (IntKind.i64.wrap (u + 1)), _, (d.ju St), g1, g2, g3, g4, rfl, f3, d9⟩))))
      refine mZ (mS (mS (qx (jF ?_))))
      obtain rfl := sj j
      exact ⟨J, _, (d.ju St), N, Q, k⟩
    rintro ⟨k0, c6⟩ E W ⟨a2, b9, d, c2, c3, O⟩ D
    refine sg (Wh c2 (Wh c3 (bS D fun _ L D => VQ (AE (i := c6) aD aB rfl rfl O (vd L) (vc L)) (fun k9 e9 => VO (DD (z := (⟨0, 0, K0, []⟩ : Formula)) (zs := C4) jB d O (jt.mk ⟨(.slice none 0 0), rfl, (Sl.nil _ _ _)⟩) aD aM e9 rfl rfl (fun j7 j5 d d0 => lr (Wh c2 (Wh c3 (bS D fun _ a9 D => VQ (CH (i := c6) aD aB rfl rfl d0 (vd a9) (vc a9)) (fun c5 f0 => ?_))))))))))
    refine Wa (lt (me (kj (kj (me (kj ?_))))))
    obtain rfl := sj D
    refine kY (v := c5) rfl rfl ?_
    obtain ⟨l3, d, c8, l, f2⟩ := ST.so jB d f0
    exact ⟨_, _, _, rfl, (d.lM Sn), c8, l, (ST.kA d (ma.mem Sn)), c5, rfl, rfl, f2⟩
   exact kP (ko (jF (jI (Wh G (Wi rfl (Wa (ln ⟨h1, bE _, (IntKind.i64.wrap (t + 1)), _, (d.ju St), y, a3, rfl, a⟩)))))))
  refine mZ (mS (mS (qx (jF (sg (Wh y (Wa (lt ?_))))))))
  obtain rfl := sj a
  refine kY (v := g) rfl rfl ?_
  obtain ⟨l4, d, c9, n, f6⟩ := ST.so jB d B
  exact ⟨_, _, _, rfl, (d.lM Sn), c9, n, (ST.kA d (ma.mem Sn)), g, rfl, rfl, f6⟩
theorem qn (G : Value) (N : List Formula) (H : Value) (l : List Formula) (I : Value) (f2 : (Formula × Formula) → Option Bool) (r : Bool) (w : World) (x : Sl jt 5 (hp w) G N) (Q : Sl jt 5 (hp w) H l) (p : xy Tryz.prog I (hp w) (vg jt jt) (fun (r : Bool) => (.bool r)) f2) (hm : mC N l f2 = some r) :
  jS false Tryz.prog 459 [G, H, I] w (.bool r) := by
 refine cG 32 func459 rfl (fun b => sg (Wa (lS (Wm (V (kK aD rfl x) (Wm (V (kK aD rfl Q) (Wi rfl (jW ?_)))))))))
 refine jF (CI hm rfl (fun s hm => ?_) (fun s hm => ?_))
 ·refine sg (Wa (lt (kj ?_)))
  obtain rfl := sj hm
  exact rP b
 refine kS (Wm (V (kK aD rfl x) (Wm (ln (kB (fun i E W => ∃ y, (E 17 = .int .i64 (i : Nat) ∧ E 16 = .int .i64 (N.length : Nat)) ∧ ST false ku w W (hp w) y ∧ E 1 = H ∧ E 2 = I ∧ E 15 = G ∧ kR l f2 (N.drop i) i = some r) N.length x.len ⟨_, ⟨rfl, rfl⟩, (b.ju St), rfl, rfl, rfl, hm⟩ dc dc dc (fun _ _ _ h => by obtain ⟨_, m, _⟩ := h; exact m) ?_ ?_)))))
 ·rintro a4 E W U ⟨y, ⟨d, n⟩, b, z, B, D, a⟩
  obtain ⟨g, c5, a9, q, a3⟩ := kq U
  rw [a9] at a
  refine bg (Wh d (VQ (lK (i := (a4 : Int)) (x0 := g) jt.out aD aB D d x (aH _) q) (fun b9 ⟨_, ⟨c2, rfl, J⟩, Y⟩ => V (jw rfl (jR b.has Y aG aB)) (VE (kf b aM (fun v P b => Wa ?_))))))
  obtain ⟨j, t, rfl⟩ := J.form
  let a0 := (C1 g.Op g.K g.jq.js g.jq.jy j g.Kids.length t)
  refine VO (jL (.agg a0.toArray) (a0.toArray) b rfl rfl aB oc nb rfl (fun A b => lr (Wh z (Wm (bS a fun c M a => VQ (lK (i := (a4 : Int)) (x0 := c) jt.out aD aB rfl rfl Q (kk M) (ki M)) (fun c0 ⟨_, ⟨c3, rfl, K⟩, Z⟩ => V (jw rfl (jR b.has Z aG aB)) (VE (kf b aM (fun F R b => ?_)))))))))
  obtain ⟨k, u, rfl⟩ := K.form
  let a5 := (C1 c.Op c.K c.jq.js c.jq.jy k c.Kids.length u)
  refine VO (jL (.agg a5.toArray) (a5.toArray) b rfl rfl aB oc nb rfl (fun L b => lr (Wh B (VA b (Mt Mh) a0 aG aB (VA b Mh a5 aG aB (bS a fun c1 a2 a => VE (yz (g, c) b p (kd.refl _) (vg.mk jB jB (jt.mk ⟨(.slice j g.Kids.length t), rfl, J⟩) (jt.mk ⟨(.slice k c.Kids.length u), rfl, K⟩) b.jD) rfl (we rfl rfl) a2 (fun O b => V (nH rfl) (ln ?_)))))))))
  replace b := b.ju (Db (Db St))
  refine CI a rfl (fun T a => ?_) (fun T a => ?_)
  ·refine sg (Wa (lt (me (kj (me (kj ?_))))))
   obtain rfl := sj a
   exact rP b
  exact kP (ko (jF ⟨d, _, ⟨rfl, n⟩, (b.ju St), z, B, D, (by rw [a3]; exact a)⟩))
 rintro E W ⟨y, ⟨d, n⟩, b, z, B, D, a⟩
 rw [aN] at a
 exact jF (sg (Wa (lt (rQ a b))))
theorem Dh (M : Formula → Formula → Option Bool) (v : ∀ (a : Formula) (j : Value) (c : Formula) (k : Value) (r : Bool) (w : World) (u : Sl jt 5 (hp w) j a.Kids) (y : Sl jt 5 (hp w) k c.Kids), M a c = some r → jS false Tryz.prog 440 [(.agg #[(.int .i64 a.Op), (.int .i64 a.K), (.string a.jq.js), (.string a.jq.jy), j]), (.agg #[(.int .i64 c.Op), (.int .i64 c.K), (.string c.jq.js), (.string c.jq.jy), k])] w (.bool r)) (a : Formula) (j : Value) (c : Formula) (k : Value) (r : Bool) (w : World) (u : Sl jt 5 (hp w) j a.Kids) (y : Sl jt 5 (hp w) k c.Kids) (hm : vQ M a c = some r) :
  jS false Tryz.prog 440 [(.agg #[(.int .i64 a.Op), (.int .i64 a.K), (.string a.jq.js), (.string a.jq.jy), j]), (.agg #[(.int .i64 c.Op), (.int .i64 c.K), (.string c.jq.js), (.string c.jq.jy), k])] w (.bool r) := by
 refine cG 31 func440 rfl (fun b => sg ?_)
 obtain ⟨N, Y, rfl⟩ := u.form
 let d := (C1 a.Op a.K a.jq.js a.jq.jy N a.Kids.length Y)
 refine VE (km b rfl (fun W4 T b => ?_))
 obtain ⟨Q, Z, rfl⟩ := y.form
 let a0 := (C1 c.Op c.K c.jq.js c.jq.jy Q c.Kids.length Z)
 refine VE (km b rfl (fun W8 U b => Wa (lr (Wf mN (VB b (Mt Mh) rfl rfl cC (Wf mN (VB b Mh rfl rfl cC (Wi rfl (Wm (LJ hm (fun a9 E W => ∃ a2, ST false ku w W (hp w) ((U, Ol a0 113) :: ((T, Ol d 113) :: a2)) ∧ E 2 = (.pointer (some ⟨T, 0, none⟩)) ∧ E 3 = (.pointer (some ⟨U, 0, none⟩)) ∧ E 4 = (.bool false) ∧ E 16 = (.bool a9)) 6 ?_ (fun a9 D I => ?_)))))))))))
 ·rintro d1 E W ⟨a2, b, J, K, a5, A⟩ n
  refine Wh A (LJ n (fun m E W => ∃ a3, ST false ku w W (hp w) ((U, Ol a0 113) :: ((T, Ol d 113) :: a3)) ∧ E 2 = (.pointer (some ⟨T, 0, none⟩)) ∧ E 3 = (.pointer (some ⟨U, 0, none⟩)) ∧ E 4 = (.bool false) ∧ E 23 = (.bool m)) 6 ?_ (fun m B H => ?_))
  ·rintro d2 E W ⟨a3, b, F, L, h, c1⟩ p
   refine Wh c1 (LJ p (fun l E W => ∃ a4, ST false ku w W (hp w) a4 ∧ E 4 = (.bool false) ∧ E 30 = (.bool l)) 6 ?_ (fun l z G => ?_))
   ·rintro d3 E W ⟨a4, b, c9, O⟩ q
    exact Wg O (lt (rQ q b))
   refine bC z (fun i z => ?_) (fun i z => ?_)
   ·refine ug i (jC mO F) (ug i (jw rfl (jO b.has (Mt Mh) rfl dB)) (ug i (jC mO L) (ug i (jw rfl (jO b.has Mh rfl dB)) (bS z fun d0 s z => qI i (Eg b call459 (qn (.slice N a.Kids.length Y) a.Kids (.slice Q c.Kids.length Z) c.Kids (.func (.func 440) #[] #[]) (fun (x : (Formula × Formula)) => M x.1 x.2) _ _ (u.mono jB.mono b.jD) (y.mono jB.mono b.jD) ⟨440, #[], #[], rfl, call440, fun W x vs r hs hR hm => by obtain ⟨_, _, rfl, P, R⟩ := hR; obtain ⟨u0, rfl, k0⟩ := P.out; obtain ⟨t0, rfl, j0⟩ := R.out; exact v x.1 u0 x.2 t0 r W k0 j0 hm⟩ s) (fun c8 b => V (jM (cB i) rfl) ?_))))))
    obtain rfl := sj z
    exact G _ _ ⟨_, (b.ju (Db (Db St))), h, rfl⟩
   refine un i (un i (un i (un i (un i (V (jN (cB i) rfl) ?_)))))
   obtain rfl := sj z
   exact G _ _ ⟨_, (b.ju (Db (Db St))), h, rfl⟩
  refine bC B (fun g B => ?_) (fun g B => ?_)
  ·refine ug g (jC rB J) (ug g (jw rfl (jz b.has (Mt Mh) (jA a.jq) rfl bG aQ)) (ug g (jC rB K) (ug g (jw rfl (jz b.has Mh (jA c.jq) rfl bG aQ)) (ug g (uB rfl rfl (nm eA) (qO (po _ a.jq c.jq))) (V (jM (cB g) rfl) ?_)))))
   obtain rfl := sj B
   exact H _ _ ⟨_, (b.ju St), J, K, a5, rfl⟩
  refine un g (un g (un g (un g (un g (V (jN (cB g) rfl) ?_)))))
  obtain rfl := sj B
  exact H _ _ ⟨_, (b.ju St), J, K, a5, rfl⟩
 refine bC D (fun t D => ?_) (fun t D => ?_)
 ·refine ug t (jC pA rfl) (ug t (jw rfl (jO b.has (Mt Mh) rfl cC)) (ug t (jC pA rfl) (ug t (jw rfl (jO b.has Mh rfl cC)) (ug t (kx rfl rfl rfl) (V (jM (cB t) rfl) ?_)))))
  obtain rfl := sj D
  exact I _ _ ⟨_, (b.ju St), rfl, rfl, rfl, rfl⟩
 refine un t (un t (un t (un t (un t (V (jN (cB t) rfl) ?_)))))
 obtain rfl := sj D
 exact I _ _ ⟨_, (b.ju St), rfl, rfl, rfl, rfl⟩
theorem B4 : ∀ (n : Nat) (g : Formula) (a : Value) (i : Formula) (c : Value) (r : Bool) (w : World) (j : Sl jt 5 (hp w) a g.Kids) (k : Sl jt 5 (hp w) c i.Kids) (_ : nV n g i = some r),
  jS false Tryz.prog 440 [(.agg #[(.int .i64 g.Op), (.int .i64 g.K), (.string g.jq.js), (.string g.jq.jy), a]), (.agg #[(.int .i64 i.Op), (.int .i64 i.K), (.string i.jq.js), (.string i.jq.jy), c])] w (.bool r)
 | 0 => by intros; rename_i h; simp only [nV] at h; cases h
 | n + 1 => Dh (nV n) (B4 n)
theorem tq (j : Nat) (a0 : kC) (c : Int) (K : Value) (a2 : List Formula) (r : (Formula × kC)) (w : World) {μ0 : kl} (h0 : nB μ0 ((j, Ol (lD a0) 376) :: []) w) (b5 : Sl jt 5 μ0 K a2) (hm : nT a0 c a2 = some r) :
  lB false Tryz.prog 407 [(.pointer (some ⟨j, 0, none⟩)), (.int .i64 c), K] w μ0 ((j, Ol (lD a0) 376) :: []) (fun v L1 μ1 => ∃ y1, v = (.agg #[(.int .i64 ((r.1).Op)), (.int .i64 ((r.1).K)), (.string (((r.1).jq).js)), (.string (((r.1).jq).jy)), y1]) ∧ L1 = ((j, Ol (lD (r.2)) 376) :: []) ∧ Sl jt 5 μ1 y1 ((r.1).Kids)) := by
 refine tE h0 37 func407 rfl (fun b => sg (VE (kf b aM (fun W2 P b => lr (Wm (Wi rfl (VE (kf b zeroValue3 (fun W4 q b => VO (jL (.int .i64 (IntKind.i64.wrap (5 - c))) (#[(.int .i64 (IntKind.i64.wrap (5 - c)))]) b rfl rfl ja (Fw _ (IntKind.i64.wrap (5 - c))) nb rfl (fun W5 b => ln (jK ?_))))))))))))
 let a4 := (IntKind.i64.wrap (5 - c))
 let a9 : Value := (.agg (FK a4).toArray)
 refine jI (Wm (Wm (bS hm fun r6 d1 hm => ?_)))
 refine VE (eD b (bB _) call437 (fun n => lB.li (H2 c K a2 _ _ n (b5.mono jB.mono (kd.refl _)) d1)) ?_ (L0 := []))
 rintro _ f4 aa e2 b B d ⟨O, H, rfl, a3⟩
 obtain rfl := H.symm
 refine Wa (lS (Wm (V (rH (by exact ua rfl) rfl) (bS hm fun f3 c1 hm => VE (Eg b call310 (uA O r6 (.func (.func 438) #[] #[(.pointer (some ⟨q, 0, none⟩))]) (fun (x : Formula) => ql x a4) _ _ (a3.mono jB.mono b.jD) ⟨438, #[], #[(.pointer (some ⟨q, 0, none⟩))], rfl, call438, fun W x vs r R s hm => by obtain ⟨_, rfl, U⟩ := s; obtain ⟨F, rfl, A⟩ := U.out; exact (Af x F q a4 r W A (At.of (R _ _ (b.at_ Mh)) _ rfl) hm).li⟩ c1) (fun e5 b => ln (CI hm rfl (fun b6 hm => ?_) (fun b6 hm => ?_))))))))
 ·refine sg (VB b Mh rfl rfl cC (V (kZ (v := a9) (lJ rfl) (kE aM aX (qm _ aX) kr)) ?_))
  replace b := b.perm (Nb (Pb Pz) Nz)
  refine VO (jL a9 ((FK a4).toArray) b rfl rfl aB oc nb rfl (fun e6 b => ln ?_))
  replace b := b.ju (Kb (Db St))
  refine jU (kj ?_)
  obtain rfl := sj hm
  exact mR (v := a9) rfl rfl (jz b.has Mh (FK a4) rfl aG aB) ⟨_, _, _, rfl, (b.lM (Db (Kb Sn))), B, d, (ST.kA b (ma.mem (Db (Kb Sn)))), (.slice none 0 0), rfl, rfl, (Sl.nil _ _ _)⟩
 refine kn ?_
 replace b := b.ju (Db St)
 refine sg (Wm (bS hm fun d2 c2 hm => ?_))
 refine VE (eD b (bB _) call436 (fun n => (BW O r6 _ _ n (a3.mono jB.mono (kd.refl _)) c2)) ?_ (L0 := []))
 rintro _ f5 f9 e3 b N h ⟨d5, c7, I, rfl, c4⟩
 obtain rfl := I.symm
 replace b := b.perm (Tr Tn)
 refine bS hm fun z c3 hm => ?_
 refine VE (eD b (Cr Qz Cn) call439 (fun n => (yR d5 d2 c7 (.func (.func 440) #[] #[]) (fun (x : (Formula × Formula)) => nV jY x.1 x.2) _ _ n c4 ⟨440, #[], #[], rfl, call440, fun W x vs r R s hm => by obtain ⟨_, _, rfl, U, d0⟩ := s; obtain ⟨F, rfl, A⟩ := U.out; obtain ⟨t0, rfl, j0⟩ := d0.out; exact (B4 jY) x.1 F x.2 t0 r W A j0 hm⟩ c3)) ?_)
 rintro _ f6 d7 e4 b Q l ⟨d6, J, rfl, y⟩
 obtain rfl := J.symm
 refine Wa (ln (jK (CJ hm (fun L E W => ∃ a5, ST false (keys ((j, Ol (lD a0) 376) :: [])) w W d7 ((P, Ol C4 113) :: ((j, Ol (lD L) 376) :: a5)) ∧ E 1 = (.int .i64 c) ∧ E 6 = (.pointer (some ⟨P, 0, none⟩)) ∧ E 8 = d6) (fun L u => ?_) ?_)))
 ·refine sg (Wm (V (kK aD rfl y) (Wi rfl (ln (CI u rfl (fun b9 u => ?_) (fun b9 u => ?_))))))
  ·refine jI (Wm (Wn (Wf KA ?_)))
   replace b := b.perm (Nb (Pb Pz) Nz)
   refine VO (jL (.int .i64 12) ((lD (⟨12⟩ : kC)).toArray) b rfl rfl sizeOf57 (Fw _ 12) nb rfl (fun f1 b => ln ?_))
   obtain rfl := sj u
   exact ⟨_, (b.ju (Sb (Pb Pz) St)), rfl, rfl, rfl⟩
  refine kn ?_
  obtain rfl := sj u
  exact ⟨_, (b.ju St), rfl, rfl, rfl⟩
 rintro f8 E W ⟨a5, b, c9, M, T⟩ g
 refine jK (sg (Wh T (V (kK aD rfl y) (Wi rfl (ln (CI g rfl (fun b7 g => ?_) (fun b7 g => ?_)))))))
 ·refine sg (Wh T (bS g fun a Z g => VQ (lK (i := 0) (x0 := a) jt.out aD aB rfl rfl y (kk Z) (ki Z)) (fun f2 ⟨_, ⟨f7, rfl, Y⟩, c0⟩ => V (jw rfl (jR b.has c0 aG aB)) ?_)))
  obtain ⟨D, G, rfl⟩ := Y.form
  let p := (C1 a.Op a.K a.jq.js a.jq.jy D a.Kids.length G)
  refine VO (jL (.agg p.toArray) (p.toArray) b M rfl aB oc nb rfl (fun e9 b => lt (kj ?_)))
  obtain rfl := sj g
  exact mR (v := (.agg p.toArray)) rfl M (jz b.has Mh p rfl aG aB) ⟨_, _, _, rfl, (b.lM (Db (Kb Sn))), ((B.trans N).trans Q), ((d.trans h).trans l), (ST.kA b (ma.mem (Db (Kb Sn)))), (.slice D a.Kids.length G), rfl, rfl, Y⟩
 refine kg (Wh c9 (Wh T ?_))
 obtain ⟨k, t, rfl⟩ := y.form
 let m := (Rt c k z.length t)
 refine V (kZ (v := (.agg m.toArray)) (nY rfl rfl) (kE aM aX (qm _ aX) kr)) (VO (jL (.agg m.toArray) (m.toArray) b M rfl aB oc nb rfl (fun f0 b => lt ?_)))
 obtain rfl := sj g
 exact mR (v := (.agg m.toArray)) rfl M (jz b.has Mh m rfl aG aB) ⟨_, _, _, rfl, (b.lM (Db (Kb Sn))), ((B.trans N).trans Q), ((d.trans h).trans l), (ST.kA b (ma.mem (Db (Kb Sn)))), (.slice k z.length t), rfl, rfl, y⟩
theorem Ae (G : Nat) (a0 : kC) (a1 : Int) (c2 : Value) (a2 : List Formula) (r : (Formula × kC)) (w : World) {μ0 : kl} (h0 : nB μ0 ((G, Ol (lD a0) 376) :: []) w) (c1 : Sl jt 5 μ0 c2 a2) (hm : qk a0 a1 a2 = some r) :
  lB false Tryz.prog 406 [(.pointer (some ⟨G, 0, none⟩)), (.int .i64 a1), c2] w μ0 ((G, Ol (lD a0) 376) :: []) (fun v L1 μ1 => ∃ y1, v = (.agg #[(.int .i64 ((r.1).Op)), (.int .i64 ((r.1).K)), (.string (((r.1).jq).js)), (.string (((r.1).jq).jy)), y1]) ∧ L1 = ((G, Ol (lD (r.2)) 376) :: []) ∧ Sl jt 5 μ1 y1 ((r.1).Kids)) := by
 let j6 := ((lD a0).toArray : Array Value)
 refine tE h0 58 func406 rfl (fun b => sg (VE (kf b aM (fun W2 b1 b => lr (Wa (lS (Wm ?_)))))))
 refine V (kK aD rfl c1) (Wm (ln (kB (fun i E W => ∃ x K J N c0, (E 12 = .int .i64 (i : Nat) ∧ E 11 = .int .i64 (a2.length : Nat)) ∧ ST false (keys ((G, Obj.cells j6 376 (0, 0)) :: [])) w W μ0 ((b1, Ol C4 113) :: ((G, Obj.cells j6 376 (0, 0)) :: (N ++ c0))) ∧ E 0 = (.pointer (some ⟨G, 0, none⟩)) ∧ E 1 = (.int .i64 x) ∧ E 6 = (.pointer (some ⟨b1, 0, none⟩)) ∧ E 7 = K ∧ E 10 = c2 ∧ kD 113 jt 5 μ0 K J N ∧ mB a0 (a2.drop i) x J = some r) a2.length c1.len ⟨a1, (.slice none 0 0), ([]), [], _, ⟨rfl, rfl⟩, (b.ju St), rfl, rfl, rfl, rfl, rfl, (kD.nil _ _ _ _), hm⟩ dc dc dc (fun _ _ _ h => by obtain ⟨_, _, _, _, _, aa, _⟩ := h; exact aa) ?_ ?_)))
 ·rintro h2 E W f2 ⟨x, K, J, N, c0, ⟨R, eN⟩, b, U, H, u, I, P, D, a⟩
  obtain ⟨c, h8, g8, g7, b7⟩ := kq f2
  rw [g8] at a
  refine bg (VQ (lK (i := (h2 : Int)) (x0 := c) jt.out aD aB P R c1 (aH _) g7) (fun k7 ⟨_, ⟨l0, rfl, Y⟩, f3⟩ => V (jw rfl (jR b.has f3 aG aB)) (VE (kf b aM (fun i6 k4 b => ?_)))))
  obtain ⟨y, z, rfl⟩ := Y.form
  let j4 : Value := (.slice y c.Kids.length z)
  let b8 := (C1 c.Op c.K c.jq.js c.jq.jy y c.Kids.length z)
  refine VO (jL (.agg b8.toArray) (b8.toArray) b rfl rfl aB oc nb rfl (fun i7 b => ln (bg (VA b Mh b8 aG aB (bS a fun k8 f4 a => VE (Eg b call433 (jS.li (zb c j4 2 _ _ (Y.mono jB.mono b.jD) f4)) (fun i8 b => Wa (ln (CI a rfl (fun e5 a => ?_) (fun e5 a => ?_))))))))))
  ·refine jI (Wh H (Wi rfl (Wa (jW (ko (ko (jF ?_)))))))
   replace b := b.ju (Db St)
   exact ⟨R, (IntKind.i64.wrap (x - 1)), K, J, N, _, ⟨rfl, eN⟩, (b.ju St), U, rfl, u, I, P, D, (by rw [b7]; exact a)⟩
  refine sg (VA b Mh b8 aG aB (bS a fun k9 f5 a => VE (Eg b call433 (jS.li (zb c j4 3 _ _ (Y.mono jB.mono b.jD) f5)) (fun i9 b => V (nH rfl) (Wa (ln (CI a rfl (fun e6 a => ?_) (fun e6 a => ?_))))))))
  ·refine jI (Wh I (VA b Mh b8 aG aB (VE (jX (cs := b8.toArray) b (lJ rfl) (lW aD aB aM) (fun j0 k5 b => ?_)))))
   replace b := b.perm (Nr (Qb (Qb (Qb (Qb Qz)))) Nz)
   refine bS a fun h3 e7 a => VE (oU (B := N) jB b dc aD lh.1 lh.2.1 rfl lh.2.2.1 lh.2.2.2 rfl rfl D (xd.lit jB (l := [c]) (.cons (ys := C1 c.Op c.K c.jq.js c.jq.jy y c.Kids.length z) (jt.mk ⟨j4, rfl, Y⟩) .nil) rfl nb (b.at_ (Ma Mh))) e7 (fun j3 h4 g9 b e4 => Wa (jW (ko (ko (jF ?_))))))
   replace b := b.ju (Kr (Db (Db St)))
   exact ⟨R, x, h4, h3, g9, _, ⟨rfl, eN⟩, (b.ju (Sb (Pr Pz) (Sb (Pr Pz) St))), U, H, u, rfl, P, e4, (by rw [b7]; exact a)⟩
  refine kP (ko (ko (jF ?_)))
  replace b := b.ju (Db St)
  exact ⟨R, x, K, J, N, _, ⟨rfl, eN⟩, (b.ju St), U, H, u, I, P, D, (by rw [b7]; exact a)⟩
 rintro E W ⟨x, K, J, N, c0, ⟨R, eN⟩, b, U, H, u, I, P, D, a⟩
 rw [aN] at a
 refine jF (jK (bg (Wh H (Wi rfl (Wa (ln (CI a rfl (fun e8 a => ?_) (fun e8 a => ?_))))))))
 ·refine sg (bS a fun g f6 a => ?_)
  let j1 : Value := (.string (((g).jq).jy))
  let h7 : Value := (.string (((g).jq).js))
  refine VE (eD b (bB _) call434 (fun d => lB.li (FX  _ _ d  f6)) ?_ (L0 := []))
  rintro _ l1 m2 i0 b c9 m ⟨l6, b2, rfl, c3⟩
  obtain rfl := b2.symm
  obtain ⟨Z, a6, rfl⟩ := c3.form
  let e3 : Value := (.slice Z ((g).Kids).length a6)
  let d9 : Value := (.agg #[(.int .i64 ((g).Op)), (.int .i64 ((g).K)), h7, j1, e3])
  refine VO (jL d9 (#[(.int .i64 ((g).Op)), (.int .i64 ((g).K)), h7, j1, e3]) b u rfl aB oc nb rfl (fun j5 b => ln ?_))
  replace b := b.ju (Kb (Kb (Dr St)))
  refine jU (me (kj ?_))
  obtain rfl := sj a
  exact mR (v := d9) rfl u (jz b.has Mh [(.int .i64 ((g).Op)), (.int .i64 ((g).K)), h7, j1, e3] rfl aG aB) ⟨_, _, _, rfl, (b.lM (Db (Kb Sn))), c9, m, (ST.kA b (ma.mem (Db (Kb Sn)))), e3, rfl, rfl, c3⟩
 refine sg (Wh H (Wh I (V (rL aD rfl D) (Wi rfl (Wa (ln (CI a rfl (fun e9 a => ?_) (fun e9 a => ?_))))))))
 ·refine sg (bS a fun j f7 a => ?_)
  let j2 : Value := (.string (((j).jq).jy))
  let h9 : Value := (.string (((j).jq).js))
  refine VE (eD b (bB _) call435 (fun d => lB.li (GN  _ _ d  f7)) ?_ (L0 := []))
  rintro _ l2 m3 i1 b d0 n ⟨l7, b3, rfl, c4⟩
  obtain rfl := b3.symm
  obtain ⟨a3, a7, rfl⟩ := c4.form
  let e2 : Value := (.slice a3 ((j).Kids).length a7)
  let d8 : Value := (.agg #[(.int .i64 ((j).Op)), (.int .i64 ((j).K)), h9, j2, e2])
  refine VO (jL d8 (#[(.int .i64 ((j).Op)), (.int .i64 ((j).K)), h9, j2, e2]) b u rfl aB oc nb rfl (fun j7 b => ln ?_))
  replace b := b.ju (Kb (Kb (Dr St)))
  refine jU (me (kj ?_))
  obtain rfl := sj a
  exact mR (v := d8) rfl u (jz b.has Mh [(.int .i64 ((j).Op)), (.int .i64 ((j).K)), h9, j2, e2] rfl aG aB) ⟨_, _, _, rfl, (b.lM (Db (Kb Sn))), d0, n, (ST.kA b (ma.mem (Db (Kb Sn)))), e2, rfl, rfl, c4⟩
 refine sg (Wh H (Wh I (V (rL aD rfl D) (Wi rfl (Wa (ln (CI a rfl (fun f0 a => ?_) (fun f0 a => ?_))))))))
 ·refine sg (Wh U (Wh I ?_))
  replace b := b.perm (Nr (Qb (Qb Qz)) Nz)
  obtain ⟨m4, b, d1, p, g1⟩ := ST.so jB b D
  refine bS a fun k f8 a => ?_
  let h5 : Value := (.string (((k.1).jq).jy))
  let g6 : Value := (.string (((k.1).jq).js))
  refine VE (eD b (Cb (Pb Pz) Cn) call407 (fun d => (tq G a0 2 K J _ _ d (g1.mono jB.mono (kd.refl _)) f8)) ?_)
  rintro _ l3 m5 i2 b d2 q ⟨l8, b4, rfl, c5⟩
  obtain rfl := b4.symm
  replace b := b.perm (Tb Tn)
  obtain ⟨a4, a8, rfl⟩ := c5.form
  let e0 : Value := (.slice a4 ((k.1).Kids).length a8)
  let b9 : Value := (.agg #[(.int .i64 ((k.1).Op)), (.int .i64 ((k.1).K)), g6, h5, e0])
  replace b := b.perm (Nb (Pb Pz) Nz)
  refine VO (jL b9 (#[(.int .i64 ((k.1).Op)), (.int .i64 ((k.1).K)), g6, h5, e0]) b u rfl aB oc nb rfl (fun j9 b => lt (me (kj ?_))))
  obtain rfl := sj a
  exact mR (v := b9) rfl u (jz b.has Mh [(.int .i64 ((k.1).Op)), (.int .i64 ((k.1).K)), g6, h5, e0] rfl aG aB) ⟨_, _, _, rfl, (b.lM (Db (Kb Sn))), (d1.trans d2), (p.trans q), (ST.kA b (ma.mem (Db (Kb Sn)))), e0, rfl, rfl, c5⟩
 refine sg (Wh H (Wi rfl (Wa (ln (CI a rfl (fun f1 a => ?_) (fun f1 a => ?_))))))
 ·refine sg (Wh U (Wh I ?_))
  replace b := b.perm (Nr (Qb (Qb Qz)) Nz)
  obtain ⟨m6, b, d3, s, g2⟩ := ST.so jB b D
  refine bS a fun t f9 a => ?_
  let h6 : Value := (.string (((t.1).jq).jy))
  let h1 : Value := (.string (((t.1).jq).js))
  refine VE (eD b (Cb (Pb Pz) Cn) call407 (fun d => (tq G a0 3 K J _ _ d (g2.mono jB.mono (kd.refl _)) f9)) ?_)
  rintro _ l4 m7 i3 b d4 A ⟨l9, b5, rfl, c6⟩
  obtain rfl := b5.symm
  replace b := b.perm (Tb Tn)
  obtain ⟨a5, a9, rfl⟩ := c6.form
  let e1 : Value := (.slice a5 ((t.1).Kids).length a9)
  let c8 : Value := (.agg #[(.int .i64 ((t.1).Op)), (.int .i64 ((t.1).K)), h1, h6, e1])
  replace b := b.perm (Nb (Pb Pz) Nz)
  refine VO (jL c8 (#[(.int .i64 ((t.1).Op)), (.int .i64 ((t.1).K)), h1, h6, e1]) b u rfl aB oc nb rfl (fun k1 b => lt (me (kj ?_))))
  obtain rfl := sj a
  exact mR (v := c8) rfl u (jz b.has Mh [(.int .i64 ((t.1).Op)), (.int .i64 ((t.1).K)), h1, h6, e1] rfl aG aB) ⟨_, _, _, rfl, (b.lM (Db (Kb Sn))), (d3.trans d4), (s.trans A), (ST.kA b (ma.mem (Db (Kb Sn)))), e1, rfl, rfl, c6⟩
 refine kP (ko (jF (sg (Wh H (Wh I ?_)))))
 replace b := b.perm (Nr (Qb (Qb Qz)) Nz)
 obtain ⟨m8, b, d5, F, g3⟩ := ST.so jB b D
 refine bS a fun T g0 a => ?_
 refine VE (eD b (bB _) call436 (fun d => (BW K J _ _ d (g3.mono jB.mono (kd.refl _)) g0)) ?_ (L0 := []))
 rintro _ l5 m9 i4 b d6 L ⟨m0, i5, b6, rfl, c7⟩
 obtain rfl := b6.symm
 replace b := b.perm (Tr Tn)
 obtain ⟨M, Q, rfl⟩ := c7.form
 let g5 := (Rq x M T.length Q)
 refine V (kZ (v := (.agg g5.toArray)) (El rfl rfl rfl) (kE aM aX (qm _ aX) kr)) ?_
 replace b := b.perm (Nb (Pr Pz) Nz)
 refine VO (jL (.agg g5.toArray) (g5.toArray) b u rfl aB oc nb rfl (fun k3 b => lt ?_))
 obtain rfl := sj a
 refine mR (v := (.agg g5.toArray)) rfl u (jz b.has Mh g5 rfl aG aB) ?_
 replace b := b.perm (Nr (Qb Qz) Nz)
 obtain ⟨n0, b, d7, O, g4⟩ := ST.so jB b c7
 exact ⟨_, _, _, rfl, (b.lM (Db (Kb Sn))), ((d5.trans d6).trans d7), ((F.trans L).trans O), (ST.kA b (ma.mem (Db (Kb Sn)))), (.slice M T.length Q), rfl, rfl, g4⟩
theorem yU (c9 : kC → Formula → Option (Formula × kC)) (e9 : ∀ (u : Nat) (a0 : kC) (a : Formula) (y : Value) (r : (Formula × kC)) (w : World) {μ0 : kl} (h0 : nB μ0 ((u, Ol (lD a0) 376) :: []) w) (x : Sl jt 5 μ0 y a.Kids), c9 a0 a = some r → lB false Tryz.prog 351 [(.pointer (some ⟨u, 0, none⟩)), (.agg #[(.int .i64 a.Op), (.int .i64 a.K), (.string a.jq.js), (.string a.jq.jy), y])] w μ0 ((u, Ol (lD a0) 376) :: []) (fun v L1 μ1 => ∃ L, v = (.agg #[(.int .i64 ((r.1).Op)), (.int .i64 ((r.1).K)), (.string (((r.1).jq).js)), (.string (((r.1).jq).jy)), L]) ∧ L1 = ((u, Ol (lD (r.2)) 376) :: []) ∧ Sl jt 5 μ1 L ((r.1).Kids))) (u : Nat) (a0 : kC) (a : Formula) (y : Value) (r : (Formula × kC)) (w : World) {μ0 : kl} (h0 : nB μ0 ((u, Ol (lD a0) 376) :: []) w) (x : Sl jt 5 μ0 y a.Kids) (hm : ry c9 a0 a = some r) :
  lB false Tryz.prog 351 [(.pointer (some ⟨u, 0, none⟩)), (.agg #[(.int .i64 a.Op), (.int .i64 a.K), (.string a.jq.js), (.string a.jq.jy), y])] w μ0 ((u, Ol (lD a0) 376) :: []) (fun v L1 μ1 => ∃ L, v = (.agg #[(.int .i64 ((r.1).Op)), (.int .i64 ((r.1).K)), (.string (((r.1).jq).js)), (.string (((r.1).jq).jy)), L]) ∧ L1 = ((u, Ol (lD (r.2)) 376) :: []) ∧ Sl jt 5 μ1 L ((r.1).Kids)) := by
 let d0 := ((u, Ol (lD a0) 376) :: [])
 refine tE h0 39 func351 rfl (fun b => sg ?_)
 obtain ⟨A1, c2, rfl⟩ := x.form
 let A := (C1 a.Op a.K a.jq.js a.jq.jy A1 a.Kids.length c2)
 refine VE (km b rfl (fun W4 b3 b => VE (kf b aM (fun W6 b5 b => lS (Wf mN (VB b (Mt Mh) rfl rfl cC (Wi rfl (ln (CI hm rfl (fun f8 hm => ?_) (fun f8 hm => ?_))))))))))
 ·refine sg (VA b (Mt Mh) A aG aB (VO (jL (.agg A.toArray) (A.toArray) b rfl rfl aB oc nb rfl (fun W8 b => ln ?_))))
  replace b := b.ju (Kb (Db St))
  refine jU (kj ?_)
  obtain rfl := sj hm
  exact mR (v := (.agg A.toArray)) rfl rfl (jz b.has Mh A rfl aG aB) ⟨_, _, _, rfl, (b.lM (Db (Kb Sn))), (kd.refl _), Lo.refl, (ST.kA b (ma.mem (Db (Kb Sn)))), (.slice A1 a.Kids.length c2), rfl, rfl, x⟩
 refine kg (Wa (lS (Wf mO (VB b (Mt Mh) rfl rfl dB (V (kK aD rfl x) (Wm (jW ?_)))))))
 refine jF (kB (fun i E W => ∃ I H T D J b7, (E 15 = .int .i64 (i : Nat) ∧ E 14 = .int .i64 (a.Kids.length : Nat)) ∧ kd μ0 J ∧ Lo (keys d0) w μ0 J ∧ ST false (keys d0) w W J ((u, Ol (lD D) 376) :: ((b5, Ol C4 113) :: ((b3, Ol A 113) :: (T ++ b7)))) ∧ E 0 = (.pointer (some ⟨u, 0, none⟩)) ∧ E 3 = (.pointer (some ⟨b3, 0, none⟩)) ∧ E 4 = (.pointer (some ⟨b5, 0, none⟩)) ∧ E 5 = I ∧ E 13 = (.slice A1 a.Kids.length c2) ∧ kD 113 jt 5 J I H T ∧ nC c9 a (a.Kids.drop i) H D = some r) a.Kids.length x.len ⟨(.slice none 0 0), ([]), [], a0, μ0, _, ⟨rfl, rfl⟩, (kd.refl _), Lo.refl, (b.ju (Sb (Pb (Pb Pz)) St)), rfl, rfl, rfl, rfl, rfl, (kD.nil _ _ _ _), hm⟩ dc dc dc (fun _ _ _ h => by obtain ⟨_, _, _, _, _, _, aa, _⟩ := h; exact aa) ?_ ?_)
 ·rintro f0 E W d7 ⟨I, H, T, D, J, b7, ⟨eI, eN⟩, z, d, b, a2, a3, G, P, b9, K, c⟩
  obtain ⟨t, f9, e5, e4, e6⟩ := kq d7
  rw [e5] at c
  refine bg (VQ (lK (i := (f0 : Int)) (x0 := t) jt.out aD aB b9 eI (x.mono jB.mono z) (aH _) e4) (fun h7 ⟨_, ⟨h8, rfl, c0⟩, d8⟩ => V (jw rfl (jR b.has d8 aG aB)) (VE (kf b aM (fun g3 h5 b => ?_)))))
  obtain ⟨a7, a9, rfl⟩ := c0.form
  let R := (C1 t.Op t.K t.jq.js t.jq.jy a7 t.Kids.length a9)
  refine VO (jL (.agg R.toArray) (R.toArray) b rfl rfl aB oc nb rfl (fun g4 b => ln (jI (Wh P (Wh a2 (VA b Mh R aG aB (bS c fun g d9 c => ?_)))))))
  refine VE (eD b (Cb (Pb Pz) Cn) call351 (fun F => (e9 u D t (.slice a7 t.Kids.length a9) _ _ F (c0.mono jB.mono (kd.refl _)) d9)) ?_)
  rintro _ h9 f4 g0 b b6 m ⟨i2, b1, rfl, c1⟩
  obtain rfl := b1.symm
  replace b := b.perm (Tb Tn)
  obtain ⟨M, U, rfl⟩ := c1.form
  let d1 : Value := (.slice M ((g.1).Kids).length U)
  refine VE (jX (cs := #[(.int .i64 ((g.1).Op)), (.int .i64 ((g.1).K)), (.string (((g.1).jq).js)), (.string (((g.1).jq).jy)), d1]) b (lJ rfl) (lW aD aB aM) (fun g8 h6 b => ?_))
  replace b := b.perm (Nr (Qb (Qb (Qb (Qb (Qb Qz))))) Nz)
  refine bS c fun f1 d5 c => VE (oU (B := T) jB b dc aD lh.1 lh.2.1 rfl lh.2.2.1 lh.2.2.2 rfl rfl (K.mono jB b6) (xd.lit jB (l := [g.1]) (.cons (ys := [(.int .i64 ((g.1).Op)), (.int .i64 ((g.1).K)), (.string (((g.1).jq).js)), (.string (((g.1).jq).jy)), d1]) (jt.mk ⟨d1, rfl, c1⟩) .nil) rfl nb (b.at_ (Ma Mh))) d5 (fun g9 f2 e8 b d4 => Wa (jW (ko (jF ?_)))))
  replace b := b.ju (Kr (Db (Kb (Db St))))
  exact ⟨eI, f2, f1, e8, g.2, f4, _, ⟨rfl, eN⟩, (z.trans b6), (d.trans m), (b.ju (Sb (Pr Pz) (Sb (Pr Pz) (Sb (Pr Pz) St)))), a2, a3, G, rfl, b9, d4, (by rw [e6]; exact c)⟩
 rintro E W ⟨I, H, T, D, J, b7, ⟨eI, eN⟩, z, d, b, a2, a3, G, P, b9, K, c⟩
 rw [aN] at c
 refine jF (jK (sg (V (jC mN a3) (VB b (Mt (Mt Mh)) rfl rfl cC (Wi rfl (ln (CI c rfl (fun d6 c => ?_) (fun d6 c => ?_))))))))
 ·refine sg (Wh a2 (V (jC pA a3) (VB b (Mt (Mt Mh)) rfl rfl cC (Wh P ?_))))
  replace b := b.perm (Nr (Qb (Qb (Qb Qz))) Nz)
  obtain ⟨i5, b, c5, n, e2⟩ := ST.so jB b K
  refine bS c fun j e0 c => ?_
  let f3 : Value := (.string (((j.1).jq).jy))
  let d3 : Value := (.string (((j.1).jq).js))
  refine VE (eD b (Cb Pz Cn) call406 (fun F => (Ae u D a.K I H _ _ F (e2.mono jB.mono (kd.refl _)) e0)) ?_)
  rintro _ i0 i6 g1 b c6 p ⟨i3, b2, rfl, c3⟩
  obtain rfl := b2.symm
  replace b := b.perm (Tb Tn)
  obtain ⟨N, Y, rfl⟩ := c3.form
  let b8 : Value := (.slice N ((j.1).Kids).length Y)
  let a5 : Value := (.agg #[(.int .i64 ((j.1).Op)), (.int .i64 ((j.1).K)), d3, f3, b8])
  replace b := b.perm (Nb (Pb Pz) Nz)
  refine VO (jL a5 (#[(.int .i64 ((j.1).Op)), (.int .i64 ((j.1).K)), d3, f3, b8]) b G rfl aB oc nb rfl (fun h2 b => ln ?_))
  replace b := b.ju (Kb (Kb (Db St)))
  refine jU (kj ?_)
  obtain rfl := sj c
  exact mR (v := a5) rfl G (jz b.has Mh [(.int .i64 ((j.1).Op)), (.int .i64 ((j.1).K)), d3, f3, b8] rfl aG aB) ⟨_, _, _, rfl, (b.lM (Db (Kb Sn))), ((z.trans c5).trans c6), ((d.trans n).trans p), (ST.kA b (ma.mem (Db (Kb Sn)))), b8, rfl, rfl, c3⟩
 refine kg (Wh a2 (V (jC mN a3) (VB b (Mt (Mt Mh)) rfl rfl cC (Wh P ?_))))
 replace b := b.perm (Nr (Qb (Qb (Qb Qz))) Nz)
 obtain ⟨i7, b, c7, q, e3⟩ := ST.so jB b K
 refine bS c fun k e1 c => ?_
 let f5 : Value := (.int .i64 ((k.1).Op))
 let e7 : Value := (.string (((k.1).jq).jy))
 let d2 : Value := (.string (((k.1).jq).js))
 refine VE (eD b (Cb Pz Cn) call407 (fun F => (tq u D a.Op I H _ _ F (e3.mono jB.mono (kd.refl _)) e1)) ?_)
 rintro _ i1 i8 g2 b c8 s ⟨i4, b4, rfl, c4⟩
 obtain rfl := b4.symm
 replace b := b.perm (Tb Tn)
 obtain ⟨Q, Z, rfl⟩ := c4.form
 let O : Value := (.slice Q ((k.1).Kids).length Z)
 let a4 : Value := (.agg #[f5, (.int .i64 ((k.1).K)), d2, e7, O])
 replace b := b.perm (Nb (Pb Pz) Nz)
 refine VO (jL a4 (#[f5, (.int .i64 ((k.1).K)), d2, e7, O]) b G rfl aB oc nb rfl (fun h4 b => ln ?_))
 replace b := b.ju (Kb (Kb (Db St)))
 refine jU ?_
 obtain rfl := sj c
 exact mR (v := a4) rfl G (jz b.has Mh [f5, (.int .i64 ((k.1).K)), d2, e7, O] rfl aG aB) ⟨_, _, _, rfl, (b.lM (Db (Kb Sn))), ((z.trans c7).trans c8), ((d.trans q).trans s), (ST.kA b (ma.mem (Db (Kb Sn)))), O, rfl, rfl, c4⟩
theorem xb : ∀ (n : Nat) (c : Nat) (j : kC) (g : Formula) (a : Value) (r : (Formula × kC)) (w : World) {k : kl} (y : nB k ((c, Ol (lD j) 376) :: []) w) (i : Sl jt 5 k a g.Kids) (_ : nc n j g = some r),
  lB false Tryz.prog 351 [(.pointer (some ⟨c, 0, none⟩)), (.agg #[(.int .i64 g.Op), (.int .i64 g.K), (.string g.jq.js), (.string g.jq.jy), a])] w k ((c, Ol (lD j) 376) :: []) (fun v u x => ∃ t, v = (.agg #[(.int .i64 ((r.1).Op)), (.int .i64 ((r.1).K)), (.string (((r.1).jq).js)), (.string (((r.1).jq).jy)), t]) ∧ u = ((c, Ol (lD (r.2)) 376) :: []) ∧ Sl jt 5 x t ((r.1).Kids))
 | 0 => by intros; rename_i h; simp only [nc] at h; cases h
 | n + 1 => yU (nc n) (xb n)
theorem E5 (c : Formula) (u : Value) (r : (Formula × Int)) (w : World) {Z : kl} (A : nB Z [] w) (k : Sl jt 5 Z u c.Kids) (hm : xr c = some r) :
  lB false Tryz.prog 306 [(.agg #[(.int .i64 c.Op), (.int .i64 c.K), (.string c.jq.js), (.string c.jq.jy), u])] w Z [] (fun v L1 μ1 => ∃ q, v = (.tuple #[(.agg #[(.int .i64 ((r.1).Op)), (.int .i64 ((r.1).K)), (.string (((r.1).jq).js)), (.string (((r.1).jq).jy)), q]), (.int .i64 (r.2))]) ∧ L1 = [] ∧ Sl jt 5 μ1 q ((r.1).Kids)) := by
 refine tE A 27 func306 rfl (fun b => sg ?_)
 obtain ⟨H, I, rfl⟩ := k.form
 let n := (C1 c.Op c.K c.jq.js c.jq.jy H c.Kids.length I)
 refine VE (km b rfl (fun W4 L b => VE (kf b aM (fun W6 p b => Wa (lS (VA b (Mt Mh) n aG aB (bS hm fun r7 a5 hm => VE (Eg b call107 (vY c (.slice H c.Kids.length I) _ _ (k.mono jB.mono b.jD) a5) (fun W9 b => V (nH rfl) (ln (CI hm rfl (fun Q hm => ?_) (fun Q hm => ?_))))))))))))
 ·refine sg (V (kZ (v := (.agg C4.toArray)) pM (kE aM aX (qm _ aX) kr)) (VO (jL (.agg C4.toArray) (C4.toArray) b rfl rfl aB oc nb rfl (fun P b => Wa (ln ?_)))))
  replace b := b.ju (Kb (Db St))
  refine jU (kj ?_)
  obtain rfl := sj hm
  exact oD (v0 := (.agg C4.toArray)) (v1 := (.int .i64 11)) rfl rfl (jz b.has Mh C4 rfl aG aB) rfl ⟨_, _, _, rfl, (b.lM Sn), (kd.refl _), Lo.refl, (ST.kA b (ma.mem Sn)), (.slice none 0 0), rfl, rfl, (Sl.nil _ _ _)⟩
 refine kg (V (kZ (v := (.agg (lD K6).toArray)) pM (kE zeroValue376 iO (Q8 _ iO) kr)) (VE (km b rfl (fun R s b => Wa (lr (Wm (VA b (Mt (Mt Mh)) n aG aB (bS hm fun a U hm => ?_))))))))
 let m : Value := (.int .i64 ((a.1).K))
 let l : Value := (.int .i64 ((a.1).Op))
 let h : Value := (.string (((a.1).jq).jy))
 let a2 : Value := (.string (((a.1).jq).js))
 refine VE (eD b (Cb Pz Cn) call351 (fun F => ((xb jY) s K6 c (.slice H c.Kids.length I) _ _ F (k.mono jB.mono (kd.refl _)) U)) ?_)
 rintro _ c7 a9 O b D d ⟨c9, y, rfl, z⟩
 obtain rfl := y.symm
 replace b := b.perm (Tb Tn)
 refine VE (kf b aM (fun c0 K b => ?_))
 obtain ⟨i, j, rfl⟩ := z.form
 let a0 : Value := (.slice i ((a.1).Kids).length j)
 let N : Value := (.agg #[l, m, a2, h, a0])
 refine VO (jL N (#[l, m, a2, h, a0]) b rfl rfl aB oc nb rfl (fun c1 b => ln ?_))
 replace b := b.ju (Kb (Kb (Kb (Db St))))
 refine jK (sg (Wm (Wn (Wf KA (VB b (Mt Mh) rfl rfl isAgg57 (Wi rfl (Wm (LJ hm (fun M E W => ∃ J, ST false (keys []) w W a9 ((K, Ob #[l, m, a2, h, a0] 113) :: ((p, Ol C4 113) :: J)) ∧ E 2 = (.pointer (some ⟨p, 0, none⟩)) ∧ E 5 = (.pointer (some ⟨K, 0, none⟩)) ∧ E 24 = (.bool M)) 4 ?_ (fun M t G => ?_)))))))))
 ·rintro c8 E W ⟨J, b, B, a3, a4⟩ x
  refine ln (CI x a4 (fun T x => ?_) (fun T x => ?_))
  ·refine sg (V (kZ (v := (.agg C4.toArray)) pM (kE aM aX (qm _ aX) kr)) ?_)
   replace b := b.perm (Nb (Pb Pz) Nz)
   refine VO (jL (.agg C4.toArray) (C4.toArray) b B rfl aB oc nb rfl (fun c3 b => Wa (ln ?_)))
   replace b := b.ju (Kb (Db St))
   refine jU (kj ?_)
   obtain rfl := sj x
   exact oD (v0 := (.agg C4.toArray)) (v1 := (.int .i64 12)) rfl B (jz b.has Mh C4 rfl aG aB) rfl ⟨_, _, _, rfl, (b.lM Sn), D, d, (ST.kA b (ma.mem Sn)), (.slice none 0 0), rfl, rfl, (Sl.nil _ _ _)⟩
  refine kg (V (jw a3 (jz b.has Mh [l, m, a2, h, a0] rfl aG aB)) ?_)
  replace b := b.perm (Nb (Pb Pz) Nz)
  refine VO (jL N (#[l, m, a2, h, a0]) b B rfl aB oc nb rfl (fun c4 b => Wa (ln ?_)))
  replace b := b.ju (Kb (Db St))
  refine jU ?_
  obtain rfl := sj x
  exact oD (v0 := N) (v1 := (.int .i64 0)) rfl B (jz b.has Mh [l, m, a2, h, a0] rfl aG aB) rfl ⟨_, _, _, rfl, (b.lM Sn), D, d, (ST.kA b (ma.mem Sn)), a0, rfl, rfl, z⟩
 refine bC t (fun g t => ?_) (fun g t => ?_)
 ·refine un g (un g (un g (V (jM (cB g) rfl) ?_)))
  obtain rfl := sj t
  exact G _ _ ⟨_, (b.ju (Kb (Db St))), rfl, rfl, rfl⟩
 refine ug g (jw rfl (jz b.has Mh [l, m, a2, h, a0] rfl aG aB)) (bS t fun c6 Y t => qI g (Eg b call107 (vY a.1 a0 _ _ (z.mono jB.mono b.jD) Y) (fun c5 b => ug g (nH rfl) (V (jN (cB g) rfl) ?_))))
 obtain rfl := sj t
 exact G _ _ ⟨_, (b.ju (Kb (Db St))), rfl, rfl, rfl⟩
theorem HV (a : Formula) (k : Value) (c : Formula) (t : Value) (r : (Formula × Int)) (w : World) {N : kl} (q : nB N [] w) (i : Sl jt 5 N k a.Kids) (j : Sl jt 5 N t c.Kids) (hm : xH a c = some r) :
  lB false Tryz.prog 307 [(.agg #[(.int .i64 a.Op), (.int .i64 a.K), (.string a.jq.js), (.string a.jq.jy), k]), (.agg #[(.int .i64 c.Op), (.int .i64 c.K), (.string c.jq.js), (.string c.jq.jy), t])] w N [] (fun v Z μ1 => ∃ Y, v = (.tuple #[(.agg #[(.int .i64 ((r.1).Op)), (.int .i64 ((r.1).K)), (.string (((r.1).jq).js)), (.string (((r.1).jq).jy)), Y]), (.int .i64 (r.2))]) ∧ Z = [] ∧ Sl jt 5 μ1 Y ((r.1).Kids)) := by
 refine tE q 13 func307 rfl (fun b => sg ?_)
 obtain ⟨u, z, rfl⟩ := i.form
 let a3 : Value := (.slice u a.Kids.length z)
 refine VE (km b rfl (fun W4 P b => ?_))
 obtain ⟨y, G, rfl⟩ := j.form
 let n : Value := (.slice y c.Kids.length G)
 refine VE (km b rfl (fun W8 R b => VE (kf b aM (fun a5 W b => Wa (lr (VA b (Mt (Mt Mh)) (C1 a.Op a.K a.jq.js a.jq.jy u a.Kids.length z) aG aB (VA b (Mt Mh) (C1 c.Op c.K c.jq.js c.jq.jy y c.Kids.length G) aG aB (VE (jX (cs := #[(.int .i64 a.Op), (.int .i64 a.K), (.string a.jq.js), (.string a.jq.jy), a3, (.int .i64 c.Op), (.int .i64 c.K), (.string c.jq.js), (.string c.jq.jy), n]) b (nY rfl rfl) (lW aD aB aM) (fun A I b => V (kZ (v := (.agg #[(.int .i64 2), (.int .i64 0), (.string zS), (.string zS), (.slice (some ⟨I, 0, none⟩) 2 2)])) (nY rfl rfl) (kE aM aX (qm _ aX) kr)) ?_))))))))))
 obtain ⟨L, b, K, d, U⟩ := ST.so (B := [(I, Ob #[(.int .i64 a.Op), (.int .i64 a.K), (.string a.jq.js), (.string a.jq.jy), a3, (.int .i64 c.Op), (.int .i64 c.K), (.string c.jq.js), (.string c.jq.jy), n] 113)]) jB b (kD.lit jB (l := [a, c]) (.cons (ys := C1 a.Op a.K a.jq.js a.jq.jy u a.Kids.length z) (jt.mk ⟨a3, rfl, i⟩) (.cons (ys := C1 c.Op c.K c.jq.js c.jq.jy y c.Kids.length G) (jt.mk ⟨n, rfl, j⟩) .nil)) rfl nb rfl)
 refine bS hm fun g T hm => ?_
 let p : Value := (.int .i64 ((g.1).Op))
 let a2 : Value := (.string (((g.1).jq).jy))
 let m : Value := (.string (((g.1).jq).js))
 refine VE (eD b (bB _) call306 (fun s => (E5 (⟨2, 0, K0, [a, c]⟩ : Formula) (.slice (some ⟨I, 0, none⟩) 2 2) _ _ s (U.mono jB.mono (kd.refl _)) T)) ?_ (L0 := []))
 rintro _ a9 O a4 b M h ⟨F, H, rfl, J⟩
 obtain rfl := H.symm
 refine Wx rfl (Wx rfl ?_)
 obtain ⟨x, D, rfl⟩ := J.form
 let a0 : Value := (.slice x ((g.1).Kids).length D)
 let Q : Value := (.agg #[p, (.int .i64 ((g.1).K)), m, a2, a0])
 refine VO (jL Q (#[p, (.int .i64 ((g.1).K)), m, a2, a0]) b rfl rfl aB oc nb rfl (fun E b => Wa (ln ?_)))
 replace b := b.ju (Kb (Db (Db St)))
 refine jU ?_
 obtain rfl := sj hm
 exact oD (v0 := Q) (v1 := (.int .i64 g.2)) rfl rfl (jz b.has Mh [p, (.int .i64 ((g.1).K)), m, a2, a0] rfl aG aB) rfl ⟨_, _, _, rfl, (b.lM Sn), (K.trans M), (d.trans h), (ST.kA b (ma.mem Sn)), a0, rfl, rfl, J⟩
theorem JH (d1 : Value) (a0 : List Formula) (r : (Formula × Int)) (w : World) {μ0 : kl} (h0 : nB μ0 [] w) (c7 : Sl jt 5 μ0 d1 a0) (hm : vL a0 = some r) :
  lB false Tryz.prog 213 [d1] w μ0 [] (fun v L1 μ1 => ∃ y1, v = (.tuple #[(.agg #[(.int .i64 ((r.1).Op)), (.int .i64 ((r.1).K)), (.string (((r.1).jq).js)), (.string (((r.1).jq).jy)), y1]), (.int .i64 (r.2))]) ∧ L1 = [] ∧ Sl jt 5 μ1 y1 ((r.1).Kids)) := by
 let e5 := (a0.drop (Int.toNat 1))
 refine tE h0 36 func213 rfl (fun b => sg (VE (kf b aM (fun W2 A b => Wa (lr (Wm (bS hm fun x6 e3 hm => VQ (lK (i := 0) (x0 := x6) jt.out aD aB rfl rfl c7 (kk e3) (ki e3)) (fun p3 ⟨_, ⟨v8, rfl, f2⟩, f1⟩ => V (jw rfl (jR b.has f1 aG aB)) (bS hm fun j e6 hm => ?_)))))))))
 refine VE (eD b (bB _) call306 (fun hh => (E5 x6 v8 _ _ hh (f2.mono jB.mono (kd.refl _)) e6)) ?_ (L0 := []))
 rintro _ i4 a9 i0 b a4 m ⟨i5, b6, rfl, d0⟩
 obtain rfl := b6.symm
 refine Wm (Wx rfl (Wx rfl (VE (kf b aM (fun i2 F b => ?_)))))
 obtain ⟨c2, c5, rfl⟩ := d0.form
 let d2 : Value := (.slice c2 ((j.1).Kids).length c5)
 refine VO (jL (.agg #[(.int .i64 ((j.1).Op)), (.int .i64 ((j.1).K)), (.string (((j.1).jq).js)), (.string (((j.1).jq).jy)), d2]) (#[(.int .i64 ((j.1).Op)), (.int .i64 ((j.1).K)), (.string (((j.1).jq).js)), (.string (((j.1).jq).jy)), d2]) b rfl rfl aB oc nb rfl (fun i3 b => Wa (lS (Wm (bS hm fun _ c8 hm => VQ (BL (i := 1) aD aB rfl rfl (c7.mono jB.mono a4) (vd c8) (vc c8)) (fun f3 R => V (kK aD rfl R.1) (Wm (ln (CJ hm (fun u E W => ∃ q U c3, kd a9 U ∧ Lo (keys []) w a9 U ∧ ST false (keys []) w W U ((F, Ob #[(.int .i64 u.2.1), (.int .i64 u.2.2.1), (.string u.2.2.2.1.js), (.string u.2.2.2.1.jy), q] 113) :: ((A, Ol C4 113) :: c3)) ∧ E 2 = (.pointer (some ⟨A, 0, none⟩)) ∧ E 4 = (.pointer (some ⟨F, 0, none⟩)) ∧ E 5 = (.int .i64 u.1) ∧ Sl jt 5 U q u.2.2.2.2) (fun u d7 => ?_) ?_)))))))))
 ·refine kB (fun i E W => ∃ s G H y x N z O, (E 18 = .int .i64 (i : Nat) ∧ E 17 = .int .i64 (e5.length : Nat)) ∧ kd a9 z ∧ Lo (keys []) w a9 z ∧ ST false (keys []) w W z ((F, Ob #[(.int .i64 G), (.int .i64 H), (.string y.js), (.string y.jy), x] 113) :: ((A, Ol C4 113) :: O)) ∧ E 2 = (.pointer (some ⟨A, 0, none⟩)) ∧ E 4 = (.pointer (some ⟨F, 0, none⟩)) ∧ E 5 = (.int .i64 s) ∧ E 16 = f3 ∧ Sl jt 5 z x N ∧ tj (e5.drop i) s G H y N = some u) e5.length R.1.len ⟨j.2, ((j.1).Op), ((j.1).K), ((j.1).jq), d2, ((j.1).Kids), a9, _, ⟨rfl, rfl⟩, (kd.refl _), Lo.refl, (b.ju St), rfl, rfl, rfl, rfl, d0, d7⟩ dc dc dc (fun _ _ _ h => by obtain ⟨_, _, _, _, _, _, _, _, aa, _⟩ := h; exact aa) ?_ ?_
  ·rintro e7 E W d6 ⟨s, G, H, y, x, N, z, O, ⟨eI, eN⟩, t, d, b, a2, D, a3, P, I, c⟩
   obtain ⟨a, f6, e1, e0, e2⟩ := kq d6
   rw [e1] at c
   refine bg (VQ (lK (i := (e7 : Int)) (x0 := a) jt.out aD aB P eI (R.1.mono jB.mono t) (aH _) e0) (fun h1 ⟨_, ⟨h4, rfl, c0⟩, d8⟩ => V (jw rfl (jR b.has d8 aG aB)) (VE (kf b aM (fun g2 g8 b => ?_)))))
   obtain ⟨Y, Z, rfl⟩ := c0.form
   let b8 := (C1 a.Op a.K a.jq.js a.jq.jy Y a.Kids.length Z)
   refine VO (jL (.agg b8.toArray) (b8.toArray) b rfl rfl aB oc nb rfl (fun g3 b => lS (Wh a3 (Wi rfl (ln (CI c rfl (fun d5 c => ?_) (fun d5 c => ?_)))))))
   ·refine mZ (mS (PO (by simp) (mS (qx (jF ?_)))))
    obtain rfl := sj c
    exact ⟨x, z, _, t, d, (b.ju (Db St)), a2, D, a3, I⟩
   refine kn (jI (V (jw D (jz b.has (Mt Mh) [(.int .i64 G), (.int .i64 H), (.string y.js), (.string y.jy), x] rfl aG aB)) (VA b Mh b8 aG aB (bS c fun g d9 c => ?_))))
   refine VE (eD b (bB _) call307 (fun hh => (HV (⟨G, H, y, N⟩ : Formula) x a (.slice Y a.Kids.length Z) _ _ hh (I.mono jB.mono (kd.refl _)) (c0.mono jB.mono (kd.refl _)) d9)) ?_ (L0 := []))
   rintro _ h5 f0 f9 b c9 n ⟨h8, a5, rfl, c1⟩
   obtain rfl := a5.symm
   refine Wm (Wx rfl (Wx rfl ?_))
   obtain ⟨b0, b3, rfl⟩ := c1.form
   let d3 : Value := (.slice b0 ((g.1).Kids).length b3)
   replace b := b.perm (Nb (Pb Pz) Nz)
   refine VO (jL (.agg #[(.int .i64 ((g.1).Op)), (.int .i64 ((g.1).K)), (.string (((g.1).jq).js)), (.string (((g.1).jq).jy)), d3]) (#[(.int .i64 ((g.1).Op)), (.int .i64 ((g.1).K)), (.string (((g.1).jq).js)), (.string (((g.1).jq).jy)), d3]) b D rfl aB oc nb rfl (fun g7 b => Wa (jW (ko (jF ?_)))))
   replace b := b.ju (Kb (Db St))
   exact ⟨eI, g.2, ((g.1).Op), ((g.1).K), ((g.1).jq), d3, ((g.1).Kids), f0, _, ⟨rfl, eN⟩, (t.trans c9), (d.trans n), (b.ju St), a2, D, rfl, P, c1, (by rw [e2]; exact c)⟩
  rintro E W ⟨s, G, H, y, x, N, z, O, ⟨eI, eN⟩, t, d, b, a2, D, a3, P, I, c⟩
  rw [aN] at c
  refine jF ?_
  obtain rfl := sj c
  exact ⟨x, z, _, t, d, (b.ju St), a2, D, a3, I⟩
 rintro ⟨e8, Q, T, k, M⟩ E W ⟨q, U, c3, a8, l, b, p, e4, c6, b9⟩ B
 refine jK (sg (Wh c6 (Wi rfl (ln (CI B rfl (fun d4 B => ?_) (fun d4 B => ?_))))))
 ·refine sg (V (kZ (v := (.agg C4.toArray)) pM (kE aM aX (qm _ aX) kr)) (Wh c6 ?_))
  replace b := b.perm (Nb (Pb Pz) Nz)
  refine VO (jL (.agg C4.toArray) (C4.toArray) b p rfl aB oc nb rfl (fun g0 b => Wa (ln ?_)))
  replace b := b.ju (Kb (Db St))
  refine jU (kj ?_)
  obtain rfl := sj B
  exact oD (v0 := (.agg C4.toArray)) (v1 := (.int .i64 e8)) rfl p (jz b.has Mh C4 rfl aG aB) rfl ⟨_, _, _, rfl, (b.lM Sn), (a4.trans a8), (m.trans l), (ST.kA b (ma.mem Sn)), (.slice none 0 0), rfl, rfl, (Sl.nil _ _ _)⟩
 refine kg (V (jw e4 (jz b.has Mh [(.int .i64 Q), (.int .i64 T), (.string k.js), (.string k.jy), q] rfl aG aB)) ?_)
 obtain ⟨J, K, rfl⟩ := b9.form
 let L := (C1 Q T k.js k.jy J M.length K)
 replace b := b.perm (Nb (Pb Pz) Nz)
 refine VO (jL (.agg L.toArray) (L.toArray) b p rfl aB oc nb rfl (fun g1 b => Wa (ln ?_)))
 replace b := b.ju (Kb (Db St))
 refine jU ?_
 obtain rfl := sj B
 exact oD (v0 := (.agg L.toArray)) (v1 := (.int .i64 0)) rfl p (jz b.has Mh L rfl aG aB) rfl ⟨_, _, _, rfl, (b.lM Sn), (a4.trans a8), (m.trans l), (ST.kA b (ma.mem Sn)), (.slice J M.length K), rfl, rfl, b9⟩
theorem KG (k : kI) (G H : Value) (p : jr) (r : (Formula × Int)) (w : World) {μ0 : kl} (h0 : nB μ0 [] w) (t : Sl kc 15 μ0 G k.jH) (y : Sl kX 8 μ0 H k.ke) (hm : Ah k p = some r) :
  lB false Tryz.prog 106 [(.agg #[(.string k.Name), G, H]), (.agg (jv p).toArray)] w μ0 [] (fun v L1 μ1 => ∃ y1, v = (.tuple #[(.agg #[(.int .i64 ((r.1).Op)), (.int .i64 ((r.1).K)), (.string (((r.1).jq).js)), (.string (((r.1).jq).jy)), y1]), (.int .i64 (r.2))]) ∧ L1 = [] ∧ Sl jt 5 μ1 y1 ((r.1).Kids)) := by
 refine tE h0 41 func106 rfl (fun b => sg ?_)
 obtain ⟨A1, c2, rfl⟩ := t.form
 obtain ⟨A3, P, rfl⟩ := y.form
 let f5 := (C5 k.Name A1 k.jH.length c2 A3 k.ke.length P)
 refine VE (km b rfl (fun W6 b5 b => VE (km b rfl (fun W8 b7 b => VE (kf b aM (fun i4 b9 b => Wa (lr (VA b (Mt (Mt Mh)) f5 eB dS (VA b (Mt Mh) (jv p) bM aJ (bS hm fun a e7 hm => ?_))))))))))
 let b8 : Value := (.int .i64 (((a.1).jx).K))
 let q : Value := (.int .i64 (((a.1).jx).Op))
 let b1 := (((a.1).jx).jq)
 let s : Value := (.string (b1.jy))
 let d8 : Value := (.string (b1.js))
 let a0 := (((a.1).Signed).jr)
 refine VE (eD b (bB _) call212 (fun A => (Js k (.slice A1 k.jH.length c2) (.slice A3 k.ke.length P) p _ _ A (t.mono jZ.mono (kd.refl _)) (y.mono lT.mono (kd.refl _)) e7)) ?_ (L0 := []))
 rintro _ j4 j8 i2 b I d ⟨j6, j7, a5, rfl, e9, c5⟩
 obtain rfl := a5.symm
 refine Wm (Wx rfl (Wx rfl (VE (kf b eP (fun i6 j3 b => ?_)))))
 obtain ⟨d9, e1, rfl⟩ := e9.form
 let f8 : Value := (.slice d9 (((a.1).Signed).Tag).length e1)
 obtain ⟨z, D, rfl⟩ := c5.form
 let a2 : Value := (.slice z (((a.1).jx).Kids).length D)
 refine VO (jL (.agg #[(.int .i64 (a0.Kind)), (.string ((a0.Head).js)), (.string ((a0.Head).jy)), (.string (a0.ky)), (.string ((a0.B).js)), (.string ((a0.B).jy)), (.string ((a0.C).js)), (.string ((a0.C).jy)), (.string (a0.kF)), f8, q, b8, d8, s, a2]) (#[(.int .i64 (a0.Kind)), (.string ((a0.Head).js)), (.string ((a0.Head).jy)), (.string (a0.ky)), (.string ((a0.B).js)), (.string ((a0.B).jy)), (.string ((a0.C).js)), (.string ((a0.C).jy)), (.string (a0.kF)), f8, q, b8, d8, s, a2]) b rfl rfl cU oc nb rfl (fun i7 b => Wa (lS (Wm (V (nH rfl) (ln (CI hm rfl (fun e6 hm => ?_) (fun e6 hm => ?_))))))))
 ·refine sg (V (kZ (v := (.agg C4.toArray)) pM (kE aM aX (qm _ aX) kr)) ?_)
  replace b := b.perm (Nb (Pb Pz) Nz)
  refine VO (jL (.agg C4.toArray) (C4.toArray) b rfl rfl aB oc nb rfl (fun i8 b => Wa (ln ?_)))
  replace b := b.ju (Kb (Db (Db (Db St))))
  refine jU (kj ?_)
  obtain rfl := sj hm
  exact oD (v0 := (.agg C4.toArray)) (v1 := (.int .i64 42)) rfl rfl (jz b.has Mh C4 rfl aG aB) rfl ⟨_, _, _, rfl, (b.lM Sn), I, d, (ST.kA b (ma.mem Sn)), (.slice none 0 0), rfl, rfl, (Sl.nil _ _ _)⟩
 refine kg (Wf BO (VA b Mh [q, b8, d8, s, a2] aG aB (VE (jX (cs := #[q, b8, d8, s, a2]) b (lJ rfl) (lW aD aB aM) (fun i9 e0 b => Wa (ln ?_))))))
 replace b := b.ju (Kb (Db St))
 refine jK (sg (VA b (Mt (Mt (Mt Mh))) f5 eB dS (VA b (Mt (Mt Mh)) (jv p) bM aJ (bS hm fun R e8 hm => ?_))))
 refine VE (eD b (bB _) call209 (fun A => (H8 k (.slice A1 k.jH.length c2) (.slice A3 k.ke.length P) p _ _ A (t.mono jZ.mono I) (y.mono lT.mono I) e8)) ?_ (L0 := []))
 rintro _ j5 e2 i3 b a8 F ⟨f6, a6, rfl, O⟩
 obtain rfl := a6.symm
 refine V (kK dE rfl O) (Wm (ln ?_))
 replace b := b.ju (Kb (Kb (Db (Db St))))
 replace b := b.DL
 refine kB (fun i E W => ∃ Q N K Z, (E 27 = .int .i64 (i : Nat) ∧ E 26 = .int .i64 (R.length : Nat)) ∧ ST false (keys []) w W e2 ((b9, Ol C4 113) :: (K ++ Z)) ∧ E 4 = (.pointer (some ⟨b9, 0, none⟩)) ∧ E 8 = Q ∧ E 25 = f6 ∧ kD 113 jt 5 e2 Q N K ∧ tZ (R.drop i) N = some r) R.length O.len ⟨(.slice (some ⟨e0, 0, none⟩) 1 1), ([(a.1).jx]), [(e0, Ob #[q, b8, d8, s, a2] 113)], _, ⟨rfl, rfl⟩, (b.ju (Sb (Pr Pz) St)), rfl, rfl, rfl, (kD.lit jB (l := [(a.1).jx]) (.cons (ys := [q, b8, d8, s, a2]) (jt.mk ⟨a2, rfl, (c5.mono jB.mono a8)⟩) .nil) rfl nb rfl), hm⟩ dc dc dc (fun _ _ _ h => by obtain ⟨_, _, _, _, aa, _⟩ := h; exact aa) ?_ ?_
 ·rintro f0 E W d0 ⟨Q, N, K, Z, ⟨eI, eN⟩, b, T, a3, a4, U, j⟩
  obtain ⟨c, f7, d6, d5, d7⟩ := kq d0
  rw [d6] at j
  refine bg (VQ (lK (i := (f0 : Int)) (x0 := c) kX.out dE eu a4 eI O (aH _) d5) (fun h2 ⟨_, ⟨h5, h6, rfl, a9, d3⟩, d1⟩ => V (jw rfl (jR b.has d1 iX eu)) (VE (kf b gL (fun g0 g8 b => ?_)))))
  obtain ⟨u, x, rfl⟩ := a9.form
  let c7 := (C1 c.jx.Op c.jx.K c.jx.jq.js c.jx.jq.jy u c.jx.Kids.length x)
  obtain ⟨b2, b6, rfl⟩ := d3.form
  let c0 := (C7 c.jq.js c.jq.jy c.jx.Op c.jx.K c.jx.jq.js c.jx.jq.jy u c.jx.Kids.length x b2 c.ms.length b6)
  refine VO (jL (.agg c0.toArray) (c0.toArray) b rfl rfl eu oc nb rfl (fun g1 b => ln (jI (Wh a3 (Wf GV (VA b Mh c7 aG aB (VE (jX (cs := c7.toArray) b (lJ rfl) (lW aD aB aM) (fun g2 g9 b => ?_)))))))))
  replace b := b.perm (Nr (Qb (Qb (Qb Qz))) Nz)
  refine bS j fun f1 c9 j => VE (oU (B := K) jB b dc aD lh.1 lh.2.1 rfl lh.2.2.1 lh.2.2.2 rfl rfl U (xd.lit jB (l := [c.jx]) (.cons (ys := C1 c.jx.Op c.jx.K c.jx.jq.js c.jx.jq.jy u c.jx.Kids.length x) (jt.mk ⟨(.slice u c.jx.Kids.length x), rfl, a9⟩) .nil) rfl nb (b.at_ (Ma Mh))) c9 (fun g3 f2 e3 b c8 => Wa (jW (ko (jF ?_)))))
  replace b := b.ju (Kr (Db (Db St)))
  exact ⟨eI, f2, f1, e3, _, ⟨rfl, eN⟩, (b.ju (Sb (Pr Pz) St)), T, rfl, a4, c8, (by rw [d7]; exact j)⟩
 rintro E W ⟨Q, N, K, Z, ⟨eI, eN⟩, b, T, a3, a4, U, j⟩
 rw [aN] at j
 refine jF (sg (Wh a3 ?_))
 replace b := b.perm (Nr (Qb Qz) Nz)
 obtain ⟨i0, b, c1, m, d4⟩ := ST.so jB b U
 refine bS j fun g d2 j => ?_
 let g4 : Value := (.int .i64 ((g.1).Op))
 let f4 : Value := (.string (((g.1).jq).jy))
 let f3 : Value := (.string (((g.1).jq).js))
 refine VE (eD b (bB _) call213 (fun A => (JH Q N _ _ A (d4.mono jB.mono (kd.refl _)) d2)) ?_ (L0 := []))
 rintro _ h7 i1 f9 b c3 n ⟨h8, Y, rfl, b0⟩
 obtain rfl := Y.symm
 refine Wx rfl (Wx rfl ?_)
 obtain ⟨J, M, rfl⟩ := b0.form
 let L : Value := (.slice J ((g.1).Kids).length M)
 let b4 : Value := (.agg #[g4, (.int .i64 ((g.1).K)), f3, f4, L])
 refine VO (jL b4 (#[g4, (.int .i64 ((g.1).K)), f3, f4, L]) b T rfl aB oc nb rfl (fun g7 b => Wa (lt ?_)))
 obtain rfl := sj j
 exact oD (v0 := b4) (v1 := (.int .i64 g.2)) rfl T (jz b.has Mh [g4, (.int .i64 ((g.1).K)), f3, f4, L] rfl aG aB) rfl ⟨_, _, _, rfl, (b.lM Sn), (((I.trans a8).trans c1).trans c3), (((d.trans F).trans m).trans n), (ST.kA b (ma.mem Sn)), L, rfl, rfl, b0⟩
theorem Ci (Q : Formula → (jq → Option Bool) → Option Bool) (a5 : ∀ (g : Formula) (k : Value) (t : Value) (J : jq → Option Bool) (r : Bool) (w : World) (c : Sl jt 5 (hp w) k g.Kids) (K : zT Tryz.prog t (hp w) (fun (x : jq) => [(.agg (jA x).toArray)]) (fun (r : Bool) => (.bool r)) J), Q g J = some r → jS false Tryz.prog 288 [(.agg #[(.int .i64 g.Op), (.int .i64 g.K), (.string g.jq.js), (.string g.jq.jy), k]), t] w (.bool r)) (g : Formula) (k t : Value) (J : jq → Option Bool) (r : Bool) (w : World) (c : Sl jt 5 (hp w) k g.Kids) (K : zT Tryz.prog t (hp w) (fun (x : jq) => [(.agg (jA x).toArray)]) (fun (r : Bool) => (.bool r)) J) (hm : vi Q g J = some r) :
  jS false Tryz.prog 288 [(.agg #[(.int .i64 g.Op), (.int .i64 g.K), (.string g.jq.js), (.string g.jq.jy), k]), t] w (.bool r) := by
 refine cG 45 func288 rfl (fun b => sg ?_)
 obtain ⟨A1, c2, rfl⟩ := c.form
 refine VE (km b rfl (fun W4 n b => Wa (lS (Wf mN (VB b Mh rfl rfl cC (Wi rfl (ln (CI hm rfl (fun a9 hm => ?_) (fun a9 hm => ?_)))))))))
 ·refine sg (Wm (Wf rB (VA b Mh (jA g.jq) bG aQ (bS hm fun r6 v hm => VE (N1 g.jq b K (kd.refl _) rfl (ua rfl) v (fun W8 b => Wa (ln ?_)))))))
  replace b := b.ju (Db St)
  refine jU (kj ?_)
  obtain rfl := sj hm
  exact rP b
 refine kg (Wa (lS (Wf mO (VB b Mh rfl rfl dB (V (kK aD rfl c) (Wm (jW ?_)))))))
 refine jF (kB (fun i E W => ∃ z I, (E 18 = .int .i64 (i : Nat) ∧ E 17 = .int .i64 (g.Kids.length : Nat)) ∧ ST false ku w W (hp w) ((n, Ol (C1 g.Op g.K g.jq.js g.jq.jy A1 g.Kids.length c2) 113) :: I) ∧ E 1 = t ∧ E 2 = (.pointer (some ⟨n, 0, none⟩)) ∧ E 5 = (.int .i64 z) ∧ E 16 = (.slice A1 g.Kids.length c2) ∧ oR Q J g (g.Kids.drop i) z = some r) g.Kids.length c.len ⟨0, _, ⟨rfl, rfl⟩, (b.ju St), rfl, rfl, rfl, rfl, hm⟩ dc dc dc (fun _ _ _ h => by obtain ⟨_, _, l, _⟩ := h; exact l) ?_ ?_)
 ·rintro A E W a4 ⟨z, I, ⟨d, m⟩, b, G, u, y, H, a⟩
  obtain ⟨j, c1, s, q, N⟩ := kq a4
  rw [s] at a
  refine bg (VQ (lK (i := (A : Int)) (x0 := j) jt.out aD aB H d c (aH _) q) (fun R ⟨_, ⟨c0, rfl, M⟩, Z⟩ => V (jw rfl (jR b.has Z aG aB)) (VE (kf b aM (fun F P b => ?_)))))
  obtain ⟨B, D, rfl⟩ := M.form
  let a0 := (C1 j.Op j.K j.jq.js j.jq.jy B j.Kids.length D)
  refine VO (jL (.agg a0.toArray) (a0.toArray) b rfl rfl aB oc nb rfl (fun L b => lr (VA b Mh a0 aG aB (Wh G (bS a fun b9 p a => VE (Eg b call288 (a5 j (.slice B j.Kids.length D) t J _ _ (M.mono jB.mono b.jD) (K.mono b.jD) p) (fun O b => ln ?_)))))))
  replace b := b.ju (Db St)
  refine CI a rfl (fun T a => ?_) (fun T a => ?_)
  ·exact jI (Wh y (Wi rfl (Wa (jW (ko (jF ⟨d, (IntKind.i64.wrap (z + 1)), _, ⟨rfl, m⟩, (b.ju St), G, u, rfl, H, (by rw [N]; exact a)⟩))))))
  exact kP (ko (jF ⟨d, z, _, ⟨rfl, m⟩, (b.ju St), G, u, y, H, (by rw [N]; exact a)⟩))
 rintro E W ⟨z, I, ⟨d, m⟩, b, G, u, y, H, a⟩
 rw [aN] at a
 refine jF (jK (sg (V (jC mN u) (VB b Mh rfl rfl cC (ln (bg (Wi rfl (Wa (ln ?_)))))))))
 refine CI a rfl (fun U a => ?_) (fun U a => ?_)
 ·refine sg (Wh y (V (jC mO u) (VB b Mh rfl rfl dB (V (kK aD rfl c) (Wi rfl (Wa (ln ?_)))))))
  replace b := b.ju (Db St)
  refine jU (me (kj ?_))
  obtain rfl := sj a
  exact rP b
 refine sg (Wi rfl (Wa (ln (CI a rfl (fun Y a => ?_) (fun Y a => ?_)))))
 ·refine sg (Wh y (Wi rfl (Wa (ln ?_))))
  replace b := b.ju (Db St)
  refine jU (me (kj ?_))
  obtain rfl := sj a
  exact rP b
 refine kP (ko (jF (sg (Wh y (V (jC pA u) (VB b Mh rfl rfl cC (Wi rfl (Wa (ln ?_)))))))))
 exact jU (rQ a b)
theorem A6 : ∀ (n : Nat) (c : Formula) (a : Value) (g : Value) (j : jq → Option Bool) (r : Bool) (w : World) (i : Sl jt 5 (hp w) a c.Kids) (k : zT Tryz.prog g (hp w) (fun (x : jq) => [(.agg (jA x).toArray)]) (fun (r : Bool) => (.bool r)) j) (_ : pw n c j = some r),
  jS false Tryz.prog 288 [(.agg #[(.int .i64 c.Op), (.int .i64 c.K), (.string c.jq.js), (.string c.jq.jy), a]), g] w (.bool r)
 | 0 => by intros; rename_i h; simp only [pw] at h; cases h
 | n + 1 => Ci (pw n) (A6 n)
theorem Hb (a : Formula) (j k : Value) (G : jq → Option Bool) (r : Bool) (w : World) (c : Sl jt 5 (hp w) j a.Kids) (z : zT Tryz.prog k (hp w) (fun (x : jq) => [(.agg (jA x).toArray)]) (fun (r : Bool) => (.bool r)) G) (hm : wV a G = some r) :
  jS false Tryz.prog 183 [(.agg #[(.int .i64 a.Op), (.int .i64 a.K), (.string a.jq.js), (.string a.jq.jy), j]), k] w (.bool r) := by
 refine cG 16 func183 rfl (fun b => sg ?_)
 obtain ⟨u, y, rfl⟩ := c.form
 let a0 := (C1 a.Op a.K a.jq.js a.jq.jy u a.Kids.length y)
 refine VE (km b rfl (fun U Z b => Wa (lr (Wm (V (MV underlying242 z.form rfl rfl) (Wm (Vg rfl rfl (jw rfl (jz b.has Mh a0 rfl aG aB)) (bS hm fun d K hm => LC rfl rfl (Eg b call107 (vY a (.slice u a.Kids.length y) _ _ (c.mono jB.mono b.jD) K) (fun Y b => V (jM rfl rfl) (Wm (LJ hm (fun D E W => ∃ B, ST false ku w W (hp w) B ∧ E 4 = (.bool false) ∧ E 15 = (.bool D)) 4 ?_ (fun D g t => ?_)))))))))))))
 ·rintro T E W ⟨B, b, N, J⟩ H
  exact Wg J (lt (rQ H b))
 refine bC g (fun i g => ?_) (fun i g => ?_)
 ·refine ug i (jw rfl (jz b.has Mh a0 rfl aG aB)) (ug i (jE rfl) (bS g fun Q I g => qI i (Eg b call288 ((A6 jY) a (.slice u a.Kids.length y) k G _ _ (c.mono jB.mono b.jD) (z.mono b.jD) I) (fun M b => V (jM (cB i) rfl) ?_))))
  obtain rfl := sj g
  exact t _ _ ⟨_, (b.ju (Db St)), rfl, rfl⟩
 refine un i (un i (un i (V (jN (cB i) rfl) ?_)))
 obtain rfl := sj g
 exact t _ _ ⟨_, (b.ju (Db St)), rfl, rfl⟩
theorem Fj (K : Nat) (a : Value) (G : List (jq × (List (ByteArray × Bool)))) (c : Value) (t : List jr) (j : Value) (D : List (jq × (List jr))) (g : Value) (u : List (ByteArray × (List jr))) (i : Value) (B : List jJ) (J : Int) (I : jq) (a2 : ByteArray) (r : Bool) (w : World) (H : tJ (fun (x : jq) => (.agg (jA x).toArray)) (lL Value.string (fun (x : Bool) => (Value.bool x))) (hp w) a G) (T : Sl (Pl jv) 9 (hp w) c t) (Z : tJ (fun (x : jq) => (.agg (jA x).toArray)) (jT 53 jv 9) (hp w) j D) (U : tJ Value.string (jT 53 jv 9) (hp w) g u) (Y : Sl (Pl kp) 3 (hp w) i B) (Q : At (hp w) (.pointer (some ⟨K, 0, none⟩)) [a, c, j, g, i, (.int .i64 J)]) (hm : vj G t D u B J I a2 = some r) :
  jS true Tryz.prog 149 [(.pointer (some ⟨K, 0, none⟩)), (.agg (jA I).toArray), (.string a2)] w (.bool r) := by
 refine cG 19 func149 rfl (fun l => sg (VE (km l rfl (fun W2 q l => Wa (ln (jK ?_))))))
 replace l := l.drew
 have d := l.has.ju (Kb Sn)
 refine kJ d kw (X 0 rfl d (jE rfl) (X 1 rfl d (Cj underlying171 rfl rfl) (X 2 rfl d (jE rfl) (Xg 3 rfl rfl rfl d (jE rfl) (Xg 4 rfl rfl rfl d (mW rfl) (sn 5 rfl kr (.inr ⟨2, true, 9, rfl, rfl, by decide, rfl⟩) rfl dc (fun _ _ h => h) d (Du [a] wU rfl Q rfl) (fun p a3 => uF 6 rfl rfl rfl d (fun _ m => jw rfl (sG m (y := a) a3 ic)) (uF 7 rfl rfl rfl d (fun _ m => jw rfl (jz m Mh (jA I) rfl bG aQ)) ?_))))))))
 obtain ⟨a4, a5, M, N⟩ := H
 refine uF 8 rfl rfl rfl d (fun _ m => oZ (k := I) (z := (.map none)) zL fj fN rfl rfl M (fun b o n => m.1 b o (N b o n))) (Xg 9 rfl rfl rfl d (jE rfl) (uF 10 rfl rfl rfl d (fun _ m => zx (k := a2) (z := false) (vf := (fun (x : Bool) => (Value.bool x))) FO fT jc rfl rfl ((mK.CA jQ.1 M I N).mono (fun b o n => m.1 b o n))) (X 11 rfl d (jM rfl rfl) (X 12 rfl d (nu rfl) (kW kr (jF ?_))))))
 exact jU (rQ hm l)
theorem Ga (N : jq) (Q D : Nat) (t : Value) (B : List (jq × (List (ByteArray × Bool)))) (a : Value) (j : List jr) (i : Value) (z : List (jq × (List jr))) (c : Value) (k : List (ByteArray × (List jr))) (g : Value) (u : List jJ) (I : Int) (T : Nat) (Y : ByteArray) (r : Bool) (w : World) (M : tJ (fun (x : jq) => (.agg (jA x).toArray)) (lL Value.string (fun (x : Bool) => (Value.bool x))) (hp w) t B) (G : Sl (Pl jv) 9 (hp w) a j) (K : tJ (fun (x : jq) => (.agg (jA x).toArray)) (jT 53 jv 9) (hp w) i z) (H : tJ Value.string (jT 53 jv 9) (hp w) c k) (J : Sl (Pl kp) 3 (hp w) g u) (U : At (hp w) (.pointer (some ⟨D, 0, none⟩)) [t, a, i, c, g, (.int .i64 I)]) (Z : At (hp w) (.pointer (some ⟨Q, 0, none⟩)) [(.pointer (some ⟨D, 0, none⟩))]) (d : At (hp w) (.pointer (some ⟨T, 0, none⟩)) [(.string Y)]) (hm : py N B j z k u I Y = some r) :
  jS true Tryz.prog 287 [(.agg (jA N).toArray), (.pointer (some ⟨Q, 0, none⟩)), (.pointer (some ⟨T, 0, none⟩))] w (.bool r) := by
 refine cG 9 func287 rfl (fun b => sg (VE (km b rfl (fun W2 h b => Wa (lr (V (jw rfl (sG b.has (y := (.pointer (some ⟨D, 0, none⟩))) Z isAgg171)) (VA b Mh (jA N) bG aQ (V (jw rfl (sG b.has (y := (.string Y)) d bV)) (bS hm fun l a2 hm => VE (Eg b call149 (Fj D t B a j i z c k g u I N Y _ _ (M.mono b.jD) (G.mono (Pl.mono _) b.jD) (K.mono b.jD) (H.mono b.jD) (J.mono (Pl.mono _) b.jD) (U.mono b.jD) a2) (fun W5 b => Wa ?_)))))))))))
 refine ln ?_
 exact jU (rQ hm b)
theorem yn (k : kI) (H K c1 : Value) (L : List jr) (a2 : ByteArray) (r : List jr) (w : World) (g : Sl kc 15 (hp w) H k.jH) (J : Sl kX 8 (hp w) K k.ke) (h5 : Sl (Pl jv) 9 (hp w) c1 L) (hm : pH k L a2 = some r) :
  lz false Tryz.prog 80 [(.agg #[(.string k.Name), H, K]), c1, (.string a2)] w 53 jv 9 r := by
 refine tF 47 func80 rfl (fun d => sg ?_)
 obtain ⟨A1, c2, rfl⟩ := g.form
 let c8 : Value := (.slice A1 k.jH.length c2)
 obtain ⟨A3, c4, rfl⟩ := J.form
 let O := (C5 k.Name A1 k.jH.length c2 A3 k.ke.length c4)
 refine VE (km d rfl (fun W6 A d => Wa (lr (Wm (Wm (bS hm fun B i5 hm => ?_))))))
 refine VE (zI d (bB _) call182 (fun _ _ _ _ => (IQ c1 L a2 _ _ (h5.mono (Pl.mono _) d.jD) i5)) (fun W9 l1 g4 l0 d a5 af ae h4 => ?_) (L0 := []))
 obtain ⟨N, q, e0, f9, e1, g0, e2, g1, e3, g2, e4, g3, Q, c0, rfl, h6, h7, h8, h9, i0⟩ := h4
 replace c0 := c0.symm; subst c0
 replace d := d.perm (Tb (Tb (Tb (Tr (Tr (Tr (Tr (Tr Tn))))))))
 refine Wa (lr (Wa (lS (Wf qM (VB d (Mt (Mt (Mt (Ma (Ma (Ma (Ma (Ma Mh)))))))) rfl rfl fK (V (kK cP rfl g) (Wm ?_)))))))
 refine ln (kB (fun i E W => ∃ D I G s P, (E 19 = .int .i64 (i : Nat) ∧ E 18 = .int .i64 (k.jH.length : Nat)) ∧ kd g4 s ∧ ST false ku w W s ((N, Ob #[(.pointer (some ⟨q, 0, none⟩))] 171) :: ((q, Ob #[e0, e1, e2, e3, e4, (.int .i64 B.2.2.2.2.2.1)] 294) :: ((Q, Ob #[(.string B.2.2.2.2.2.2)] 9) :: ((A, Ol O 110) :: (G ++ (f9 ++ (g0 ++ (g1 ++ (g2 ++ (g3 ++ P)))))))))) ∧ E 3 = (.pointer (some ⟨A, 0, none⟩)) ∧ E 7 = (.func (.func 287) #[] #[(.pointer (some ⟨N, 0, none⟩)), (.pointer (some ⟨Q, 0, none⟩))]) ∧ E 8 = D ∧ E 17 = c8 ∧ jT 53 jv 9 D I G ∧ qH k B (k.jH.drop i) I = some r) k.jH.length g.len ⟨(.slice none 0 0), ([]), [], g4, _, ⟨rfl, rfl⟩, (kd.refl _), (d.ju (Kb (Kb (Kb (Sb (Pr (Pr (Pr (Pr (Pr Pz))))) St))))), rfl, rfl, rfl, rfl, (jT.nil _ _ _), hm⟩ dc dc dc (fun _ _ _ h => by obtain ⟨_, _, _, _, _, aa, _⟩ := h; exact aa) ?_ ?_)
 ·let b6 : Value := (.func (.func 287) #[] #[(.pointer (some ⟨N, 0, none⟩)), (.pointer (some ⟨Q, 0, none⟩))])
  rintro d8 E W f0 ⟨D, I, G, s, P, ⟨F, eN⟩, u, d, Y, Z, a3, a4, M, j⟩
  obtain ⟨a, i6, f8, f7, c6⟩ := kq f0
  rw [f8] at j
  refine bg (VQ (lK (i := (d8 : Int)) (x0 := a) kc.out cP cU a4 F (g.mono jZ.mono (a5.trans u)) (aH _) f7) (fun k1 ⟨_, ⟨k4, k5, rfl, f5, f6⟩, f1⟩ => V (jw rfl (jR d.has f1 gK cU)) (VE (kf d eP (fun i9 d0 d => ?_)))))
  obtain ⟨b2, b7, rfl⟩ := f5.form
  obtain ⟨b3, b9, rfl⟩ := f6.form
  let a0 := (C3 a.Signed.jr.Kind a.Signed.jr.Head.js a.Signed.jr.Head.jy a.Signed.jr.ky a.Signed.jr.B.js a.Signed.jr.B.jy a.Signed.jr.C.js a.Signed.jr.C.jy a.Signed.jr.kF b2 a.Signed.Tag.length b7 a.jx.Op a.jx.K a.jx.jq.js a.jx.jq.jy b3 a.jx.Kids.length b9)
  refine VO (jL (.agg a0.toArray) (a0.toArray) d rfl rfl cU oc nb rfl (fun j0 d => lr (V (jw Y (jz d.has (Mt (Mt (Mt (Mt Mh)))) O rfl eB dS)) (Wf vI (Wf xj (VA d Mh (jv a.Signed.jr) bM aJ (bS j fun c f2 j => ?_)))))))
  let e5 : Value := (.string (((c.1).jq).jy))
  let d1 : Value := (.string (((c.1).jq).js))
  refine VE (eD d (bB _) call106 (fun hh => (KG k c8 (.slice A3 k.ke.length c4) a.Signed.jr _ _ hh (g.mono jZ.mono (a5.trans u)) (J.mono lT.mono (a5.trans u)) f2)) ?_ (L0 := []))
  rintro _ k6 c3 i8 d a9 ab ⟨k8, a6, rfl, c7⟩
  obtain rfl := a6.symm
  refine Wm (Wx rfl (Wx rfl (VE (kf d aM (fun j4 k0 d => ?_)))))
  obtain ⟨T, U, rfl⟩ := c7.form
  let b8 : Value := (.slice T ((c.1).Kids).length U)
  refine VO (jL (.agg #[(.int .i64 ((c.1).Op)), (.int .i64 ((c.1).K)), d1, e5, b8]) (#[(.int .i64 ((c.1).Op)), (.int .i64 ((c.1).K)), d1, e5, b8]) d rfl rfl aB oc nb rfl (fun j5 d => Wa (lr (Wm (Wi rfl (Wm (LJ j (fun d9 E W => ∃ c9, ST false ku w W c3 ((d0, Ol a0 138) :: ((N, Ob #[(.pointer (some ⟨q, 0, none⟩))] 171) :: ((q, Ob #[e0, e1, e2, e3, e4, (.int .i64 B.2.2.2.2.2.1)] 294) :: ((Q, Ob #[(.string B.2.2.2.2.2.2)] 9) :: ((A, Ol O 110) :: (G ++ (f9 ++ (g0 ++ (g1 ++ (g2 ++ (g3 ++ c9))))))))))) ∧ E 3 = (.pointer (some ⟨A, 0, none⟩)) ∧ E 7 = b6 ∧ E 8 = D ∧ E 10 = (.pointer (some ⟨d0, 0, none⟩)) ∧ E 17 = c8 ∧ E 18 = (.int .i64 (k.jH.length : Int)) ∧ E 19 = (.int .i64 (d8 : Int)) ∧ E 37 = (.bool d9)) 4 ?_ (fun d9 z b0 => ?_))))))))
  ·rintro k7 E W ⟨c9, d, d2, d3, d4, h2, d5, d6, d7, h3⟩ y
   refine ln (CI y h3 (fun e8 y => ?_) (fun e8 y => ?_))
   ·refine jI (Wh d4 (V (jC vI h2) (Wf xj (VA d Mh (jv a.Signed.jr) bM aJ (VE (jX (cs := (jv a.Signed.jr).toArray) d (lJ rfl) (lW aI aJ cH) (fun j6 h1 d => ?_)))))))
    replace d := d.perm (Nr (Qb (Qb (Qb (Qb (Qb (Qb Qz)))))) Nz)
    refine bS y fun i1 e9 y => VE (ns (enc := jv) (v := D) (vs := (.slice (some ⟨h1, 0, none⟩) 1 1)) (R := G) d jV dc mT aI mh.1 mh.2.1 rfl mh.2.2.1 mh.2.2.2 rfl rfl M (Sl.lit (enc := jv) (l := [a.Signed.jr]) jV rfl nb rfl (d.at_ (Ma Mh))) e9 (fun j7 i2 g7 d e7 => Wa (jW (ko (jF ?_)))))
    replace d := d.ju (Kr (Db (Db St)))
    exact ⟨d7, i2, i1, g7, c3, _, ⟨rfl, d6⟩, (u.trans a9), (d.ju (Sb (Pr Pz) (Sb (Pr Pz) (Sb (Pr Pz) (Sb (Pr Pz) St))))), d2, d3, rfl, d5, e7, (by rw [c6]; exact y)⟩
   refine kP (ko (jF ?_))
   replace d := d.ju (Db St)
   exact ⟨d7, D, I, G, c3, _, ⟨rfl, d6⟩, (u.trans a9), (d.ju St), d2, d3, d4, d5, M, (by rw [c6]; exact y)⟩
  refine bC z (fun t z => ?_) (fun t z => ?_)
  ·refine ug t (jw rfl (jz d.has Mh [(.int .i64 ((c.1).Op)), (.int .i64 ((c.1).K)), d1, e5, b8] rfl aG aB)) (ug t (jE Z) (bS z fun k2 f3 z => qI t (Eg d call183 (Hb c.1 b8 b6 (fun (x : jq) => py x B.1 B.2.1 B.2.2.1 B.2.2.2.1 B.2.2.2.2.1 B.2.2.2.2.2.1 B.2.2.2.2.2.2) _ _ (c7.mono jB.mono d.jD) ⟨287, #[], #[(.pointer (some ⟨N, 0, none⟩)), (.pointer (some ⟨Q, 0, none⟩))], rfl, call287, fun W x r n hm => (Ga x N q e0 B.1 e1 B.2.1 e2 B.2.2.1 e3 B.2.2.2.1 e4 B.2.2.2.2.1 B.2.2.2.2.2.1 Q B.2.2.2.2.2.2 r W (h6.at (fun b o m => n _ _ ((fun b o m => d.at_ (Mt (Mt (Mt (Mt (Mt (Mt (Ma (Ml m))))))))) b o m))) (h7.sl jV (fun b o m => n _ _ ((fun b o m => d.at_ (Mt (Mt (Mt (Mt (Mt (Mt (Ma (Ma (Ml m)))))))))) b o m))) (h8.at (fun b o m => n _ _ ((fun b o m => d.at_ (Mt (Mt (Mt (Mt (Mt (Mt (Ma (Ma (Ma (Ml m))))))))))) b o m))) (h9.at (fun b o m => n _ _ ((fun b o m => d.at_ (Mt (Mt (Mt (Mt (Mt (Mt (Ma (Ma (Ma (Ma (Ml m)))))))))))) b o m))) ((i0.DP qN).mono (Pl.mono _) (lP (fun b o m => n _ _ ((fun b o m => d.at_ (Mt (Mt (Mt (Mt (Mt (Mt (Ma (Ma (Ma (Ma (Ma (Ml m))))))))))))) b o m)))) (At.of (n _ _ (d.at_ (Mt (Mt (Mt Mh))))) _ rfl) (At.of (n _ _ (d.at_ (Mt (Mt Mh)))) _ rfl) (At.of (n _ _ (d.at_ (Mt (Mt (Mt (Mt Mh)))))) _ rfl) hm).li⟩ f3) (fun j8 d => V (jM (cB t) rfl) ?_))))
   obtain rfl := sj z
   exact b0 _ _ ⟨_, (d.ju (Db St)), Y, Z, a3, rfl, a4, eN, F, rfl⟩
  refine un t (un t (un t (V (jN (cB t) rfl) ?_)))
  obtain rfl := sj z
  exact b0 _ _ ⟨_, (d.ju (Db St)), Y, Z, a3, rfl, a4, eN, F, rfl⟩
 rintro E W ⟨D, I, G, s, P, ⟨F, eN⟩, u, d, Y, Z, a3, a4, M, j⟩
 rw [aN] at j
 refine jF ?_
 replace d := d.ju (Db (Db (Db (Db (Kr (Dr (Dr (Dr (Dr (Dr St))))))))))
 refine sg (Wh a3 (bS j fun k3 f4 j => VE (pv d call116 (FR D I _ _ (M.sl jV (fun b o m => d.at_ (Ml m))) f4) (fun j9 i3 k9 g8 d i4 ad c5 => Wa (ln ?_)))))
 replace d := d.ju (Kr (Dr St))
 refine jU ?_
 obtain rfl := sj j
 exact kY (v := i3) rfl rfl ⟨_, g8, rfl, d.nx (fun p m => (Ml m)) c5.nd, c5⟩
theorem F5 (c : jr) (g : Nat) (a : Value) (j : List jr) (r : Bool) (w : World) (k : Sl (Pl jv) 9 (hp w) a j) (i : At (hp w) (.pointer (some ⟨g, 0, none⟩)) [a]) (hm : wi c j = some r) :
  jS true Tryz.prog 282 [(.agg (jv c).toArray), (.pointer (some ⟨g, 0, none⟩))] w (.bool r) := by
 refine cG 8 func282 rfl (fun b => sg (VE (km b rfl (fun u z b => Wa (lr (V (jw rfl (sG b.has (y := a) i jo)) (VA b Mh (jv c) bM aJ (bS hm fun B t hm => VE (Eg b call201 (Ai a j c _ _ (k.mono (Pl.mono _) b.jD) t) (fun x b => V (nH rfl) (Wa ?_)))))))))))
 refine ln ?_
 exact jU (rQ hm b)
theorem Dt (c : Value) (t : List jr) (k : Value) (g r : List jr) (w : World) (B : Sl (Pl jv) 9 (hp w) c t) (i : Sl (Pl jv) 9 (hp w) k g) (hm : wH t g = some r) :
  lz false Tryz.prog 175 [c, k] w 53 jv 9 r := by
 refine tF 9 func175 rfl (fun b => sg ?_)
 obtain ⟨H, K, rfl⟩ := i.form
 refine VE (km b rfl (fun W4 u b => Wa (lr (Wm (bS hm fun U M hm => VE (pv b call228 (lz.li (vR c t _ _ (B.mono (Pl.mono _) b.jD) M)) (fun W7 N E I b D m z => V (rH (by exact ua rfl) rfl) (bS hm fun a2 G hm => ?_))))))))
 refine VE (zI b (Cr Qz Cn) call143 (fun hH s l h => (tz N U I (.func (.func 282) #[] #[(.pointer (some ⟨u, 0, none⟩))]) (fun (x : jr) => wi x g) _ _ ⟨hH, s, kd.refl _⟩ z ⟨282, #[], #[(.pointer (some ⟨u, 0, none⟩))], rfl, call282, fun W x r q hm => (F5 x u (.slice H g.length K) g r W (i.mono (Pl.mono _) ((D.trans l).trans q)) (At.of (q _ _ (h _ _ Mh)) _ rfl) hm).li⟩ G)) (fun Z a3 a4 Y b T n d y => ?_))
 obtain ⟨Q, J, a, rfl, j⟩ := y
 replace a := a.symm; subst a
 replace b := b.perm (Tr Tn)
 refine Wa (ln ?_)
 replace b := b.ju (Kr (Db St))
 refine jU ?_
 obtain rfl := sj hm
 exact kY (v := Q) rfl rfl ⟨_, J, rfl, b.nx (fun p A => (Ml A)) j.nd, j⟩
theorem zM (a : nf) (B G x z y U : Value) (r : ((List jr) × (List jr))) (w : World) (k : Sl kc 15 (hp w) B a.js.jH) (t : Sl kX 8 (hp w) G a.js.ke) (g : Sl kc 15 (hp w) x a.Client.jH) (j : Sl kX 8 (hp w) z a.Client.ke) (K : Sl jt 5 (hp w) y a.Formula.Kids) (a9 : Sl qa 2 (hp w) U a.Keys) (hm : pc a = some r) :
  lF false Tryz.prog 74 [(.agg #[(.string a.js.Name), B, G, (.string a.Client.Name), x, z, (.int .i64 a.Formula.Op), (.int .i64 a.Formula.K), (.string a.Formula.jq.js), (.string a.Formula.jq.jy), y, (.int .i64 a.sI), (.int .i64 a.mG.uU), (.int .i64 a.mG.uV), (.int .i64 a.nD), (.int .i64 a.pP), (.int .i64 a.ow), U])] w [] (fun v L1 W' => ∃ y1 S2 y4 S5, v = (.tuple #[y1, y4]) ∧ L1 = (S2 ++ (S5 ++ [])) ∧ jT 53 jv 9 y1 r.1 S2 ∧ jT 53 jv 9 y4 r.2 S5) := by
 refine tF 48 func74 rfl (fun d => sg ?_)
 obtain ⟨A1, c2, rfl⟩ := k.form
 obtain ⟨A3, s, rfl⟩ := t.form
 let b2 := (C5 a.js.Name A1 a.js.jH.length c2 A3 a.js.ke.length s)
 obtain ⟨A5, A, rfl⟩ := g.form
 obtain ⟨A7, F, rfl⟩ := j.form
 let b1 := (C5 a.Client.Name A5 a.Client.jH.length A A7 a.Client.ke.length F)
 obtain ⟨A9, d3, rfl⟩ := K.form
 obtain ⟨c7, d4, rfl⟩ := a9.form
 let a0 := (C2 a.js.Name A1 a.js.jH.length c2 A3 a.js.ke.length s a.Client.Name A5 a.Client.jH.length A A7 a.Client.ke.length F a.Formula.Op a.Formula.K a.Formula.jq.js a.Formula.jq.jy A9 a.Formula.Kids.length d3 a.sI a.mG.uU a.mG.uV a.nD a.pP a.ow c7 a.Keys.length d4)
 refine VE (km d rfl (fun j0 c1 d => Wa (Wa (ln (jK ?_)))))
 replace d := d.drew
 have h := d.has.ju (Kb Sn)
 refine kJ h kw (X 0 rfl h (jC vO rfl) (XH 1 rfl h (fun _ P => jw rfl (jz P Mh b2 rfl eB dS)) (X 3 rfl h (jC vM rfl) (XH 4 rfl h (fun _ P => jw rfl (jz P Mh b1 rfl eB dS)) (bS hm fun h3 f8 hm => XE 2 rfl (pv d call174 (EP a.js (.slice A1 a.js.jH.length c2) (.slice A3 a.js.ke.length s) _ _ (k.mono jZ.mono d.jD) (t.mono lT.mono d.jD) f8) (fun j3 h5 j5 g9 d D ae f6 => ?_)))))))
 have h := d.has.tH D (Dr (Kb Sn))
 refine ⟨h, (bS hm fun h4 f9 hm => XE 5 rfl (pv d call174 (EP a.Client (.slice A5 a.Client.jH.length A) (.slice A7 a.Client.ke.length F) _ _ (g.mono jZ.mono (D.trans d.jD)) (j.mono lT.mono (D.trans d.jD)) f9) (fun j4 h6 e8 h0 d M af f7 => ?_)))⟩
 have h := d.has.tH (D.trans M) (Dr (Dr (Kb Sn)))
 refine ⟨h, (X 6 rfl h (nu rfl) (X 7 rfl h (nu rfl) (kW kr (jF (qb (ll (mU (fun m E W => ∃ I p n J q a2 O c9, kd e8 O ∧ ST false ku w W O ((c1, Ol a0 116) :: (a2 ++ (n ++ c9))) ∧ E 1 = (.pointer (some ⟨c1, 0, none⟩)) ∧ E 4 = I ∧ E 5 = J ∧ jT 53 jv 9 I p n ∧ jT 53 jv 9 J q a2 ∧ om a m p q = some r) jY ⟨h5, h3, g9, h6, h4, h0, e8, _, (kd.refl _), (d.ju (Sb (Pr (Pr Pz)) St)), rfl, rfl, rfl, f6, f7, hm⟩ ?_)))))))⟩
 rintro m E W ⟨I, p, n, J, q, a2, O, c9, H, d, T, a3, a4, Y, Z, i⟩
 cases m with
 | zero => rw [om] at i; cases i
 | succ g0 =>
  refine bg (Wh a3 (V (jC vO T) (VA d Mh b2 eB dS (Wh a4 (V (jC vM T) (Wf wT (VB d Mh rfl rfl bV (bS i fun g1 e4 i => VE (pv d call80 (yn a.js (.slice A1 a.js.jH.length c2) (.slice A3 a.js.ke.length s) J q a.Client.Name _ _ (k.mono jZ.mono (((D.trans M).trans H).trans d.jD)) (t.mono lT.mono (((D.trans M).trans H).trans d.jD)) (Z.sl jV (fun b o l => d.at_ (Mt (Ml l)))) e4) (fun i2 g7 i7 i0 d a5 R e1 => bS i fun g2 e5 i => VE (pv d call175 (Dt I p g7 g1 _ _ (Y.sl jV (fun b o l => d.at_ (Ma (Mt (Ma (Ml l)))))) (e1.sl jV (fun b o l => d.at_ (Ml l))) e5) (fun i3 d8 i8 d1 d L aa c3 => Wa ?_))))))))))))
  refine ln ?_
  replace d := d.ju (Kr (Dr St))
  refine sg (Wh a4 (V (jC vM T) (VA d (Ma Mh) b1 eB dS (Wh a3 (V (jC vO T) (Wf wT (VB d (Ma Mh) rfl rfl bV (bS i fun g3 e6 i => VE (pv d call80 (yn a.Client (.slice A5 a.Client.jH.length A) (.slice A7 a.Client.ke.length F) I p a.js.Name _ _ (g.mono jZ.mono (((((D.trans M).trans H).trans a5).trans L).trans d.jD)) (j.mono lT.mono (((((D.trans M).trans H).trans a5).trans L).trans d.jD)) (Y.sl jV (fun b o l => d.at_ (Ma (Mt (Ma (Ml l)))))) e6) (fun i4 g8 i9 i1 d d5 ab e2 => bS i fun g4 e7 i => VE (pv d call175 (Dt J q g8 g3 _ _ (Z.sl jV (fun b o l => d.at_ (Ma (Ma (Mt (Ml l)))))) (e2.sl jV (fun b o l => d.at_ (Ml l))) e7) (fun i5 d9 e0 d2 d d6 ad c5 => Wa (jW ?_)))))))))))))
  refine jF ?_
  replace d := d.ju (Kr (Dr St))
  refine jK (sg (Wm (V (mI aI rfl c3) (Wh a3 (V (mI aI rfl Y) (Wi rfl (Wm (LJ i (fun d7 E W => ∃ d0, ST false ku w W e0 ((c1, Ol a0 116) :: (d2 ++ (d1 ++ (a2 ++ (n ++ d0))))) ∧ E 1 = (.pointer (some ⟨c1, 0, none⟩)) ∧ E 4 = I ∧ E 5 = J ∧ E 6 = d8 ∧ E 7 = d9 ∧ E 43 = (.bool d7)) 6 ?_ (fun d7 Q b0 => ?_)))))))))
  ·rintro i6 E W ⟨d0, d, f0, f1, f2, f3, f4, f5⟩ N
   refine ln (CI N f5 (fun e3 N => ?_) (fun e3 N => ?_))
   ·refine sg (Wh f1 (Wh f2 (Wa (Wa (ln ?_)))))
    replace d := d.ju (Db (Dr (Dr St)))
    refine jU (kj (me (kj (me (kj ?_)))))
    obtain rfl := sj N
    exact AK (v := I) (u := J) rfl rfl rfl ⟨_, _, rfl, (d.GF (Sr (Qr Qz) (Kr Sn))), I, n, J, a2, rfl, rfl, Y, Z⟩
   refine kn ?_
   replace d := d.ju (Kb (Kr (Kr (Dr (Dr St)))))
   exact jI (Wh f3 (Wh f4 (Wa (Wa (jW (ko (jF ⟨g0, bE _, d8, g2, d1, d9, g4, d2, e0, _, ((((H.trans a5).trans L).trans d5).trans d6), (d.ju St), f0, rfl, rfl, c3, c5, N⟩)))))))
  refine bC Q (fun c Q => ?_) (fun c Q => ?_)
  ·refine ug c (jE rfl) (ug c (mI aI rfl c5) (ug c (jE a4) (ug c (mI aI rfl Z) (ug c (kx rfl rfl rfl) (V (jM (cB c) rfl) ?_)))))
   obtain rfl := sj Q
   exact b0 _ _ ⟨_, (d.ju (Sb (Pr (Pr Pz)) St)), T, a3, a4, rfl, rfl, rfl⟩
  refine un c (un c (un c (un c (un c (V (jN (cB c) rfl) ?_)))))
  obtain rfl := sj Q
  exact b0 _ _ ⟨_, (d.ju (Sb (Pr (Pr Pz)) St)), T, a3, a4, rfl, rfl, rfl⟩
theorem JB (g : kI) (D K : Value) (i : kI) (G M : Value) (r : ((List jr) × (List jr) × Int)) (w : World) (x : Sl kc 15 (hp w) D g.jH) (I : Sl kX 8 (hp w) K g.ke) (y : Sl kc 15 (hp w) G i.jH) (J : Sl kX 8 (hp w) M i.ke) (hm : xt g i = some r) :
  lF false Tryz.prog 79 [(.agg #[(.string g.Name), D, K]), (.agg #[(.string i.Name), G, M])] w [] (fun v L1 W' => ∃ y1 S2 y4 S5, v = (.tuple #[y1, y4, (.int .i64 (r.2.2))]) ∧ L1 = (S2 ++ (S5 ++ [])) ∧ jT 53 jv 9 y1 r.1 S2 ∧ jT 53 jv 9 y4 r.2.1 S5) := by
 refine tF 41 func79 rfl (fun d => sg ?_)
 obtain ⟨A1, c2, rfl⟩ := x.form
 obtain ⟨A3, c4, rfl⟩ := I.form
 let q := (C5 g.Name A1 g.jH.length c2 A3 g.ke.length c4)
 refine VE (km d rfl (fun W6 p d => ?_))
 obtain ⟨A7, c8, rfl⟩ := y.form
 obtain ⟨A9, L, rfl⟩ := J.form
 let a0 := (C5 i.Name A7 i.jH.length c8 A9 i.ke.length L)
 refine VE (km d rfl (fun f8 n d => Wa (Wa (Wa (lr (Wa (Wa (lr (Wa ?_)))))))))
 refine ln (qb (ll (mU (fun m E W => ∃ t a4 N u a5 Q H a9 b9, kd (hp w) a9 ∧ ST false ku w W a9 ((n, Ol a0 110) :: ((p, Ol q 110) :: (Q ++ (N ++ b9)))) ∧ E 2 = (.pointer (some ⟨p, 0, none⟩)) ∧ E 3 = (.pointer (some ⟨n, 0, none⟩)) ∧ E 7 = t ∧ E 8 = u ∧ E 9 = (.int .i64 H) ∧ jT 53 jv 9 t a4 N ∧ jT 53 jv 9 u a5 Q ∧ pj g i m a4 a5 H = some r) jY ⟨(.slice none 0 0), ([]), [], (.slice none 0 0), ([]), [], 0, (hp w), _, (kd.refl _), (d.ju St), rfl, rfl, rfl, rfl, rfl, (jT.nil _ _ _), (jT.nil _ _ _), hm⟩ ?_)))
 rintro m E W ⟨t, a4, N, u, a5, Q, H, a9, b9, j, d, T, U, Y, Z, c9, a2, a3, c⟩
 cases m with
 | zero => rw [pj] at c; cases c
 | succ e6 =>
  refine jK (ll (jK ?_))
  replace d := d.drew
  have h := d.has.ju (Kb (Kb Sn))
  refine kJ h kw (XH 0 rfl h (fun _ l => jw T (jz l (Mt Mh) q rfl eB dS)) (X 1 rfl h (jE Z) (X 2 rfl h (jC wT U) (XH 3 rfl h (fun _ l => jw rfl (jO l Mh rfl bV)) (XH 5 rfl h (fun _ l => jw U (jz l Mh a0 rfl eB dS)) (X 6 rfl h (jE Y) (X 7 rfl h (jC wT T) (XH 8 rfl h (fun _ l => jw rfl (jO l (Mt Mh) rfl bV)) (bS c fun e7 d7 c => XE 4 rfl (pv d call80 (yn g (.slice A1 g.jH.length c2) (.slice A3 g.ke.length c4) u a5 i.Name _ _ (x.mono jZ.mono (j.trans d.jD)) (I.mono lT.mono (j.trans d.jD)) (a3.sl jV (fun b o F => d.at_ (Mt (Mt (Ml F))))) d7) (fun f4 d2 f7 c1 d k s R => ?_)))))))))))
  have h := d.has.tH k (Dr (Kb (Kb Sn)))
  refine ⟨h, (bS c fun e8 d8 c => XE 9 rfl (pv d call80 (yn i (.slice A7 i.jH.length c8) (.slice A9 i.ke.length L) t a4 g.Name _ _ (y.mono jZ.mono ((j.trans k).trans d.jD)) (J.mono lT.mono ((j.trans k).trans d.jD)) (a2.sl jV (fun b o F => d.at_ (Ma (Mt (Mt (Ma (Ml F))))))) d8) (fun f5 d3 d4 c3 d O A b2 => ?_)))⟩
  have h := d.has.tH (k.trans O) (Dr (Dr (Kb (Kb Sn))))
  refine ⟨h, (X 10 rfl h (nu rfl) (X 11 rfl h (nu rfl) (kW kr (jF (jK (sg (Wm (V (mI aI rfl R) (Wh Y (V (mI aI rfl a2) (Wi rfl (Wm (LJ c (fun d1 E W => ∃ c0, ST false ku w W d4 ((n, Ol a0 110) :: ((p, Ol q 110) :: (c3 ++ (c1 ++ (Q ++ (N ++ c0)))))) ∧ E 2 = (.pointer (some ⟨p, 0, none⟩)) ∧ E 3 = (.pointer (some ⟨n, 0, none⟩)) ∧ E 7 = t ∧ E 8 = u ∧ E 9 = (.int .i64 H) ∧ E 10 = d2 ∧ E 11 = d3 ∧ E 35 = (.bool d1)) 6 ?_ (fun d1 B P => ?_))))))))))))))⟩
  ·rintro f6 E W ⟨c0, d, d9, e0, e1, e2, d0, e3, e4, e5⟩ z
   refine ln (CI z e5 (fun d6 z => ?_) (fun d6 z => ?_))
   ·refine sg (Wh e1 (Wh e2 (Wh d0 (Wa (Wa (Wa (ln ?_)))))))
    replace d := d.ju (Db (Db (Dr (Dr St))))
    refine jU (kj (me (kj (kj (me (kj ?_))))))
    obtain rfl := sj z
    exact IK (v0 := t) (v1 := u) (v2 := (.int .i64 H)) rfl rfl rfl rfl ⟨_, _, rfl, (d.GF (Sr (Qr Qz) (Kr Sn))), t, N, u, Q, rfl, rfl, a2, a3⟩
   refine kn ?_
   replace d := d.ju (Kb (Kb (Kr (Kr (Dr (Dr St))))))
   exact jI (Wh e3 (Wh e4 (Wa (Wa (jW (ko (jF (jI (Wh d0 (Wi rfl (Wa (ln ⟨e6, bE _, d2, e7, c1, d3, e8, c3, (IntKind.i64.wrap (H + 1)), d4, _, ((j.trans k).trans O), (d.ju St), d9, e0, rfl, rfl, rfl, R, b2, z⟩))))))))))))
  refine bC B (fun a B => ?_) (fun a B => ?_)
  ·refine ug a (jE rfl) (ug a (mI aI rfl b2) (ug a (jE Z) (ug a (mI aI rfl a3) (ug a (kx rfl rfl rfl) (V (jM (cB a) rfl) ?_)))))
   obtain rfl := sj B
   exact P _ _ ⟨_, (d.ju (Sb (Pr (Pr Pz)) (Sb (Pr (Pr Pz)) St))), T, U, Y, Z, c9, rfl, rfl, rfl⟩
  refine un a (un a (un a (un a (un a (V (jN (cB a) rfl) ?_)))))
  obtain rfl := sj B
  exact P _ _ ⟨_, (d.ju (Sb (Pr (Pr Pz)) (Sb (Pr (Pr Pz)) St))), T, U, Y, Z, c9, rfl, rfl, rfl⟩
theorem FE (c : jr) (g : Nat) (a : Value) (j : List jr) (r : Bool) (w : World) (k : Sl (Pl jv) 9 (hp w) a j) (i : At (hp w) (.pointer (some ⟨g, 0, none⟩)) [a]) (hm : uX c j = some r) :
  jS true Tryz.prog 286 [(.agg (jv c).toArray), (.pointer (some ⟨g, 0, none⟩))] w (.bool r) := by
 refine cG 7 func286 rfl (fun b => sg (VE (km b rfl (fun u z b => Wa (lr (V (jw rfl (sG b.has (y := a) i jo)) (VA b Mh (jv c) bM aJ (bS hm fun B t hm => VE (Eg b call201 (Ai a j c _ _ (k.mono (Pl.mono _) b.jD) t) (fun x b => Wa (jW ?_)))))))))))
 refine jF ?_
 exact jU (rQ hm b)
theorem CV (c : Value) (t : List jr) (k : Value) (g r : List jr) (w : World) (B : Sl (Pl jv) 9 (hp w) c t) (i : Sl (Pl jv) 9 (hp w) k g) (hm : vo t g = some r) :
  lz false Tryz.prog 179 [c, k] w 53 jv 9 r := by
 refine tF 9 func179 rfl (fun b => sg ?_)
 obtain ⟨H, K, rfl⟩ := i.form
 refine VE (km b rfl (fun W4 u b => Wa (lr (Wm (bS hm fun U M hm => VE (pv b call228 (lz.li (vR c t _ _ (B.mono (Pl.mono _) b.jD) M)) (fun W7 N E I b D m z => V (rH (by exact ua rfl) rfl) (bS hm fun a2 G hm => ?_))))))))
 refine VE (zI b (Cr Qz Cn) call143 (fun hH s l h => (tz N U I (.func (.func 286) #[] #[(.pointer (some ⟨u, 0, none⟩))]) (fun (x : jr) => uX x g) _ _ ⟨hH, s, kd.refl _⟩ z ⟨286, #[], #[(.pointer (some ⟨u, 0, none⟩))], rfl, call286, fun W x r q hm => (FE x u (.slice H g.length K) g r W (i.mono (Pl.mono _) ((D.trans l).trans q)) (At.of (q _ _ (h _ _ Mh)) _ rfl) hm).li⟩ G)) (fun Z a3 a4 Y b T n d y => ?_))
 obtain ⟨Q, J, a, rfl, j⟩ := y
 replace a := a.symm; subst a
 replace b := b.perm (Tr Tn)
 refine Wa (ln ?_)
 replace b := b.ju (Kr (Db St))
 refine jU ?_
 obtain rfl := sj hm
 exact kY (v := Q) rfl rfl ⟨_, J, rfl, b.nx (fun p A => (Ml A)) j.nd, j⟩
theorem zW (a : nf) (z B t y x G : Value) (r : ((List jr) × (List jr))) (w : World) (i : Sl kc 15 (hp w) z a.js.jH) (j : Sl kX 8 (hp w) B a.js.ke) (c : Sl kc 15 (hp w) t a.Client.jH) (g : Sl kX 8 (hp w) y a.Client.ke) (k : Sl jt 5 (hp w) x a.Formula.Kids) (D : Sl qa 2 (hp w) G a.Keys) (hm : qS a = some r) :
  lF false Tryz.prog 76 [(.agg #[(.string a.js.Name), z, B, (.string a.Client.Name), t, y, (.int .i64 a.Formula.Op), (.int .i64 a.Formula.K), (.string a.Formula.jq.js), (.string a.Formula.jq.jy), x, (.int .i64 a.sI), (.int .i64 a.mG.uU), (.int .i64 a.mG.uV), (.int .i64 a.nD), (.int .i64 a.pP), (.int .i64 a.ow), G])] w [] (fun v L1 W' => ∃ O S2 P S5, v = (.tuple #[O, P]) ∧ L1 = (S2 ++ (S5 ++ [])) ∧ jT 53 jv 9 O r.1 S2 ∧ jT 53 jv 9 P r.2 S5) := by
 refine tF 29 func76 rfl (fun d => sg ?_)
 obtain ⟨K, Z, rfl⟩ := i.form
 obtain ⟨N, m, rfl⟩ := j.form
 obtain ⟨Q, n, rfl⟩ := c.form
 obtain ⟨T, p, rfl⟩ := g.form
 obtain ⟨A9, U, rfl⟩ := k.form
 obtain ⟨M, Y, rfl⟩ := D.form
 refine VE (km d rfl (fun e7 f2 d => Wa (Wa (lr (VA d Mh (C2 a.js.Name K a.js.jH.length Z N a.js.ke.length m a.Client.Name Q a.Client.jH.length n T a.Client.ke.length p a.Formula.Op a.Formula.K a.Formula.jq.js a.Formula.jq.jy A9 a.Formula.Kids.length U a.sI a.mG.uU a.mG.uV a.nD a.pP a.ow M a.Keys.length Y) er cQ (bS hm fun a4 b3 hm => ?_))))))
 refine VE (zI d (bB _) call74 (fun _ _ _ _ => (zM a (.slice K a.js.jH.length Z) (.slice N a.js.ke.length m) (.slice Q a.Client.jH.length n) (.slice T a.Client.ke.length p) (.slice A9 a.Formula.Kids.length U) (.slice M a.Keys.length Y) _ _ (i.mono jZ.mono d.jD) (j.mono lT.mono d.jD) (c.mono jZ.mono d.jD) (g.mono lT.mono d.jD) (k.mono jB.mono d.jD) (D.mono vT.mono d.jD) b3)) (fun e8 f5 f7 e1 d H A h a9 => ?_) (L0 := []))
 obtain ⟨d1, e3, d2, e4, I, rfl, b7, b9⟩ := a9
 replace I := I.symm; subst I
 replace d := d.perm (Tr (Tr Tn))
 refine Wm (Wx rfl (Wx rfl (Wa (Wa (lr (Wf vO (VA d (Ma (Ma Mh)) (C5 a.js.Name K a.js.jH.length Z N a.js.ke.length m) eB dS (Wf vM (VA d (Ma (Ma Mh)) (C5 a.Client.Name Q a.Client.jH.length n T a.Client.ke.length p) eB dS (bS hm fun a5 b4 hm => ?_))))))))))
 refine VE (zI d (bB _) call79 (fun _ _ _ _ => (JB a.js (.slice K a.js.jH.length Z) (.slice N a.js.ke.length m) a.Client (.slice Q a.Client.jH.length n) (.slice T a.Client.ke.length p) _ _ (i.mono jZ.mono (H.trans d.jD)) (j.mono lT.mono (H.trans d.jD)) (c.mono jZ.mono (H.trans d.jD)) (g.mono lT.mono (H.trans d.jD)) b4)) (fun e9 f6 f8 e2 d d6 E h R => ?_) (L0 := []))
 obtain ⟨d4, e5, d5, e6, J, rfl, c0, c1⟩ := R
 replace J := J.symm; subst J
 replace d := d.perm (Tr (Tr Tn))
 refine Wm (Wx rfl (Wx rfl (Wx rfl (Wa (Wa (Wa (ln ?_)))))))
 replace d := d.ju (Kr (Kr (Kr (Kr (Db St)))))
 refine sg (Wm (Wm (bS hm fun f3 b5 hm => VE (pv d call179 (CV d1 a4.1 d4 a5.1 _ _ (b7.sl jV (fun b o l => d.at_ (Ma (Ma (Ml l))))) (c0.sl jV (fun b o l => d.at_ (Ml l))) b5) (fun f0 q f9 c3 d d7 F W => Wm (Wm (bS hm fun f4 b6 hm => VE (pv d call179 (CV d2 a4.2 d5 a5.2.1 _ _ (b9.sl jV (fun b o l => d.at_ (Ma (Ma (Ma (Ma (Ml l))))))) (c1.sl jV (fun b o l => d.at_ (Ma (Ma (Ml l))))) b6) (fun f1 s g0 c5 d d8 L b2 => Wa (Wa (ln ?_)))))))))))
 replace d := d.ju (Kr (Kr (Dr (Dr (Dr (Dr St))))))
 refine jU ?_
 obtain rfl := sj hm
 exact AK (v := q) (u := s) rfl rfl rfl ⟨_, _, rfl, (d.GF (Sr (Qr Qz) (Kr Sn))), q, c3, s, c5, rfl, rfl, W, b2⟩
theorem AL (a : kz) (g c : Value) (k : Nat) (u : jr) (r : Bool) (w : World) (j : Sl (Pl (lu .u8)) 1 (hp w) g a.Signed.Tag) (i : Sl jt 5 (hp w) c a.jx.Kids) (t : At (hp w) (.pointer (some ⟨k, 0, none⟩)) (jv u)) (hm : oY a u = some r) :
  jS true Tryz.prog 185 [(.agg #[(.int .i64 a.Signed.jr.Kind), (.string a.Signed.jr.Head.js), (.string a.Signed.jr.Head.jy), (.string a.Signed.jr.ky), (.string a.Signed.jr.B.js), (.string a.Signed.jr.B.jy), (.string a.Signed.jr.C.js), (.string a.Signed.jr.C.jy), (.string a.Signed.jr.kF), g, (.int .i64 a.jx.Op), (.int .i64 a.jx.K), (.string a.jx.jq.js), (.string a.jx.jq.jy), c]), (.pointer (some ⟨k, 0, none⟩))] w (.bool r) := by
 refine cG 9 func185 rfl (fun b => sg ?_)
 obtain ⟨x, z, rfl⟩ := j.form
 obtain ⟨y, B, rfl⟩ := i.form
 refine VE (km b rfl (fun D G b => Wa (lr (Wf vI (Wf xj (VA b Mh (jv a.Signed.jr) bM aJ (V (jw rfl (jR b.has t bM aJ)) (V (uB rfl rfl (nm fi) (qO (vh _ a.Signed.jr u))) (Wa (ln ?_))))))))))
 exact jU (rQ hm b)
theorem xk (c : Value) (u r : List kz) (w : World) {j : kl} (I : nB j [] w) (a : Sl kc 15 j c u) (hm : pD u = some r) :
  lB true Tryz.prog 186 [c] w j [] (fun v G J => ∃ z t, v = z ∧ G = (t ++ []) ∧ kD 138 kc 15 J z r t) := by
 unfold pD at hm
 refine tE I 8 func186 rfl (fun b => sg (Wa (lS (Wm ?_))))
 obtain ⟨D, Q, rfl⟩ := a.form
 refine V (zt cP rfl rfl) (ln ?_)
 rcases D with _ | M
 ·have y := a.isNil
  replace hm : some [] = some r := by rw [y] at hm; simpa [mu, maxLen] using hm
  refine wK (rfl) (sg (Wa (lt (kj ?_))))
  obtain rfl := sj hm
  refine kY (v := (.slice none 0 0)) rfl rfl ?_
  replace b := b.NM
  exact ⟨_, _, _, rfl, (b.lM (Kr Sn)), (kd.refl _), Lo.refl, (ST.kA b (ma.mem (Kr Sn))), (.slice none 0 0), [], rfl, rfl, (kD.nil _ _ _ _)⟩
 ·refine rE (rfl) (kg (VE (jX (cs := #[]) b pM (yS [] cP cU eP dc rfl (by simp) rfl rfl) (fun N H b => Wm (bS hm fun T x hm => VE (oU (B := [(H, Ob #[] 138)]) jZ b dc cP Ev.1 Ev.2.1 rfl Ev.2.2.1 Ev.2.2.2 rfl rfl (kD.lit jZ (l := []) .nil rfl nb rfl) (xd.sl jZ a b.jD) x (fun K g k b i => Wa (lt ?_))))))))
  obtain rfl := sj hm
  exact kY (v := g) rfl rfl ⟨_, _, _, rfl, (b.lM (Kr Sn)), (kd.refl _), Lo.refl, (ST.kA b (ma.mem (Kr Sn))), g, k, rfl, rfl, i⟩
set_option maxHeartbeats 1000000 in
theorem CU (a : nf) (a7 a8 a3 a6 a4 c7 : Value) (a1 : Int) (a2 : jr) (r : (nf × Bool)) (w : World) {μ0 : kl} (h0 : nB μ0 [] w) (k : Sl kc 15 μ0 a7 a.js.jH) (D : Sl kX 8 μ0 a8 a.js.ke) (c : Sl kc 15 μ0 a3 a.Client.jH) (u : Sl kX 8 μ0 a6 a.Client.ke) (t : Sl jt 5 μ0 a4 a.Formula.Kids) (N : Sl qa 2 μ0 c7 a.Keys) (hm : pQ a a1 a2 = some r) :
  lB false Tryz.prog 81 [(.agg #[(.string a.js.Name), a7, a8, (.string a.Client.Name), a3, a6, (.int .i64 a.Formula.Op), (.int .i64 a.Formula.K), (.string a.Formula.jq.js), (.string a.Formula.jq.jy), a4, (.int .i64 a.sI), (.int .i64 a.mG.uU), (.int .i64 a.mG.uV), (.int .i64 a.nD), (.int .i64 a.pP), (.int .i64 a.ow), c7]), (.int .i64 a1), (.agg (jv a2).toArray)] w μ0 [] (fun v L1 μ1 => ∃ y1 y3 y5 y7 y9 g2, v = (.tuple #[(.agg #[(.string (((r.1).js).Name)), y1, y3, (.string (((r.1).Client).Name)), y5, y7, (.int .i64 (((r.1).Formula).Op)), (.int .i64 (((r.1).Formula).K)), (.string ((((r.1).Formula).jq).js)), (.string ((((r.1).Formula).jq).jy)), y9, (.int .i64 ((r.1).sI)), (.int .i64 (((r.1).mG).uU)), (.int .i64 (((r.1).mG).uV)), (.int .i64 ((r.1).nD)), (.int .i64 ((r.1).pP)), (.int .i64 ((r.1).ow)), g2]), (.bool (r.2))]) ∧ L1 = [] ∧ Sl kc 15 μ1 y1 (((r.1).js).jH) ∧ Sl kX 8 μ1 y3 (((r.1).js).ke) ∧ Sl kc 15 μ1 y5 (((r.1).Client).jH) ∧ Sl kX 8 μ1 y7 (((r.1).Client).ke) ∧ Sl jt 5 μ1 y9 (((r.1).Formula).Kids) ∧ Sl qa 2 μ1 g2 ((r.1).Keys)) := by
 refine tE h0 53 func81 rfl (fun b => sg ?_)
 obtain ⟨Q, U, rfl⟩ := k.form
 let s : Value := (.slice Q a.js.jH.length U)
 obtain ⟨H, K, rfl⟩ := D.form
 let L : Value := (.slice H a.js.ke.length K)
 obtain ⟨T, Y, rfl⟩ := c.form
 let q : Value := (.slice T a.Client.jH.length Y)
 obtain ⟨I, M, rfl⟩ := u.form
 let d3 : Value := (.slice I a.Client.ke.length M)
 obtain ⟨J, z, rfl⟩ := t.form
 let d2 : Value := (.slice J a.Formula.Kids.length z)
 obtain ⟨y, B, rfl⟩ := N.form
 let f4 : Value := (.slice y a.Keys.length B)
 let a0 := (C2 a.js.Name Q a.js.jH.length U H a.js.ke.length K a.Client.Name T a.Client.jH.length Y I a.Client.ke.length M a.Formula.Op a.Formula.K a.Formula.jq.js a.Formula.jq.jy J a.Formula.Kids.length z a.sI a.mG.uU a.mG.uV a.nD a.pP a.ow y a.Keys.length B)
 refine VE (km b rfl (fun l7 p b => VE (km b rfl (fun l8 c0 b => VE (kf b fC (fun l9 f7 b => Wa (lr (Wf vO (Wf vM (VE (jX (cs := #[(.pointer (some ⟨p, 0, none⟩)), (.pointer (some ⟨p, 3, none⟩))]) b (nY rfl rfl) (lW iQ sizeOf245 zeroValue245) (fun m0 f8 b => Wa (ln (jK ?_))))))))))))))
 let F : Value := (.pointer (some ⟨c0, 0, none⟩))
 refine sg (Wm (Wi rfl (Wm (LJ hm (fun e7 E W => ∃ f6, ST false (keys []) w W μ0 ((f8, Ob #[(.pointer (some ⟨p, 0, none⟩)), (.pointer (some ⟨p, 3, none⟩))] 245) :: ((f7, Ob #[(.string zS), (.slice none 0 0), (.slice none 0 0), (.string zS), (.slice none 0 0), (.slice none 0 0), (.int .i64 0), (.int .i64 0), (.string zS), (.string zS), (.slice none 0 0), (.int .i64 0), (.int .i64 0), (.int .i64 0), (.int .i64 0), (.int .i64 0), (.int .i64 0), (.slice none 0 0)] 116) :: ((c0, Ol (jv a2) 53) :: ((p, Ol a0 116) :: f6)))) ∧ E 1 = (.int .i64 a1) ∧ E 3 = (.pointer (some ⟨p, 0, none⟩)) ∧ E 5 = F ∧ E 6 = (.pointer (some ⟨f7, 0, none⟩)) ∧ E 8 = (.slice (some ⟨f8, 0, none⟩) 2 2) ∧ E 21 = (.bool e7)) 5 ?_ (fun e7 A d5 => ?_)))))
 ·rintro n5 E W ⟨f6, b, i2, d4, f9, d, i3, i4⟩ g
  refine ln (CI g i4 (fun g9 g => ?_) (fun g9 g => ?_))
  ·refine sg (V (jw d4 (jz b.has (Mt (Mt (Mt Mh))) a0 rfl er cQ)) ?_)
   replace b := b.perm (Nb (Pb Pz) Nz)
   refine VO (jL (.agg a0.toArray) (a0.toArray) b d rfl cQ oc nb rfl (fun m1 b => Wa (ln ?_)))
   replace b := b.ju (Kb (Db (Db (Db St))))
   refine jU (kj ?_)
   obtain rfl := sj g
   exact oD (v0 := (.agg a0.toArray)) (v1 := (.bool false)) rfl d (jz b.has Mh a0 rfl er cQ) rfl ⟨_, _, _, rfl, (b.lM Sn), (kd.refl _), Lo.refl, (ST.kA b (ma.mem Sn)), s, L, q, d3, d2, f4, rfl, rfl, k, D, c, u, t, N⟩
  refine kg (Wh i3 (Wh i2 (bC g (fun e3 g => ?_) (fun e3 g => ?_))))
  ·refine V (Gr (i := 0) iQ sizeOf245 rfl (RC (j := 0) e3 rfl) dc dc rfl) (VB b Mh rfl rfl isAgg245 (Wa (ln ?_)))
   replace b := b.ju (Db St)
   refine sg (Wm (Wn (Wf qM (VB b (Mt (Mt Mh)) rfl rfl fK (V (rH (by exact ua f9) rfl) (bS g fun i5 h4 g => VE (Eg b call184 (sv s a.js.jH (.func (.func 185) #[] #[F]) (fun (x : kz) => oY x a2) _ _ (k.mono jZ.mono b.jD) ⟨185, #[], #[F], rfl, call185, fun W x vs r hs hR hm => by obtain ⟨_, rfl, e2⟩ := hR; obtain ⟨u0, u1, rfl, k0, k1⟩ := e2.out; exact (AL x u0 u1 c0 a2 r W k0 k1 (At.of (hs _ _ (b.at_ (Mt Mh))) _ rfl) hm).li⟩ h4) (fun m2 b => Wa (ln ?_)))))))))
   replace b := b.ju (Kb (Db St))
   refine jK (sg (Wm (Wi rfl (ln (CI g rfl (fun h1 g => ?_) (fun h1 g => ?_))))))
   ·refine sg (V (jw d4 (jz b.has (Mt Mh) a0 rfl er cQ)) (VO (jL (.agg a0.toArray) (a0.toArray) b d rfl cQ oc nb rfl (fun m3 b => Wa (ln ?_)))))
    replace b := b.ju (Kb (Db St))
    refine jU (kj ?_)
    obtain rfl := sj g
    exact oD (v0 := (.agg a0.toArray)) (v1 := (.bool false)) rfl d (jz b.has Mh a0 rfl er cQ) rfl ⟨_, _, _, rfl, (b.lM Sn), (kd.refl _), Lo.refl, (ST.kA b (ma.mem Sn)), s, L, q, d3, d2, f4, rfl, rfl, k, D, c, u, t, N⟩
   refine kg (Wm (Wm (Wn (Wf qM (VB b (Mt Mh) rfl rfl fK (bS g fun c3 h5 g => ?_))))))
   refine VE (eD b (bB _) call186 (fun hh => lB.li (xk s a.js.jH _ _ hh (k.mono jZ.mono (kd.refl _)) h5)) ?_ (L0 := []))
   rintro _ n3 n7 l4 b l O ⟨n6, l6, d6, rfl, d8⟩
   obtain rfl := d6.symm
   replace b := b.perm (Tr Tn)
   refine Wn (Wf qM ?_)
   obtain ⟨b9, c1, rfl⟩ := d8.form
   let b8 := (C2 a.js.Name b9 c3.length c1 H a.js.ke.length K a.Client.Name T a.Client.jH.length Y I a.Client.ke.length M a.Formula.Op a.Formula.K a.Formula.jq.js a.Formula.jq.jy J a.Formula.Kids.length z a.sI a.mG.uU a.mG.uV a.nD a.pP a.ow y a.Keys.length B)
   replace b := b.perm (Nb (Pr (Pb Pz)) Nz)
   refine VO (jL (.slice b9 c3.length c1) (b8.toArray) b rfl rfl sizeOf107 oc nb rfl (fun m5 b => lr (Wm (Wn (Wf qM (VB b Mh rfl rfl fK (Wm (V (kZ (v := (.agg Bj.toArray)) (lJ rfl) (kE aM aX (qm _ aX) kr)) (bS g fun Z d7 g => VQ (kN (i := i5) kc.out cP cU rfl rfl d8 (kk d7) (ki d7)) (fun n1 ⟨_, ⟨g0, g1, rfl, h8, k8⟩, e6, e5⟩ => VQ (HA [(.int .i64 Z.jx.Op), (.int .i64 Z.jx.K), (.string Z.jx.jq.js), (.string Z.jx.jq.jy), g1] BO rfl e6 (e5).f rfl) (fun n2 ⟨k7, h3⟩ => ?_)))))))))))
   replace b := b.perm (Nr (Qb Qz) Nz)
   refine VO (Ec (x1 := (⟨Z.Signed, (⟨2, 0, K0, []⟩ : Formula)⟩ : kz)) (ys := [(.int .i64 Z.Signed.jr.Kind), (.string Z.Signed.jr.Head.js), (.string Z.Signed.jr.Head.jy), (.string Z.Signed.jr.ky), (.string Z.Signed.jr.B.js), (.string Z.Signed.jr.B.jy), (.string Z.Signed.jr.C.js), (.string Z.Signed.jr.C.jy), (.string Z.Signed.jr.kF), g0, (.int .i64 Z.jx.Op), (.int .i64 Z.jx.K), (.string Z.jx.jq.js), (.string Z.jx.jq.jy), g1]) Bj jZ b d8 rfl rfl e6 rfl e5 h3 (ki d7) rfl (kc.mk ⟨g0, (.slice none 0 0), rfl, h8, (Sl.nil _ _ _)⟩) aB dc (fun m6 l5 b g8 => lr (V (jw d4 (jz b.has (Ma Mh) b8 rfl er cQ)) ?_)))
   replace b := b.perm (Nb (Pr (Pb Pz)) Nz)
   refine VO (jL (.agg b8.toArray) (b8.toArray) b d rfl cQ oc nb rfl (fun m7 b => Wa (ln ?_)))
   replace b := b.ju (Kb (Kr (Db St)))
   refine jU ?_
   obtain rfl := sj g
   refine oD (v0 := (.agg b8.toArray)) (v1 := (.bool true)) rfl d (jz b.has Mh b8 rfl er cQ) rfl ?_
   replace b := b.perm (Nr (Qb Qz) Nz)
   obtain ⟨n8, b, m, P, h9⟩ := ST.so jZ b g8
   exact ⟨_, _, _, rfl, (b.lM Sn), (l.trans m), (O.trans P), (ST.kA b (ma.mem Sn)), (.slice b9 c3.length c1), L, q, d3, d2, f4, rfl, rfl, h9, (D.mono lT.mono (l.trans m)), (c.mono jZ.mono (l.trans m)), (u.mono lT.mono (l.trans m)), (t.mono jB.mono (l.trans m)), (N.mono vT.mono (l.trans m))⟩
  refine bC g (fun e4 g => ?_) (fun e4 g => ?_)
  ·refine V (Gr (i := 1) iQ sizeOf245 rfl (RC (j := 1) e4 rfl) dc dc rfl) (VB b Mh rfl rfl isAgg245 (Wa (ln ?_)))
   replace b := b.ju (Db St)
   refine sg (Wm (Wn (Wf qM (VB b (Mt (Mt Mh)) rfl rfl fK (V (rH (by exact ua f9) rfl) (bS g fun i6 h6 g => VE (Eg b call184 (sv q a.Client.jH (.func (.func 185) #[] #[F]) (fun (x : kz) => oY x a2) _ _ (c.mono jZ.mono b.jD) ⟨185, #[], #[F], rfl, call185, fun W x vs r hs hR hm => by obtain ⟨_, rfl, e2⟩ := hR; obtain ⟨u0, u1, rfl, k0, k1⟩ := e2.out; exact (AL x u0 u1 c0 a2 r W k0 k1 (At.of (hs _ _ (b.at_ (Mt Mh))) _ rfl) hm).li⟩ h6) (fun m8 b => Wa (ln ?_)))))))))
   replace b := b.ju (Kb (Db St))
   refine jK (sg (Wm (Wi rfl (ln (CI g rfl (fun h2 g => ?_) (fun h2 g => ?_))))))
   ·refine sg (V (jw d4 (jz b.has (Mt Mh) a0 rfl er cQ)) (VO (jL (.agg a0.toArray) (a0.toArray) b d rfl cQ oc nb rfl (fun m9 b => Wa (ln ?_)))))
    replace b := b.ju (Kb (Db St))
    refine jU (kj ?_)
    obtain rfl := sj g
    exact oD (v0 := (.agg a0.toArray)) (v1 := (.bool false)) rfl d (jz b.has Mh a0 rfl er cQ) rfl ⟨_, _, _, rfl, (b.lM Sn), (kd.refl _), Lo.refl, (ST.kA b (ma.mem Sn)), s, L, q, d3, d2, f4, rfl, rfl, k, D, c, u, t, N⟩
   refine kg (Wm (Wm (Wn (Wf qM (VB b (Mt Mh) rfl rfl fK (bS g fun c5 h7 g => ?_))))))
   refine VE (eD b (bB _) call186 (fun hh => lB.li (xk q a.Client.jH _ _ hh (c.mono jZ.mono (kd.refl _)) h7)) ?_ (L0 := []))
   rintro _ n4 n9 j8 b n R ⟨l2, k2, c9, rfl, d1⟩
   obtain rfl := c9.symm
   replace b := b.perm (Tr Tn)
   refine Wn (Wf qM ?_)
   obtain ⟨b0, b1, rfl⟩ := d1.form
   let c2 := (C2 a.js.Name Q a.js.jH.length U H a.js.ke.length K a.Client.Name b0 c5.length b1 I a.Client.ke.length M a.Formula.Op a.Formula.K a.Formula.jq.js a.Formula.jq.jy J a.Formula.Kids.length z a.sI a.mG.uU a.mG.uV a.nD a.pP a.ow y a.Keys.length B)
   replace b := b.perm (Nb (Pr (Pb Pz)) Nz)
   refine VO (jL (.slice b0 c5.length b1) (c2.toArray) b rfl rfl sizeOf107 oc nb rfl (fun k3 b => lr (Wm (Wn (Wf qM (VB b Mh rfl rfl fK (Wm (V (kZ (v := (.agg Bj.toArray)) (lJ rfl) (kE aM aX (qm _ aX) kr)) (bS g fun G d0 g => VQ (kN (i := i6) kc.out cP cU rfl rfl d1 (kk d0) (ki d0)) (fun k9 ⟨_, ⟨e8, e9, rfl, f2, j5⟩, e0, d9⟩ => VQ (HA [(.int .i64 G.jx.Op), (.int .i64 G.jx.K), (.string G.jx.jq.js), (.string G.jx.jq.jy), e9] BO rfl e0 (d9).f rfl) (fun l0 ⟨j4, f1⟩ => ?_)))))))))))
   replace b := b.perm (Nr (Qb Qz) Nz)
   refine VO (Ec (x1 := (⟨G.Signed, (⟨2, 0, K0, []⟩ : Formula)⟩ : kz)) (ys := [(.int .i64 G.Signed.jr.Kind), (.string G.Signed.jr.Head.js), (.string G.Signed.jr.Head.jy), (.string G.Signed.jr.ky), (.string G.Signed.jr.B.js), (.string G.Signed.jr.B.jy), (.string G.Signed.jr.C.js), (.string G.Signed.jr.C.jy), (.string G.Signed.jr.kF), e8, (.int .i64 G.jx.Op), (.int .i64 G.jx.K), (.string G.jx.jq.js), (.string G.jx.jq.jy), e9]) Bj jZ b d1 rfl rfl e0 rfl d9 f1 (ki d0) rfl (kc.mk ⟨e8, (.slice none 0 0), rfl, f2, (Sl.nil _ _ _)⟩) aB dc (fun k4 j9 b f0 => lr (V (jw d4 (jz b.has (Ma Mh) c2 rfl er cQ)) ?_)))
   replace b := b.perm (Nb (Pr (Pb Pz)) Nz)
   refine VO (jL (.agg c2.toArray) (c2.toArray) b d rfl cQ oc nb rfl (fun k5 b => Wa (ln ?_)))
   replace b := b.ju (Kb (Kr (Db St)))
   refine jU ?_
   obtain rfl := sj g
   refine oD (v0 := (.agg c2.toArray)) (v1 := (.bool true)) rfl d (jz b.has Mh c2 rfl er cQ) rfl ?_
   replace b := b.perm (Nr (Qb Qz) Nz)
   obtain ⟨l3, b, a9, h, f3⟩ := ST.so jZ b f0
   exact ⟨_, _, _, rfl, (b.lM Sn), (n.trans a9), (R.trans h), (ST.kA b (ma.mem Sn)), s, L, (.slice b0 c5.length b1), d3, d2, f4, rfl, rfl, (k.mono jZ.mono (n.trans a9)), (D.mono lT.mono (n.trans a9)), f3, (u.mono lT.mono (n.trans a9)), (t.mono jB.mono (n.trans a9)), (N.mono vT.mono (n.trans a9))⟩
  cases g
 refine bC A (fun a5 A => ?_) (fun a5 A => ?_)
 ·refine un a5 (un a5 (un a5 (un a5 (V (jM (cB a5) rfl) ?_))))
  obtain rfl := sj A
  exact d5 _ _ ⟨_, (b.ju St), rfl, rfl, rfl, rfl, rfl, rfl⟩
 refine ug a5 (jE rfl) (ug a5 (jE rfl) (ug a5 (Aq iQ rfl) (ug a5 (kx rfl rfl rfl) (V (jN (cB a5) rfl) ?_))))
 obtain rfl := sj A
 exact d5 _ _ ⟨_, (b.ju St), rfl, rfl, rfl, rfl, rfl, rfl⟩
theorem AG (a : nf) (x z i u j D : Value) (r : Bool) (w : World) (t : Sl kc 15 (hp w) x a.js.jH) (y : Sl kX 8 (hp w) z a.js.ke) (c : Sl kc 15 (hp w) i a.Client.jH) (k : Sl kX 8 (hp w) u a.Client.ke) (g : Sl jt 5 (hp w) j a.Formula.Kids) (B : Sl qa 2 (hp w) D a.Keys) (hm : pC a = some r) :
  jS false Tryz.prog 78 [(.agg #[(.string a.js.Name), x, z, (.string a.Client.Name), i, u, (.int .i64 a.Formula.Op), (.int .i64 a.Formula.K), (.string a.Formula.jq.js), (.string a.Formula.jq.jy), j, (.int .i64 a.sI), (.int .i64 a.mG.uU), (.int .i64 a.mG.uV), (.int .i64 a.nD), (.int .i64 a.pP), (.int .i64 a.ow), D])] w (.bool r) := by
 refine cG 16 func78 rfl (fun b => sg ?_)
 obtain ⟨K, U, rfl⟩ := t.form
 obtain ⟨M, Y, rfl⟩ := y.form
 obtain ⟨N, Z, rfl⟩ := c.form
 obtain ⟨Q, h, rfl⟩ := k.form
 obtain ⟨T, I, rfl⟩ := g.form
 obtain ⟨H, J, rfl⟩ := B.form
 refine VE (km b rfl (fun q v b => Wa (lr (VA b Mh (C2 a.js.Name K a.js.jH.length U M a.js.ke.length Y a.Client.Name N a.Client.jH.length Z Q a.Client.ke.length h a.Formula.Op a.Formula.K a.Formula.jq.js a.Formula.jq.jy T a.Formula.Kids.length I a.sI a.mG.uU a.mG.uV a.nD a.pP a.ow H a.Keys.length J) er cQ (bS hm fun A a3 hm => ?_)))))
 refine VE (zI b (bB _) call76 (fun _ _ _ _ => (zW a (.slice K a.js.jH.length U) (.slice M a.js.ke.length Y) (.slice N a.Client.jH.length Z) (.slice Q a.Client.ke.length h) (.slice T a.Formula.Kids.length I) (.slice H a.Keys.length J) _ _ (t.mono jZ.mono b.jD) (y.mono lT.mono b.jD) (c.mono jZ.mono b.jD) (k.mono lT.mono b.jD) (g.mono jB.mono b.jD) (B.mono vT.mono b.jD) a3)) (fun s E O n b m l d a2 => ?_) (L0 := []))
 obtain ⟨F, p, L, a9, G, rfl, a4, a5⟩ := a2
 replace G := G.symm; subst G
 replace b := b.perm (Tr (Tr Tn))
 refine Wm (Wx rfl (Wx rfl (Wa (Wa (ln ?_)))))
 replace b := b.ju (Kr (Kr (Db St)))
 refine sg (Wm (V (mI aI rfl a4) (Wm (V (mI aI rfl a5) (Wi rfl (Wi rfl (Wa (ln ?_))))))))
 exact jU (rQ hm b)
set_option maxHeartbeats 1000000 in
theorem H9 (r : Bool) (w : World) (hm : vp  = some r) :
  jS false Tryz.prog 72 [] w (.bool r) := by
 let dy : Value := (.agg (jv IH).toArray)
 let dx : Value := (.agg (jv Dd).toArray)
 refine cG 86 func72 rfl (fun b => sg (Wa (lr (V (kZ (v := (.agg (jA K7).toArray)) (nY rfl rfl) (kE eH cZ (G7 _ cZ) kr)) (V (kZ (v := dx) (El rfl rfl rfl) (kE cH dX (NL _ dX) kr)) (VE (kf b cH (fun W2 b1 b => VO (jL dx ((jv Dd).toArray) b rfl rfl aJ (mT Dd) nb rfl (fun W3 b => ln (jK ?_)))))))))))
 refine jI (V (kZ (v := (.agg (jA K9).toArray)) (nY rfl rfl) (kE eH cZ (G7 _ cZ) kr)) (V (kZ (v := dy) (El rfl rfl rfl) (kE cH dX (NL _ dX) kr)) (VE (kf b cH (fun W5 b4 b => VO (jL dy ((jv IH).toArray) b rfl rfl aJ (mT IH) nb rfl (fun W6 b => lr (Wa (ln (jK ?_))))))))))
 replace b := b.drew
 have d := b.has.ju (Kb (Kb Sn))
 refine kJ d kw (X 0 rfl d (jE rfl) (XH 1 rfl d (fun _ R => jw rfl (jz R Mh (jv IH) rfl bM aJ)) (X 2 rfl d (jC qf rfl) (XH 3 rfl d (fun _ R => jw rfl (jz R (Mt Mh) (jA K7) rfl bG aQ)) (X 6 rfl d (jE rfl) (XH 7 rfl d (fun _ R => jw rfl (jz R (Mt Mh) (jv Dd) rfl bM aJ)) (X 8 rfl d (jC qf rfl) (XH 9 rfl d (fun _ R => jw rfl (jz R Mh (jA K9) rfl bG aQ)) (PJ hm (fun g E W => ∃ d4 k5 i5 k6 i6 i7 i8 i9 j0 j3 j4 j5 j6 l m4, kd (hp w) l ∧ ST false ku w W l ((d4, Ob #[(.string g.2.2.2.2.2.2.2.2.2.2.2.2.2.2.2.2.1), i9, j0, (.string g.2.2.2.2.2.2.2.2.2.2.2.2.2.2.2.2.2.2.2.1), j3, j4, (.int .i64 g.2.2.2.2.2.2.2.2.2.2.2.2.2.2.2.2.2.2.2.2.2.2.1), (.int .i64 g.2.2.2.2.2.2.2.2.2.2.2.2.2.2.2.2.2.2.2.2.2.2.2.1), (.string g.2.2.2.2.2.2.2.2.2.2.2.2.2.2.2.2.2.2.2.2.2.2.2.2.1.js), (.string g.2.2.2.2.2.2.2.2.2.2.2.2.2.2.2.2.2.2.2.2.2.2.2.2.1.jy), j5, (.int .i64 g.2.2.2.2.2.2.2.2.2.2.2.2.2.2.2.2.2.2.2.2.2.2.2.2.2.2.1), (.int .i64 g.2.2.2.2.2.2.2.2.2.2.2.2.2.2.2.2.2.2.2.2.2.2.2.2.2.2.2.1.uU), (.int .i64 g.2.2.2.2.2.2.2.2.2.2.2.2.2.2.2.2.2.2.2.2.2.2.2.2.2.2.2.1.uV), (.int .i64 g.2.2.2.2.2.2.2.2.2.2.2.2.2.2.2.2.2.2.2.2.2.2.2.2.2.2.2.2.1), (.int .i64 g.2.2.2.2.2.2.2.2.2.2.2.2.2.2.2.2.2.2.2.2.2.2.2.2.2.2.2.2.2.1), (.int .i64 g.2.2.2.2.2.2.2.2.2.2.2.2.2.2.2.2.2.2.2.2.2.2.2.2.2.2.2.2.2.2.1), j6] 116) :: ((b4, Ol (jv IH) 53) :: ((b1, Ol (jv Dd) 53) :: m4))) ∧ E 1 = (.pointer (some ⟨b1, 0, none⟩)) ∧ E 4 = (.pointer (some ⟨d4, 0, none⟩)) ∧ E 29 = (.agg #[(.string g.1), k5, i5, (.string g.2.2.2.1), k6, i6, (.int .i64 g.2.2.2.2.2.2.1), (.int .i64 g.2.2.2.2.2.2.2.1), (.string g.2.2.2.2.2.2.2.2.1.js), (.string g.2.2.2.2.2.2.2.2.1.jy), i7, (.int .i64 g.2.2.2.2.2.2.2.2.2.2.1), (.int .i64 g.2.2.2.2.2.2.2.2.2.2.2.1.uU), (.int .i64 g.2.2.2.2.2.2.2.2.2.2.2.1.uV), (.int .i64 g.2.2.2.2.2.2.2.2.2.2.2.2.1), (.int .i64 g.2.2.2.2.2.2.2.2.2.2.2.2.2.1), (.int .i64 g.2.2.2.2.2.2.2.2.2.2.2.2.2.2.1), i8]) ∧ Sl kc 15 l k5 g.2.1 ∧ Sl kX 8 l i5 g.2.2.1 ∧ Fr w.heap.size i5 ∧ Sl kc 15 l k6 g.2.2.2.2.1 ∧ Sl kX 8 l i6 g.2.2.2.2.2.1 ∧ Fr w.heap.size i6 ∧ Sl jt 5 l i7 g.2.2.2.2.2.2.2.2.2.1 ∧ Fr w.heap.size i7 ∧ Sl qa 2 l i8 g.2.2.2.2.2.2.2.2.2.2.2.2.2.2.2.1 ∧ Fr w.heap.size i8 ∧ Sl kc 15 l i9 g.2.2.2.2.2.2.2.2.2.2.2.2.2.2.2.2.2.1 ∧ Fr w.heap.size i9 ∧ Sl kX 8 l j0 g.2.2.2.2.2.2.2.2.2.2.2.2.2.2.2.2.2.2.1 ∧ Fr w.heap.size j0 ∧ Sl kc 15 l j3 g.2.2.2.2.2.2.2.2.2.2.2.2.2.2.2.2.2.2.2.2.1 ∧ Fr w.heap.size j3 ∧ Sl kX 8 l j4 g.2.2.2.2.2.2.2.2.2.2.2.2.2.2.2.2.2.2.2.2.2.1 ∧ Fr w.heap.size j4 ∧ Sl jt 5 l j5 g.2.2.2.2.2.2.2.2.2.2.2.2.2.2.2.2.2.2.2.2.2.2.2.2.2.1 ∧ Fr w.heap.size j5 ∧ Sl qa 2 l j6 g.2.2.2.2.2.2.2.2.2.2.2.2.2.2.2.2.2.2.2.2.2.2.2.2.2.2.2.2.2.2.2 ∧ Fr w.heap.size j6) (bm 15 16383) 1 ?_ (fun g I h0 => ?_))))))))))
 ·rintro ⟨a3, u, x, a4, y, z, a5, a6, k, B, a7, t, a8, a9, b0, D, bi, al, am, bj, an, ao, bk, bl, bn, ap, bo, bp, bq, bs, bt, aq⟩ E W ⟨d4, k5, i5, k6, i6, i7, i8, i9, j0, j3, j4, j5, j6, l, m4, j7, b, n9, O, u4, e2, e3, w3, e4, e5, w4, e6, w5, e7, w6, x3, w7, x4, w8, x5, w9, x6, x0, x7, x1, x8, x2⟩ F
  let dv : Value := (.pointer (some ⟨d4, 0, none⟩))
  let g6 := (⟨(⟨a3, u, x⟩ : kI), (⟨a4, y, z⟩ : kI), (⟨a5, a6, k, B⟩ : Formula), a7, t, a8, a9, b0, D⟩ : nf)
  obtain ⟨J, U, rfl⟩ := e2.form
  let dn : Value := (.slice J u.length U)
  obtain ⟨K, Y, rfl⟩ := e3.form
  let dp : Value := (.slice K x.length Y)
  obtain ⟨M, Z, rfl⟩ := e4.form
  let dq : Value := (.slice M y.length Z)
  obtain ⟨N, a0, rfl⟩ := e5.form
  let dk : Value := (.slice N z.length a0)
  obtain ⟨Q, a1, rfl⟩ := e6.form
  let dl : Value := (.slice Q B.length a1)
  obtain ⟨T, a2, rfl⟩ := e7.form
  let dm : Value := (.slice T D.length a2)
  let g5 := (C2 a3 J u.length U K x.length Y a4 M y.length Z N z.length a0 a5 a6 k.js k.jy Q B.length a1 a7 t.uU t.uV a8 a9 b0 T D.length a2)
  refine XO 14 rfl (jL (.agg g5.toArray) (g5.toArray) b O u4 cQ oc nb rfl (fun z0 b => ?_))
  have d := b.has.tH j7 (Db (Kb (Kb Sn)))
  refine ⟨d, (kW kr (jF ?_))⟩
  replace b := b.ju (Kb (Db St))
  refine sg (V (jw O (jz b.has Mh g5 rfl er cQ)) (bS F fun ar r9 F => ?_))
  refine VE (zI b (bB _) call76 (fun _ _ _ _ => (zW g6 dn dp dq dk dl dm _ _ (e2.mono jZ.mono b.jD) (e3.mono lT.mono b.jD) (e4.mono jZ.mono b.jD) (e5.mono lT.mono b.jD) (e6.mono jB.mono b.jD) (e7.mono vT.mono b.jD) r9)) (fun z1 ay cv x9 b i cS aE q3 => ?_) (L0 := []))
  obtain ⟨cc, y8, cd, y9, h5, rfl, t0, t1⟩ := q3
  replace h5 := h5.symm; subst h5
  replace b := b.perm (Tr (Tr Tn))
  refine Wm (Wx rfl (Wx rfl (Wa (Wa (lr (V (jw O (jz b.has (Ma (Ma Mh)) g5 rfl er cQ)) (bS F fun au s0 F => ?_)))))))
  refine VE (zI b (bB _) call74 (fun _ _ _ _ => (zM g6 dn dp dq dk dl dm _ _ (e2.mono jZ.mono (i.trans b.jD)) (e3.mono lT.mono (i.trans b.jD)) (e4.mono jZ.mono (i.trans b.jD)) (e5.mono lT.mono (i.trans b.jD)) (e6.mono jB.mono (i.trans b.jD)) (e7.mono vT.mono (i.trans b.jD)) s0)) (fun z2 az cw y0 b j eg aE q4 => ?_) (L0 := []))
  obtain ⟨v8, u0, q2, n2, h6, rfl, t2, t3⟩ := q4
  replace h6 := h6.symm; subst h6
  replace b := b.perm (Tr (Tr Tn))
  refine Wm (Wx rfl (Wx rfl (Wa (Wa (lr (V (jw O (jz b.has (Ma (Ma (Ma (Ma Mh)))) g5 rfl er cQ)) (V (jw n9 (jz b.has (Ma (Ma (Ma (Ma (Mt Mh))))) (jv Dd) rfl bM aJ)) (bS F fun a s1 F => ?_))))))))
  let du : Value := (.int .i64 ((a.1).sI))
  let dt : Value := (.int .i64 ((a.1).pP))
  let ds : Value := (.int .i64 ((a.1).ow))
  let dr : Value := (.int .i64 ((a.1).nD))
  let dj : Value := (.string (((a.1).js).Name))
  let di : Value := (.int .i64 (((a.1).mG).uV))
  let dh : Value := (.int .i64 (((a.1).mG).uU))
  let dg : Value := (.int .i64 (((a.1).Formula).K))
  let df : Value := (.string (((a.1).Client).Name))
  let de : Value := (.int .i64 (((a.1).Formula).Op))
  let db := (((a.1).Formula).jq)
  let ea : Value := (.string (db.jy))
  let dz : Value := (.string (db.js))
  refine VE (Kz b (bB _) call81 (fun hH m h n => (CU g6 dn dp dq dk dl dm 1 Dd _ _ ⟨hH, m, h⟩ (e2.mono jZ.mono (i.trans j)) (e3.mono lT.mono (i.trans j)) (e4.mono jZ.mono (i.trans j)) (e5.mono lT.mono (i.trans j)) (e6.mono jB.mono (i.trans j)) (e7.mono vT.mono (i.trans j)) s1)) (fun z3 ba cx y1 b G eh q5 => ?_) (L0 := []))
  obtain ⟨ce, cf, cg, ch, ci, cj, h7, rfl, k7, k8, k9, l0, l1, l2⟩ := q5
  replace h7 := h7.symm; subst h7
  replace b := b.perm Tn
  refine Wm (Wx rfl (Wx rfl (VE (kf b fC (fun z4 L b => ?_)))))
  let l7 : Value := (.pointer (some ⟨L, 0, none⟩))
  obtain ⟨c2, c8, rfl⟩ := k7.form
  let w2 : Value := (.slice c2 (((a.1).js).jH).length c8)
  obtain ⟨c3, c9, rfl⟩ := k8.form
  let da : Value := (.slice c3 (((a.1).js).ke).length c9)
  obtain ⟨c4, d0, rfl⟩ := k9.form
  let j1 : Value := (.slice c4 (((a.1).Client).jH).length d0)
  obtain ⟨c5, d1, rfl⟩ := l0.form
  let aj : Value := (.slice c5 (((a.1).Client).ke).length d1)
  obtain ⟨c6, d2, rfl⟩ := l1.form
  let j2 : Value := (.slice c6 (((a.1).Formula).Kids).length d2)
  obtain ⟨c7, d3, rfl⟩ := l2.form
  let dd : Value := (.slice c7 ((a.1).Keys).length d3)
  let b8 := (#[dj, w2, da, df, j1, aj, de, dg, dz, ea, j2, du, dh, di, dr, dt, ds, dd] : Array Value)
  refine VO (jL (.agg #[dj, w2, da, df, j1, aj, de, dg, dz, ea, j2, du, dh, di, dr, dt, ds, dd]) (#[dj, w2, da, df, j1, aj, de, dg, dz, ea, j2, du, dh, di, dr, dt, ds, dd]) b rfl rfl cQ oc nb rfl (fun z5 b => Wa (lr (V (jw O (jz b.has (Mt (Ma (Ma (Ma (Ma Mh))))) g5 rfl er cQ)) (V (jw n9 (jz b.has (Mt (Ma (Ma (Ma (Ma (Mt Mh)))))) (jv Dd) rfl bM aJ)) (bS F fun c s2 F => ?_))))))
  let dw := (((c.1).Formula).jq)
  refine VE (Kz b (bB _) call81 (fun hH m h n => (CU g6 dn dp dq dk dl dm 0 Dd _ _ ⟨hH, m, h⟩ (e2.mono jZ.mono ((i.trans j).trans G)) (e3.mono lT.mono ((i.trans j).trans G)) (e4.mono jZ.mono ((i.trans j).trans G)) (e5.mono lT.mono ((i.trans j).trans G)) (e6.mono jB.mono ((i.trans j).trans G)) (e7.mono vT.mono ((i.trans j).trans G)) s2)) (fun z6 bb P y2 b H en q6 => ?_) (L0 := []))
  obtain ⟨ck, cl, cm, cn, co, cp, h8, rfl, t4, t5, t6, t7, t8, t9⟩ := q6
  replace h8 := h8.symm; subst h8
  replace b := b.perm Tn
  refine Wm (Wx rfl (Wx rfl (VE (kf b fC (fun z7 ak b => ?_)))))
  obtain ⟨l8, n3, rfl⟩ := t4.form
  let ee : Value := (.slice l8 (((c.1).js).jH).length n3)
  obtain ⟨l9, n4, rfl⟩ := t5.form
  obtain ⟨m0, n5, rfl⟩ := t6.form
  let ec : Value := (.slice m0 (((c.1).Client).jH).length n5)
  obtain ⟨m1, n6, rfl⟩ := t7.form
  let ef : Value := (.slice m1 (((c.1).Client).ke).length n6)
  obtain ⟨m2, n7, rfl⟩ := t8.form
  let ed : Value := (.slice m2 (((c.1).Formula).Kids).length n7)
  obtain ⟨m3, n8, rfl⟩ := t9.form
  refine VO (jL (.agg #[(.string (((c.1).js).Name)), ee, (.slice l9 (((c.1).js).ke).length n4), (.string (((c.1).Client).Name)), ec, ef, (.int .i64 (((c.1).Formula).Op)), (.int .i64 (((c.1).Formula).K)), (.string (dw.js)), (.string (dw.jy)), ed, (.int .i64 ((c.1).sI)), (.int .i64 (((c.1).mG).uU)), (.int .i64 (((c.1).mG).uV)), (.int .i64 ((c.1).nD)), (.int .i64 ((c.1).pP)), (.int .i64 ((c.1).ow)), (.slice m3 ((c.1).Keys).length n8)]) (#[(.string (((c.1).js).Name)), ee, (.slice l9 (((c.1).js).ke).length n4), (.string (((c.1).Client).Name)), ec, ef, (.int .i64 (((c.1).Formula).Op)), (.int .i64 (((c.1).Formula).K)), (.string (dw.js)), (.string (dw.jy)), ed, (.int .i64 ((c.1).sI)), (.int .i64 (((c.1).mG).uU)), (.int .i64 (((c.1).mG).uV)), (.int .i64 ((c.1).nD)), (.int .i64 ((c.1).pP)), (.int .i64 ((c.1).ow)), (.slice m3 ((c.1).Keys).length n8)]) b rfl rfl cQ oc nb rfl (fun z8 b => Wa (ln ?_)))
  replace b := b.ju (Db (Kb (Kr (Kr (Kr (Kr (Kb (Db St))))))))
  refine sg (Wm (V (mI aI rfl t0) (Wi rfl (Wm (LJ F (fun q1 E W => ∃ m5, ST false ku w W P ((L, Obj.cells b8 116 (0, 0)) :: ((d4, Ol g5 116) :: (u0 ++ (n2 ++ m5)))) ∧ E 4 = dv ∧ E 7 = v8 ∧ E 8 = q2 ∧ E 9 = l7 ∧ E 10 = (.bool a.2) ∧ E 12 = (.bool c.2) ∧ E 59 = (.bool q1)) 4 ?_ (fun q1 f6 k4 => ?_))))))
  ·rintro bu E W ⟨m5, b, o0, u5, o1, o2, o3, o4, u6⟩ r2
   refine Wh u6 (LJ r2 (fun q0 E W => ∃ m6, ST false ku w W P ((L, Obj.cells b8 116 (0, 0)) :: ((d4, Ol g5 116) :: (n2 ++ m6))) ∧ E 4 = dv ∧ E 8 = q2 ∧ E 9 = l7 ∧ E 10 = (.bool a.2) ∧ E 12 = (.bool c.2) ∧ E 64 = (.bool q0)) 4 ?_ (fun q0 f5 k3 => ?_))
   ·rintro bv E W ⟨m6, b, o5, u7, o6, o7, o8, u8⟩ r3
    refine Wh u8 (LJ r3 (fun p9 E W => ∃ m7, ST false ku w W P ((L, Obj.cells b8 116 (0, 0)) :: ((d4, Ol g5 116) :: m7)) ∧ E 4 = dv ∧ E 9 = l7 ∧ E 10 = (.bool a.2) ∧ E 12 = (.bool c.2) ∧ E 69 = (.bool p9)) 4 ?_ (fun p9 f4 k2 => ?_))
    ·rintro bw E W ⟨m7, b, u9, o9, p0, p1, v0⟩ r4
     refine Wh v0 (LJ r4 (fun p8 E W => ∃ m8, ST false ku w W P ((L, Obj.cells b8 116 (0, 0)) :: m8) ∧ E 9 = l7 ∧ E 10 = (.bool a.2) ∧ E 12 = (.bool c.2) ∧ E 74 = (.bool p8)) 4 ?_ (fun p8 d8 k1 => ?_))
     ·rintro bx E W ⟨m8, b, p2, v1, p3, v2⟩ r5
      refine Wh v2 (LJ r5 (fun p7 E W => ∃ m9, ST false ku w W P ((L, Obj.cells b8 116 (0, 0)) :: m9) ∧ E 9 = l7 ∧ E 12 = (.bool c.2) ∧ E 77 = (.bool p7)) 2 ?_ (fun p7 f3 k0 => ?_))
      ·rintro bz E W ⟨m9, b, p4, v3, v4⟩ r6
       refine Wh v4 (LJ r6 (fun p6 E W => ∃ n0, ST false ku w W P ((L, Obj.cells b8 116 (0, 0)) :: n0) ∧ E 9 = l7 ∧ E 81 = (.bool p6)) 3 ?_ (fun p6 f2 j9 => ?_))
       ·rintro ca E W ⟨n0, b, v5, v6⟩ r7
        refine Wh v6 (LJ r7 (fun p5 E W => ∃ n1, ST false ku w W P n1 ∧ E 85 = (.bool p5)) 3 ?_ (fun p5 d7 j8 => ?_))
        ·rintro cb E W ⟨n1, b, v7⟩ r8
         exact Wg v7 (lt (rQ r8 b))
        refine bC d7 (fun d6 d7 => ?_) (fun d6 d7 => ?_)
        ·refine ug d6 (jw v5 (jz b.has Mh [dj, w2, da, df, j1, aj, de, dg, dz, ea, j2, du, dh, di, dr, dt, ds, dd] rfl er cQ)) (bS d7 fun av s3 d7 => qI d6 (Eg b call78 (AG a.1 w2 da j1 aj j2 dd _ _ (k7.mono jZ.mono (H.trans b.jD)) (k8.mono lT.mono (H.trans b.jD)) (k9.mono jZ.mono (H.trans b.jD)) (l0.mono lT.mono (H.trans b.jD)) (l1.mono jB.mono (H.trans b.jD)) (l2.mono vT.mono (H.trans b.jD)) s3) (fun z9 b => V (jM (cB d6) rfl) ?_)))
         obtain rfl := sj d7
         exact j8 _ _ ⟨_, (b.ju (Db St)), rfl⟩
        refine un d6 (un d6 (V (jN (cB d6) rfl) ?_))
        obtain rfl := sj d7
        exact j8 _ _ ⟨_, (b.ju (Db St)), rfl⟩
       refine bC f2 (fun d5 f2 => ?_) (fun d5 f2 => ?_)
       ·refine ug d5 (jE v3) (ug d5 (nH rfl) (V (jM (cB d5) rfl) ?_))
        obtain rfl := sj f2
        exact j9 _ _ ⟨_, (b.ju St), p4, rfl⟩
       refine un d5 (un d5 (V (jN (cB d5) rfl) ?_))
       obtain rfl := sj f2
       exact j9 _ _ ⟨_, (b.ju St), p4, rfl⟩
      refine bC f3 (fun f0 f3 => ?_) (fun f0 f3 => ?_)
      ·refine ug f0 (jE v1) (V (jM (cB f0) rfl) ?_)
       obtain rfl := sj f3
       exact k0 _ _ ⟨_, (b.ju St), p2, p3, rfl⟩
      refine un f0 (V (jN (cB f0) rfl) ?_)
      obtain rfl := sj f3
      exact k0 _ _ ⟨_, (b.ju St), p2, p3, rfl⟩
     refine bC d8 (fun A d8 => ?_) (fun A d8 => ?_)
     ·refine ug A (jw u9 (jz b.has (Mt Mh) g5 rfl er cQ)) (bS d8 fun aw s4 d8 => qI A (Eg b call78 (AG g6 dn dp dq dk dl dm _ _ (e2.mono jZ.mono ((((i.trans j).trans G).trans H).trans b.jD)) (e3.mono lT.mono ((((i.trans j).trans G).trans H).trans b.jD)) (e4.mono jZ.mono ((((i.trans j).trans G).trans H).trans b.jD)) (e5.mono lT.mono ((((i.trans j).trans G).trans H).trans b.jD)) (e6.mono jB.mono ((((i.trans j).trans G).trans H).trans b.jD)) (e7.mono vT.mono ((((i.trans j).trans G).trans H).trans b.jD)) s4) (fun aa b => ug A (nH rfl) (V (jM (cB A) rfl) ?_))))
      obtain rfl := sj d8
      exact k1 _ _ ⟨_, (b.ju (Kb (Db St))), o9, p0, p1, rfl⟩
     refine un A (un A (un A (V (jN (cB A) rfl) ?_)))
     obtain rfl := sj d8
     exact k1 _ _ ⟨_, (b.ju (Kb (Db St))), o9, p0, p1, rfl⟩
    refine bC f4 (fun s f4 => ?_) (fun s f4 => ?_)
    ·refine ug s (jE u7) (ug s (mI aI rfl t3) (ug s (kx rfl rfl rfl) (V (jM (cB s) rfl) ?_)))
     obtain rfl := sj f4
     exact k2 _ _ ⟨_, (b.ju (Kb (Kb (Dr St)))), o5, o6, o7, o8, rfl⟩
    refine un s (un s (un s (V (jN (cB s) rfl) ?_)))
    obtain rfl := sj f4
    exact k2 _ _ ⟨_, (b.ju (Kb (Kb (Dr St)))), o5, o6, o7, o8, rfl⟩
   refine bC f5 (fun q f5 => ?_) (fun q f5 => ?_)
   ·refine ug q (jE u5) (ug q (mI aI rfl t2) (ug q (kx rfl rfl rfl) (V (jM (cB q) rfl) ?_)))
    obtain rfl := sj f5
    exact k3 _ _ ⟨_, (b.ju (Kb (Kb (Dr St)))), o0, o1, o2, o3, o4, rfl⟩
   refine un q (un q (un q (V (jN (cB q) rfl) ?_)))
   obtain rfl := sj f5
   exact k3 _ _ ⟨_, (b.ju (Kb (Kb (Dr St)))), o0, o1, o2, o3, o4, rfl⟩
  refine bC f6 (fun p f6 => ?_) (fun p f6 => ?_)
  ·refine ug p (jE rfl) (ug p (mI aI rfl t1) (ug p (kx rfl rfl rfl) (V (jM (cB p) rfl) ?_)))
   obtain rfl := sj f6
   exact k4 _ _ ⟨_, (b.ju (Kb (Sb (Pr (Pr (Pr (Pr Pz)))) (Kr (Kr (Dr (Dr St))))))), O, rfl, rfl, rfl, rfl, rfl, rfl⟩
  refine un p (un p (un p (V (jN (cB p) rfl) ?_)))
  obtain rfl := sj f6
  exact k4 _ _ ⟨_, (b.ju (Kb (Sb (Pr (Pr (Pr (Pr Pz)))) (Kr (Kr (Dr (Dr St))))))), O, rfl, rfl, rfl, rfl, rfl, rfl⟩
 refine BV 4 13 rfl rfl kr (.inl rfl) (.inl rfl) rfl rfl dc dc ?_ ?_
 ·refine bS I fun e1 s5 I => ?_
  refine Ft (args := [dy, (.agg (jA K7).toArray)]) (caps := #[]) [] _ b (bB _) rfl call172 (by exact we rfl rfl) (fun hH m h n => lB.li (tC IH K7 _ _ ⟨hH, m, h⟩  s5)) (fun ab bc cy y3 b c1 eI q7 => ?_)
  obtain ⟨cq, h9, rfl, i4⟩ := q7
  replace h9 := h9.symm; subst h9
  replace b := b.perm Tn
  have d := b.has.tH c1 (Kb (Kb Sn))
  refine ⟨d, ?_⟩
  obtain ⟨d9, e0, rfl⟩ := i4.form
  let eb : Value := (.slice d9 e1.length e0)
  refine X 5 rfl d (kZ (v := (.agg #[(.string K4), eb, (.slice none 0 0)])) (nY rfl rfl) (kE iA ei (FN _ ei) kr)) (BV 10 13 rfl rfl kr (.inl rfl) (.inl rfl) rfl rfl dc dc ?_ ?_)
  ·refine bS I fun h1 s6 I => ?_
   refine Ft (args := [dx, (.agg (jA K9).toArray)]) (caps := #[]) [] _ b (bB _) rfl call172 (by exact we rfl rfl) (fun hH m h n => lB.li (tC Dd K9 _ _ ⟨hH, m, h⟩  s6)) (fun ac bd v9 y4 b f1 eN q8 => ?_)
   obtain ⟨cr, i0, rfl, l3⟩ := q8
   replace i0 := i0.symm; subst i0
   replace b := b.perm Tn
   have d := b.has.tH (c1.trans f1) (Kb (Kb Sn))
   refine ⟨d, ?_⟩
   obtain ⟨f7, g1, rfl⟩ := l3.form
   refine X 11 rfl d (kZ (v := (.agg #[(.string K2), (.slice f7 h1.length g1), (.slice none 0 0)])) (nY rfl rfl) (kE iA ei (FN _ ei) kr)) (X 12 rfl d (kZ (v := (.agg (QF d9 e1.length e0 f7 h1.length g1).toArray)) (nY rfl rfl) (kE fC eL (KE _ eL) kr)) (XE 13 rfl (kf b fC (fun ad u1 b => ?_))))
   have d := b.has.tH (c1.trans f1) (Db (Kb (Kb Sn)))
   refine ⟨d, ?_⟩
   obtain rfl := sj I
   refine ni kr (h0 _ _ ⟨u1, eb, (.slice none 0 0), (.slice f7 h1.length g1), (.slice none 0 0), (.slice none 0 0), (.slice none 0 0), (.slice none 0 0), (.slice none 0 0), (.slice none 0 0), (.slice none 0 0), (.slice none 0 0), (.slice none 0 0), v9, _, (c1.trans f1), (b.ju St), rfl, rfl, rfl, (i4.mono jZ.mono f1), (Sl.nil _ _ _), (Fr.nil _), l3, (Sl.nil _ _ _), (Fr.nil _), (Sl.nil _ _ _), (Fr.nil _), (Sl.nil _ _ _), (Fr.nil _), (Sl.nil _ _ _), (Fr.nil _), (Sl.nil _ _ _), (Fr.nil _), (Sl.nil _ _ _), (Fr.nil _), (Sl.nil _ _ _), (Fr.nil _), (Sl.nil _ _ _), (Fr.nil _), (Sl.nil _ _ _), (Fr.nil _)⟩)
  ·refine kf b fC (fun ae u2 b => ?_)
   have d := b.has.tH c1 (Db (Kb (Kb Sn)))
   refine ⟨d, (bS I fun h2 s7 I => ?_)⟩
   refine XE 10 rfl (Kz b (bB _) call172 (fun hH m h n => lB.li (tC Dd K9 _ _ ⟨hH, m, h⟩  s7)) (fun af be w0 y5 b g7 eR q9 => ?_) (L0 := []))
   obtain ⟨cs, i1, rfl, l4⟩ := q9
   replace i1 := i1.symm; subst i1
   replace b := b.perm Tn
   have d := b.has.tH (c1.trans g7) (Db (Kb (Kb Sn)))
   refine ⟨d, ?_⟩
   obtain ⟨f8, g2, rfl⟩ := l4.form
   refine X 11 rfl d (kZ (v := (.agg #[(.string K2), (.slice f8 h2.length g2), (.slice none 0 0)])) (nY rfl rfl) (kE iA ei (FN _ ei) kr)) (X 12 rfl d (kZ (v := (.agg (QF d9 e1.length e0 f8 h2.length g2).toArray)) (nY rfl rfl) (kE fC eL (KE _ eL) kr)) ?_)
   obtain rfl := sj I
   refine ni kr (h0 _ _ ⟨u2, eb, (.slice none 0 0), (.slice f8 h2.length g2), (.slice none 0 0), (.slice none 0 0), (.slice none 0 0), (.slice none 0 0), (.slice none 0 0), (.slice none 0 0), (.slice none 0 0), (.slice none 0 0), (.slice none 0 0), w0, _, (c1.trans g7), (b.ju St), rfl, rfl, rfl, (i4.mono jZ.mono g7), (Sl.nil _ _ _), (Fr.nil _), l4, (Sl.nil _ _ _), (Fr.nil _), (Sl.nil _ _ _), (Fr.nil _), (Sl.nil _ _ _), (Fr.nil _), (Sl.nil _ _ _), (Fr.nil _), (Sl.nil _ _ _), (Fr.nil _), (Sl.nil _ _ _), (Fr.nil _), (Sl.nil _ _ _), (Fr.nil _), (Sl.nil _ _ _), (Fr.nil _), (Sl.nil _ _ _), (Fr.nil _)⟩)
 ·refine kf b fC (fun ag u3 b => ?_)
  have d := b.has.ju (Db (Kb (Kb Sn)))
  refine ⟨d, (bS I fun h3 s8 I => ?_)⟩
  refine XE 4 rfl (Kz b (bB _) call172 (fun hH m h n => lB.li (tC IH K7 _ _ ⟨hH, m, h⟩  s8)) (fun ah bf cz y6 b g8 fc r0 => ?_) (L0 := []))
  obtain ⟨ct, i2, rfl, l5⟩ := r0
  replace i2 := i2.symm; subst i2
  replace b := b.perm Tn
  have d := b.has.tH g8 (Db (Kb (Kb Sn)))
  refine ⟨d, ?_⟩
  obtain ⟨f9, g3, rfl⟩ := l5.form
  refine X 5 rfl d (kZ (v := (.agg #[(.string K4), (.slice f9 h3.length g3), (.slice none 0 0)])) (nY rfl rfl) (kE iA ei (FN _ ei) kr)) (bS I fun h4 s9 I => ?_)
  refine XE 10 rfl (Kz b (bB _) call172 (fun hH m h n => lB.li (tC Dd K9 _ _ ⟨hH, m, h⟩  s9)) (fun ai bh w1 y7 b g9 fo r1 => ?_) (L0 := []))
  obtain ⟨cu, i3, rfl, l6⟩ := r1
  replace i3 := i3.symm; subst i3
  replace b := b.perm Tn
  have d := b.has.tH (g8.trans g9) (Db (Kb (Kb Sn)))
  refine ⟨d, ?_⟩
  obtain ⟨g0, g4, rfl⟩ := l6.form
  refine X 11 rfl d (kZ (v := (.agg #[(.string K2), (.slice g0 h4.length g4), (.slice none 0 0)])) (nY rfl rfl) (kE iA ei (FN _ ei) kr)) (X 12 rfl d (kZ (v := (.agg (QF f9 h3.length g3 g0 h4.length g4).toArray)) (nY rfl rfl) (kE fC eL (KE _ eL) kr)) ?_)
  obtain rfl := sj I
  refine ni kr (h0 _ _ ⟨u3, (.slice f9 h3.length g3), (.slice none 0 0), (.slice g0 h4.length g4), (.slice none 0 0), (.slice none 0 0), (.slice none 0 0), (.slice none 0 0), (.slice none 0 0), (.slice none 0 0), (.slice none 0 0), (.slice none 0 0), (.slice none 0 0), w1, _, (g8.trans g9), (b.ju St), rfl, rfl, rfl, (l5.mono jZ.mono g9), (Sl.nil _ _ _), (Fr.nil _), l6, (Sl.nil _ _ _), (Fr.nil _), (Sl.nil _ _ _), (Fr.nil _), (Sl.nil _ _ _), (Fr.nil _), (Sl.nil _ _ _), (Fr.nil _), (Sl.nil _ _ _), (Fr.nil _), (Sl.nil _ _ _), (Fr.nil _), (Sl.nil _ _ _), (Fr.nil _), (Sl.nil _ _ _), (Fr.nil _), (Sl.nil _ _ _), (Fr.nil _)⟩)
theorem CT (k : Value) (u : List jr) (r : Int) (w : World) (j : Sl (Pl jv) 9 (hp w) k u) (hm : vA u = some r) :
  jS true Tryz.prog 21 [k] w (.int .i64 r) := by
 refine cG 54 func21 rfl (fun b => sg (Wa (lr (Wa (lS (Wm ?_))))))
 refine V (kK aI rfl j) (Wm (ln (kB (fun i E W => ∃ g t, (E 8 = .int .i64 (i : Nat) ∧ E 7 = .int .i64 (u.length : Nat)) ∧ ST true ku w W (hp w) t ∧ E 3 = (.int .i64 g) ∧ E 6 = k ∧ rk (u.drop i) g = some r) u.length j.len ⟨0, _, ⟨rfl, rfl⟩, (b.ju St), rfl, rfl, hm⟩ dc dc dc (fun _ _ _ h => by obtain ⟨_, _, l, _⟩ := h; exact l) ?_ ?_)))
 ·rintro I E W z ⟨g, t, ⟨d, m⟩, b, x, y, c⟩
  obtain ⟨a, J, G, D, H⟩ := kq z
  rw [G] at c
  refine bg (VQ (na (enc := jv) (i := (I : Int)) (x0 := a) aI aJ y d j (aH _) D) (fun Q B => V (jw rfl (jR b.has B bM aJ)) (VE (kf b cH (fun K N b => VO (jL (.agg (jv a).toArray) ((jv a).toArray) b rfl rfl aJ (mT a) nb rfl (fun M b => ln (jI (Wh x (Wf qf (Wf oQ (VB b Mh rfl rfl bV (V (oq bZ rfl) ?_)))))))))))))
  refine Wi rfl (Wf qf (Wf uj (VB b Mh rfl rfl bV (V (oq bZ rfl) (Wi rfl (Wf wm (VB b Mh rfl rfl bV (V (oq bZ rfl) (Wi rfl (Wf nz (Wf oQ (VB b Mh rfl rfl bV (V (oq bZ rfl) (Wi rfl ?_))))))))))))))
  refine Wf nz (Wf uj (VB b Mh rfl rfl bV (V (oq bZ rfl) (Wi rfl (Wf rR (Wf oQ (VB b Mh rfl rfl bV (V (oq bZ rfl) (Wi rfl (Wf rR (Wf uj (VB b Mh rfl rfl bV (V (oq bZ rfl) (Wi rfl ?_))))))))))))))
  refine Wf uf (VB b Mh rfl rfl bV (V (oq bZ rfl) (Wi rfl (Wi rfl (Wa (jW (ko (jF ?_))))))))
  replace b := b.ju (Db St)
  exact ⟨d, (IntKind.i64.wrap (g + (IntKind.i64.wrap ((IntKind.i64.wrap ((IntKind.i64.wrap ((IntKind.i64.wrap ((IntKind.i64.wrap ((IntKind.i64.wrap ((IntKind.i64.wrap ((IntKind.i64.wrap (20 + (a.Head.js.size : Int))) + (a.Head.jy.size : Int))) + (a.ky.size : Int))) + (a.B.js.size : Int))) + (a.B.jy.size : Int))) + (a.C.js.size : Int))) + (a.C.jy.size : Int))) + (a.kF.size : Int))))), _, ⟨rfl, m⟩, (b.ju St), rfl, y, (by rw [H]; exact c)⟩
 rintro E W ⟨g, t, ⟨d, m⟩, b, x, y, c⟩
 rw [aN] at c
 exact jF (sg (Wh x (Wa (lt (rQ c b)))))
theorem xD (H : Value) (Q : List Key) (u : Value) (J : List Signed) (r : Int) (w : World) (B : Sl qa 2 (hp w) H Q) (D : Sl ta 10 (hp w) u J) (hm : tV Q J = some r) :
  jS true Tryz.prog 35 [H, u] w (.int .i64 r) := by
 refine cG 45 func35 rfl (fun b => sg (Wa (lr (Wa (lS (Wm ?_))))))
 refine V (kK underlying49 rfl B) (Wm (ln (kB (fun i E W => ∃ t N, (E 12 = .int .i64 (i : Nat) ∧ E 11 = .int .i64 (Q.length : Nat)) ∧ ST true ku w W (hp w) N ∧ E 1 = u ∧ E 5 = (.int .i64 t) ∧ E 10 = H ∧ pV J (Q.drop i) t = some r) Q.length B.len ⟨0, _, ⟨rfl, rfl⟩, (b.ju St), rfl, rfl, rfl, hm⟩ dc dc dc (fun _ _ _ h => by obtain ⟨_, _, n, _⟩ := h; exact n) ?_ ?_)))
 ·rintro c3 E W b5 ⟨t, N, ⟨m, p⟩, b, U, Y, Z, g⟩
  obtain ⟨k, d4, b9, b7, c0⟩ := kq b5
  rw [b9] at g
  refine bg (VQ (lK (i := (c3 : Int)) (x0 := k) qa.out underlying49 sizeOf196 Z m B (aH _) b7) (fun d8 ⟨_, ⟨d9, rfl, a2⟩, b6⟩ => V (jw rfl (jR b.has b6 isAgg196 sizeOf196)) (VE (kf b zeroValue196 (fun d5 d7 b => ?_)))))
  obtain ⟨s, v, rfl⟩ := a2.form
  refine VO (jL (.agg #[(.string k.ky), (.slice s k.Key.length v)]) (#[(.string k.ky), (.slice s k.Key.length v)]) b rfl rfl sizeOf196 oc nb rfl (fun d6 b => ln (jI (Wh Y (Wf Pc (VB b Mh rfl rfl bV (V (oq bZ rfl) (Wi rfl (Wf Pn (VB b Mh rfl rfl isAgg54 (V (kK cW rfl a2) (Wi rfl (Wi rfl (Wa ?_))))))))))))))
  refine jW (ko (jF ?_))
  replace b := b.ju (Db St)
  exact ⟨m, (IntKind.i64.wrap (t + (IntKind.i64.wrap ((IntKind.i64.wrap (10 + (k.ky.size : Int))) + (k.Key.length : Int))))), _, ⟨rfl, p⟩, (b.ju St), U, rfl, Z, (by rw [c0]; exact g)⟩
 rintro E W ⟨t, N, ⟨m, p⟩, b, U, Y, Z, g⟩
 rw [aN] at g
 refine jF (jK (sg (Wh U (V (kK jd rfl D) (Wm (ln (CJ g (fun G E W => ∃ M, ST true ku w W (hp w) M ∧ E 5 = (.int .i64 G)) (fun G a5 => ?_) ?_)))))))
 ·refine kB (fun i E W => ∃ j x, (E 29 = .int .i64 (i : Nat) ∧ E 28 = .int .i64 (J.length : Nat)) ∧ ST true ku w W (hp w) x ∧ E 5 = (.int .i64 j) ∧ E 27 = u ∧ rf (J.drop i) j = some G) J.length D.len ⟨t, _, ⟨rfl, rfl⟩, (b.ju St), Y, rfl, a5⟩ dc dc dc (fun _ _ _ h => by obtain ⟨_, _, n, _⟩ := h; exact n) ?_ ?_
  ·rintro c1 E W a3 ⟨j, x, ⟨m, p⟩, b, y, z, c⟩
   obtain ⟨a, c4, a9, L, O⟩ := kq a3
   rw [a9] at c
   refine bg (VQ (lK (i := (c1 : Int)) (x0 := a) ta.out jd iW z m D (aH _) L) (fun d0 ⟨_, ⟨d1, rfl, I⟩, A⟩ => V (jw rfl (jR b.has A isAgg56 iW)) (VE (kf b jj (fun c5 c9 b => ?_)))))
   obtain ⟨K, T, rfl⟩ := I.form
   let a0 := (C6 a.jr.Kind a.jr.Head.js a.jr.Head.jy a.jr.ky a.jr.B.js a.jr.B.jy a.jr.C.js a.jr.C.jy a.jr.kF K a.Tag.length T)
   refine VO (jL (.agg a0.toArray) (a0.toArray) b rfl rfl iW oc nb rfl (fun c6 b => ln ?_))
   replace b := b.drew
   have d := b.has.ju (Kb Sn)
   refine kJ d kw (X 0 rfl d (jE y) (X 1 rfl d (jC xj rfl) (XH 2 rfl d (fun _ q => jw rfl (jz q Mh (jv a.jr) rfl bM aJ)) (X 5 rfl d (jC Qw rfl) (XH 6 rfl d (fun _ q => jw rfl (jO q Mh rfl isAgg54)) (X 7 rfl d (kK cW rfl I) (XE 3 rfl (jX (cs := (jv a.jr).toArray) b (lJ rfl) (lW aI aJ cH) (fun c7 P b => ?_)))))))))
   have d := b.has.ju (Db (Kb Sn))
   refine ⟨d, (bS c fun c2 F c => XE 4 rfl (Eg b call21 (CT (.slice (some ⟨P, 0, none⟩) 1 1) ([a.jr]) _ _ (Sl.lit (enc := jv) (l := [a.jr]) jV rfl nb rfl (b.at_ Mh)) F) (fun c8 b => ?_)))⟩
   have d := b.has.ju (Db (Kb Sn))
   refine ⟨d, (X 8 rfl d (kx rfl rfl rfl) (X 9 rfl d (kx rfl rfl rfl) (X 10 rfl d (nu rfl) (kW kr (ko (jF ?_))))))⟩
   replace b := b.ju (Db (Db St))
   exact ⟨m, (IntKind.i64.wrap (j + (IntKind.i64.wrap (c2 + (a.Tag.length : Int))))), _, ⟨rfl, p⟩, (b.ju St), rfl, z, (by rw [O]; exact c)⟩
  rintro E W ⟨j, x, ⟨m, p⟩, b, y, z, c⟩
  rw [aN] at c
  refine jF ?_
  obtain rfl := sj c
  exact ⟨_, (b.ju St), y⟩
 rintro d3 E W ⟨M, b, R⟩ a4
 exact sg (Wh R (Wa (lt (rQ a4 b))))
theorem DG (I : (List Formula) → Option Int) (N : ∀ (j : Value) (u : List Formula) (r : Int) (w : World) (t : Sl jt 5 (hp w) j u), I u = some r → jS false Tryz.prog 173 [j] w (.int .i64 r)) (j : Value) (u : List Formula) (r : Int) (w : World) (t : Sl jt 5 (hp w) j u) (hm : wq I u = some r) :
  jS false Tryz.prog 173 [j] w (.int .i64 r) := by
 refine cG 31 func173 rfl (fun l => sg (Wa (lr (Wa (lS (Wm ?_))))))
 refine V (kK aD rfl t) (Wm (ln (kB (fun i E W => ∃ x z, (E 8 = .int .i64 (i : Nat) ∧ E 7 = .int .i64 (u.length : Nat)) ∧ ST false ku w W (hp w) z ∧ E 3 = (.int .i64 x) ∧ E 6 = j ∧ rC I (u.drop i) x = some r) u.length t.len ⟨0, _, ⟨rfl, rfl⟩, (l.ju St), rfl, rfl, hm⟩ dc dc dc (fun _ _ _ h => by obtain ⟨_, _, p, _⟩ := h; exact p) ?_ ?_)))
 ·rintro Z E W M ⟨x, z, ⟨n, s⟩, l, D, G, g⟩
  obtain ⟨c, L, T, Q, U⟩ := kq M
  let a0 := ((c.jq.js.size : Int) + (c.jq.jy.size : Int))
  rw [T] at g
  refine bg (VQ (lK (i := (Z : Int)) (x0 := c) jt.out aD aB G n t (aH _) Q) (fun a5 ⟨_, ⟨F, rfl, H⟩, J⟩ => V (jw rfl (jR l.has J aG aB)) (VE (kf l aM (fun A a4 l => ?_)))))
  obtain ⟨y, B, rfl⟩ := H.form
  let q := (C1 c.Op c.K c.jq.js c.jq.jy y c.Kids.length B)
  refine VO (jL (.agg q.toArray) (q.toArray) l rfl rfl aB oc nb rfl (fun a2 l => ln ?_))
  replace l := l.drew
  have d := l.has.ju (Kb Sn)
  refine kJ d kw (X 0 rfl d (jE D) (X 1 rfl d (jC rB rfl) (X 2 rfl d (jC oQ rfl) (XH 3 rfl d (fun _ m => jw rfl (jO m Mh rfl bV)) (X 4 rfl d (oq bZ rfl) (X 5 rfl d (jC rB rfl) (X 6 rfl d (jC uj rfl) (XH 7 rfl d (fun _ m => jw rfl (jO m Mh rfl bV)) (X 8 rfl d (oq bZ rfl) (X 9 rfl d (kx rfl rfl rfl) (X 10 rfl d (Ih (k := .i64) (a := (IntKind.i64.wrap a0)) (b := 16) (v := (.int .i64 (IntKind.i64.wrap (Int.tdiv (IntKind.i64.wrap a0) 16)))) rfl rfl dc rfl) (X 11 rfl d (kx rfl rfl rfl) (X 12 rfl d (jC mO rfl) (XH 13 rfl d (fun _ m => jw rfl (jO m Mh rfl dB)) ?_))))))))))))))
  refine bS g fun Y K g => XE 14 rfl (Eg l call173 (N (.slice y c.Kids.length B) c.Kids _ _ (H.mono jB.mono l.jD) K) (fun a3 l => ?_))
  have d := l.has.ju (Kb Sn)
  refine ⟨d, (X 15 rfl d (kx rfl rfl rfl) (X 16 rfl d (kx rfl rfl rfl) (X 17 rfl d (nu rfl) (kW kr (ko (jF ?_))))))⟩
  replace l := l.ju (Db St)
  exact ⟨n, (IntKind.i64.wrap (x + (IntKind.i64.wrap ((IntKind.i64.wrap (1 + (IntKind.i64.wrap (Int.tdiv (IntKind.i64.wrap a0) 16)))) + Y)))), _, ⟨rfl, s⟩, (l.ju St), rfl, G, (by rw [U]; exact g)⟩
 rintro E W ⟨x, z, ⟨n, s⟩, l, D, G, g⟩
 rw [aN] at g
 exact jF (sg (Wh D (Wa (lt (rQ g l)))))
theorem xG : ∀ (n : Nat) (a : Value) (c : List Formula) (r : Int) (w : World) (g : Sl jt 5 (hp w) a c) (_ : ox n c = some r),
  jS false Tryz.prog 173 [a] w (.int .i64 r)
 | 0 => by intros; rename_i h; simp only [ox] at h; cases h
 | n + 1 => DG (ox n) (xG n)
set_option maxHeartbeats 1000000 in
theorem vB (x : kI) (J N : Value) (r : Int) (w : World) (y : Sl kc 15 (hp w) J x.jH) (G : Sl kX 8 (hp w) N x.ke) (hm : vz x = some r) :
  jS false Tryz.prog 102 [(.agg #[(.string x.Name), J, N])] w (.int .i64 r) := by
 refine cG 61 func102 rfl (fun d => sg ?_)
 obtain ⟨A1, c2, rfl⟩ := y.form
 obtain ⟨A3, c4, rfl⟩ := G.form
 let g6 := (C5 x.Name A1 x.jH.length c2 A3 x.ke.length c4)
 refine VE (km d rfl (fun W6 L d => Wa (lr (Wf wT (VB d Mh rfl rfl bV (V (oq bZ rfl) (Wa (lS ?_))))))))
 refine Wf qM (VB d Mh rfl rfl fK (V (kK cP rfl y) (Wm (ln (kB (fun i E W => ∃ I R, (E 14 = .int .i64 (i : Nat) ∧ E 13 = .int .i64 (x.jH.length : Nat)) ∧ ST false ku w W (hp w) ((L, Ol g6 110) :: R) ∧ E 1 = (.pointer (some ⟨L, 0, none⟩)) ∧ E 3 = (.int .i64 I) ∧ E 12 = (.slice A1 x.jH.length c2) ∧ ri x (x.jH.drop i) I = some r) x.jH.length y.len ⟨(x.Name.size : Int), _, ⟨rfl, rfl⟩, (d.ju St), rfl, rfl, rfl, hm⟩ dc dc dc (fun _ _ _ h => by obtain ⟨_, _, v, _⟩ := h; exact v) ?_ ?_)))))
 ·rintro d5 E W e1 ⟨I, R, ⟨q, A⟩, d, U, M, Y, H⟩
  obtain ⟨a, h9, e9, e8, f0⟩ := kq e1
  rw [e9] at H
  refine bg (VQ (lK (i := (d5 : Int)) (x0 := a) kc.out cP cU Y q y (aH _) e8) (fun j4 ⟨_, ⟨j8, j9, rfl, Q, T⟩, e2⟩ => V (jw rfl (jR d.has e2 gK cU)) (VE (kf d eP (fun i0 f4 d => ?_)))))
  obtain ⟨t, u, rfl⟩ := Q.form
  let g5 : Value := (.slice t a.Signed.Tag.length u)
  let b8 := (C6 a.Signed.jr.Kind a.Signed.jr.Head.js a.Signed.jr.Head.jy a.Signed.jr.ky a.Signed.jr.B.js a.Signed.jr.B.jy a.Signed.jr.C.js a.Signed.jr.C.jy a.Signed.jr.kF t a.Signed.Tag.length u)
  obtain ⟨g, j, rfl⟩ := T.form
  let d9 : Value := (.slice g a.jx.Kids.length j)
  let s := (C1 a.jx.Op a.jx.K a.jx.jq.js a.jx.jq.jy g a.jx.Kids.length j)
  let a0 := (C3 a.Signed.jr.Kind a.Signed.jr.Head.js a.Signed.jr.Head.jy a.Signed.jr.ky a.Signed.jr.B.js a.Signed.jr.B.jy a.Signed.jr.C.js a.Signed.jr.C.jy a.Signed.jr.kF t a.Signed.Tag.length u a.jx.Op a.jx.K a.jx.jq.js a.jx.jq.jy g a.jx.Kids.length j)
  refine VO (jL (.agg a0.toArray) (a0.toArray) d rfl rfl cU oc nb rfl (fun i1 d => ln ?_))
  replace d := d.drew
  have m := d.has.ju (Kb Sn)
  refine kJ m kw (X 0 rfl m (jE M) (X 1 rfl m (jC vI rfl) (XH 2 rfl m (fun _ p => jw rfl (jz p Mh b8 rfl isAgg56 iW)) (X 5 rfl m (jC BO rfl) (XH 6 rfl m (fun _ p => jw rfl (jz p Mh s rfl aG aB)) (PJ H (fun b4 E W => ∃ F b2 b9, ST false ku w W (hp w) ((f4, Ol a0 138) :: ((L, Ol g6 110) :: (b2 ++ b9))) ∧ E 1 = (.pointer (some ⟨L, 0, none⟩)) ∧ E 3 = (.int .i64 I) ∧ E 12 = (.slice A1 x.jH.length c2) ∧ E 13 = (.int .i64 (x.jH.length : Int)) ∧ E 14 = (.int .i64 (d5 : Int)) ∧ E 18 = (.int .i64 I) ∧ E 22 = (.int .i64 b4.1) ∧ E 25 = F ∧ kD 113 jt 5 (hp w) F b4.2 b2) (bm 13 255) 5 ?_ (fun b4 z Z => ?_)))))))
  ·rintro ⟨g7, g3⟩ E W ⟨F, b2, b9, d, f6, j3, f7, f8, f9, g0, g1, g2, e7⟩ O
   refine bS O fun g4 e3 O => XE 8 rfl (Eg d call173 ((xG jY) F g3 _ _ (e7.sl jB d.jD (fun b o n => d.at_ (Mt (Mt (Ml n))))) e3) (fun i2 d => ?_) (ha := Rr g2))
   have m := d.has.ju (Kb Sn)
   refine ⟨m, (X 9 rfl m (kx rfl rfl rfl) (X 10 rfl m (kx g1 rfl rfl) (X 11 rfl m (kx g0 rfl rfl) (X 12 rfl m (nu rfl) (kW kr (ko (jF ?_)))))))⟩
   replace d := d.ju (Db (Kb (Dr St)))
   exact ⟨f9, (IntKind.i64.wrap (I + (IntKind.i64.wrap (g7 + (IntKind.i64.wrap (20 * g4)))))), _, ⟨rfl, f8⟩, (d.ju St), f6, rfl, f7, (by rw [f0]; exact O)⟩
  refine BV 3 7 rfl rfl kr (.inl rfl) (.inl rfl) rfl rfl dc dc ?_ ?_
  ·refine jX (cs := b8.toArray) d (lJ rfl) (lW jd iW jj) (fun i3 b3 d => ?_)
   let d8 : Value := (.slice (some ⟨b3, 0, none⟩) 1 1)
   have m := d.has.ju (Db (Kb Sn))
   refine ⟨m, (BV 4 7 rfl rfl kr (.inl rfl) (.inl rfl) rfl rfl dc dc ?_ ?_)⟩
   ·refine bS z fun j5 e4 z => ED (args := [(.slice none 0 0), d8]) d rfl call35 (by exact we rfl rfl) (jS.li (xD (.slice none 0 0) ([]) d8 ([a.Signed]) _ _ (Sl.nil _ _ _) ((kD.lit Ap (l := [a.Signed]) (.cons (ys := C6 a.Signed.jr.Kind a.Signed.jr.Head.js a.Signed.jr.Head.jy a.Signed.jr.ky a.Signed.jr.B.js a.Signed.jr.B.jy a.Signed.jr.C.js a.Signed.jr.C.jy a.Signed.jr.kF t a.Signed.Tag.length u) (ta.mk ⟨g5, rfl, Q⟩) .nil) rfl nb rfl).sl Ap d.jD (fun b o n => (by rw [bX] at n; cases n; exact d.at_ Mh))) e4)) (fun i4 d => ?_)
    have m := d.has.ju (Db (Kb Sn))
    refine ⟨m, (XE 7 rfl (jX (cs := s.toArray) d (lJ rfl) (lW aD aB aM) (fun i5 c0 d => ?_)))⟩
    have m := d.has.ju (Db (Db (Kb Sn)))
    refine ⟨m, ?_⟩
    obtain rfl := sj z
    replace d := d.DL
    refine ni kr (Z _ _ ⟨(.slice (some ⟨c0, 0, none⟩) 1 1), [(c0, Ol s 113)], _, (d.ju (Sb (Pr (Pb Pz)) (Sb (Pr (Pb Pz)) (Kr (Db St))))), U, M, Y, A, q, rfl, rfl, rfl, (kD.lit jB (l := [a.jx]) (.cons (ys := C1 a.jx.Op a.jx.K a.jx.jq.js a.jx.jq.jy g a.jx.Kids.length j) (jt.mk ⟨d9, rfl, T⟩) .nil) rfl nb rfl)⟩)
   ·refine jX (cs := s.toArray) d (lJ rfl) (lW aD aB aM) (fun i6 c1 d => ?_)
    have m := d.has.ju (Db (Db (Kb Sn)))
    refine ⟨m, (bS z fun j6 e5 z => XE 4 rfl (Eg d call35 (jS.li (xD (.slice none 0 0) ([]) d8 ([a.Signed]) _ _ (Sl.nil _ _ _) ((kD.lit Ap (l := [a.Signed]) (.cons (ys := C6 a.Signed.jr.Kind a.Signed.jr.Head.js a.Signed.jr.Head.jy a.Signed.jr.ky a.Signed.jr.B.js a.Signed.jr.B.jy a.Signed.jr.C.js a.Signed.jr.C.jy a.Signed.jr.kF t a.Signed.Tag.length u) (ta.mk ⟨g5, rfl, Q⟩) .nil) rfl nb rfl).sl Ap d.jD (fun b o n => (by rw [bX] at n; cases n; exact d.at_ (Mt Mh)))) e5)) (fun i7 d => ?_)))⟩
    have m := d.has.ju (Db (Db (Kb Sn)))
    refine ⟨m, ?_⟩
    obtain rfl := sj z
    replace d := d.DL
    refine ni kr (Z _ _ ⟨(.slice (some ⟨c1, 0, none⟩) 1 1), [(c1, Ol s 113)], _, (d.ju (Sb (Pr (Pb Pz)) (Sb (Pr (Pb Pz)) (Kr (Db St))))), U, M, Y, A, q, rfl, rfl, rfl, (kD.lit jB (l := [a.jx]) (.cons (ys := C1 a.jx.Op a.jx.K a.jx.jq.js a.jx.jq.jy g a.jx.Kids.length j) (jt.mk ⟨d9, rfl, T⟩) .nil) rfl nb rfl)⟩)
  ·refine jX (cs := s.toArray) d (lJ rfl) (lW aD aB aM) (fun i8 c3 d => ?_)
   have m := d.has.ju (Db (Kb Sn))
   refine ⟨m, (XE 3 rfl (jX (cs := b8.toArray) d (lJ rfl) (lW jd iW jj) (fun i9 f5 d => ?_)))⟩
   have m := d.has.ju (Db (Db (Kb Sn)))
   refine ⟨m, (bS z fun j7 e6 z => XE 4 rfl (Eg d call35 (jS.li (xD (.slice none 0 0) ([]) (.slice (some ⟨f5, 0, none⟩) 1 1) ([a.Signed]) _ _ (Sl.nil _ _ _) ((kD.lit Ap (l := [a.Signed]) (.cons (ys := C6 a.Signed.jr.Kind a.Signed.jr.Head.js a.Signed.jr.Head.jy a.Signed.jr.ky a.Signed.jr.B.js a.Signed.jr.B.jy a.Signed.jr.C.js a.Signed.jr.C.jy a.Signed.jr.kF t a.Signed.Tag.length u) (ta.mk ⟨g5, rfl, Q⟩) .nil) rfl nb rfl).sl Ap d.jD (fun b o n => (by rw [bX] at n; cases n; exact d.at_ Mh))) e6)) (fun j0 d => ?_)))⟩
   have m := d.has.ju (Db (Db (Kb Sn)))
   refine ⟨m, ?_⟩
   obtain rfl := sj z
   replace d := d.perm (Nb (Pb Pz) Nz)
   replace d := d.DL
   refine ni kr (Z _ _ ⟨(.slice (some ⟨c3, 0, none⟩) 1 1), [(c3, Ol s 113)], _, (d.ju (Sb (Pr (Pb Pz)) (Sb (Pr (Pb Pz)) (Kr (Db St))))), U, M, Y, A, q, rfl, rfl, rfl, (kD.lit jB (l := [a.jx]) (.cons (ys := C1 a.jx.Op a.jx.K a.jx.jq.js a.jx.jq.jy g a.jx.Kids.length j) (jt.mk ⟨d9, rfl, T⟩) .nil) rfl nb rfl)⟩)
 rintro E W ⟨I, R, ⟨q, A⟩, d, U, M, Y, H⟩
 rw [aN] at H
 refine jF (jK (sg (V (jC GQ U) (VB d Mh rfl rfl isAgg108 (V (kK dE rfl G) (Wm (ln ?_)))))))
 replace d := d.ju (Db St)
 refine CJ H (fun P E W => ∃ b6, ST false ku w W (hp w) b6 ∧ E 3 = (.int .i64 P)) (fun P c8 => ?_) ?_
 ·refine kB (fun i E W => ∃ K a2, (E 34 = .int .i64 (i : Nat) ∧ E 33 = .int .i64 (x.ke.length : Nat)) ∧ ST false ku w W (hp w) a2 ∧ E 3 = (.int .i64 K) ∧ E 32 = (.slice A3 x.ke.length c4) ∧ ru (x.ke.drop i) K = some P) x.ke.length G.len ⟨I, _, ⟨rfl, rfl⟩, (d.ju St), M, rfl, c8⟩ dc dc dc (fun _ _ _ h => by obtain ⟨_, _, v, _⟩ := h; exact v) ?_ ?_
  ·rintro f1 E W c6 ⟨K, a2, ⟨q, A⟩, d, a4, a5, k⟩
   obtain ⟨c, g8, d3, d2, d4⟩ := kq c6
   rw [d3] at k
   refine bg (VQ (lK (i := (f1 : Int)) (x0 := c) kX.out dE eu a5 q G (aH _) d2) (fun h5 ⟨_, ⟨h6, h7, rfl, a9, b0⟩, c9⟩ => V (jw rfl (jR d.has c9 iX eu)) (VE (kf d gL (fun g9 h4 d => ?_)))))
   obtain ⟨B, D, rfl⟩ := a9.form
   let d6 := (C1 c.jx.Op c.jx.K c.jx.jq.js c.jx.jq.jy B c.jx.Kids.length D)
   obtain ⟨a1, a3, rfl⟩ := b0.form
   let c5 := (C7 c.jq.js c.jq.jy c.jx.Op c.jx.K c.jx.jq.js c.jx.jq.jy B c.jx.Kids.length D a1 c.ms.length a3)
   refine VO (jL (.agg c5.toArray) (c5.toArray) d rfl rfl eu oc nb rfl (fun h0 d => ln ?_))
   replace d := d.drew
   have m := d.has.ju (Kb Sn)
   refine kJ m kw (X 0 rfl m (jE a4) (X 1 rfl m (jC Kn rfl) (X 2 rfl m (jC oQ rfl) (XH 3 rfl m (fun _ p => jw rfl (jO p Mh rfl bV)) (X 4 rfl m (oq bZ rfl) (X 5 rfl m (jC Kn rfl) (X 6 rfl m (jC uj rfl) (XH 7 rfl m (fun _ p => jw rfl (jO p Mh rfl bV)) (X 8 rfl m (oq bZ rfl) (X 9 rfl m (kx rfl rfl rfl) (X 10 rfl m (jC GV rfl) (XH 11 rfl m (fun _ p => jw rfl (jz p Mh d6 rfl aG aB)) (X 16 rfl m (jC GZ rfl) (XH 17 rfl m (fun _ p => jw rfl (jO p Mh rfl jo)) ?_))))))))))))))
   refine XE 12 rfl (jX (cs := d6.toArray) d (lJ rfl) (lW aD aB aM) (fun h1 d7 d => ?_))
   have m := d.has.ju (Db (Kb Sn))
   refine ⟨m, (bS k fun f2 d0 k => XE 13 rfl (Eg d call173 ((xG jY) (.slice (some ⟨d7, 0, none⟩) 1 1) ([c.jx]) _ _ ((kD.lit jB (l := [c.jx]) (.cons (ys := C1 c.jx.Op c.jx.K c.jx.jq.js c.jx.jq.jy B c.jx.Kids.length D) (jt.mk ⟨(.slice B c.jx.Kids.length D), rfl, a9⟩) .nil) rfl nb rfl).sl jB d.jD (fun b o n => (by rw [bX] at n; cases n; exact d.at_ Mh))) d0) (fun h2 d => ?_)))⟩
   have m := d.has.ju (Db (Kb Sn))
   refine ⟨m, (X 14 rfl m (kx rfl rfl rfl) (X 15 rfl m (kx rfl rfl rfl) (bS k fun f3 d1 k => XE 18 rfl (Eg d call21 (jS.li (CT (.slice a1 c.ms.length a3) c.ms _ _ (b0.mono (Pl.mono _) d.jD) d1)) (fun h3 d => ?_)))))⟩
   have m := d.has.ju (Db (Kb Sn))
   refine ⟨m, (X 19 rfl m (kx rfl rfl rfl) (X 20 rfl m (kx rfl rfl rfl) (X 21 rfl m (nu rfl) (kW kr (ko (jF ?_))))))⟩
   replace d := d.ju (Db (Db St))
   exact ⟨q, (IntKind.i64.wrap (K + (IntKind.i64.wrap ((IntKind.i64.wrap ((IntKind.i64.wrap ((c.jq.js.size : Int) + (c.jq.jy.size : Int))) + (IntKind.i64.wrap (20 * f2)))) + f3)))), _, ⟨rfl, A⟩, (d.ju St), rfl, a5, (by rw [d4]; exact k)⟩
  rintro E W ⟨K, a2, ⟨q, A⟩, d, a4, a5, k⟩
  rw [aN] at k
  refine jF ?_
  obtain rfl := sj k
  exact ⟨_, (d.ju St), a4⟩
 rintro h8 E W ⟨b6, d, e0⟩ c7
 exact sg (Wh e0 (Wa (lt (rQ c7 d))))
theorem H3 (a : nf) (B D x z y J : Value) (r : Int) (w : World) (t : Sl kc 15 (hp w) B a.js.jH) (u : Sl kX 8 (hp w) D a.js.ke) (c : Sl kc 15 (hp w) x a.Client.jH) (i : Sl kX 8 (hp w) z a.Client.ke) (g : Sl jt 5 (hp w) y a.Formula.Kids) (I : Sl qa 2 (hp w) J a.Keys) (hm : xL a = some r) :
  jS false Tryz.prog 73 [(.agg #[(.string a.js.Name), B, D, (.string a.Client.Name), x, z, (.int .i64 a.Formula.Op), (.int .i64 a.Formula.K), (.string a.Formula.jq.js), (.string a.Formula.jq.jy), y, (.int .i64 a.sI), (.int .i64 a.mG.uU), (.int .i64 a.mG.uV), (.int .i64 a.nD), (.int .i64 a.pP), (.int .i64 a.ow), J])] w (.int .i64 r) := by
 refine cG 20 func73 rfl (fun d => sg ?_)
 obtain ⟨A1, c2, rfl⟩ := t.form
 obtain ⟨A3, n, rfl⟩ := u.form
 let a3 := (C5 a.js.Name A1 a.js.jH.length c2 A3 a.js.ke.length n)
 obtain ⟨N, U, rfl⟩ := c.form
 let a5 : Value := (.slice N a.Client.jH.length U)
 obtain ⟨Q, Y, rfl⟩ := i.form
 let b8 : Value := (.slice Q a.Client.ke.length Y)
 let a4 := (C5 a.Client.Name N a.Client.jH.length U Q a.Client.ke.length Y)
 obtain ⟨G, k, rfl⟩ := g.form
 let q : Value := (.slice G a.Formula.Kids.length k)
 let a0 := (C1 a.Formula.Op a.Formula.K a.Formula.jq.js a.Formula.jq.jy G a.Formula.Kids.length k)
 obtain ⟨p, a2, rfl⟩ := I.form
 refine VE (km d rfl (fun e8 c7 d => Wa (ln (jK ?_))))
 replace d := d.drew
 have h := d.has.ju (Kb Sn)
 refine kJ h kw (X 0 rfl h (jC vO rfl) (XH 1 rfl h (fun _ m => jw rfl (jz m Mh a3 rfl eB dS)) (X 3 rfl h (jC vM rfl) (XH 4 rfl h (fun _ m => jw rfl (jz m Mh a4 rfl eB dS)) (X 7 rfl h (jC OK rfl) (XH 8 rfl h (fun _ m => jw rfl (jz m Mh a0 rfl aG aB)) (X 13 rfl h (jC OR rfl) (XH 14 rfl h (fun _ m => jw rfl (jO m Mh rfl isAgg49)) (PJ hm (fun Z E W => ∃ M T s, ST false ku w W (hp w) ((c7, Ol (C2 a.js.Name A1 a.js.jH.length c2 A3 a.js.ke.length n a.Client.Name N a.Client.jH.length U Q a.Client.ke.length Y a.Formula.Op a.Formula.K a.Formula.jq.js a.Formula.jq.jy G a.Formula.Kids.length k a.sI a.mG.uU a.mG.uV a.nD a.pP a.ow p a.Keys.length a2) 116) :: (T ++ s)) ∧ E 2 = (.int .i64 0) ∧ E 9 = (.int .i64 Z.1) ∧ E 12 = M ∧ E 17 = (.slice p a.Keys.length a2) ∧ kD 113 jt 5 (hp w) M Z.2 T) (bm 18 25599) 6 ?_ (fun Z j K => ?_))))))))))
 ·rintro ⟨e7, c5⟩ E W ⟨M, T, s, d, d9, c0, c1, c3, b9⟩ H
  refine bS H fun e0 F H => XE 10 rfl (Eg d call173 ((xG jY) M c5 _ _ (b9.sl jB d.jD (fun b o hq => d.at_ (Mt (Ml hq)))) F) (fun c9 d => ?_) (ha := Rr c1))
  have h := d.has.ju (Kb Sn)
  refine ⟨h, (X 11 rfl h (kx rfl rfl rfl) (X 12 rfl h (kx c0 rfl rfl) (bS H fun e1 L H => XE 15 rfl (Eg d call35 (jS.li (xD (.slice p a.Keys.length a2) a.Keys (.slice none 0 0) ([]) _ _ (I.mono vT.mono d.jD) (Sl.nil _ _ _) L)) (fun d0 d => ?_) (ha := RX c3 rfl)))))⟩
  have h := d.has.ju (Kb Sn)
  refine ⟨h, (X 16 rfl h (kx rfl rfl rfl) (X 17 rfl h (nu rfl) (kW kr (jF ?_))))⟩
  exact jU (rQ H d)
 refine BV 2 9 rfl rfl kr (.inl rfl) (.inl rfl) rfl rfl dc dc ?_ ?_
 ·refine bS j fun e2 O j => ED (args := [(.agg a3.toArray)]) d rfl call102 (by exact ua rfl) (vB a.js (.slice A1 a.js.jH.length c2) (.slice A3 a.js.ke.length n) _ _ (t.mono jZ.mono d.jD) (u.mono lT.mono d.jD) O) (fun d1 d => ?_)
  have h := d.has.ju (Kb Sn)
  refine ⟨h, (BV 5 9 rfl rfl kr (.inl rfl) (.inl rfl) rfl rfl dc dc ?_ ?_)⟩
  ·refine bS j fun e3 P j => ED (args := [(.agg a4.toArray)]) d rfl call102 (by exact ua rfl) (vB a.Client a5 b8 _ _ (c.mono jZ.mono d.jD) (i.mono lT.mono d.jD) P) (fun d2 d => ?_)
   have h := d.has.ju (Kb Sn)
   refine ⟨h, (X 6 rfl h (kx rfl rfl rfl) (XE 9 rfl (jX (cs := a0.toArray) d (lJ rfl) (lW aD aB aM) (fun d3 v d => ?_))))⟩
   have h := d.has.ju (Db (Kb Sn))
   refine ⟨h, ?_⟩
   obtain rfl := sj j
   replace d := d.DL
   refine ni kr (K _ _ ⟨(.slice (some ⟨v, 0, none⟩) 1 1), [(v, Ol a0 113)], _, (d.ju (Sb (Pr Pz) St)), rfl, rfl, rfl, rfl, (kD.lit jB (l := [a.Formula]) (.cons (ys := C1 a.Formula.Op a.Formula.K a.Formula.jq.js a.Formula.jq.jy G a.Formula.Kids.length k) (jt.mk ⟨q, rfl, g⟩) .nil) rfl nb rfl)⟩)
  ·refine jX (cs := a0.toArray) d (lJ rfl) (lW aD aB aM) (fun d4 a9 d => ?_)
   have h := d.has.ju (Db (Kb Sn))
   refine ⟨h, (bS j fun e4 R j => XE 5 rfl (Eg d call102 (vB a.Client a5 b8 _ _ (c.mono jZ.mono d.jD) (i.mono lT.mono d.jD) R) (fun d5 d => ?_)))⟩
   have h := d.has.ju (Db (Kb Sn))
   refine ⟨h, (X 6 rfl h (kx rfl rfl rfl) ?_)⟩
   obtain rfl := sj j
   replace d := d.DL
   refine ni kr (K _ _ ⟨(.slice (some ⟨a9, 0, none⟩) 1 1), [(a9, Ol a0 113)], _, (d.ju (Sb (Pr Pz) St)), rfl, rfl, rfl, rfl, (kD.lit jB (l := [a.Formula]) (.cons (ys := C1 a.Formula.Op a.Formula.K a.Formula.jq.js a.Formula.jq.jy G a.Formula.Kids.length k) (jt.mk ⟨q, rfl, g⟩) .nil) rfl nb rfl)⟩)
 ·refine jX (cs := a0.toArray) d (lJ rfl) (lW aD aB aM) (fun d6 A d => ?_)
  have h := d.has.ju (Db (Kb Sn))
  refine ⟨h, (bS j fun e5 b6 j => XE 2 rfl (Eg d call102 (vB a.js (.slice A1 a.js.jH.length c2) (.slice A3 a.js.ke.length n) _ _ (t.mono jZ.mono d.jD) (u.mono lT.mono d.jD) b6) (fun d7 d => ?_)))⟩
  have h := d.has.ju (Db (Kb Sn))
  refine ⟨h, (bS j fun e6 b7 j => XE 5 rfl (Eg d call102 (vB a.Client a5 b8 _ _ (c.mono jZ.mono d.jD) (i.mono lT.mono d.jD) b7) (fun d8 d => ?_)))⟩
  have h := d.has.ju (Db (Kb Sn))
  refine ⟨h, (X 6 rfl h (kx rfl rfl rfl) ?_)⟩
  obtain rfl := sj j
  replace d := d.DL
  refine ni kr (K _ _ ⟨(.slice (some ⟨A, 0, none⟩) 1 1), [(A, Ol a0 113)], _, (d.ju (Sb (Pr Pz) St)), rfl, rfl, rfl, rfl, (kD.lit jB (l := [a.Formula]) (.cons (ys := C1 a.Formula.Op a.Formula.K a.Formula.jq.js a.Formula.jq.jy G a.Formula.Kids.length k) (jt.mk ⟨q, rfl, g⟩) .nil) rfl nb rfl)⟩)
theorem vC (M : ByteArray) (r : Bool) (w : World) (hm : qR M = some r) :
  jS true Tryz.prog 158 [(.string M)] w (.bool r) := by
 refine cG 49 func158 rfl (fun b => sg (Wa (lS (Wm (V (qX rfl rfl rfl) (Wm (LJ hm (fun c7 E W => ∃ L3, ST true ku w W (hp w) L3 ∧ E 0 = (.string M) ∧ E 11 = (.bool c7)) 4 ?_ (fun c7 K a5 => ?_))))))))
 ·rintro x2 E W ⟨L3, b, p, e6⟩ f7
  refine Wh e6 (LJ f7 (fun c6 E W => ∃ d3, ST true ku w W (hp w) d3 ∧ E 0 = (.string M) ∧ E 16 = (.bool c6)) 4 ?_ (fun c6 x a4 => ?_))
  ·rintro g4 E W ⟨d3, b, n, f4⟩ f0
   refine Wh f4 (LJ f0 (fun c5 E W => ∃ d4, ST true ku w W (hp w) d4 ∧ E 0 = (.string M) ∧ E 21 = (.bool c5)) 4 ?_ (fun c5 u a3 => ?_))
   ·rintro g7 E W ⟨d4, b, f5, f6⟩ Q
    refine ln (CI Q f6 (fun e9 Q => ?_) (fun e9 Q => ?_))
    ·refine sg (Wa (lt (kj ?_)))
     obtain rfl := sj Q
     exact rP b
    refine kS (Wa (ln (ll (mU (fun m E W => ∃ y A, ST true ku w W (hp w) A ∧ E 0 = (.string M) ∧ E 3 = (.int .i64 y) ∧ pT M m y = some r) jY ⟨0, _, (b.ju St), f5, rfl, Q⟩ ?_))))
    rintro m E W ⟨y, A, b, T, U, c⟩
    cases m with
    | zero => rw [pT] at c; cases c
    | succ f1 =>
     refine jK (sg (Wh U (Wh T (V (oq bZ rfl) (Wi rfl (ln (CI c rfl (fun c8 c => ?_) (fun c8 c => ?_))))))))
     ·refine kn (jK (bg (Wh T (Wh U (bS c fun d a9 c => V (Al (i := y) bZ rfl rfl (ze a9) (Ct a9)) (Wa (lr ?_)))))))
      refine Wm (Wi rfl (Wm (LJ c (fun c4 E W => ∃ F, ST true ku w W (hp w) F ∧ E 0 = (.string M) ∧ E 3 = (.int .i64 y) ∧ E 4 = (.int .u8 (d.toNat : Int)) ∧ E 36 = (.bool c4)) 3 ?_ (fun c4 J a2 => ?_))))
      ·rintro f2 E W ⟨F, b, h, l, N, d5⟩ d0
       refine Wh d5 (LJ d0 (fun c2 E W => ∃ L, ST true ku w W (hp w) L ∧ E 0 = (.string M) ∧ E 3 = (.int .i64 y) ∧ E 4 = (.int .u8 (d.toNat : Int)) ∧ E 44 = (.bool c2)) 7 ?_ (fun c2 H Z => ?_))
       ·rintro g1 E W ⟨L, b, R, c0, d6, d7⟩ d1
        refine Wh d7 (LJ d1 (fun c1 E W => ∃ O, ST true ku w W (hp w) O ∧ E 0 = (.string M) ∧ E 3 = (.int .i64 y) ∧ E 48 = (.bool c1)) 3 ?_ (fun c1 G Y => ?_))
        ·rintro g2 E W ⟨O, b, d8, d9, e0⟩ D
         refine ln (CI D e0 (fun c9 D => ?_) (fun c9 D => ?_))
         ·refine sg (Wa (lt (me (kj (kj (me (kj ?_)))))))
          obtain rfl := sj D
          exact rP b
         exact kP (ko (jF (jI (Wh d9 (Wi rfl (Wa (ln ⟨f1, bE _, (IntKind.i64.wrap (y + 1)), _, (b.ju St), d8, rfl, D⟩)))))))
        refine bC G (fun k G => ?_) (fun k G => ?_)
        ·refine ug k (jE d6) (ug k (kx rfl rfl rfl) (V (jM (cB k) rfl) ?_))
         obtain rfl := sj G
         exact Y _ _ ⟨_, (b.ju St), R, c0, rfl⟩
        refine un k (un k (V (jN (cB k) rfl) ?_))
        obtain rfl := sj G
        exact Y _ _ ⟨_, (b.ju St), R, c0, rfl⟩
       refine bC H (fun a H => ?_) (fun a H => ?_)
       ·refine ug a (jE N) (ug a (kx rfl rfl rfl) (ug a (jE rfl) (LJ H (fun c3 E W => ∃ P, ST true ku w W (hp w) P ∧ E 0 = (.string M) ∧ E 3 = (.int .i64 y) ∧ E 4 = (.int .u8 (d.toNat : Int)) ∧ E 37 = (.bool f2) ∧ E 43 = (.bool c3)) 3 ?_ (fun c3 I q => ?_))))
        ·rintro g3 E W ⟨P, b, e1, e2, e3, e4, e7⟩ d2
         refine V (jM (e4.trans (cB a)) e7) ?_
         obtain rfl := sj d2
         exact Z _ _ ⟨_, (b.ju St), e1, e2, e3, rfl⟩
        refine bC I (fun t I => ?_) (fun t I => ?_)
        ·refine un t (un t (ug a (jM (cB t) rfl) ?_))
         obtain rfl := sj I
         exact q _ _ ⟨_, (b.ju St), h, l, N, rfl, rfl⟩
        refine ug t (jE N) (ug t (kx rfl rfl rfl) (ug a (jN (cB t) rfl) ?_))
        obtain rfl := sj I
        exact q _ _ ⟨_, (b.ju St), h, l, N, rfl, rfl⟩
       refine un a (un a (un a (Vu rfl rfl (Vu rfl rfl (un a (V (jN (cB a) rfl) ?_))))))
       obtain rfl := sj H
       exact Z _ _ ⟨_, (b.ju St), h, l, N, rfl⟩
      refine bC J (fun j J => ?_) (fun j J => ?_)
      ·refine un j (un j (V (jM (cB j) rfl) ?_))
       obtain rfl := sj J
       exact a2 _ _ ⟨_, (b.ju St), T, U, rfl, rfl⟩
      refine ug j (jE rfl) (ug j (kx rfl rfl rfl) (V (jN (cB j) rfl) ?_))
      obtain rfl := sj J
      exact a2 _ _ ⟨_, (b.ju St), T, U, rfl, rfl⟩
     exact mZ (mS (mS (qx (jF (sg (Wa (lt (rQ c b))))))))
   refine bC u (fun g u => ?_) (fun g u => ?_)
   ·refine un g (un g (un g (V (jM (cB g) rfl) ?_)))
    obtain rfl := sj u
    exact a3 _ _ ⟨_, (b.ju St), n, rfl⟩
   refine ug g (jE n) (bS u fun f8 s u => ug g (Al (i := 0) bZ rfl rfl (ze s) (Ct s)) (ug g (kx rfl rfl rfl) (V (jN (cB g) rfl) ?_)))
   obtain rfl := sj u
   exact a3 _ _ ⟨_, (b.ju St), n, rfl⟩
  refine bC x (fun B x => ?_) (fun B x => ?_)
  ·refine un B (un B (un B (V (jM (cB B) rfl) ?_)))
   obtain rfl := sj x
   exact a4 _ _ ⟨_, (b.ju St), p, rfl⟩
  refine ug B (jE p) (bS x fun f9 v x => ug B (Al (i := 0) bZ rfl rfl (ze v) (Ct v)) (ug B (kx rfl rfl rfl) (V (jN (cB B) rfl) ?_)))
  obtain rfl := sj x
  exact a4 _ _ ⟨_, (b.ju St), p, rfl⟩
 refine bC K (fun z K => ?_) (fun z K => ?_)
 ·refine un z (un z (un z (V (jM (cB z) rfl) ?_)))
  obtain rfl := sj K
  exact a5 _ _ ⟨_, (b.ju St), rfl, rfl⟩
 refine ug z (jE rfl) (ug z (oq bZ rfl) (ug z (kx rfl rfl rfl) (V (jN (cB z) rfl) ?_)))
 obtain rfl := sj K
 exact a5 _ _ ⟨_, (b.ju St), rfl, rfl⟩
theorem xE (i : jq) (r : Bool) (w : World) (hm : su i = some r) :
  jS true Tryz.prog 241 [(.agg (jA i).toArray)] w (.bool r) := by
 refine cG 11 func241 rfl (fun b => sg (VE (km b rfl (fun H J b => Wa (lr (Wf oQ (VB b Mh rfl rfl bV (bS hm fun K y hm => VE (Eg b call158 (vC i.js _ _  y) (fun I b => Wm (LJ hm (fun k E W => ∃ j, ST true ku w W (hp w) j ∧ E 2 = (.bool false) ∧ E 10 = (.bool k)) 4 ?_ (fun k a g => ?_))))))))))))
 ·rintro G E W ⟨j, b, B, x⟩ t
  exact Wg x (lt (rQ t b))
 refine bC a (fun c a => ?_) (fun c a => ?_)
 ·refine ug c (jC uj rfl) (ug c (jw rfl (jO b.has Mh rfl bV)) (bS a fun D u a => qI c (Eg b call158 (vC i.jy _ _  u) (fun z b => V (jM (cB c) rfl) ?_))))
  obtain rfl := sj a
  exact g _ _ ⟨_, (b.ju (Db St)), rfl, rfl⟩
 refine un c (un c (un c (V (jN (cB c) rfl) ?_)))
 obtain rfl := sj a
 exact g _ _ ⟨_, (b.ju (Db St)), rfl, rfl⟩
theorem DM (t u : jq) (r : Bool) (w : World) (hm : wz t u = some r) :
  jS true Tryz.prog 242 [(.agg (jA t).toArray), (.agg (jA u).toArray)] w (.bool r) := by
 refine cG 24 func242 rfl (fun b => sg (VE (km b rfl (fun T Y b => VE (km b rfl (fun U Z b => Wa (lr (Wf oQ (VB b (Mt Mh) rfl rfl bV (Wf oQ (VB b Mh rfl rfl bV (V (qX rfl rfl rfl) ?_))))))))))))
 refine Wm (LJ hm (fun z E W => ∃ x, ST true ku w W (hp w) x ∧ E 4 = (.bool false) ∧ E 23 = (.bool z)) 13 ?_ (fun z g j => ?_))
 ·rintro N E W ⟨x, b, M, H⟩ D
  exact Wg H (lt (rQ D b))
 refine bC g (fun a g => ?_) (fun a g => ?_)
 ·refine un a (un a (un a (un a (un a (un a (Vu rfl rfl (Vu rfl rfl (Vu rfl rfl (Vu rfl rfl (Vu rfl rfl (un a (V (jM (cB a) rfl) ?_))))))))))))
  obtain rfl := sj g
  exact j _ _ ⟨_, (b.ju (Db (Db St))), rfl, rfl⟩
 refine ug a (jC oQ rfl) (ug a (jw rfl (jO b.has (Mt Mh) rfl bV)) (ug a (jC oQ rfl) (ug a (jw rfl (jO b.has Mh rfl bV)) (ug a (qX rfl rfl rfl) (ug a (jE rfl) (LJ g (fun B E W => ∃ y, ST true ku w W (hp w) y ∧ E 4 = (.bool false) ∧ E 10 = (.bool (pI t.js u.js)) ∧ E 22 = (.bool B)) 6 ?_ (fun B i k => ?_)))))))
 ·rintro Q E W ⟨y, b, I, J, K⟩ G
  refine V (jN (J.trans (cB a)) K) ?_
  obtain rfl := sj G
  exact j _ _ ⟨_, (b.ju St), I, rfl⟩
 refine bC i (fun c i => ?_) (fun c i => ?_)
 ·refine ug c (jC uj rfl) (ug c (jw rfl (jO b.has (Mt Mh) rfl bV)) (ug c (jC uj rfl) (ug c (jw rfl (jO b.has Mh rfl bV)) (ug c (qX rfl rfl rfl) (ug a (jM (cB c) rfl) ?_)))))
  obtain rfl := sj i
  exact k _ _ ⟨_, (b.ju (Db (Db St))), rfl, rfl, rfl⟩
 refine un c (un c (un c (un c (un c (ug a (jN (cB c) rfl) ?_)))))
 obtain rfl := sj i
 exact k _ _ ⟨_, (b.ju (Db (Db St))), rfl, rfl, rfl⟩
theorem Dc (g : jr) (r : Bool) (w : World) (hm : vu g = some r) :
  jS true Tryz.prog 134 [(.agg (jv g).toArray)] w (.bool r) := by
 refine cG 93 func134 rfl (fun b => sg (VE (km b rfl (fun W2 M b => Wa (lr (VE (kf b eH (fun W4 h b => lS ?_))))))))
 refine Wf qf (VA b (Mt Mh) (jA g.Head) bG aQ (bS hm fun r5 h4 hm => VE (Eg b call241 (xE g.Head _ _  h4) (fun W7 b => V (nH rfl) (ln (CI hm rfl (fun h2 hm => ?_) (fun h2 hm => ?_)))))))
 ·refine sg (Wa (ln ?_))
  replace b := b.ju (Db (Db St))
  refine jU (kj ?_)
  obtain rfl := sj hm
  exact rP b
 refine kS (Wf qj (VB b (Mt Mh) rfl rfl cC (Wi rfl (ln (CI hm rfl (fun h3 hm => ?_) (fun h3 hm => ?_))))))
 ·refine sg (Wf wm (VB b (Mt Mh) rfl rfl bV (bS hm fun i6 f7 hm => VE (Eg b call158 (vC g.ky _ _  f7) (fun i3 b => Wm (LJ hm (fun e1 E W => ∃ R, ST true ku w W (hp w) ((h, Ol (jA K0) 28) :: ((M, Ol (jv g) 53) :: R)) ∧ E 1 = (.pointer (some ⟨M, 0, none⟩)) ∧ E 2 = (.bool false) ∧ E 3 = (.pointer (some ⟨h, 0, none⟩)) ∧ E 19 = (.bool e1)) 5 ?_ (fun e1 T p => ?_)))))))
  ·rintro i8 E W ⟨R, b, l, d6, f9, g0⟩ f0
   refine Wh g0 (LJ f0 (fun e0 E W => ∃ c9, ST true ku w W (hp w) ((M, Ol (jv g) 53) :: c9) ∧ E 1 = (.pointer (some ⟨M, 0, none⟩)) ∧ E 2 = (.bool false) ∧ E 25 = (.bool e0)) 5 ?_ (fun e0 Q a5 => ?_))
   ·rintro i9 E W ⟨c9, b, g1, d7, g2⟩ f1
    refine Wh g2 (LJ f1 (fun d9 E W => ∃ d0, ST true ku w W (hp w) d0 ∧ E 2 = (.bool false) ∧ E 30 = (.bool d9)) 4 ?_ (fun d9 N a4 => ?_))
    ·rintro j0 E W ⟨d0, b, i5, g3⟩ f2
     refine Wg g3 (lt (kj ?_))
     obtain rfl := sj f2
     exact rP b
    refine bC N (fun x N => ?_) (fun x N => ?_)
    ·refine ug x (jC uf g1) (ug x (jw rfl (jO b.has Mh rfl bV)) (ug x (qX rfl rfl rfl) (V (jM (cB x) rfl) ?_)))
     obtain rfl := sj N
     exact a4 _ _ ⟨_, (b.ju (Db St)), d7, rfl⟩
    refine un x (un x (un x (V (jN (cB x) rfl) ?_)))
    obtain rfl := sj N
    exact a4 _ _ ⟨_, (b.ju (Db St)), d7, rfl⟩
   refine bC Q (fun k Q => ?_) (fun k Q => ?_)
   ·refine ug k (jC rR l) (ug k (jw rfl (jz b.has (Mt Mh) (jA g.C) rfl bG aQ)) (ug k (jw f9 (jz b.has Mh (jA K0) rfl bG aQ)) (ug k (uB rfl rfl (nm eA) (qO (po _ g.C K0))) (V (jM (cB k) rfl) ?_))))
    obtain rfl := sj Q
    exact a5 _ _ ⟨_, (b.ju (Db St)), l, d6, rfl⟩
   refine un k (un k (un k (un k (V (jN (cB k) rfl) ?_))))
   obtain rfl := sj Q
   exact a5 _ _ ⟨_, (b.ju (Db St)), l, d6, rfl⟩
  refine bC T (fun j T => ?_) (fun j T => ?_)
  ·refine ug j (jC nz rfl) (ug j (jw rfl (jz b.has (Mt Mh) (jA g.B) rfl bG aQ)) (ug j (jw rfl (jz b.has Mh (jA K0) rfl bG aQ)) (ug j (uB rfl rfl (nm eA) (qO (po _ g.B K0))) (V (jM (cB j) rfl) ?_))))
   obtain rfl := sj T
   exact p _ _ ⟨_, (b.ju St), rfl, rfl, rfl, rfl⟩
  refine un j (un j (un j (un j (V (jN (cB j) rfl) ?_))))
  obtain rfl := sj T
  exact p _ _ ⟨_, (b.ju St), rfl, rfl, rfl, rfl⟩
 let a0 := ((jv g).toArray : Array Value)
 let d : Value := (.pointer (some ⟨M, 0, none⟩))
 refine kS (Wf wm (VB b (Mt Mh) rfl rfl bV (V (qX rfl rfl rfl) (Wm (LJ hm (fun c1 E W => ∃ d1, ST true ku w W (hp w) ((h, Ol (jA K0) 28) :: ((M, Obj.cells a0 53 (0, 0)) :: d1)) ∧ E 1 = d ∧ E 3 = (.pointer (some ⟨h, 0, none⟩)) ∧ E 39 = (.bool c1)) 5 ?_ (fun c1 I a3 => ?_))))))
 ·rintro j3 E W ⟨d1, b, u, d8, g4⟩ i
  refine ln (CI i g4 (fun e7 i => ?_) (fun e7 i => ?_))
  ·refine sg (Wa (ln ?_))
   replace b := b.ju (Db (Db St))
   refine jU (kj ?_)
   obtain rfl := sj i
   exact rP b
  refine kS (V (jC qj u) (VB b (Mt Mh) rfl rfl cC (Wi rfl (ln (CI i rfl (fun e8 i => ?_) (fun e8 i => ?_))))))
  ·refine sg (V (jC rR u) (VA b (Mt Mh) (jA g.C) bG aQ (V (jw d8 (jz b.has Mh (jA K0) rfl bG aQ)) (V (uB rfl rfl (nm eA) (qO (po _ g.C K0))) (Wm (LJ i (fun e2 E W => ∃ d2, ST true ku w W (hp w) d2 ∧ E 51 = (.bool e2)) 4 ?_ (fun e2 U q => ?_)))))))
   ·rintro j4 E W ⟨d2, b, g7⟩ f3
    refine Wg g7 (lt (kj ?_))
    obtain rfl := sj f3
    exact rP b
   refine bC U (fun y U => ?_) (fun y U => ?_)
   ·refine ug y (jC uf u) (ug y (jw rfl (jO b.has (Mt Mh) rfl bV)) (ug y (qX rfl rfl rfl) (V (jM (cB y) rfl) ?_)))
    obtain rfl := sj U
    exact q _ _ ⟨_, (b.ju (Db (Db St))), rfl⟩
   refine un y (un y (un y (V (jN (cB y) rfl) ?_)))
   obtain rfl := sj U
   exact q _ _ ⟨_, (b.ju (Db (Db St))), rfl⟩
  refine kS (V (jC qj u) (VB b (Mt Mh) rfl rfl cC (Wi rfl (ln (CI i rfl (fun e9 i => ?_) (fun e9 i => ?_))))))
  ·refine sg (V (jC rR u) (VA b (Mt Mh) (jA g.C) bG aQ (V (jw d8 (jz b.has Mh (jA K0) rfl bG aQ)) (V (uB rfl rfl (nm eA) (qO (po _ g.C K0))) (Wm (LJ i (fun e4 E W => ∃ d3, ST true ku w W (hp w) ((M, Obj.cells a0 53 (0, 0)) :: d3) ∧ E 1 = d ∧ E 67 = (.bool e4)) 8 ?_ (fun e4 Y a9 => ?_)))))))
   ·rintro j5 E W ⟨d3, b, g8, g9⟩ f4
    refine Wh g9 (LJ f4 (fun e3 E W => ∃ d4, ST true ku w W (hp w) d4 ∧ E 72 = (.bool e3)) 4 ?_ (fun e3 J s => ?_))
    ·rintro j6 E W ⟨d4, b, h0⟩ f5
     refine Wg h0 (lt (kj ?_))
     obtain rfl := sj f5
     exact rP b
    refine bC J (fun z J => ?_) (fun z J => ?_)
    ·refine ug z (jC uf g8) (ug z (jw rfl (jO b.has Mh rfl bV)) (bS J fun i7 f8 J => qI z (Eg b call158 (vC g.kF _ _  f8) (fun i4 b => V (jM (cB z) rfl) ?_))))
     obtain rfl := sj J
     exact s _ _ ⟨_, (b.ju (Db St)), rfl⟩
    refine un z (un z (un z (V (jN (cB z) rfl) ?_)))
    obtain rfl := sj J
    exact s _ _ ⟨_, (b.ju (Db St)), rfl⟩
   refine bC Y (fun a Y => ?_) (fun a Y => ?_)
   ·refine ug a (jC nz u) (ug a (jC oQ rfl) (ug a (jw rfl (jO b.has (Mt Mh) rfl bV)) (ug a (jC qf u) (ug a (jC oQ rfl) (ug a (jw rfl (jO b.has (Mt Mh) rfl bV)) (ug a (qX rfl rfl rfl) (V (jM (cB a) rfl) ?_)))))))
    obtain rfl := sj Y
    exact a9 _ _ ⟨_, (b.ju (Db St)), u, rfl⟩
   refine un a (un a (un a (un a (un a (un a (un a (V (jN (cB a) rfl) ?_)))))))
   obtain rfl := sj Y
   exact a9 _ _ ⟨_, (b.ju (Db St)), u, rfl⟩
  refine kn ?_
  replace b := b.ju (Db St)
  refine sg (V (jC qj u) (VB b Mh rfl rfl cC (Wi rfl (Wm (LJ i (fun P E W => ∃ d5, ST true ku w W (hp w) ((M, Obj.cells a0 53 (0, 0)) :: d5) ∧ E 1 = d ∧ E 80 = (.bool P)) 4 ?_ (fun P K a2 => ?_))))))
  ·rintro j7 E W ⟨d5, b, m, h1⟩ f6
   refine Wh h1 (LJ f6 (fun O E W => ∃ v, ST true ku w W (hp w) ((M, Obj.cells a0 53 (0, 0)) :: v) ∧ E 1 = d ∧ E 85 = (.bool O)) 4 ?_ (fun O H n => ?_))
   ·rintro i1 E W ⟨v, b, F, e5⟩ c3
    refine Wh e5 (LJ c3 (fun L E W => ∃ A, ST true ku w W (hp w) A ∧ E 92 = (.bool L)) 6 ?_ (fun L G Z => ?_))
    ·rintro i2 E W ⟨A, b, e6⟩ c4
     exact Wg e6 (lt (rQ c4 b))
    refine bC G (fun c G => ?_) (fun c G => ?_)
    ·refine ug c (jC nz F) (ug c (jw rfl (jz b.has Mh (jA g.B) rfl bG aQ)) (ug c (jC rR F) (ug c (jw rfl (jz b.has Mh (jA g.C) rfl bG aQ)) (bS G fun h8 c5 G => qI c (Eg b call242 (DM g.B g.C _ _  c5) (fun h5 b => V (jM (cB c) rfl) ?_))))))
     obtain rfl := sj G
     exact Z _ _ ⟨_, (b.ju (Db St)), rfl⟩
    refine un c (un c (un c (un c (un c (V (jN (cB c) rfl) ?_)))))
    obtain rfl := sj G
    exact Z _ _ ⟨_, (b.ju (Db St)), rfl⟩
   refine bC H (fun D H => ?_) (fun D H => ?_)
   ·refine ug D (jC rR m) (ug D (jw rfl (jz b.has Mh (jA g.C) rfl bG aQ)) (bS H fun h9 c6 H => qI D (Eg b call241 (xE g.C _ _  c6) (fun h6 b => V (jM (cB D) rfl) ?_))))
    obtain rfl := sj H
    exact n _ _ ⟨_, (b.ju St), m, rfl⟩
   refine un D (un D (un D (V (jN (cB D) rfl) ?_)))
   obtain rfl := sj H
   exact n _ _ ⟨_, (b.ju St), m, rfl⟩
  refine bC K (fun B K => ?_) (fun B K => ?_)
  ·refine ug B (jC uf u) (ug B (jw rfl (jO b.has Mh rfl bV)) (ug B (qX rfl rfl rfl) (V (jM (cB B) rfl) ?_)))
   obtain rfl := sj K
   exact a2 _ _ ⟨_, (b.ju St), u, rfl⟩
  refine un B (un B (un B (V (jN (cB B) rfl) ?_)))
  obtain rfl := sj K
  exact a2 _ _ ⟨_, (b.ju St), u, rfl⟩
 refine bC I (fun t I => ?_) (fun t I => ?_)
 ·refine un t (un t (un t (un t (V (jM (cB t) rfl) ?_))))
  obtain rfl := sj I
  exact a3 _ _ ⟨_, (b.ju St), rfl, rfl, rfl⟩
 refine ug t (jC nz rfl) (ug t (jw rfl (jz b.has (Mt Mh) (jA g.B) rfl bG aQ)) (bS I fun i0 c7 I => qI t (Eg b call241 (xE g.B _ _  c7) (fun h7 b => ug t (nH rfl) (V (jN (cB t) rfl) ?_)))))
 obtain rfl := sj I
 exact a3 _ _ ⟨_, (b.ju St), rfl, rfl, rfl⟩
theorem uI (x : Int) (r : ByteArray) (w : World) (hm : qg x = some r) :
  jS true Tryz.prog 258 [(.int .i64 x)] w (.string r) := by
 refine cG 22 func258 rfl (fun d => sg (Wa (lr (Wa (ln (jK (ll (mU (fun m E W => ∃ c j t, ST true ku w W (hp w) t ∧ E 0 = (.int .i64 c) ∧ E 3 = (.string j) ∧ sM m c j = some r) jY ⟨x, zS, _, (d.ju St), rfl, rfl, hm⟩ ?_))))))))
 rintro m E W ⟨c, j, t, d, i, u, g⟩
 let N := (Int.tmod c 128)
 cases m with
 | zero => rw [sM] at g; cases g
 | succ D =>
  refine jK (sg (Wh i (Wi rfl (ln (CI g rfl (fun y g => ?_) (fun y g => ?_))))))
  ·refine kn (bg (Wh u (Wh i (V (Ih (k := .i64) (a := c) (b := 128) (v := (.int .i64 N)) rfl rfl dc rfl) (Wi rfl (V (qP (k' := .i64) (a := (IntKind.i64.wrap (128 + N))) eS gf rfl) (VE (jX (cs := [(.int .u8 (IntKind.u8.wrap (IntKind.i64.wrap (128 + N))))].toArray) d (lJ rfl) (lW cW sizeOf5 jb) (fun H J d => V (Ks cW gf bZ rfl (Sl.lit (enc := (lu .u8)) (l := [(IntKind.u8.wrap (IntKind.i64.wrap (128 + N)))]) (fun _ => rfl) rfl nb rfl (d.at_ Mh))) (bS g fun G z g => V (wX rfl rfl z) (Wa ?_)))))))))))
   refine ln ?_
   replace d := d.ju (Db St)
   exact jI (Wh i (V (Ih (k := .i64) (a := c) (b := 128) (v := (.int .i64 (IntKind.i64.wrap (Int.tdiv c 128)))) rfl rfl dc rfl) (Wa (jW (ko (jF ⟨D, bE _, (IntKind.i64.wrap (Int.tdiv c 128)), G, _, (d.ju St), rfl, rfl, g⟩))))))
  refine mZ (mS (mS (qx (jF (sg (Wh u (Wh i (V (qP (k' := .i64) (a := c) eS gf rfl) (VE (jX (cs := [(.int .u8 (IntKind.u8.wrap c))].toArray) d (lJ rfl) (lW cW sizeOf5 jb) (fun I K d => V (Ks cW gf bZ rfl (Sl.lit (enc := (lu .u8)) (l := [(IntKind.u8.wrap c)]) (fun _ => rfl) rfl nb rfl (d.at_ Mh))) (bS g fun M B g => V (wX rfl rfl B) (Wa (ln ?_))))))))))))))
  exact jU (rQ g d)
theorem yj (a r : ByteArray) (w : World) (hm : tG a = some r) :
  jS true Tryz.prog 163 [(.string a)] w (.string r) := by
 refine cG 8 func163 rfl (fun b => sg (Wa (lr (Wm (V (oq bZ rfl) (bS hm fun j c hm => VE (Eg b call258 (uI (a.size : Int) _ _  c) (fun i b => Wm (bS hm fun k g hm => V (wX rfl rfl g) ?_)))))))))
 exact Wa (lt (rQ hm b))
theorem xC (a : jq) (r : ByteArray) (w : World) (hm : sw a = some r) :
  jS true Tryz.prog 259 [(.agg (jA a).toArray)] w (.string r) := by
 refine cG 10 func259 rfl (fun b => sg (VE (km b rfl (fun y z b => Wa (ln (jK ?_))))))
 replace b := b.drew
 have d := b.has.ju (Kb Sn)
 refine kJ d kw (X 0 rfl d (jC oQ rfl) (XH 1 rfl d (fun _ h => jw rfl (jO h Mh rfl bV)) (X 3 rfl d (jC uj rfl) (XH 4 rfl d (fun _ h => jw rfl (jO h Mh rfl bV)) (bS hm fun t c hm => XE 2 rfl (Eg b call163 (yj a.js _ _  c) (fun j b => ?_)))))))
 have d := b.has.ju (Kb Sn)
 refine ⟨d, (bS hm fun u g hm => XE 5 rfl (Eg b call163 (yj a.jy _ _  g) (fun k b => ?_)))⟩
 have d := b.has.ju (Kb Sn)
 refine ⟨d, (bS hm fun x i hm => X 6 rfl d (wX rfl rfl i) (X 7 rfl d (nu rfl) (kW kr (jF ?_))))⟩
 exact jU (rQ hm b)
theorem HY (g : jr) (r : ByteArray) (w : World) (hm : zO g = some r) :
  jS true Tryz.prog 141 [(.agg (jv g).toArray)] w (.string r) := by
 refine cG 41 func141 rfl (fun b => sg (VE (km b rfl (fun W2 l b => Wa (ln (jK ?_))))))
 replace b := b.drew
 have d := b.has.ju (Kb Sn)
 refine kJ d kw (X 0 rfl d (jC qj rfl) (XH 1 rfl d (fun _ h => jw rfl (jO h Mh rfl cC)) (X 3 rfl d (jC qf rfl) (XH 4 rfl d (fun _ h => jw rfl (jz h Mh (jA g.Head) rfl bG aQ)) (bS hm fun a9 H hm => XE 2 rfl (Eg b call258 (uI g.Kind _ _  H) (fun a3 b => ?_)))))))
 have d := b.has.ju (Kb Sn)
 refine ⟨d, (bS hm fun q I hm => XE 5 rfl (Eg b call259 (xC g.Head _ _  I) (fun a4 b => ?_)))⟩
 have d := b.has.ju (Kb Sn)
 refine ⟨d, (bS hm fun L Q hm => X 6 rfl d (wX rfl rfl Q) (X 7 rfl d (nu rfl) (kW kr (jF (jK (sg (Wf qj (VB b Mh rfl rfl cC (Wi rfl (ln (CI hm rfl (fun y hm => ?_) (fun y hm => ?_))))))))))))⟩
 ·refine sg (Wm (Wf wm (VB b Mh rfl rfl bV (bS hm fun s J hm => VE (Eg b call163 (yj g.ky _ _  J) (fun a5 b => bS hm fun O T hm => V (wX rfl rfl T) (Wa (ln ?_))))))))
  replace b := b.ju (Db St)
  refine jU (kj ?_)
  obtain rfl := sj hm
  exact rP b
 refine kg (Wm (Wf nz (VA b Mh (jA g.B) bG aQ (bS hm fun v K hm => VE (Eg b call259 (xC g.B _ _  K) (fun m b => bS hm fun P U hm => V (wX rfl rfl U) (Wa (ln (jK ?_)))))))))
 refine CJ hm (fun x E W => ∃ i, ST true ku w W (hp w) ((l, Ol (jv g) 53) :: i) ∧ E 1 = (.pointer (some ⟨l, 0, none⟩)) ∧ E 3 = (.string x)) (fun x c => ?_) ?_
 ·refine sg (Wf qj (VB b Mh rfl rfl cC (Wi rfl (ln (CI c rfl (fun B c => ?_) (fun B c => ?_))))))
  ·refine jI (Wm (Wf uf (VB b Mh rfl rfl bV (bS c fun F N c => VE (Eg b call163 (yj g.kF _ _  N) (fun p b => bS c fun c1 Z c => V (wX rfl rfl Z) (Wa (ln ?_))))))))
   obtain rfl := sj c
   exact ⟨_, (b.ju St), rfl, rfl⟩
  refine kn ?_
  obtain rfl := sj c
  exact ⟨_, (b.ju St), rfl, rfl⟩
 rintro c2 E W ⟨i, b, k, t⟩ D
 refine jK (CJ D (fun u E W => ∃ j, ST true ku w W (hp w) j ∧ E 3 = (.string u)) (fun u a => ?_) ?_)
 ·refine sg (V (jC qj k) (VB b Mh rfl rfl cC (Wi rfl (ln (CI a rfl (fun z a => ?_) (fun z a => ?_))))))
  ·refine jI (Wh t (V (jC rR k) (VA b Mh (jA g.C) bG aQ (bS a fun A M a => VE (Eg b call259 (xC g.C _ _  M) (fun n b => bS a fun R Y a => V (wX rfl rfl Y) (Wa (ln ?_))))))))
   obtain rfl := sj a
   exact ⟨_, (b.ju (Db St)), rfl⟩
  refine kn ?_
  obtain rfl := sj a
  exact ⟨_, (b.ju (Db St)), t⟩
 rintro c3 E W ⟨j, b, a2⟩ G
 exact sg (Wh a2 (Wa (lt (rQ G b))))
theorem CX (a : jr) (r : ByteArray) (w : World) (hm : vE a = some r) :
  jS true Tryz.prog 253 [(.agg (jv a).toArray)] w (.string r) := by
 refine cG 8 func253 rfl (fun b => sg (VE (km b rfl (fun j u b => Wa (lS (VA b Mh (jv a) bM aJ (bS hm fun x g hm => VE (Eg b call134 (Dc a _ _  g) (fun k b => V (nH rfl) (jW ?_))))))))))
 refine jF (CI hm rfl (fun c hm => ?_) (fun c hm => ?_))
 ·refine sg (Wa (ln ?_))
  replace b := b.ju (Db St)
  refine jU (kj ?_)
  obtain rfl := sj hm
  exact rP b
 refine kg (VA b Mh (jv a) bM aJ (bS hm fun y i hm => VE (Eg b call141 (HY a _ _  i) (fun t b => Wa (ln ?_)))))
 exact jU (rQ hm b)
theorem Bh (a c : jr) (r : Int) (w : World) (hm : si a c = some r) :
  jS true Tryz.prog 135 [(.agg (jv a).toArray), (.agg (jv c).toArray)] w (.int .i64 r) := by
 refine cG 17 func135 rfl (fun b => sg (VE (km b rfl (fun u z b => VE (km b rfl (fun x B b => Wa (lr (VA b (Mt Mh) (jv a) bM aJ (bS hm fun D j hm => VE (Eg b call253 (CX a _ _  j) (fun y b => Wa (jW ?_))))))))))))
 refine jF ?_
 replace b := b.ju (Kb (Db St))
 refine sg (VA b Mh (jv c) bM aJ (bS hm fun G k hm => VE (Eg b call253 (CX c _ _  k) (fun t b => Wa (ln ?_)))))
 replace b := b.ju (Db St)
 refine jK (sg (Wm (Wm (V (qX rfl rfl rfl) (ln (CI hm rfl (fun g hm => ?_) (fun g hm => ?_)))))))
 ·refine sg (Wa (lt (kj ?_)))
  obtain rfl := sj hm
  exact rP b
 refine kS (Wm (Wm (V (qX rfl rfl rfl) (ln (CI hm rfl (fun i hm => ?_) (fun i hm => ?_))))))
 ·refine sg (Wa (lt (kj ?_)))
  obtain rfl := sj hm
  exact rP b
 exact kg (Wa (lt (rQ hm b)))
theorem BA (D : Value) (a0 r : List jr) (w : World) (e3 : Sl (Pl jv) 9 (hp w) D a0) (hm : uz a0 = some r) :
  lz true Tryz.prog 33 [D] w 53 jv 9 r := by
 refine tF 51 func33 rfl (fun d => sg (Wa (lr (Wa (ln (qb (ll (mU (fun m E W => ∃ x a3 u c5, ST true ku w W (hp w) (u ++ c5) ∧ E 0 = D ∧ E 3 = x ∧ jT 53 jv 9 x a3 u ∧ tm a0 m a3 = some r) jY ⟨(.slice none 0 0), ([]), [], _, (d.ju St), rfl, rfl, (jT.nil _ _ _), hm⟩ ?_))))))))
 rintro m E W ⟨x, a3, u, c5, d, d1, g2, J, a5⟩
 cases m with
 | zero => rw [tm] at a5; cases a5
 | succ j5 =>
  refine bg (VE (kf d cH (fun k0 t d => lr (Wa (lS (Wh d1 ?_))))))
  let b8 : Value := (.pointer (some ⟨t, 0, none⟩))
  refine V (kK aI rfl e3) (Wm (ln (CJ a5 (fun a9 E W => ∃ c6, ST true ku w W (hp w) ((t, Ol (jv a9.2) 53) :: (u ++ c6)) ∧ E 0 = D ∧ E 3 = x ∧ E 4 = b8 ∧ E 5 = (.bool a9.1)) (fun a9 e9 => ?_) ?_)))
  ·refine kB (fun i E W => ∃ G y b1, (E 10 = .int .i64 (i : Nat) ∧ E 9 = .int .i64 (a0.length : Nat)) ∧ ST true ku w W (hp w) ((t, Ol (jv y) 53) :: (u ++ b1)) ∧ E 0 = D ∧ E 3 = x ∧ E 4 = b8 ∧ E 5 = (.bool G) ∧ E 8 = D ∧ rz a3 (a0.drop i) G y = some a9) a0.length e3.len ⟨false, Qt, _, ⟨rfl, rfl⟩, (d.ju St), d1, g2, rfl, rfl, rfl, e9⟩ dc dc dc (fun _ _ _ h => by obtain ⟨_, _, _, aa, _⟩ := h; exact aa) ?_ ?_
   ·rintro a2 E W e8 ⟨G, y, b1, ⟨s, P⟩, d, U, M, Y, Z, q, z⟩
    let g5 := ((jv y).toArray : Array Value)
    obtain ⟨c, j9, f9, f8, c4⟩ := kq e8
    let O := ((jv c).toArray : Array Value)
    rw [f9] at z
    refine bg (VQ (na (enc := jv) (i := (a2 : Int)) (x0 := c) aI aJ q s e3 (aH _) f8) (fun k9 f3 => V (jw rfl (jR d.has f3 bM aJ)) (VE (kf d cH (fun k3 K d => VO (jL (.agg (jv c).toArray) ((jv c).toArray) d rfl rfl aJ (mT c) nb rfl (fun k4 d => ln (jK ?_))))))))
    let j2 : Value := (.int .i64 (a2 : Int))
    let j1 : Value := (.int .i64 (a0.length : Int))
    let g6 : Value := (.pointer (some ⟨K, 0, none⟩))
    replace d := d.drew
    have b := d.has.ju (Kb (Kb (Kr Sn)))
    refine kJ b kw (XH 0 rfl b (fun _ n => jw rfl (jz n Mh (jv c) rfl bM aJ)) (bS z fun j6 f5 z => XE 1 rfl (Eg d call134 (Dc c _ _  f5) (fun k5 d => ?_))))
    have b := d.has.ju (Kb (Kb (Kr Sn)))
    refine ⟨b, (X 2 rfl b (jE rfl) (PJ z (fun e0 E W => ∃ c7, ST true ku w W (hp w) ((K, Obj.cells O 53 (0, 0)) :: ((t, Obj.cells g5 53 (0, 0)) :: (u ++ c7))) ∧ E 0 = D ∧ E 3 = x ∧ E 4 = b8 ∧ E 5 = (.bool G) ∧ E 7 = g6 ∧ E 8 = D ∧ E 9 = j1 ∧ E 10 = j2 ∧ E 31 = (.bool e0)) (bm 28 262143) 10 ?_ (fun e0 T c1 => ?_)))⟩
    ·rintro j8 E W ⟨c7, d, b2, b3, A, F, L, b4, b5, b6, g8⟩ f0
     have b := d.has.ju (Kb (Kb (Kr Sn)))
     refine X 18 rfl b (jE g8) (PJ f0 (fun d8 E W => ∃ c8, ST true ku w W (hp w) ((K, Obj.cells O 53 (0, 0)) :: ((t, Obj.cells g5 53 (0, 0)) :: (u ++ c8))) ∧ E 0 = D ∧ E 3 = x ∧ E 4 = b8 ∧ E 5 = (.bool G) ∧ E 7 = g6 ∧ E 8 = D ∧ E 9 = j1 ∧ E 10 = j2 ∧ E 41 = (.bool d8)) (bm 28 268435455) 0 ?_ (fun d8 Q b9 => ?_))
     ·rintro l4 E W ⟨c8, d, d3, d4, b7, g9, h0, d5, d6, d7, h1⟩ N
      refine kW kr (jF (CI N h1 (fun e7 N => ?_) (fun e7 N => ?_)))
      ·refine sg (V (jw h0 (jz d.has Mh (jv c) rfl bM aJ)) ?_)
       replace d := d.perm (Nb (Pb Pz) Nz)
       refine VO (jL (.agg (jv c).toArray) ((jv c).toArray) d b7 rfl aJ (mT c) nb rfl (fun k6 d => ln ?_))
       replace d := d.ju (Kb (Db St))
       exact jI (Wa (jW (ko (jF ⟨d7, true, c, _, ⟨rfl, d6⟩, (d.ju St), d3, d4, b7, rfl, d5, (by rw [c4]; exact N)⟩))))
      refine kP (ko (jF ?_))
      replace d := d.ju (Db St)
      exact ⟨d7, G, y, _, ⟨rfl, d6⟩, (d.ju St), d3, d4, b7, g9, d5, (by rw [c4]; exact N)⟩
     refine bC Q (fun j Q => ?_) (fun j Q => ?_)
     ·refine Xg 19 rfl rfl (cB j) b (jE F) (Xg 20 rfl rfl (cB j) b (nH rfl) (Xg 21 rfl rfl (cB j) b (jE rfl) (PJ Q (fun d9 E W => ∃ c9, ST true ku w W (hp w) ((K, Obj.cells O 53 (0, 0)) :: ((t, Obj.cells g5 53 (0, 0)) :: (u ++ c9))) ∧ E 0 = D ∧ E 3 = x ∧ E 4 = b8 ∧ E 5 = (.bool G) ∧ E 7 = g6 ∧ E 8 = D ∧ E 9 = j1 ∧ E 10 = j2 ∧ E 32 = (.bool j8) ∧ E 40 = (.bool d9)) (bm 28 134217727) 1 ?_ (fun d9 I c0 => ?_))))
      ·rintro l5 E W ⟨c9, d, h2, h3, h4, h5, h6, h7, h8, h9, i0, i1⟩ f1
       have b := d.has.ju (Kb (Kb (Kr Sn)))
       refine X 27 rfl b (jM (i0.trans (cB j)) i1) ?_
       obtain rfl := sj f1
       refine ni kr (b9 _ _ ⟨_, (d.ju St), h2, h3, h4, h5, h6, h7, h8, h9, rfl⟩)
      refine bC I (fun k I => ?_) (fun k I => ?_)
      ·refine Xn 22 rfl rfl (cB k) b (Xn 23 rfl rfl (cB k) b (Xn 24 rfl rfl (cB k) b (Xn 25 rfl rfl (cB k) b (Xg 26 rfl rfl (cB j) b (jM (cB k) rfl) ?_))))
       obtain rfl := sj I
       refine ni kr (c0 _ _ ⟨_, (d.ju St), b2, b3, A, F, L, b4, b5, b6, rfl, rfl⟩)
      refine uF 22 rfl rfl (cB k) b (fun _ n => jw L (jz n Mh (jv c) rfl bM aJ)) (uF 23 rfl rfl (cB k) b (fun _ n => jw A (jz n (Mt Mh) (jv y) rfl bM aJ)) (bS I fun l1 f6 I => E7 24 rfl rfl (cB k) (Eg d call135 (Bh c y _ _  f6) (fun k7 d => ?_))))
      have b := d.has.ju (Kb (Kb (Kr Sn)))
      refine ⟨b, (Xg 25 rfl rfl (cB k) b (kx rfl rfl rfl) (Xg 26 rfl rfl (cB j) b (jN (cB k) rfl) ?_))⟩
      obtain rfl := sj I
      refine ni kr (c0 _ _ ⟨_, (d.ju St), b2, b3, A, F, L, b4, b5, b6, rfl, rfl⟩)
     refine Xn 19 rfl rfl (cB j) b (Xn 20 rfl rfl (cB j) b (Xn 21 rfl rfl (cB j) b (Xu 22 rfl rfl rfl b (Xu 23 rfl rfl rfl b (Xu 24 rfl rfl rfl b (Xu 25 rfl rfl rfl b (Xn 26 rfl rfl (cB j) b (X 27 rfl b (jN (cB j) rfl) ?_))))))))
     obtain rfl := sj Q
     refine ni kr (b9 _ _ ⟨_, (d.ju St), b2, b3, A, F, L, b4, b5, b6, rfl⟩)
    refine bC T (fun g T => ?_) (fun g T => ?_)
    ·refine Xg 3 rfl rfl (cB g) b (jE M) (Xg 4 rfl rfl (cB g) b (mI aI rfl J) (Xg 5 rfl rfl (cB g) b (kx rfl rfl rfl) (Xg 6 rfl rfl (cB g) b (jE rfl) (PJ T (fun e1 E W => ∃ d0, ST true ku w W (hp w) ((K, Obj.cells O 53 (0, 0)) :: ((t, Obj.cells g5 53 (0, 0)) :: (u ++ d0))) ∧ E 0 = D ∧ E 3 = x ∧ E 4 = b8 ∧ E 5 = (.bool G) ∧ E 7 = g6 ∧ E 8 = D ∧ E 9 = j1 ∧ E 10 = j2 ∧ E 16 = (.bool j6) ∧ E 30 = (.bool e1)) (bm 28 131071) 11 ?_ (fun e1 B c2 => ?_)))))
     ·rintro l6 E W ⟨d0, d, i2, i3, i4, i5, i6, i7, i8, i9, j0, j3⟩ f2
      have b := d.has.ju (Kb (Kb (Kr Sn)))
      refine X 17 rfl b (jM (j0.trans (cB g)) j3) ?_
      obtain rfl := sj f2
      refine ni kr (c1 _ _ ⟨_, (d.ju St), i2, i3, i4, i5, i6, i7, i8, i9, rfl⟩)
     refine bC B (fun a B => ?_) (fun a B => ?_)
     ·refine Xn 7 rfl rfl (cB a) b (Xn 8 rfl rfl (cB a) b (Xn 9 rfl rfl (cB a) b (Xn 10 rfl rfl (cB a) b (Xn 11 rfl rfl (cB a) b (Xn 12 rfl rfl (cB a) b (Xn 13 rfl rfl (cB a) b (Xn 14 rfl rfl (cB a) b (Xn 15 rfl rfl (cB a) b (Xg 16 rfl rfl (cB g) b (jM (cB a) rfl) ?_)))))))))
      obtain rfl := sj B
      refine ni kr (c2 _ _ ⟨_, (d.ju St), U, M, Y, Z, rfl, q, P, s, rfl, rfl⟩)
     refine Xg 7 rfl rfl (cB a) b (jE M) (Xg 8 rfl rfl (cB a) b (jE M) (Xg 9 rfl rfl (cB a) b (mI aI rfl J) (Xg 10 rfl rfl (cB a) b (kx rfl rfl rfl) (bS B fun e2 b0 B => sn 11 rfl kr (.inr ⟨6, false, 20, rfl, rfl, by decide, (cB a)⟩) rfl dc (fun _ _ h => h) b (pe (i := (IntKind.i64.wrap ((a3.length : Int) - 1))) (x0 := e2) aI aJ rfl rfl J (kk b0) (ki b0)) (fun l0 f4 => uF 12 rfl rfl (cB a) b (fun _ n => jw rfl (vl n (fun p hq => (Mt (Mt (Ml hq)))) J jV f4 (ki b0) bM aJ)) (uF 13 rfl rfl (cB a) b (fun _ n => jw rfl (jz n Mh (jv c) rfl bM aJ)) (bS B fun l2 f7 B => E7 14 rfl rfl (cB a) (Eg d call135 (Bh e2 c _ _  f7) (fun k8 d => ?_)))))))))
     have b := d.has.ju (Kb (Kb (Kr Sn)))
     refine ⟨b, (Xg 15 rfl rfl (cB a) b (kx rfl rfl rfl) (Xg 16 rfl rfl (cB g) b (jN (cB a) rfl) ?_))⟩
     obtain rfl := sj B
     refine ni kr (c2 _ _ ⟨_, (d.ju St), U, M, Y, Z, rfl, q, P, s, rfl, rfl⟩)
    refine Xn 3 rfl rfl (cB g) b (Xn 4 rfl rfl (cB g) b (Xn 5 rfl rfl (cB g) b (Xn 6 rfl rfl (cB g) b (Xu 7 rfl rfl rfl b (Xu 8 rfl rfl rfl b (Xu 9 rfl rfl rfl b (Xu 10 rfl rfl rfl b (Xu 11 rfl rfl rfl b (Xu 12 rfl rfl rfl b (Xu 13 rfl rfl rfl b (Xu 14 rfl rfl rfl b (Xu 15 rfl rfl rfl b (Xn 16 rfl rfl (cB g) b (X 17 rfl b (jN (cB g) rfl) ?_))))))))))))))
    obtain rfl := sj T
    refine ni kr (c1 _ _ ⟨_, (d.ju St), U, M, Y, Z, rfl, q, P, s, rfl⟩)
   rintro E W ⟨G, y, b1, ⟨s, P⟩, d, U, M, Y, Z, q, z⟩
   rw [aN] at z
   refine jF ?_
   obtain rfl := sj z
   exact ⟨_, (d.ju St), U, M, Y, Z⟩
  rintro ⟨l3, a4⟩ E W ⟨c6, d, g3, d2, g4, g7⟩ H
  refine jK (sg (Wh g7 (V (nH rfl) (ln (CI H rfl (fun e5 H => ?_) (fun e5 H => ?_))))))
  ·refine sg (Wh d2 (Wa (ln ?_)))
   replace d := d.ju (Db St)
   refine jU (kj (me (kj (me (kj ?_)))))
   obtain rfl := sj H
   exact kY (v := x) rfl rfl ⟨_, u, rfl, d.nx (fun p hq => (Ml hq)) J.nd, J⟩
  refine kn (jI (Wh d2 (V (jw g4 (jz d.has Mh (jv a4) rfl bM aJ)) (VE (jX (cs := (jv a4).toArray) d (lJ rfl) (lW aI aJ cH) (fun k1 g1 d => ?_))))))
  replace d := d.perm (Nr (Qb (Qb Qz)) Nz)
  refine bS H fun j4 e6 H => VE (ns (enc := jv) (v := x) (vs := (.slice (some ⟨g1, 0, none⟩) 1 1)) (R := u) d jV dc mT aI mh.1 mh.2.1 rfl mh.2.2.1 mh.2.2.2 rfl rfl J (Sl.lit (enc := jv) (l := [a4]) jV rfl nb rfl (d.at_ (Ma Mh))) e6 (fun k2 j7 g0 d e4 => Wa (jW (ko (jF ?_)))))
  replace d := d.ju (Kr (Db (Db St)))
  exact ⟨j5, bE _, j7, j4, g0, _, (d.ju St), g3, rfl, e4, H⟩
theorem E1 (x : kI) (j t : Value) (r : List jr) (w : World) (g : Sl kc 15 (hp w) j x.jH) (B : Sl kX 8 (hp w) t x.ke) (hm : xw x = some r) :
  lz true Tryz.prog 176 [(.agg #[(.string x.Name), j, t])] w 53 jv 9 r := by
 refine tF 22 func176 rfl (fun d => sg ?_)
 obtain ⟨A1, c2, rfl⟩ := g.form
 obtain ⟨A3, c4, rfl⟩ := B.form
 refine VE (km d rfl (fun W6 b5 d => Wa (lr (Wa (lS (Wf qM (VB d Mh rfl rfl fK (V (kK cP rfl g) ?_))))))))
 refine Wm (ln ?_)
 replace d := d.ju (Db St)
 refine kB (fun i E W => ∃ k y u D, (E 9 = .int .i64 (i : Nat) ∧ E 8 = .int .i64 (x.jH.length : Nat)) ∧ ST true ku w W (hp w) (u ++ D) ∧ E 3 = k ∧ E 7 = (.slice A1 x.jH.length c2) ∧ jT 53 jv 9 k y u ∧ tg (x.jH.drop i) y = some r) x.jH.length g.len ⟨(.slice none 0 0), ([]), [], _, ⟨rfl, rfl⟩, (d.ju St), rfl, rfl, (jT.nil _ _ _), hm⟩ dc dc dc (fun _ _ _ h => by obtain ⟨_, _, _, _, n, _⟩ := h; exact n) ?_ ?_
 ·rintro b6 E W U ⟨k, y, u, D, ⟨m, A⟩, d, G, H, z, c⟩
  obtain ⟨a, d2, O, L, P⟩ := kq U
  rw [O] at c
  refine bg (VQ (lK (i := (b6 : Int)) (x0 := a) kc.out cP cU H m g (aH _) L) (fun c8 ⟨_, ⟨d0, d1, rfl, F, a2⟩, Y⟩ => V (jw rfl (jR d.has Y gK cU)) (VE (kf d eP (fun b9 c6 d => ?_)))))
  obtain ⟨J, M, rfl⟩ := F.form
  obtain ⟨K, N, rfl⟩ := a2.form
  let a0 := (C3 a.Signed.jr.Kind a.Signed.jr.Head.js a.Signed.jr.Head.jy a.Signed.jr.ky a.Signed.jr.B.js a.Signed.jr.B.jy a.Signed.jr.C.js a.Signed.jr.C.jy a.Signed.jr.kF J a.Signed.Tag.length M a.jx.Op a.jx.K a.jx.jq.js a.jx.jq.jy K a.jx.Kids.length N)
  refine VO (jL (.agg a0.toArray) (a0.toArray) d rfl rfl cU oc nb rfl (fun c0 d => ln (jI (Wh G (Wf vI (Wf xj (VA d Mh (jv a.Signed.jr) bM aJ (VE (jX (cs := (jv a.Signed.jr).toArray) d (lJ rfl) (lW aI aJ cH) (fun c1 a5 d => ?_))))))))))
  replace d := d.perm (Nr (Qb (Qb Qz)) Nz)
  refine bS c fun a9 T c => VE (ns (enc := jv) (v := k) (vs := (.slice (some ⟨a5, 0, none⟩) 1 1)) (R := u) d jV dc mT aI mh.1 mh.2.1 rfl mh.2.2.1 mh.2.2.2 rfl rfl z (Sl.lit (enc := jv) (l := [a.Signed.jr]) jV rfl nb rfl (d.at_ (Ma Mh))) T (fun c3 b0 a3 d Q => Wa (jW (ko (jF ?_)))))
  replace d := d.ju (Kr (Db (Db St)))
  exact ⟨m, b0, a9, a3, _, ⟨rfl, A⟩, (d.ju St), rfl, H, Q, (by rw [P]; exact c)⟩
 rintro E W ⟨k, y, u, D, ⟨m, A⟩, d, G, H, z, c⟩
 rw [aN] at c
 refine jF (sg (Wh G (bS c fun c9 Z c => VE (pv d call33 (BA k y _ _ (z.sl jV (fun b o s => d.at_ (Ml s))) Z) (fun c5 b1 d3 a4 d b4 q I => Wa (ln ?_))))))
 replace d := d.ju (Kr (Dr St))
 refine jU ?_
 obtain rfl := sj c
 exact kY (v := b1) rfl rfl ⟨_, a4, rfl, d.nx (fun p s => (Ml s)) I.nd, I⟩
theorem JM (x : Value) (a0 r : List ByteArray) (w : World) (c0 : Sl (Pl sU) 1 (hp w) x a0) (hm : zm a0 = some r) :
  lz true Tryz.prog 162 [x] w 9 sU 1 r := by
 refine tF 48 func162 rfl (fun b => sg (Wa (lr (Wa (ln (qb (ll (mU (fun m E W => ∃ u a2 j c1, ST true ku w W (hp w) (j ++ c1) ∧ E 0 = x ∧ E 3 = u ∧ jT 9 sU 1 u a2 j ∧ tp a0 m a2 = some r) jY ⟨(.slice none 0 0), ([]), [], _, (b.ju St), rfl, rfl, (jT.nil _ _ _), hm⟩ ?_))))))))
 rintro m E W ⟨u, a2, j, c1, b, c7, f6, G, Z⟩
 cases m with
 | zero => rw [tp] at Z; cases Z
 | succ i3 =>
  refine bg (Wa (lS (Wh c7 (V (kK dP rfl c0) (Wm (ln (CJ Z (fun b7 E W => ∃ c2, ST true ku w W (hp w) (j ++ c2) ∧ E 0 = x ∧ E 3 = u ∧ E 4 = (.string b7)) (fun b7 e5 => ?_) ?_)))))))
  ·refine kB (fun i E W => ∃ z s, (E 9 = .int .i64 (i : Nat) ∧ E 8 = .int .i64 (a0.length : Nat)) ∧ ST true ku w W (hp w) (j ++ s) ∧ E 0 = x ∧ E 3 = u ∧ E 4 = (.string z) ∧ E 7 = x ∧ re a2 (a0.drop i) z = some b7) a0.length c0.len ⟨zS, _, ⟨rfl, rfl⟩, (b.ju St), c7, f6, rfl, rfl, e5⟩ dc dc dc (fun _ _ _ h => by obtain ⟨_, _, a6, _⟩ := h; exact a6) ?_ ?_
   ·rintro d E W e4 ⟨z, s, ⟨n, q⟩, b, Q, H, T, U, t⟩
    obtain ⟨I, i7, f3, f2, b9⟩ := kq e4
    rw [f3] at t
    refine bg (VQ (na (enc := sU) (i := (d : Int)) (x0 := I) dP fG U n c0 (aH _) f2) (fun j3 e9 => V (jw rfl (sG b.has (y := (.string I)) e9 bV)) (Wa (lr (Wm (bS t fun i4 f1 t => VE (Eg b call158 (vC I _ _  f1) (fun j0 b => Wm (LJ t (fun d7 E W => ∃ c3, ST true ku w W (hp w) (j ++ c3) ∧ E 0 = x ∧ E 3 = u ∧ E 4 = (.string z) ∧ E 6 = (.string I) ∧ E 7 = x ∧ E 8 = (.int .i64 (a0.length : Int)) ∧ E 9 = (.int .i64 (d : Int)) ∧ E 29 = (.bool d7)) 14 ?_ (fun d7 N a9 => ?_))))))))))
    ·rintro i6 E W ⟨c3, b, A, F, Y, a3, L, O, P, f8⟩ e6
     refine Wh f8 (LJ e6 (fun d5 E W => ∃ c4, ST true ku w W (hp w) (j ++ c4) ∧ E 0 = x ∧ E 3 = u ∧ E 4 = (.string z) ∧ E 6 = (.string I) ∧ E 7 = x ∧ E 8 = (.int .i64 (a0.length : Int)) ∧ E 9 = (.int .i64 (d : Int)) ∧ E 38 = (.bool d5)) 8 ?_ (fun d5 K a7 => ?_))
     ·rintro j5 E W ⟨c4, b, d0, d1, f9, g0, d2, d3, d4, g1⟩ J
      refine ln (CI J g1 (fun e3 J => ?_) (fun e3 J => ?_))
      ·exact jI (Wh g0 (Wa (jW (ko (jF ⟨d4, I, _, ⟨rfl, d3⟩, (b.ju St), d0, d1, rfl, d2, (by rw [b9]; exact J)⟩)))))
      exact kP (ko (jF ⟨d4, z, _, ⟨rfl, d3⟩, (b.ju St), d0, d1, f9, d2, (by rw [b9]; exact J)⟩))
     refine bC K (fun g K => ?_) (fun g K => ?_)
     ·refine ug g (jE Y) (ug g (qX rfl rfl rfl) (ug g (jE rfl) (LJ K (fun d6 E W => ∃ c5, ST true ku w W (hp w) (j ++ c5) ∧ E 0 = x ∧ E 3 = u ∧ E 4 = (.string z) ∧ E 6 = (.string I) ∧ E 7 = x ∧ E 8 = (.int .i64 (a0.length : Int)) ∧ E 9 = (.int .i64 (d : Int)) ∧ E 30 = (.bool i6) ∧ E 37 = (.bool d6)) 4 ?_ (fun d6 M a8 => ?_))))
      ·rintro j6 E W ⟨c5, b, g2, g3, g4, g7, g8, g9, h0, h1, h2⟩ e7
       refine V (jM (h1.trans (cB g)) h2) ?_
       obtain rfl := sj e7
       exact a7 _ _ ⟨_, (b.ju St), g2, g3, g4, g7, g8, g9, h0, rfl⟩
      refine bC M (fun k M => ?_) (fun k M => ?_)
      ·refine un k (un k (un k (ug g (jM (cB k) rfl) ?_)))
       obtain rfl := sj M
       exact a8 _ _ ⟨_, (b.ju St), A, F, Y, a3, L, O, P, rfl, rfl⟩
      refine ug k (jE a3) (ug k (jE Y) (ug k (qX rfl rfl rfl) (ug g (jN (cB k) rfl) ?_)))
      obtain rfl := sj M
      exact a8 _ _ ⟨_, (b.ju St), A, F, Y, a3, L, O, P, rfl, rfl⟩
     refine un g (un g (un g (Vu rfl rfl (Vu rfl rfl (Vu rfl rfl (un g (V (jN (cB g) rfl) ?_)))))))
     obtain rfl := sj K
     exact a7 _ _ ⟨_, (b.ju St), A, F, Y, a3, L, O, P, rfl⟩
    refine bC N (fun c N => ?_) (fun c N => ?_)
    ·refine ug c (jE H) (ug c (mI dP rfl G) (ug c (kx rfl rfl rfl) (ug c (jE rfl) (LJ N (fun d8 E W => ∃ c6, ST true ku w W (hp w) (j ++ c6) ∧ E 0 = x ∧ E 3 = u ∧ E 4 = (.string z) ∧ E 6 = (.string I) ∧ E 7 = x ∧ E 8 = (.int .i64 (a0.length : Int)) ∧ E 9 = (.int .i64 (d : Int)) ∧ E 15 = (.bool i4) ∧ E 28 = (.bool d8)) 9 ?_ (fun d8 D b0 => ?_)))))
     ·rintro j7 E W ⟨c6, b, h3, h4, h5, h6, h7, h8, h9, i0, i1⟩ e8
      refine V (jM (i0.trans (cB c)) i1) ?_
      obtain rfl := sj e8
      exact a9 _ _ ⟨_, (b.ju St), h3, h4, h5, h6, h7, h8, h9, rfl⟩
     refine bC D (fun a D => ?_) (fun a D => ?_)
     ·refine un a (un a (un a (un a (un a (un a (un a (un a (ug c (jM (cB a) rfl) ?_))))))))
      obtain rfl := sj D
      exact b0 _ _ ⟨_, (b.ju St), Q, H, T, rfl, U, q, n, rfl, rfl⟩
     refine ug a (jE rfl) (ug a (jE H) (ug a (jE H) (ug a (mI dP rfl G) (ug a (kx rfl rfl rfl) (bS D fun d9 a5 D => RZ a (pe (i := (IntKind.i64.wrap ((a2.length : Int) - 1))) (x0 := d9) dP fG rfl rfl G (kk a5) (ki a5)) (fun j4 f0 => ug a (jw rfl (CC b.has (fun p hq => (Ml hq)) G (fun _ => rfl) f0 (ki a5) (y := (.string d9)) rfl bV)) (ug a (qX rfl rfl rfl) (ug c (jN (cB a) rfl) ?_))))))))
     obtain rfl := sj D
     exact b0 _ _ ⟨_, (b.ju St), Q, H, T, rfl, U, q, n, rfl, rfl⟩
    refine un c (un c (un c (un c (Vu rfl rfl (Vu rfl rfl (Vu rfl rfl (Vu rfl rfl (Vu rfl rfl (Vu rfl rfl (Vu rfl rfl (Vu rfl rfl (un c (V (jN (cB c) rfl) ?_)))))))))))))
    obtain rfl := sj N
    exact a9 _ _ ⟨_, (b.ju St), Q, H, T, rfl, U, q, n, rfl⟩
   rintro E W ⟨z, s, ⟨n, q⟩, b, Q, H, T, U, t⟩
   rw [aN] at t
   refine jF ?_
   obtain rfl := sj t
   exact ⟨_, (b.ju St), Q, H, T⟩
  rintro a4 E W ⟨c2, b, f7, c8, c9⟩ B
  refine jK (sg (Wh c9 (V (qX rfl rfl rfl) (ln (CI B rfl (fun e1 B => ?_) (fun e1 B => ?_))))))
  ·refine sg (Wh c8 (Wa (lt (kj (me (kj (me (kj ?_))))))))
   obtain rfl := sj B
   exact kY (v := u) rfl rfl ⟨_, j, rfl, b.nx (fun p hq => (Ml hq)) G.nd, G⟩
  refine kn (jI (Wh c8 (Wh c9 (VE (jX (cs := [(.string a4)].toArray) b (lJ rfl) (lW dP fG zeroValue9) (fun i8 f5 b => ?_))))))
  replace b := b.perm (Nr (Qb Qz) Nz)
  refine bS B fun i2 e2 B => VE (ns (enc := sU) (v := u) (vs := (.slice (some ⟨f5, 0, none⟩) 1 1)) (R := j) b (fun _ => rfl) dc KS dP Ba.1 Ba.2.1 rfl Ba.2.2.1 Ba.2.2.2 rfl rfl G (Sl.lit (enc := sU) (l := [a4]) (fun _ => rfl) rfl nb rfl (b.at_ (Ma Mh))) e2 (fun i9 i5 f4 b e0 => Wa (jW (ko (jF ?_)))))
  replace b := b.ju (Kr (Db St))
  exact ⟨i3, bE _, i5, i2, f4, _, (b.ju St), f7, rfl, e0, B⟩
theorem Ia (B : Value) (G : List jr) (r : List ByteArray) (w : World) (y : Sl (Pl jv) 9 (hp w) B G) (hm : xJ G = some r) :
  lz true Tryz.prog 130 [B] w 9 sU 1 r := by
 refine tF 29 func130 rfl (fun d => sg (Wa (lr (Wa (lS (Wm ?_))))))
 refine V (kK aI rfl y) (Wm (ln (kB (fun i E W => ∃ g k j t, (E 8 = .int .i64 (i : Nat) ∧ E 7 = .int .i64 (G.length : Nat)) ∧ ST true ku w W (hp w) (j ++ t) ∧ E 3 = g ∧ E 6 = B ∧ jT 9 sU 1 g k j ∧ rp (G.drop i) k = some r) G.length y.len ⟨(.slice none 0 0), ([]), [], _, ⟨rfl, rfl⟩, (d.ju St), rfl, rfl, (jT.nil _ _ _), hm⟩ dc dc dc (fun _ _ _ h => by obtain ⟨_, _, _, _, n, _⟩ := h; exact n) ?_ ?_)))
 ·rintro a5 E W T ⟨g, k, j, t, ⟨m, A⟩, d, u, x, z, c⟩
  obtain ⟨a, b4, Y, U, Z⟩ := kq T
  rw [Y] at c
  refine bg (VQ (na (enc := jv) (i := (a5 : Int)) (x0 := a) aI aJ x m y (aH _) U) (fun b2 J => V (jw rfl (jR d.has J bM aJ)) (VE (kf d cH (fun L b1 d => VO (jL (.agg (jv a).toArray) ((jv a).toArray) d rfl rfl aJ (mT a) nb rfl (fun O d => ln (jI (Wh u (Wf wm (VB d Mh rfl rfl bV (Wf qf (Wf oQ ?_)))))))))))))
  refine VB d Mh rfl rfl bV (Wf nz (Wf oQ (VB d Mh rfl rfl bV (Wf rR (Wf oQ (VB d Mh rfl rfl bV (VE (jX (cs := #[(.string a.ky), (.string a.Head.js), (.string a.B.js), (.string a.C.js)]) d (Qs rfl rfl rfl rfl) (lW dP fG zeroValue9) (fun P Q d => ?_)))))))))
  replace d := d.perm (Nr (Qb (Qb Qz)) Nz)
  refine bS c fun F I c => VE (ns (enc := sU) (v := g) (vs := (.slice (some ⟨Q, 0, none⟩) 4 4)) (R := j) d (fun _ => rfl) dc KS dP Ba.1 Ba.2.1 rfl Ba.2.2.1 Ba.2.2.2 rfl rfl z (Sl.lit (enc := sU) (l := [a.ky, a.Head.js, a.B.js, a.C.js]) (fun _ => rfl) rfl nb rfl (d.at_ (Ma Mh))) I (fun a9 a2 M d H => Wa (jW (ko (jF ?_)))))
  replace d := d.ju (Kr (Db (Db St)))
  exact ⟨m, a2, F, M, _, ⟨rfl, A⟩, (d.ju St), rfl, x, H, (by rw [Z]; exact c)⟩
 rintro E W ⟨g, k, j, t, ⟨m, A⟩, d, u, x, z, c⟩
 rw [aN] at c
 refine jF (sg (Wh u (bS c fun b3 K c => VE (pv d call162 (JM g k _ _ (z.sl (fun _ => rfl) (fun b o s => d.at_ (Ml s))) K) (fun b0 a3 b5 N d a4 q D => Wa (ln ?_))))))
 replace d := d.ju (Kr (Dr St))
 refine jU ?_
 obtain rfl := sj c
 exact kY (v := a3) rfl rfl ⟨_, N, rfl, d.nx (fun p s => (Ml s)) D.nd, D⟩
theorem wM (y : Value) (H : List jJ) (z : jq) (J : ByteArray) (r : Bool) (w : World) (G : Sl (Pl kp) 3 (hp w) y H) (hm : uo H z J = some r) :
  jS true Tryz.prog 129 [y, (.agg (jA z).toArray), (.string J)] w (.bool r) := by
 refine cG 26 func129 rfl (fun b => sg (VE (km b rfl (fun W2 M b => Wa (lS (Wm (V (kK cX rfl G) (Wm (ln ?_)))))))))
 refine kB (fun i E W => ∃ D, (E 11 = .int .i64 (i : Nat) ∧ E 10 = .int .i64 (H.length : Nat)) ∧ ST true ku w W (hp w) ((M, Ol (jA z) 28) :: D) ∧ E 2 = (.string J) ∧ E 4 = (.pointer (some ⟨M, 0, none⟩)) ∧ E 9 = y ∧ vx z J (H.drop i) = some r) H.length G.len ⟨_, ⟨rfl, rfl⟩, (b.ju St), rfl, rfl, rfl, hm⟩ dc dc dc (fun _ _ _ h => by obtain ⟨_, l, _⟩ := h; exact l) ?_ ?_
 ·rintro T E W n ⟨D, ⟨d, m⟩, b, t, u, x, c⟩
  obtain ⟨k, O, q, p, a9⟩ := kq n
  rw [q] at c
  refine bg (VQ (na (enc := kp) (i := (T : Int)) (x0 := k) cX ep x d G (aH _) p) (fun F Q => V (jw rfl (jR b.has Q iz ep)) (VE (kf b fB (fun s A b => VO (jL (.agg (kp k).toArray) ((kp k).toArray) b rfl rfl ep (yV k) nb rfl (fun v b => lr (Wf yD (VA b Mh (jA k.jq) bG aQ (V (jw u (jz b.has (Mt Mh) (jA z) rfl bG aQ)) (V (uB rfl rfl (nm eA) (qO (po _ k.jq z))) ?_)))))))))))
  refine Wm (LJ c (fun K E W => ∃ I, ST true ku w W (hp w) ((M, Ol (jA z) 28) :: I) ∧ E 2 = (.string J) ∧ E 4 = (.pointer (some ⟨M, 0, none⟩)) ∧ E 9 = y ∧ E 10 = (.int .i64 (H.length : Int)) ∧ E 11 = (.int .i64 (T : Int)) ∧ E 24 = (.bool K)) 5 ?_ (fun K j B => ?_))
  ·rintro L E W ⟨I, b, U, Y, Z, a3, a4, a5⟩ g
   refine ln (CI g a5 (fun N g => ?_) (fun N g => ?_))
   ·refine sg (Wa (ln ?_))
    replace b := b.ju (Db St)
    refine jU (me (kj (me (kj ?_))))
    obtain rfl := sj g
    exact rP b
   exact kP (ko (jF ⟨a4, _, ⟨rfl, a3⟩, (b.ju St), U, Y, Z, (by rw [a9]; exact g)⟩))
  refine bC j (fun a j => ?_) (fun a j => ?_)
  ·refine ug a (jC xq rfl) (ug a (jw rfl (jO b.has Mh rfl bV)) (ug a (jE t) (ug a (qX rfl rfl rfl) (V (jM (cB a) rfl) ?_))))
   obtain rfl := sj j
   exact B _ _ ⟨_, (b.ju (Db St)), t, u, x, m, d, rfl⟩
  refine un a (un a (un a (un a (V (jN (cB a) rfl) ?_))))
  obtain rfl := sj j
  exact B _ _ ⟨_, (b.ju (Db St)), t, u, x, m, d, rfl⟩
 rintro E W ⟨D, ⟨d, m⟩, b, t, u, x, c⟩
 rw [aN] at c
 refine jF ?_
 replace b := b.ju (Db St)
 exact sg (Wa (lt (rQ c b)))
theorem II (k : Value) (M : List jJ) (t : jr) (K : Value) (Y : List ByteArray) (H : ByteArray) (r : Bool) (w : World) (G : Sl (Pl kp) 3 (hp w) k M) (T : Sl (Pl sU) 1 (hp w) K Y) (hm : yG M t Y H = some r) :
  jS true Tryz.prog 131 [k, (.agg (jv t).toArray), K, (.string H)] w (.bool r) := by
 refine cG 62 func131 rfl (fun b => sg (VE (km b rfl (fun W2 d b => Wa (lS (Wf qj (VB b Mh rfl rfl cC (Wi rfl (ln ?_)))))))))
 refine CI hm rfl (fun d0 hm => ?_) (fun d0 hm => ?_)
 ·refine sg (Wf wm (VB b Mh rfl rfl bV (Wm (V (qX rfl rfl rfl) (Wa (ln ?_))))))
  replace b := b.ju (Db St)
  refine jU (kj ?_)
  obtain rfl := sj hm
  exact rP b
 refine kS (Wf qj (VB b Mh rfl rfl cC (Wi rfl (ln (CI hm rfl (fun d1 hm => ?_) (fun d1 hm => ?_))))))
 ·refine sg (Wm (Wf nz (VA b Mh (jA t.B) bG aQ (Wm (bS hm fun r5 d3 hm => VE (Eg b call129 (wM k M t.B H _ _ (G.mono (Pl.mono _) b.jD) d3) (fun W7 b => Wa (ln ?_))))))))
  replace b := b.ju (Db St)
  refine jU (kj ?_)
  obtain rfl := sj hm
  exact rP b
 refine kS (Wf qj (VB b Mh rfl rfl cC (Wi rfl (ln (CI hm rfl (fun d2 hm => ?_) (fun d2 hm => ?_))))))
 ·refine sg (Wm (Wf nz (VA b Mh (jA t.B) bG aQ (Wm (bS hm fun r9 c7 hm => VE (Eg b call129 (wM k M t.B H _ _ (G.mono (Pl.mono _) b.jD) c7) (fun e1 b => Wm (LJ hm (fun q E W => ∃ p, ST true ku w W (hp w) p ∧ E 8 = (.bool false) ∧ E 40 = (.bool q)) 6 ?_ (fun q u U => ?_)))))))))
  ·rintro e5 E W ⟨p, b, e3, c9⟩ c6
   refine Wg c9 (lt (kj ?_))
   obtain rfl := sj c6
   exact rP b
  refine bC u (fun c u => ?_) (fun c u => ?_)
  ·refine ug c (jE rfl) (ug c (jC rR rfl) (ug c (jw rfl (jz b.has Mh (jA t.C) rfl bG aQ)) (ug c (jE rfl) (bS u fun e4 c8 u => qI c (Eg b call129 (wM k M t.C H _ _ (G.mono (Pl.mono _) b.jD) c8) (fun e2 b => V (jM (cB c) rfl) ?_))))))
   obtain rfl := sj u
   exact U _ _ ⟨_, (b.ju (Db St)), rfl, rfl⟩
  refine un c (un c (un c (un c (un c (V (jN (cB c) rfl) ?_)))))
  obtain rfl := sj u
  exact U _ _ ⟨_, (b.ju (Db St)), rfl, rfl⟩
 refine kS (Wm (V (kK dP rfl T) (Wm (ln (kB (fun i E W => ∃ Q, (E 43 = .int .i64 (i : Nat) ∧ E 42 = .int .i64 (Y.length : Nat)) ∧ ST true ku w W (hp w) ((d, Ol (jv t) 53) :: Q) ∧ E 0 = k ∧ E 3 = (.string H) ∧ E 5 = (.pointer (some ⟨d, 0, none⟩)) ∧ E 41 = K ∧ uq M t H (Y.drop i) = some r) Y.length T.len ⟨_, ⟨rfl, rfl⟩, (b.ju St), rfl, rfl, rfl, rfl, hm⟩ dc dc dc (fun _ _ _ h => by obtain ⟨_, m, _⟩ := h; exact m) ?_ ?_)))))
 ·rintro a4 E W A ⟨Q, ⟨l, n⟩, b, B, I, D, J, g⟩
  obtain ⟨z, d4, P, O, R⟩ := kq A
  rw [P] at g
  refine bg (VQ (na (enc := sU) (i := (a4 : Int)) (x0 := z) dP fG J l T (aH _) O) (fun d7 a9 => V (jw rfl (sG b.has (y := (.string z)) a9 bV)) (Wa (lr (Wh B (V (jC nz D) (VA b Mh (jA t.B) bG aQ (Wm (bS g fun d8 F g => ?_)))))))))
  refine VE (Eg b call129 (wM k M t.B z _ _ (G.mono (Pl.mono _) b.jD) F) (fun d5 b => Wm (LJ g (fun a5 E W => ∃ Z, ST true ku w W (hp w) ((d, Ol (jv t) 53) :: Z) ∧ E 0 = k ∧ E 3 = (.string H) ∧ E 5 = (.pointer (some ⟨d, 0, none⟩)) ∧ E 41 = K ∧ E 42 = (.int .i64 (Y.length : Int)) ∧ E 43 = (.int .i64 (a4 : Int)) ∧ E 60 = (.bool a5)) 8 ?_ (fun a5 j N => ?_))))
  ·rintro e0 E W ⟨Z, b, b9, c0, c1, c2, c3, c4, c5⟩ x
   refine ln (CI x c5 (fun s x => ?_) (fun s x => ?_))
   ·refine sg (Wa (ln ?_))
    replace b := b.ju (Db St)
    refine jU (me (kj (me (kj ?_))))
    obtain rfl := sj x
    exact rP b
   exact kP (ko (jF ⟨c4, _, ⟨rfl, c3⟩, (b.ju St), b9, c0, c1, c2, (by rw [R]; exact x)⟩))
  refine bC j (fun a j => ?_) (fun a j => ?_)
  ·refine ug a (jE B) (ug a (jE rfl) (ug a (jC uf D) (ug a (jw rfl (jO b.has Mh rfl bV)) (ug a (kZ (v := (.agg (jA (⟨z, t.kF⟩ : jq)).toArray)) (nY rfl rfl) (kE eH cZ (G7 _ cZ) kr)) (ug a (jE I) (bS j fun d9 L j => qI a (Eg b call129 (wM k M (⟨z, t.kF⟩ : jq) H _ _ (G.mono (Pl.mono _) b.jD) L) (fun d6 b => V (jM (cB a) rfl) ?_))))))))
   obtain rfl := sj j
   exact N _ _ ⟨_, (b.ju St), B, I, D, J, n, l, rfl⟩
  refine un a (un a (un a (un a (un a (un a (un a (V (jN (cB a) rfl) ?_)))))))
  obtain rfl := sj j
  exact N _ _ ⟨_, (b.ju St), B, I, D, J, n, l, rfl⟩
 rintro E W ⟨Q, ⟨l, n⟩, b, B, I, D, J, g⟩
 rw [aN] at g
 refine jF ?_
 replace b := b.ju (Db St)
 exact sg (Wa (lt (rQ g b)))
theorem Em (j k : jJ) (r : Bool) (w : World) (hm : tu j k = some r) :
  jS true Tryz.prog 331 [(.agg (kp j).toArray), (.agg (kp k).toArray)] w (.bool r) := by
 refine cG 24 func331 rfl (fun b => sg (VE (km b rfl (fun Y d b => VE (km b rfl (fun Z h b => Wa (lr (Wf yD (VA b (Mt Mh) (jA j.jq) bG aQ (Wf yD (VA b Mh (jA k.jq) bG aQ (bS hm fun N M hm => ?_))))))))))))
 refine VE (Eg b call242 (DM j.jq k.jq _ _  M) (fun W7 b => Wm (LJ hm (fun z E W => ∃ x, ST true ku w W (hp w) x ∧ E 4 = (.bool false) ∧ E 23 = (.bool z)) 13 ?_ (fun z g t => ?_))))
 ·rintro T E W ⟨x, b, Q, H⟩ D
  exact Wg H (lt (rQ D b))
 refine bC g (fun a g => ?_) (fun a g => ?_)
 ·refine un a (un a (un a (un a (un a (un a (Vu rfl rfl (Vu rfl rfl (Vu rfl rfl (Vu rfl rfl (Vu rfl rfl (un a (V (jM (cB a) rfl) ?_))))))))))))
  obtain rfl := sj g
  exact t _ _ ⟨_, (b.ju (Db (Db St))), rfl, rfl⟩
 refine ug a (jC yD rfl) (ug a (jw rfl (jz b.has (Mt Mh) (jA j.jq) rfl bG aQ)) (ug a (jC yD rfl) (ug a (jw rfl (jz b.has Mh (jA k.jq) rfl bG aQ)) (ug a (uB rfl rfl (nm eA) (qO (po _ j.jq k.jq))) (ug a (jE rfl) (LJ g (fun B E W => ∃ y, ST true ku w W (hp w) y ∧ E 4 = (.bool false) ∧ E 10 = (.bool N) ∧ E 22 = (.bool B)) 6 ?_ (fun B i u => ?_)))))))
 ·rintro U E W ⟨y, b, I, J, K⟩ G
  refine V (jN (J.trans (cB a)) K) ?_
  obtain rfl := sj G
  exact t _ _ ⟨_, (b.ju St), I, rfl⟩
 refine bC i (fun c i => ?_) (fun c i => ?_)
 ·refine ug c (jC xq rfl) (ug c (jw rfl (jO b.has (Mt Mh) rfl bV)) (ug c (jC xq rfl) (ug c (jw rfl (jO b.has Mh rfl bV)) (ug c (qX rfl rfl rfl) (ug a (jM (cB c) rfl) ?_)))))
  obtain rfl := sj i
  exact u _ _ ⟨_, (b.ju (Db (Db St))), rfl, rfl, rfl⟩
 refine un c (un c (un c (un c (un c (ug a (jN (cB c) rfl) ?_)))))
 obtain rfl := sj i
 exact u _ _ ⟨_, (b.ju (Db (Db St))), rfl, rfl, rfl⟩
theorem G5 (I : Value) (Q r : List jJ) (w : World) (Y : Sl (Pl kp) 3 (hp w) I Q) (hm : yQ Q = some r) :
  lz true Tryz.prog 240 [I] w 38 kp 3 r := by
 refine tF 56 func240 rfl (fun d => sg (Wa (lr (Wa (lS (Wm ?_))))))
 refine V (kK cX rfl Y) (Wm (ln (kB (fun i E W => ∃ y N x a9, (E 9 = .int .i64 (i : Nat) ∧ E 8 = .int .i64 (Q.length : Nat)) ∧ ST true ku w W (hp w) (x ++ a9) ∧ E 0 = I ∧ E 3 = y ∧ jT 38 kp 3 y N x ∧ oE Q (Q.drop i) N = some r) Q.length Y.len ⟨(.slice none 0 0), ([]), [], _, ⟨rfl, rfl⟩, (d.ju St), rfl, rfl, (jT.nil _ _ _), hm⟩ dc dc dc (fun _ _ _ h => by obtain ⟨_, _, _, _, n, _⟩ := h; exact n) ?_ ?_)))
 ·rintro a7 E W i6 ⟨y, N, x, a9, ⟨m, s⟩, d, P, b2, z, D⟩
  obtain ⟨l2, l1, i7, k2, e4⟩ := kq i6
  rw [i7] at D
  refine bg (Wa (lS (Wh P (V (kK cX rfl Y) (Wm (ln (CJ D (fun c5 E W => ∃ c9, ST true ku w W (hp w) (x ++ c9) ∧ E 0 = I ∧ E 3 = y ∧ E 4 = (.int .i64 c5) ∧ E 8 = (.int .i64 (Q.length : Int)) ∧ E 9 = (.int .i64 (a7 : Int))) (fun c5 f5 => ?_) ?_)))))))
  ·let g5 : Value := (.int .i64 (a7 : Int))
   let a0 : Value := (.int .i64 (Q.length : Int))
   refine kB (fun i E W => ∃ B O, (E 13 = .int .i64 (i : Nat) ∧ E 12 = .int .i64 (Q.length : Nat)) ∧ ST true ku w W (hp w) (x ++ O) ∧ E 0 = I ∧ E 3 = y ∧ E 4 = (.int .i64 B) ∧ E 8 = a0 ∧ E 9 = g5 ∧ E 11 = I ∧ oH N Q (Q.drop i) i B = some c5) Q.length Y.len ⟨(-1), _, ⟨rfl, rfl⟩, (d.ju St), P, b2, rfl, s, m, rfl, f5⟩ dc dc dc (fun _ _ _ h => by obtain ⟨_, _, n, _⟩ := h; exact n) ?_ ?_
   ·rintro H E W f4 ⟨B, O, ⟨m, s⟩, d, A, J, a2, a3, a4, a5, G⟩
    let b8 : Value := (.int .i64 (H : Int))
    obtain ⟨j, j5, g7, g4, c7⟩ := kq f4
    rw [g7] at G
    refine bg (Wh m (VQ (na (enc := kp) (i := (H : Int)) (x0 := j) cX ep a5 m Y (aH _) g4) (fun k4 f9 => V (jw rfl (jR d.has f9 iz ep)) (VE (kf d fB (fun j8 Z d => Wa (VO (jL (.agg (kp j).toArray) ((kp j).toArray) d rfl rfl ep (yV j) nb rfl (fun j9 d => ln (jK ?_))))))))))
    replace d := d.drew
    have b := d.has.ju (Kb (Kr Sn))
    refine kJ b kw (X 0 rfl b (jE J) (X 1 rfl b (mI cX rfl z) (X 2 rfl b (kx rfl rfl rfl) (X 3 rfl b (jE rfl) (PJ G (fun e7 E W => ∃ d0, ST true ku w W (hp w) ((Z, Ol (kp j) 38) :: (x ++ d0)) ∧ E 0 = I ∧ E 3 = y ∧ E 4 = (.int .i64 B) ∧ E 5 = b8 ∧ E 6 = (.pointer (some ⟨Z, 0, none⟩)) ∧ E 8 = a0 ∧ E 9 = g5 ∧ E 11 = I ∧ E 12 = a0 ∧ E 13 = b8 ∧ E 30 = (.bool e7)) (bm 25 8191) 12 ?_ (fun e7 u c4 => ?_))))))
    ·rintro j3 E W ⟨d0, d, F, b4, T, b5, h0, b6, b7, b9, c0, c1, h1⟩ f6
     have b := d.has.ju (Kb (Kr Sn))
     refine X 13 rfl b (jE h1) (PJ f6 (fun e5 E W => ∃ d1, ST true ku w W (hp w) ((Z, Ol (kp j) 38) :: (x ++ d1)) ∧ E 0 = I ∧ E 3 = y ∧ E 4 = (.int .i64 B) ∧ E 5 = b8 ∧ E 8 = a0 ∧ E 9 = g5 ∧ E 11 = I ∧ E 12 = a0 ∧ E 13 = b8 ∧ E 42 = (.bool e5)) (bm 25 33554431) 0 ?_ (fun e5 M c2 => ?_))
     ·rintro k9 E W ⟨d1, d, d7, d8, h2, h3, d9, e0, e1, e2, e3, h4⟩ K
      refine kW kr (jF ?_)
      replace d := d.ju (Db St)
      refine CI K h4 (fun f3 K => ?_) (fun f3 K => ?_)
      ·exact jI (Wh h3 (Wa (jW (ko (jF ⟨e3, (H : Int), _, ⟨rfl, e2⟩, (d.ju St), d7, d8, rfl, d9, e0, e1, (by rw [c7]; exact K)⟩)))))
      exact kP (ko (jF ⟨e3, B, _, ⟨rfl, e2⟩, (d.ju St), d7, d8, h2, d9, e0, e1, (by rw [c7]; exact K)⟩))
     refine bC M (fun g M => ?_) (fun g M => ?_)
     ·refine Xg 14 rfl rfl (cB g) b (jE T) (Xg 15 rfl rfl (cB g) b (kx rfl rfl rfl) (Xg 16 rfl rfl (cB g) b (jE rfl) (PJ M (fun e6 E W => ∃ d2, ST true ku w W (hp w) ((Z, Ol (kp j) 38) :: (x ++ d2)) ∧ E 0 = I ∧ E 3 = y ∧ E 4 = (.int .i64 B) ∧ E 5 = b8 ∧ E 8 = a0 ∧ E 9 = g5 ∧ E 11 = I ∧ E 12 = a0 ∧ E 13 = b8 ∧ E 31 = (.bool j3) ∧ E 41 = (.bool e6)) (bm 25 16777215) 1 ?_ (fun e6 t c3 => ?_))))
      ·rintro l0 E W ⟨d2, d, h5, h6, h7, h8, h9, i0, i1, i2, i3, i4, i5⟩ f7
       have b := d.has.ju (Kb (Kr Sn))
       refine X 24 rfl b (jM (i4.trans (cB g)) i5) ?_
       obtain rfl := sj f7
       refine ni kr (c2 _ _ ⟨_, (d.ju St), h5, h6, h7, h8, h9, i0, i1, i2, i3, rfl⟩)
      refine bC t (fun c t => ?_) (fun c t => ?_)
      ·refine Xn 17 rfl rfl (cB c) b (Xn 18 rfl rfl (cB c) b (Xn 19 rfl rfl (cB c) b (Xn 20 rfl rfl (cB c) b (Xn 21 rfl rfl (cB c) b (Xn 22 rfl rfl (cB c) b (Xg 23 rfl rfl (cB g) b (jM (cB c) rfl) ?_))))))
       obtain rfl := sj t
       refine ni kr (c3 _ _ ⟨_, (d.ju St), F, b4, T, b5, b6, b7, b9, c0, c1, rfl, rfl⟩)
      refine uF 17 rfl rfl (cB c) b (fun _ q => jw h0 (jz q Mh (kp j) rfl iz ep)) (Xg 18 rfl rfl (cB c) b (jE F) (Xg 19 rfl rfl (cB c) b (jE T) (bS t fun e8 c8 t => sn 20 rfl kr (.inr ⟨16, false, 34, rfl, rfl, by decide, (cB c)⟩) rfl dc (fun _ _ h => h) b (na (enc := kp) (i := B) (x0 := e8) cX ep rfl rfl Y (kk c8) (ki c8)) (fun k5 g0 => uF 21 rfl rfl (cB c) b (fun _ q => jw rfl (jR q g0 iz ep)) (bS t fun k7 g2 t => E7 22 rfl rfl (cB c) (Eg d call331 (Em j e8 _ _  g2) (fun k0 d => ?_)))))))
      have b := d.has.ju (Kb (Kr Sn))
      refine ⟨b, (Xg 23 rfl rfl (cB g) b (jN (cB c) rfl) ?_)⟩
      obtain rfl := sj t
      refine ni kr (c3 _ _ ⟨_, (d.ju St), F, b4, T, b5, b6, b7, b9, c0, c1, rfl, rfl⟩)
     refine Xn 14 rfl rfl (cB g) b (Xn 15 rfl rfl (cB g) b (Xn 16 rfl rfl (cB g) b (Xu 17 rfl rfl rfl b (Xu 18 rfl rfl rfl b (Xu 19 rfl rfl rfl b (Xu 20 rfl rfl rfl b (Xu 21 rfl rfl rfl b (Xu 22 rfl rfl rfl b (Xn 23 rfl rfl (cB g) b (X 24 rfl b (jN (cB g) rfl) ?_))))))))))
     obtain rfl := sj M
     refine ni kr (c2 _ _ ⟨_, (d.ju St), F, b4, T, b5, b6, b7, b9, c0, c1, rfl⟩)
    refine bC u (fun a u => ?_) (fun a u => ?_)
    ·refine Xn 4 rfl rfl (cB a) b (Xn 5 rfl rfl (cB a) b (Xn 6 rfl rfl (cB a) b (Xn 7 rfl rfl (cB a) b (Xn 8 rfl rfl (cB a) b (Xn 9 rfl rfl (cB a) b (Xn 10 rfl rfl (cB a) b (Xn 11 rfl rfl (cB a) b (X 12 rfl b (jM (cB a) rfl) ?_))))))))
     obtain rfl := sj u
     refine ni kr (c4 _ _ ⟨_, (d.ju St), A, J, a2, rfl, rfl, a3, a4, a5, s, m, rfl⟩)
    refine Xg 4 rfl rfl (cB a) b (jE J) (Xg 5 rfl rfl (cB a) b (jE J) (Xg 6 rfl rfl (cB a) b (mI cX rfl z) (Xg 7 rfl rfl (cB a) b (kx rfl rfl rfl) (bS u fun e9 L u => sn 8 rfl kr (.inr ⟨3, false, 21, rfl, rfl, by decide, (cB a)⟩) rfl dc (fun _ _ h => h) b (pe (i := (IntKind.i64.wrap ((N.length : Int) - 1))) (x0 := e9) cX ep rfl rfl z (kk L) (ki L)) (fun k6 g1 => uF 9 rfl rfl (cB a) b (fun _ q => jw rfl (vl q (fun p hq => (Mt (Ml hq))) z qN g1 (ki L) iz ep)) (uF 10 rfl rfl (cB a) b (fun _ q => jw rfl (jz q Mh (kp j) rfl iz ep)) (bS u fun k8 g3 u => E7 11 rfl rfl (cB a) (Eg d call331 (Em e9 j _ _  g3) (fun k1 d => ?_)))))))))
    have b := d.has.ju (Kb (Kr Sn))
    refine ⟨b, (X 12 rfl b (jN (cB a) rfl) ?_)⟩
    obtain rfl := sj u
    refine ni kr (c4 _ _ ⟨_, (d.ju St), A, J, a2, rfl, rfl, a3, a4, a5, s, m, rfl⟩)
   rintro E W ⟨B, O, ⟨m, s⟩, d, A, J, a2, a3, a4, a5, G⟩
   rw [aN] at G
   refine jF ?_
   obtain rfl := sj G
   exact ⟨_, (d.ju St), A, J, a2, a3, a4⟩
  rintro j0 E W ⟨c9, d, b3, d3, d4, d5, d6⟩ k
  refine sg (Wh d4 (Wi rfl (ln (CI k rfl (fun f1 k => ?_) (fun f1 k => ?_)))))
  ·refine jI (Wh d3 (Wh b3 (Wh d4 (bS k fun U c6 k => VQ (na (enc := kp) (i := j0) (x0 := U) cX ep rfl rfl Y (kk c6) (ki c6)) (fun k3 f8 => V (jw rfl (jR d.has f8 iz ep)) (VE (jX (cs := (kp U).toArray) d (lJ rfl) (lW cX ep fB) (fun j6 g9 d => ?_))))))))
   replace d := d.perm (Nr (Qb Qz) Nz)
   refine bS k fun i8 f2 k => VE (ns (enc := kp) (v := y) (vs := (.slice (some ⟨g9, 0, none⟩) 1 1)) (R := x) d qN dc yV cX vq.1 vq.2.1 rfl vq.2.2.1 vq.2.2.2 rfl rfl z (Sl.lit (enc := kp) (l := [U]) qN rfl nb rfl (d.at_ (Ma Mh))) f2 (fun j7 i9 g8 d f0 => Wa (jW (ko (jF ?_)))))
   replace d := d.ju (Kr (Db St))
   exact ⟨d6, i9, i8, g8, _, ⟨rfl, d5⟩, (d.ju St), b3, rfl, f0, (by rw [e4]; exact k)⟩
  exact kP (ko (jF ⟨d6, y, N, x, _, ⟨rfl, d5⟩, (d.ju St), b3, d3, z, (by rw [e4]; exact k)⟩))
 rintro E W ⟨y, N, x, a9, ⟨m, s⟩, d, P, b2, z, D⟩
 rw [aN] at D
 refine jF (sg (Wh b2 (Wa (lt ?_))))
 obtain rfl := sj D
 exact kY (v := y) rfl rfl ⟨_, x, rfl, d.nx (fun p hq => (Ml hq)) z.nd, z⟩
theorem KV (f8 : Value) (a0 : List jr) (r : List jJ) (w : World) (k8 : Sl (Pl jv) 9 (hp w) f8 a0) (hm : wZ a0 = some r) :
  lz true Tryz.prog 124 [f8] w 38 kp 3 r := by
 refine tF 53 func124 rfl (fun d => sg (Wa (lr (Wm (bS hm fun O m0 hm => VE (pv d call33 (BA f8 a0 _ _ (k8.mono (Pl.mono _) d.jD) m0) (fun W3 v7 ae R8 d n0 ad f3 => Wa (ln (jK ?_)))))))))
 refine jI (Wm (bS hm fun s l0 hm => VE (pv d call130 (Ia v7 O _ _ (f3.sl jV (fun b o n => d.at_ (Ml n))) l0) (fun n2 q d7 d1 d m9 ab P => Wa (lr (Wa (ln (qb (ll (mU (fun m E W => ∃ c0 b9 b7 d8, ST true ku w W d7 (b7 ++ (d1 ++ (R8 ++ d8))) ∧ E 3 = v7 ∧ E 4 = q ∧ E 5 = c0 ∧ jT 38 kp 3 c0 b9 b7 ∧ tX s O m b9 = some r) jY ⟨(.slice none 0 0), ([]), [], _, (d.ju St), rfl, rfl, rfl, (jT.nil _ _ _), hm⟩ ?_))))))))))
 rintro m E W ⟨c0, b9, b7, d8, d, e2, i3, i4, k0, Y⟩
 cases m with
 | zero => rw [tX] at Y; cases Y
 | succ k3 =>
  refine bg (Wa (lS (Wh e2 (V (mI aI rfl f3) (Wm (ln (CJ Y (fun b1 E W => ∃ T Z d9, ST true ku w W d7 (Z ++ (d1 ++ (R8 ++ d9))) ∧ E 3 = v7 ∧ E 4 = q ∧ E 5 = T ∧ E 6 = (.bool b1.2) ∧ jT 38 kp 3 T b1.1 Z) (fun b1 g8 => ?_) ?_)))))))
  ·refine kB (fun i E W => ∃ J Q H U c1, (E 17 = .int .i64 (i : Nat) ∧ E 16 = .int .i64 (O.length : Nat)) ∧ ST true ku w W d7 (H ++ (d1 ++ (R8 ++ c1))) ∧ E 3 = v7 ∧ E 4 = q ∧ E 5 = J ∧ E 6 = (.bool U) ∧ E 15 = v7 ∧ jT 38 kp 3 J Q H ∧ vm s (O.drop i) Q U = some b1) O.length f3.len ⟨c0, b9, b7, false, _, ⟨rfl, rfl⟩, (d.ju St), e2, i3, i4, rfl, rfl, k0, g8⟩ dc dc dc (fun _ _ _ h => by obtain ⟨_, _, _, _, _, F, _⟩ := h; exact F) ?_ ?_
   ·rintro b0 E W g4 ⟨J, Q, H, U, c1, ⟨A, L⟩, d, c3, a3, c4, c5, c6, b5, u⟩
    obtain ⟨a, l1, h7, d4, h8⟩ := kq g4
    rw [h7] at u
    refine bg (VQ (pe (i := (b0 : Int)) (x0 := a) aI aJ c6 A f3 (aH _) d4) (fun m1 h1 => V (jw rfl (vl d.has (fun p n => (Ma (Ma (Ml n)))) f3 jV h1 d4 bM aJ)) (VE (kf d cH (fun l4 a2 d => VO (jL (.agg (jv a).toArray) ((jv a).toArray) d rfl rfl aJ (mT a) nb rfl (fun l5 d => lr (Wh a3 (V (mI dP rfl P) (Wm (jW ?_)))))))))))
    let b8 : Value := (.int .i64 (O.length : Int))
    refine jF (qb (CJ u (fun b2 E W => ∃ b3 a1 e0, ST true ku w W d7 (a1 ++ (d1 ++ (R8 ++ e0))) ∧ E 3 = v7 ∧ E 4 = q ∧ E 5 = b3 ∧ E 6 = (.bool b2.2) ∧ E 15 = v7 ∧ E 16 = b8 ∧ E 17 = (.int .i64 (b0 : Int)) ∧ jT 38 kp 3 b3 b2.1 a1) (fun b2 h0 => ?_) ?_))
    ·refine kB (fun i E W => ∃ k G B K c2, (E 23 = .int .i64 (i : Nat) ∧ E 22 = .int .i64 (s.length : Nat)) ∧ ST true ku w W d7 ((a2, Ol (jv a) 53) :: (B ++ (d1 ++ (R8 ++ c2)))) ∧ E 3 = v7 ∧ E 4 = q ∧ E 5 = k ∧ E 6 = (.bool K) ∧ E 8 = (.pointer (some ⟨a2, 0, none⟩)) ∧ E 15 = v7 ∧ E 16 = b8 ∧ E 17 = (.int .i64 (b0 : Int)) ∧ E 21 = q ∧ jT 38 kp 3 k G B ∧ tW a s (s.drop i) G K = some b2) s.length P.len ⟨J, Q, H, U, _, ⟨rfl, rfl⟩, (d.ju St), c3, a3, c4, c5, rfl, c6, L, A, rfl, b5, h0⟩ dc dc dc (fun _ _ _ h => by obtain ⟨_, _, _, _, _, F, _⟩ := h; exact F) ?_ ?_
     ·rintro f4 E W g7 ⟨k, G, B, K, c2, ⟨A, L⟩, d, a4, M, I, a5, N, a6, a7, a8, a9, D, j⟩
      obtain ⟨g, l2, h9, d5, d6⟩ := kq g7
      rw [h9] at j
      refine bg (VQ (pe (i := (f4 : Int)) (x0 := g) dP fG a9 A P (aH _) d5) (fun m2 h2 => V (jw rfl (CC d.has (fun p n => (Mt (Ma (Ml n)))) P (fun _ => rfl) h2 d5 (y := (.string g)) rfl bV)) (Wa (lr (Wh I (V (jC qf N) (VA d Mh (jA a.Head) bG aQ (Wm (bS j fun m4 h4 j => ?_)))))))))
      refine VE (Eg d call129 (wM k G a.Head g _ _ (D.sl qN (fun b o n => d.at_ (Mt (Ml n)))) h4) (fun l6 d => V (nH rfl) (Wm (LJ j (fun f7 E W => ∃ e1, ST true ku w W d7 ((a2, Ol (jv a) 53) :: (B ++ (d1 ++ (R8 ++ e1)))) ∧ E 3 = v7 ∧ E 4 = q ∧ E 5 = k ∧ E 6 = (.bool K) ∧ E 8 = (.pointer (some ⟨a2, 0, none⟩)) ∧ E 10 = (.string g) ∧ E 15 = v7 ∧ E 16 = b8 ∧ E 17 = (.int .i64 (b0 : Int)) ∧ E 21 = q ∧ E 22 = (.int .i64 (s.length : Int)) ∧ E 23 = (.int .i64 (f4 : Int)) ∧ E 39 = (.bool f7)) 6 ?_ (fun f7 z c9 => ?_)))))
      ·rintro m7 E W ⟨e1, d, e4, e5, e6, j7, c7, j8, e7, e8, e9, f0, f1, f2, j9⟩ x
       refine ln (CI x j9 (fun g2 x => ?_) (fun g2 x => ?_))
       ·refine sg (Wh e6 (V (jC qf c7) (VA d Mh (jA a.Head) bG aQ (Wh j8 (V (kZ (v := (.agg (kp (⟨a.Head, g⟩ : jJ)).toArray)) (nY rfl rfl) (kE fB fA (NW _ fA) kr)) (VE (jX (cs := (kp (⟨a.Head, g⟩ : jJ)).toArray) d (lJ rfl) (lW cX ep fB) (fun l7 i2 d => ?_))))))))
        replace d := d.perm (Nr (Qb (Qb Qz)) Nz)
        refine bS x fun k2 g3 x => VE (ns (enc := kp) (v := k) (vs := (.slice (some ⟨i2, 0, none⟩) 1 1)) (R := B) d qN dc yV cX vq.1 vq.2.1 rfl vq.2.2.1 vq.2.2.2 rfl rfl D (Sl.lit (enc := kp) (l := [(⟨a.Head, g⟩ : jJ)]) qN rfl nb rfl (d.at_ (Ma Mh))) g3 (fun l8 k5 i1 d g0 => Wa (ln ?_)))
        replace d := d.ju (Kr (Db St))
        exact jI (Wa (jW (ko (jF ⟨f2, k5, k2, i1, true, _, ⟨rfl, f1⟩, (d.ju (Sb (Pr Pz) St)), e4, e5, rfl, rfl, c7, e7, e8, e9, f0, g0, (by rw [d6]; exact x)⟩))))
       exact kP (ko (jF ⟨f2, k, G, B, K, _, ⟨rfl, f1⟩, (d.ju St), e4, e5, e6, j7, c7, e7, e8, e9, f0, D, (by rw [d6]; exact x)⟩))
      refine bC z (fun c z => ?_) (fun c z => ?_)
      ·refine ug c (jE I) (ug c (jw N (jz d.has Mh (jv a) rfl bM aJ)) (ug c (jE M) (ug c (jE rfl) (bS z fun m5 h5 z => qI c (Eg d call131 (II k G a q s g _ _ (D.sl qN (fun b o n => d.at_ (Mt (Ml n)))) (P.sl (fun _ => rfl) (fun b o n => d.at_ (Mt (Ma (Ml n))))) h5) (fun l9 d => V (jM (cB c) rfl) ?_))))))
       obtain rfl := sj z
       exact c9 _ _ ⟨_, (d.ju St), a4, M, I, a5, N, rfl, a6, a7, a8, a9, L, A, rfl⟩
      refine un c (un c (un c (un c (un c (V (jN (cB c) rfl) ?_)))))
      obtain rfl := sj z
      exact c9 _ _ ⟨_, (d.ju St), a4, M, I, a5, N, rfl, a6, a7, a8, a9, L, A, rfl⟩
     rintro E W ⟨k, G, B, K, c2, ⟨A, L⟩, d, a4, M, I, a5, N, a6, a7, a8, a9, D, j⟩
     rw [aN] at j
     refine jF ?_
     obtain rfl := sj j
     exact ⟨k, B, _, (d.ju (Db St)), a4, M, I, a5, a6, a7, a8, D⟩
    rintro ⟨k1, k6⟩ E W ⟨b3, a1, e0, d, i8, i9, j0, j3, j4, j5, j6, h6⟩ g9
    exact ko (jF ⟨j6, b3, k1, a1, k6, _, ⟨rfl, j5⟩, (d.ju St), i8, i9, j0, j3, j4, h6, (by rw [h8]; exact g9)⟩)
   rintro E W ⟨J, Q, H, U, c1, ⟨A, L⟩, d, c3, a3, c4, c5, c6, b5, u⟩
   rw [aN] at u
   refine jF ?_
   obtain rfl := sj u
   exact ⟨J, H, _, (d.ju St), c3, a3, c4, c5, b5⟩
  rintro ⟨f5, m6⟩ E W ⟨T, Z, d9, d, i5, i6, e3, i7, d3⟩ t
  refine sg (Wh i7 (V (nH rfl) (ln (CI t rfl (fun g1 t => ?_) (fun g1 t => ?_)))))
  ·refine sg (Wh e3 (bS t fun m3 h3 t => VE (pv d call240 (G5 T f5 _ _ (d3.sl qN (fun b o n => d.at_ (Ml n))) h3) (fun l3 k4 m8 i0 d k9 aa d2 => Wa (ln ?_)))))
   replace d := d.ju (Kr (Dr (Dr (Dr St))))
   refine jU (me (kj (me (kj ?_))))
   obtain rfl := sj t
   exact kY (v := k4) rfl rfl ⟨_, i0, rfl, d.nx (fun p n => (Ml n)) d2.nd, d2⟩
  exact kP (ko (jF ⟨k3, bE _, T, f5, Z, _, (d.ju St), i5, i6, e3, d3, t⟩))
theorem Ib (D : Value) (G : List jJ) (I : ByteArray) (r : List jq) (w : World) (B : Sl (Pl kp) 3 (hp w) D G) (hm : vG G I = some r) :
  lz true Tryz.prog 283 [D, (.string I)] w 28 jA 2 r := by
 refine tF 25 func283 rfl (fun b => sg (Wa (lr (Wa (lS (Wm ?_))))))
 refine V (kK cX rfl B) (Wm (ln (kB (fun i E W => ∃ k y g z, (E 10 = .int .i64 (i : Nat) ∧ E 9 = .int .i64 (G.length : Nat)) ∧ ST true ku w W (hp w) (g ++ z) ∧ E 1 = (.string I) ∧ E 5 = k ∧ E 8 = D ∧ jT 28 jA 2 k y g ∧ pW I (G.drop i) y = some r) G.length B.len ⟨(.slice none 0 0), ([]), [], _, ⟨rfl, rfl⟩, (b.ju St), rfl, rfl, rfl, (jT.nil _ _ _), hm⟩ dc dc dc (fun _ _ _ h => by obtain ⟨_, _, _, _, m, _⟩ := h; exact m) ?_ ?_)))
 ·rintro a4 E W U ⟨k, y, g, z, ⟨d, n⟩, b, t, u, x, j, a⟩
  obtain ⟨c, O, Z, Y, H⟩ := kq U
  rw [Z] at a
  refine bg (VQ (na (enc := kp) (i := (a4 : Int)) (x0 := c) cX ep x d B (aH _) Y) (fun L N => V (jw rfl (jR b.has N iz ep)) (VE (kf b fB (fun a5 a9 b => VO (jL (.agg (kp c).toArray) ((kp c).toArray) b rfl rfl ep (yV c) nb rfl (fun s b => lr (Wf xq (VB b Mh rfl rfl bV (Wh t (V (qX rfl rfl rfl) ?_)))))))))))
  refine ln (CI a rfl (fun K a => ?_) (fun K a => ?_))
  ·refine jI (Wh u (Wf yD (VA b Mh (jA c.jq) bG aQ (VE (jX (cs := (jA c.jq).toArray) b (lJ rfl) (lW eQ aQ eH) (fun A T b => ?_))))))
   replace b := b.perm (Nr (Qb (Qb Qz)) Nz)
   refine bS a fun a2 M a => VE (ns (enc := jA) (v := k) (vs := (.slice (some ⟨T, 0, none⟩) 1 1)) (R := g) b xX dc vJ eQ vH.1 vH.2.1 rfl vH.2.2.1 vH.2.2.2 rfl rfl j (Sl.lit (enc := jA) (l := [c.jq]) xX rfl nb rfl (b.at_ (Ma Mh))) M (fun F a3 Q b J => Wa (jW (ko (jF ?_)))))
   replace b := b.ju (Kr (Db (Db St)))
   exact ⟨d, a3, a2, Q, _, ⟨rfl, n⟩, (b.ju St), t, rfl, x, J, (by rw [H]; exact a)⟩
  refine kP (ko (jF ?_))
  replace b := b.ju (Db St)
  exact ⟨d, k, y, g, _, ⟨rfl, n⟩, (b.ju St), t, u, x, j, (by rw [H]; exact a)⟩
 rintro E W ⟨k, y, g, z, ⟨d, n⟩, b, t, u, x, j, a⟩
 rw [aN] at a
 refine jF (sg (Wh u (Wa (lt ?_))))
 obtain rfl := sj a
 exact kY (v := k) rfl rfl ⟨_, g, rfl, b.nx (fun p q => (Ml q)) j.nd, j⟩
theorem Ef (G : Formula → Option Int) (K : ∀ (j : Formula) (g : Value) (r : Int) (w : World) (c : Sl jt 5 (hp w) g j.Kids), G j = some r → jS false Tryz.prog 347 [(.agg #[(.int .i64 j.Op), (.int .i64 j.K), (.string j.jq.js), (.string j.jq.jy), g])] w (.int .i64 r)) (j : Formula) (g : Value) (r : Int) (w : World) (c : Sl jt 5 (hp w) g j.Kids) (hm : wA G j = some r) :
  jS false Tryz.prog 347 [(.agg #[(.int .i64 j.Op), (.int .i64 j.K), (.string j.jq.js), (.string j.jq.jy), g])] w (.int .i64 r) := by
 refine cG 19 func347 rfl (fun b => sg ?_)
 obtain ⟨U, Y, rfl⟩ := c.form
 refine VE (km b rfl (fun W4 s b => Wa (lr (Wa (lS (Wf mO (VB b Mh rfl rfl dB (V (kK aD rfl c) ?_))))))))
 refine Wm (ln ?_)
 replace b := b.ju (Db St)
 refine kB (fun i E W => ∃ x z, (E 9 = .int .i64 (i : Nat) ∧ E 8 = .int .i64 (j.Kids.length : Nat)) ∧ ST false ku w W (hp w) z ∧ E 3 = (.int .i64 x) ∧ E 7 = (.slice U j.Kids.length Y) ∧ rq G (j.Kids.drop i) x = some r) j.Kids.length c.len ⟨1, _, ⟨rfl, rfl⟩, (b.ju St), rfl, rfl, hm⟩ dc dc dc (fun _ _ _ h => by obtain ⟨_, _, l, _⟩ := h; exact l) ?_ ?_
 ·rintro Z E W J ⟨x, z, ⟨d, m⟩, b, B, D, k⟩
  obtain ⟨a, q, N, M, Q⟩ := kq J
  rw [N] at k
  refine bg (VQ (lK (i := (Z : Int)) (x0 := a) jt.out aD aB D d c (aH _) M) (fun a5 ⟨_, ⟨p, rfl, y⟩, H⟩ => V (jw rfl (jR b.has H aG aB)) (VE (kf b aM (fun n a4 b => ?_)))))
  obtain ⟨t, u, rfl⟩ := y.form
  let a0 := (C1 a.Op a.K a.jq.js a.jq.jy t a.Kids.length u)
  refine VO (jL (.agg a0.toArray) (a0.toArray) b rfl rfl aB oc nb rfl (fun a2 b => ln (jI (Wh B (VA b Mh a0 aG aB (bS k fun T I k => VE (Eg b call347 (K a (.slice t a.Kids.length u) _ _ (y.mono jB.mono b.jD) I) (fun a3 b => Wi rfl (Wa (jW (ko (jF ?_))))))))))))
  replace b := b.ju (Db St)
  exact ⟨d, (IntKind.i64.wrap (x + T)), _, ⟨rfl, m⟩, (b.ju St), rfl, D, (by rw [Q]; exact k)⟩
 rintro E W ⟨x, z, ⟨d, m⟩, b, B, D, k⟩
 rw [aN] at k
 exact jF (sg (Wh B (Wa (lt (rQ k b)))))
theorem CZ : ∀ (n : Nat) (c : Formula) (a : Value) (r : Int) (w : World) (g : Sl jt 5 (hp w) a c.Kids) (_ : qU n c = some r),
  jS false Tryz.prog 347 [(.agg #[(.int .i64 c.Op), (.int .i64 c.K), (.string c.jq.js), (.string c.jq.jy), a])] w (.int .i64 r)
 | 0 => by intros; rename_i h; simp only [qU] at h; cases h
 | n + 1 => Ef (qU n) (CZ n)
theorem EJ (I : Formula → Option Int) (N : ∀ (j : Formula) (g : Value) (r : Int) (w : World) (c : Sl jt 5 (hp w) g j.Kids), I j = some r → jS false Tryz.prog 348 [(.agg #[(.int .i64 j.Op), (.int .i64 j.K), (.string j.jq.js), (.string j.jq.jy), g])] w (.int .i64 r)) (j : Formula) (g : Value) (r : Int) (w : World) (c : Sl jt 5 (hp w) g j.Kids) (hm : xh I j = some r) :
  jS false Tryz.prog 348 [(.agg #[(.int .i64 j.Op), (.int .i64 j.K), (.string j.jq.js), (.string j.jq.jy), g])] w (.int .i64 r) := by
 refine cG 20 func348 rfl (fun b => sg ?_)
 obtain ⟨Y, Z, rfl⟩ := c.form
 refine VE (km b rfl (fun W4 v b => Wa (lr (Wa (lS (Wf mO (VB b Mh rfl rfl dB (V (kK aD rfl c) ?_))))))))
 refine Wm (ln ?_)
 replace b := b.ju (Db St)
 refine kB (fun i E W => ∃ u B, (E 9 = .int .i64 (i : Nat) ∧ E 8 = .int .i64 (j.Kids.length : Nat)) ∧ ST false ku w W (hp w) B ∧ E 3 = (.int .i64 u) ∧ E 7 = (.slice Y j.Kids.length Z) ∧ sh I (j.Kids.drop i) u = some r) j.Kids.length c.len ⟨0, _, ⟨rfl, rfl⟩, (b.ju St), rfl, rfl, hm⟩ dc dc dc (fun _ _ _ h => by obtain ⟨_, _, l, _⟩ := h; exact l) ?_ ?_
 ·rintro n E W M ⟨u, B, ⟨d, m⟩, b, D, G, t⟩
  obtain ⟨a, s, T, Q, U⟩ := kq M
  rw [T] at t
  refine bg (VQ (lK (i := (n : Int)) (x0 := a) jt.out aD aB G d c (aH _) Q) (fun p ⟨_, ⟨q, rfl, z⟩, J⟩ => V (jw rfl (jR b.has J aG aB)) (VE (kf b aM (fun a2 a5 b => ?_)))))
  obtain ⟨x, y, rfl⟩ := z.form
  let a0 := (C1 a.Op a.K a.jq.js a.jq.jy x a.Kids.length y)
  refine VO (jL (.agg a0.toArray) (a0.toArray) b rfl rfl aB oc nb rfl (fun a3 b => ln (jI (Wh D (VA b Mh a0 aG aB (bS t fun H K t => VE (Eg b call348 (N a (.slice x a.Kids.length y) _ _ (z.mono jB.mono b.jD) K) (fun a4 b => V (L5 (k := .i64) rfl rfl) (Wa (jW (ko (jF ?_))))))))))))
  replace b := b.ju (Db St)
  exact ⟨d, (if H > u then H else u), _, ⟨rfl, m⟩, (b.ju St), rfl, G, (by rw [U]; exact t)⟩
 rintro E W ⟨u, B, ⟨d, m⟩, b, D, G, t⟩
 rw [aN] at t
 exact jF (sg (Wh D (Wi rfl (Wa (lt (rQ t b))))))
theorem Eb : ∀ (n : Nat) (c : Formula) (a : Value) (r : Int) (w : World) (g : Sl jt 5 (hp w) a c.Kids) (_ : rK n c = some r),
  jS false Tryz.prog 348 [(.agg #[(.int .i64 c.Op), (.int .i64 c.K), (.string c.jq.js), (.string c.jq.jy), a])] w (.int .i64 r)
 | 0 => by intros; rename_i h; simp only [rK] at h; cases h
 | n + 1 => EJ (rK n) (Eb n)
end Go.Proofs.YtmlncblocfcmiaaGreat
