/- a part of a proof of WeighHolds -/
import Derived.Test.YtbnbdigcbldfhaaGreatW5Mj
import Derived.Test.YtbnbdigcbldfhaaGreatProg
set_option linter.all false
namespace Go.Proofs.YtbnbdigcbldfhaaGreat
open Go.IntKind renaming wrap → wi0
open Go.Proofs.Tryz renaming prog → pg0
open Go.RowKit
set_option maxRecDepth 10000
open Tryz
def ae := @sizeOf108
def ah := @sizeOf28
def ap := @underlying22
def az := @isAgg28
def aI := @isAgg9
def aM := @isAgg108
def aO := @underlying112
def aS := @underlying9
def aX := @sizeOf38
def aZ := @zeroValue108
def bd := @underlying45
def bp := @underlying120
def bu := @underlying38
def bG := @underlying28
def bI := @sizeOf30
def bM := @underlying78
def bN := @underlying108
def bV := @isAgg3
def cq := @underlying34
def cu := @zeroValue38
def cy := @sizeOf9
def cz := @isAgg38
def cA := @underlying25
def cE := @zeroValue28
def cK := @underlying30
def cL := @sizeOf140
def cM := @zeroValue30
def dg := @underlying174
def dh := @underlying125
def dx := @underlying170
def dL := @eqGuardType28
def dX := @underlying3
def dY := @underlying5
def dZ := @zeroValue3
def ed := @zeroValue175
def ee := @zeroValue140
def eu := @underlying175
def ey := @isAgg30
def eQ := @sizeOf3
def eS := @underlying140
def eT := @underlying124
def fg := @underlying79
def fD := @eqGuardType108
def fE := @isAgg170
def fF := @zeroValue4
def gd := @underlying250
def gr := @underlying81
def gu := @zeroValue5
def gv := @zeroValue9
def gE := @zeroValue22
abbrev K0 : gH := ⟨zS, zS⟩
abbrev K1 : ByteArray := ⟨#[98]⟩
abbrev K2 : ByteArray := ⟨#[115]⟩
abbrev K3 : ByteArray := ⟨#[97]⟩
abbrev K4 : ByteArray := ⟨#[114]⟩
abbrev K5 : ByteArray := ⟨#[100]⟩
abbrev K6 : gH := ⟨K1, K2⟩
abbrev K7 : gH := ⟨K3, K4⟩
abbrev K8 : gT := ⟨K0, 0, 0, 0⟩
abbrev K9 : gG := ⟨0, K0, zS, K0, K0, zS⟩
abbrev vd : gG := ⟨2, K7, zS, K6, K0, zS⟩
abbrev vm : gG := ⟨1, K6, K5, K0, K0, zS⟩
abbrev C1 : List Value := [(.int .i64 2), (.string (K7.gU)), (.string (K7.iz)), (.string zS), (.string (K6.gU)), (.string (K6.iz)), (.string (K0.gU)), (.string (K0.iz)), (.string zS), (.int .i64 1), (.string (K6.gU)), (.string (K6.iz)), (.string K5), (.string (K0.gU)), (.string (K0.iz)), (.string (K0.gU)), (.string (K0.iz)), (.string zS)]
theorem iA : Tryz.prog.follows .mixedOrders = true := by rfl
theorem pd : Tryz.prog.info? 5 = some Tryz.t5 ∧ Tryz.t5.zero = some (.int .u8 0) ∧ Tryz.t5.size = 1 ∧ Tryz.t5.bytes = 1 := ⟨by kernel_rfl, by kernel_rfl, by kernel_rfl, by kernel_rfl⟩
theorem rh : Tryz.prog.info? 9 = some Tryz.t9 ∧ Tryz.t9.zero = some (.string ⟨#[]⟩) ∧ Tryz.t9.size = 1 ∧ Tryz.t9.bytes = 16 := ⟨by kernel_rfl, by kernel_rfl, by kernel_rfl, by kernel_rfl⟩
theorem pL : Tryz.prog.info? 28 = some Tryz.t28 ∧ Tryz.t28.zero = some (.agg #[(.string ⟨#[]⟩), (.string ⟨#[]⟩)]) ∧ Tryz.t28.size = 2 ∧ Tryz.t28.bytes = 32 := ⟨by kernel_rfl, by kernel_rfl, by kernel_rfl, by kernel_rfl⟩
theorem yE : Tryz.prog.info? 30 = some Tryz.t30 ∧ Tryz.t30.zero = some (.agg #[(.string ⟨#[]⟩), (.string ⟨#[]⟩), (.int .i64 0), (.int .i64 0), (.int .i64 0)]) ∧ Tryz.t30.size = 5 ∧ Tryz.t30.bytes = 56 := ⟨by kernel_rfl, by kernel_rfl, by kernel_rfl, by kernel_rfl⟩
theorem nL : Tryz.prog.info? 38 = some Tryz.t38 ∧ Tryz.t38.zero = some (.agg #[(.string ⟨#[]⟩), (.string ⟨#[]⟩), (.string ⟨#[]⟩)]) ∧ Tryz.t38.size = 3 ∧ Tryz.t38.bytes = 48 := ⟨by kernel_rfl, by kernel_rfl, by kernel_rfl, by kernel_rfl⟩
theorem kY : Tryz.prog.info? 108 = some Tryz.t108 ∧ Tryz.t108.zero = some (.agg #[(.int .i64 0), (.string ⟨#[]⟩), (.string ⟨#[]⟩), (.string ⟨#[]⟩), (.string ⟨#[]⟩), (.string ⟨#[]⟩), (.string ⟨#[]⟩), (.string ⟨#[]⟩), (.string ⟨#[]⟩)]) ∧ Tryz.t108.size = 9 ∧ Tryz.t108.bytes = 136 := ⟨by kernel_rfl, by kernel_rfl, by kernel_rfl, by kernel_rfl⟩
theorem pX : Tryz.prog.info? 140 = some Tryz.t140 ∧ Tryz.t140.zero = some (.agg #[(.int .i64 0), (.string ⟨#[]⟩), (.string ⟨#[]⟩), (.string ⟨#[]⟩), (.string ⟨#[]⟩), (.string ⟨#[]⟩), (.string ⟨#[]⟩), (.string ⟨#[]⟩), (.string ⟨#[]⟩), (.string ⟨#[]⟩), (.string ⟨#[]⟩), (.string ⟨#[]⟩)]) ∧ Tryz.t140.size = 12 ∧ Tryz.t140.bytes = 184 := ⟨by kernel_rfl, by kernel_rfl, by kernel_rfl, by kernel_rfl⟩
theorem kJ : jF pg0 28 0 0 := jn bG rfl cy (by decide) rfl
theorem pw : jF pg0 28 1 1 := jn bG rfl cy (by decide) rfl
theorem Fj : (Tryz.prog.fieldsOf 28).toList = (match Tryz.prog.underlying 28 with | some (.struct fs) => fs.toList | _ => []) := by rw [bG]; simp [Program.fieldsOf, bG]
theorem mT (d : Nat) (x y : gH) (W : World) : (Op.equalIn (d + 2) 28 (.agg (gK x).toArray) (.agg (gK y).toArray)).run pg0 W = .ok (gO x y) W := by
 rw [eA W (d + 1) 28 _ _ (by kernel_rfl) Tryz.stoodInHeld28, Fj, bG]
 exact (jI (by decide) (jL aI rfl) (jL aI rfl) (Er aS _ _ _ _) (jI (by decide) (jL aI rfl) (jL aI rfl) (Er aS _ _ _ _) (rY _ _ _)))
theorem Bx : ∀ fs, Tryz.prog.underlying 28 = some (.struct fs) → ∀ w, (fs.mapM (fun (f : Field) => do pure (f.offset, ← sizeOf f.type)) : Sem (Array (Nat × Nat))).run pg0 w = .ok #[(0, 1), (1, 1)] w := by
 intro fs h w
 rw [bG] at h
 cases h
 kernel_rfl
theorem kP : jF pg0 108 0 0 := jn bN rfl eQ (by decide) rfl
theorem kX : jF pg0 108 1 1 := jn bN rfl ah (by decide) rfl
theorem nw : jF pg0 108 2 3 := jn bN rfl cy (by decide) rfl
theorem jm : jF pg0 108 3 4 := jn bN rfl ah (by decide) rfl
theorem lz : jF pg0 108 4 6 := jn bN rfl ah (by decide) rfl
theorem mV : jF pg0 108 5 8 := jn bN rfl cy (by decide) rfl
theorem D8 : (Tryz.prog.fieldsOf 108).toList = (match Tryz.prog.underlying 108 with | some (.struct fs) => fs.toList | _ => []) := by rw [bN]; simp [Program.fieldsOf, bN]
theorem vP (d : Nat) (x y : gG) (W : World) : (Op.equalIn (d + 3) 108 (.agg (gJ x).toArray) (.agg (gJ y).toArray)).run pg0 W = .ok (mJ x y) W := by
 rw [eA W (d + 2) 108 _ _ (by kernel_rfl) Tryz.stoodInHeld108, D8, bN]
 exact (jI (by decide) (jL bV rfl) (jL bV rfl) (Fz dX _ _ _ _) (jI (by decide) (ou az ah rfl) (ou az ah rfl) (mT _ x.Head y.Head W) (jI (by decide) (jL aI rfl) (jL aI rfl) (Er aS _ _ _ _) (jI (by decide) (ou az ah rfl) (ou az ah rfl) (mT _ x.B y.B W) (jI (by decide) (ou az ah rfl) (ou az ah rfl) (mT _ x.C y.C W) (jI (by decide) (jL aI rfl) (jL aI rfl) (Er aS _ _ _ _) (rY _ _ _)))))))
theorem Dm : ∀ fs, Tryz.prog.underlying 108 = some (.struct fs) → ∀ w, (fs.mapM (fun (f : Field) => do pure (f.offset, ← sizeOf f.type)) : Sem (Array (Nat × Nat))).run pg0 w = .ok #[(0, 1), (1, 2), (3, 1), (4, 2), (6, 2), (8, 1)] w := by
 intro fs h w
 rw [bN] at h
 cases h
 kernel_rfl
theorem u6 : jF pg0 30 0 0 := jn cK rfl ah (by decide) rfl
theorem wG : jF pg0 30 1 2 := jn cK rfl eQ (by decide) rfl
theorem w7 : jF pg0 30 2 3 := jn cK rfl eQ (by decide) rfl
theorem Gw : jF pg0 30 3 4 := jn cK rfl eQ (by decide) rfl
theorem E4 : (Tryz.prog.fieldsOf 30).toList = (match Tryz.prog.underlying 30 with | some (.struct fs) => fs.toList | _ => []) := by rw [cK]; simp [Program.fieldsOf, cK]
theorem CT (d : Nat) (x y : gT) (W : World) : (Op.equalIn (d + 3) 30 (.agg (gX x).toArray) (.agg (gX y).toArray)).run pg0 W = .ok (sL x y) W := by
 rw [eA W (d + 2) 30 _ _ (by kernel_rfl) Tryz.stoodInHeld30, E4, cK]
 exact (jI (by decide) (ou az ah rfl) (ou az ah rfl) (mT _ x.gH y.gH W) (jI (by decide) (jL bV rfl) (jL bV rfl) (Fz dX _ _ _ _) (jI (by decide) (jL bV rfl) (jL bV rfl) (Fz dX _ _ _ _) (jI (by decide) (jL bV rfl) (jL bV rfl) (Fz dX _ _ _ _) (rY _ _ _)))))
theorem GW : ∀ fs, Tryz.prog.underlying 30 = some (.struct fs) → ∀ w, (fs.mapM (fun (f : Field) => do pure (f.offset, ← sizeOf f.type)) : Sem (Array (Nat × Nat))).run pg0 w = .ok #[(0, 2), (2, 1), (3, 1), (4, 1)] w := by
 intro fs h w
 rw [cK] at h
 cases h
 kernel_rfl
theorem tW : jF pg0 38 0 0 := jn bu rfl ah (by decide) rfl
theorem pv : jF pg0 38 1 2 := jn bu rfl cy (by decide) rfl
theorem Fp : (Tryz.prog.fieldsOf 38).toList = (match Tryz.prog.underlying 38 with | some (.struct fs) => fs.toList | _ => []) := by rw [bu]; simp [Program.fieldsOf, bu]
theorem vR (d : Nat) (x y : gI) (W : World) : (Op.equalIn (d + 3) 38 (.agg (gS x).toArray) (.agg (gS y).toArray)).run pg0 W = .ok (iy x y) W := by
 rw [eA W (d + 2) 38 _ _ (by kernel_rfl) Tryz.stoodInHeld38, Fp, bu]
 exact (jI (by decide) (ou az ah rfl) (ou az ah rfl) (mT _ x.gH y.gH W) (jI (by decide) (jL aI rfl) (jL aI rfl) (Er aS _ _ _ _) (rY _ _ _)))
theorem xQ : ∀ fs, Tryz.prog.underlying 38 = some (.struct fs) → ∀ w, (fs.mapM (fun (f : Field) => do pure (f.offset, ← sizeOf f.type)) : Sem (Array (Nat × Nat))).run pg0 w = .ok #[(0, 2), (2, 1)] w := by
 intro fs h w
 rw [bu] at h
 cases h
 kernel_rfl
theorem Gf : jF pg0 140 0 0 := jn eS rfl ae (by decide) rfl
theorem rG : jF pg0 140 1 9 := jn eS rfl aX (by decide) rfl
theorem Hr : ∀ fs, Tryz.prog.underlying 140 = some (.struct fs) → ∀ w, (fs.mapM (fun (f : Field) => do pure (f.offset, ← sizeOf f.type)) : Sem (Array (Nat × Nat))).run pg0 w = .ok #[(0, 9), (9, 3)] w := by
 intro fs h w
 rw [eS] at h
 cases h
 kernel_rfl
theorem tU : jF pg0 81 0 0 := jn gr rfl sizeOf78 (by decide) rfl
theorem HW : ∀ fs, Tryz.prog.underlying 81 = some (.struct fs) → ∀ w, (fs.mapM (fun (f : Field) => do pure (f.offset, ← sizeOf f.type)) : Sem (Array (Nat × Nat))).run pg0 w = .ok #[(0, 1)] w := by
 intro fs h w
 rw [gr] at h
 cases h
 kernel_rfl
theorem rM : jF pg0 174 0 0 := jn dg rfl sizeOf170 (by decide) rfl
theorem zt : jF pg0 174 1 1 := jn dg rfl sizeOf22 (by decide) rfl
theorem CA : jF pg0 174 2 2 := jn dg rfl sizeOf171 (by decide) rfl
theorem zl : jF pg0 174 3 3 := jn dg rfl sizeOf172 (by decide) rfl
theorem tD : jF pg0 174 4 4 := jn dg rfl sizeOf120 (by decide) rfl
theorem xo : jF pg0 174 5 5 := jn dg rfl eQ (by decide) rfl
theorem Hw : ∀ fs, Tryz.prog.underlying 174 = some (.struct fs) → ∀ w, (fs.mapM (fun (f : Field) => do pure (f.offset, ← sizeOf f.type)) : Sem (Array (Nat × Nat))).run pg0 w = .ok #[(0, 1), (1, 1), (2, 1), (3, 1), (4, 1), (5, 1)] w := by
 intro fs h w
 rw [dg] at h
 cases h
 kernel_rfl
theorem zT : ke pg0 9 Value.string iB := ke.string aS
theorem pf : ke pg0 28 (fun (x : gH) => (.agg (gK x).toArray)) gO :=
 ke.struct bG (fun d x y W => mT (d + 8) x y W) (fun b k W => rU bG rfl (cX.2 ⟨fun _ => ⟨.string k.gU, jL aI rfl, nz aS _ _ _ _⟩, (cX.2 ⟨fun _ => ⟨.string k.iz, jL aI rfl, nz aS _ _ _ _⟩, (fun _ h => by cases h)⟩)⟩))
  (fun k x h => (gP.1 h).symm) (fun k => by simp [Instr.sameBits, gK, ud, iX])
theorem yl : ke pg0 38 (fun (x : gI) => (.agg (gS x).toArray)) iy :=
 ke.struct bu (fun d x y W => vR (d + 7) x y W) (fun b k W => rU bu rfl (cX.2 ⟨fun _ => ⟨.agg (gK k.gH).toArray, ou az ah rfl, rU bG rfl (cX.2 ⟨fun _ => ⟨.string k.gH.gU, jL aI rfl, nz aS _ _ _ _⟩, (cX.2 ⟨fun _ => ⟨.string k.gH.iz, jL aI rfl, nz aS _ _ _ _⟩, (fun _ h => by cases h)⟩)⟩)⟩, (cX.2 ⟨fun _ => ⟨.string k.ib, jL aI rfl, nz aS _ _ _ _⟩, (fun _ h => by cases h)⟩)⟩))
  (fun k x h => (iI.1 h).symm) (fun k => by simp [Instr.sameBits, gS, ud, iX])
theorem wx (g : Value) (i r : List gG) (w : World) (a : Sl (Pl gJ) 9 (hp w) g i) (hm : mO i = some r) :
  iY true pg0 113 [g] w 108 gJ 9 r := by
 unfold mO at hm
 refine qS 8 func113 rfl (fun b => sg (Wa (lS (Wm ?_))))
 obtain ⟨y, B, rfl⟩ := a.form
 refine V (wP ap rfl rfl) (ln ?_)
 rcases y with _ | z
 ·have u := a.isNil
  replace hm : some [] = some r := by rw [u] at hm; simpa [jw, maxLen] using hm
  refine qz (rfl) (sg (Wa (lt (iK ?_))))
  obtain rfl := sj hm
  exact iS (v := (.slice none 0 0)) rfl rfl ⟨_, [], rfl, b.kz (fun p d => by cases d) (by simp), hZ.nil _ _ _⟩
 ·refine mr (rfl) (kg (VE (iM (cs := #[]) b wV (vp [] ap ae aZ dc rfl (by simp) rfl rfl) (fun G k b => Wm (bS hm fun H t hm => VE (km (enc := gJ) (v := (.slice (some ⟨k, 0, none⟩) 0 0)) (vs := (.slice (some z) i.length B)) (R := [(k, Ob #[] 108)]) b iN dc jY ap kY.1 kY.2.1 rfl kY.2.2.1 kY.2.2.2 rfl rfl (hZ.lit (l := []) (enc := gJ) rfl dc rfl rfl) (a.mono (Pl.mono _) b.iL) t (fun D x j b c => Wa (lt ?_))))))))
  obtain rfl := sj hm
  exact iS (v := x) rfl rfl ⟨_, j, rfl, b.kz (fun p d => (Ml d)) c.nd, c⟩
theorem ub (g : Value) (t : List gG) (j : Value) (B : gG → Option Bool) (r : Int) (w : World) (c : Sl (Pl gJ) 9 (hp w) g t) (D : qU pg0 j (hp w) (fun (x : gG) => [(.agg (gJ x).toArray)]) (fun (r : Bool) => (.bool r)) B) (hm : oD t B = some r) :
  iG false pg0 176 [g, j] w (.int .i64 r) := by
 refine cG 19 func176 rfl (fun b => sg (Wa (lS (Wm (V (lV ap rfl c) (Wm (ln (iZ (fun i E W => ∃ k, (E 8 = .int .i64 (i : Nat) ∧ E 7 = .int .i64 (t.length : Nat)) ∧ ST false iE w W (hp w) k ∧ E 0 = g ∧ E 1 = j ∧ kK B (t.drop i) i = some r) t.length c.len ⟨_, ⟨rfl, rfl⟩, (b.gL St), rfl, rfl, hm⟩ dc dc dc (fun _ _ _ h => by obtain ⟨_, l, _⟩ := h; exact l) ?_ ?_))))))))
 ·rintro Q E W H ⟨k, ⟨d, m⟩, b, u, y, a⟩
  obtain ⟨z, T, M, K, N⟩ := iP H
  rw [M] at a
  refine bg (Wh d (Wa (lr (Wh y (Wh u (Wm (VQ (jK (enc := gJ) (i := (Q : Int)) (x0 := z) ap ae rfl rfl c (aw _) K) (fun Y I => V (gM rfl (kq b.has I aM ae)) (bS a fun Z J a => ?_)))))))))
  refine VE (vQ z b D (iH.refl _) rfl (tq rfl) J (fun U b => ln (CI a rfl (fun G a => ?_) (fun G a => ?_))))
  ·refine sg (Wm (Wa (lt (jD (iK (jD (iK ?_)))))))
   obtain rfl := sj a
   exact rP b
  exact iO (iJ (gV ⟨d, _, ⟨rfl, m⟩, (b.gL St), u, y, (by rw [N]; exact a)⟩))
 rintro E W ⟨k, ⟨d, m⟩, b, u, y, a⟩
 rw [aB] at a
 exact gV (sg (Wa (lt (rQ a b))))
theorem tT (j : Value) (a0 : List gG) (t : LO) (H : Value) (f1 : gG → Option Bool) (r : List gG) (w : World) {μ0 : iq} (h0 : qn μ0 (t ++ []) w) (T : hZ 108 gJ 9 j a0 t) (a4 : qU pg0 H μ0 (fun (x : gG) => [(.agg (gJ x).toArray)]) (fun (r : Bool) => (.bool r)) f1) (hm : mB a0 f1 = some r) :
  iF false pg0 112 [j, H] w (t ++ []) (fun v L1 W' => ∃ q S2, v = q ∧ L1 = (S2 ++ []) ∧ hZ 108 gJ 9 q r S2) := by
 refine tj h0 42 func112 rfl (fun d => sg (Wa (lr (Wm (Wm (bS hm fun n d2 hm => VE (Eg d call176 (ub j a0 H f1 _ _ (T.sl iN (fun b o h => d.at_ (Ml h))) (a4.mono d.iL) d2) (fun W3 d => Wa (ln ?_)))))))))
 refine hX (sg (Wm (Wi rfl (ln (CI hm rfl (fun d1 hm => ?_) (fun d1 hm => ?_))))))
 ·refine sg (Wm (Wa (lt (iK ?_))))
  obtain rfl := sj hm
  exact iS (v := j) rfl rfl ⟨_, _, rfl, (d.ox (Kr Sn)), j, t, rfl, rfl, T⟩
 refine kS (Wm (Wi rfl (Wa (ln (jy (mo (fun m E W => ∃ U I B D a2, ST false (keys (t ++ [])) w W μ0 (I ++ a2) ∧ E 0 = j ∧ E 1 = H ∧ E 5 = (.int .i64 B) ∧ E 6 = (.int .i64 D) ∧ hZ 108 gJ 9 j U I ∧ jR f1 m U B D = some r) jq ⟨a0, t, n, (wi0 .i64 (n + 1)), _, (d.gL St), rfl, rfl, rfl, rfl, T, hm⟩ ?_))))))
 rintro m E W ⟨U, I, B, D, a2, d, y, Q, G, K, g, a⟩
 cases m with
 | zero => rw [jR] at a; cases a
 | succ c7 =>
  refine hX (sg (Wh K (Wh y (V (jf ap rfl g) (Wi rfl (ln (CI a rfl (fun A a => ?_) (fun A a => ?_))))))))
  ·refine kn (hX (CJ a (fun Y E W => ∃ J a3, ST false (keys (t ++ [])) w W μ0 (J ++ a3) ∧ E 0 = j ∧ E 1 = H ∧ E 5 = (.int .i64 Y.2) ∧ E 6 = (.int .i64 D) ∧ hZ 108 gJ 9 j Y.1 J) (fun Y c => ?_) ?_))
   ·refine bg (Wh y (Wh K (bS c fun k M c => VQ (jo (i := D) (x0 := k) ap ae rfl rfl g (jP M) (jk M)) (fun e3 P => V (gM rfl (kD d.has (fun p h => (Ml h)) g iN P (jk M) aM ae)) (VE (jc d aZ (fun d6 e1 d => VO (iw (.agg (gJ k).toArray) ((gJ k).toArray) d rfl rfl ae (jY k) nb rfl (fun d7 d => lr (Wh Q ?_))))))))))
    refine VA d Mh (gJ k) aM ae (bS c fun e5 b5 c => VE (vQ k d a4 (iH.refl _) rfl (tq rfl) b5 (fun d8 d => V (nn rfl) (ln (CI c rfl (fun L c => ?_) (fun L c => ?_))))))
    ·refine sg (Wh y (Wh G (VA d Mh (gJ k) aM ae (bS c fun c9 N c => VQ (jo (i := B) (x0 := c9) ap ae rfl rfl g (jP N) (jk N)) (fun e4 R => ?_)))))
     replace d := d.perm (Nr (Qb Qz) Nz)
     refine VO (vr (u := (.agg (gJ k).toArray)) (x1 := k)  d g iN jY rfl rfl rfl R (jk N) ae (fun d9 c0 d s => ln ?_))
     replace d := d.gL (Kr (Db St))
     refine gZ (Wh G (Wi rfl (Wa (ig (iJ (gV ?_))))))
     obtain rfl := sj c
     exact ⟨c0, _, (d.gL St), y, Q, rfl, K, s⟩
    refine iO (iJ (gV ?_))
    obtain rfl := sj c
    exact ⟨I, _, (d.gL (Db St)), y, Q, G, K, g⟩
   rintro ⟨c6, c8⟩ E W ⟨J, a3, d, c2, c3, c4, c5, b6⟩ O
   exact gZ (Wh c5 (Wi rfl (Wa (ln ⟨c7, bq _, c6, J, c8, (wi0 .i64 (D + 1)), _, (d.gL St), c2, c3, c4, rfl, b6, O⟩))))
  refine mH (mc (mc (qV (gV (sg (Wh y (Wh G (bS a fun _ Z a => VQ (pV (i := B) ap ae rfl rfl g (pb Z) (oZ Z)) (fun e6 b7 => VO (sG (z := K9)  d g iN jY ap aZ b7 rfl rfl (fun e0 c1 d a9 => lr (Wh y ?_))))))))))))
  refine Wh G (bS a fun _ l a => VQ (rK (i := B) ap ae rfl rfl a9 iN (pb l) (oZ l)) (fun a5 b8 => Wa (lt ?_)))
  obtain rfl := sj a
  exact iS (v := a5) rfl rfl ⟨_, _, rfl, (d.ox (Kr Sn)), a5, c1, rfl, rfl, b8⟩
theorem Gu (w : World) (s : ByteArray) (c : Int) : (callFunc 289 [Value.string s, .int .u8 c].toArray).run pg0 w = .ok (.value (.int .i64 (qJ s c))) w := zh func289 (by kernel_rfl) (by kernel_rfl) (by kernel_rfl) (by kernel_rfl) s c w
theorem rB (a : ByteArray) (c r : Int) (w : World) (hm : kE a c = some r) :
  iG true pg0 254 [(.string a), (.int .u8 c)] w (.int .i64 r) := by
 exact cG 8 func254 rfl (fun b => sg (Wa (lr (Wm (Wm (VE (CP (args := [(.string a), (.int .u8 c)]) (v := .int .i64 (qJ a c)) rfl (by exact uv rfl rfl) (Gu _ a c) (Wa (lt (rQ hm b))))))))))
theorem sh (a : ByteArray) (c r : Int) (w : World) (hm : mR a c = some r) :
  iG true pg0 215 [(.string a), (.int .u8 c)] w (.int .i64 r) := by
 refine cG 8 func215 rfl (fun b => sg (Wa (lr (Wm (Wm (bS hm fun j g hm => VE (Eg b call254 (rB a c _ _  g) (fun i b => Wa (ln ?_)))))))))
 exact iD (rQ hm b)
theorem B4 (I : ByteArray) (r : Bool) (w : World) (hm : uH I = some r) :
  iG true pg0 216 [(.string I)] w (.bool r) := by
 refine cG 16 func216 rfl (fun b => sg (Wa (lS (Wm (bS hm fun H J hm => VE (Af b aS bM dY rfl J (fun W3 N T b M n j Y => V (lV bM rfl j) (Wm (ig ?_)))))))))
 refine gV (iZ (fun i E W => ∃ c, (E 8 = .int .i64 (i : Nat) ∧ E 7 = .int .i64 (H.length : Nat)) ∧ ST true iE w W T c ∧ E 6 = N ∧ pk (H.drop i) = some r) H.length j.len ⟨_, ⟨rfl, rfl⟩, (b.gL St), rfl, hm⟩ dc dc dc (fun _ _ _ h => by obtain ⟨_, l, _⟩ := h; exact l) ?_ ?_)
 ·rintro K E W u ⟨c, ⟨d, m⟩, b, g, a⟩
  obtain ⟨k, Q, D, B, G⟩ := iP u
  rw [D] at a
  refine bg (VQ (jK (enc := (ju .u8)) (i := (K : Int)) (x0 := k) bM sizeOf5 g d j (aw _) B) (fun Z x => V (gM rfl (lg b.has (y := (.int .u8 k)) x isAgg5)) (Wa (lr (Wm (bS a fun o z a => VE (Eg b call215 (sh (⟨#[97, 98, 99, 100, 101, 102, 103, 104, 105, 106, 107, 108, 109, 110, 111, 112, 113, 114, 115, 116, 117, 118, 119, 120, 121, 122, 48, 49, 50, 51, 52, 53, 54, 55, 56, 57, 45]⟩ : ByteArray) k _ _  z) (fun U b => Wi rfl (ig ?_)))))))))
  refine gV (CI a rfl (fun t a => ?_) (fun t a => ?_))
  ·refine sg (Wa (lt (jD (iK (jD (iK ?_))))))
   obtain rfl := sj a
   exact rP b
  exact iO (iJ (gV ⟨d, _, ⟨rfl, m⟩, (b.gL St), g, (by rw [G]; exact a)⟩))
 rintro E W ⟨c, ⟨d, m⟩, b, g, a⟩
 rw [aB] at a
 exact gV (sg (Wa (lt (rQ a b))))
theorem ph (z : ByteArray) (r : Bool) (w : World) (hm : mw z = some r) :
  iG true pg0 177 [(.string z)] w (.bool r) := by
 refine cG 21 func177 rfl (fun b => sg (Wa (lr (Wm (V (lC aS rfl) (Wi rfl (Wm (LJ hm (fun K E W => ∃ Y, ST true iE w W (hp w) Y ∧ E 0 = (.string z) ∧ E 2 = (.bool false) ∧ E 10 = (.bool K)) 4 ?_ (fun K t y => ?_)))))))))
 ·rintro x2 E W ⟨Y, b, M, d, l⟩ a5
  refine Wh l (LJ a5 (fun J E W => ∃ D, ST true iE w W (hp w) D ∧ E 0 = (.string z) ∧ E 2 = (.bool false) ∧ E 16 = (.bool J)) 5 ?_ (fun J a x => ?_))
  ·rintro q E W ⟨D, b, h, H, a2⟩ N
   refine Wh a2 (LJ N (fun I E W => ∃ G, ST true iE w W (hp w) G ∧ E 2 = (.bool false) ∧ E 20 = (.bool I)) 3 ?_ (fun I j u => ?_))
   ·rintro s E W ⟨G, b, a9, a3⟩ Q
    exact Wg a3 (lt (rQ Q b))
   refine bC j (fun g j => ?_) (fun g j => ?_)
   ·refine ug g (gW h) (bS j fun o T j => qN g (Eg b call216 (B4 z _ _  T) (fun m b => V (ie (cB g) rfl) ?_)))
    obtain rfl := sj j
    exact u _ _ ⟨_, (b.gL St), H, rfl⟩
   refine un g (un g (V (ic (cB g) rfl) ?_))
   obtain rfl := sj j
   exact u _ _ ⟨_, (b.gL St), H, rfl⟩
  refine bC a (fun c a => ?_) (fun c a => ?_)
  ·refine ug c (gW M) (bS a fun Z B a => ug c (tA (i := 0) aS rfl rfl (sH B) (vv B)) (bS a fun p U a => qN c (Eg b call215 (sh (⟨#[97, 98, 99, 100, 101, 102, 103, 104, 105, 106, 107, 108, 109, 110, 111, 112, 113, 114, 115, 116, 117, 118, 119, 120, 121, 122]⟩ : ByteArray) (Z.toNat : Int) _ _  U) (fun n b => ug c (jz rfl rfl rfl) (V (ie (cB c) rfl) ?_)))))
   obtain rfl := sj a
   exact x _ _ ⟨_, (b.gL St), M, d, rfl⟩
  refine un c (un c (un c (un c (V (ic (cB c) rfl) ?_))))
  obtain rfl := sj a
  exact x _ _ ⟨_, (b.gL St), M, d, rfl⟩
 refine bC t (fun k t => ?_) (fun k t => ?_)
 ·refine ug k (gW rfl) (ug k (lC aS rfl) (ug k (jz rfl rfl rfl) (V (ie (cB k) rfl) ?_)))
  obtain rfl := sj t
  exact y _ _ ⟨_, (b.gL St), rfl, rfl, rfl⟩
 refine un k (un k (un k (V (ic (cB k) rfl) ?_)))
 obtain rfl := sj t
 exact y _ _ ⟨_, (b.gL St), rfl, rfl, rfl⟩
theorem pp (i : gH) (r : Bool) (w : World) (hm : mx i = some r) :
  iG true pg0 157 [(.agg (gK i).toArray)] w (.bool r) := by
 refine cG 11 func157 rfl (fun b => sg (VE (iU b rfl (fun H J b => Wa (lr (Wf kJ (VB b Mh rfl rfl aI (bS hm fun K y hm => VE (Eg b call177 (ph i.gU _ _  y) (fun I b => Wm (LJ hm (fun k E W => ∃ j, ST true iE w W (hp w) j ∧ E 2 = (.bool false) ∧ E 10 = (.bool k)) 4 ?_ (fun k a g => ?_))))))))))))
 ·rintro G E W ⟨j, b, B, x⟩ t
  exact Wg x (lt (rQ t b))
 refine bC a (fun c a => ?_) (fun c a => ?_)
 ·refine ug c (gQ pw rfl) (ug c (gM rfl (ia b.has Mh rfl aI)) (bS a fun D u a => qN c (Eg b call177 (ph i.iz _ _  u) (fun z b => V (ie (cB c) rfl) ?_))))
  obtain rfl := sj a
  exact g _ _ ⟨_, (b.gL (Db St)), rfl, rfl⟩
 refine un c (un c (un c (V (ic (cB c) rfl) ?_)))
 obtain rfl := sj a
 exact g _ _ ⟨_, (b.gL (Db St)), rfl, rfl⟩
theorem GV (w : World) (a b : ByteArray) : (callFunc 238 [Value.string a, .string b].toArray).run pg0 w = .ok (.value (.int .i64 (oO a b))) w := Ez func238 (by kernel_rfl) (by kernel_rfl) (by kernel_rfl) (by kernel_rfl) a b w
theorem rq (a c : ByteArray) (r : Int) (w : World) (hm : mh a c = some r) :
  iG true pg0 186 [(.string a), (.string c)] w (.int .i64 r) := by
 exact cG 8 func186 rfl (fun b => sg (Wa (lr (Wm (Wm (VE (CP (args := [(.string a), (.string c)]) (v := .int .i64 (oO a c)) rfl (by exact uv rfl rfl) (GV _ a c) (Wa (lt (rQ hm b))))))))))
theorem tk (a c : ByteArray) (r : Int) (w : World) (hm : oY a c = some r) :
  iG true pg0 125 [(.string a), (.string c)] w (.int .i64 r) := by
 refine cG 8 func125 rfl (fun b => sg (Wa (lr (Wm (Wm (bS hm fun j g hm => VE (Eg b call186 (rq a c _ _  g) (fun i b => Wa (ln ?_)))))))))
 exact iD (rQ hm b)
theorem Bk (g : Value) (t : List Int) (r : Int) (w : World) (c : Sl (Pl (ju .i64)) 1 (hp w) g t) (hm : tL t = some r) :
  iG true pg0 124 [g] w (.int .i64 r) := by
 refine cG 18 func124 rfl (fun b => sg (Wa (lr (Wa (lS (Wm ?_))))))
 refine V (lV underlying234 rfl c) (Wm (ln (iZ (fun i E W => ∃ k, (E 8 = .int .i64 (i : Nat) ∧ E 7 = .int .i64 (t.length : Nat)) ∧ ST true iE w W (hp w) k ∧ E 3 = (.int .i64 0) ∧ E 6 = g ∧ qj (t.drop i) = some r) t.length c.len ⟨_, ⟨rfl, rfl⟩, (b.gL St), rfl, rfl, hm⟩ dc dc dc (fun _ _ _ h => by obtain ⟨_, l, _⟩ := h; exact l) ?_ ?_)))
 ·rintro J E W B ⟨k, ⟨d, m⟩, b, j, u, a⟩
  obtain ⟨x, K, H, G, I⟩ := iP B
  rw [H] at a
  refine bg (VQ (jK (enc := (ju .i64)) (i := (J : Int)) (x0 := x) underlying234 eQ u d c (aw _) G) (fun M D => V (gM rfl (lg b.has (y := (.int .i64 x)) D bV)) (Wa (lr (Wm (Wh j (Wi rfl (ln ?_))))))))
  refine CI a rfl (fun z a => ?_) (fun z a => ?_)
  ·refine sg (Wm (Wa (lt (jD (iK (jD (iK ?_)))))))
   obtain rfl := sj a
   exact rP b
  exact iO (iJ (gV ⟨d, _, ⟨rfl, m⟩, (b.gL St), j, u, (by rw [I]; exact a)⟩))
 rintro E W ⟨k, ⟨d, m⟩, b, j, u, a⟩
 rw [aB] at a
 exact gV (sg (Wh j (Wa (lt (rQ a b)))))
theorem uZ (g i : gH) (r : Int) (w : World) (hm : po g i = some r) :
  iG true pg0 57 [(.agg (gK g).toArray), (.agg (gK i).toArray)] w (.int .i64 r) := by
 refine cG 17 func57 rfl (fun b => sg (VE (iU b rfl (fun G I b => VE (iU b rfl (fun H J b => Wa (ln (hX ?_))))))))
 replace b := b.drew
 have d := b.has.gL (Kb (Kb Sn))
 refine iR d iA (X 0 rfl d (gQ kJ rfl) (XH 1 rfl d (fun _ h => gM rfl (ia h (Mt Mh) rfl aI)) (X 2 rfl d (gQ kJ rfl) (XH 3 rfl d (fun _ h => gM rfl (ia h Mh rfl aI)) (X 5 rfl d (gQ pw rfl) (XH 6 rfl d (fun _ h => gM rfl (ia h (Mt Mh) rfl aI)) (X 7 rfl d (gQ pw rfl) (XH 8 rfl d (fun _ h => gM rfl (ia h Mh rfl aI)) (bS hm fun a j hm => XE 4 rfl (Eg b call125 (tk g.gU i.gU _ _  j) (fun x b => ?_)))))))))))
 have d := b.has.gL (Kb (Kb Sn))
 refine ⟨d, (bS hm fun c k hm => XE 9 rfl (Eg b call125 (tk g.iz i.iz _ _  k) (fun y b => ?_)))⟩
 have d := b.has.gL (Kb (Kb Sn))
 refine ⟨d, (XE 10 rfl (iM (cs := #[(.int .i64 a), (.int .i64 c)]) b (nI rfl rfl) (lm underlying234 eQ dZ) (fun z u b => ?_)))⟩
 have d := b.has.gL (Db (Kb (Kb Sn)))
 refine ⟨d, (bS hm fun D t hm => XE 11 rfl (Eg b call124 (Bk (.slice (some ⟨u, 0, none⟩) 2 2) ([a, c]) _ _ (Sl.lit (enc := (ju .i64)) (l := [a, c]) (fun _ => rfl) rfl nb rfl (b.at_ Mh)) t) (fun B b => ?_)))⟩
 have d := b.has.gL (Db (Kb (Kb Sn)))
 refine ⟨d, (X 12 rfl d (kh rfl) (jd kr (gV ?_)))⟩
 exact iD (rQ hm b)
set_option maxHeartbeats 4000000 in
theorem pu (a : gG) (r : Bool) (w : World) (hm : my a = some r) :
  iG true pg0 115 [(.agg (gJ a).toArray)] w (.bool r) := by
 let m9 := (⟨a.Kind, a.Head, zS, a.B, a.C, zS⟩ : gG)
 let m8 := (⟨a.Kind, a.Head, zS, a.B, K0, a.iv⟩ : gG)
 let m7 : Value := (.agg (gK a.B).toArray)
 let m6 := ((gJ (⟨a.Kind, a.Head, zS, a.B, K0, zS⟩ : gG)).toArray)
 let o := (⟨a.Kind, a.Head, zS, K0, K0, zS⟩ : gG)
 refine cG 98 func115 rfl (fun b => sg (VE (iU b rfl (fun W2 N b => Wa (lr (Wf kP (VB b Mh rfl rfl bV (Wf kX (VA b Mh (gK a.Head) az ah (V (kW (v := (.agg (gJ o).toArray)) (nI rfl rfl) (jQ aZ bN (Dm _ bN) kr)) (VE (jc b aZ (fun W4 B b => ?_)))))))))))))
 refine VO (iw (.agg (gJ o).toArray) ((gJ o).toArray) b rfl rfl ae (jY o) nb rfl (fun W5 b => lr (Wf kX (VA b (Mt Mh) (gK a.Head) az ah (bS hm fun n i9 hm => VE (Eg b call157 (pp a.Head _ _  i9) (fun W8 b => Wa (ln (hX (FD hm (fun s E W => ∃ R, ST true iE w W (hp w) ((B, Ol (gJ s.2) 108) :: ((N, Ol (gJ a) 108) :: R)) ∧ E 1 = (.pointer (some ⟨N, 0, none⟩)) ∧ E 3 = (.pointer (some ⟨B, 0, none⟩)) ∧ E 4 = (.bool s.1)) (fun s g Z => ?_) ?_))))))))))
 ·let j2 := ((gJ m9).toArray : Array Value)
  let j1 := ((gJ m8).toArray : Array Value)
  let m : Value := (.pointer (some ⟨B, 0, none⟩))
  let l : Value := (.pointer (some ⟨N, 0, none⟩))
  let a0 := ((gJ a).toArray : Array Value)
  refine sg (Wf kP (VB b (Mt Mh) rfl rfl bV (ln (bg (Wi rfl (Wa (ln (CI g rfl (fun e4 g => ?_) (fun e4 g => ?_)))))))))
  ·replace b := b.drew
   have d := b.has.gL (Db (Kb Sn))
   refine iR d iA (X 0 rfl d (gQ nw rfl) (XH 1 rfl d (fun _ h => gM rfl (ia h Mh rfl aI)) (X 2 rfl d (gW rfl) (X 3 rfl d (gW rfl) (X 8 rfl d (gQ nw rfl) (PJ g (fun d5 E W => ∃ b8, ST true iE w W (hp w) ((B, Ol (gJ o) 108) :: ((N, Obj.cells a0 108 (0, 0)) :: b8)) ∧ E 1 = l ∧ E 3 = m ∧ E 4 = (.bool n) ∧ E 18 = (.string a.ib) ∧ E 24 = (.bool d5) ∧ E 25 = (.pointer (some ⟨B, 3, none⟩))) (bm 11 511) 2 ?_ (fun d5 D a2 => ?_)))))))
   ·rintro l8 E W ⟨b8, b, g9, h0, k5, h1, h2, h3⟩ f0
    refine XO 9 rfl (iw (.string a.ib) ((gJ (⟨a.Kind, a.Head, a.ib, K0, K0, zS⟩ : gG)).toArray) b h3 h1 cy (xZ a.ib) nb rfl (fun j0 b => ?_))
    have d := b.has.gL (Db (Kb Sn))
    refine ⟨d, (X 10 rfl d (kh h2) (jd kr (iJ (gV ?_))))⟩
    obtain rfl := sj f0
    exact ⟨_, rfl, _, (b.gL St), g9, h0, rfl⟩
   refine bC D (fun k D => ?_) (fun k D => ?_)
   ·refine Xg 4 rfl rfl (cB k) d (gQ nw rfl) (qZ 5 rfl rfl (cB k) d (fun _ h => gM rfl (ia h Mh rfl aI)) (bS D fun k9 f8 D => zX 6 rfl rfl (cB k) (Eg b call177 (ph a.ib _ _  f8) (fun j3 b => ?_))))
    have d := b.has.gL (Db (Kb Sn))
    refine ⟨d, (X 7 rfl d (ie (cB k) rfl) ?_)⟩
    obtain rfl := sj D
    refine jU kr (a2 _ _ ⟨_, (b.gL St), rfl, rfl, rfl, rfl, rfl, rfl⟩)
   refine Xn 4 rfl rfl (cB k) d (Xn 5 rfl rfl (cB k) d (Xn 6 rfl rfl (cB k) d (X 7 rfl d (ic (cB k) rfl) ?_)))
   obtain rfl := sj D
   refine jU kr (a2 _ _ ⟨_, (b.gL St), rfl, rfl, rfl, rfl, rfl, rfl⟩)
  refine sg (Wi rfl (Wa (ln (CI g rfl (fun e5 g => ?_) (fun e5 g => ?_)))))
  ·replace b := b.drew
   have d := b.has.gL (Db (Kb Sn))
   refine iR d iA (X 0 rfl d (gQ jm rfl) (XH 1 rfl d (fun _ h => gM rfl (gY h Mh (gK a.B) rfl az ah)) (X 2 rfl d (gW rfl) (X 3 rfl d (gW rfl) (X 8 rfl d (gQ jm rfl) (PJ g (fun d6 E W => ∃ b9, ST true iE w W (hp w) ((B, Ol (gJ o) 108) :: ((N, Obj.cells a0 108 (0, 0)) :: b9)) ∧ E 1 = l ∧ E 3 = m ∧ E 4 = (.bool n) ∧ E 29 = m7 ∧ E 35 = (.bool d6) ∧ E 36 = (.pointer (some ⟨B, 4, none⟩))) (bm 11 511) 2 ?_ (fun d6 G a3 => ?_)))))))
   ·rintro l9 E W ⟨b9, b, h4, h5, k6, h6, h7, h8⟩ f1
    refine XO 9 rfl (iw m7 m6 b h8 h6 ah (oH a.B) nb rfl (fun j4 b => ?_))
    have d := b.has.gL (Db (Kb Sn))
    refine ⟨d, (X 10 rfl d (kh h7) (jd kr (iJ (gV ?_))))⟩
    obtain rfl := sj f1
    exact ⟨_, rfl, _, (b.gL St), h4, h5, rfl⟩
   refine bC G (fun t G => ?_) (fun t G => ?_)
   ·refine Xg 4 rfl rfl (cB t) d (gQ jm rfl) (qZ 5 rfl rfl (cB t) d (fun _ h => gM rfl (gY h Mh (gK a.B) rfl az ah)) (bS G fun l0 f9 G => zX 6 rfl rfl (cB t) (Eg b call157 (pp a.B _ _  f9) (fun j5 b => ?_))))
    have d := b.has.gL (Db (Kb Sn))
    refine ⟨d, (X 7 rfl d (ie (cB t) rfl) ?_)⟩
    obtain rfl := sj G
    refine jU kr (a3 _ _ ⟨_, (b.gL St), rfl, rfl, rfl, rfl, rfl, rfl⟩)
   refine Xn 4 rfl rfl (cB t) d (Xn 5 rfl rfl (cB t) d (Xn 6 rfl rfl (cB t) d (X 7 rfl d (ic (cB t) rfl) ?_)))
   obtain rfl := sj G
   refine jU kr (a3 _ _ ⟨_, (b.gL St), rfl, rfl, rfl, rfl, rfl, rfl⟩)
  refine sg (Wi rfl (Wa (ln (CI g rfl (fun e6 g => ?_) (fun e6 g => ?_)))))
  ·refine hX ?_
   replace b := b.drew
   have d := b.has.gL (Db (Kb Sn))
   refine iR d iA (X 0 rfl d (gQ jm rfl) (XH 1 rfl d (fun _ h => gM rfl (gY h Mh (gK a.B) rfl az ah)) (X 2 rfl d (gQ mV rfl) (XH 3 rfl d (fun _ h => gM rfl (ia h Mh rfl aI)) (X 4 rfl d (gQ jm rfl) (XO 5 rfl (iw m7 m6 b rfl rfl ah (oH a.B) nb rfl (fun j6 b => ?_))))))))
   have d := b.has.gL (Db (Kb Sn))
   refine ⟨d, (X 6 rfl d (gQ mV rfl) (XO 7 rfl (iw (.string a.iv) ((gJ m8).toArray) b rfl rfl cy (xZ a.iv) nb rfl (fun j7 b => ?_))))⟩
   have d := b.has.gL (Db (Kb Sn))
   refine ⟨d, (jd kr (gV (gZ (Wm (Wm (LJ g (fun d9 E W => ∃ c0, ST true iE w W (hp w) ((B, Obj.cells j1 108 (0, 0)) :: ((N, Obj.cells a0 108 (0, 0)) :: c0)) ∧ E 1 = l ∧ E 3 = m ∧ E 4 = (.bool n) ∧ E 50 = (.bool d9)) 4 ?_ (fun d9 I L => ?_)))))))⟩
   ·rintro m0 E W ⟨c0, b, U, c6, c7, h9⟩ f2
    refine Wh h9 (LJ f2 (fun d8 E W => ∃ c1, ST true iE w W (hp w) ((B, Obj.cells j1 108 (0, 0)) :: ((N, Obj.cells a0 108 (0, 0)) :: c1)) ∧ E 1 = l ∧ E 3 = m ∧ E 4 = (.bool n) ∧ E 59 = (.bool d8)) 8 ?_ (fun d8 T a5 => ?_))
    ·rintro m1 E W ⟨c1, b, p, c8, c9, i0⟩ f3
     refine Wh i0 (LJ f3 (fun d7 E W => ∃ c2, ST true iE w W (hp w) ((B, Obj.cells j1 108 (0, 0)) :: ((N, Obj.cells a0 108 (0, 0)) :: c2)) ∧ E 1 = l ∧ E 3 = m ∧ E 4 = (.bool n) ∧ E 64 = (.bool d7)) 4 ?_ (fun d7 H a4 => ?_))
     ·rintro m2 E W ⟨c2, b, i1, i2, k7, i3⟩ f4
      refine Wg i3 (ig (iJ (gV ?_)))
      obtain rfl := sj f4
      exact ⟨_, rfl, _, (b.gL St), i1, i2, rfl⟩
     refine bC H (fun x H => ?_) (fun x H => ?_)
     ·refine ug x (gQ mV p) (ug x (gM rfl (ia b.has (Mt Mh) rfl aI)) (bS H fun l1 g0 H => qN x (Eg b call177 (ph a.iv _ _  g0) (fun j8 b => V (ie (cB x) rfl) ?_))))
      obtain rfl := sj H
      exact a4 _ _ ⟨_, (b.gL St), p, c8, c9, rfl⟩
     refine un x (un x (un x (V (ic (cB x) rfl) ?_)))
     obtain rfl := sj H
     exact a4 _ _ ⟨_, (b.gL St), p, c8, c9, rfl⟩
    refine bC T (fun c T => ?_) (fun c T => ?_)
    ·refine ug c (gQ jm U) (ug c (gQ kJ rfl) (ug c (gM rfl (ia b.has (Mt Mh) rfl aI)) (ug c (gQ kX U) (ug c (gQ kJ rfl) (ug c (gM rfl (ia b.has (Mt Mh) rfl aI)) (ug c (pa rfl rfl rfl) (V (ie (cB c) rfl) ?_)))))))
     obtain rfl := sj T
     exact a5 _ _ ⟨_, (b.gL St), U, c6, c7, rfl⟩
    refine un c (un c (un c (un c (un c (un c (un c (V (ic (cB c) rfl) ?_)))))))
    obtain rfl := sj T
    exact a5 _ _ ⟨_, (b.gL St), U, c6, c7, rfl⟩
   refine bC I (fun u I => ?_) (fun u I => ?_)
   ·refine ug u (gQ jm rfl) (ug u (gM rfl (gY b.has (Mt Mh) (gK a.B) rfl az ah)) (bS I fun l2 g1 I => qN u (Eg b call157 (pp a.B _ _  g1) (fun j9 b => V (ie (cB u) rfl) ?_))))
    obtain rfl := sj I
    exact L _ _ ⟨_, (b.gL St), rfl, rfl, rfl, rfl⟩
   refine un u (un u (un u (V (ic (cB u) rfl) ?_)))
   obtain rfl := sj I
   exact L _ _ ⟨_, (b.gL St), rfl, rfl, rfl, rfl⟩
  refine sg (Wi rfl (Wa (ln (CI g rfl (fun e7 g => ?_) (fun e7 g => ?_)))))
  ·refine hX ?_
   replace b := b.drew
   have d := b.has.gL (Db (Kb Sn))
   refine iR d iA (X 0 rfl d (gQ jm rfl) (XH 1 rfl d (fun _ h => gM rfl (gY h Mh (gK a.B) rfl az ah)) (X 2 rfl d (gQ lz rfl) (XH 3 rfl d (fun _ h => gM rfl (gY h Mh (gK a.C) rfl az ah)) (X 4 rfl d (gQ jm rfl) (XO 5 rfl (iw m7 m6 b rfl rfl ah (oH a.B) nb rfl (fun k0 b => ?_))))))))
   have d := b.has.gL (Db (Kb Sn))
   refine ⟨d, (X 6 rfl d (gQ lz rfl) (XO 7 rfl (iw (.agg (gK a.C).toArray) ((gJ m9).toArray) b rfl rfl ah (oH a.C) nb rfl (fun k1 b => ?_))))⟩
   have d := b.has.gL (Db (Kb Sn))
   refine ⟨d, (jd kr (gV (gZ (Wm (Wm (LJ g (fun e2 E W => ∃ c3, ST true iE w W (hp w) ((B, Obj.cells j2 108 (0, 0)) :: ((N, Obj.cells a0 108 (0, 0)) :: c3)) ∧ E 1 = l ∧ E 3 = m ∧ E 4 = (.bool n) ∧ E 78 = (.bool e2)) 4 ?_ (fun e2 M a9 => ?_)))))))⟩
   ·rintro m3 E W ⟨c3, b, q, d0, d1, i4⟩ f5
    refine Wh i4 (LJ f5 (fun e1 E W => ∃ c4, ST true iE w W (hp w) ((B, Obj.cells j2 108 (0, 0)) :: ((N, Obj.cells a0 108 (0, 0)) :: c4)) ∧ E 1 = l ∧ E 3 = m ∧ E 4 = (.bool n) ∧ E 83 = (.bool e1)) 4 ?_ (fun e1 K P => ?_))
    ·rintro m4 E W ⟨c4, b, Y, d2, d3, i5⟩ f6
     refine Wh i5 (LJ f6 (fun e0 E W => ∃ c5, ST true iE w W (hp w) ((B, Obj.cells j2 108 (0, 0)) :: ((N, Obj.cells a0 108 (0, 0)) :: c5)) ∧ E 1 = l ∧ E 3 = m ∧ E 4 = (.bool n) ∧ E 91 = (.bool e0)) 7 ?_ (fun e0 J O => ?_))
     ·rintro m5 E W ⟨c5, b, i6, i7, k8, i8⟩ f7
      refine Wg i8 (ig (iJ (gV ?_)))
      obtain rfl := sj f7
      exact ⟨_, rfl, _, (b.gL St), i6, i7, rfl⟩
     refine bC J (fun i J => ?_) (fun i J => ?_)
     ·refine ug i (gQ jm Y) (ug i (gM rfl (gY b.has (Mt Mh) (gK a.B) rfl az ah)) (ug i (gQ lz Y) (ug i (gM rfl (gY b.has (Mt Mh) (gK a.C) rfl az ah)) (bS J fun l3 g2 J => qN i (Eg b call57 (uZ a.B a.C _ _  g2) (fun k2 b => ug i (jz rfl rfl rfl) (V (ie (cB i) rfl) ?_)))))))
      obtain rfl := sj J
      exact O _ _ ⟨_, (b.gL St), Y, d2, d3, rfl⟩
     refine un i (un i (un i (un i (un i (un i (V (ic (cB i) rfl) ?_))))))
     obtain rfl := sj J
     exact O _ _ ⟨_, (b.gL St), Y, d2, d3, rfl⟩
    refine bC K (fun z K => ?_) (fun z K => ?_)
    ·refine ug z (gQ lz q) (ug z (gM rfl (gY b.has (Mt Mh) (gK a.C) rfl az ah)) (bS K fun l4 g3 K => qN z (Eg b call157 (pp a.C _ _  g3) (fun k3 b => V (ie (cB z) rfl) ?_))))
     obtain rfl := sj K
     exact P _ _ ⟨_, (b.gL St), q, d0, d1, rfl⟩
    refine un z (un z (un z (V (ic (cB z) rfl) ?_)))
    obtain rfl := sj K
    exact P _ _ ⟨_, (b.gL St), q, d0, d1, rfl⟩
   refine bC M (fun y M => ?_) (fun y M => ?_)
   ·refine ug y (gQ jm rfl) (ug y (gM rfl (gY b.has (Mt Mh) (gK a.B) rfl az ah)) (bS M fun l5 g4 M => qN y (Eg b call157 (pp a.B _ _  g4) (fun k4 b => V (ie (cB y) rfl) ?_))))
    obtain rfl := sj M
    exact a9 _ _ ⟨_, (b.gL St), rfl, rfl, rfl, rfl⟩
   refine un y (un y (un y (V (ic (cB y) rfl) ?_)))
   obtain rfl := sj M
   exact a9 _ _ ⟨_, (b.gL St), rfl, rfl, rfl, rfl⟩
  refine sg (Wa (ln ?_))
  replace b := b.gL (Db (Db St))
  refine iD (jD (iK ?_))
  obtain rfl := sj g
  replace Z : some false = some r := Z
  obtain rfl := sj Z
  exact rP b
 rintro ⟨l6, e3⟩ E W ⟨R, b, g5, g6, g7⟩ e8
 refine sg (Wh g7 (Wm (LJ e8 (fun d4 E W => ∃ b7, ST true iE w W (hp w) b7 ∧ E 97 = (.bool d4)) 4 ?_ (fun d4 Q A => ?_))))
 ·rintro l7 E W ⟨b7, b, g8⟩ e9
  exact Wg g8 (lt (rQ e9 b))
 refine bC Q (fun j Q => ?_) (fun j Q => ?_)
 ·refine ug j (gM g6 (gY b.has Mh (gJ e3) rfl aM ae)) (ug j (gM g5 (gY b.has (Mt Mh) (gJ a) rfl aM ae)) (ug j (qF rfl rfl (la fD) (nZ (vP _ e3 a))) (V (ie (cB j) rfl) ?_)))
  obtain rfl := sj Q
  exact A _ _ ⟨_, (b.gL (Db (Db St))), rfl⟩
 refine un j (un j (un j (V (ic (cB j) rfl) ?_)))
 obtain rfl := sj Q
 exact A _ _ ⟨_, (b.gL (Db (Db St))), rfl⟩
theorem Ax (a : gG) (r : Bool) (w : World) (hm : ri a = some r) :
  iG true pg0 114 [(.agg (gJ a).toArray)] w (.bool r) := by
 refine cG 6 func114 rfl (fun b => sg (VE (iU b rfl (fun g j b => Wa (lr (VA b Mh (gJ a) aM ae (bS hm fun k c hm => VE (Eg b call115 (pu a _ _  c) (fun i b => V (nn rfl) (Wa (ig ?_)))))))))))
 refine gV ?_
 exact iD (rQ hm b)
theorem C9 (c : Value) (k : List gG) (a : LO) (g : Value) (t : (gG × gG) → Option Int) (r : List gG) (w : World) {y : iq} (u : qn y (a ++ []) w) (i : hZ 108 gJ 9 c k a) (j : yI pg0 g y (fun (x : (gG × gG)) => [(.agg (gJ x.1).toArray), (.agg (gJ x.2).toArray)]) (fun (r : Int) => (.int .i64 r)) t) (hm : rV t k = some r) :
  iF true pg0 116 [c, g] w (a ++ []) (fun v z W' => ∃ S, v = (.tuple #[]) ∧ z = (S ++ []) ∧ hZ 108 gJ 9 c r S) := xN (P := pg0) (ρ := DR) Hj 9 aM ae gJ iN jY u.H u.S i j hm
theorem sk (t : Nat) (j : Value) (G : List Int) (i : LO) (h : Int) (r : (Bool × (List Int))) (w : World) {μ0 : iq} (s : qn μ0 ((t, Ob #[j] 81) :: (i ++ [])) w) (y : hZ 5 (ju .u8) 1 j G i) (hm : mP G h = some r) :
  iF true pg0 93 [(.pointer (some ⟨t, 0, none⟩)), (.int .i64 h)] w ((t, Ob #[j] 81) :: (i ++ [])) (fun v L1 W' => ∃ n S2, v = (.bool (r.1)) ∧ L1 = ((t, Ob #[n] 81) :: (S2 ++ [])) ∧ hZ 5 (ju .u8) 1 n r.2 S2) := by
 refine tj s 38 func93 rfl (fun d => sg (Wa (lS (Wm (V (sb fg rfl rfl) (Wm (Vg rfl rfl (gW rfl) (Vg rfl rfl (jz rfl rfl rfl) (V (ic rfl rfl) ?_)))))))))
 refine ln (CI hm rfl (fun a9 hm => ?_) (fun a9 hm => ?_))
 ·refine sg (Wa (lt (iK ?_)))
  obtain rfl := sj hm
  exact iS (v := (.bool false)) rfl rfl ⟨_, _, rfl, (d.ox (Kb (Kr Sn))), j, i, rfl, rfl, y⟩
 refine kn (hX (jy (mo (fun m E W => ∃ c z U u a0, ST true (keys ((t, Ob #[j] 81) :: (i ++ []))) w W μ0 ((t, Ob #[z] 81) :: (u ++ a0)) ∧ E 0 = (.pointer (some ⟨t, 0, none⟩)) ∧ E 1 = (.int .i64 c) ∧ hZ 5 (ju .u8) 1 z U u ∧ lK m c U = some r) jq ⟨h, j, G, i, _, (d.gL St), rfl, rfl, y, hm⟩ ?_)))
 rintro m E W ⟨c, z, U, u, a0, d, x, K, T, g⟩
 cases m with
 | zero => rw [lK] at g; cases g
 | succ q =>
  refine hX (sg (Wh K (Wi rfl (ln (CI g rfl (fun o g => ?_) (fun o g => ?_))))))
  ·refine kn (hX (jy (gZ (Wh x (Wh x (Wn (Wf tU (VB d Mh rfl rfl isAgg78 (Wh K (V (uC (k' := .i64) (a := c) dX dY rfl) (V (Dy (k := .u8) (a := (IntKind.u8.wrap c)) (b := 128) (v := (.int .u8 (IntKind.u8.wrap (BitVec.ofInt (IntKind.bits .u8) (IntKind.u8.wrap c) ||| BitVec.ofInt (IntKind.bits .u8) 128).toNat))) rfl rfl dc rfl) (VE (iM (cs := [(.int .u8 (IntKind.u8.wrap (BitVec.ofInt (IntKind.bits .u8) (IntKind.u8.wrap c) ||| BitVec.ofInt (IntKind.bits .u8) 128).toNat))].toArray) d (ml rfl) (lm bM sizeOf5 gu) (fun c2 p d => ?_))))))))))))))
   replace d := d.perm (Nr (Qb (Qb Qz)) Nz)
   refine bS g fun Q Y g => VE (km (enc := (ju .u8)) (v := z) (vs := (.slice (some ⟨p, 0, none⟩) 1 1)) (R := u) d (fun _ => rfl) dc (xh _) bM pd.1 pd.2.1 rfl pd.2.2.1 pd.2.2.2 rfl rfl T (Sl.lit (enc := (ju .u8)) (l := [(IntKind.u8.wrap (BitVec.ofInt (IntKind.bits .u8) (IntKind.u8.wrap c) ||| BitVec.ofInt (IntKind.bits .u8) 128).toNat)]) (fun _ => rfl) rfl nb rfl (d.at_ (Ma Mh))) Y (fun A c0 a2 d M => Wn (Wf tU ?_)))
   obtain ⟨B, H, rfl⟩ := M.form
   replace d := d.perm (Nb (Pr (Pb Pz)) Nz)
   refine VO (iw (.slice B Q.length H) (#[(.slice B Q.length H)]) d rfl rfl sizeOf78 oc nb rfl (fun L d => ig (iJ (gV ?_))))
   replace d := d.gL (Kb (Kr (Db St)))
   exact gZ (Wh K (V (HA (a := c) (b := 7) rfl rfl dc) (Wa (ln ⟨q, bq _, (Int.fdiv c (2 ^ min (Int.toNat 7) (IntKind.bits .i64))), (.slice B Q.length H), Q, a2, _, (d.gL St), x, rfl, M, g⟩))))
  refine mH (mc (mc (qV (gV (sg (Wh x (Wh x (Wn (Wf tU (VB d Mh rfl rfl isAgg78 (Wh K (V (uC (k' := .i64) (a := c) dX dY rfl) (VE (iM (cs := [(.int .u8 (IntKind.u8.wrap c))].toArray) d (ml rfl) (lm bM sizeOf5 gu) (fun O a5 d => ?_)))))))))))))))
  replace d := d.perm (Nr (Qb (Qb Qz)) Nz)
  refine bS g fun J Z g => VE (km (enc := (ju .u8)) (v := z) (vs := (.slice (some ⟨a5, 0, none⟩) 1 1)) (R := u) d (fun _ => rfl) dc (xh _) bM pd.1 pd.2.1 rfl pd.2.2.1 pd.2.2.2 rfl rfl T (Sl.lit (enc := (ju .u8)) (l := [(IntKind.u8.wrap c)]) (fun _ => rfl) rfl nb rfl (d.at_ (Ma Mh))) Z (fun P c1 a3 d N => Wn (Wf tU ?_)))
  obtain ⟨D, I, rfl⟩ := N.form
  replace d := d.perm (Nb (Pr (Pb Pz)) Nz)
  refine VO (iw (.slice D J.length I) (#[(.slice D J.length I)]) d rfl rfl sizeOf78 oc nb rfl (fun b8 d => ln ?_))
  replace d := d.gL (Kb (Kr (Db St)))
  refine sg (Wa (lt ?_))
  obtain rfl := sj g
  exact iS (v := (.bool true)) rfl rfl ⟨_, _, rfl, (d.ox (Kb (Kr Sn))), (.slice D J.length I), a3, rfl, rfl, N⟩
theorem xz (g : Nat) (c : Value) (j : List Int) (a : LO) (u : Value) (D : List Int) (r : (Bool × (List Int))) (w : World) {Z : iq} (h : qn Z ((g, Ob #[c] 81) :: (a ++ [])) w) (i : hZ 5 (ju .u8) 1 c j a) (k : Sl (Pl (ju .u8)) 1 Z u D) (hm : qX j D = some r) :
  iF true pg0 206 [(.pointer (some ⟨g, 0, none⟩)), u] w ((g, Ob #[c] 81) :: (a ++ [])) (fun v L1 W' => ∃ U M, v = (.bool (r.1)) ∧ L1 = ((g, Ob #[U] 81) :: (M ++ [])) ∧ hZ 5 (ju .u8) 1 U r.2 M) := by
 refine tj h 25 func206 rfl (fun b => sg (Wa (lS (Wm (V (sb fg rfl rfl) (Wm (Vg rfl rfl (gW rfl) (Vg rfl rfl (lV bM rfl k) (Vg rfl rfl (jz rfl rfl rfl) ?_)))))))))
 refine V (ic rfl rfl) (ln (CI hm rfl (fun Q hm => ?_) (fun Q hm => ?_)))
 ·refine sg (Wa (lt (iK ?_)))
  obtain rfl := sj hm
  exact iS (v := (.bool false)) rfl rfl ⟨_, _, rfl, (b.ox (Kb (Kr Sn))), c, a, rfl, rfl, i⟩
 refine kg (Wm (Wm (V (lV bM rfl k) (bS hm fun p T hm => ?_))))
 refine VE (eM b (Cb Pz (Cr Qz Cn)) call93 (fun l _ => (sk g c j a (D.length : Int) _ _ l i T)) ?_)
 rintro _ q n a3 b H m d ⟨Y, K, t, rfl, I⟩
 obtain rfl := t.symm
 replace b := b.perm (Tb (Tr Tn))
 refine lr (Wm (Wm (Wn (Wf tU (VB b Mh rfl rfl isAgg78 (Wm ?_))))))
 replace b := b.perm (Nr (Qb Qz) Nz)
 refine bS hm fun B G hm => VE (km (enc := (ju .u8)) (v := Y) (vs := u) (R := K) b (fun _ => rfl) dc (xh _) bM pd.1 pd.2.1 rfl pd.2.2.1 pd.2.2.2 rfl rfl I (k.mono (Pl.mono _) (H.trans b.iL)) G (fun a4 o J b z => Wn (Wf tU ?_)))
 obtain ⟨x, y, rfl⟩ := z.form
 replace b := b.perm (Nb (Pr Pz) Nz)
 refine VO (iw (.slice x B.length y) (#[(.slice x B.length y)]) b rfl rfl sizeOf78 oc nb rfl (fun a5 b => lr (Wa (lt ?_))))
 obtain rfl := sj hm
 exact iS (v := (.bool true)) rfl rfl ⟨_, _, rfl, (b.ox (Kb (Kr Sn))), (.slice x B.length y), J, rfl, rfl, z⟩
theorem rX (j : Nat) (c : Value) (t : List Int) (a : LO) (J : ByteArray) (r : (Bool × (List Int))) (w : World) {Z : iq} (s : qn Z ((j, Ob #[c] 81) :: (a ++ [])) w) (k : hZ 5 (ju .u8) 1 c t a) (hm : od t J = some r) :
  iF true pg0 162 [(.pointer (some ⟨j, 0, none⟩)), (.string J)] w ((j, Ob #[c] 81) :: (a ++ [])) (fun v L1 W' => ∃ n S2, v = (.bool (r.1)) ∧ L1 = ((j, Ob #[n] 81) :: (S2 ++ [])) ∧ hZ 5 (ju .u8) 1 n r.2 S2) := by
 refine tj s 17 func162 rfl (fun b => sg (Wa (lr (Wm (V (zb fg rfl rfl) (Wm (Vg rfl rfl (gW rfl) (bS hm fun r1 a4 hm => G5 rfl rfl (Eg b call177 (ph J _ _  a4) (fun W3 b => V (ie rfl rfl) ?_))))))))))
 refine Wm (LJ hm (fun B E W => ∃ z x D I, iH Z D ∧ ST true (keys ((j, Ob #[c] 81) :: (a ++ []))) w W D ((j, Ob #[z] 81) :: (x ++ I)) ∧ E 4 = (.bool false) ∧ E 16 = (.bool B.1) ∧ hZ 5 (ju .u8) 1 z B.2 x) 5 ?_ (fun B g y => ?_))
 ·rintro ⟨p, b9⟩ E W ⟨z, x, D, I, K, b, R, a3, T⟩ M
  refine Wg a3 (lt ?_)
  obtain rfl := sj M
  exact iS (v := (.bool p)) rfl rfl ⟨_, _, rfl, (b.ox (Kb (Kr Sn))), z, x, rfl, rfl, T⟩
 refine bC g (fun i g => ?_) (fun i g => ?_)
 ·refine ug i (gW rfl) (ug i (gW rfl) (bS g fun a5 N g => qN i (Af b aS bM dY rfl N (fun P o c2 b G l U L => bS g fun c0 Q g => ?_))))
  refine qN i (eM b (Cb Pz (Cr Qz Cn)) call206 (fun A h => (xz j c t a o a5 _ _ A k (U.mono (Pl.mono _) h) Q)) ?_)
  rintro _ c1 q O b H m d ⟨a9, a2, u, rfl, Y⟩
  obtain rfl := u.symm
  replace b := b.perm (Tb (Tr Tn))
  refine V (ie (cB i) rfl) ?_
  obtain rfl := sj g
  exact y _ _ ⟨a9, a2, q, _, (G.trans H), (b.gL St), rfl, rfl, Y⟩
 refine un i (un i (un i (un i (V (ic (cB i) rfl) ?_))))
 obtain rfl := sj g
 exact y _ _ ⟨c, a, Z, _, (iH.refl _), (b.gL St), rfl, rfl, k⟩
theorem qv (c : Nat) (i : Value) (D : List Int) (a : LO) (x : gH) (r : (Bool × (List Int))) (w : World) {μ0 : iq} (h0 : qn μ0 ((c, Ob #[i] 81) :: (a ++ [])) w) (y : hZ 5 (ju .u8) 1 i D a) (hm : mu D x = some r) :
  iF true pg0 94 [(.pointer (some ⟨c, 0, none⟩)), (.agg (gK x).toArray)] w ((c, Ob #[i] 81) :: (a ++ [])) (fun v L1 W' => ∃ p S2, v = (.bool (r.1)) ∧ L1 = ((c, Ob #[p] 81) :: (S2 ++ [])) ∧ hZ 5 (ju .u8) 1 p r.2 S2) := by
 let l := ((c, Ob #[i] 81) :: (a ++ []))
 refine tj h0 23 func94 rfl (fun b => sg (VE (iU b rfl (fun W2 m b => Wa (lr (Wm (V (zb fg rfl rfl) (Wm (Vg rfl rfl (gM rfl (gY b.has Mh (gK x) rfl az ah)) (bS hm fun r3 c3 hm => G5 rfl rfl (Eg b call157 (pp x _ _  c3) (fun W5 b => ?_))))))))))))
 refine V (ie rfl rfl) (Wm (LJ hm (fun T E W => ∃ z u B a0, iH μ0 B ∧ ST true (keys l) w W B ((m, Ol (gK x) 28) :: ((c, Ob #[z] 81) :: (u ++ a0))) ∧ E 0 = (.pointer (some ⟨c, 0, none⟩)) ∧ E 3 = (.pointer (some ⟨m, 0, none⟩)) ∧ E 4 = (.bool false) ∧ E 16 = (.bool T.1) ∧ hZ 5 (ju .u8) 1 z T.2 u) 5 ?_ (fun T t K => ?_)))
 ·rintro ⟨e5, c4⟩ E W ⟨z, u, B, a0, d1, b, b9, c0, a3, c1, N⟩ q
  refine Wh c1 (LJ q (fun Q E W => ∃ M I U a2, iH B U ∧ ST true (keys l) w W U ((c, Ob #[M] 81) :: (I ++ a2)) ∧ E 4 = (.bool false) ∧ E 22 = (.bool Q.1) ∧ hZ 5 (ju .u8) 1 M Q.2 I) 5 ?_ (fun Q k J => ?_))
  ·rintro ⟨c5, e0⟩ E W ⟨M, I, U, a2, d2, b, d9, c2, L⟩ s
   refine Wg c2 (lt ?_)
   obtain rfl := sj s
   exact iS (v := (.bool c5)) rfl rfl ⟨_, _, rfl, (b.ox (Kb (Kr Sn))), M, I, rfl, rfl, L⟩
  refine bC k (fun g k => ?_) (fun g k => ?_)
  ·refine ug g (gW b9) (ug g (gQ pw c0) (ug g (gM rfl (ia b.has Mh rfl aI)) (bS k fun e1 A k => ?_)))
   refine qN g (eM b (Cb (Pb Pz) (Cr (Qb Qz) Cn)) call162 (fun h _ => (rX c z c4 u x.iz _ _ h N A)) ?_)
   rintro _ e3 c9 d5 b Y n d ⟨c7, R, G, rfl, O⟩
   obtain rfl := G.symm
   replace b := b.perm (Tb (Tr Tn))
   refine V (ie (cB g) rfl) ?_
   obtain rfl := sj k
   exact J _ _ ⟨c7, R, c9, _, Y, (b.gL (Kb (Kr (Db St)))), a3, rfl, O⟩
  refine un g (un g (un g (un g (V (ic (cB g) rfl) ?_))))
  obtain rfl := sj k
  exact J _ _ ⟨z, u, B, _, (iH.refl _), (b.gL (Db St)), a3, rfl, N⟩
 refine bC t (fun j t => ?_) (fun j t => ?_)
 ·refine ug j (gW rfl) (ug j (gQ kJ rfl) (ug j (gM rfl (ia b.has Mh rfl aI)) (bS t fun e2 a9 t => ?_)))
  refine qN j (eM b (Cb (Pb Pz) (Cr (Qb Qz) Cn)) call162 (fun h _ => (rX c i D a x.gU _ _ h y a9)) ?_)
  rintro _ e4 d0 d6 b Z o d ⟨c8, b7, H, rfl, P⟩
  obtain rfl := H.symm
  replace b := b.perm (Tb (Tr Tn))
  refine V (ie (cB j) rfl) ?_
  obtain rfl := sj t
  exact K _ _ ⟨c8, b7, d0, _, Z, (b.gL (Sb (Pb (Pr Pz)) St)), rfl, rfl, rfl, rfl, P⟩
 refine un j (un j (un j (un j (V (ic (cB j) rfl) ?_))))
 obtain rfl := sj t
 exact K _ _ ⟨i, a, μ0, _, (iH.refl _), (b.gL St), rfl, rfl, rfl, rfl, y⟩
theorem Aq (g : Value) (i r : List Int) (w : World) (a : Sl (Pl (ju .u8)) 1 (hp w) g i) (hm : rl i = some r) :
  iY true pg0 96 [g] w 5 (ju .u8) 1 r := by
 unfold rl at hm
 refine qS 8 func96 rfl (fun b => sg (Wa (lS (Wm ?_))))
 obtain ⟨y, B, rfl⟩ := a.form
 refine V (wP bM rfl rfl) (ln ?_)
 rcases y with _ | z
 ·have u := a.isNil
  replace hm : some [] = some r := by rw [u] at hm; simpa [jw, maxLen] using hm
  refine qz (rfl) (sg (Wa (lt (iK ?_))))
  obtain rfl := sj hm
  exact iS (v := (.slice none 0 0)) rfl rfl ⟨_, [], rfl, b.kz (fun p d => by cases d) (by simp), hZ.nil _ _ _⟩
 ·refine mr (rfl) (kg (VE (iM (cs := #[]) b wV (vp [] bM sizeOf5 gu dc rfl (by simp) rfl rfl) (fun G k b => Wm (bS hm fun H t hm => VE (km (enc := (ju .u8)) (v := (.slice (some ⟨k, 0, none⟩) 0 0)) (vs := (.slice (some z) i.length B)) (R := [(k, Ob #[] 5)]) b (fun _ => rfl) dc (xh _) bM pd.1 pd.2.1 rfl pd.2.2.1 pd.2.2.2 rfl rfl (hZ.lit (l := []) (enc := (ju .u8)) rfl dc rfl rfl) (a.mono (Pl.mono _) b.iL) t (fun D x j b c => Wa (lt ?_))))))))
  obtain rfl := sj hm
  exact iS (v := x) rfl rfl ⟨_, j, rfl, b.kz (fun p d => (Ml d)) c.nd, c⟩
theorem yo (g : Nat) (a : Value) (c r : List Int) (w : World) (j : Sl (Pl (ju .u8)) 1 (hp w) a c) (k : At (hp w) (.pointer (some ⟨g, 0, none⟩)) [a]) (hm : ry c = some r) :
  iY true pg0 37 [(.pointer (some ⟨g, 0, none⟩))] w 5 (ju .u8) 1 r := by
 refine qS 10 func37 rfl (fun b => sg (Wa (lS (Wm (V (sb fg rfl rfl) (ln (mr rfl (iO ?_))))))))
 refine gV (sg (Wm (Wn (VQ (uA [a] tU rfl k rfl) (fun G u => V (gM rfl (lg b.has (y := a) u isAgg78)) (bS hm fun H x hm => VE (nt b call96 (Aq a c _ _ (j.mono (Pl.mono _) b.iL) x) (fun D z I t b B d i => Wa (lt ?_)))))))))
 obtain rfl := sj hm
 exact iS (v := z) rfl rfl ⟨_, t, rfl, b.kz (fun p h => (Ml h)) i.nd, i⟩
theorem xa (c : gG) (r : List Int) (w : World) (hm : qo c = some r) :
  iY true pg0 161 [(.agg (gJ c).toArray)] w 5 (ju .u8) 1 r := by
 refine qS 53 func161 rfl (fun d => sg (VE (iU d rfl (fun W2 b1 d => Wa (lS (VA d Mh (gJ c) aM ae (bS hm fun r3 g2 hm => VE (Eg d call115 (pu c _ _  g2) (fun W5 d => V (nn rfl) (ig ?_))))))))))
 refine gV (CI hm rfl (fun f9 hm => ?_) (fun f9 hm => ?_))
 ·refine sg (Wa (ln ?_))
  replace d := d.gL (Db St)
  refine iD (iK ?_)
  obtain rfl := sj hm
  exact iS (v := (.slice none 0 0)) rfl rfl ⟨_, [], rfl, d.kz (fun p m => by cases m) (by simp), hZ.nil _ _ _⟩
 refine kg (V (kW (v := (.agg #[(.slice none 0 0)])) wV (jQ zeroValue81 gr (HW _ gr) kr)) (VE (iU d rfl (fun W8 g d => Wa (lr (Wm (Wf kP (VB d (Mt Mh) rfl rfl bV (bS hm fun r9 e1 hm => ?_)))))))))
 refine VE (eM d (Cb Pz (C0 Cn)) call93 (fun l _ => (sk g (.slice none 0 0) ([]) [] c.Kind _ _ l (hZ.nil _ _ _) e1)) ?_)
 rintro _ k0 k2 j6 d g4 R h ⟨g3, f8, I, rfl, e3⟩
 obtain rfl := I.symm
 replace d := d.perm (Tb (Tr Tn))
 refine lr (Wm (Wf kX (VA d (Mt (Ma Mh)) (gK c.Head) az ah (bS hm fun N e2 hm => ?_))))
 refine VE (eM d (Cb Pz (Cr Qz Cn)) call94 (fun l _ => (qv g g3 r9.2 f8 c.Head _ _ l e3 e2)) ?_)
 rintro _ k1 d0 j7 d g5 a6 h ⟨G, D, J, rfl, i⟩
 obtain rfl := J.symm
 replace d := d.perm (Tb (Tr Tn))
 refine ln (hX (CJ hm (fun a3 E W => ∃ B H K Q, iH d0 K ∧ ST true iE w W K ((g, Ob #[B] 81) :: (H ++ Q)) ∧ E 3 = (.pointer (some ⟨g, 0, none⟩)) ∧ hZ 5 (ju .u8) 1 B a3 H) (fun a3 a => ?_) ?_))
 ·refine sg (Wf kP (VB d (Mt (Ma Mh)) rfl rfl bV (ln (bg (Wi rfl (Wa (ln (CI a rfl (fun b0 a => ?_) (fun b0 a => ?_)))))))))
  ·refine gZ (Wm (Wf nw (VB d (Mt (Ma Mh)) rfl rfl aI (bS a fun i0 b6 a => ?_))))
   refine VE (eM d (Cb Pz (Cr Qz Cn)) call162 (fun l _ => (rX g G N.2 D c.ib _ _ l i b6)) ?_)
   rintro _ i5 f4 g6 d T q h ⟨e8, d2, k, rfl, c4⟩
   obtain rfl := k.symm
   replace d := d.perm (Tb (Tr Tn))
   refine ig (iJ (gV ?_))
   obtain rfl := sj a
   exact ⟨e8, d2, f4, _, T, (d.gL (Kb (Kr (Db St)))), rfl, c4⟩
  refine sg (Wi rfl (Wa (ln (CI a rfl (fun b2 a => ?_) (fun b2 a => ?_)))))
  ·refine gZ (Wm (Wf jm (VA d (Mt (Ma Mh)) (gK c.B) az ah (bS a fun i1 b8 a => ?_))))
   refine VE (eM d (Cb Pz (Cr Qz Cn)) call94 (fun l _ => (qv g G N.2 D c.B _ _ l i b8)) ?_)
   rintro _ i6 f5 g7 d U s h ⟨e9, d3, t, rfl, c5⟩
   obtain rfl := t.symm
   replace d := d.perm (Tb (Tr Tn))
   refine ig (iJ (gV ?_))
   obtain rfl := sj a
   exact ⟨e9, d3, f5, _, U, (d.gL (Kb (Kr (Db St)))), rfl, c5⟩
  refine sg (Wi rfl (Wa (ln (CI a rfl (fun b3 a => ?_) (fun b3 a => ?_)))))
  ·refine sg (Wm (Wf jm (VA d (Mt (Ma Mh)) (gK c.B) az ah (bS a fun e5 b9 a => ?_))))
   refine VE (eM d (Cb Pz (Cr Qz Cn)) call94 (fun l _ => (qv g G N.2 D c.B _ _ l i b9)) ?_)
   rintro _ i7 j4 g8 d Y A h ⟨f0, d4, u, rfl, c6⟩
   obtain rfl := u.symm
   replace d := d.perm (Tb (Tr Tn))
   refine ln (gZ (Wm (Wf mV (VB d (Mt (Ma Mh)) rfl rfl aI (bS a fun i2 c0 a => ?_)))))
   refine VE (eM d (Cb Pz (Cr Qz Cn)) call162 (fun l _ => (rX g f0 e5.2 d4 c.iv _ _ l c6 c0)) ?_)
   rintro _ i8 f6 g9 d Z L h ⟨f1, d5, x, rfl, c7⟩
   obtain rfl := x.symm
   replace d := d.perm (Tb (Tr Tn))
   refine ig (iJ (gV ?_))
   obtain rfl := sj a
   exact ⟨f1, d5, f6, _, (Y.trans Z), (d.gL (Kb (Kr (Db St)))), rfl, c7⟩
  refine sg (Wi rfl (Wa (ln (CI a rfl (fun b4 a => ?_) (fun b4 a => ?_)))))
  ·refine sg (Wm (Wf jm (VA d (Mt (Ma Mh)) (gK c.B) az ah (bS a fun e6 c1 a => ?_))))
   refine VE (eM d (Cb Pz (Cr Qz Cn)) call94 (fun l _ => (qv g G N.2 D c.B _ _ l i c1)) ?_)
   rintro _ i9 j5 h0 d a1 O h ⟨f2, d6, y, rfl, c8⟩
   obtain rfl := y.symm
   replace d := d.perm (Tb (Tr Tn))
   refine ln (gZ (Wm (Wf lz (VA d (Mt (Ma Mh)) (gK c.C) az ah (bS a fun i3 c2 a => ?_)))))
   refine VE (eM d (Cb Pz (Cr Qz Cn)) call94 (fun l _ => (qv g f2 e6.2 d6 c.C _ _ l c8 c2)) ?_)
   rintro _ j0 f7 h1 d a2 P h ⟨f3, d7, z, rfl, c9⟩
   obtain rfl := z.symm
   replace d := d.perm (Tb (Tr Tn))
   refine ig (iJ (gV ?_))
   obtain rfl := sj a
   exact ⟨f3, d7, f7, _, (a1.trans a2), (d.gL (Kb (Kr (Db St)))), rfl, c9⟩
  refine iO (iJ (gV ?_))
  obtain rfl := sj a
  exact ⟨G, D, d0, _, (iH.refl _), (d.gL (Kb (Kr (Db St)))), rfl, i⟩
 rintro e4 E W ⟨B, H, K, Q, g0, d, d8, c3⟩ j
 refine sg (Wh d8 (bS j fun h9 b5 j => VE (nt d call37 (yo g B e4 _ _ (c3.sl (fun _ => rfl) (fun b o m => d.at_ (Mt (Ml m)))) (At.of (d.at_ Mh) _ rfl) b5) (fun h2 e7 j3 d1 d g1 n M => Wa (ln ?_)))))
 replace d := d.gL (Kr (Db (Dr St)))
 refine iD ?_
 obtain rfl := sj j
 exact iS (v := e7) rfl rfl ⟨_, d1, rfl, d.kz (fun p m => (Ml m)) M.nd, M⟩
theorem G1 (w : World) {c d : Value} {a b : List Int} (h1 : Sl (Pl (ju .u8)) 1 (hp w) c a) (g : Sl (Pl (ju .u8)) 1 (hp w) d b) : (callFunc 227 [c, d].toArray).run pg0 w = .ok (.value (.int .i64 (sQ a b))) w := EW func227 (by kernel_rfl) (by kernel_rfl) (by kernel_rfl) (by kernel_rfl) h1 g
theorem yT (a : Value) (g : List Int) (c : Value) (i : List Int) (r : Int) (w : World) (j : Sl (Pl (ju .u8)) 1 (hp w) a g) (k : Sl (Pl (ju .u8)) 1 (hp w) c i) (hm : ux g i = some r) :
  iG true pg0 180 [a, c] w (.int .i64 r) := by
 exact cG 8 func180 rfl (fun b => sg (Wa (lr (Wm (Wm (VE (CP (args := [a, c]) (v := .int .i64 (sQ g i)) rfl (by exact uv rfl rfl) (G1 _ (j.mono (Pl.mono _) b.iL) (k.mono (Pl.mono _) b.iL)) (Wa (lt (rQ hm b))))))))))
theorem zu (g i : gG) (r : Int) (w : World) (hm : ob g i = some r) :
  iG true pg0 117 [(.agg (gJ g).toArray), (.agg (gJ i).toArray)] w (.int .i64 r) := by
 refine cG 10 func117 rfl (fun d => sg (VE (iU d rfl (fun T Y d => VE (iU d rfl (fun U Z d => Wa (ln (hX ?_))))))))
 replace d := d.drew
 have h := d.has.gL (Kb (Kb Sn))
 refine iR h iA (XH 0 rfl h (fun _ l => gM rfl (gY l (Mt Mh) (gJ g) rfl aM ae)) (XH 2 rfl h (fun _ l => gM rfl (gY l Mh (gJ i) rfl aM ae)) (bS hm fun y t hm => XE 1 rfl (nt d call161 (xa g _ _  t) (fun I B N G d a n j => ?_)))))
 have h := d.has.vF a (Dr (Kb (Kb Sn)))
 refine ⟨h, (bS hm fun z u hm => XE 3 rfl (nt d call161 (xa i _ _  u) (fun J D Q H d c p k => ?_)))⟩
 have h := d.has.vF (a.trans c) (Dr (Dr (Kb (Kb Sn))))
 refine ⟨h, (bS hm fun M x hm => XE 4 rfl (Eg d call180 (yT B y D z _ _ (j.sl (fun _ => rfl) (fun b o m => d.at_ (Ma (Ml m)))) (k.sl (fun _ => rfl) (fun b o m => d.at_ (Ml m))) x) (fun K d => ?_)))⟩
 have h := d.has.vF (a.trans c) (Dr (Dr (Kb (Kb Sn))))
 refine ⟨h, (X 5 rfl h (kh rfl) (jd kr (gV ?_)))⟩
 exact iD (rQ hm d)
theorem vk (j : Value) (a0 : List gG) (x : LO) (r : List gG) (w : World) {μ0 : iq} (h0 : qn μ0 (x ++ []) w) (B : hZ 108 gJ 9 j a0 x) (hm : nB a0 = some r) :
  iF true pg0 118 [j] w (x ++ []) (fun v L1 W' => ∃ y1 S2, v = y1 ∧ L1 = (S2 ++ []) ∧ hZ 108 gJ 9 y1 r S2) := by
 refine tj h0 61 func118 rfl (fun b => sg (Wa (lS (Wm (V (jf ap rfl B) (Wi rfl (ln (CI hm rfl (fun f9 hm => ?_) (fun f9 hm => ?_)))))))))
 ·refine sg (Wm (Wa (lt (iK ?_))))
  obtain rfl := sj hm
  exact iS (v := j) rfl rfl ⟨_, _, rfl, (b.ox (Kr Sn)), j, x, rfl, rfl, B⟩
 refine kS (Wa (ln (jy (mo (fun m E W => ∃ t R, ST true (keys (x ++ [])) w W μ0 (x ++ R) ∧ E 0 = j ∧ E 3 = (.int .i64 t) ∧ ku a0 m t = some r) jq ⟨1, _, (b.gL St), rfl, rfl, hm⟩ ?_))))
 rintro m E W ⟨t, R, b, D, H, a⟩
 cases m with
 | zero => rw [ku] at a; cases a
 | succ f4 =>
  refine hX (sg (Wh H (Wh D (V (jf ap rfl B) (Wi rfl (ln (CI a rfl (fun c9 a => ?_) (fun c9 a => ?_))))))))
  ·refine kn (hX (jy (hX ?_)))
   replace b := b.drew
   have d := b.has.gL (Kr Sn)
   refine iR d iA (X 0 rfl d (gW D) (X 1 rfl d (gW H) (bS a fun c2 Z a => XQ 2 rfl d (jo (i := t) (x0 := c2) ap ae rfl rfl B (jP Z) (jk Z)) (fun g4 d5 => XH 3 rfl d (fun _ l => gM rfl (kD l (fun p h => (Ml h)) B iN d5 (jk Z) aM ae)) (X 4 rfl d (gW D) (X 5 rfl d (gW H) (X 6 rfl d (jz rfl rfl rfl) (bS a fun c3 n a => XQ 7 rfl d (jo (i := (wi0 .i64 (t - 1))) (x0 := c3) ap ae rfl rfl B (jP n) (jk n)) (fun g5 d6 => XH 8 rfl d (fun _ l => gM rfl (kD l (fun p h => (Ml h)) B iN d6 (jk n) aM ae)) (X 9 rfl d (qF rfl rfl (la fD) (nZ (vP _ c2 c3))) (jd kr (gV ?_))))))))))))
   refine CI a rfl (fun d0 a => ?_) (fun d0 a => ?_)
   ·refine sg (Wh D (Wh H (bS a fun _ A a => VQ (pV (i := t) ap ae rfl rfl B (pb A) (oZ A)) (fun c0 M => Wa (lS (Wa (ln ?_)))))))
    refine CJ a (fun U E W => ∃ o b5, ST true (keys (x ++ [])) w W μ0 (o ++ b5) ∧ E 0 = j ∧ E 3 = (.int .i64 U.2) ∧ hZ 108 gJ 9 j U.1 o) (fun U d3 => ?_) ?_
    ·refine jy (mo (fun m E W => ∃ q K Y y b6, ST true (keys (x ++ [])) w W μ0 (K ++ b6) ∧ E 0 = j ∧ E 3 = (.int .i64 Y) ∧ E 4 = c0 ∧ E 5 = (.int .i64 y) ∧ hZ 108 gJ 9 j q K ∧ kp t m q Y y = some U) jq ⟨a0, x, t, 1, _, (b.gL St), D, H, rfl, rfl, B, d3⟩ ?_)
     rintro m E W ⟨q, K, Y, y, b6, b, Q, T, I, J, g, k⟩
     cases m with
     | zero => rw [kp] at k; cases k
     | succ f5 =>
      refine hX (sg (Wh J (Wh I (V (z7 ap rfl M g) (Wi rfl (ln (CI k rfl (fun d1 k => ?_) (fun d1 k => ?_))))))))
      ·refine kn (hX (CJ k (fun s E W => ∃ N b7, ST true (keys (x ++ [])) w W μ0 (N ++ b7) ∧ E 0 = j ∧ E 3 = (.int .i64 s.2) ∧ E 4 = c0 ∧ E 5 = (.int .i64 y) ∧ hZ 108 gJ 9 j s.1 N) (fun s c => ?_) ?_))
       ·refine jy (hX ?_)
        replace b := b.drew
        have d := b.has.gL (Kr Sn)
        refine iR d iA (X 0 rfl d (gW I) (X 1 rfl d (gW J) (bS c fun c5 a2 c => XQ 2 rfl d (pY (i := y) (x0 := c5) ap ae rfl rfl g M (jP a2) (jk a2)) (fun g6 d7 => XH 3 rfl d (fun _ l => gM rfl (kD l (fun p h => (Ml h)) g iN d7 (rA (jk a2)) aM ae)) (X 4 rfl d (gW I) (X 5 rfl d (gW J) (X 6 rfl d (jz rfl rfl rfl) (bS c fun c6 a3 c => XQ 7 rfl d (pY (i := (wi0 .i64 (y - 1))) (x0 := c6) ap ae rfl rfl g M (jP a3) (jk a3)) (fun g7 d8 => XH 8 rfl d (fun _ l => gM rfl (kD l (fun p h => (Ml h)) g iN d8 (rA (jk a3)) aM ae)) (X 9 rfl d (FK rfl rfl (la fD) (Cp (vP _ c5 c6))) (jd kr (gV ?_))))))))))))
        refine CI c rfl (fun d2 c => ?_) (fun d2 c => ?_)
        ·refine sg (Wh Q (Wh T (Wh I (Wh J (bS c fun a9 a4 c => VQ (pY (i := y) (x0 := a9) ap ae rfl rfl g M (jP a4) (jk a4)) (fun g8 d9 => V (gM rfl (kD b.has (fun p h => (Ml h)) g iN d9 (rA (jk a4)) aM ae)) (bS c fun f7 a5 c => VQ (jo (i := Y) (x0 := f7) ap ae rfl rfl g (jP a5) (jk a5)) (fun g9 e0 => VO (vr (u := (.agg (gJ a9).toArray)) (x1 := a9)  b g iN jY rfl rfl rfl e0 (jk a5) ae (fun g2 e7 b c8 => ln (gZ ?_)))))))))))
         refine Wh T (Wi rfl (Wa (ig (iJ (gV ?_)))))
         obtain rfl := sj c
         exact ⟨e7, _, (b.gL St), Q, rfl, I, J, c8⟩
        refine iO (iJ (gV ?_))
        obtain rfl := sj c
        exact ⟨K, _, (b.gL St), Q, T, I, J, g⟩
       rintro ⟨f3, f6⟩ E W ⟨N, b7, b, e9, f0, f1, f2, e3⟩ d4
       exact gZ (Wh f2 (Wi rfl (Wa (ln ⟨f5, bq _, f3, N, f6, (wi0 .i64 (y + 1)), _, (b.gL St), e9, f0, f1, rfl, e3, d4⟩))))
      refine mH (mc (mc (qV (gV ?_))))
      obtain rfl := sj k
      exact ⟨K, _, (b.gL St), Q, T, g⟩
    rintro ⟨g3, c4⟩ E W ⟨o, b5, b, b8, b9, P⟩ G
    refine sg (Wh b8 (Wh b9 (bS G fun _ L G => VQ (pV (i := c4) ap ae rfl rfl P (pb L) (oZ L)) (fun h1 e1 => VO (sG (z := K9)  b P iN jY ap aZ e1 rfl rfl (fun g1 e6 b c7 => lr (Wh b8 (Wh b9 (bS G fun _ O G => VQ (rK (i := c4) ap ae rfl rfl c7 iN (pb O) (oZ O)) (fun c1 e2 => ?_))))))))))
    refine Wa (lt (jD (iK (iK (jD (iK ?_))))))
    obtain rfl := sj G
    exact iS (v := c1) rfl rfl ⟨_, _, rfl, (b.ox (Kr Sn)), c1, e6, rfl, rfl, e2⟩
   exact iO (iJ (gV (gZ (Wh H (Wi rfl (Wa (ln ⟨f4, bq _, (wi0 .i64 (t + 1)), _, (b.gL St), D, rfl, a⟩)))))))
  refine mH (mc (mc (qV (gV (sg (Wh D (Wa (lt ?_))))))))
  obtain rfl := sj a
  exact iS (v := j) rfl rfl ⟨_, _, rfl, (b.ox (Kr Sn)), j, x, rfl, rfl, B⟩
theorem rZ (i : Value) (t r : List gG) (w : World) (B : Sl (Pl gJ) 9 (hp w) i t) (hm : nl t = some r) :
  iY false pg0 51 [i] w 108 gJ 9 r := by
 refine qS 11 func51 rfl (fun b => sg (Wa (lr (Wm (bS hm fun u T hm => VE (nt b call113 (iY.jH (wx i t _ _ (B.mono (Pl.mono _) b.iL) T)) (fun W3 y A R8 b a5 o Q => bS hm fun U D hm => ?_)))))))
 refine VE (eM b (Cr Qz Cn) call112 (fun h _ => (tT y u R8 (.func (.func 114) #[] #[]) (fun (x : gG) => ri x) _ _ h Q ⟨114, #[], #[], rfl, call114, fun W x r s hm => (Ax x r W  hm).jH⟩ D)) ?_)
 rintro _ R b8 L b E l d ⟨k, K, a, rfl, I⟩
 obtain rfl := a.symm
 replace b := b.perm (Tr Tn)
 refine Wa (lr (Wm (bS hm fun Y G hm => ?_)))
 refine VE (eM b (Cr Qz Cn) call116 (fun h _ => iF.jH (C9 k U K (.func (.func 117) #[] #[]) (fun (x : (gG × gG)) => ob x.1 x.2) _ _ h I ⟨117, #[], rfl, call117, fun W x r s hm => zu x.1 x.2 r W  hm⟩ G)) ?_)
 rintro _ b6 b9 a9 b a2 m d ⟨M, c, rfl, J⟩
 obtain rfl := c.symm
 replace b := b.perm (Tr Tn)
 refine lr (Wm (bS hm fun P H hm => ?_))
 refine VE (eM b (Cr Qz Cn) call118 (fun h _ => iF.jH (vk k Y M _ _ h J H)) ?_)
 rintro _ b7 c0 O b a3 n d ⟨Z, N, g, rfl, j⟩
 obtain rfl := g.symm
 replace b := b.perm (Tr Tn)
 refine Wa (lt ?_)
 obtain rfl := sj hm
 exact iS (v := Z) rfl rfl ⟨_, N, rfl, b.kz (fun p q => (Ml q)) j.nd, j⟩
theorem wy (j : Value) (t : List gG) (c : gG) (r : Int) (w : World) (g : Sl (Pl gJ) 9 (hp w) j t) (hm : qa t c = some r) :
  iG true pg0 248 [j, (.agg (gJ c).toArray)] w (.int .i64 r) := by
 refine cG 19 func248 rfl (fun b => sg (VE (iU b rfl (fun Q J b => Wa (lS (Wm (V (lV ap rfl g) (Wm (ln ?_)))))))))
 refine iZ (fun i E W => ∃ k, (E 8 = .int .i64 (i : Nat) ∧ E 7 = .int .i64 (t.length : Nat)) ∧ ST true iE w W (hp w) ((J, Ol (gJ c) 108) :: k) ∧ E 0 = j ∧ E 3 = (.pointer (some ⟨J, 0, none⟩)) ∧ lL c (t.drop i) i = some r) t.length g.len ⟨_, ⟨rfl, rfl⟩, (b.gL St), rfl, rfl, hm⟩ dc dc dc (fun _ _ _ h => by obtain ⟨_, m, _⟩ := h; exact m) ?_ ?_
 ·rintro K E W B ⟨k, ⟨l, o⟩, b, u, x, a⟩
  obtain ⟨y, M, H, G, I⟩ := iP B
  rw [H] at a
  refine bg (Wh l (Wa (ln (hX ?_))))
  replace b := b.drew
  have d := b.has.gL (Kb Sn)
  refine iR d iA (XH 0 rfl d (fun _ n => gM x (gY n Mh (gJ c) rfl aM ae)) (X 1 rfl d (gW u) (X 2 rfl d (gW rfl) (XQ 3 rfl d (jK (enc := gJ) (i := (K : Int)) (x0 := y) ap ae rfl rfl g (aw _) G) (fun N D => XH 4 rfl d (fun _ n => gM rfl (kq n D aM ae)) (X 5 rfl d (qF rfl rfl (la fD) (nZ (vP _ c y))) (jd kr (gV (CI a rfl (fun z a => ?_) (fun z a => ?_))))))))))
  ·refine sg (Wm (Wa (ln ?_)))
   replace b := b.gL (Db St)
   refine iD (jD (iK (jD (iK ?_))))
   obtain rfl := sj a
   exact rP b
  exact iO (iJ (gV ⟨l, _, ⟨rfl, o⟩, (b.gL St), u, x, (by rw [I]; exact a)⟩))
 rintro E W ⟨k, ⟨l, o⟩, b, u, x, a⟩
 rw [aB] at a
 refine gV ?_
 replace b := b.gL (Db St)
 exact sg (Wa (lt (rQ a b)))
theorem uF (a : Value) (g : List gG) (c : gG) (r : Bool) (w : World) (i : Sl (Pl gJ) 9 (hp w) a g) (hm : oV g c = some r) :
  iG true pg0 201 [a, (.agg (gJ c).toArray)] w (.bool r) := by
 refine cG 9 func201 rfl (fun b => sg (VE (iU b rfl (fun k u b => Wa (lr (Wm (VA b Mh (gJ c) aM ae (bS hm fun x j hm => VE (Eg b call248 (wy a g c _ _ (i.mono (Pl.mono _) b.iL) j) (fun t b => Wi rfl (Wa ?_)))))))))))
 refine ln ?_
 exact iD (rQ hm b)
theorem Df (a : Value) (g : List gG) (c : gG) (r : Bool) (w : World) (i : Sl (Pl gJ) 9 (hp w) a g) (hm : tz g c = some r) :
  iG true pg0 151 [a, (.agg (gJ c).toArray)] w (.bool r) := by
 refine cG 8 func151 rfl (fun b => sg (VE (iU b rfl (fun k u b => Wa (lr (Wm (VA b Mh (gJ c) aM ae (bS hm fun x j hm => VE (Eg b call201 (uF a g c _ _ (i.mono (Pl.mono _) b.iL) j) (fun t b => Wa (ig ?_)))))))))))
 refine gV ?_
 exact iD (rQ hm b)
theorem xi (a : gG) (r : List gH) (w : World) (hm : qw a = some r) :
  iY true pg0 52 [(.agg (gJ a).toArray)] w 28 gK 2 r := by
 refine qS 27 func52 rfl (fun b => sg (VE (iU b rfl (fun W2 h b => Wa (lS (VA b Mh (gJ a) aM ae (bS hm fun r3 o hm => VE (Eg b call115 (pu a _ _  o) (fun W5 b => V (nn rfl) (ig ?_))))))))))
 refine gV (CI hm rfl (fun n hm => ?_) (fun n hm => ?_))
 ·refine sg (Wa (ln ?_))
  replace b := b.gL (Db St)
  refine iD (iK ?_)
  obtain rfl := sj hm
  exact iS (v := (.slice none 0 0)) rfl rfl ⟨_, [], rfl, b.kz (fun p d => by cases d) (by simp), hZ.nil _ _ _⟩
 refine kg (Wf kX (VA b Mh (gK a.Head) az ah (VE (iM (cs := (gK a.Head).toArray) b (ml rfl) (lm cq ah cE) (fun W8 y b => Wa (ln (hX (CJ hm (fun I E W => ∃ j i z, ST true iE w W (hp w) ((h, Ol (gJ a) 108) :: (i ++ z)) ∧ E 1 = (.pointer (some ⟨h, 0, none⟩)) ∧ E 3 = j ∧ hZ 28 gK 2 j I i) (fun I g => ?_) ?_))))))))
 ·refine sg (Wf kP (VB b (Mt Mh) rfl rfl bV (Wi rfl (ln (CI g rfl (fun Q g => ?_) (fun Q g => ?_))))))
  ·refine gZ (Wm (Wf jm (VA b (Mt Mh) (gK a.B) az ah (VE (iM (cs := (gK a.B).toArray) b (ml rfl) (lm cq ah cE) (fun L a4 b => ?_))))))
   replace b := b.perm (Nb (Pb Pz) Nz)
   refine bS g fun b9 T g => VE (km (enc := gK) (v := (.slice (some ⟨y, 0, none⟩) 1 1)) (vs := (.slice (some ⟨a4, 0, none⟩) 1 1)) (R := [(y, Ol (gK a.Head) 28)]) b rF dc oH cq pL.1 pL.2.1 rfl pL.2.2.1 pL.2.2.2 rfl rfl (hZ.lit (l := [a.Head]) (enc := gK) rfl dc rfl rfl) (Sl.lit (enc := gK) (l := [a.B]) rF rfl nb rfl (b.at_ (Mt Mh))) T (fun O a9 m b K => Wa (ln ?_)))
   obtain rfl := sj g
   exact ⟨a9, m, _, (b.gL (Sb (Pr (Pb Pz)) (Kr (Db St)))), rfl, rfl, K⟩
  refine kn ?_
  obtain rfl := sj g
  replace b := b.HR
  exact ⟨(.slice (some ⟨y, 0, none⟩) 1 1), [(y, Ol (gK a.Head) 28)], _, (b.gL (Sb (Pr Pz) St)), rfl, rfl, (hZ.lit (l := [a.Head]) (enc := gK) rfl dc rfl rfl)⟩
 rintro P E W ⟨j, i, z, b, D, G, u⟩ U
 refine hX (CJ U (fun H E W => ∃ t k B, ST true iE w W (hp w) (k ++ B) ∧ E 3 = t ∧ hZ 28 gK 2 t H k) (fun H c => ?_) ?_)
 ·refine sg (V (gQ kP D) (VB b Mh rfl rfl bV (Wi rfl (ln (CI c rfl (fun M c => ?_) (fun M c => ?_))))))
  ·refine gZ (Wh G (V (gQ lz D) (VA b Mh (gK a.C) az ah (VE (iM (cs := (gK a.C).toArray) b (ml rfl) (lm cq ah cE) (fun s a3 b => ?_))))))
   replace b := b.perm (Nr (Qb (Qb Qz)) Nz)
   refine bS c fun b8 N c => VE (km (enc := gK) (v := j) (vs := (.slice (some ⟨a3, 0, none⟩) 1 1)) (R := i) b rF dc oH cq pL.1 pL.2.1 rfl pL.2.2.1 pL.2.2.2 rfl rfl u (Sl.lit (enc := gK) (l := [a.C]) rF rfl nb rfl (b.at_ (Ma Mh))) N (fun A q Z b J => Wa (ln ?_)))
   obtain rfl := sj c
   exact ⟨q, Z, _, (b.gL (Kr (Db (Db St)))), rfl, J⟩
  refine kn ?_
  obtain rfl := sj c
  exact ⟨j, i, _, (b.gL (Db St)), G, u⟩
 rintro b6 E W ⟨t, k, B, b, a5, x⟩ Y
 refine sg (Wh a5 (Wa (lt ?_)))
 obtain rfl := sj Y
 exact iS (v := t) rfl rfl ⟨_, k, rfl, b.kz (fun p d => (Ml d)) x.nd, x⟩
theorem vS (M : Nat) (u : Value) (a9 : List (gH × (List (ByteArray × Bool)))) (G : LO) (D : Value) (a0 : List gG) (B : LO) (a : Value) (Y : List (gH × (List gG))) (I : LO) (c : Value) (K : List (ByteArray × (List gG))) (t : LO) (j : Value) (a4 : List gI) (y : LO) (J : Int) (H : gG) (r : ((List gG) × (List (gH × (List gG))) × (List (ByteArray × (List gG))))) (w : World) {μ0 : iq} (h0 : qn μ0 ((M, Ob #[u, D, a, c, j, (.int .i64 J)] 174) :: (G ++ (B ++ (I ++ (t ++ (y ++ [])))))) w) (e8 : ja (fun (x : gH) => (.agg (gK x).toArray)) (ir Value.string (fun (x : Bool) => (Value.bool x))) u a9 G) (a6 : hZ 108 gJ 9 D a0 B) (b2 : ja (fun (x : gH) => (.agg (gK x).toArray)) (hZ 108 gJ 9) a Y I) (T : ja Value.string (hZ 108 gJ 9) c K t) (e0 : lW 38 gS 3 j a4 y) (hm : nM a9 a0 Y K a4 J H = some r) :
  iF true pg0 171 [(.pointer (some ⟨M, 0, none⟩)), (.agg (gJ H).toArray)] w ((M, Ob #[u, D, a, c, j, (.int .i64 J)] 174) :: (G ++ (B ++ (I ++ (t ++ (y ++ [])))))) (fun v L1 W' => ∃ y1 S2 S4 S6, v = (.tuple #[]) ∧ L1 = ((M, Ob #[u, y1, a, c, j, (.int .i64 J)] 174) :: (G ++ (S2 ++ (S4 ++ (S6 ++ (y ++ [])))))) ∧ hZ 108 gJ 9 y1 r.1 S2 ∧ ja (fun (x : gH) => (.agg (gK x).toArray)) (hZ 108 gJ 9) a r.2.1 S4 ∧ ja Value.string (hZ 108 gJ 9) c r.2.2 S6) := by
 refine tj h0 55 func171 rfl (fun d => sg (VE (iU d rfl (fun W2 b1 d => ln (hX ?_)))))
 replace d := d.drew
 have m := d.has.gL (Kb Sn)
 have n := d.has.gL (Db (Kb Sn))
 refine uy 10 m n iA (kd 0 rfl kr (.inl rfl) rfl dc (fun _ _ h => ⟨h.1, mC br h.2⟩) ⟨m, fun _ => n⟩ (fun _ _ _ _ => gW rfl) (kd 1 rfl kr (.inl rfl) rfl dc (fun _ _ h => ⟨h.1, mC br h.2⟩) ⟨m, fun _ => n⟩ (fun _ _ _ _ => gW rfl) (kd 2 rfl kr (.inl rfl) rfl dc (fun _ _ h => ⟨h.1, mC br h.2⟩) ⟨m, fun _ => n⟩ (fun _ _ _ _ => jB rfl) (kd 3 rfl kr (.inl rfl) rfl dc (fun _ _ h => ⟨h.1, mC br h.2⟩) ⟨m, fun _ => n⟩ (fun _ _ _ _ => gQ zt rfl) (kd 4 rfl kr (.inl rfl) rfl dc (fun _ _ h => ⟨h.1, mC br h.2⟩) ⟨m, fun _ => n⟩ (fun l W q s => have p := (s.2 (q.FF 10 [4] kr rfl)); gM rfl (ia p Mh rfl isAgg22)) (kd 5 rfl kr (.inl rfl) rfl dc (fun _ _ h => ⟨h.1, mC br h.2⟩) ⟨m, fun _ => n⟩ (fun l W q s => have p := s.1; gM rfl (gY p Mh (gJ H) rfl aM ae)) (XE 6 rfl (iM (cs := (gJ H).toArray) d (ml rfl) (lm ap ae aZ) (fun j7 f9 d => ?_)))))))))
 have m := d.has.gL (Db (Kb Sn))
 have n := d.has.gL (Db (Db (Kb Sn)))
 refine ⟨⟨m, fun _ => n⟩, ?_⟩
 replace d := d.perm (Nr (Qb (Qb (Qb (Qr Qz)))) Nz)
 refine bS hm fun a5 e9 hm => XE 7 rfl (km (enc := gJ) (v := D) (vs := (.slice (some ⟨f9, 0, none⟩) 1 1)) (R := B) d iN dc jY ap kY.1 kY.2.1 rfl kY.2.2.1 kY.2.2.2 rfl rfl a6 (Sl.lit (enc := gJ) (l := [H]) iN rfl nb rfl (d.at_ (Ma Mh))) e9 (fun j8 k1 b7 d b5 => ?_))
 have m := d.has.gL (Dr (Db (Kb Sn)))
 have n := d.has.gL (Dr (Db (Db (Kb Sn))))
 refine ⟨⟨m, fun _ => n⟩, (kd 8 rfl kr (.inl rfl) rfl dc (fun _ _ h => ⟨h.1, mC br h.2⟩) ⟨m, fun _ => n⟩ (fun _ _ _ _ => jB rfl) (kd 9 rfl kr (.inl rfl) rfl dc (fun _ _ h => ⟨h.1, mC br h.2⟩) ⟨m, fun _ => n⟩ (fun _ _ _ _ => gQ zt rfl) ?_))⟩
 obtain ⟨a8, b0, rfl⟩ := b5.form
 let A : Value := (.slice a8 a5.length b0)
 replace d := d.perm (Nb (Pr (Pb (Pb Pz))) Nz)
 refine XO 10 rfl (iw A (#[u, A, a, c, j, (.int .i64 J)]) d rfl rfl sizeOf22 oc nb rfl (fun j9 d => ?_))
 have m := d.has.gL (Db (Dr (Db (Kb Sn))))
 refine ⟨⟨m, fun h => Em kr h⟩, (jd kr (gV ?_))⟩
 replace d := d.gL (Kb (Kr (Db St)))
 refine hX (sg (VA d (Mt (Ma Mh)) (gJ H) aM ae (bS hm fun c0 f0 hm => VE (nt d call52 (xi H _ _  f0) (fun k0 k2 k3 j6 d g3 ad e7 => ?_)))))
 let f5 := (c0.drop (Int.toNat 1))
 obtain ⟨g2, d, g4, af, f1⟩ := ST.By d e7 rF
 refine bS hm fun _ b8 hm => VQ (uU (i := 1) cq ah rfl rfl f1 (pb b8) (oZ b8)) (fun g0 b6 => V (lV cq rfl b6.1) (Wm (ln (iZ (fun i E W => ∃ a3 U O, (E 20 = .int .i64 (i : Nat) ∧ E 19 = .int .i64 (f5.length : Nat)) ∧ ST true (keys ((M, Ob #[u, D, a, c, j, (.int .i64 J)] 174) :: (G ++ (B ++ (I ++ (t ++ (y ++ []))))))) w W g2 ((M, Ob #[u, A, a, c, j, (.int .i64 J)] 174) :: ((b1, Ol (gJ H) 108) :: (U ++ (b7 ++ (G ++ (t ++ (y ++ O))))))) ∧ E 0 = (.pointer (some ⟨M, 0, none⟩)) ∧ E 3 = (.pointer (some ⟨b1, 0, none⟩)) ∧ E 18 = g0 ∧ ja (fun (x : gH) => (.agg (gK x).toArray)) (hZ 108 gJ 9) a a3 U ∧ kA H K a5 (f5.drop i) a3 = some r) f5.length b6.1.len ⟨Y, I, _, ⟨rfl, rfl⟩, (d.gL (Kb (Sb (Pr Pz) (Sr (Qr (Qr Qz)) St)))), rfl, rfl, rfl, b2, hm⟩ dc dc dc (fun _ _ _ h => by obtain ⟨_, _, _, ab, _⟩ := h; exact ab) ?_ ?_))))
 ·rintro f2 E W d2 ⟨a3, U, O, ⟨eI, eN⟩, d, a2, N, P, Z, g⟩
  obtain ⟨Q, h1, d7, d6, d8⟩ := iP d2
  rw [d7] at g
  refine bg (VQ (jK (enc := gK) (i := (f2 : Int)) (x0 := Q) cq ah P eI b6.1 (aw _) d6) (fun i9 d3 => V (gM rfl (kq d.has d3 az ah)) (VE (jc d cE (fun h8 i7 d => VO (iw (.agg (gK Q).toArray) ((gK Q).toArray) d rfl rfl ah (oH Q) nb rfl (fun h9 d => ln ?_)))))))
  replace d := d.drew
  have m := d.has.gL (Kb (Kb (Kb Sn)))
  refine iR m iA (X 0 rfl m (gW a2) (X 1 rfl m (jB rfl) (X 2 rfl m (gQ CA rfl) (XH 3 rfl m (fun _ p => gM rfl (ia p (Mt Mh) rfl isAgg171)) (XH 4 rfl m (fun _ p => gM rfl (gY p Mh (gK Q) rfl az ah)) (XH 5 rfl m (fun _ p => gM N (gY p (Mt (Mt Mh)) (gJ H) rfl aM ae)) (XE 6 rfl (iM (cs := (gJ H).toArray) d (ml rfl) (lm ap ae aZ) (fun i0 e5 d => ?_)))))))))
  have m := d.has.gL (Db (Kb (Kb (Kb Sn))))
  refine ⟨m, ?_⟩
  obtain ⟨g7, d0⟩ := Z
  replace d := d.perm (Nr (Qb (Qb (Qb (Qb Qz)))) Nz)
  refine XE 7 rfl (Dv (k := Q) (x0 := [])  gP pf underlying171 gE (hZ.nil _ _ _) d d0 rfl rfl (fun i1 f4 g9 h3 e1 d c2 c1 => ?_))
  have m := d.has.gL (Dr (Dr (Db (Kb (Kb (Kb Sn))))))
  refine ⟨m, (X 8 rfl m (pC rfl rfl) (X 10 rfl m (pC rfl rfl) ?_))⟩
  replace d := d.perm (Nr (Qr Qz) Nz)
  refine bS g fun b9 c7 g => XE 9 rfl (km (enc := gJ) (v := f4) (vs := (.slice (some ⟨e5, 0, none⟩) 1 1)) (R := e1) d iN dc jY ap kY.1 kY.2.1 rfl kY.2.2.1 kY.2.2.2 rfl rfl c2 (Sl.lit (enc := gJ) (l := [H]) iN rfl nb rfl (d.at_ (Ma (Ma Mh)))) c7 (fun i2 j0 h4 d c3 => ?_))
  have m := d.has.gL (Dr (Dr (Db (Kb (Kb (Kb Sn))))))
  refine ⟨m, ?_⟩
  replace d := d.perm (Nr (Qr Qz) Nz)
  refine XO 11 rfl (BD (e := 0) (z := b9)  gP pf d c1 rfl rfl rfl c3 (fun i3 g8 e2 d c4 => ?_))
  have m := d.has.gL (Dr (Db (Kb (Kb (Kb Sn)))))
  refine ⟨m, (jd kr (iJ (gV ?_)))⟩
  replace d := d.gL (Kr (Db (Db St)))
  exact ⟨eI, (ji gO a3 Q b9), e2, _, ⟨rfl, eN⟩, (d.gL (Sb (Pr Pz) (Sb (Pr Pz) St))), a2, N, P, c4.e, (by rw [d8]; exact g)⟩
 rintro E W ⟨a3, U, O, ⟨eI, eN⟩, d, a2, N, P, Z, g⟩
 rw [aB] at g
 refine gV (sg (V (gQ kP N) (VB d (Mt Mh) rfl rfl bV (Wi rfl (ln (CI g rfl (fun c8 g => ?_) (fun c8 g => ?_)))))))
 ·replace d := d.drew
  have m := d.has.gL (Kb (Kb Sn))
  have n := d.has.gL (Db (Db (Dr (Dr (Dr (Kr Sn))))))
  refine uy 15 m n iA (kd 0 rfl kr (.inl rfl) rfl dc (fun _ _ h => ⟨h.1, mC br h.2⟩) ⟨m, fun _ => n⟩ (fun _ _ _ _ => gW a2) (kd 1 rfl kr (.inl rfl) rfl dc (fun _ _ h => ⟨h.1, mC br h.2⟩) ⟨m, fun _ => n⟩ (fun _ _ _ _ => jB rfl) (kd 2 rfl kr (.inl rfl) rfl dc (fun _ _ h => ⟨h.1, mC br h.2⟩) ⟨m, fun _ => n⟩ (fun _ _ _ _ => gQ zl rfl) (kd 3 rfl kr (.inl rfl) rfl dc (fun _ _ h => ⟨h.1, mC br h.2⟩) ⟨m, fun _ => n⟩ (fun l W q s => have p := s.1; gM rfl (ia p Mh rfl isAgg172)) (kd 4 rfl kr (.inl rfl) rfl dc (fun _ _ h => ⟨h.1, mC br h.2⟩) ⟨m, fun _ => n⟩ (fun _ _ _ _ => gQ mV N) (kd 5 rfl kr (.inl rfl) rfl dc (fun _ _ h => ⟨h.1, mC br h.2⟩) ⟨m, fun _ => n⟩ (fun l W q s => have p := s.1; gM rfl (ia p (Mt Mh) rfl aI)) (kd 6 rfl kr (.inl rfl) rfl dc (fun _ _ h => ⟨h.1, mC br h.2⟩) ⟨m, fun _ => n⟩ (fun _ _ _ _ => gW a2) (kd 7 rfl kr (.inl rfl) rfl dc (fun _ _ h => ⟨h.1, mC br h.2⟩) ⟨m, fun _ => n⟩ (fun _ _ _ _ => jB rfl) (kd 8 rfl kr (.inl rfl) rfl dc (fun _ _ h => ⟨h.1, mC br h.2⟩) ⟨m, fun _ => n⟩ (fun _ _ _ _ => gQ zl rfl) (kd 9 rfl kr (.inl rfl) rfl dc (fun _ _ h => ⟨h.1, mC br h.2⟩) ⟨m, fun _ => n⟩ (fun l W q s => have p := s.1; gM rfl (ia p Mh rfl isAgg172)) (kd 10 rfl kr (.inl rfl) rfl dc (fun _ _ h => ⟨h.1, mC br h.2⟩) ⟨m, fun _ => n⟩ (fun _ _ _ _ => gQ mV N) (kd 11 rfl kr (.inl rfl) rfl dc (fun _ _ h => ⟨h.1, mC br h.2⟩) ⟨m, fun _ => n⟩ (fun l W q s => have p := s.1; gM rfl (ia p (Mt Mh) rfl aI)) ?_))))))))))))
  obtain ⟨d9, L⟩ := T
  obtain ⟨h5, g5, g6⟩ := jv.rowAt iX.1 L H.iv
  refine kd 12 rfl kr (.inl rfl) rfl dc (fun _ _ h => ⟨h.1, mC br h.2⟩) ⟨m, fun _ => n⟩ (fun l W q s => have p := (s.2 (q.FF 15 [12] kr rfl)); lN (k := H.iv) (z := (.slice none 0 0)) zT underlying172 gE rfl rfl L (fun b o hq => p.2 b o (Ml hq))) (kd 13 rfl kr (.inl rfl) rfl dc (fun _ _ h => ⟨h.1, mC br h.2⟩) ⟨m, fun _ => n⟩ (fun l W q s => have p := s.1; gM N (gY p (Mt Mh) (gJ H) rfl aM ae)) (XE 14 rfl (iM (cs := (gJ H).toArray) d (ml rfl) (lm ap ae aZ) (fun i4 e6 d => ?_))))
  have m := d.has.gL (Db (Kb (Kb Sn)))
  have n := d.has.gL (Db (Db (Db (Dr (Dr (Dr (Kr Sn)))))))
  refine ⟨⟨m, fun _ => n⟩, ?_⟩
  replace d := d.perm (Nr (Qb (Qb (Qb (Qr (Qr (Qr Qz)))))) Nz)
  obtain ⟨h6, e3, d4, d5, d1⟩ := jv.open iX.1 (hZ.nil _ _ _) L H.iv
  replace d := d.perm (Ib d4)
  replace d := d.perm (Nr (Qr Qz) Nz)
  refine bS g fun f3 c9 g => XE 15 rfl (km (enc := gJ) (v := (mM iB d9 H.iv (.slice none 0 0))) (vs := (.slice (some ⟨e6, 0, none⟩) 1 1)) (R := e3) d iN dc jY ap kY.1 kY.2.1 rfl kY.2.2.1 kY.2.2.2 rfl rfl d5 (Sl.lit (enc := gJ) (l := [H]) iN rfl nb rfl (d.at_ (Ma (Ma Mh)))) c9 (fun i5 j3 h7 d c5 => ?_))
  have m := d.has.gL (Dr (Dr (Db (Kb (Kb Sn)))))
  refine ⟨⟨m, fun h => Em kr h⟩, ?_⟩
  replace d := d.perm (Nr (Qr Qz) Nz)
  refine XO 16 rfl (GQ (k := H.iv) (z := f3)  zT underlying172 d d1 rfl rfl rfl c5 (fun i6 e4 d c6 => ?_))
  have m := d.has.gL (Dr (Db (Kb (Kb Sn))))
  refine ⟨⟨m, fun h => Em kr h⟩, (jd kr (pQ ?_))⟩
  obtain rfl := sj g
  exact ot rfl ⟨_, _, rfl, (d.ox (Sb (Pr (Pb Pz)) (Sr (Qr (Qb (Qb (Qr (Qr Qz))))) (Sr (Qr (Qb (Qb (Qr Qz)))) (Sr (Qr (Qb (Qb Qz))) (Kr (Db (Db (Kr Sn))))))))), A, b7, U, e4, rfl, rfl, b5, Z, c6.e⟩
 refine iO (pQ ?_)
 obtain rfl := sj g
 exact ot rfl ⟨_, _, rfl, (d.ox (Kb (Db (Sr (Qr (Qr Qz)) (Sr (Qr Qz) (Kr (Kr (Kr Sn)))))))), A, b7, U, t, rfl, rfl, b5, Z, T⟩
theorem mE (J : Nat) (g : Value) (a0 : List (gH × (List (ByteArray × Bool)))) (D : LO) (a : Value) (M : List gG) (u : LO) (j : Value) (Z : List (gH × (List gG))) (B : LO) (c : Value) (N : List (ByteArray × (List gG))) (y : LO) (i : Value) (Y : List gI) (t : LO) (H : Int) (G : gH) (U : ByteArray) (r : ((List (gH × (List (ByteArray × Bool)))) × (List gI) × Int)) (w : World) {μ0 : iq} (h0 : qn μ0 ((J, Ob #[g, a, j, c, i, (.int .i64 H)] 174) :: (D ++ (u ++ (B ++ (y ++ (t ++ [])))))) w) (a5 : ja (fun (x : gH) => (.agg (gK x).toArray)) (ir Value.string (fun (x : Bool) => (Value.bool x))) g a0 D) (b5 : hZ 108 gJ 9 a M u) (c2 : ja (fun (x : gH) => (.agg (gK x).toArray)) (hZ 108 gJ 9) j Z B) (b6 : ja Value.string (hZ 108 gJ 9) c N y) (K : lW 38 gS 3 i Y t) (hm : kf a0 M Z N Y H G U = some r) :
  iF true pg0 209 [(.pointer (some ⟨J, 0, none⟩)), (.agg (gK G).toArray), (.string U)] w ((J, Ob #[g, a, j, c, i, (.int .i64 H)] 174) :: (D ++ (u ++ (B ++ (y ++ (t ++ [])))))) (fun v L1 W' => ∃ S1 y3 S4, v = (.tuple #[]) ∧ L1 = ((J, Ob #[g, a, j, c, y3, (.int .i64 (r.2.2))] 174) :: (S1 ++ (u ++ (B ++ (y ++ (S4 ++ [])))))) ∧ ja (fun (x : gH) => (.agg (gK x).toArray)) (ir Value.string (fun (x : Bool) => (Value.bool x))) g r.1 S1 ∧ lW 38 gS 3 y3 r.2.1 S4) := by
 let a1 := (#[g, a, j, c, i, (.int .i64 H)] : Array Value)
 refine tj h0 53 func209 rfl (fun m => sg (VE (iU m rfl (fun W2 b1 m => ln (hX (hX ?_))))))
 replace m := m.drew
 have d := m.has.gL (Kb (Kb (Kr Sn)))
 refine iR d iA (X 0 rfl d (gW rfl) (X 1 rfl d (jB rfl) (X 2 rfl d (gQ rM rfl) (XH 3 rfl d (fun _ p => gM rfl (ia p (Mt Mh) rfl fE)) (XH 4 rfl d (fun _ p => gM rfl (gY p Mh (gK G) rfl az ah)) ?_)))))
 obtain ⟨f3, Q⟩ := a5
 refine XH 5 rfl d (fun _ p => lN (k := G) (z := (.map none)) pf dx ed rfl rfl Q (fun b o A => p.2 b o (Mt (Mt (Ml A))))) (X 6 rfl d (gW rfl) (XH 7 rfl d (fun _ p => nR (k := U) (z := false) (vf := (fun (x : Bool) => (Value.bool x))) zT eu fF rfl rfl (jv.xk (μ := hp _) gP.1 Q G (fun b o A => p.2 b o (Mt (Mt (Ml A)))))) (jd kr (gV (CI hm rfl (fun d4 hm => ?_) (fun d4 hm => ?_))))))
 ·refine iD (iK ?_)
  obtain rfl := sj hm
  exact ot rfl ⟨_, _, rfl, (m.ox (Db (Kb (Kr (Kr (Kr (Kr (Kr Sn)))))))), D, i, t, rfl, rfl, Q.e, K⟩
 refine kn (hX (CJ hm (fun b2 E W => ∃ O b9, ST true (keys ((J, Obj.cells a1 174 (0, 0)) :: (D ++ (u ++ (B ++ (y ++ (t ++ []))))))) w W μ0 ((b1, Ol (gK G) 28) :: ((J, Obj.cells a1 174 (0, 0)) :: (O ++ (u ++ (B ++ (y ++ (t ++ b9))))))) ∧ E 0 = (.pointer (some ⟨J, 0, none⟩)) ∧ E 2 = (.string U) ∧ E 4 = (.pointer (some ⟨b1, 0, none⟩)) ∧ ja (fun (x : gH) => (.agg (gK x).toArray)) (ir Value.string (fun (x : Bool) => (Value.bool x))) g b2 O) (fun b2 I => ?_) ?_))
 ·refine hX ?_
  replace m := m.drew
  have d := m.has.gL (Kb (Kb (Kr Sn)))
  refine iR d iA (X 0 rfl d (gW rfl) (X 1 rfl d (jB rfl) (X 2 rfl d (gQ rM rfl) (XH 3 rfl d (fun _ p => gM rfl (ia p (Mt Mh) rfl fE)) (XH 4 rfl d (fun _ p => gM rfl (gY p Mh (gK G) rfl az ah)) (XH 5 rfl d (fun _ p => lN (k := G) (z := (.map none)) pf dx ed rfl rfl Q (fun b o A => p.2 b o (Mt (Mt (Ml A))))) (X 6 rfl d (B7 gP.1 eu Q rfl rfl) (jd kr (gV (CI I rfl (fun b7 I => ?_) (fun b7 I => ?_)))))))))))
  ·replace m := m.drew
   have d := m.has.gL (Kb (Kb Sn))
   refine iR d iA (X 0 rfl d (gW rfl) (X 1 rfl d (jB rfl) (X 2 rfl d (gQ rM rfl) (XH 3 rfl d (fun _ p => gM rfl (ia p (Mt Mh) rfl fE)) (XH 4 rfl d (fun _ p => gM rfl (gY p Mh (gK G) rfl az ah)) (XE 5 rfl (rI (P := pg0) Value.string (fun (x : Bool) => (Value.bool x)) m (fun e0 e6 d8 m b3 => ?_))))))))
   have d := m.has.gL (Dr (Kb (Kb Sn)))
   refine ⟨d, ?_⟩
   replace m := m.perm (Nr (Qr (Qb (Qb Qz))) Nz)
   refine bS I fun e3 b8 I => XO 6 rfl (Ey (k := G) (z := ([]))  pf dx m Q rfl rfl rfl b3 b8 (fun e1 c3 m b4 => ?_))
   have d := m.has.gL (Dr (Kb (Kb Sn)))
   refine ⟨d, (jd kr (gV ?_))⟩
   obtain rfl := sj I
   exact ⟨c3, _, (m.gL (Sb (Pr Pz) (Sb (Pr Pz) St))), rfl, rfl, rfl, b4.e⟩
  refine kn ?_
  obtain rfl := sj I
  exact ⟨D, _, (m.gL St), rfl, rfl, rfl, Q.e⟩
 rintro f1 E W ⟨O, b9, m, L, c0, c1, c7⟩ T
 refine hX ?_
 replace m := m.drew
 have d := m.has.gL (Kb (Kb Sn))
 have n := m.has.gL (Db (Db (Kr Sn)))
 refine uy 7 d n iA (kd 0 rfl kr (.inl rfl) rfl dc (fun _ _ h => ⟨h.1, mC br h.2⟩) ⟨d, fun _ => n⟩ (fun _ _ _ _ => gW L) (kd 1 rfl kr (.inl rfl) rfl dc (fun _ _ h => ⟨h.1, mC br h.2⟩) ⟨d, fun _ => n⟩ (fun _ _ _ _ => jB rfl) (kd 2 rfl kr (.inl rfl) rfl dc (fun _ _ h => ⟨h.1, mC br h.2⟩) ⟨d, fun _ => n⟩ (fun _ _ _ _ => gQ rM rfl) (kd 3 rfl kr (.inl rfl) rfl dc (fun _ _ h => ⟨h.1, mC br h.2⟩) ⟨d, fun _ => n⟩ (fun l W q s => have p := s.1; gM rfl (ia p (Mt Mh) rfl fE)) (kd 4 rfl kr (.inl rfl) rfl dc (fun _ _ h => ⟨h.1, mC br h.2⟩) ⟨d, fun _ => n⟩ (fun l W q s => have p := s.1; gM c1 (gY p Mh (gK G) rfl az ah)) ?_)))))
 obtain ⟨e4, a9⟩ := c7
 refine kd 5 rfl kr (.inl rfl) rfl dc (fun _ _ h => ⟨h.1, mC br h.2⟩) ⟨d, fun _ => n⟩ (fun l W q s => have p := (s.2 (q.FF 7 [5] kr rfl)); lN (k := G) (z := (.map none)) pf dx ed rfl rfl a9 (fun b o A => p.2 b o (Ml A))) (kd 6 rfl kr (.inl rfl) rfl dc (fun _ _ h => ⟨h.1, mC br h.2⟩) ⟨d, fun _ => n⟩ (fun _ _ _ _ => gW c0) ?_)
 replace m := m.perm (Nr (Qb (Qb Qz)) Nz)
 refine bS T fun f2 c6 T => XO 7 rfl (DD (k := G) (v := true) (vf := (fun (x : Bool) => (Value.bool x)))  gP.1 zT eu m a9 rfl rfl rfl c6 (fun e7 c8 m c4 => ?_))
 have d := m.has.gL (Dr (Kb (Kb Sn)))
 refine ⟨⟨d, fun h => Em kr h⟩, (jd kr (gV (sg (Wh L (Wn (Wf xo (VB m (Ma (Mt Mh)) rfl rfl bV (Wi rfl (Wn (Wf xo ?_))))))))))⟩
 replace m := m.perm (Nb (Pr (Pb Pz)) Nz)
 refine VO (iw (.int .i64 (wi0 .i64 (H + 1))) (#[g, a, j, c, i, (.int .i64 (wi0 .i64 (H + 1)))]) m rfl rfl eQ (xh _ (wi0 .i64 (H + 1))) nb rfl (fun e8 m => ln ?_))
 replace m := m.drew
 have d := m.has.gL (Db (Dr (Kb Sn)))
 have n := m.has.gL (Kb Sn)
 refine uy 12 d n iA (kd 0 rfl kr (.inl rfl) rfl dc (fun _ _ h => ⟨h.1, mC br h.2⟩) ⟨d, fun _ => n⟩ (fun _ _ _ _ => gW L) (kd 1 rfl kr (.inl rfl) rfl dc (fun _ _ h => ⟨h.1, mC br h.2⟩) ⟨d, fun _ => n⟩ (fun _ _ _ _ => gW L) (kd 2 rfl kr (.inl rfl) rfl dc (fun _ _ h => ⟨h.1, mC br h.2⟩) ⟨d, fun _ => n⟩ (fun _ _ _ _ => jB rfl) (kd 3 rfl kr (.inl rfl) rfl dc (fun _ _ h => ⟨h.1, mC br h.2⟩) ⟨d, fun _ => n⟩ (fun _ _ _ _ => gQ tD rfl) (kd 4 rfl kr (.inl rfl) rfl dc (fun _ _ h => ⟨h.1, mC br h.2⟩) ⟨d, fun _ => n⟩ (fun l W q s => have p := (s.2 (q.FF 12 [4] kr rfl)); gM rfl (ia p Mh rfl isAgg120)) (kd 5 rfl kr (.inl rfl) rfl dc (fun _ _ h => ⟨h.1, mC br h.2⟩) ⟨d, fun _ => n⟩ (fun l W q s => have p := s.1; gM c1 (gY p Mh (gK G) rfl az ah)) (kd 6 rfl kr (.inl rfl) rfl dc (fun _ _ h => ⟨h.1, mC br h.2⟩) ⟨d, fun _ => n⟩ (fun _ _ _ _ => gW c0) (kd 7 rfl kr (.inl rfl) rfl dc (fun _ _ h => ⟨h.1, mC br h.2⟩) ⟨d, fun _ => n⟩ (fun _ _ _ _ => kW (v := (.agg (gS (⟨G, U⟩ : gI)).toArray)) (nI rfl rfl) (jQ cu bu (xQ _ bu) kr)) (XE 8 rfl (iM (cs := (gS (⟨G, U⟩ : gI)).toArray) m (ml rfl) (lm bp aX cu) (fun e9 d3 m => ?_)))))))))))
 have d := m.has.gL (Db (Db (Dr (Kb Sn))))
 have n := m.has.gL (Db (Kb Sn))
 refine ⟨⟨d, fun _ => n⟩, ?_⟩
 replace m := m.perm (Nr (Qb (Qb (Qr (Qb (Qr (Qr (Qr Qz))))))) Nz)
 refine bS T fun b0 c5 T => XE 9 rfl (B0 (enc := gS) (v := i) (vs := (.slice (some ⟨d3, 0, none⟩) 1 1)) (R := t) m kO dc rJ bp nL.1 nL.2.1 rfl nL.2.2.1 nL.2.2.2 rfl rfl K (Sl.lit (enc := gS) (l := [(⟨G, U⟩ : gI)]) kO rfl nb rfl (m.at_ (Ma Mh))) c5 (fun f0 e5 c9 m a7 => ?_))
 have d := m.has.gL (Dr (Db (Db (Dr (Kb Sn)))))
 have n := m.has.gL (Dr (Db (Kb Sn)))
 refine ⟨⟨d, fun _ => n⟩, (kd 10 rfl kr (.inl rfl) rfl dc (fun _ _ h => ⟨h.1, mC br h.2⟩) ⟨d, fun _ => n⟩ (fun _ _ _ _ => jB rfl) (kd 11 rfl kr (.inl rfl) rfl dc (fun _ _ h => ⟨h.1, mC br h.2⟩) ⟨d, fun _ => n⟩ (fun _ _ _ _ => gQ tD rfl) ?_))⟩
 obtain ⟨a3, a4, rfl⟩ := a7.form
 let a2 : Value := (.slice a3 b0.length a4)
 replace m := m.perm (Nb (Pr (Pb Pz)) Nz)
 refine XO 12 rfl (iw a2 (#[g, a, j, c, a2, (.int .i64 (wi0 .i64 (H + 1)))]) m rfl rfl sizeOf120 oc nb rfl (fun d9 m => ?_))
 have d := m.has.gL (Db (Dr (Db (Dr (Kb Sn)))))
 refine ⟨⟨d, fun h => Em kr h⟩, (jd kr (pQ ?_))⟩
 obtain rfl := sj T
 exact ot rfl ⟨_, _, rfl, (m.ox (Kb (Sr (Qr (Qb Qz)) (Sr (Qr (Qb (Qb Qz))) (Sr (Qr (Qb (Qb Qz))) (Sr (Qr (Qb (Qb Qz))) (Kr Sn))))))), c8, a2, c9, rfl, rfl, c4.e, a7⟩
theorem pP (a : Value) (g : List (ByteArray × Bool)) (r : Unit) (w : World) (c : lU Value.string (fun (x : Bool) => (Value.bool x)) (hp w) a g) (hm : kL g = some r) :
  iF true pg0 120 [a] w [] (fun v k W' => ∃ i, v = (.func (.func 183) #[] #[(.pointer (some ⟨i, 0, none⟩))]) ∧ k = ((i, Ob #[a] 175) :: [])) := by
 refine qS 4 func120 rfl (fun b => sg ?_)
 obtain ⟨t, rfl⟩ := c.form
 refine VE (iU b rfl (fun u j b => Wa (lr (V (pW (by exact tq rfl) rfl) (Wa (lt ?_))))))
 obtain rfl := sj hm
 exact iS (v := (.func (.func 183) #[] #[(.pointer (some ⟨j, 0, none⟩))])) rfl rfl ⟨_, _, rfl, (b.wq (Kb Sn)), j, rfl, rfl⟩
theorem zG {β : Type} {vf : β → Value} {l : List (ByteArray × β)} {b : Nat} {a : Value} {W : World} {r : List ByteArray} (c : W.heap[b]? = some (.cells #[a] 175 (0, 0))) (hm : lU Value.string vf (hp W) a l) (hk : yK l = some r) : iY false pg0 119 [.func (.func 183) #[] #[.pointer (some ⟨b, 0, none⟩)]] W 9 jC 1 r := BV (P := pg0) F9 Gp Eu rfl aS call183 call182 c hm hk
theorem pn (T : Nat) (a : Value) (u : List (gH × (List (ByteArray × Bool)))) (c : Value) (t : List gG) (j : Value) (G : List (gH × (List gG))) (g : Value) (B : List (ByteArray × (List gG))) (i : Value) (D : List gI) (Q : Int) (H : gH) (r : List ByteArray) (w : World) (J : qx (fun (x : gH) => (.agg (gK x).toArray)) (ir Value.string (fun (x : Bool) => (Value.bool x))) (hp w) a u) (Z : Sl (Pl gJ) 9 (hp w) c t) (a4 : qx (fun (x : gH) => (.agg (gK x).toArray)) (hZ 108 gJ 9) (hp w) j G) (a0 : qx Value.string (hZ 108 gJ 9) (hp w) g B) (a3 : Sl (Pl gS) 3 (hp w) i D) (Y : At (hp w) (.pointer (some ⟨T, 0, none⟩)) [a, c, j, g, i, (.int .i64 Q)]) (hm : js u t G B D Q H = some r) :
  iY false pg0 53 [(.pointer (some ⟨T, 0, none⟩)), (.agg (gK H).toArray)] w 9 jC 1 r := by
 refine qS 15 func53 rfl (fun d => sg (VE (iU d rfl (fun W2 R d => Wa (lS (Wm (V (sb underlying101 rfl rfl) (ln (mr rfl ?_)))))))))
 refine kn (hX ?_)
 replace d := d.drew
 have h := d.has.gL (Kb Sn)
 refine iR h iA (X 0 rfl h (gW rfl) (X 1 rfl h (jB rfl) (XQ 2 rfl h (uA [a] rM rfl Y rfl) (fun b8 A => XH 3 rfl h (fun _ l => gM rfl (lg l (y := a) A fE)) (XH 4 rfl h (fun _ l => gM rfl (gY l Mh (gK H) rfl az ah)) ?_)))))
 obtain ⟨a9, b4, K, M⟩ := J
 refine XH 5 rfl h (fun _ l => lN (k := H) (z := (.map none)) pf dx ed rfl rfl K (fun b o m => l.1 b o (M b o m))) (bS hm fun b9 E hm => ?_)
 refine XE 6 rfl (wk d (cW _) call120 (fun _ _ _ _ => iF.jH (pP (mM gO a9 H (.map none)) ((ij gO u H).getD []) _ _ ((jv.xk gP.1 K H M).mono d.iL) E)) (fun b5 c1 c2 W d I q n a5 => ?_) (L0 := []))
 obtain ⟨b7, N, rfl⟩ := a5
 replace N := N.symm; subst N
 replace d := d.perm (Tb Tn)
 have h := d.has.vF I (Db (Kb Sn))
 refine ⟨h, (bS hm fun c0 L hm => XE 7 rfl (nt d call119 (zG (vf := (fun (x : Bool) => (Value.bool x))) (d.has.2 _ _ Mh) ((jv.xk gP.1 K H M).mono (fun b o m => d.has.1 b o (I b o m))) L) (fun b6 P c3 O d a2 s U => ?_)))⟩
 have h := d.has.vF (I.trans a2) (Dr (Db (Kb Sn)))
 refine ⟨h, (X 8 rfl h (kh rfl) (jd kr (gV ?_)))⟩
 replace d := d.gL (Kr (Db (Db St)))
 refine iD ?_
 obtain rfl := sj hm
 exact iS (v := P) rfl rfl ⟨_, O, rfl, d.kz (fun p m => (Ml m)) U.nd, U⟩
theorem wu (K : Nat) (g : Value) (N : List (gH × (List (ByteArray × Bool)))) (G : LO) (a : Value) (H : List gG) (k : LO) (j : Value) (J : List (gH × (List gG))) (u : LO) (c : Value) (I : List (ByteArray × (List gG))) (t : LO) (z : Value) (M : List gI) (B : LO) (Z : Int) (A a2 : gH) (r : ((List (gH × (List (ByteArray × Bool)))) × (List gI) × Int)) (w : World) {μ0 : iq} (h0 : qn μ0 ((K, Ob #[g, a, j, c, z, (.int .i64 Z)] 174) :: (G ++ (k ++ (u ++ (t ++ (B ++ [])))))) w) (a5 : ja (fun (x : gH) => (.agg (gK x).toArray)) (ir Value.string (fun (x : Bool) => (Value.bool x))) g N G) (Q : hZ 108 gJ 9 a H k) (a4 : ja (fun (x : gH) => (.agg (gK x).toArray)) (hZ 108 gJ 9) j J u) (T : ja Value.string (hZ 108 gJ 9) c I t) (a3 : lW 38 gS 3 z M B) (hm : oB N H J I M Z A a2 = some r) :
  iF false pg0 252 [(.pointer (some ⟨K, 0, none⟩)), (.agg (gK A).toArray), (.agg (gK a2).toArray)] w ((K, Ob #[g, a, j, c, z, (.int .i64 Z)] 174) :: (G ++ (k ++ (u ++ (t ++ (B ++ [])))))) (fun v L1 W' => ∃ S1 y3 S4, v = (.tuple #[]) ∧ L1 = ((K, Ob #[g, a, j, c, y3, (.int .i64 (r.2.2))] 174) :: (S1 ++ (k ++ (u ++ (t ++ (S4 ++ [])))))) ∧ ja (fun (x : gH) => (.agg (gK x).toArray)) (ir Value.string (fun (x : Bool) => (Value.bool x))) g r.1 S1 ∧ lW 38 gS 3 y3 r.2.1 S4) := by
 refine tj h0 21 func252 rfl (fun d => sg (VE (iU d rfl (fun W2 b1 d => VE (iU d rfl (fun W4 b3 d => lr (Wm (VA d (Mt Mh) (gK A) az ah (bS hm fun r5 e5 hm => VE (nt d call53 (pn K g N a H j J c I z M Z A _ _ (a5.at (fun b o l => d.at_ (Mt (Mt (Mt (Ml l)))))) (Q.sl iN (fun b o l => d.at_ (Mt (Mt (Mt (Ma (Ml l))))))) (a4.at (fun b o l => d.at_ (Mt (Mt (Mt (Ma (Ma (Ml l)))))))) (T.at (fun b o l => d.at_ (Mt (Mt (Mt (Ma (Ma (Ma (Ml l))))))))) ((a3.xd kO).mono (Pl.mono _) (rH (fun b o l => d.at_ (Mt (Mt (Mt (Ma (Ma (Ma (Ma (Ml l))))))))))) (At.of (d.at_ (Mt (Mt Mh))) _ rfl) e5) (fun W7 e6 s e1 d f4 ao a9 => V (jf aO rfl a9) (Wm ?_))))))))))))
 refine ln ?_
 replace d := d.gL (Kr (Kb (Db St)))
 refine pt (iZ (fun i E W => ∃ m U a0 n Y q L R, (E 12 = .int .i64 (i : Nat) ∧ E 11 = .int .i64 (r5.length : Nat)) ∧ iH s L ∧ ST false (keys ((K, Ob #[g, a, j, c, z, (.int .i64 Z)] 174) :: (G ++ (k ++ (u ++ (t ++ (B ++ []))))))) w W L ((K, Ob #[g, a, j, c, a0, (.int .i64 q)] 174) :: ((b3, Ol (gK a2) 28) :: (U ++ (k ++ (u ++ (t ++ (Y ++ (e1 ++ R)))))))) ∧ E 0 = (.pointer (some ⟨K, 0, none⟩)) ∧ E 5 = (.pointer (some ⟨b3, 0, none⟩)) ∧ E 10 = e6 ∧ ja (fun (x : gH) => (.agg (gK x).toArray)) (ir Value.string (fun (x : Bool) => (Value.bool x))) g m U ∧ lW 38 gS 3 a0 n Y ∧ lP H J I a2 (r5.drop i) m n q = some r) r5.length a9.len ⟨N, G, z, M, B, Z, s, _, ⟨rfl, rfl⟩, (iH.refl _), (d.gL (Sb (Pr (Pb Pz)) (Sb (Pr Pz) (Sr (Qr Qz) (Sr (Qr Qz) (Sr (Qr Qz) (Sr (Qr Qz) (Sr (Qr Qz) St)))))))), rfl, rfl, rfl, a5, a3, hm⟩ dc dc dc (fun _ _ _ h => by obtain ⟨_, _, _, _, _, _, _, _, ab, _⟩ := h; exact ab) ?_ ?_)
 ·rintro d7 E W c8 ⟨m, U, a0, n, Y, q, L, R, ⟨eI, eN⟩, b6, d, b9, c0, c1, O, P, D⟩
  obtain ⟨c3, e9, d1, c4, d2⟩ := iP c8
  rw [d1] at D
  refine bg (VQ (jo (i := (d7 : Int)) (x0 := c3) aO cy c1 eI a9 (aw _) c4) (fun f5 c9 => V (gM rfl (rr d.has (fun p l => (Mt (Mt (Ma (Ma (Ma (Ma (Ma (Ml l))))))))) a9 (fun _ => rfl) c9 c4 (y := (.string c3)) rfl aI)) (Wa (ln (gZ (Wh b9 (V (gM c0 (gY d.has (Mt Mh) (gK a2) rfl az ah)) (Wm (bS D fun c2 d0 D => ?_)))))))))
  refine VE (eM d (Cb Pz (Cr (Qb Qz) (Cr (Qb Qz) (Cr (Qb Qz) (Cr (Qb Qz) (Cr (Qb Qz) Cn)))))) call209 (fun hh _ => iF.jH (mE K g m U a H k j J u c I t a0 n Y q a2 c3 _ _ hh O Q a4 T P d0)) ?_)
  rintro _ f6 e0 f1 d c6 ad af ⟨d5, d9, d6, b4, rfl, d3, d4⟩
  obtain rfl := b4.symm
  replace d := d.perm (Tb (Tr (Tr (Tr (Tr (Tr Tn))))))
  exact ig (iJ (gV ⟨eI, c2.1, d5, d9, c2.2.1, d6, c2.2.2, e0, _, ⟨rfl, eN⟩, (b6.trans c6), (d.gL (Kb (Sb (Pr (Pr (Pr (Pr (Pr Pz))))) St))), b9, c0, c1, d3, d4, (by rw [d2]; exact D)⟩))
 rintro E W ⟨m, U, a0, n, Y, q, L, R, ⟨eI, eN⟩, b6, d, b9, c0, c1, O, P, D⟩
 rw [aB] at D
 refine gV ?_
 replace d := d.gL (Kb (Db (Kr (Kr (Kr (Kr (Kr (Dr St))))))))
 refine pQ ?_
 obtain rfl := sj D
 exact ot rfl ⟨_, _, rfl, (d.ox (Kb (Kr (Kr (Kr (Kr (Kr Sn))))))), U, a0, Y, rfl, rfl, O, P⟩
theorem si (K : Nat) (G : Value) (Z : List (gH × (List (ByteArray × Bool)))) (D : LO) (g : Value) (I : List gG) (a : LO) (B : Value) (N : List (gH × (List gG))) (y : LO) (i : Value) (J : List (ByteArray × (List gG))) (c : LO) (t : Value) (M : List gI) (j : LO) (a0 : Int) (Q : gG) (a2 : gI) (r : ((List (gH × (List (ByteArray × Bool)))) × (List gI) × Int)) (w : World) {μ0 : iq} (h0 : qn μ0 ((K, Ob #[G, g, B, i, t, (.int .i64 a0)] 174) :: (D ++ (a ++ (y ++ (c ++ (j ++ [])))))) w) (U : ja (fun (x : gH) => (.agg (gK x).toArray)) (ir Value.string (fun (x : Bool) => (Value.bool x))) G Z D) (T : hZ 108 gJ 9 g I a) (a3 : ja (fun (x : gH) => (.agg (gK x).toArray)) (hZ 108 gJ 9) B N y) (Y : ja Value.string (hZ 108 gJ 9) i J c) (H : lW 38 gS 3 t M j) (hm : mQ Z I N J M a0 Q a2 = some r) :
  iF false pg0 210 [(.pointer (some ⟨K, 0, none⟩)), (.agg (gJ Q).toArray), (.agg (gS a2).toArray)] w ((K, Ob #[G, g, B, i, t, (.int .i64 a0)] 174) :: (D ++ (a ++ (y ++ (c ++ (j ++ [])))))) (fun v L1 W' => ∃ S1 y3 S4, v = (.tuple #[]) ∧ L1 = ((K, Ob #[G, g, B, i, y3, (.int .i64 (r.2.2))] 174) :: (S1 ++ (a ++ (y ++ (c ++ (S4 ++ [])))))) ∧ ja (fun (x : gH) => (.agg (gK x).toArray)) (ir Value.string (fun (x : Bool) => (Value.bool x))) G r.1 S1 ∧ lW 38 gS 3 y3 r.2.1 S4) := by
 let s := (#[G, g, B, i, t, (.int .i64 a0)] : Array Value)
 refine tj h0 57 func210 rfl (fun d => sg (VE (iU d rfl (fun W2 A d => VE (iU d rfl (fun W4 O d => lr (Wf kP (VB d (Mt Mh) rfl rfl bV (ln (jy (hX ?_)))))))))))
 refine gZ (Wi rfl (Wa (ln (CI hm rfl (fun e4 hm => ?_) (fun e4 hm => ?_)))))
 ·refine gZ (Wm (Wf kX (VA d (Mt Mh) (gK Q.Head) az ah (Wf pv (VB d Mh rfl rfl aI (bS hm fun r6 e5 hm => ?_))))))
  refine VE (eM d (Cb (Pb (Pb Pz)) (Cr (Qb (Qb Qz)) (Cr (Qb (Qb Qz)) (Cr (Qb (Qb Qz)) (Cr (Qb (Qb Qz)) (Cr (Qb (Qb Qz)) Cn)))))) call209 (fun q _ => iF.jH (mE K G Z D g I a B N y i J c t M j a0 Q.Head a2.ib _ _ q U T a3 Y H e5)) ?_)
  rintro _ g4 af f7 d f1 a6 m ⟨d1, e6, d2, a8, rfl, c4, c5⟩
  obtain rfl := a8.symm
  replace d := d.perm (Tb (Tr (Tr (Tr (Tr (Tr Tn))))))
  refine ig (iJ (pQ ?_))
  obtain rfl := sj hm
  exact ot rfl ⟨_, _, rfl, (d.ox (Kb (Kr (Kr (Kr (Kr (Kr Sn))))))), d1, e6, d2, rfl, rfl, c4, c5⟩
 refine sg (Wi rfl (Wa (ln (CI hm rfl (fun b9 hm => ?_) (fun b9 hm => ?_)))))
 ·refine gZ (Wm (Wf pv (VB d Mh rfl rfl aI (Wf mV (VB d (Mt Mh) rfl rfl aI (V (kW (v := (.agg (gK (⟨a2.ib, Q.iv⟩ : gH)).toArray)) (nI rfl rfl) (jQ cE bG (Bx _ bG) kr)) (Wf kX (VA d (Mt Mh) (gK Q.Head) az ah (bS hm fun g2 c2 hm => ?_)))))))))
  refine VE (eM d (Cb (Pb (Pb Pz)) (Cr (Qb (Qb Qz)) (Cr (Qb (Qb Qz)) (Cr (Qb (Qb Qz)) (Cr (Qb (Qb Qz)) (Cr (Qb (Qb Qz)) Cn)))))) call252 (fun q _ => (wu K G Z D g I a B N y i J c t M j a0 (⟨a2.ib, Q.iv⟩ : gH) Q.Head _ _ q U T a3 Y H c2)) ?_)
  rintro _ g5 g8 f8 d f2 ab m ⟨d3, e8, d4, a9, rfl, c6, c7⟩
  obtain rfl := a9.symm
  replace d := d.perm (Tb (Tr (Tr (Tr (Tr (Tr Tn))))))
  refine ig (iJ (pQ ?_))
  obtain rfl := sj hm
  exact ot rfl ⟨_, _, rfl, (d.ox (Kb (Kr (Kr (Kr (Kr (Kr Sn))))))), d3, e8, d4, rfl, rfl, c6, c7⟩
 refine sg (Wi rfl (Wa (ln (CI hm rfl (fun c0 hm => ?_) (fun c0 hm => ?_)))))
 ·refine hX ?_
  replace d := d.drew
  have h := d.has.gL (Kb (Kb (Kb (Kr Sn))))
  refine iR h iA (X 0 rfl h (gW rfl) (X 1 rfl h (jB rfl) (X 2 rfl h (gQ rM rfl) (XH 3 rfl h (fun _ l => gM rfl (ia l (Mt (Mt Mh)) rfl fE)) (X 4 rfl h (gQ jm rfl) (XH 5 rfl h (fun _ l => gM rfl (gY l (Mt Mh) (gK Q.B) rfl az ah)) ?_))))))
  obtain ⟨f6, a5⟩ := U
  refine XH 6 rfl h (fun _ l => lN (k := Q.B) (z := (.map none)) pf dx ed rfl rfl a5 (fun b o n => l.2 b o (Mt (Mt (Mt (Ml n)))))) (X 7 rfl h (gQ pv rfl) (XH 8 rfl h (fun _ l => gM rfl (ia l Mh rfl aI)) (XH 9 rfl h (fun _ l => nR (k := a2.ib) (z := false) (vf := (fun (x : Bool) => (Value.bool x))) zT eu fF rfl rfl (jv.xk (μ := hp _) gP.1 a5 Q.B (fun b o n => l.2 b o (Mt (Mt (Mt (Ml n))))))) (X 10 rfl h (gW rfl) (PJ hm (fun R E W => ∃ P, ST false (keys ((K, Obj.cells s 174 (0, 0)) :: (D ++ (a ++ (y ++ (c ++ (j ++ []))))))) w W μ0 ((O, Ol (gS a2) 38) :: ((A, Ol (gJ Q) 108) :: ((K, Obj.cells s 174 (0, 0)) :: (D ++ (a ++ (y ++ (c ++ (j ++ P)))))))) ∧ E 0 = (.pointer (some ⟨K, 0, none⟩)) ∧ E 4 = (.pointer (some ⟨A, 0, none⟩)) ∧ E 5 = (.pointer (some ⟨O, 0, none⟩)) ∧ E 50 = (.bool R)) (bm 22 4194303) 0 ?_ (fun R p L => ?_))))))
  ·rintro g7 E W ⟨P, d, e0, e1, e2, e3⟩ a4
   refine jd kr (gV (CI a4 e3 (fun c1 a4 => ?_) (fun c1 a4 => ?_)))
   ·refine gZ (Wh e0 (V (gQ kX e1) (VA d (Mt Mh) (gK Q.Head) az ah (V (gQ pv e2) (VB d Mh rfl rfl aI (bS a4 fun g3 c3 a4 => ?_))))))
    refine VE (eM d (Cb (Pb (Pb Pz)) (Cr (Qb (Qb Qz)) (Cr (Qb (Qb Qz)) (Cr (Qb (Qb Qz)) (Cr (Qb (Qb Qz)) (Cr (Qb (Qb Qz)) Cn)))))) call209 (fun q _ => iF.jH (mE K G Z D g I a B N y i J c t M j a0 Q.Head a2.ib _ _ q a5.e T a3 Y H c3)) ?_)
    rintro _ g6 g9 f9 d f3 ad m ⟨d6, e9, d7, b0, rfl, c8, c9⟩
    obtain rfl := b0.symm
    replace d := d.perm (Tb (Tr (Tr (Tr (Tr (Tr Tn))))))
    refine ig (iJ (pQ ?_))
    obtain rfl := sj a4
    exact ot rfl ⟨_, _, rfl, (d.ox (Kb (Kr (Kr (Kr (Kr (Kr Sn))))))), d6, e9, d7, rfl, rfl, c8, c9⟩
   refine iO (iJ (pQ ?_))
   obtain rfl := sj a4
   exact ot rfl ⟨_, _, rfl, (d.ox (Db (Db (Kb (Kr (Kr (Kr (Kr (Kr Sn))))))))), D, t, j, rfl, rfl, a5.e, H⟩
  refine bC p (fun u p => ?_) (fun u p => ?_)
  ·refine Xg 11 rfl rfl (cB u) h (gW rfl) (Xg 12 rfl rfl (cB u) h (jB rfl) (Xg 13 rfl rfl (cB u) h (gQ rM rfl) (qZ 14 rfl rfl (cB u) h (fun _ l => gM rfl (ia l (Mt (Mt Mh)) rfl fE)) (Xg 15 rfl rfl (cB u) h (gQ lz rfl) (qZ 16 rfl rfl (cB u) h (fun _ l => gM rfl (gY l (Mt Mh) (gK Q.C) rfl az ah)) (qZ 17 rfl rfl (cB u) h (fun _ l => lN (k := Q.C) (z := (.map none)) pf dx ed rfl rfl a5 (fun b o n => l.2 b o (Mt (Mt (Mt (Ml n)))))) (Xg 18 rfl rfl (cB u) h (gQ pv rfl) (qZ 19 rfl rfl (cB u) h (fun _ l => gM rfl (ia l Mh rfl aI)) (qZ 20 rfl rfl (cB u) h (fun _ l => nR (k := a2.ib) (z := false) (vf := (fun (x : Bool) => (Value.bool x))) zT eu fF rfl rfl (jv.xk (μ := hp _) gP.1 a5 Q.C (fun b o n => l.2 b o (Mt (Mt (Mt (Ml n))))))) (X 21 rfl h (ie (cB u) rfl) ?_))))))))))
   obtain rfl := sj p
   refine jU kr (L _ _ ⟨_, (d.gL St), rfl, rfl, rfl, rfl⟩)
  refine Xn 11 rfl rfl (cB u) h (Xn 12 rfl rfl (cB u) h (Xn 13 rfl rfl (cB u) h (Xn 14 rfl rfl (cB u) h (Xn 15 rfl rfl (cB u) h (Xn 16 rfl rfl (cB u) h (Xn 17 rfl rfl (cB u) h (Xn 18 rfl rfl (cB u) h (Xn 19 rfl rfl (cB u) h (Xn 20 rfl rfl (cB u) h (X 21 rfl h (ic (cB u) rfl) ?_))))))))))
  obtain rfl := sj p
  refine jU kr (L _ _ ⟨_, (d.gL St), rfl, rfl, rfl, rfl⟩)
 refine iO (iJ (pQ ?_))
 obtain rfl := sj hm
 exact ot rfl ⟨_, _, rfl, (d.ox (Db (Db (Kb (Kr (Kr (Kr (Kr (Kr Sn))))))))), D, t, j, rfl, rfl, U, H⟩
theorem u7 (K : Nat) (g : Value) (T : List (gH × (List (ByteArray × Bool)))) (D : LO) (a : Value) (G : List gG) (j : LO) (t : Value) (J : List (gH × (List gG))) (u : LO) (c : Value) (H : List (ByteArray × (List gG))) (k : LO) (z : Value) (M : List gI) (B : LO) (a0 : Int) (Z : gG) (r : ((List (gH × (List (ByteArray × Bool)))) × (List gI) × Int)) (w : World) {μ0 : iq} (h0 : qn μ0 ((K, Ob #[g, a, t, c, z, (.int .i64 a0)] 174) :: (D ++ (j ++ (u ++ (k ++ (B ++ [])))))) w) (a2 : ja (fun (x : gH) => (.agg (gK x).toArray)) (ir Value.string (fun (x : Bool) => (Value.bool x))) g T D) (N : hZ 108 gJ 9 a G j) (Y : ja (fun (x : gH) => (.agg (gK x).toArray)) (hZ 108 gJ 9) t J u) (Q : ja Value.string (hZ 108 gJ 9) c H k) (U : lW 38 gS 3 z M B) (hm : nA T G J H M a0 Z = some r) :
  iF false pg0 172 [(.pointer (some ⟨K, 0, none⟩)), (.agg (gJ Z).toArray)] w ((K, Ob #[g, a, t, c, z, (.int .i64 a0)] 174) :: (D ++ (j ++ (u ++ (k ++ (B ++ [])))))) (fun v L1 W' => ∃ S1 y3 S4, v = (.tuple #[]) ∧ L1 = ((K, Ob #[g, a, t, c, y3, (.int .i64 (r.2.2))] 174) :: (S1 ++ (j ++ (u ++ (k ++ (S4 ++ [])))))) ∧ ja (fun (x : gH) => (.agg (gK x).toArray)) (ir Value.string (fun (x : Bool) => (Value.bool x))) g r.1 S1 ∧ lW 38 gS 3 y3 r.2.1 S4) := by
 refine tj h0 33 func172 rfl (fun d => sg (VE (iU d rfl (fun W2 b1 d => lr (Wf kP (VB d Mh rfl rfl bV (ln (bg ?_))))))))
 refine Wi rfl (Wa (ln (CI hm rfl (fun f0 hm => ?_) (fun f0 hm => ?_))))
 ·refine gZ (Wm (Wf kX (VA d Mh (gK Z.Head) az ah (Wf nw (VB d Mh rfl rfl aI (bS hm fun r4 f1 hm => ?_))))))
  refine VE (eM d (Cb (Pb Pz) (Cr (Qb Qz) (Cr (Qb Qz) (Cr (Qb Qz) (Cr (Qb Qz) (Cr (Qb Qz) Cn)))))) call209 (fun hh _ => iF.jH (mE K g T D a G j t J u c H k z M B a0 Z.Head Z.ib _ _ hh a2 N Y Q U f1)) ?_)
  rintro _ g7 ao g5 d g1 af m ⟨e6, f3, e7, c1, rfl, d9, e0⟩
  obtain rfl := c1.symm
  replace d := d.perm (Tb (Tr (Tr (Tr (Tr (Tr Tn))))))
  refine ig (iJ (pQ ?_))
  obtain rfl := sj hm
  exact ot rfl ⟨_, _, rfl, (d.ox (Kb (Kr (Kr (Kr (Kr (Kr Sn))))))), e6, f3, e7, rfl, rfl, d9, e0⟩
 refine sg (Wm (Wf jm (VA d Mh (gK Z.B) az ah (bS hm fun c5 d8 hm => VE (nt d call53 (pn K g T a G t J c H z M a0 Z.B _ _ (a2.at (fun b o l => d.at_ (Mt (Mt (Ml l))))) (N.sl iN (fun b o l => d.at_ (Mt (Mt (Ma (Ml l)))))) (Y.at (fun b o l => d.at_ (Mt (Mt (Ma (Ma (Ml l))))))) (Q.at (fun b o l => d.at_ (Mt (Mt (Ma (Ma (Ma (Ml l)))))))) ((U.xd kO).mono (Pl.mono _) (rH (fun b o l => d.at_ (Mt (Mt (Ma (Ma (Ma (Ma (Ml l)))))))))) (At.of (d.at_ (Mt Mh)) _ rfl) d8) (fun g6 f2 d4 e4 d f5 ad L => V (jf aO rfl L) (Wm (ln (pt (iZ (fun i E W => ∃ n a3 a5 q a4 a9 O b8, (E 13 = .int .i64 (i : Nat) ∧ E 12 = .int .i64 (c5.length : Nat)) ∧ iH d4 O ∧ ST false (keys ((K, Ob #[g, a, t, c, z, (.int .i64 a0)] 174) :: (D ++ (j ++ (u ++ (k ++ (B ++ []))))))) w W O ((K, Ob #[g, a, t, c, a5, (.int .i64 a9)] 174) :: ((b1, Ol (gJ Z) 108) :: (a3 ++ (j ++ (u ++ (k ++ (a4 ++ (e4 ++ b8)))))))) ∧ E 0 = (.pointer (some ⟨K, 0, none⟩)) ∧ E 3 = (.pointer (some ⟨b1, 0, none⟩)) ∧ E 11 = f2 ∧ ja (fun (x : gH) => (.agg (gK x).toArray)) (ir Value.string (fun (x : Bool) => (Value.bool x))) g n a3 ∧ lW 38 gS 3 a5 q a4 ∧ lc G J H Z (c5.drop i) n q a9 = some r) c5.length L.len ⟨T, D, z, M, B, a0, d4, _, ⟨rfl, rfl⟩, (iH.refl _), (d.gL (Sb (Pr (Pb Pz)) (Sb (Pr Pz) (Sr (Qr Qz) (Sr (Qr Qz) (Sr (Qr Qz) (Sr (Qr Qz) (Sr (Qr Qz) St)))))))), rfl, rfl, rfl, a2, U, hm⟩ dc dc dc (fun _ _ _ h => by obtain ⟨_, _, _, _, _, _, _, _, a1, _⟩ := h; exact a1) ?_ ?_))))))))))
 ·rintro e1 E W c7 ⟨n, a3, a5, q, a4, a9, O, b8, ⟨eI, eN⟩, b7, d, b9, A, c0, P, R, I⟩
  obtain ⟨s, f6, d0, c3, d1⟩ := iP c7
  rw [d0] at I
  refine bg (VQ (jo (i := (e1 : Int)) (x0 := s) aO cy c0 eI L (aw _) c3) (fun g2 c8 => V (gM rfl (rr d.has (fun p l => (Mt (Mt (Ma (Ma (Ma (Ma (Ma (Ml l))))))))) L (fun _ => rfl) c8 c3 (y := (.string s)) rfl aI)) (Wa (ln (gZ (Wh b9 (V (gM A (gY d.has (Mt Mh) (gJ Z) rfl aM ae)) (V (gQ jm A) (VA d (Mt Mh) (gK Z.B) az ah (Wm (V (kW (v := (.agg (gS (⟨Z.B, s⟩ : gI)).toArray)) (nI rfl rfl) (jQ cu bu (xQ _ bu) kr)) ?_)))))))))))
  refine bS I fun c2 c9 I => ?_
  refine VE (eM d (Cb Pz (Cr (Qb Qz) (Cr (Qb Qz) (Cr (Qb Qz) (Cr (Qb Qz) (Cr (Qb Qz) Cn)))))) call210 (fun hh _ => (si K g n a3 a G j t J u c H k a5 q a4 a9 Z (⟨Z.B, s⟩ : gI) _ _ hh P N Y Q R c9)) ?_)
  rintro _ g3 e3 f8 d c4 ab m ⟨d5, e2, d6, b5, rfl, d2, d3⟩
  obtain rfl := b5.symm
  replace d := d.perm (Tb (Tr (Tr (Tr (Tr (Tr Tn))))))
  exact ig (iJ (gV ⟨eI, c2.1, d5, e2, c2.2.1, d6, c2.2.2, e3, _, ⟨rfl, eN⟩, (b7.trans c4), (d.gL (Kb (Sb (Pr (Pr (Pr (Pr (Pr Pz))))) St))), b9, A, c0, d2, d3, (by rw [d1]; exact I)⟩))
 rintro E W ⟨n, a3, a5, q, a4, a9, O, b8, ⟨eI, eN⟩, b7, d, b9, A, c0, P, R, I⟩
 rw [aB] at I
 refine gV ?_
 replace d := d.gL (Kb (Db (Kr (Kr (Kr (Kr (Kr (Dr St))))))))
 refine iJ (pQ ?_)
 obtain rfl := sj I
 exact ot rfl ⟨_, _, rfl, (d.ox (Kb (Kr (Kr (Kr (Kr (Kr Sn))))))), a3, a5, a4, rfl, rfl, P, R⟩
theorem uV (I : Nat) (a : Value) (e7 : List (gH × (List (ByteArray × Bool)))) (K : LO) (c : Value) (Q : List gG) (j : LO) (u : Value) (N : List (gH × (List gG))) (y : LO) (g : Value) (H : List (ByteArray × (List gG))) (t : LO) (G : Value) (d3 : List gI) (D : LO) (a0 : Int) (r : ((List (gH × (List (ByteArray × Bool)))) × (List gI) × Int)) (w : World) {μ0 : iq} (h0 : qn μ0 ((I, Ob #[a, c, u, g, G, (.int .i64 a0)] 174) :: (K ++ (j ++ (y ++ (t ++ (D ++ [])))))) w) (h1 : ja (fun (x : gH) => (.agg (gK x).toArray)) (ir Value.string (fun (x : Bool) => (Value.bool x))) a e7 K) (c0 : hZ 108 gJ 9 c Q j) (g4 : ja (fun (x : gH) => (.agg (gK x).toArray)) (hZ 108 gJ 9) u N y) (c1 : ja Value.string (hZ 108 gJ 9) g H t) (g3 : lW 38 gS 3 G d3 D) (hm : oU e7 Q N H d3 a0 = some r) :
  iF false pg0 173 [(.pointer (some ⟨I, 0, none⟩))] w ((I, Ob #[a, c, u, g, G, (.int .i64 a0)] 174) :: (K ++ (j ++ (y ++ (t ++ (D ++ [])))))) (fun v L1 W' => ∃ S1 y3 S4, v = (.tuple #[]) ∧ L1 = ((I, Ob #[a, c, u, g, y3, (.int .i64 (r.2.2))] 174) :: (S1 ++ (j ++ (y ++ (t ++ (S4 ++ [])))))) ∧ ja (fun (x : gH) => (.agg (gK x).toArray)) (ir Value.string (fun (x : Bool) => (Value.bool x))) a r.1 S1 ∧ lW 38 gS 3 y3 r.2.1 S4) := by
 let i3 : Value := (.pointer (some ⟨I, 0, none⟩))
 let i2 := ((I, Ob #[a, c, u, g, G, (.int .i64 a0)] 174) :: (K ++ (j ++ (y ++ (t ++ (D ++ []))))))
 refine tj h0 75 func173 rfl (fun d => pt (jy (mo (fun m E W => ∃ e2 b7 e3 a1 b8 d0 b4 h2, iH μ0 b4 ∧ ST false (keys i2) w W b4 ((I, Ob #[a, c, u, g, e3, (.int .i64 d0)] 174) :: (b7 ++ (j ++ (y ++ (t ++ (b8 ++ h2)))))) ∧ E 0 = i3 ∧ ja (fun (x : gH) => (.agg (gK x).toArray)) (ir Value.string (fun (x : Bool) => (Value.bool x))) a e2 b7 ∧ lW 38 gS 3 e3 a1 b8 ∧ jA Q N H m e2 a1 d0 = some r) jq ⟨e7, K, G, d3, D, a0, μ0, _, (iH.refl _), (d.gL St), rfl, h1, g3, hm⟩ ?_)))
 rintro m E W ⟨e2, b7, e3, a1, b8, d0, b4, h2, h7, d, L, g6, c4, M⟩
 cases m with
 | zero => rw [jA] at M; cases M
 | succ m7 =>
  refine hX (sg (Wh L (Wn (Wf tD (VB d Mh rfl rfl isAgg120 (V (Ff bp rfl c4) (Wi rfl (ln (CI M rfl (fun i4 M => ?_) (fun i4 M => ?_))))))))))
  ·refine kn (bg (Wh L (Wn (Wf tD (VB d Mh rfl rfl isAgg120 (bS M fun B g8 M => VQ (jK (enc := gS) (i := 0) (x0 := B) bp aX rfl rfl (c4.xd kO) (jP g8) (jk g8)) (fun p7 j4 => V (gM rfl (kq (nr.hp _) (j4.mono (rH (fun b o p => d.has.2 b o (Mt (Ma (Ma (Ma (Ma (Ml p))))))))) cz aX)) (VE (jc d cu (fun o6 a5 d => VO (iw (.agg (gS B).toArray) ((gS B).toArray) d rfl rfl aX (rJ B) nb rfl (fun o7 d => ig ?_))))))))))))
   let n6 := ((ij gO N B.gH).getD [])
   let n5 : Value := (.pointer (some ⟨a5, 0, none⟩))
   let n4 := ((gS B).toArray : Array Value)
   let j2 := ((ij iB H B.gH.iz).getD [])
   refine gV (sg (Wh L (Wh L (Wn (Wf tD (VB d (Mt Mh) rfl rfl isAgg120 (bS M fun _ g5 M => VQ (Dn (i := 1) bp aX rfl rfl kO c4 (pb g5) (oZ g5)) (fun q0 g7 => Wn (Wf tD ?_)))))))))
   obtain ⟨f6, f9, rfl⟩ := g7.form
   let j1 : Value := (.slice f6 (a1.drop (Int.toNat 1)).length f9)
   replace d := d.perm (Nb (Pb Pz) Nz)
   refine VO (iw j1 (#[a, c, u, g, j1, (.int .i64 d0)]) d rfl rfl sizeOf120 oc nb rfl (fun o8 d => ln (hX (hX ?_))))
   replace d := d.drew
   have l := d.has.gL (Kb (Kb (Dr (Dr (Kr Sn)))))
   refine iR l iA (X 0 rfl l (gW L) (X 1 rfl l (jB rfl) (X 2 rfl l (gQ CA rfl) (XH 3 rfl l (fun _ n => gM rfl (ia n Mh rfl isAgg171)) (X 4 rfl l (gQ tW rfl) (XH 5 rfl l (fun _ n => gM rfl (gY n (Mt Mh) (gK B.gH) rfl az ah)) ?_))))))
   obtain ⟨l4, c2⟩ := g4
   obtain ⟨o4, e9, j9⟩ := jv.rowAt gP.1 c2 B.gH
   refine XH 6 rfl l (fun _ n => lN (k := B.gH) (z := (.slice none 0 0)) pf underlying171 gE rfl rfl c2 (fun b o p => n.2 b o (Mt (Mt (Ml p))))) (X 7 rfl l (lV ap rfl (e9.xd iN)) (X 8 rfl l (gW rfl) (jd kr (gV (CJ M (fun c9 E W => ∃ d5 e4 d6 b5 h3, iH b4 b5 ∧ ST false (keys i2) w W b5 ((I, Ob #[a, c, u, g, e4, (.int .i64 c9.2.2)] 174) :: ((a5, Obj.cells n4 38 (0, 0)) :: (d5 ++ (j ++ (y ++ (t ++ (d6 ++ h3))))))) ∧ E 0 = i3 ∧ E 2 = n5 ∧ ja (fun (x : gH) => (.agg (gK x).toArray)) (ir Value.string (fun (x : Bool) => (Value.bool x))) a c9.1 d5 ∧ lW 38 gS 3 e4 c9.2.1 d6) (fun c9 j3 => ?_) ?_)))))
   ·refine iZ (fun i E W => ∃ c6 a3 R c7 a4 d1 d2 f8, (E 35 = .int .i64 (i : Nat) ∧ E 34 = .int .i64 (n6.length : Nat)) ∧ iH b4 d2 ∧ ST false (keys i2) w W d2 ((I, Ob #[a, c, u, g, R, (.int .i64 d1)] 174) :: ((a5, Obj.cells n4 38 (0, 0)) :: (a3 ++ (j ++ (y ++ (t ++ (a4 ++ f8))))))) ∧ E 0 = i3 ∧ E 2 = n5 ∧ E 33 = (mM gO l4 B.gH (.slice none 0 0)) ∧ ja (fun (x : gH) => (.agg (gK x).toArray)) (ir Value.string (fun (x : Bool) => (Value.bool x))) a c6 a3 ∧ lW 38 gS 3 R c7 a4 ∧ kV Q N H B (n6.drop i) c6 c7 d1 = some c9) n6.length (e9.xd iN).len ⟨e2, b7, j1, (a1.drop (Int.toNat 1)), b8, d0, b4, _, ⟨rfl, rfl⟩, (iH.refl _), (d.gL St), L, rfl, rfl, g6, g7, j3⟩ dc dc dc (fun _ _ _ h => by obtain ⟨_, _, _, _, _, _, _, _, s, _⟩ := h; exact s) ?_ ?_
    ·rintro m2 E W i7 ⟨c6, a3, R, c7, a4, d1, d2, f8, ⟨q, eN⟩, d4, d, e0, e1, g0, f2, f3, T⟩
     obtain ⟨b3, o0, k8, k7, k9⟩ := iP i7
     rw [k8] at T
     refine bg (VQ (jK (enc := gJ) (i := (m2 : Int)) (x0 := b3) ap ae g0 q (e9.xd iN) (aw _) k7) (fun p9 j6 => V (gM rfl (kq (nr.hp _) (j6.mono (rH (fun b o p => d.has.2 b o (Mt (Mt (Ma (Ma (Ml (j9 b o p))))))))) aM ae)) (VE (jc d aZ (fun p2 p6 d => VO (iw (.agg (gJ b3).toArray) ((gJ b3).toArray) d rfl rfl ae (jY b3) nb rfl (fun p3 d => ln (gZ (Wh e0 (VA d Mh (gJ b3) aM ae (V (gM e1 (gY d.has (Mt (Mt Mh)) (gS B) rfl cz aX)) (bS T fun g2 j8 T => ?_))))))))))))
     refine VE (eM d (Cb (Pb Pz) (Cr (Qb (Qb Qz)) (Cr (Qb (Qb Qz)) (Cr (Qb (Qb Qz)) (Cr (Qb (Qb Qz)) (Cr (Qb (Qb Qz)) Cn)))))) call210 (fun hh _ => (si I a c6 a3 c Q j u N y g H t R c7 a4 d1 b3 B _ _ hh f2 c0 c2.e c1 f3 j8)) ?_)
     rintro _ q2 n3 o3 d i1 ad A ⟨l8, n1, l9, f5, rfl, l2, l3⟩
     obtain rfl := f5.symm
     replace d := d.perm (Tb (Tr (Tr (Tr (Tr (Tr Tn))))))
     refine ig (iJ (gV ?_))
     replace d := d.gL (Kb (Kr (Kr (Kr (Kr (Kr (Db St)))))))
     exact ⟨q, g2.1, l8, n1, g2.2.1, l9, g2.2.2, n3, _, ⟨rfl, eN⟩, (d4.trans i1), (d.gL (Kb (Sb (Pr (Pr (Pr (Pr (Pr Pz))))) St))), e0, e1, g0, l2, l3, (by rw [k9]; exact T)⟩
    rintro E W ⟨c6, a3, R, c7, a4, d1, d2, f8, ⟨q, eN⟩, d4, d, e0, e1, g0, f2, f3, T⟩
    rw [aB] at T
    refine gV ?_
    obtain rfl := sj T
    exact ⟨a3, R, a4, d2, _, d4, (d.gL St), e0, e1, f2, f3⟩
   rintro ⟨m3, m4, m8⟩ E W ⟨d5, e4, d6, b5, h3, h8, d, h5, h6, k0, k1⟩ i8
   refine hX ?_
   replace d := d.drew
   have l := d.has.gL (Kb (Kb (Dr (Dr (Dr (Kr Sn))))))
   refine iR l iA (X 0 rfl l (gW h5) (X 1 rfl l (jB rfl) (X 2 rfl l (gQ zl rfl) (XH 3 rfl l (fun _ n => gM rfl (ia n Mh rfl isAgg172)) (X 4 rfl l (gQ tW h6) (X 5 rfl l (gQ pw rfl) (XH 6 rfl l (fun _ n => gM rfl (ia n (Mt Mh) rfl aI)) ?_)))))))
   obtain ⟨l5, e8⟩ := c1
   obtain ⟨o5, f0, k2⟩ := jv.rowAt iX.1 e8 B.gH.iz
   refine XH 7 rfl l (fun _ n => lN (k := B.gH.iz) (z := (.slice none 0 0)) zT underlying172 gE rfl rfl e8 (fun b o p => n.2 b o (Mt (Mt (Ml p))))) (X 8 rfl l (lV ap rfl (f0.xd iN)) (X 9 rfl l (gW rfl) (jd kr (gV (pt (CJ i8 (fun c8 E W => ∃ d7 e5 d8 e6 h4, iH b5 e6 ∧ ST false (keys i2) w W e6 ((I, Ob #[a, c, u, g, e5, (.int .i64 c8.2.2)] 174) :: (d7 ++ (j ++ (y ++ (t ++ (d8 ++ h4)))))) ∧ E 0 = i3 ∧ ja (fun (x : gH) => (.agg (gK x).toArray)) (ir Value.string (fun (x : Bool) => (Value.bool x))) a c8.1 d7 ∧ lW 38 gS 3 e5 c8.2.1 d8) (fun c8 j0 => ?_) ?_))))))
   ·refine iZ (fun i E W => ∃ a9 Y a2 P Z b2 b6 f7, (E 53 = .int .i64 (i : Nat) ∧ E 52 = .int .i64 (j2.length : Nat)) ∧ iH b5 b6 ∧ ST false (keys i2) w W b6 ((I, Ob #[a, c, u, g, a2, (.int .i64 b2)] 174) :: ((a5, Obj.cells n4 38 (0, 0)) :: (Y ++ (j ++ (y ++ (t ++ (Z ++ f7))))))) ∧ E 0 = i3 ∧ E 2 = n5 ∧ E 51 = (mM iB l5 B.gH.iz (.slice none 0 0)) ∧ ja (fun (x : gH) => (.agg (gK x).toArray)) (ir Value.string (fun (x : Bool) => (Value.bool x))) a a9 Y ∧ lW 38 gS 3 a2 P Z ∧ kk B Q N H (j2.drop i) a9 P b2 = some c8) j2.length (f0.xd iN).len ⟨m3, d5, e4, m4, d6, m8, b5, _, ⟨rfl, rfl⟩, (iH.refl _), (d.gL St), h5, h6, rfl, k0, k1, j0⟩ dc dc dc (fun _ _ _ h => by obtain ⟨_, _, _, _, _, _, _, _, s, _⟩ := h; exact s) ?_ ?_
    ·rintro m1 E W i6 ⟨a9, Y, a2, P, Z, b2, b6, f7, ⟨q, eN⟩, a8, d, O, b9, d9, f1, c5, J⟩
     obtain ⟨U, n9, k6, k5, g9⟩ := iP i6
     rw [k6] at J
     refine bg (VQ (jK (enc := gJ) (i := (m1 : Int)) (x0 := U) ap ae d9 q (f0.xd iN) (aw _) k5) (fun p8 j5 => V (gM rfl (kq (nr.hp _) (j5.mono (rH (fun b o p => d.has.2 b o (Mt (Mt (Ma (Ma (Ma (Ml (k2 b o p)))))))))) aM ae)) (VE (jc d aZ (fun o9 p5 d => VO (iw (.agg (gJ U).toArray) ((gJ U).toArray) d rfl rfl ae (jY U) nb rfl (fun p0 d => ln (hX ?_))))))))
     replace d := d.drew
     have l := d.has.gL (Kb (Kb (Kb (Kr Sn))))
     refine iR l iA (X 0 rfl l (gW O) (X 1 rfl l (jB rfl) (X 2 rfl l (gQ rM rfl) (XH 3 rfl l (fun _ n => gM rfl (ia n (Mt Mh) rfl fE)) (X 4 rfl l (gQ jm rfl) (XH 5 rfl l (fun _ n => gM rfl (gY n Mh (gK U.B) rfl az ah)) ?_))))))
     obtain ⟨n7, c3⟩ := f1
     refine XH 6 rfl l (fun _ n => lN (k := U.B) (z := (.map none)) pf dx ed rfl rfl c3 (fun b o p => n.2 b o (Mt (Mt (Mt (Ml p)))))) (X 7 rfl l (gQ tW b9) (X 8 rfl l (gQ kJ rfl) (XH 9 rfl l (fun _ n => gM rfl (ia n (Mt (Mt Mh)) rfl aI)) (XH 10 rfl l (fun _ n => nR (k := B.gH.gU) (z := false) (vf := (fun (x : Bool) => (Value.bool x))) zT eu fF rfl rfl (jv.xk (μ := hp _) gP.1 c3 U.B (fun b o p => n.2 b o (Mt (Mt (Mt (Ml p))))))) (jd kr (gV (CI J rfl (fun i5 J => ?_) (fun i5 J => ?_))))))))
     ·refine gZ (Wh O (Wf kX (VA d Mh (gK U.Head) az ah (V (gQ pv b9) (VB d (Mt (Mt Mh)) rfl rfl aI (bS J fun g1 j7 J => ?_))))))
      refine VE (eM d (Cb (Pb Pz) (Cr (Qb (Qb Qz)) (Cr (Qb (Qb Qz)) (Cr (Qb (Qb Qz)) (Cr (Qb (Qb Qz)) (Cr (Qb (Qb Qz)) Cn)))))) call209 (fun hh _ => iF.jH (mE I a a9 Y c Q j u N y g H t a2 P Z b2 U.Head B.ib _ _ hh c3.e c0 c2.e e8.e c5 j7)) ?_)
      rintro _ q1 n2 o2 d i0 ab A ⟨l6, n0, l7, f4, rfl, l0, l1⟩
      obtain rfl := f4.symm
      replace d := d.perm (Tb (Tr (Tr (Tr (Tr (Tr Tn))))))
      refine ig (iJ (gV ?_))
      replace d := d.gL (Kb (Kr (Kr (Kr (Kr (Kr (Db St)))))))
      exact ⟨q, g1.1, l6, n0, g1.2.1, l7, g1.2.2, n2, _, ⟨rfl, eN⟩, (a8.trans i0), (d.gL (Kb (Sb (Pr (Pr (Pr (Pr (Pr Pz))))) St))), O, b9, d9, l0, l1, (by rw [g9]; exact J)⟩
     refine iO (iJ (gV ?_))
     replace d := d.gL (Db St)
     exact ⟨q, a9, Y, a2, P, Z, b2, b6, _, ⟨rfl, eN⟩, a8, (d.gL St), O, b9, d9, c3.e, c5, (by rw [g9]; exact J)⟩
    rintro E W ⟨a9, Y, a2, P, Z, b2, b6, f7, ⟨q, eN⟩, a8, d, O, b9, d9, f1, c5, J⟩
    rw [aB] at J
    refine gV ?_
    obtain rfl := sj J
    exact ⟨Y, a2, Z, b6, _, a8, (d.gL (Kb (Db St))), O, f1, c5⟩
   rintro ⟨m5, m6, m9⟩ E W ⟨d7, e5, d8, e6, h4, h9, d, m0, k3, k4⟩ i9
   exact iJ (gV ⟨m7, bq _, m5, d7, e5, m6, d8, m9, e6, _, ((h7.trans h8).trans h9), (d.gL St), m0, k3, k4, i9⟩)
  refine mH (mc (mc (qV (gV (pQ ?_)))))
  obtain rfl := sj M
  exact ot rfl ⟨_, _, rfl, (d.ox (Kb (Kr (Kr (Kr (Kr (Kr Sn))))))), b7, e3, b8, rfl, rfl, g6, c4⟩
theorem wv (H : Nat) (g : Value) (c1 : List (gH × (List (ByteArray × Bool)))) (G : LO) (u : Value) (a7 : List gG) (k : LO) (c : Value) (b7 : List (gH × (List gG))) (z : LO) (a : Value) (a8 : List (ByteArray × (List gG))) (t : LO) (B : Value) (b6 : List gI) (y : LO) (K : Int) (d0 : Value) (p : List gG) (r : (Int × (List (gH × (List (ByteArray × Bool)))) × (List gG) × (List (gH × (List gG))) × (List (ByteArray × (List gG))) × (List gI) × Int)) (w : World) {μ0 : iq} (h0 : qn μ0 ((H, Ob #[g, u, c, a, B, (.int .i64 K)] 174) :: (G ++ (k ++ (z ++ (t ++ (y ++ [])))))) w) (d5 : ja (fun (x : gH) => (.agg (gK x).toArray)) (ir Value.string (fun (x : Bool) => (Value.bool x))) g c1 G) (c5 : hZ 108 gJ 9 u a7 k) (d2 : ja (fun (x : gH) => (.agg (gK x).toArray)) (hZ 108 gJ 9) c b7 z) (c6 : ja Value.string (hZ 108 gJ 9) a a8 t) (d1 : lW 38 gS 3 B b6 y) (d6 : Sl (Pl gJ) 9 μ0 d0 p) (hm : oA c1 a7 b7 a8 b6 K p = some r) :
  iF false pg0 109 [(.pointer (some ⟨H, 0, none⟩)), d0] w ((H, Ob #[g, u, c, a, B, (.int .i64 K)] 174) :: (G ++ (k ++ (z ++ (t ++ (y ++ [])))))) (fun v L1 W' => ∃ S1 y3 S4 S6 S8 h8 h7, v = (.int .i64 (r.1)) ∧ L1 = ((H, Ob #[g, y3, c, a, h8, (.int .i64 (r.2.2.2.2.2.2))] 174) :: (S1 ++ (S4 ++ (S6 ++ (S8 ++ (h7 ++ [])))))) ∧ ja (fun (x : gH) => (.agg (gK x).toArray)) (ir Value.string (fun (x : Bool) => (Value.bool x))) g r.2.1 S1 ∧ hZ 108 gJ 9 y3 r.2.2.1 S4 ∧ ja (fun (x : gH) => (.agg (gK x).toArray)) (hZ 108 gJ 9) c r.2.2.2.1 S6 ∧ ja Value.string (hZ 108 gJ 9) a r.2.2.2.2.1 S8 ∧ lW 38 gS 3 h8 r.2.2.2.2.2.1 h7) := by
 let e2 := ((H, Ob #[g, u, c, a, B, (.int .i64 K)] 174) :: (G ++ (k ++ (z ++ (t ++ (y ++ []))))))
 refine tj h0 46 func109 rfl (fun d => sg (Wa (lS (Wm (V (sb underlying101 rfl rfl) (ln (mr rfl (iO ?_))))))))
 refine gV (sg (Wm (Wn (Wf xo (VB d Mh rfl rfl bV (Wa (lS (Wm (V (lV ap rfl d6) ?_)))))))))
 refine Wm (ln (iZ (fun i E W => ∃ a3 N M a4 Q a9 T n U a0 a5 Y a2 L d4, (E 16 = .int .i64 (i : Nat) ∧ E 15 = .int .i64 (p.length : Nat)) ∧ iH μ0 L ∧ ST false (keys e2) w W L ((H, Ob #[g, M, c, a, a0, (.int .i64 a2)] 174) :: (N ++ (Q ++ (T ++ (U ++ (Y ++ d4)))))) ∧ E 0 = (.pointer (some ⟨H, 0, none⟩)) ∧ E 5 = (.int .i64 K) ∧ E 14 = d0 ∧ ja (fun (x : gH) => (.agg (gK x).toArray)) (ir Value.string (fun (x : Bool) => (Value.bool x))) g a3 N ∧ hZ 108 gJ 9 M a4 Q ∧ ja (fun (x : gH) => (.agg (gK x).toArray)) (hZ 108 gJ 9) c a9 T ∧ ja Value.string (hZ 108 gJ 9) a n U ∧ lW 38 gS 3 a0 a5 Y ∧ ki K (p.drop i) a3 a4 a9 n a5 a2 = some r) p.length d6.len ⟨c1, G, u, a7, k, b7, z, a8, t, B, b6, y, K, μ0, _, ⟨rfl, rfl⟩, (iH.refl _), (d.gL St), rfl, rfl, rfl, d5, c5, d2, c6, d1, hm⟩ dc dc dc (fun _ _ _ h => by obtain ⟨_, _, _, _, _, _, _, _, _, _, _, _, _, _, _, ab, _⟩ := h; exact ab) ?_ ?_))
 ·rintro f5 E W g2 ⟨a3, N, M, a4, Q, a9, T, n, U, a0, a5, Y, a2, L, d4, ⟨eI, eN⟩, b1, d, s, c2, c3, O, q, P, R, b5, D⟩
  obtain ⟨I, j6, h1, g9, d8⟩ := iP g2
  rw [h1] at D
  refine bg (VQ (jK (enc := gJ) (i := (f5 : Int)) (x0 := I) ap ae c3 eI (d6.mono (Pl.mono _) b1) (aw _) g9) (fun k9 g3 => V (gM rfl (kq d.has g3 aM ae)) (VE (jc d aZ (fun k1 e7 d => VO (iw (.agg (gJ I).toArray) ((gJ I).toArray) d rfl rfl ae (jY I) nb rfl (fun k2 d => ln (hX ?_))))))))
  replace d := d.drew
  have l := d.has.gL (Kb (Kb Sn))
  refine iR l iA (XH 0 rfl l (fun _ hS => gM rfl (gY hS Mh (gJ I) rfl aM ae)) (bS D fun l0 g4 D => XE 1 rfl (Eg d call115 (iG.jH (pu I _ _  g4)) (fun k3 d => ?_))))
  have l := d.has.gL (Kb (Kb Sn))
  refine ⟨l, (X 2 rfl l (gW rfl) (PJ D (fun f6 E W => ∃ e3, ST false (keys e2) w W L ((e7, Ol (gJ I) 108) :: ((H, Ob #[g, M, c, a, a0, (.int .i64 a2)] 174) :: (N ++ (Q ++ (T ++ (U ++ (Y ++ e3))))))) ∧ E 0 = (.pointer (some ⟨H, 0, none⟩)) ∧ E 5 = (.int .i64 K) ∧ E 7 = (.pointer (some ⟨e7, 0, none⟩)) ∧ E 14 = d0 ∧ E 15 = (.int .i64 (p.length : Int)) ∧ E 16 = (.int .i64 (f5 : Int)) ∧ E 30 = (.bool f6)) (bm 11 2047) 0 ?_ (fun f6 Z d3 => ?_)))⟩
  ·rintro l5 E W ⟨e3, d, c4, e8, e9, f0, f1, f2, i3⟩ J
   refine jd kr (gV (CI J i3 (fun g1 J => ?_) (fun g1 J => ?_)))
   ·refine sg (Wh c4 (V (gM e9 (gY d.has Mh (gJ I) rfl aM ae)) (bS J fun A g5 J => ?_)))
    refine VE (eM d (Cb (Pb Pz) (Cr (Qb Qz) (Cr (Qb Qz) (Cr (Qb Qz) (Cr (Qb Qz) (Cr (Qb Qz) Cn)))))) call171 (fun hh _ => iF.jH (vS H g a3 N M a4 Q c a9 T a n U a0 a5 Y a2 I _ _ hh O q P R b5 g5)) ?_)
    rintro _ l2 l6 j8 d f3 ad m ⟨f7, e4, e5, e6, c7, rfl, d9, e0, e1⟩
    obtain rfl := c7.symm
    replace d := d.perm (Tb (Tr (Tr (Tr (Tr (Tr Tn))))))
    refine ln (gZ (Wh c4 (V (gM e9 (gY d.has (Mt (Ma (Ma (Ma (Ma (Ma Mh)))))) (gJ I) rfl aM ae)) (bS J fun d7 g6 J => ?_))))
    refine VE (eM d (Cb Pz (Cr Qz (Cr Qz (Cr Qz (Cr Qz (Cr Qz Cn)))))) call172 (fun hh _ => (u7 H g a3 N f7 A.1 e4 c A.2.1 e5 a A.2.2 e6 a0 a5 Y a2 I _ _ hh O d9 e0 e1 b5 g6)) ?_)
    rintro _ l3 i7 j9 d f4 af m ⟨h9, i5, i0, c8, rfl, h2, h3⟩
    obtain rfl := c8.symm
    replace d := d.perm (Tb (Tr (Tr (Tr (Tr (Tr Tn))))))
    refine ig (iJ (gV ?_))
    replace d := d.gL (Kb (Kr (Kr (Kr (Kr (Kr (Db St)))))))
    exact ⟨f2, d7.1, h9, f7, A.1, e4, A.2.1, e5, A.2.2, e6, i5, d7.2.1, i0, d7.2.2, i7, _, ⟨rfl, f1⟩, ((b1.trans f3).trans f4), (d.gL St), c4, e8, f0, h2, d9, e0, e1, h3, (by rw [d8]; exact J)⟩
   refine iO (iJ (gV ?_))
   replace d := d.gL (Db St)
   exact ⟨f2, a3, N, M, a4, Q, a9, T, n, U, a0, a5, Y, a2, L, _, ⟨rfl, f1⟩, b1, (d.gL St), c4, e8, f0, O, q, P, R, b5, (by rw [d8]; exact J)⟩
  refine bC Z (fun j Z => ?_) (fun j Z => ?_)
  ·refine Xg 3 rfl rfl (cB j) l (gW s) (Xg 4 rfl rfl (cB j) l (jB rfl) (Xg 5 rfl rfl (cB j) l (gQ zt rfl) (qZ 6 rfl rfl (cB j) l (fun _ hS => gM rfl (ia hS (Mt Mh) rfl isAgg22)) (qZ 7 rfl rfl (cB j) l (fun _ hS => gM rfl (gY hS Mh (gJ I) rfl aM ae)) (bS Z fun l1 g7 Z => zX 8 rfl rfl (cB j) (Eg d call151 (iG.jH (Df M a4 I _ _ (q.sl iN (fun b o hq => d.at_ (Mt (Mt (Ma (Ml hq)))))) g7)) (fun k6 d => ?_)))))))
   have l := d.has.gL (Kb (Kb Sn))
   refine ⟨l, (Xg 9 rfl rfl (cB j) l (nn rfl) (X 10 rfl l (ie (cB j) rfl) ?_))⟩
   obtain rfl := sj Z
   refine jU kr (d3 _ _ ⟨_, (d.gL St), s, c2, rfl, c3, eN, eI, rfl⟩)
  refine Xn 3 rfl rfl (cB j) l (Xn 4 rfl rfl (cB j) l (Xn 5 rfl rfl (cB j) l (Xn 6 rfl rfl (cB j) l (Xn 7 rfl rfl (cB j) l (Xn 8 rfl rfl (cB j) l (Xn 9 rfl rfl (cB j) l (X 10 rfl l (ic (cB j) rfl) ?_)))))))
  obtain rfl := sj Z
  refine jU kr (d3 _ _ ⟨_, (d.gL St), s, c2, rfl, c3, eN, eI, rfl⟩)
 rintro E W ⟨a3, N, M, a4, Q, a9, T, n, U, a0, a5, Y, a2, L, d4, ⟨eI, eN⟩, b1, d, s, c2, c3, O, q, P, R, b5, D⟩
 rw [aB] at D
 refine gV (sg (Wh s (bS D fun i4 g8 D => ?_)))
 refine VE (eM d (Cb Pz (Cr Qz (Cr Qz (Cr Qz (Cr Qz (Cr Qz Cn)))))) call173 (fun hh _ => (uV H g a3 N M a4 Q c a9 T a n U a0 a5 Y a2 _ _ hh O q P R b5 g8)) ?_)
 rintro _ l4 l7 k0 d j4 ao m ⟨i1, i6, i2, c9, rfl, h4, h5⟩
 obtain rfl := c9.symm
 replace d := d.perm (Tb (Tr (Tr (Tr (Tr (Tr Tn))))))
 refine lr (Wh s (Wn (Wf xo (VB d Mh rfl rfl bV (Wh c2 (Wi rfl (Wa (lt ?_))))))))
 obtain rfl := sj D
 exact iS (v := (.int .i64 (wi0 .i64 (i4.2.2 - K)))) rfl rfl ⟨_, _, rfl, (d.ox (Kb (Kr (Kr (Kr (Kr (Kr Sn))))))), i1, M, Q, T, U, i6, i2, rfl, rfl, h4, q, P, R, h5⟩
theorem Dj (j : Value) (H : List gG) (r : ((List (gH × (List (ByteArray × Bool)))) × (List gG) × (List (gH × (List gG))) × (List (ByteArray × (List gG))) × (List gI) × Int)) (w : World) (J : Sl (Pl gJ) 9 (hp w) j H) (hm : tp H = some r) :
  iF false pg0 47 [j] w [] (fun v L1 W' => ∃ l n S3 o S6 p S9 D u G y, v = (.pointer (some ⟨l, 0, none⟩)) ∧ L1 = ((l, Ob #[n, o, p, D, G, (.int .i64 (r.2.2.2.2.2))] 174) :: (S3 ++ (S6 ++ (S9 ++ (u ++ (y ++ [])))))) ∧ ja (fun (x : gH) => (.agg (gK x).toArray)) (ir Value.string (fun (x : Bool) => (Value.bool x))) n r.1 S3 ∧ hZ 108 gJ 9 o r.2.1 S6 ∧ ja (fun (x : gH) => (.agg (gK x).toArray)) (hZ 108 gJ 9) p r.2.2.1 S9 ∧ ja Value.string (hZ 108 gJ 9) D r.2.2.2.1 u ∧ lW 38 gS 3 G r.2.2.2.2.1 y) := by
 refine qS 13 func47 rfl (fun b => sg (Wa (lr (VE (vy (P := pg0) (fun (x : gH) => (.agg (gK x).toArray)) (ir Value.string (fun (x : Bool) => (Value.bool x))) b (fun W1 v4 R2 b z => VE (vy (P := pg0) (fun (x : gH) => (.agg (gK x).toArray)) (hZ 108 gJ 9) b (fun W5 v8 R6 b B => VE (vy (P := pg0) Value.string (hZ 108 gJ 9) b (fun W9 O Y b t => ?_))))))))))
 obtain ⟨a, rfl⟩ := z.form
 obtain ⟨c, rfl⟩ := B.form
 obtain ⟨g, rfl⟩ := t.form
 refine V (kW (v := (.agg #[(.map (some a)), (.slice none 0 0), (.map (some c)), (.map (some g)), (.slice none 0 0), (.int .i64 0)])) (BL rfl rfl rfl) (jQ zeroValue174 dg (Hw _ dg) kr)) (VE (iU b rfl (fun L k b => Wa (lr (Wm (Wm (bS hm fun c2 K hm => ?_)))))))
 refine VE (eM b (Cb Pz (Cr (Qr (Qr Qz)) (C0 (Cr (Qr Qz) (Cr Qz (C0 Cn)))))) call109 (fun A h => (wv k (.map (some a)) ([]) R2 (.slice none 0 0) ([]) [] (.map (some c)) ([]) R6 (.map (some g)) ([]) Y (.slice none 0 0) ([]) [] 0 j H _ _ A z (hZ.nil _ _ _) B t (lW.nil _ _ _) (J.mono (Pl.mono _) h) K)) ?_)
 rintro _ R W I b E m d ⟨Z, q, a2, a3, a4, s, a5, i, rfl, M, N, Q, T, U⟩
 obtain rfl := i.symm
 replace b := b.perm (Tb (Tr (Tr (Tr (Tr (Tr Tn))))))
 refine lr (Wm (Wa (lt ?_)))
 obtain rfl := sj hm
 exact iS (v := (.pointer (some ⟨k, 0, none⟩))) rfl rfl ⟨_, _, rfl, (b.wq (Kb (Kr (Kr (Kr (Kr (Kr Sn))))))), k, (.map (some a)), Z, q, a2, (.map (some c)), a3, (.map (some g)), a4, s, a5, rfl, rfl, M, N, Q, T, U⟩
theorem nY (a : Value) (g : List (gH × gT)) (r : Unit) (w : World) (c : lU (fun (x : gH) => (.agg (gK x).toArray)) (fun (x : gT) => (Value.agg (gX x).toArray)) (hp w) a g) (hm : jG g = some r) :
  iF true pg0 55 [a] w [] (fun v k W' => ∃ i, v = (.func (.func 123) #[] #[(.pointer (some ⟨i, 0, none⟩))]) ∧ k = ((i, Ob #[a] 110) :: [])) := by
 refine qS 4 func55 rfl (fun b => sg ?_)
 obtain ⟨t, rfl⟩ := c.form
 refine VE (iU b rfl (fun u j b => Wa (lr (V (pW (by exact tq rfl) rfl) (Wa (lt ?_))))))
 obtain rfl := sj hm
 exact iS (v := (.func (.func 123) #[] #[(.pointer (some ⟨j, 0, none⟩))])) rfl rfl ⟨_, _, rfl, (b.wq (Kb Sn)), j, rfl, rfl⟩
theorem CX (c : Value) (k : List gT) (a : LO) (g : Value) (t : (gT × gT) → Option Int) (r : List gT) (w : World) {y : iq} (u : qn y (a ++ []) w) (i : hZ 30 gX 5 c k a) (j : yI pg0 g y (fun (x : (gT × gT)) => [(.agg (gX x.1).toArray), (.agg (gX x.2).toArray)]) (fun (r : Int) => (.int .i64 r)) t) (hm : rV t k = some r) :
  iF true pg0 122 [c, g] w (a ++ []) (fun v z W' => ∃ S, v = (.tuple #[]) ∧ z = (S ++ []) ∧ hZ 30 gX 5 c r S) := xN (P := pg0) (ρ := D7) Hf 5 ey bI gX pE mj u.H u.S i j hm
theorem wS (a c : gT) (r : Int) (w : World) (hm : jr a c = some r) :
  iG true pg0 56 [(.agg (gX a).toArray), (.agg (gX c).toArray)] w (.int .i64 r) := by
 refine cG 10 func56 rfl (fun b => sg (VE (iU b rfl (fun i t b => VE (iU b rfl (fun j u b => Wa (lr (Wf u6 (VA b (Mt Mh) (gK a.gH) az ah (Wf u6 (VA b Mh (gK c.gH) az ah (bS hm fun x g hm => ?_))))))))))))
 refine VE (Eg b call57 (uZ a.gH c.gH _ _  g) (fun k b => Wa (ln ?_)))
 exact iD (rQ hm b)
theorem El {σ κ : Type} {t : κ → Value} (b : Nat) (mv yv : Value) (l : List (κ × gT)) (i : σ → List (Nat × Obj) → Prop) (fs : σ → gT → Option (Bool × σ)) (u : σ) (g : List (Nat × Obj)) (w : World) {a : iq} (N : qn a g w) (T : a b = some (.cells #[mv] 110 (0, 0))) (hm : lU t (fun x => Value.agg (gX x).toArray) a mv l) (hy : ym pg0 yv a i (fun x => [.agg (gX x).toArray]) (fun b => .bool b) fs) (Z : i u g) (G : ∀ o, o.Perm (l.map (·.2)) → ∃ A, sA fs u o = some A) :
  iF false pg0 123 [yv, .pointer (some ⟨b, 0, none⟩)] w g (fun v R' _ => v = .tuple #[] ∧ ∃ o A, o.Perm (l.map (·.2)) ∧ sA fs u o = some A ∧ i A R') := by
 have d : ST false (keys g) w w a g := ST.Ec N
 refine cF 15 func123 rfl (hX (gZ (V (gM rfl (lg d.has (y := mv) ⟨b, 0, _, _, _, rfl, T, fun j y hj => by simpa using hj⟩ isAgg110)) (VE (F0 underlying110 d rfl hm (fun W K M d O => ig (gV (jy (mo (fun m E W => ∃ (μ : iq) (done : List gT) (s : σ) (R L : List (Nat × Obj)) (lf : List (κ × gT)) (Ri : List (Nat × Obj)), m = lf.length ∧ iH a μ ∧ ST false (keys g) w W μ (R ++ (Ri ++ L)) ∧ E 0 = yv ∧ E 6 = K ∧ yn t (fun x => Value.agg (gX x).toArray) a K lf Ri ∧ i s R ∧ (∀ o, sA fs u (done ++ o) = sA fs s o) ∧ (done ++ lf.map (·.2)).Perm (l.map (·.2))) _ ⟨a, [], u, g, [], l, M, rfl, iH.refl _, d.perm (by rw [aV]; exact cO), rfl, rfl, O, Z, fun o => rfl, .refl _⟩ ?_)))))))))
 rintro m E W ⟨μ, done, s, R, L, lf, Ri, rfl, hs, d, I, D, O, Z, n, hP⟩
 refine hX (gZ (VE (F6 R d (fun b o T => d.mem b o (hs b o T)) O D (fun U => ?_) (fun W B p k z d hA => ?_))))
 ·subst U
  refine V (pC (v := .bool false) rfl rfl) (ig (gV (hX (mr rfl (mH (mc (mc (qV (EP (ot rfl ⟨_, R, rfl, ST.AJ d, rfl, done, s, by simpa using hP, ?_, Z⟩))))))))))
  have := n []
  rwa [aV] at this
 ·refine V (pC (v := .bool true) rfl rfl) (ig (gV (hX (qz rfl (iO (gV (jy (hX (gZ (V (EC (fun q hq => (d.box q.1 q.2 (bf _ (aN _ hq))).1) (fun b o T => d.mem b o (hs b o T)) hA D) (V (pC (v := .agg (gX p.2).toArray) rfl rfl) (VE (jc d cM (fun W H d => VO (xv [] (.agg (gX p.2).toArray) ((gX p.2).toArray) d rfl rfl bI (mj p.2) nb rfl (fun W d => ig (gV (hX (gZ (V (gW I) (V (gM rfl (gY d.has (.head _) (gX p.2) rfl ey bI)) ?_)))))))))))))))))))))
  have P : (done ++ p.2 :: k.map (·.2)).Perm (l.map (·.2)) := (bi done (z.map (fun q : κ × gT => q.2))).symm.trans hP
  have J : ∃ r, fs s p.2 = some r := by
   obtain ⟨A, Y⟩ := G _ P
   rw [n] at Y
   cases h : fs s p.2 with
   | none => simp [sA, h] at Y
   | some r => exact ⟨r, rfl⟩
  obtain ⟨r, hr⟩ := J
  refine VY (He s p.2 (R := R) ((H, .cells (gX p.2).toArray 30 (0, 0)) :: (B ++ L)) d (by exact (cR (l₁ := R)).symm) hy hs Z rfl (by exact tq rfl) hr (fun W μ' R' d hle _ Q => V (nn rfl) (ig (gV ?_))))
  obtain ⟨c, A⟩ := r
  cases c with
  | false =>
   refine qz rfl (iD (jD (iK (jD (ot rfl ⟨_, R', rfl, ST.AJ d, rfl, done ++ p.2 :: k.map (·.2), A, P, ?_, Q⟩)))))
   rw [n]; simp only [sA, hr]
  | true =>
   refine mr rfl (iO (iJ (gV ⟨k.length, by simp [z.length_eq], μ', done ++ [p.2], A, R', (H, .cells (gX p.2).toArray 30 (0, 0)) :: L, k, B, rfl, hs.trans hle, d.perm (bi R' (cR (l₁ := B)).symm), I, D, hA.iter, Q, fun o => ?_, ?_⟩)))
   ·rw [ar, n]; simp only [dM, sA, hr]
   ·rw [ar]; exact P
theorem DE {κ : Type} {g : κ → Value} (b : Nat) (mv : Value) (l : List (κ × gT)) (w : World) (hb : hp w b = some (.cells #[mv] 110 (0, 0))) (hm : lU g (fun x => Value.agg (gX x).toArray) (hp w) mv l) (J : l.length * 56 ≤ 140737488355328) (K : l.length ≤ maxLen) :
  iF false pg0 184 [.slice none 0 0, .func (.func 123) #[] #[.pointer (some ⟨b, 0, none⟩)]] w [] (fun v R _ => ∃ o, o.Perm (l.map (·.2)) ∧ hZ 30 gX 5 v o R) := by
 have h := ST.start (dd := false) w
 refine BA (n := 13) func184 rfl rfl nb (Co (gZ (VE (iU h rfl (fun W i h => V (kh rfl) (ig (gV (Hk (Co (gZ (V (gW rfl) (ig (gV (DU (DP (caps := #[.pointer (some ⟨b, 0, none⟩)]) h rfl call123 (fun L d Lp W E h => ?_))))))))))))))))
 have hy : ym pg0 (.func (.yield L) #[] #[]) (hp w) (EM L Lp (fun (xs : List gT) R => ∃ v q, R = (i, .cells #[v] 25 (0, 0)) :: q ∧ hZ 30 gX 5 v xs q) (fun (_ : Empty) _ => False)) (fun x => [.agg (gX x).toArray]) (fun b => .bool b) (xn (CM gT 56)) := by
  refine F8 E (fun _ => rfl) (by decide) (fun W s x r u hs U hf h => ?_)
  obtain ⟨v, q, rfl, Z⟩ := U
  obtain ⟨xs, P, rfl⟩ := Option.map_eq_some_iff.1 hf
  generalize zV L = M
  refine gZ (VE (jc h cM (fun k I h => VO (xv [] (.agg (gX x).toArray) ((gX x).toArray) h rfl rfl bI (mj x) nb rfl (fun k h => ig ⟨rfl, _, _, iH.refl _, h.perm (List.Perm.swap _ _ _), fun G h => jy (gZ (V (gM rfl (ia h.has (.tail _ (.tail _ (.head _))) rfl isAgg25)) (V (gM rfl (gY h.has (.tail _ (.head _)) (gX x) rfl ey bI)) (VE (iM (qs := #[(0, .agg (gX x).toArray)]) (cs := (gX x).toArray) h (ml rfl) (vp [.agg (gX x).toArray] cA bI cM (by decide) rfl (by intro v hv; simp only [aj, bR, dW] at hv; rcases hv with rfl <;> rfl) rfl rfl) (fun W t h => VE (yi (enc := gX) (v := v) (vs := (.slice (some ⟨t, 0, none⟩) 1 1)) (R := q) (Y := []) [_, _, _, _] (by rw [aV]; exact h) pE (by decide) mj cA yE.1 yE.2.1 rfl yE.2.2.1 yE.2.2.2 rfl rfl Z (Sl.lit (enc := gX) (l := [x]) pE rfl nb rfl (h.at_ (.head _))) P (fun W N j h a => ?_))))))))⟩)))))
  obtain ⟨A, c, rfl⟩ := a.form
  exact VO (xv [_, _, _] (.slice A xs.length c) #[.slice A xs.length c] h rfl rfl sizeOf25 (by simp [Value.cells, Value.oneCell']) (aJ 1) rfl (fun W h => ig (iJ ⟨rfl, _, _, _, h, Db (Kb (Db (Kb ⟨[], .refl _⟩))), _, j, rfl, a⟩)))
 have Q : ∀ {x y z : Nat × Obj}, ([x, y, z] : List (Nat × Obj)).Perm ([x, z] ++ [y]) := (List.Perm.swap _ _ _).cons _
 have a1 := El b mv (.func (.yield L) #[] #[]) l _ _ (.inl [] : List gT ⊕ Empty) [_, _] W ⟨h.held Q, h.E7 Q, h.EY Q⟩ hb hm hy ⟨_, rfl, _, [], rfl, hZ.nil _ _ _⟩ (fun o T => ⟨_, yy (l := l.map (·.2)) (by rwa [bQ]) (by rwa [bQ]) o [] (by rw [aU]; exact Nat.le_of_eq T.length_eq)⟩)
 refine bJ a1 ?_
 rintro e H ⟨v, R', rfl, hB, rfl, o, s', T, hi, U⟩
 rw [yy (l := l.map (·.2)) (by rwa [bQ]) (by rwa [bQ]) o [] (by rw [aU]; exact Nat.le_of_eq T.length_eq)] at hi
 obtain rfl := gz hi
 obtain ⟨D, rfl, v, q, rfl, Z⟩ := U
 have p := (h.perm Q).back hB
 refine ⟨⟨_, rfl⟩, Lp, (p.box L _ (.head _)).1, by rw [E.st]; simp, .inl ⟨E.pe, ?_⟩⟩
 have m := ST.setBlock (A := []) p (.loop { Lp with state := .exhausted })
 refine iJ (gV ?_)
 generalize Ej [{ target := .collected d, args := #[] }] = M
 refine hX (gZ (V (gM rfl (ia m.has (.tail _ (.head _)) rfl isAgg25)) (V (kh rfl) (ig (gV (iD ?_))))))
 have O := ST.setBlock (A := (L, _) :: (i, _) :: q) (B := []) m (.deferred none)
 exact .inr ⟨d, rfl, (m.box d _ (.tail _ (.tail _ (bf _ (.head _))))).1, iS rfl rfl ⟨_, q, rfl, O.wq (Db (Db ⟨[_], .refl _⟩)), o, T, Z⟩⟩
theorem DW {κ : Type} {a : κ → Value} (b : Nat) (h : Value) (l : List (κ × gT)) (w : World) (m : hp w b = some (.cells #[h] 110 (0, 0))) (hm : lU a (fun x => Value.agg (gX x).toArray) (hp w) h l) (g : l.length * 56 ≤ 140737488355328) (i : l.length ≤ maxLen) :
  iF false pg0 121 [.func (.func 123) #[] #[.pointer (some ⟨b, 0, none⟩)]] w [] (fun v R _ => ∃ o, o.Perm (l.map (·.2)) ∧ hZ 30 gX 5 v o R) := by
 have d := ST.start (dd := false) w
 refine cF 5 func121 rfl (hX (gZ (V (kh rfl) (ig (gV (hX (gZ (V (gW rfl) (VE (wk d (.refl _) call184 (fun _ _ _ _ => DE b h l _ m hm g i) (fun W v μ c d hle _ _ j => ?_) (L0 := [])))))))))))
 obtain ⟨o, n, k⟩ := j
 exact V (kh rfl) (ig (gV (iD (iS rfl rfl ⟨_, c, rfl, d.wq ⟨[], .refl _⟩, o, n, k⟩))))
theorem Di {κ : Type} {c : κ → Value} (b : Nat) (n g : Value) (a : gT × gT → Option Int) (l : List (κ × gT)) (r : List gT) (w : World) (q : hp w b = some (.cells #[n] 110 (0, 0))) (hm : lU c (fun x => Value.agg (gX x).toArray) (hp w) n l) (s : yI pg0 g (hp w) (fun (x : gT × gT) => [(.agg (gX x.1).toArray), (.agg (gX x.2).toArray)]) (fun (r : Int) => (.int .i64 r)) a) (E : xq 56 a l = some r) :
  iY false pg0 54 [.func (.func 123) #[] #[.pointer (some ⟨b, 0, none⟩)], g] w 30 gX 5 r := by
 obtain ⟨k, t, y⟩ := CN E
 have d := ST.start (dd := false) w
 refine cF 12 func54 rfl (hX (gZ (V (kh rfl) (ig (gV (hX (gZ (V (gW rfl) (VE (wk d (.refl _) call121 (fun _ _ _ _ => DW b n l _ q hm k t) (fun W v μ i d hle _ _ h => ?_) (L0 := [])))))))))))
 obtain ⟨o, A, j⟩ := h
 refine V (kh rfl) (ig (gV (hX (gZ (V (gW rfl) (V (gW rfl) (VE (wk d (perm_nil _) call122 (fun hH p m _ => iF.jH (CX v o i g a r W ⟨hH, p, m⟩ j (s.mono hle) (y o A))) (fun W u D B d z _ _ h => ?_) (L0 := (i ++ []))))))))))
 obtain ⟨S, rfl, rfl, j⟩ := h
 exact ig (gV (hX (gZ (V (gW rfl) (V (kh rfl) (ig (gV (iD (iS rfl rfl ⟨_, S, rfl, d.wq ⟨[], by simp⟩, j⟩)))))))))
theorem qe (R : Value) (a0 : List gG) (r : List gT) (w : World) (f5 : Sl (Pl gJ) 9 (hp w) R a0) (hm : kx a0 = some r) :
  iY false pg0 12 [R] w 30 gX 5 r := by
 refine qS 58 func12 rfl (fun d => sg (Wa (lr (Wm (bS hm fun r1 k6 hm => VE (nt d call51 (rZ R a0 _ _ (f5.mono (Pl.mono _) d.iL) k6) (fun W3 v7 ba R8 d j6 aE e4 => Wm (bS hm fun y j7 hm => ?_))))))))
 refine VE (wk d (cW _) call47 (fun _ _ _ _ => (Dj R a0 _ _ (f5.mono (Pl.mono _) (j6.trans d.iL)) j7)) (fun o0 o2 j3 n9 d m8 av q j4 => ?_) (L0 := []))
 obtain ⟨K, c3, d2, c4, d3, c5, d4, c6, d5, c7, d6, c8, rfl, j8, j9, k0, k1, k2⟩ := j4
 replace c8 := c8.symm; subst c8
 replace d := d.perm (Tb (Tr (Tr (Tr (Tr (Tr Tn))))))
 refine Wa (Wa (lr (VE (rI (P := pg0) (fun (x : gH) => (.agg (gK x).toArray)) (fun (x : gT) => (Value.agg (gX x).toArray)) d (fun o1 Y k5 d j5 => Wa (lS (Wm (V (jf ap rfl e4) ?_))))))))
 refine Wm (ln (iZ (fun i E W => ∃ u J O b3, (E 18 = .int .i64 (i : Nat) ∧ E 17 = .int .i64 (r1.length : Nat)) ∧ iH j3 O ∧ ST false iE w W O ((K, Ob #[c3, c4, c5, c6, c7, (.int .i64 y.2.2.2.2.2)] 174) :: (J ++ (d2 ++ (d3 ++ (d4 ++ (d5 ++ (d6 ++ (R8 ++ b3)))))))) ∧ E 4 = (.pointer (some ⟨K, 0, none⟩)) ∧ E 5 = Y ∧ E 16 = v7 ∧ ir (fun (x : gH) => (.agg (gK x).toArray)) (fun (x : gT) => (Value.agg (gX x).toArray)) Y u J ∧ lh y (r1.drop i) u = some r) r1.length e4.len ⟨([]), k5, j3, _, ⟨rfl, rfl⟩, (iH.refl _), (d.gL (Sb (Pr Pz) St)), rfl, rfl, rfl, j5, hm⟩ dc dc dc (fun _ _ _ h => by obtain ⟨_, _, _, _, n, _⟩ := h; exact n) ?_ ?_))
 ·let i9 : Value := (.pointer (some ⟨K, 0, none⟩))
  let h5 := (#[c3, c4, c5, c6, c7, (.int .i64 y.2.2.2.2.2)] : Array Value)
  rintro a6 E W f7 ⟨u, J, O, b3, ⟨m, s⟩, b2, d, d9, b5, b6, Q, g⟩
  obtain ⟨H, k7, g8, c1, g9⟩ := iP f7
  rw [g8] at g
  refine bg (VQ (jo (i := (a6 : Int)) (x0 := H) ap ae b6 m e4 (aw _) c1) (fun m9 g1 => V (gM rfl (kD d.has (fun p l => (Mt (Ma (Ma (Ma (Ma (Ma (Ma (Ml l))))))))) e4 iN g1 c1 aM ae)) (VE (jc d aZ (fun l1 m6 d => VO (iw (.agg (gJ H).toArray) ((gJ H).toArray) d rfl rfl ae (jY H) nb rfl (fun l2 d => lr (VA d Mh (gJ H) aM ae (bS g fun L g3 g => VE (nt d call52 (iY.jH (xi H _ _  g3)) (fun l3 e7 b9 d1 d e8 ab N => V (jf cq rfl N) ?_)))))))))))
  let j2 : Value := (.int .i64 (a6 : Int))
  let j1 : Value := (.int .i64 (r1.length : Int))
  refine Wm (ln ?_)
  replace d := d.gL (Kr (Db St))
  refine pt (CJ g (fun b7 E W => ∃ Z a9 c9, iH b9 a9 ∧ ST false iE w W a9 ((K, Obj.cells h5 174 (0, 0)) :: (Z ++ (d2 ++ (d3 ++ (d4 ++ (d5 ++ (d6 ++ (R8 ++ c9)))))))) ∧ E 4 = i9 ∧ E 5 = Y ∧ E 16 = v7 ∧ E 17 = j1 ∧ E 18 = j2 ∧ ir (fun (x : gH) => (.agg (gK x).toArray)) (fun (x : gT) => (Value.agg (gX x).toArray)) Y b7 Z) (fun b7 g0 => ?_) ?_)
  ·refine iZ (fun i E W => ∃ c D I b4, (E 25 = .int .i64 (i : Nat) ∧ E 24 = .int .i64 (L.length : Nat)) ∧ iH b9 I ∧ ST false iE w W I ((K, Obj.cells h5 174 (0, 0)) :: (D ++ (d1 ++ (d2 ++ (d3 ++ (d4 ++ (d5 ++ (d6 ++ (R8 ++ b4))))))))) ∧ E 4 = i9 ∧ E 5 = Y ∧ E 16 = v7 ∧ E 17 = j1 ∧ E 18 = j2 ∧ E 23 = e7 ∧ ir (fun (x : gH) => (.agg (gK x).toArray)) (fun (x : gT) => (Value.agg (gX x).toArray)) Y c D ∧ ky y (L.drop i) i c = some b7) L.length N.len ⟨u, J, b9, _, ⟨rfl, rfl⟩, (iH.refl _), (d.gL (Sb (Pr Pz) (Sr (Qr Qz) St))), d9, b5, b6, s, m, rfl, Q, g0⟩ dc dc dc (fun _ _ _ h => by obtain ⟨_, _, _, _, n, _⟩ := h; exact n) ?_ ?_
   ·rintro e5 E W f8 ⟨c, D, I, b4, ⟨m, s⟩, U, d, A, M, a2, a3, a4, a5, T, t⟩
    obtain ⟨a, k8, h0, c2, h1⟩ := iP f8
    let f1 := (jh gO c a K8)
    rw [h0] at t
    refine bg (Wh m (VQ (jo (i := (e5 : Int)) (x0 := a) cq ah a5 m N (aw _) c2) (fun n0 g2 => V (gM rfl (kD d.has (fun p l => (Mt (Ma (Ml l)))) N rF g2 c2 az ah)) (VE (jc d cE (fun l4 d7 d => Wa (VO (iw (.agg (gK a).toArray) ((gK a).toArray) d rfl rfl ah (oH a) nb rfl (fun l5 d => lr (Wh M (VA d Mh (gK a) az ah ?_)))))))))))
    refine V (nR (k := a) (z := K8) (vf := (fun (x : gT) => (Value.agg (gX x).toArray))) pf underlying110 cM rfl rfl (T.at (fun b o l => d.has.2 b o (Mt (Mt (Ml l)))))) (VE (jc d cM (fun l6 d8 d => VO (iw (.agg (gX f1).toArray) ((gX f1).toArray) d rfl rfl bI (mj f1) nb rfl (fun l7 d => lr (VA d (Mt Mh) (gK a) az ah (Wf u6 (VO (iw (.agg (gK a).toArray) ((gX (⟨a, f1.lG, f1.lF, f1.qW⟩ : gT)).toArray) d rfl rfl ah (oH a) nb rfl (fun l8 d => ln (hX (CJ t (fun e6 E W => ∃ d0, ST false iE w W I ((d8, Ol (gX e6) 30) :: ((d7, Ol (gK a) 28) :: ((K, Obj.cells h5 174 (0, 0)) :: (D ++ (d1 ++ (d2 ++ (d3 ++ (d4 ++ (d5 ++ (d6 ++ (R8 ++ d0))))))))))) ∧ E 4 = i9 ∧ E 5 = Y ∧ E 9 = (.pointer (some ⟨d7, 0, none⟩)) ∧ E 10 = (.pointer (some ⟨d8, 0, none⟩)) ∧ E 16 = v7 ∧ E 17 = j1 ∧ E 18 = j2 ∧ E 23 = e7 ∧ E 24 = (.int .i64 (L.length : Int)) ∧ E 25 = (.int .i64 (e5 : Int))) (fun e6 B => ?_) ?_))))))))))))
    ·refine sg (Wm (Wi rfl (ln (CI B rfl (fun f6 B => ?_) (fun f6 B => ?_)))))
     ·refine gZ (Wf wG (VB d Mh rfl rfl bV (Wi rfl (Wf wG (VO (iw (.int .i64 (wi0 .i64 ((f1.lG) + 1))) ((gX (⟨a, (wi0 .i64 ((f1.lG) + 1)), f1.lF, f1.qW⟩ : gT)).toArray) d rfl rfl eQ (xh _ (wi0 .i64 ((f1.lG) + 1))) nb rfl (fun m2 d => ln ?_)))))))
      obtain rfl := sj B
      exact ⟨_, (d.gL St), A, M, rfl, rfl, a2, a3, a4, a5, s, m⟩
     refine gZ (Wf w7 (VB d Mh rfl rfl bV (Wi rfl (Wf w7 (VO (iw (.int .i64 (wi0 .i64 ((f1.lF) + 1))) ((gX (⟨a, f1.lG, (wi0 .i64 ((f1.lF) + 1)), f1.qW⟩ : gT)).toArray) d rfl rfl eQ (xh _ (wi0 .i64 ((f1.lF) + 1))) nb rfl (fun m3 d => ln ?_)))))))
     obtain rfl := sj B
     exact ⟨_, (d.gL St), A, M, rfl, rfl, a2, a3, a4, a5, s, m⟩
    rintro j E W ⟨d0, d, e0, e1, e2, e3, i1, i2, i3, i4, i5, i6⟩ b0
    refine sg (Wh e0 (V (gM e2 (gY d.has (Mt Mh) (gK a) rfl az ah)) (bS b0 fun G g4 b0 => VE (nt d call53 (pn K c3 y.1 c4 y.2.1 c5 y.2.2.1 c6 y.2.2.2.1 c7 y.2.2.2.2.1 y.2.2.2.2.2 a _ _ (j8.at (fun b o l => d.at_ (Mt (Mt (Mt (Ma (Ma (Ml l)))))))) (j9.sl iN (fun b o l => d.at_ (Mt (Mt (Mt (Ma (Ma (Ma (Ml l))))))))) (k0.at (fun b o l => d.at_ (Mt (Mt (Mt (Ma (Ma (Ma (Ma (Ml l)))))))))) (k1.at (fun b o l => d.at_ (Mt (Mt (Mt (Ma (Ma (Ma (Ma (Ma (Ml l))))))))))) ((k2.xd kO).mono (Pl.mono _) (rH (fun b o l => d.at_ (Mt (Mt (Mt (Ma (Ma (Ma (Ma (Ma (Ma (Ml l))))))))))))) (At.of (d.at_ (Mt (Mt Mh))) _ rfl) g4) (fun l9 n3 j0 l0 d f0 ad f3 => V (jf aO rfl f3) (V (gQ Gw e3) ?_))))))
    let h4 := (⟨j.gH, j.lG, j.lF, (G.length : Int)⟩ : gT)
    replace d := d.perm (Nb (Pr Pz) Nz)
    refine VO (iw (.int .i64 (G.length : Int)) ((gX h4).toArray) d rfl rfl eQ (xh _ (G.length : Int)) nb rfl (fun m0 d => ln ?_))
    replace d := d.gL (Kb (Dr St))
    refine gZ (Wh e1 (V (gM e2 (gY d.has (Mt Mh) (gK a) rfl az ah)) (V (gM e3 (gY d.has Mh (gX h4) rfl ey bI)) ?_)))
    replace d := d.perm (Nr (Qb (Qb (Qb Qz))) Nz)
    refine VO (uK (k := a) (v := h4) (vf := (fun (x : gT) => (Value.agg (gX x).toArray)))  pf underlying110 d T rfl rfl rfl (fun m1 h2 d f4 => ig (iJ (gV ?_))))
    replace d := d.gL (Kr (Db (Db St)))
    exact ⟨i6, (ji gO c a h4), h2, j0, _, ⟨rfl, i5⟩, (U.trans f0), (d.gL (Sb (Pr Pz) St)), e0, e1, i1, i2, i3, i4, f4, (by rw [h1]; exact b0)⟩
   rintro E W ⟨c, D, I, b4, ⟨m, s⟩, U, d, A, M, a2, a3, a4, a5, T, t⟩
   rw [aB] at t
   refine gV ?_
   obtain rfl := sj t
   exact ⟨D, I, _, U, (d.gL (Kb (Kr (Dr St)))), A, M, a2, a3, a4, T⟩
  rintro i7 E W ⟨Z, a9, c9, e9, d, h6, h7, h8, h9, i0, g7⟩ f9
  exact iJ (gV ⟨i0, i7, Z, a9, _, ⟨rfl, h9⟩, ((b2.trans e8).trans e9), (d.gL St), h6, h7, h8, g7, (by rw [g9]; exact f9)⟩)
 rintro E W ⟨u, J, O, b3, ⟨m, s⟩, b2, d, d9, b5, b6, Q, g⟩
 rw [aB] at g
 refine gV ?_
 replace d := d.gL (Db (Kr (Dr (Dr (Dr (Dr (Dr (Dr St))))))))
 refine sg (Wh b5 (bS g fun n1 g5 g => ?_))
 refine VE (wk d (cW _) call55 (fun _ _ _ _ => iF.jH (nY Y u _ _ (Q.at (fun b o l => d.at_ (Ml l))) g5)) (fun m4 n4 n5 k9 d k3 af q f2 => ?_) (L0 := []))
 obtain ⟨m7, b1, rfl⟩ := f2
 replace b1 := b1.symm; subst b1
 replace d := d.perm (Tb Tn)
 refine bS g fun n2 g6 g => VE (nt d call54 (Di _ _ (.func (.func 56) #[] #[]) (fun (x : (gT × gT)) => jr x.1 x.2) u _ _ (d.has.2 _ _ Mh) (Q.at (fun b o l => d.has.2 b o (Mt (Ml l)))) ⟨56, #[], rfl, call56, fun W x r hs hm => wS x.1 x.2 r W  hm⟩ g6) (fun m5 i8 n6 h3 d k4 ao c0 => Wa (ln ?_)))
 replace d := d.gL (Kr (Db (Dr St)))
 refine iD ?_
 obtain rfl := sj g
 exact iS (v := i8) rfl rfl ⟨_, h3, rfl, d.kz (fun p l => (Ml l)) c0.nd, c0⟩
theorem xS (B : Value) (M : List gG) (r : (gT × Bool)) (w : World) (N : Sl (Pl gJ) 9 (hp w) B M) (hm : pH M = some r) :
  iG false pg0 14 [B] w (.tuple #[(.agg (gX r.1).toArray), (.bool r.2)]) := by
 let a0 : Value := (.agg (gX K8).toArray)
 refine cG 32 func14 rfl (fun b => sg (VE (jc b cM (fun W2 q b => Wa (lr (Wm (bS hm fun o a4 hm => VE (nt b call12 (qe B M _ _ (N.mono (Pl.mono _) b.iL) a4) (fun W5 v9 R c2 b b6 P t => Wa (ln ?_))))))))))
 refine hX (sg (Wm (V (jf cA rfl t) (Wi rfl (ln (CI hm rfl (fun Q hm => ?_) (fun Q hm => ?_)))))))
 ·refine sg (V (kW (v := a0) wV (jQ cM cK (GW _ cK) kr)) ?_)
  replace b := b.perm (Nb (Pr Pz) Nz)
  refine VO (iw a0 ((gX K8).toArray) b rfl rfl bI (mj K8) nb rfl (fun c3 b => Wa (ln ?_)))
  replace b := b.gL (Kb (Dr St))
  refine iD (iK ?_)
  obtain rfl := sj hm
  exact Cu (v0 := a0) (v1 := (.bool false)) rfl rfl (gY b.has Mh (gX K8) rfl ey bI) rfl ⟨rfl, b.ex⟩
 refine kg (Wm (bS hm fun x z hm => VQ (jo (i := 0) (x0 := x) cA bI rfl rfl t (jP z) (jk z)) (fun c6 U => V (gM rfl (kD b.has (fun p n => (Ml n)) t pE U (jk z) ey bI)) (VE (jc b cM (fun c4 K b => VO (iw (.agg (gX x).toArray) ((gX x).toArray) b rfl rfl bI (mj x) nb rfl (fun c5 b => lS ?_))))))))
 refine Wm ?_
 replace b := b.perm (Nr (Qb Qz) Nz)
 have b5 := t.GU b (fun p n => (Ml n))
 obtain ⟨O, b, a8, s, Y⟩ := ST.By b t pE
 refine bS hm fun _ G hm => VQ (uU (i := 1) cA bI rfl rfl Y (pb G) (oZ G)) (fun L y => V (lV cA rfl y.1) (Wm (ln (iZ (fun i E W => ∃ c D, (E 20 = .int .i64 (i : Nat) ∧ E 19 = .int .i64 ((o.drop (Int.toNat 1)).length : Nat)) ∧ ST false iE w W O ((K, Ol (gX c) 30) :: ((q, Ol (gX K8) 30) :: D)) ∧ E 2 = (.pointer (some ⟨q, 0, none⟩)) ∧ E 5 = (.pointer (some ⟨K, 0, none⟩)) ∧ E 18 = L ∧ lH ((o.drop (Int.toNat 1)).drop i) c = some r) (o.drop (Int.toNat 1)).length y.1.len ⟨x, _, ⟨rfl, rfl⟩, (b.gL St), rfl, rfl, rfl, hm⟩ dc dc dc (fun _ _ _ h => by obtain ⟨_, _, l, _⟩ := h; exact l) ?_ ?_))))
 ·rintro a5 E W T ⟨c, D, ⟨d, m⟩, b, k, j, u, a⟩
  obtain ⟨g, c1, A, Z, H⟩ := iP T
  rw [A] at a
  refine bg (VQ (jK (enc := gX) (i := (a5 : Int)) (x0 := g) cA bI u d y.1 (aw _) Z) (fun b7 J => V (gM rfl (kq b.has J ey bI)) (VE (jc b cM (fun a9 b4 b => VO (iw (.agg (gX g).toArray) ((gX g).toArray) b rfl rfl bI (mj g) nb rfl (fun b0 b => lr (Wf w7 (VB b Mh rfl rfl bV (V (gQ w7 j) (VB b (Mt Mh) rfl rfl bV ?_)))))))))))
  refine Wi rfl (ln (CI a rfl (fun I a => ?_) (fun I a => ?_)))
  ·refine gZ (VA b Mh (gX g) ey bI ?_)
   replace b := b.perm (Nb (Pb Pz) Nz)
   refine VO (iw (.agg (gX g).toArray) ((gX g).toArray) b j rfl bI (mj g) nb rfl (fun b2 b => ig (iJ (gV ?_))))
   replace b := b.gL (Kb (Db St))
   exact ⟨d, g, _, ⟨rfl, m⟩, (b.gL St), k, j, u, (by rw [H]; exact a)⟩
  refine iO (iJ (gV ?_))
  replace b := b.gL (Db St)
  exact ⟨d, c, _, ⟨rfl, m⟩, (b.gL St), k, j, u, (by rw [H]; exact a)⟩
 rintro E W ⟨c, D, ⟨d, m⟩, b, k, j, u, a⟩
 rw [aB] at a
 refine gV (sg (V (gM j (gY b.has Mh (gX c) rfl ey bI)) ?_))
 replace b := b.perm (Nb (Pb Pz) Nz)
 refine VO (iw (.agg (gX c).toArray) ((gX c).toArray) b k rfl bI (mj c) nb rfl (fun b3 b => Wa (ln ?_)))
 replace b := b.gL (Kb (Db St))
 refine iD ?_
 obtain rfl := sj a
 exact Cu (v0 := (.agg (gX c).toArray)) (v1 := (.bool true)) rfl k (gY b.has Mh (gX c) rfl ey bI) rfl ⟨rfl, b.ex⟩
theorem CO (c : Value) (i : List ByteArray) (a : LO) (r : List ByteArray) (w : World) {t : iq} (k : qn t (a ++ []) w) (g : hZ 9 jC 1 c i a) (hm : xu i = some r) :
  iF true pg0 182 [c] w (a ++ []) (fun v j W' => ∃ S, v = (.tuple #[]) ∧ j = (S ++ []) ∧ hZ 9 jC 1 c r S) := B1 (P := pg0) (ρ := DC) Eu k.H g hm
theorem ua (j : Value) (a0 : List ByteArray) (x : LO) (r : List ByteArray) (w : World) {μ0 : iq} (h0 : qn μ0 (x ++ []) w) (D : hZ 9 jC 1 j a0 x) (hm : lA a0 = some r) :
  iF true pg0 239 [j] w (x ++ []) (fun v L1 W' => ∃ y1 S2, v = y1 ∧ L1 = (S2 ++ []) ∧ hZ 9 jC 1 y1 r S2) := by
 refine tj h0 61 func239 rfl (fun b => sg (Wa (lS (Wm (V (jf aO rfl D) (Wi rfl (ln (CI hm rfl (fun g0 hm => ?_) (fun g0 hm => ?_)))))))))
 ·refine sg (Wm (Wa (lt (iK ?_))))
  obtain rfl := sj hm
  exact iS (v := j) rfl rfl ⟨_, _, rfl, (b.ox (Kr Sn)), j, x, rfl, rfl, D⟩
 refine kS (Wa (ln (jy (mo (fun m E W => ∃ t b5, ST true (keys (x ++ [])) w W μ0 (x ++ b5) ∧ E 0 = j ∧ E 3 = (.int .i64 t) ∧ jW a0 m t = some r) jq ⟨1, _, (b.gL St), rfl, rfl, hm⟩ ?_))))
 rintro m E W ⟨t, b5, b, G, I, a⟩
 cases m with
 | zero => rw [jW] at a; cases a
 | succ f5 =>
  refine hX (sg (Wh I (Wh G (V (jf aO rfl D) (Wi rfl (ln (CI a rfl (fun d0 a => ?_) (fun d0 a => ?_))))))))
  ·refine kn (hX (jy (hX ?_)))
   replace b := b.drew
   have d := b.has.gL (Kr Sn)
   refine iR d iA (X 0 rfl d (gW G) (X 1 rfl d (gW I) (bS a fun c3 a2 a => XQ 2 rfl d (jo (i := t) (x0 := c3) aO cy rfl rfl D (jP a2) (jk a2)) (fun g5 d6 => XH 3 rfl d (fun _ l => gM rfl (rr l (fun p h => (Ml h)) D (fun _ => rfl) d6 (jk a2) (y := (.string c3)) rfl aI)) (X 4 rfl d (gW G) (X 5 rfl d (gW I) (X 6 rfl d (jz rfl rfl rfl) (bS a fun c4 a3 a => XQ 7 rfl d (jo (i := (wi0 .i64 (t - 1))) (x0 := c4) aO cy rfl rfl D (jP a3) (jk a3)) (fun g6 d7 => XH 8 rfl d (fun _ l => gM rfl (rr l (fun p h => (Ml h)) D (fun _ => rfl) d7 (jk a3) (y := (.string c4)) rfl aI)) (X 9 rfl d (pa rfl rfl rfl) (jd kr (gV ?_))))))))))))
   refine CI a rfl (fun d1 a => ?_) (fun d1 a => ?_)
   ·refine sg (Wh G (Wh I (bS a fun _ L a => VQ (pV (i := t) aO cy rfl rfl D (pb L) (oZ L)) (fun c1 N => Wa (lS (Wa (ln ?_)))))))
    refine CJ a (fun Y E W => ∃ s b6, ST true (keys (x ++ [])) w W μ0 (s ++ b6) ∧ E 0 = j ∧ E 3 = (.int .i64 Y.2) ∧ hZ 9 jC 1 j Y.1 s) (fun Y d4 => ?_) ?_
    ·refine jy (mo (fun m E W => ∃ a9 M Z B b7, ST true (keys (x ++ [])) w W μ0 (M ++ b7) ∧ E 0 = j ∧ E 3 = (.int .i64 Z) ∧ E 4 = c1 ∧ E 5 = (.int .i64 B) ∧ hZ 9 jC 1 j a9 M ∧ jX t m a9 Z B = some Y) jq ⟨a0, x, t, 1, _, (b.gL St), G, I, rfl, rfl, D, d4⟩ ?_)
     rintro m E W ⟨a9, M, Z, B, b7, b, T, U, J, K, g, k⟩
     cases m with
     | zero => rw [jX] at k; cases k
     | succ f6 =>
      refine hX (sg (Wh K (Wh J (V (z7 aO rfl N g) (Wi rfl (ln (CI k rfl (fun d2 k => ?_) (fun d2 k => ?_))))))))
      ·refine kn (hX (CJ k (fun A E W => ∃ Q b8, ST true (keys (x ++ [])) w W μ0 (Q ++ b8) ∧ E 0 = j ∧ E 3 = (.int .i64 A.2) ∧ E 4 = c1 ∧ E 5 = (.int .i64 B) ∧ hZ 9 jC 1 j A.1 Q) (fun A c => ?_) ?_))
       ·refine jy (hX ?_)
        replace b := b.drew
        have d := b.has.gL (Kr Sn)
        refine iR d iA (X 0 rfl d (gW J) (X 1 rfl d (gW K) (bS c fun c6 a4 c => XQ 2 rfl d (pY (i := B) (x0 := c6) aO cy rfl rfl g N (jP a4) (jk a4)) (fun g7 d8 => XH 3 rfl d (fun _ l => gM rfl (rr l (fun p h => (Ml h)) g (fun _ => rfl) d8 (rA (jk a4)) (y := (.string c6)) rfl aI)) (X 4 rfl d (gW J) (X 5 rfl d (gW K) (X 6 rfl d (jz rfl rfl rfl) (bS c fun c7 a5 c => XQ 7 rfl d (pY (i := (wi0 .i64 (B - 1))) (x0 := c7) aO cy rfl rfl g N (jP a5) (jk a5)) (fun g8 d9 => XH 8 rfl d (fun _ l => gM rfl (rr l (fun p h => (Ml h)) g (fun _ => rfl) d9 (rA (jk a5)) (y := (.string c7)) rfl aI)) (X 9 rfl d (pa rfl rfl rfl) (jd kr (gV ?_))))))))))))
        refine CI c rfl (fun d3 c => ?_) (fun d3 c => ?_)
        ·refine sg (Wh T (Wh U (Wh J (Wh K (bS c fun n o c => VQ (pY (i := B) (x0 := n) aO cy rfl rfl g N (jP o) (jk o)) (fun g9 e0 => V (gM rfl (rr b.has (fun p h => (Ml h)) g (fun _ => rfl) e0 (rA (jk o)) (y := (.string n)) rfl aI)) (bS c fun f8 q c => VQ (jo (i := Z) (x0 := f8) aO cy rfl rfl g (jP q) (jk q)) (fun h1 e1 => VO (vr (u := (.string n)) (x1 := n)  b g (fun _ => rfl) xZ rfl rfl rfl e1 (jk q) cy (fun g3 e8 b c9 => ln (gZ ?_)))))))))))
         refine Wh U (Wi rfl (Wa (ig (iJ (gV ?_)))))
         obtain rfl := sj c
         exact ⟨e8, _, (b.gL St), T, rfl, J, K, c9⟩
        refine iO (iJ (gV ?_))
        obtain rfl := sj c
        exact ⟨M, _, (b.gL St), T, U, J, K, g⟩
       rintro ⟨f4, f7⟩ E W ⟨Q, b8, b, f0, f1, f2, f3, e4⟩ d5
       exact gZ (Wh f3 (Wi rfl (Wa (ln ⟨f6, bq _, f4, Q, f7, (wi0 .i64 (B + 1)), _, (b.gL St), f0, f1, f2, rfl, e4, d5⟩))))
      refine mH (mc (mc (qV (gV ?_))))
      obtain rfl := sj k
      exact ⟨M, _, (b.gL St), T, U, g⟩
    rintro ⟨g4, c5⟩ E W ⟨s, b6, b, b9, c0, R⟩ H
    refine sg (Wh b9 (Wh c0 (bS H fun _ O H => VQ (pV (i := c5) aO cy rfl rfl R (pb O) (oZ O)) (fun h2 e2 => VO (sG (z := zS)  b R (fun _ => rfl) xZ aO gv e2 rfl rfl (fun g2 e7 b c8 => lr (Wh b9 (Wh c0 (bS H fun _ P H => VQ (rK (i := c5) aO cy rfl rfl c8 (fun _ => rfl) (pb P) (oZ P)) (fun c2 e3 => ?_))))))))))
    refine Wa (lt (jD (iK (iK (jD (iK ?_))))))
    obtain rfl := sj H
    exact iS (v := c2) rfl rfl ⟨_, _, rfl, (b.ox (Kr Sn)), c2, e7, rfl, rfl, e3⟩
   exact iO (iJ (gV (gZ (Wh I (Wi rfl (Wa (ln ⟨f5, bq _, (wi0 .i64 (t + 1)), _, (b.gL St), G, rfl, a⟩)))))))
  refine mH (mc (mc (qV (gV (sg (Wh G (Wa (lt ?_))))))))
  obtain rfl := sj a
  exact iS (v := j) rfl rfl ⟨_, _, rfl, (b.ox (Kr Sn)), j, x, rfl, rfl, D⟩
theorem vu (H : Value) (J r : List ByteArray) (w : World) (G : Sl (Pl jC) 1 (hp w) H J) (hm : oN J = some r) :
  iY true pg0 188 [H] w 9 jC 1 r := by
 refine qS 23 func188 rfl (fun b => sg (Wa (lr (Wa (lS (Wm ?_))))))
 refine V (lV aO rfl G) (Wm (ln (iZ (fun i E W => ∃ c t g D, (E 8 = .int .i64 (i : Nat) ∧ E 7 = .int .i64 (J.length : Nat)) ∧ ST true iE w W (hp w) (g ++ D) ∧ E 3 = c ∧ E 6 = H ∧ hZ 9 jC 1 c t g ∧ nE (J.drop i) t = some r) J.length G.len ⟨(.slice none 0 0), ([]), [], _, ⟨rfl, rfl⟩, (b.gL St), rfl, rfl, (hZ.nil _ _ _), hm⟩ dc dc dc (fun _ _ _ h => by obtain ⟨_, _, _, _, n, _⟩ := h; exact n) ?_ ?_)))
 ·rintro b7 E W P ⟨c, t, g, D, ⟨m, o⟩, b, j, u, x, a⟩
  obtain ⟨k, d0, b0, a9, K⟩ := iP P
  rw [b0] at a
  refine bg (VQ (jK (enc := jC) (i := (b7 : Int)) (x0 := k) aO cy u m G (aw _) a9) (fun c5 Y => V (gM rfl (lg b.has (y := (.string k)) Y aI)) (Wa (lr (Wm (bS a fun c6 Z a => VE (Eg b call177 (ph k _ _  Z) (fun c0 b => ln ?_))))))))
  refine CI a rfl (fun T a => ?_) (fun T a => ?_)
  ·refine gZ (Wh j (Wm (VE (iM (cs := [(.string k)].toArray) b (ml rfl) (lm aO cy gv) (fun c1 O b => ?_)))))
   replace b := b.perm (Nr (Qb Qz) Nz)
   refine bS a fun b1 U a => VE (km (enc := jC) (v := c) (vs := (.slice (some ⟨O, 0, none⟩) 1 1)) (R := g) b (fun _ => rfl) dc xZ aO rh.1 rh.2.1 rfl rh.2.2.1 rh.2.2.2 rfl rfl x (Sl.lit (enc := jC) (l := [k]) (fun _ => rfl) rfl nb rfl (b.at_ (Ma Mh))) U (fun c2 b3 a4 b Q => Wa (ig (iJ (gV ?_)))))
   replace b := b.gL (Kr (Db St))
   exact ⟨m, b3, b1, a4, _, ⟨rfl, o⟩, (b.gL St), rfl, u, Q, (by rw [K]; exact a)⟩
  exact iO (iJ (gV ⟨m, c, t, g, _, ⟨rfl, o⟩, (b.gL St), j, u, x, (by rw [K]; exact a)⟩))
 rintro E W ⟨c, t, g, D, ⟨m, o⟩, b, j, u, x, a⟩
 rw [aB] at a
 refine gV (sg (Wh j (bS a fun b2 L a => ?_)))
 refine VE (eM b (Cr Qz Cn) call182 (fun q _ => (CO c t g _ _ q x L)) ?_)
 rintro _ c8 d1 b8 b b5 s d ⟨a5, z, rfl, a3⟩
 obtain rfl := z.symm
 replace b := b.perm (Tr Tn)
 refine lr (Wh j (bS a fun c7 a2 a => ?_))
 refine VE (eM b (Cr Qz Cn) call239 (fun q _ => (ua c b2 a5 _ _ q a3 a2)) ?_)
 rintro _ c9 d2 b9 b b6 A d ⟨b4, M, B, rfl, I⟩
 obtain rfl := B.symm
 replace b := b.perm (Tr Tn)
 refine Wa (lt ?_)
 obtain rfl := sj a
 exact iS (v := b4) rfl rfl ⟨_, M, rfl, b.kz (fun p hq => (Ml hq)) I.nd, I⟩
theorem AB (B : Value) (G : List gG) (r : List ByteArray) (w : World) (y : Sl (Pl gJ) 9 (hp w) B G) (hm : sX G = some r) :
  iY true pg0 127 [B] w 9 jC 1 r := by
 refine qS 29 func127 rfl (fun d => sg (Wa (lr (Wa (lS (Wm ?_))))))
 refine V (lV ap rfl y) (Wm (ln (iZ (fun i E W => ∃ g k j t, (E 8 = .int .i64 (i : Nat) ∧ E 7 = .int .i64 (G.length : Nat)) ∧ ST true iE w W (hp w) (j ++ t) ∧ E 3 = g ∧ E 6 = B ∧ hZ 9 jC 1 g k j ∧ mZ (G.drop i) k = some r) G.length y.len ⟨(.slice none 0 0), ([]), [], _, ⟨rfl, rfl⟩, (d.gL St), rfl, rfl, (hZ.nil _ _ _), hm⟩ dc dc dc (fun _ _ _ h => by obtain ⟨_, _, _, _, n, _⟩ := h; exact n) ?_ ?_)))
 ·rintro a5 E W T ⟨g, k, j, t, ⟨m, A⟩, d, u, x, z, c⟩
  obtain ⟨a, b4, Y, U, Z⟩ := iP T
  rw [Y] at c
  refine bg (VQ (jK (enc := gJ) (i := (a5 : Int)) (x0 := a) ap ae x m y (aw _) U) (fun b2 J => V (gM rfl (kq d.has J aM ae)) (VE (jc d aZ (fun O b1 d => VO (iw (.agg (gJ a).toArray) ((gJ a).toArray) d rfl rfl ae (jY a) nb rfl (fun P d => ln (gZ (Wh u (Wf nw (VB d Mh rfl rfl aI (Wf kX (Wf kJ ?_)))))))))))))
  refine VB d Mh rfl rfl aI (Wf jm (Wf kJ (VB d Mh rfl rfl aI (Wf lz (Wf kJ (VB d Mh rfl rfl aI (VE (iM (cs := #[(.string a.ib), (.string a.Head.gU), (.string a.B.gU), (.string a.C.gU)]) d (AX rfl rfl rfl rfl) (lm aO cy gv) (fun a8 Q d => ?_)))))))))
  replace d := d.perm (Nr (Qb (Qb Qz)) Nz)
  refine bS c fun L I c => VE (km (enc := jC) (v := g) (vs := (.slice (some ⟨Q, 0, none⟩) 4 4)) (R := j) d (fun _ => rfl) dc xZ aO rh.1 rh.2.1 rfl rh.2.2.1 rh.2.2.2 rfl rfl z (Sl.lit (enc := jC) (l := [a.ib, a.Head.gU, a.B.gU, a.C.gU]) (fun _ => rfl) rfl nb rfl (d.at_ (Ma Mh))) I (fun a9 a2 M d H => Wa (ig (iJ (gV ?_)))))
  replace d := d.gL (Kr (Db (Db St)))
  exact ⟨m, a2, L, M, _, ⟨rfl, A⟩, (d.gL St), rfl, x, H, (by rw [Z]; exact c)⟩
 rintro E W ⟨g, k, j, t, ⟨m, A⟩, d, u, x, z, c⟩
 rw [aB] at c
 refine gV (sg (Wh u (bS c fun b3 K c => VE (nt d call188 (vu g k _ _ (z.sl (fun _ => rfl) (fun b o s => d.at_ (Ml s))) K) (fun b0 a3 b5 N d a4 q D => Wa (ln ?_))))))
 replace d := d.gL (Kr (Dr St))
 refine iD ?_
 obtain rfl := sj c
 exact iS (v := a3) rfl rfl ⟨_, N, rfl, d.kz (fun p s => (Ml s)) D.nd, D⟩
theorem Da {κ β : Type} {a : κ → Value} {vf : β → Value} (v : Value) (l : List (κ × β)) (w : World) (i : ∃ m, v = .map (some m)) (hm : lU a vf (hp w) v l) : iF true pg0 128 [v] w [] (fun v R _ => ir a vf v l R) := by
 obtain ⟨c, rfl⟩ := i
 rcases hm with ⟨h, _⟩ | ⟨m, es, clock, h, d, hO⟩
 ·cases h
 obtain rfl : c = m := by injection h with h; injection h
 have b := ST.start (dd := true) w
 exact cF 9 func128 rfl (hX (gZ (V (kh rfl) (ig (gV (hX (hX (gZ (V (gW rfl) (V (yZ dh rfl rfl rfl) (ig (gV (mr rfl (iO (gV (hX (gZ (V (gW rfl) (V (Gt dh (by intro q h; cases h) rfl) (VE (FX b rfl rfl (DZ func189 (by kernel_rfl) (by kernel_rfl) (by kernel_rfl) (by kernel_rfl) _ (b.mem _ _ d)) (fun W g b => V (B9 dh rfl) (V (kh rfl) (ig (gV (iD (iS rfl rfl ⟨_, _, rfl, b.wq ⟨[], .refl _⟩, g, es, clock, rfl, rfl, hO⟩)))))))))))))))))))))))))))
theorem tr (g : Value) (t : List ByteArray) (j : Value) (D : ByteArray → Option Bool) (r : Int) (w : World) (c : Sl (Pl jC) 1 (hp w) g t) (G : qU pg0 j (hp w) (fun (x : ByteArray) => [(.string x)]) (fun (r : Bool) => (.bool r)) D) (hm : nP t D = some r) :
  iG false pg0 272 [g, j] w (.int .i64 r) := by
 refine cG 19 func272 rfl (fun b => sg (Wa (lS (Wm (V (lV aO rfl c) (Wm (ln (iZ (fun i E W => ∃ k, (E 8 = .int .i64 (i : Nat) ∧ E 7 = .int .i64 (t.length : Nat)) ∧ ST false iE w W (hp w) k ∧ E 0 = g ∧ E 1 = j ∧ ko D (t.drop i) i = some r) t.length c.len ⟨_, ⟨rfl, rfl⟩, (b.gL St), rfl, rfl, hm⟩ dc dc dc (fun _ _ _ h => by obtain ⟨_, l, _⟩ := h; exact l) ?_ ?_))))))))
 ·rintro T E W I ⟨k, ⟨d, m⟩, b, u, z, a⟩
  obtain ⟨B, U, N, M, Q⟩ := iP I
  rw [N] at a
  refine bg (Wh d (Wa (lr (Wh z (Wh u (Wm (VQ (jK (enc := jC) (i := (T : Int)) (x0 := B) aO cy rfl rfl c (aw _) M) (fun Z J => V (gM rfl (lg b.has (y := (.string B)) J aI)) (bS a fun n K a => ?_)))))))))
  refine VE (vQ B b G (iH.refl _) rfl (tq rfl) K (fun Y b => ln (CI a rfl (fun H a => ?_) (fun H a => ?_))))
  ·refine sg (Wm (Wa (lt (jD (iK (jD (iK ?_)))))))
   obtain rfl := sj a
   exact rP b
  exact iO (iJ (gV ⟨d, _, ⟨rfl, m⟩, (b.gL St), u, z, (by rw [Q]; exact a)⟩))
 rintro E W ⟨k, ⟨d, m⟩, b, u, z, a⟩
 rw [aB] at a
 exact gV (sg (Wa (lt (rQ a b))))
theorem su (a : Value) (g : List ByteArray) (c : Value) (i : ByteArray → Option Bool) (r : Bool) (w : World) (j : Sl (Pl jC) 1 (hp w) a g) (k : qU pg0 c (hp w) (fun (x : ByteArray) => [(.string x)]) (fun (r : Bool) => (.bool r)) i) (hm : mY g i = some r) :
  iG false pg0 240 [a, c] w (.bool r) := by
 refine cG 9 func240 rfl (fun b => sg (Wa (lr (Wm (Wm (bS hm fun y t hm => VE (Eg b call272 (tr a g c i _ _ (j.mono (Pl.mono _) b.iL) (k.mono b.iL) t) (fun u b => Wi rfl (Wa (ig ?_))))))))))
 exact gV (iD (rQ hm b))
theorem xy (u : ByteArray) (z : Nat) (i : Value) (G : (gH × ByteArray) → Option Bool) (B : Nat) (g : gG) (D : Nat) (I : ByteArray) (r : Bool) (w : World) (H : qU pg0 i (hp w) (fun (x : (gH × ByteArray)) => [(.agg (gK x.1).toArray), (.string x.2)]) (fun (r : Bool) => (.bool r)) G) (j : At (hp w) (.pointer (some ⟨z, 0, none⟩)) [i]) (k : At (hp w) (.pointer (some ⟨B, 0, none⟩)) (gJ g)) (J : At (hp w) (.pointer (some ⟨D, 0, none⟩)) [(.string I)]) (hm : nH u G g I = some r) :
  iG false pg0 241 [(.string u), (.pointer (some ⟨z, 0, none⟩)), (.pointer (some ⟨B, 0, none⟩)), (.pointer (some ⟨D, 0, none⟩))] w (.bool r) := by
 refine cG 20 func241 rfl (fun b => sg (Wa (lr (V (gM rfl (lg b.has (y := i) j isAgg104)) (VQ (uA (gK g.B) jm rfl k rfl) (fun h Y => V (gM rfl (kq b.has Y az ah)) (Wm (bS hm fun l Z hm => VE (vQ (g.B, u) b H (iH.refl _) rfl (uv rfl rfl) Z (fun W6 b => Wm ?_))))))))))
 refine LJ hm (fun M E W => ∃ K, ST false iE w W (hp w) K ∧ E 5 = (.bool false) ∧ E 19 = (.bool M)) 8 ?_ (fun M c t => ?_)
 ·rintro a5 E W ⟨K, b, a2, U⟩ N
  exact Wg U (lt (rQ N b))
 refine bC c (fun a c => ?_) (fun a c => ?_)
 ·refine ug a (gM rfl (lg b.has (y := i) j isAgg104)) (ug a (gW rfl) (H3 a (uA [(.string g.iv)] mV rfl k rfl) (fun a3 Q => ug a (gM rfl (lg b.has (y := (.string g.iv)) Q aI)) (ug a (kW (v := (.agg (gK (⟨u, g.iv⟩ : gH)).toArray)) (nI rfl rfl) (jQ cE bG (Bx _ bG) kr)) (ug a (gM rfl (lg b.has (y := (.string I)) J aI)) (bS c fun a4 T c => qN a (vQ ((⟨u, g.iv⟩ : gH), I) b H (iH.refl _) rfl (uv rfl rfl) T (fun d b => V (ie (cB a) rfl) ?_))))))))
  obtain rfl := sj c
  exact t _ _ ⟨_, (b.gL St), rfl, rfl⟩
 refine un a (un a (un a (un a (un a (un a (un a (V (ic (cB a) rfl) ?_)))))))
 obtain rfl := sj c
 exact t _ _ ⟨_, (b.gL St), rfl, rfl⟩
theorem zI (g : gG) (u : Value) (y : (gH × ByteArray) → Option Bool) (k : Value) (D : List ByteArray) (j : ByteArray) (r : Bool) (w : World) (i : qU pg0 u (hp w) (fun (x : (gH × ByteArray)) => [(.agg (gK x.1).toArray), (.string x.2)]) (fun (r : Bool) => (.bool r)) y) (J : Sl (Pl jC) 1 (hp w) k D) (hm : qG g y D j = some r) :
  iG false pg0 190 [(.agg (gJ g).toArray), u, k, (.string j)] w (.bool r) := by
 refine cG 41 func190 rfl (fun b => sg (VE (iU b rfl (fun W2 G b => ?_))))
 obtain ⟨f3, f4, f5, rfl⟩ := i.form
 refine VE (iU b rfl (fun W7 H b => VE (iU b rfl (fun W9 I b => Wa (lS (Wf kP (VB b (Mt (Mt Mh)) rfl rfl bV (ln (bg ?_)))))))))
 refine Wi rfl (Wa (ln (CI hm rfl (fun K hm => ?_) (fun K hm => ?_))))
 ·refine sg (Wf nw (VB b (Mt (Mt Mh)) rfl rfl aI (VB b Mh rfl rfl aI (V (pa rfl rfl rfl) (Wa (ln ?_))))))
  replace b := b.gL (Db (Db (Db St)))
  refine iD (jD (iK ?_))
  obtain rfl := sj hm
  exact rP b
 refine sg (Wi rfl (Wa (ln (CI hm rfl (fun M hm => ?_) (fun M hm => ?_)))))
 ·refine sg (VB b (Mt Mh) rfl rfl isAgg104 (Wf jm (VA b (Mt (Mt Mh)) (gK g.B) az ah (VB b Mh rfl rfl aI (bS hm fun p T hm => VE (vQ (g.B, j) b i (iH.refl _) rfl (uv rfl rfl) T (fun l b => Wa (ln ?_))))))))
  replace b := b.gL (Db (Db (Db St)))
  refine iD (jD (iK ?_))
  obtain rfl := sj hm
  exact rP b
 refine sg (Wi rfl (Wa (ln (CI hm rfl (fun N hm => ?_) (fun N hm => ?_)))))
 ·refine sg (VB b (Mt Mh) rfl rfl isAgg104 (Wf jm (VA b (Mt (Mt Mh)) (gK g.B) az ah (VB b Mh rfl rfl aI (bS hm fun q U hm => VE (vQ (g.B, j) b i (iH.refl _) rfl (uv rfl rfl) U (fun m b => Wm (LJ hm (fun B E W => ∃ z, ST false iE w W (hp w) z ∧ E 8 = (.bool false) ∧ E 37 = (.bool B)) 6 ?_ (fun B c t => ?_)))))))))
  ·rintro A E W ⟨z, b, o, h⟩ Q
   refine Wg h (lt (jD (iK ?_)))
   obtain rfl := sj Q
   exact rP b
  refine bC c (fun a c => ?_) (fun a c => ?_)
  ·refine ug a (gM rfl (ia b.has (Mt Mh) rfl isAgg104)) (ug a (gQ lz rfl) (ug a (gM rfl (gY b.has (Mt (Mt Mh)) (gK g.C) rfl az ah)) (ug a (gM rfl (ia b.has Mh rfl aI)) (bS c fun s Y c => qN a (vQ (g.C, j) b i (iH.refl _) rfl (uv rfl rfl) Y (fun a9 b => V (ie (cB a) rfl) ?_))))))
   obtain rfl := sj c
   exact t _ _ ⟨_, (b.gL (Db (Db (Db St)))), rfl, rfl⟩
  refine un a (un a (un a (un a (un a (V (ic (cB a) rfl) ?_)))))
  obtain rfl := sj c
  exact t _ _ ⟨_, (b.gL (Db (Db (Db St)))), rfl, rfl⟩
 refine iO (iJ (gV (sg (Wm (V (pW (by exact Hs rfl rfl rfl) rfl) (bS hm fun v Z hm => VE (Eg b call240 (su k D (.func (.func 241) #[] #[(.pointer (some ⟨H, 0, none⟩)), (.pointer (some ⟨G, 0, none⟩)), (.pointer (some ⟨I, 0, none⟩))]) (fun (x : ByteArray) => nH x y g j) _ _ (J.mono (Pl.mono _) b.iL) ⟨241, #[], #[(.pointer (some ⟨H, 0, none⟩)), (.pointer (some ⟨G, 0, none⟩)), (.pointer (some ⟨I, 0, none⟩))], rfl, call241, fun W x r d hm => xy x H (.func f3 f4 f5) y G g I j r W (i.mono (b.iL.trans d)) (At.of (d _ _ (b.at_ (Mt Mh))) _ rfl) (At.of (d _ _ (b.at_ (Mt (Mt Mh)))) _ rfl) (At.of (d _ _ (b.at_ Mh)) _ rfl) hm⟩ Z) (fun n b => Wa (ln ?_)))))))))
 exact iD (rQ hm b)
theorem vZ (c : gG) (B : Value) (f1 : (gH × ByteArray) → Option Bool) (T : Value) (a2 : List ByteArray) (r : List gI) (w : World) (b0 : qU pg0 B (hp w) (fun (x : (gH × ByteArray)) => [(.agg (gK x.1).toArray), (.string x.2)]) (fun (r : Bool) => (.bool r)) f1) (d8 : Sl (Pl jC) 1 (hp w) T a2) (hm : nD c f1 a2 = some r) :
  iY false pg0 130 [(.agg (gJ c).toArray), B, T] w 38 gS 3 r := by
 refine qS 47 func130 rfl (fun d => sg (VE (iU d rfl (fun W2 n d => Wa (lS (VA d Mh (gJ c) aM ae (bS hm fun r3 f5 hm => VE (Eg d call115 (iG.jH (pu c _ _  f5)) (fun W5 d => V (nn rfl) (Wm ?_))))))))))
 refine LJ hm (fun b6 E W => ∃ L8, ST false iE w W (hp w) ((n, Ol (gJ c) 108) :: L8) ∧ E 1 = B ∧ E 2 = T ∧ E 3 = (.pointer (some ⟨n, 0, none⟩)) ∧ E 17 = (.bool b6)) 3 ?_ (fun b6 u U => ?_)
 ·rintro x7 E W ⟨L8, d, d2, e8, a4, e9⟩ H
  refine ln (CI H e9 (fun d9 H => ?_) (fun d9 H => ?_))
  ·refine sg (Wa (ln ?_))
   replace d := d.gL (Db St)
   refine iD (iK ?_)
   obtain rfl := sj H
   exact iS (v := (.slice none 0 0)) rfl rfl ⟨_, [], rfl, d.kz (fun p o => by cases o) (by simp), hZ.nil _ _ _⟩
  refine kg (Wh e8 (bS H fun d3 e2 H => VE (nt d call188 (iY.jH (vu T a2 _ _ (d8.mono (Pl.mono _) d.iL) e2)) (fun g5 q g6 g4 d c4 ab a9 => Wa (lr (Wm (Wa (ig ?_))))))))
  refine gV (hX ?_)
  have e0 := a9.GU d (fun p o => (Ml o))
  obtain ⟨d4, d, c5, ad, b3⟩ := ST.By d a9 (fun _ => rfl)
  refine CJ H (fun b5 E W => ∃ Y Z d1, iH d4 Z ∧ ST false iE w W Z ((n, Ol (gJ c) 108) :: d1) ∧ E 1 = B ∧ E 2 = q ∧ E 3 = (.pointer (some ⟨n, 0, none⟩)) ∧ E 7 = Y ∧ Sl (Pl jC) 1 Z Y b5 ∧ Fr w.heap.size Y) (fun b5 t => ?_) ?_
  ·refine sg (V (gQ kP a4) (VB d Mh rfl rfl bV (Wi rfl (ln (CI t rfl (fun c1 t => ?_) (fun c1 t => ?_))))))
   ·refine gZ (V (gQ nw a4) (VB d Mh rfl rfl aI (VE (iM (cs := [(.string c.ib)].toArray) d (ml rfl) (lm aO cy gv) (fun g0 J d => Wa (ln ?_))))))
    obtain rfl := sj t
    have c2 : Fr w.heap.size (.slice (some ⟨J, 0, none⟩) 1 1) := Fr.box d Mh
    obtain ⟨e6, d, b2, a8, c8⟩ := ST.By (R := [(J, Ol [(.string c.ib)] 9)]) d (hZ.lit (l := [c.ib]) (enc := jC) (b := J) (m := 1) rfl dc rfl rfl) (fun _ => rfl)
    exact ⟨(.slice (some ⟨J, 0, none⟩) 1 1), e6, _, b2, (d.gL St), d2, rfl, a4, rfl, c8, c2⟩
   refine kn ?_
   obtain rfl := sj t
   exact ⟨q, d4, _, (iH.refl _), (d.gL St), d2, rfl, a4, rfl, b3, e0⟩
  rintro L E W ⟨Y, Z, d1, a5, d, f0, f2, f3, f4, a3, g1⟩ e1
  refine sg (Wa (lS (Wh f4 (V (lV aO rfl a3) (Wm (ln (iZ (fun i E W => ∃ k I j A, (E 29 = .int .i64 (i : Nat) ∧ E 28 = .int .i64 (L.length : Nat)) ∧ ST false iE w W Z ((n, Ol (gJ c) 108) :: (j ++ A)) ∧ E 1 = B ∧ E 2 = q ∧ E 3 = (.pointer (some ⟨n, 0, none⟩)) ∧ E 8 = k ∧ E 27 = Y ∧ hZ 38 gS 3 k I j ∧ lZ c f1 d3 (L.drop i) I = some r) L.length a3.len ⟨(.slice none 0 0), ([]), [], _, ⟨rfl, rfl⟩, (d.gL St), f0, f2, f3, rfl, rfl, (hZ.nil _ _ _), e1⟩ dc dc dc (fun _ _ _ h => by obtain ⟨_, _, _, _, O, _⟩ := h; exact O) ?_ ?_)))))))
  ·rintro e3 E W c3 ⟨k, I, j, A, ⟨s, P⟩, d, K, M, D, N, Q, z, a⟩
   obtain ⟨g, f6, d0, c9, a6⟩ := iP c3
   let a0 := (⟨c.Head, g⟩ : gI)
   rw [d0] at a
   refine bg (VQ (jK (enc := jC) (i := (e3 : Int)) (x0 := g) aO cy Q s a3 (aw _) c9) (fun g2 c6 => V (gM rfl (lg d.has (y := (.string g)) c6 aI)) (Wa (lr (V (gM D (gY d.has Mh (gJ c) rfl aM ae)) (Wh K (Wh M (Wm (bS a fun g3 c7 a => ?_)))))))))
   refine VE (Eg d call190 (zI c B f1 q d3 g _ _ (b0.mono (((c4.trans c5).trans a5).trans d.iL)) (b3.mono (Pl.mono _) (a5.trans d.iL)) c7) (fun f7 d => ln (CI a rfl (fun b9 a => ?_) (fun b9 a => ?_))))
   ·refine gZ (Wh N (V (gQ kX D) (VA d Mh (gK c.Head) az ah (Wm (V (kW (v := (.agg (gS (a0)).toArray)) (nI rfl rfl) (jQ cu bu (xQ _ bu) kr)) (VE (iM (cs := (gS (a0)).toArray) d (ml rfl) (lm bp aX cu) (fun f8 d7 d => ?_))))))))
    replace d := d.perm (Nr (Qb (Qb Qz)) Nz)
    refine bS a fun e4 c0 a => VE (km (enc := gS) (v := k) (vs := (.slice (some ⟨d7, 0, none⟩) 1 1)) (R := j) d kO dc rJ bp nL.1 nL.2.1 rfl nL.2.2.1 nL.2.2.2 rfl rfl z (Sl.lit (enc := gS) (l := [a0]) kO rfl nb rfl (d.at_ (Ma Mh))) c0 (fun f9 e5 d5 d b8 => Wa (ig (iJ (gV ?_)))))
    replace d := d.gL (Kr (Db St))
    exact ⟨s, e5, e4, d5, _, ⟨rfl, P⟩, (d.gL (Sb (Pr Pz) St)), K, M, D, rfl, Q, b8, (by rw [a6]; exact a)⟩
   exact iO (iJ (gV ⟨s, k, I, j, _, ⟨rfl, P⟩, (d.gL St), K, M, D, N, Q, z, (by rw [a6]; exact a)⟩))
  rintro E W ⟨k, I, j, A, ⟨s, P⟩, d, K, M, D, N, Q, z, a⟩
  rw [aB] at a
  refine gV ?_
  replace d := d.gL (Db St)
  refine sg (Wh N (Wa (lt ?_)))
  obtain rfl := sj a
  exact iS (v := k) rfl rfl ⟨_, j, rfl, d.kz (fun p o => (Ml o)) z.nd, z⟩
 refine bC u (fun G u => ?_) (fun G u => ?_)
 ·refine un G (un G (V (ie (cB G) rfl) ?_))
  obtain rfl := sj u
  exact U _ _ ⟨_, (d.gL St), rfl, rfl, rfl, rfl⟩
 refine ug G (gW rfl) (ug G (Eo underlying104 b0 rfl rfl) (V (ic (cB G) rfl) ?_))
 obtain rfl := sj u
 exact U _ _ ⟨_, (d.gL St), rfl, rfl, rfl, rfl⟩
theorem xP (a : gH) (g : ByteArray) (i : Nat) (c : Value) (u : List (gI × Int)) (r : Bool) (w : World) (t : lU (fun (x : gI) => (.agg (gS x).toArray)) (fun (x : Int) => (Value.int .i64 x)) (hp w) c u) (j : At (hp w) (.pointer (some ⟨i, 0, none⟩)) [c]) (hm : pI a g u = some r) :
  iG true pg0 129 [(.agg (gK a).toArray), (.string g), (.pointer (some ⟨i, 0, none⟩))] w (.bool r) := by
 refine cG 17 func129 rfl (fun d => sg (VE (iU d rfl (fun B D d => Wa (lr (V (gM rfl (lg d.has (y := c) j isAgg125)) (VA d Mh (gK a) az ah (Wm (V (kW (v := (.agg (gS (⟨a, g⟩ : gI)).toArray)) (nI rfl rfl) (jQ cu bu (xQ _ bu) kr)) (V (vD (k := (⟨a, g⟩ : gI)) (z := 0) (vf := (fun (x : Int) => (Value.int .i64 x))) yl dh dZ rfl rfl (t.mono (fun b o h => d.has.1 b o h))) (Wm ?_)))))))))))
 refine Wx rfl (Wx rfl (Wa (Wa (ln ?_))))
 replace d := d.gL (Db St)
 exact sg (Wm (Wa (lt (rQ hm d))))
theorem wj (d4 : Value) (a0 : List gG) (r : ((List (gI × Int)) × Int)) (w : World) (f7 : Sl (Pl gJ) 9 (hp w) d4 a0) (hm : oJ a0 = some r) :
  iF false pg0 62 [d4] w [] (fun v L1 W' => ∃ y1 S2, v = (.tuple #[y1, (.int .i64 (r.2))]) ∧ L1 = (S2 ++ []) ∧ ir (fun (x : gI) => (.agg (gS x).toArray)) (fun (x : Int) => (Value.int .i64 x)) y1 r.1 S2) := by
 refine qS 62 func62 rfl (fun d => sg (Wa (Wa (lr (Wm (bS hm fun O k6 hm => VE (nt d call51 (rZ d4 a0 _ _ (f7.mono (Pl.mono _) d.iL) k6) (fun W3 q aE R8 d k1 av e9 => Wm (bS hm fun k7 k2 hm => VE (nt d call51 (rZ d4 a0 _ _ (f7.mono (Pl.mono _) (k1.trans d.iL)) k2) (fun n1 k8 n4 n0 d m3 af j8 => ?_)))))))))))
 refine bS hm fun h2 k3 hm => VE (nt d call127 (iY.jH (AB k8 k7 _ _ (j8.sl iN (fun b o l => d.at_ (Ml l))) k3)) (fun n2 A j7 d8 d m4 ao j9 => Wa (Wa (ln ?_))))
 replace d := d.gL (Kr (Dr St))
 refine sg (VE (rI (P := pg0) (fun (x : gI) => (.agg (gS x).toArray)) (fun (x : Int) => (Value.int .i64 x)) d (fun n3 D k4 d k0 => Wa (lr (Wa (ln (pt (jy (mo (fun m E W => ∃ y a3 g d5 e3, iH j7 d5 ∧ ST false iE w W d5 (a3 ++ (d8 ++ (R8 ++ e3))) ∧ E 4 = q ∧ E 5 = A ∧ E 6 = D ∧ E 7 = (.int .i64 g) ∧ ir (fun (x : gI) => (.agg (gS x).toArray)) (fun (x : Int) => (Value.int .i64 x)) D y a3 ∧ mS h2 O m y g = some r) jq ⟨([]), k4, 0, j7, _, (iH.refl _), (d.gL St), rfl, rfl, rfl, rfl, k0, hm⟩ ?_)))))))))
 rintro m E W ⟨y, a3, g, d5, e3, f0, d, e6, h6, e7, h7, b7, Y⟩
 cases m with
 | zero => rw [mS] at Y; cases Y
 | succ j5 =>
  refine hX (bg (Wh e7 (VE (wk d (cW _) call128 (fun _ _ _ _ => iF.jH (Da _ y _ b7.form (b7.at (fun b o l => d.has.2 b o (Ml l))))) (fun l2 m7 d6 a4 d f1 ab _ b6 => VE (jc d zeroValue125 (fun l3 a d => ?_))) (L0 := [])))))
  obtain ⟨B, rfl⟩ := b6.form
  refine VO (iw (.map (some B)) (#[(.map (some B))]) d rfl rfl sizeOf125 oc nb rfl (fun l4 d => lr (V (pW (by exact tq rfl) rfl) (Wa (lS (Wh e6 (V (jf ap rfl e9) (Wm ?_))))))))
  refine ln (CJ Y (fun d2 E W => ∃ Q b5 e4, iH d6 b5 ∧ ST false iE w W b5 ((a, Ob #[(.map (some B))] 125) :: (a4 ++ (Q ++ (d8 ++ (R8 ++ e4))))) ∧ E 4 = q ∧ E 5 = A ∧ E 6 = D ∧ E 7 = (.int .i64 g) ∧ E 8 = (.pointer (some ⟨a, 0, none⟩)) ∧ ir (fun (x : gI) => (.agg (gS x).toArray)) (fun (x : Int) => (Value.int .i64 x)) D d2 Q) (fun d2 g2 => ?_) ?_)
  ·let f5 := (#[(.map (some B))] : Array Value)
   let e2 : Value := (.pointer (some ⟨a, 0, none⟩))
   let f4 : Value := (.func (.func 129) #[] #[e2])
   refine iZ (fun i E W => ∃ Z I R c1, (E 29 = .int .i64 (i : Nat) ∧ E 28 = .int .i64 (O.length : Nat)) ∧ iH d6 R ∧ ST false iE w W R ((a, Obj.cells f5 125 (0, 0)) :: (a4 ++ (I ++ (d8 ++ (R8 ++ c1))))) ∧ E 4 = q ∧ E 5 = A ∧ E 6 = D ∧ E 7 = (.int .i64 g) ∧ E 8 = e2 ∧ E 9 = f4 ∧ E 27 = q ∧ ir (fun (x : gI) => (.agg (gS x).toArray)) (fun (x : Int) => (Value.int .i64 x)) D Z I ∧ oy y h2 g (O.drop i) Z = some d2) O.length e9.len ⟨y, a3, d6, _, ⟨rfl, rfl⟩, (iH.refl _), (d.gL St), e6, h6, e7, h7, rfl, rfl, rfl, b7, g2⟩ dc dc dc (fun _ _ _ h => by obtain ⟨_, _, _, _, s, _⟩ := h; exact s) ?_ ?_
   ·rintro d0 E W g0 ⟨Z, I, R, c1, ⟨n, L⟩, a2, d, c4, a6, c5, c6, c7, c8, c9, b9, j⟩
    obtain ⟨N, k9, g9, d9, h0⟩ := iP g0
    rw [g9] at j
    refine bg (VQ (jo (i := (d0 : Int)) (x0 := N) ap ae c9 n e9 (aw _) d9) (fun m5 g5 => V (gM rfl (kD d.has (fun p l => (Mt (Ma (Ma (Ma (Ml l)))))) e9 iN g5 d9 aM ae)) (VE (jc d aZ (fun l5 m1 d => VO (iw (.agg (gJ N).toArray) ((gJ N).toArray) d rfl rfl ae (jY N) nb rfl (fun l6 d => lr (VA d Mh (gJ N) aM ae (Wh c8 (Wh a6 (bS j fun d1 g7 j => ?_)))))))))))
    refine VE (nt d call130 (vZ N f4 (fun (x : (gH × ByteArray)) => pI x.1 x.2 y) A h2 _ _ ⟨129, #[], #[e2], rfl, call129, fun W x r hs hm => (xP x.1 x.2 a (.map (some B)) y r W (b6.at (fun b o l => hs _ _ ((fun b o l => d.at_ (Mt (Mt (Ml l)))) b o l))) (At.of (hs _ _ (d.at_ (Mt Mh))) _ rfl) hm).jH⟩ (j9.sl (fun _ => rfl) (fun b o l => d.at_ (Mt (Mt (Ma (Ma (Ml l))))))) g7) (fun l7 j6 d7 h3 d f3 ad U => V (jf bp rfl U) (Wm (ln ?_))))
    replace d := d.gL (Kr (Db St))
    refine pt (CJ j (fun d3 E W => ∃ a5 e5, ST false iE w W d7 ((a, Obj.cells f5 125 (0, 0)) :: (a4 ++ (a5 ++ (d8 ++ (R8 ++ e5))))) ∧ E 4 = q ∧ E 5 = A ∧ E 6 = D ∧ E 7 = (.int .i64 g) ∧ E 8 = e2 ∧ E 9 = f4 ∧ E 27 = q ∧ E 28 = (.int .i64 (O.length : Int)) ∧ E 29 = (.int .i64 (d0 : Int)) ∧ ir (fun (x : gI) => (.agg (gS x).toArray)) (fun (x : Int) => (Value.int .i64 x)) D d3 a5) (fun d3 g4 => ?_) ?_)
    ·refine iZ (fun i E W => ∃ M J c2, (E 38 = .int .i64 (i : Nat) ∧ E 37 = .int .i64 (d1.length : Nat)) ∧ ST false iE w W d7 ((a, Obj.cells f5 125 (0, 0)) :: (h3 ++ (a4 ++ (J ++ (d8 ++ (R8 ++ c2)))))) ∧ E 4 = q ∧ E 5 = A ∧ E 6 = D ∧ E 7 = (.int .i64 g) ∧ E 8 = e2 ∧ E 9 = f4 ∧ E 27 = q ∧ E 28 = (.int .i64 (O.length : Int)) ∧ E 29 = (.int .i64 (d0 : Int)) ∧ E 36 = j6 ∧ ir (fun (x : gI) => (.agg (gS x).toArray)) (fun (x : Int) => (Value.int .i64 x)) D M J ∧ nf g (d1.drop i) M = some d3) d1.length U.len ⟨Z, I, _, ⟨rfl, rfl⟩, (d.gL (Sb (Pr Pz) St)), c4, a6, c5, c6, c7, c8, c9, L, n, rfl, b9, g4⟩ dc dc dc (fun _ _ _ h => by obtain ⟨_, _, _, s, _⟩ := h; exact s) ?_ ?_
     ·rintro j0 E W g1 ⟨M, J, c2, ⟨n, L⟩, d, a7, a8, K, T, a9, b0, b1, b2, b3, b4, H, c⟩
      obtain ⟨t, l0, h1, e0, e1⟩ := iP g1
      rw [h1] at c
      refine bg (VQ (jo (i := (j0 : Int)) (x0 := t) bp aX b4 n U (aw _) e0) (fun m6 g6 => V (gM rfl (kD d.has (fun p l => (Mt (Ml l))) U kO g6 e0 cz aX)) (VE (jc d cu (fun l8 m2 d => VO (iw (.agg (gS t).toArray) ((gS t).toArray) d rfl rfl aX (rJ t) nb rfl (fun l9 d => lr (Wh K (VA d Mh (gS t) cz aX (V (vD (k := t) (z := 0) (vf := (fun (x : Int) => (Value.int .i64 x))) yl dh dZ rfl rfl (H.at (fun b o l => d.has.2 b o (Mt (Mt (Ma (Ma (Ml l)))))))) (Wm ?_)))))))))))
      refine Wx rfl (Wx rfl (Wa (Wa (lr (Wm (V (nn rfl) (ln (CI c rfl (fun f9 c => ?_) (fun f9 c => ?_)))))))))
      ·refine gZ (Wh K (VA d Mh (gS t) cz aX (Wh T ?_)))
       replace d := d.perm (Nr (Qb (Qb (Qr (Qr Qz)))) Nz)
       refine VO (uK (k := t) (v := g) (vf := (fun (x : Int) => (Value.int .i64 x)))  yl dh d H rfl rfl rfl (fun m0 h4 d f6 => ig (iJ (gV ?_))))
       replace d := d.gL (Kr (Db St))
       exact ⟨n, (ji iy M t g), h4, _, ⟨rfl, L⟩, (d.gL (Sb (Pr Pz) (Sr (Qr Qz) (Sr (Qr Qz) St)))), a7, a8, K, T, a9, b0, b1, b2, b3, b4, f6, (by rw [e1]; exact c)⟩
      refine iO (iJ (gV ?_))
      replace d := d.gL (Db St)
      exact ⟨n, M, J, _, ⟨rfl, L⟩, (d.gL St), a7, a8, K, T, a9, b0, b1, b2, b3, b4, H, (by rw [e1]; exact c)⟩
     rintro E W ⟨M, J, c2, ⟨n, L⟩, d, a7, a8, K, T, a9, b0, b1, b2, b3, b4, H, c⟩
     rw [aB] at c
     refine gV ?_
     obtain rfl := sj c
     exact ⟨J, _, (d.gL (Kb (Dr St))), a7, a8, K, T, a9, b0, b1, b2, b3, H⟩
    rintro j4 E W ⟨a5, e5, d, i1, i2, i3, i4, i5, i6, i7, i8, i9, g8⟩ g3
    exact iJ (gV ⟨i9, j4, a5, d7, _, ⟨rfl, i8⟩, (a2.trans f3), (d.gL St), i1, i2, i3, i4, i5, i6, i7, g8, (by rw [h0]; exact g3)⟩)
   rintro E W ⟨Z, I, R, c1, ⟨n, L⟩, a2, d, c4, a6, c5, c6, c7, c8, c9, b9, j⟩
   rw [aB] at j
   refine gV ?_
   obtain rfl := sj j
   exact ⟨I, R, _, a2, (d.gL St), c4, a6, c5, c6, c7, b9⟩
  rintro j3 E W ⟨Q, b5, e4, f2, d, h8, h9, c3, e8, i0, b8⟩ G
  refine sg (Wh c3 (V (AV (vf := (fun (x : Int) => (Value.int .i64 x))) (kenc := (fun (x : gI) => (.agg (gS x).toArray))) dh rfl (b8.at (fun b o l => d.has.2 b o (Mt (Ma (Ml l)))))) (V (gM i0 (ia d.has Mh rfl isAgg125)) (V (AV (vf := (fun (x : Int) => (Value.int .i64 x))) (kenc := (fun (x : gI) => (.agg (gS x).toArray))) dh rfl (b6.at (fun b o l => d.has.2 b o (Mt (Ml l))))) (Wi rfl (ln ?_))))))
  replace d := d.gL (Db (Dr St))
  refine CI G rfl (fun f8 G => ?_) (fun f8 G => ?_)
  ·refine sg (Wh c3 (Wh e8 (Wa (Wa (ln ?_)))))
   replace d := d.gL (Kr (Dr (Dr St)))
   refine iD (jD (iK (iK (jD (iK ?_)))))
   obtain rfl := sj G
   exact u5 (v := D) (u := (.int .i64 g)) rfl rfl rfl ⟨_, _, rfl, (d.wq (Kr Sn)), D, Q, rfl, rfl, b8⟩
  exact iO (iJ (gV (gZ (Wh e8 (Wi rfl (Wa (ln ⟨j5, bq _, j3, Q, (wi0 .i64 (g + 1)), b5, _, ((f0.trans f1).trans f2), (d.gL St), h8, h9, c3, rfl, b8, G⟩)))))))
theorem wQ (g : Value) (i : List gG) (a : gI) (r : (Int × Bool)) (w : World) (t : Sl (Pl gJ) 9 (hp w) g i) (hm : pr i a = some r) :
  iG false pg0 18 [g, (.agg (gS a).toArray)] w (.tuple #[(.int .i64 r.1), (.bool r.2)]) := by
 refine cG 23 func18 rfl (fun d => sg (VE (iU d rfl (fun M Q d => Wa (Wa (lr (Wm (bS hm fun D B hm => ?_))))))))
 refine VE (wk d (cW _) call62 (fun _ _ _ _ => (wj g i _ _ (t.mono (Pl.mono _) d.iL) B)) (fun N T U H d G l h j => ?_) (L0 := []))
 obtain ⟨J, I, c, rfl, y⟩ := j
 replace c := c.symm; subst c
 replace d := d.perm (Tr Tn)
 refine Wm (Wx rfl (Wx rfl (Wa (Wa (lr (Wm (VA d (Ma Mh) (gS a) cz aX (V (vD (k := a) (z := 0) (vf := (fun (x : Int) => (Value.int .i64 x))) yl dh dZ rfl rfl (y.at (fun b o m => d.has.2 b o (Ml m)))) (Wm (Wx rfl (Wx rfl ?_)))))))))))
 refine Wa (Wa (ln ?_))
 replace d := d.gL (Dr (Db St))
 refine sg (Wm (Wm (Wa (Wa (lt ?_)))))
 obtain rfl := sj hm
 exact u5 (v := (.int .i64 (jh iy D.1 a 0))) (u := (.bool ((ij iy D.1 a).isSome))) rfl rfl rfl ⟨rfl, d.ex⟩
theorem w5 (c : Value) (g : List gG) (r : Int) (w : World) (i : Sl (Pl gJ) 9 (hp w) c g) (hm : pq g = some r) :
  iG false pg0 20 [c] w (.int .i64 r) := by
 refine cG 11 func20 rfl (fun b => sg (Wa (lr (Wm (bS hm fun G k hm => ?_)))))
 refine VE (wk b (cW _) call62 (fun _ _ _ _ => (wj c g _ _ (i.mono (Pl.mono _) b.iL) k)) (fun D H I B b t h d j => ?_) (L0 := []))
 obtain ⟨y, x, a, rfl, u⟩ := j
 replace a := a.symm; subst a
 replace b := b.perm (Tr Tn)
 refine Wm (Wx rfl (Wx rfl (Wa (Wa (ln ?_)))))
 replace b := b.gL (Dr St)
 exact sg (Wm (Wa (lt (rQ hm b))))
theorem tS (a5 : Value) (a0 : List gG) (r : List gH) (w : World) (e2 : Sl (Pl gJ) 9 (hp w) a5 a0) (hm : mf a0 = some r) :
  iY false pg0 16 [a5] w 28 gK 2 r := by
 refine qS 59 func16 rfl (fun d => sg (Wa (lr (VE (rI (P := pg0) (fun (x : gH) => (.agg (gK x).toArray)) (fun (x : Int) => (Value.int .i64 x)) d (fun W1 v4 R2 d h5 => Wa (lS ?_)))))))
 refine Wm (bS hm fun r5 h7 hm => VE (nt d call51 (rZ a5 a0 _ _ (e2.mono (Pl.mono _) d.iL) h7) (fun W7 h8 ad h4 d h1 af b2 => V (jf ap rfl b2) (Wm (ln (iZ (fun i E W => ∃ u H b6, (E 13 = .int .i64 (i : Nat) ∧ E 12 = .int .i64 (r5.length : Nat)) ∧ ST false iE w W ad (h4 ++ (H ++ b6)) ∧ E 0 = a5 ∧ E 3 = v4 ∧ E 11 = h8 ∧ ir (fun (x : gH) => (.agg (gK x).toArray)) (fun (x : Int) => (Value.int .i64 x)) v4 u H ∧ jO a0 (r5.drop i) u = some r) r5.length b2.len ⟨([]), R2, _, ⟨rfl, rfl⟩, (d.gL St), rfl, rfl, rfl, h5, hm⟩ dc dc dc (fun _ _ _ h => by obtain ⟨_, _, _, L, _⟩ := h; exact L) ?_ ?_))))))
 ·rintro h2 E W f7 ⟨u, H, b6, ⟨s, A⟩, d, O, M, a2, K, c⟩
  obtain ⟨g, i8, g3, d4, b3⟩ := iP f7
  let e0 := ((jh gO u g.Head 0) + 1)
  rw [g3] at c
  refine bg (VQ (jo (i := (h2 : Int)) (x0 := g) ap ae a2 s b2 (aw _) d4) (fun k4 g1 => V (gM rfl (kD d.has (fun p q => (Ml q)) b2 iN g1 d4 aM ae)) (VE (jc d aZ (fun j5 k2 d => VO (iw (.agg (gJ g).toArray) ((gJ g).toArray) d rfl rfl ae (jY g) nb rfl (fun j6 d => lr (Wf kP (VB d Mh rfl rfl bV (Wi rfl (ig ?_)))))))))))
  refine gV (CI c rfl (fun f6 c => ?_) (fun f6 c => ?_))
  ·replace d := d.drew
   have m := d.has.gL (Kb Sn)
   refine iR m iA (X 0 rfl m (gW M) (X 1 rfl m (gQ kX rfl) (XH 2 rfl m (fun _ n => gM rfl (gY n Mh (gK g.Head) rfl az ah)) (Hc 3 5 rfl rfl kr (.inl rfl) (.inl rfl) rfl rfl dc dc ?_ ?_))))
   ·refine .inl ⟨_, _, nR (k := g.Head) (z := 0) (vf := (fun (x : Int) => (Value.int .i64 x))) pf eT dZ rfl rfl (K.at (fun b o q => d.has.2 b o (Mt (Ma (Ml q))))), ⟨m, (X 4 rfl m (jz rfl rfl rfl) ?_)⟩⟩
    replace d := d.perm (Nr (Qb (Qr Qz)) Nz)
    refine XE 5 rfl (xK (k := g.Head) (x0 := 0) (vf := (fun (x : Int) => (Value.int .i64 x))) gP pf eT dZ d K rfl rfl (fun j7 i4 j3 d f3 => ?_))
    have m := d.has.gL (Dr (Kb Sn))
    refine ⟨m, (X 6 rfl m (pC rfl rfl) (XO 7 rfl (wo (z := (wi0 .i64 e0)) gP pf d f3 rfl rfl rfl (fun j8 g8 d f4 => ?_))))⟩
    have m := d.has.gL (Dr (Kb Sn))
    refine ⟨m, (jd kr (iJ (gV ?_)))⟩
    replace d := d.gL (Kr (Db St))
    exact ⟨s, (ji gO u g.Head (wi0 .i64 e0)), g8, _, ⟨rfl, A⟩, (d.gL (Sr (Qr Qz) St)), O, M, a2, f4, (by rw [b3]; exact c)⟩
   ·replace d := d.perm (Nr (Qb (Qr Qz)) Nz)
    refine xK (k := g.Head) (x0 := 0) (vf := (fun (x : Int) => (Value.int .i64 x))) gP pf eT dZ d K rfl rfl (fun j9 i5 j4 d d2 => ?_)
    have m := d.has.gL (Dr (Kb Sn))
    refine ⟨m, (X 6 rfl m (pC rfl rfl) (XE 3 rfl (.inl ⟨_, _, Bg (k := g.Head) (x0 := 0) (vf := (fun (x : Int) => (Value.int .i64 x))) gP pf eT dZ rfl rfl d2 (fun b o q => d.has.2 b o (Ml q)), ⟨m, (X 4 rfl m (jz rfl rfl rfl) (XO 7 rfl (wo (z := (wi0 .i64 e0)) gP pf d d2 rfl rfl rfl (fun k0 g9 d f5 => ?_))))⟩⟩)))⟩
    have m := d.has.gL (Dr (Kb Sn))
    refine ⟨m, (jd kr (iJ (gV ?_)))⟩
    replace d := d.gL (Kr (Db St))
    exact ⟨s, (ji gO u g.Head (wi0 .i64 e0)), g9, _, ⟨rfl, A⟩, (d.gL (Sr (Qr Qz) St)), O, M, a2, f5, (by rw [b3]; exact c)⟩
  refine iO (iJ (gV ?_))
  replace d := d.gL (Db St)
  exact ⟨s, u, H, _, ⟨rfl, A⟩, (d.gL St), O, M, a2, K, (by rw [b3]; exact c)⟩
 rintro E W ⟨u, H, b6, ⟨s, A⟩, d, O, M, a2, K, c⟩
 rw [aB] at c
 refine gV ?_
 replace d := d.gL (Dr St)
 refine sg (Wa (lS (Wh O (bS c fun a4 g2 c => VE (nt d call12 (qe a5 a0 _ _ (e2.mono (Pl.mono _) (h1.trans d.iL)) g2) (fun k1 c0 b5 b7 d h6 ab Y => V (jf cA rfl Y) (Wm (ln ?_))))))))
 refine CJ c (fun b9 E W => ∃ b4 a9 d9, ST false iE w W b5 (a9 ++ d9) ∧ E 6 = b4 ∧ hZ 28 gK 2 b4 b9 a9) (fun b9 g0 => ?_) ?_
 ·refine iZ (fun i E W => ∃ G a3 D a8, (E 31 = .int .i64 (i : Nat) ∧ E 30 = .int .i64 (a4.length : Nat)) ∧ ST false iE w W b5 (D ++ (b7 ++ (H ++ a8))) ∧ E 3 = v4 ∧ E 6 = G ∧ E 29 = c0 ∧ hZ 28 gK 2 G a3 D ∧ kR u (a4.drop i) a3 = some b9) a4.length Y.len ⟨(.slice none 0 0), ([]), [], _, ⟨rfl, rfl⟩, (d.gL St), M, rfl, rfl, (hZ.nil _ _ _), g0⟩ dc dc dc (fun _ _ _ h => by obtain ⟨_, _, _, _, L, _⟩ := h; exact L) ?_ ?_
  ·rintro b8 E W f8 ⟨G, a3, D, a8, ⟨s, A⟩, d, b0, Q, T, Z, y⟩
   obtain ⟨t, i9, g4, d5, d6⟩ := iP f8
   rw [g4] at y
   refine bg (VQ (jo (i := (b8 : Int)) (x0 := t) cA bI T s Y (aw _) d5) (fun i3 e6 => V (gM rfl (kD d.has (fun p q => (Ma (Ml q))) Y pE e6 d5 ey bI)) (VE (jc d cM (fun h9 N d => VO (iw (.agg (gX t).toArray) ((gX t).toArray) d rfl rfl bI (mj t) nb rfl (fun i0 d => ln (hX ?_))))))))
   replace d := d.drew
   have m := d.has.gL (Kb (Dr (Dr (Kr Sn))))
   refine iR m iA (X 0 rfl m (gQ wG rfl) (XH 1 rfl m (fun _ n => gM rfl (ia n Mh rfl bV)) (X 2 rfl m (jz rfl rfl rfl) (X 3 rfl m (gW rfl) (PJ y (fun d8 E W => ∃ c1, ST false iE w W b5 ((N, Ol (gX t) 30) :: (D ++ (b7 ++ (H ++ c1)))) ∧ E 3 = v4 ∧ E 6 = G ∧ E 8 = (.pointer (some ⟨N, 0, none⟩)) ∧ E 29 = c0 ∧ E 30 = (.int .i64 (a4.length : Int)) ∧ E 31 = (.int .i64 (b8 : Int)) ∧ E 42 = (.bool d8)) (bm 17 255) 9 ?_ (fun d8 J a7 => ?_))))))
   ·rintro i6 E W ⟨c1, d, b1, c3, U, c4, c5, c6, f0⟩ e5
    have m := d.has.gL (Kb (Dr (Dr (Kr Sn))))
    refine X 8 rfl m (gW f0) (PJ e5 (fun d7 E W => ∃ c2, ST false iE w W b5 ((N, Ol (gX t) 30) :: (D ++ (b7 ++ (H ++ c2)))) ∧ E 3 = v4 ∧ E 6 = G ∧ E 8 = (.pointer (some ⟨N, 0, none⟩)) ∧ E 29 = c0 ∧ E 30 = (.int .i64 (a4.length : Int)) ∧ E 31 = (.int .i64 (b8 : Int)) ∧ E 51 = (.bool d7)) (bm 17 131071) 0 ?_ (fun d7 I a6 => ?_))
    ·rintro i7 E W ⟨c2, d, c7, c8, f1, c9, d0, d1, f2⟩ B
     refine jd kr (gV (CI B f2 (fun e3 B => ?_) (fun e3 B => ?_)))
     ·refine gZ (Wh c8 (V (gQ u6 f1) (VA d Mh (gK t.gH) az ah (VE (iM (cs := (gK t.gH).toArray) d (ml rfl) (lm cq ah cE) (fun i1 e9 d => ?_))))))
      replace d := d.perm (Nr (Qb (Qb Qz)) Nz)
      refine bS B fun g5 e4 B => VE (km (enc := gK) (v := G) (vs := (.slice (some ⟨e9, 0, none⟩) 1 1)) (R := D) d rF dc oH cq pL.1 pL.2.1 rfl pL.2.2.1 pL.2.2.2 rfl rfl Z (Sl.lit (enc := gK) (l := [t.gH]) rF rfl nb rfl (d.at_ (Ma Mh))) e4 (fun i2 g6 e8 d e1 => Wa (ig (iJ (gV ?_)))))
      replace d := d.gL (Kr (Db (Db St)))
      exact ⟨d1, g6, g5, e8, _, ⟨rfl, d0⟩, (d.gL St), c7, rfl, c9, e1, (by rw [d6]; exact B)⟩
     refine iO (iJ (gV ?_))
     replace d := d.gL (Db St)
     exact ⟨d1, G, a3, D, _, ⟨rfl, d0⟩, (d.gL St), c7, c8, c9, Z, (by rw [d6]; exact B)⟩
    refine bC I (fun a I => ?_) (fun a I => ?_)
    ·refine Xg 9 rfl rfl (cB a) m (gW b1) (Xg 10 rfl rfl (cB a) m (gQ u6 U) (qZ 11 rfl rfl (cB a) m (fun _ n => gM rfl (gY n Mh (gK t.gH) rfl az ah)) (qZ 12 rfl rfl (cB a) m (fun _ n => nR (k := t.gH) (z := 0) (vf := (fun (x : Int) => (Value.int .i64 x))) pf eT dZ rfl rfl (K.at (fun b o q => n.2 b o (Mt (Ml q))))) (Xg 13 rfl rfl (cB a) m (gQ wG U) (qZ 14 rfl rfl (cB a) m (fun _ n => gM rfl (ia n Mh rfl bV)) (Xg 15 rfl rfl (cB a) m (jz rfl rfl rfl) (X 16 rfl m (ie (cB a) rfl) ?_)))))))
     obtain rfl := sj I
     refine jU kr (a6 _ _ ⟨_, (d.gL St), b1, c3, U, c4, c5, c6, rfl⟩)
    refine Xn 9 rfl rfl (cB a) m (Xn 10 rfl rfl (cB a) m (Xn 11 rfl rfl (cB a) m (Xn 12 rfl rfl (cB a) m (Xn 13 rfl rfl (cB a) m (Xn 14 rfl rfl (cB a) m (Xn 15 rfl rfl (cB a) m (X 16 rfl m (ic (cB a) rfl) ?_)))))))
    obtain rfl := sj I
    refine jU kr (a6 _ _ ⟨_, (d.gL St), b1, c3, U, c4, c5, c6, rfl⟩)
   refine bC J (fun j J => ?_) (fun j J => ?_)
   ·refine Xg 4 rfl rfl (cB j) m (gQ w7 rfl) (qZ 5 rfl rfl (cB j) m (fun _ n => gM rfl (ia n Mh rfl bV)) (Xg 6 rfl rfl (cB j) m (jz rfl rfl rfl) (X 7 rfl m (ie (cB j) rfl) ?_)))
    obtain rfl := sj J
    refine jU kr (a7 _ _ ⟨_, (d.gL St), b0, Q, rfl, T, A, s, rfl⟩)
   refine Xn 4 rfl rfl (cB j) m (Xn 5 rfl rfl (cB j) m (Xn 6 rfl rfl (cB j) m (X 7 rfl m (ic (cB j) rfl) ?_)))
   obtain rfl := sj J
   refine jU kr (a7 _ _ ⟨_, (d.gL St), b0, Q, rfl, T, A, s, rfl⟩)
  rintro E W ⟨G, a3, D, a8, ⟨s, A⟩, d, b0, Q, T, Z, y⟩
  rw [aB] at y
  refine gV ?_
  obtain rfl := sj y
  exact ⟨G, D, _, (d.gL (Kr (Dr (Dr St)))), Q, Z⟩
 rintro k3 E W ⟨b4, a9, d9, d, h0, d3⟩ f9
 refine sg (Wh h0 (Wa (lt ?_)))
 obtain rfl := sj f9
 exact iS (v := b4) rfl rfl ⟨_, a9, rfl, d.kz (fun p q => (Ml q)) d3.nd, d3⟩
set_option maxHeartbeats 4000000 in
theorem Ar (r : Bool) (w : World) (hm : pM  = some r) :
  iG false pg0 10 [] w (.bool r) := by
 refine cG 76 func10 rfl (fun n => sg (Wa (lr (V (kW (v := (.agg (gK K7).toArray)) (nI rfl rfl) (jQ cE bG (Bx _ bG) kr)) (V (kW (v := (.agg (gK K6).toArray)) (nI rfl rfl) (jQ cE bG (Bx _ bG) kr)) (VE (jc n cE (fun W2 b1 n => VE (jc n cE (fun W4 o n => ?_))))))))))
 replace n := n.perm (Nb (Pb Pz) Nz)
 refine VO (iw (.agg (gK K7).toArray) ((gK K7).toArray) n rfl rfl ah (oH K7) nb rfl (fun W5 n => ?_))
 replace n := n.perm (Nb (Pb Pz) Nz)
 refine VO (iw (.agg (gK K6).toArray) ((gK K6).toArray) n rfl rfl ah (oH K6) nb rfl (fun W6 n => lr (VA n (Mt Mh) (gK K7) az ah (VA n Mh (gK K6) az ah (V (kW (v := (.agg (gJ vd).toArray)) (BL rfl rfl rfl) (jQ aZ bN (Dm _ bN) kr)) (VA n Mh (gK K6) az ah (V (kW (v := (.agg (gJ vm).toArray)) (BL rfl rfl rfl) (jQ aZ bN (Dm _ bN) kr)) (VE (iM (cs := C1.toArray) n (nI rfl rfl) (lm ap ae aZ) (fun W8 u n => Wa (ln (hX ?_))))))))))))
 refine gZ (Wm (bS hm fun r9 i7 hm => VE (nt n call12 (qe (.slice (some ⟨u, 0, none⟩) 2 2) ([vd, vm]) _ _ (Sl.lit (enc := gJ) (l := [vd, vm]) iN rfl nb rfl (n.at_ Mh)) i7) (fun l8 m3 T Q n j6 ao P => Wa (lr (Wm (bS hm fun x i8 hm => VE (Eg n call14 (xS (.slice (some ⟨u, 0, none⟩) 2 2) ([vd, vm]) _ _ (Sl.lit (enc := gJ) (l := [vd, vm]) iN rfl nb rfl (n.at_ (Ma Mh))) i8) (fun l9 n => Wm (Wx rfl (Wx rfl ?_)))))))))))
 let a0 : Value := (.slice (some ⟨u, 0, none⟩) 2 2)
 refine VE (jc n cM (fun m0 G n => VO (iw (.agg (gX x.1).toArray) ((gX x.1).toArray) n rfl rfl bI (mj x.1) nb rfl (fun m1 n => Wa (lr (Wm (VA n (Mt (Ma (Mt (Mt Mh)))) (gK K7) az ah (V (kW (v := (.agg (gS (⟨K7, K5⟩ : gI)).toArray)) (nI rfl rfl) (jQ cu bu (xQ _ bu) kr)) (bS hm fun Y i9 hm => VE (Eg n call18 (wQ a0 ([vd, vm]) (⟨K7, K5⟩ : gI) _ _ (Sl.lit (enc := gJ) (l := [vd, vm]) iN rfl nb rfl (n.at_ (Mt (Ma Mh)))) i9) (fun m2 n => Wm (Wx rfl (Wx rfl ?_)))))))))))))
 refine Wa (Wa (ln ?_))
 replace n := n.gL (Kb (Kr (Kb (Kb (Db St)))))
 refine hX ?_
 replace n := n.drew
 have d := n.has.gL (Kb (Kr (Db (Kb Sn))))
 refine iR d iA (X 0 rfl d (gW rfl) (X 1 rfl d (jf cA rfl P) (X 2 rfl d (jz rfl rfl rfl) (X 3 rfl d (gW rfl) (PJ hm (fun f5 E W => ∃ c1, ST false iE w W T ((G, Ol (gX x.1) 30) :: ((u, Ol C1 108) :: ((o, Ol (gK K6) 28) :: (Q ++ c1)))) ∧ E 0 = (.bool false) ∧ E 2 = (.pointer (some ⟨o, 0, none⟩)) ∧ E 3 = a0 ∧ E 5 = (.pointer (some ⟨G, 0, none⟩)) ∧ E 6 = (.bool x.2) ∧ E 7 = (.int .i64 Y.1) ∧ E 8 = (.bool Y.2) ∧ E 41 = (.bool f5)) (bm 46 2047) 35 ?_ (fun f5 D b4 => ?_))))))
 ·let j1 := ((gK K6).toArray : Array Value)
  let q := ((gX x.1).toArray : Array Value)
  rintro k9 E W ⟨c1, n, c9, d0, d1, d2, h3, d3, d4, h4⟩ f9
  have d := n.has.gL (Kb (Db (Sr (Qb Qz) (Kb Sn))))
  refine X 11 rfl d (gW h4) (PJ f9 (fun f4 E W => ∃ c2, ST false iE w W T ((G, Obj.cells q 30 (0, 0)) :: ((u, Ol C1 108) :: ((o, Obj.cells j1 28 (0, 0)) :: (Q ++ c2)))) ∧ E 0 = (.bool false) ∧ E 2 = (.pointer (some ⟨o, 0, none⟩)) ∧ E 3 = a0 ∧ E 5 = (.pointer (some ⟨G, 0, none⟩)) ∧ E 7 = (.int .i64 Y.1) ∧ E 8 = (.bool Y.2) ∧ E 44 = (.bool f4)) (bm 46 16383) 32 ?_ (fun f4 N b2 => ?_))
  ·rintro l0 E W ⟨c2, n, d5, h5, d6, h6, d7, d8, h7⟩ g0
   have d := n.has.gL (Kb (Db (Sr (Qb Qz) (Kb Sn))))
   refine X 14 rfl d (gW h7) (PJ g0 (fun f3 E W => ∃ c3, ST false iE w W T ((G, Obj.cells q 30 (0, 0)) :: ((u, Ol C1 108) :: ((o, Obj.cells j1 28 (0, 0)) :: (Q ++ c3)))) ∧ E 0 = (.bool false) ∧ E 3 = a0 ∧ E 7 = (.int .i64 Y.1) ∧ E 8 = (.bool Y.2) ∧ E 50 = (.bool f3)) (bm 46 1048575) 26 ?_ (fun f3 M b0 => ?_))
   ·rintro l1 E W ⟨c3, n, d9, e0, e1, h8, h9⟩ g1
    have d := n.has.gL (Kb (Db (Sr (Qb Qz) (Kb Sn))))
    refine X 20 rfl d (gW h9) (PJ g1 (fun f2 E W => ∃ c4, ST false iE w W T ((G, Obj.cells q 30 (0, 0)) :: ((u, Ol C1 108) :: ((o, Obj.cells j1 28 (0, 0)) :: (Q ++ c4)))) ∧ E 0 = (.bool false) ∧ E 3 = a0 ∧ E 7 = (.int .i64 Y.1) ∧ E 53 = (.bool f2)) (bm 46 8388607) 23 ?_ (fun f2 K a9 => ?_))
    ·rintro l2 E W ⟨c4, n, e2, e3, i0, i1⟩ g2
     have d := n.has.gL (Kb (Db (Sr (Qb Qz) (Kb Sn))))
     refine X 23 rfl d (gW i1) (PJ g2 (fun f1 E W => ∃ c5, ST false iE w W T ((G, Obj.cells q 30 (0, 0)) :: ((u, Ol C1 108) :: ((o, Obj.cells j1 28 (0, 0)) :: (Q ++ c5)))) ∧ E 0 = (.bool false) ∧ E 3 = a0 ∧ E 57 = (.bool f1)) (bm 46 134217727) 19 ?_ (fun f1 J a8 => ?_))
     ·rintro l3 E W ⟨c5, n, e4, L, i2⟩ g3
      have d := n.has.gL (Kb (Db (Sr (Qb Qz) (Kb Sn))))
      refine X 27 rfl d (gW i2) (PJ g3 (fun f0 E W => ∃ c6, ST false iE w W T ((G, Obj.cells q 30 (0, 0)) :: ((u, Ol C1 108) :: ((o, Obj.cells j1 28 (0, 0)) :: (Q ++ c6)))) ∧ E 0 = (.bool false) ∧ E 3 = a0 ∧ E 62 = (.bool f0)) (bm 46 4294967295) 14 ?_ (fun f0 B a7 => ?_))
      ·rintro l4 E W ⟨c6, n, e5, O, i3⟩ g4
       have d := n.has.gL (Kb (Db (Sr (Qb Qz) (Kb Sn))))
       refine X 32 rfl d (gW i3) (PJ g4 (fun e9 E W => ∃ Z c7, iH T Z ∧ ST false iE w W Z ((G, Obj.cells q 30 (0, 0)) :: ((u, Ol C1 108) :: ((o, Obj.cells j1 28 (0, 0)) :: (Q ++ c7)))) ∧ E 0 = (.bool false) ∧ E 3 = a0 ∧ E 68 = (.bool e9)) (bm 46 274877906943) 8 ?_ (fun e9 z a6 => ?_))
       ·rintro l5 E W ⟨Z, c7, U, n, e6, i4, i5⟩ g5
        have d := n.has.vF U (Kb (Db (Sr (Qb Qz) (Kb Sn))))
        refine X 38 rfl d (gW i5) (PJ g5 (fun e8 E W => ∃ b9 c8, iH Z b9 ∧ ST false iE w W b9 ((G, Obj.cells q 30 (0, 0)) :: ((o, Obj.cells j1 28 (0, 0)) :: (Q ++ c8))) ∧ E 0 = (.bool false) ∧ E 75 = (.bool e8)) (bm 46 35184372088831) 1 ?_ (fun e8 t a5 => ?_))
        ·rintro l6 E W ⟨b9, c8, e7, n, k2, i6⟩ g6
         have d := n.has.vF (U.trans e7) (Kb (Sr (Qb Qz) (Kb Sn)))
         refine X 45 rfl d (kh i6) (jd kr (gV ?_))
         exact iD (rQ g6 n)
        refine bC t (fun c t => ?_) (fun c t => ?_)
        ·refine Xg 39 rfl rfl (cB c) d (gW i4) ?_
         replace n := n.perm (Nb (Pb Pz) Nz)
         have j5 : Fr w.heap.size a0 := Fr.box n Mh
         obtain ⟨l7, n, a2, ab, h2⟩ := ST.By (R := [(u, Ol C1 108)]) n (hZ.lit (l := [vd, vm]) (enc := gJ) (b := u) (m := 2) rfl dc rfl rfl) iN
         refine bS t fun _ c0 t => CZ 40 rfl kr (.inr ⟨38, true, 69, rfl, rfl, by decide, (cB c)⟩) rfl dc (fun _ _ h => h) d (uU (i := 1) ap ae rfl rfl h2 (pb c0) (oZ c0)) (fun j0 h1 => bS t fun k4 g8 t => zX 41 rfl rfl (cB c) (nt n call16 (tS j0 (([vd, vm]).drop (Int.toNat 1)) _ _ (h1.1.mono (Pl.mono _) n.iL) g8) (fun j9 k7 j3 j7 n a3 ad f7 => ?_)))
         have d := n.has.vF ((U.trans a2).trans a3) (Dr (Kb (Sr (Qb Qz) (Kb Sn))))
         refine ⟨d, (Xg 42 rfl rfl (cB c) d (jf cq rfl f7) (Xg 43 rfl rfl (cB c) d (jz rfl rfl rfl) (X 44 rfl d (ie (cB c) rfl) ?_)))⟩
         obtain rfl := sj t
         refine jU kr (a5 _ _ ⟨j3, _, (a2.trans a3), (n.gL (Dr St)), e6, rfl⟩)
        refine Xn 39 rfl rfl (cB c) d (Xn 40 rfl rfl (cB c) d (Xn 41 rfl rfl (cB c) d (Xn 42 rfl rfl (cB c) d (Xn 43 rfl rfl (cB c) d (X 44 rfl d (ic (cB c) rfl) ?_)))))
        obtain rfl := sj t
        refine jU kr (a5 _ _ ⟨Z, _, (iH.refl _), (n.gL (Kb (Db St))), e6, rfl⟩)
       refine bC z (fun j z => ?_) (fun j z => ?_)
       ·refine Xg 33 rfl rfl (cB j) d (gW O) (bS z fun k5 g9 z => zX 34 rfl rfl (cB j) (nt n call16 (tS a0 ([vd, vm]) _ _ (Sl.lit (enc := gJ) (l := [vd, vm]) iN rfl nb rfl (n.at_ (Mt Mh))) g9) (fun k0 k8 j4 j8 n a4 af f8 => ?_)))
        have d := n.has.vF a4 (Dr (Kb (Db (Sr (Qb Qz) (Kb Sn)))))
        refine ⟨d, (Xg 35 rfl rfl (cB j) d (jf cq rfl f8) (Xg 36 rfl rfl (cB j) d (jz rfl rfl rfl) (X 37 rfl d (ie (cB j) rfl) ?_)))⟩
        obtain rfl := sj z
        refine jU kr (a6 _ _ ⟨j4, _, a4, (n.gL (Dr St)), e5, O, rfl⟩)
       refine Xn 33 rfl rfl (cB j) d (Xn 34 rfl rfl (cB j) d (Xn 35 rfl rfl (cB j) d (Xn 36 rfl rfl (cB j) d (X 37 rfl d (ic (cB j) rfl) ?_))))
       obtain rfl := sj z
       refine jU kr (a6 _ _ ⟨T, _, (iH.refl _), (n.gL St), e5, O, rfl⟩)
      refine bC B (fun k B => ?_) (fun k B => ?_)
      ·refine Xg 28 rfl rfl (cB k) d (gW L) (bS B fun k6 h0 B => zX 29 rfl rfl (cB k) (Eg n call20 (w5 a0 ([vd, vm]) _ _ (Sl.lit (enc := gJ) (l := [vd, vm]) iN rfl nb rfl (n.at_ (Mt Mh))) h0) (fun k1 n => ?_)))
       have d := n.has.gL (Kb (Db (Sr (Qb Qz) (Kb Sn))))
       refine ⟨d, (Xg 30 rfl rfl (cB k) d (jz rfl rfl rfl) (X 31 rfl d (ie (cB k) rfl) ?_))⟩
       obtain rfl := sj B
       refine jU kr (a7 _ _ ⟨_, (n.gL St), e4, L, rfl⟩)
      refine Xn 28 rfl rfl (cB k) d (Xn 29 rfl rfl (cB k) d (Xn 30 rfl rfl (cB k) d (X 31 rfl d (ic (cB k) rfl) ?_)))
      obtain rfl := sj B
      refine jU kr (a7 _ _ ⟨_, (n.gL St), e4, L, rfl⟩)
     refine bC J (fun y J => ?_) (fun y J => ?_)
     ·refine Xg 24 rfl rfl (cB y) d (gW i0) (Xg 25 rfl rfl (cB y) d (jz rfl rfl rfl) (X 26 rfl d (ie (cB y) rfl) ?_))
      obtain rfl := sj J
      refine jU kr (a8 _ _ ⟨_, (n.gL St), e2, e3, rfl⟩)
     refine Xn 24 rfl rfl (cB y) d (Xn 25 rfl rfl (cB y) d (X 26 rfl d (ic (cB y) rfl) ?_))
     obtain rfl := sj J
     refine jU kr (a8 _ _ ⟨_, (n.gL St), e2, e3, rfl⟩)
    refine bC K (fun I K => ?_) (fun I K => ?_)
    ·refine Xg 21 rfl rfl (cB I) d (gW h8) (X 22 rfl d (ie (cB I) rfl) ?_)
     obtain rfl := sj K
     refine jU kr (a9 _ _ ⟨_, (n.gL St), d9, e0, e1, rfl⟩)
    refine Xn 21 rfl rfl (cB I) d (X 22 rfl d (ic (cB I) rfl) ?_)
    obtain rfl := sj K
    refine jU kr (a9 _ _ ⟨_, (n.gL St), d9, e0, e1, rfl⟩)
   refine bC M (fun g M => ?_) (fun g M => ?_)
   ·refine Xg 15 rfl rfl (cB g) d (gQ u6 h6) (qZ 16 rfl rfl (cB g) d (fun _ s => gM rfl (gY s Mh (gK x.1.gH) rfl az ah)) (qZ 17 rfl rfl (cB g) d (fun _ s => gM h5 (gY s (Mt (Ma Mh)) (gK K6) rfl az ah)) (Xg 18 rfl rfl (cB g) d (qF rfl rfl (la dL) (nZ (mT _ x.1.gH K6))) (X 19 rfl d (ie (cB g) rfl) ?_))))
    obtain rfl := sj M
    refine jU kr (b0 _ _ ⟨_, (n.gL St), d5, d6, d7, d8, rfl⟩)
   refine Xn 15 rfl rfl (cB g) d (Xn 16 rfl rfl (cB g) d (Xn 17 rfl rfl (cB g) d (Xn 18 rfl rfl (cB g) d (X 19 rfl d (ic (cB g) rfl) ?_))))
   obtain rfl := sj M
   refine jU kr (b0 _ _ ⟨_, (n.gL St), d5, d6, d7, d8, rfl⟩)
  refine bC N (fun H N => ?_) (fun H N => ?_)
  ·refine Xg 12 rfl rfl (cB H) d (gW h3) (X 13 rfl d (ie (cB H) rfl) ?_)
   obtain rfl := sj N
   refine jU kr (b2 _ _ ⟨_, (n.gL St), c9, d0, d1, d2, d3, d4, rfl⟩)
  refine Xn 12 rfl rfl (cB H) d (X 13 rfl d (ic (cB H) rfl) ?_)
  obtain rfl := sj N
  refine jU kr (b2 _ _ ⟨_, (n.gL St), c9, d0, d1, d2, d3, d4, rfl⟩)
 refine bC D (fun a D => ?_) (fun a D => ?_)
 ·refine Xg 4 rfl rfl (cB a) d (gW rfl) (bS D fun f6 A D => CZ 5 rfl kr (.inr ⟨3, true, 34, rfl, rfl, by decide, (cB a)⟩) rfl dc (fun _ _ h => h) d (jo (i := 1) (x0 := f6) cA bI rfl rfl P (jP A) (jk A)) (fun k3 g7 => qZ 6 rfl rfl (cB a) d (fun _ s => gM rfl (kD s (fun p hq => (Mt (Ml hq))) P pE g7 (jk A) ey bI)) (qZ 7 rfl rfl (cB a) d (fun _ s => gM rfl (gY s (Mt (Ma Mh)) (gK K6) rfl az ah)) (Xg 8 rfl rfl (cB a) d (kW (v := (.agg (gX (⟨K6, 1, 1, 1⟩ : gT)).toArray)) (AX rfl rfl rfl rfl) (jQ cM cK (GW _ cK) kr)) (Xg 9 rfl rfl (cB a) d (qF rfl rfl (la eqGuardType30) (nZ (CT _ f6 (⟨K6, 1, 1, 1⟩ : gT)))) (X 10 rfl d (ie (cB a) rfl) ?_))))))
  obtain rfl := sj D
  refine jU kr (b4 _ _ ⟨_, (n.gL (Kb (Sb (Pr Pz) (Sb (Pr Pz) St)))), rfl, rfl, rfl, rfl, rfl, rfl, rfl, rfl⟩)
 refine Xn 4 rfl rfl (cB a) d (Xn 5 rfl rfl (cB a) d (Xn 6 rfl rfl (cB a) d (Xn 7 rfl rfl (cB a) d (Xn 8 rfl rfl (cB a) d (Xn 9 rfl rfl (cB a) d (X 10 rfl d (ic (cB a) rfl) ?_))))))
 obtain rfl := sj D
 refine jU kr (b4 _ _ ⟨_, (n.gL (Kb (Sb (Pr Pz) (Sb (Pr Pz) St)))), rfl, rfl, rfl, rfl, rfl, rfl, rfl, rfl⟩)
theorem AH (k : Value) (u : List gG) (r : Int) (w : World) (j : Sl (Pl gJ) 9 (hp w) k u) (hm : s9 u = some r) :
  iG true pg0 11 [k] w (.int .i64 r) := by
 refine cG 54 func11 rfl (fun b => sg (Wa (lr (Wa (lS (Wm ?_))))))
 refine V (lV ap rfl j) (Wm (ln (iZ (fun i E W => ∃ g t, (E 8 = .int .i64 (i : Nat) ∧ E 7 = .int .i64 (u.length : Nat)) ∧ ST true iE w W (hp w) t ∧ E 3 = (.int .i64 g) ∧ E 6 = k ∧ me (u.drop i) g = some r) u.length j.len ⟨0, _, ⟨rfl, rfl⟩, (b.gL St), rfl, rfl, hm⟩ dc dc dc (fun _ _ _ h => by obtain ⟨_, _, l, _⟩ := h; exact l) ?_ ?_)))
 ·rintro I E W z ⟨g, t, ⟨d, m⟩, b, x, y, c⟩
  obtain ⟨a, J, G, D, H⟩ := iP z
  rw [G] at c
  refine bg (VQ (jK (enc := gJ) (i := (I : Int)) (x0 := a) ap ae y d j (aw _) D) (fun Q B => V (gM rfl (kq b.has B aM ae)) (VE (jc b aZ (fun K N b => VO (iw (.agg (gJ a).toArray) ((gJ a).toArray) b rfl rfl ae (jY a) nb rfl (fun M b => ln (gZ (Wh x (Wf kX (Wf kJ (VB b Mh rfl rfl aI (V (lC aS rfl) ?_)))))))))))))
  refine Wi rfl (Wf kX (Wf pw (VB b Mh rfl rfl aI (V (lC aS rfl) (Wi rfl (Wf nw (VB b Mh rfl rfl aI (V (lC aS rfl) (Wi rfl (Wf jm (Wf kJ (VB b Mh rfl rfl aI (V (lC aS rfl) (Wi rfl ?_))))))))))))))
  refine Wf jm (Wf pw (VB b Mh rfl rfl aI (V (lC aS rfl) (Wi rfl (Wf lz (Wf kJ (VB b Mh rfl rfl aI (V (lC aS rfl) (Wi rfl (Wf lz (Wf pw (VB b Mh rfl rfl aI (V (lC aS rfl) (Wi rfl ?_))))))))))))))
  refine Wf mV (VB b Mh rfl rfl aI (V (lC aS rfl) (Wi rfl (Wi rfl (Wa (ig (iJ (gV ?_))))))))
  replace b := b.gL (Db St)
  exact ⟨d, (wi0 .i64 (g + (wi0 .i64 ((wi0 .i64 ((wi0 .i64 ((wi0 .i64 ((wi0 .i64 ((wi0 .i64 ((wi0 .i64 ((wi0 .i64 (20 + (a.Head.gU.size : Int))) + (a.Head.iz.size : Int))) + (a.ib.size : Int))) + (a.B.gU.size : Int))) + (a.B.iz.size : Int))) + (a.C.gU.size : Int))) + (a.C.iz.size : Int))) + (a.iv.size : Int))))), _, ⟨rfl, m⟩, (b.gL St), rfl, y, (by rw [H]; exact c)⟩
 rintro E W ⟨g, t, ⟨d, m⟩, b, x, y, c⟩
 rw [aB] at c
 exact gV (sg (Wh x (Wa (lt (rQ c b)))))
theorem Ay (B : Value) (G : List gG) (r : List ByteArray) (w : World) (y : Sl (Pl gJ) 9 (hp w) B G) (hm : re G = some r) :
  iY true pg0 132 [B] w 9 jC 1 r := by
 refine qS 29 func132 rfl (fun d => sg (Wa (lr (Wa (lS (Wm ?_))))))
 refine V (lV ap rfl y) (Wm (ln (iZ (fun i E W => ∃ g k j t, (E 8 = .int .i64 (i : Nat) ∧ E 7 = .int .i64 (G.length : Nat)) ∧ ST true iE w W (hp w) (j ++ t) ∧ E 3 = g ∧ E 6 = B ∧ hZ 9 jC 1 g k j ∧ mU (G.drop i) k = some r) G.length y.len ⟨(.slice none 0 0), ([]), [], _, ⟨rfl, rfl⟩, (d.gL St), rfl, rfl, (hZ.nil _ _ _), hm⟩ dc dc dc (fun _ _ _ h => by obtain ⟨_, _, _, _, n, _⟩ := h; exact n) ?_ ?_)))
 ·rintro a5 E W T ⟨g, k, j, t, ⟨m, A⟩, d, u, x, z, c⟩
  obtain ⟨a, b4, Y, U, Z⟩ := iP T
  rw [Y] at c
  refine bg (VQ (jK (enc := gJ) (i := (a5 : Int)) (x0 := a) ap ae x m y (aw _) U) (fun b2 J => V (gM rfl (kq d.has J aM ae)) (VE (jc d aZ (fun O b1 d => VO (iw (.agg (gJ a).toArray) ((gJ a).toArray) d rfl rfl ae (jY a) nb rfl (fun P d => ln (gZ (Wh u (Wf nw (VB d Mh rfl rfl aI (Wf kX (Wf kJ ?_)))))))))))))
  refine VB d Mh rfl rfl aI (Wf jm (Wf kJ (VB d Mh rfl rfl aI (Wf lz (Wf kJ (VB d Mh rfl rfl aI (VE (iM (cs := #[(.string a.ib), (.string a.Head.gU), (.string a.B.gU), (.string a.C.gU)]) d (AX rfl rfl rfl rfl) (lm aO cy gv) (fun a8 Q d => ?_)))))))))
  replace d := d.perm (Nr (Qb (Qb Qz)) Nz)
  refine bS c fun L I c => VE (km (enc := jC) (v := g) (vs := (.slice (some ⟨Q, 0, none⟩) 4 4)) (R := j) d (fun _ => rfl) dc xZ aO rh.1 rh.2.1 rfl rh.2.2.1 rh.2.2.2 rfl rfl z (Sl.lit (enc := jC) (l := [a.ib, a.Head.gU, a.B.gU, a.C.gU]) (fun _ => rfl) rfl nb rfl (d.at_ (Ma Mh))) I (fun a9 a2 M d H => Wa (ig (iJ (gV ?_)))))
  replace d := d.gL (Kr (Db (Db St)))
  exact ⟨m, a2, L, M, _, ⟨rfl, A⟩, (d.gL St), rfl, x, H, (by rw [Z]; exact c)⟩
 rintro E W ⟨g, k, j, t, ⟨m, A⟩, d, u, x, z, c⟩
 rw [aB] at c
 refine gV (sg (Wh u (bS c fun b3 K c => VE (nt d call188 (vu g k _ _ (z.sl (fun _ => rfl) (fun b o s => d.at_ (Ml s))) K) (fun b0 a3 b5 N d a4 q D => Wa (ln ?_))))))
 replace d := d.gL (Kr (Dr St))
 refine iD ?_
 obtain rfl := sj c
 exact iS (v := a3) rfl rfl ⟨_, N, rfl, d.kz (fun p s => (Ml s)) D.nd, D⟩
theorem yf (a : gH) (g : ByteArray) (i : Nat) (c : Value) (u : List (gI × Bool)) (r : Bool) (w : World) (t : lU (fun (x : gI) => (.agg (gS x).toArray)) (fun (x : Bool) => (Value.bool x)) (hp w) c u) (j : At (hp w) (.pointer (some ⟨i, 0, none⟩)) [c]) (hm : og a g u = some r) :
  iG true pg0 133 [(.agg (gK a).toArray), (.string g), (.pointer (some ⟨i, 0, none⟩))] w (.bool r) := by
 refine cG 11 func133 rfl (fun d => sg (VE (iU d rfl (fun B D d => Wa (lr (V (gM rfl (lg d.has (y := c) j isAgg191)) (VA d Mh (gK a) az ah (Wm (V (kW (v := (.agg (gS (⟨a, g⟩ : gI)).toArray)) (nI rfl rfl) (jQ cu bu (xQ _ bu) kr)) (V (nR (k := (⟨a, g⟩ : gI)) (z := false) (vf := (fun (x : Bool) => (Value.bool x))) yl underlying191 fF rfl rfl (t.mono (fun b o h => d.has.1 b o h))) (Wa ?_)))))))))))
 refine ln ?_
 exact iD (rQ hm d)
theorem AF (f6 : Value) (a0 : List gG) (q : gI) (r : ((List iu) × Bool)) (w : World) (h8 : Sl (Pl gJ) 9 (hp w) f6 a0) (hm : pN a0 q = some r) :
  iF false pg0 66 [f6, (.agg (gS q).toArray)] w [] (fun v L1 W' => ∃ y1 S2, v = (.tuple #[y1, (.bool (r.2))]) ∧ L1 = (S2 ++ []) ∧ hZ 140 iQ 12 y1 r.1 S2) := by
 refine qS 60 func66 rfl (fun d => sg (VE (iU d rfl (fun W2 A d => Wa (Wa (lr (Wm (bS hm fun r3 o2 hm => VE (nt d call51 (rZ f6 a0 _ _ (h8.mono (Pl.mono _) d.iL) o2) (fun W5 v9 ao f9 d n8 af f1 => Wm (bS hm fun k2 n9 hm => ?_)))))))))))
 refine VE (nt d call132 (iY.jH (Ay f6 a0 _ _ (h8.mono (Pl.mono _) (n8.trans d.iL)) n9)) (fun q0 O n6 g0 d p5 ad n7 => Wa (Wa (lr (VE (rI (P := pg0) (fun (x : gI) => (.agg (gS x).toArray)) (fun (x : Bool) => (Value.bool x)) d (fun q1 q4 o0 d h6 => VE (jc d zeroValue191 (fun q2 t d => ?_)))))))))
 obtain ⟨D, rfl⟩ := h6.form
 refine VO (iw (.map (some D)) (#[(.map (some D))]) d rfl rfl sizeOf191 oc nb rfl (fun q3 d => lr (V (pW (by exact tq rfl) rfl) (Wa (lr (Wa (ln (hX ?_))))))))
 refine sg (Wa (ln (jy (mo (fun m E W => ∃ d2 B b2 f7 d0 b3 Y g6, iH n6 Y ∧ ST false iE w W Y ((t, Ob #[(.map (some D))] 191) :: ((A, Ol (gS q) 38) :: (b2 ++ (b3 ++ (g0 ++ (f9 ++ g6)))))) ∧ E 3 = (.pointer (some ⟨A, 0, none⟩)) ∧ E 6 = v9 ∧ E 7 = O ∧ E 8 = (.pointer (some ⟨t, 0, none⟩)) ∧ E 9 = (.func (.func 133) #[] #[(.pointer (some ⟨t, 0, none⟩))]) ∧ E 10 = d2 ∧ E 11 = (.int .i64 f7) ∧ hZ 140 iQ 12 d2 B b2 ∧ ir (fun (x : gI) => (.agg (gS x).toArray)) (fun (x : Bool) => (Value.bool x)) (.map (some D)) d0 b3 ∧ mg k2 q r3 m B f7 d0 = some r) jq ⟨(.slice none 0 0), ([]), [], (-1), ([]), o0, n6, _, (iH.refl _), (d.gL (Kb (Sb (Pr (Pr (Pr Pz))) St))), rfl, rfl, rfl, rfl, rfl, rfl, rfl, (hZ.nil _ _ _), h6, hm⟩ ?_))))
 let j1 := (#[(.map (some D))] : Array Value)
 let h5 : Value := (.pointer (some ⟨A, 0, none⟩))
 let g5 := ((gS q).toArray : Array Value)
 let a9 : Value := (.pointer (some ⟨t, 0, none⟩))
 let e0 : Value := (.func (.func 133) #[] #[a9])
 rintro m E W ⟨d2, B, b2, f7, d0, b3, Y, g6, h2, d, k7, h1, k8, k9, l0, e4, l1, d8, j4, y⟩
 cases m with
 | zero => rw [mg] at y; cases y
 | succ n4 =>
  refine hX (sg (Wh l1 (Wh e4 (V (jf bd rfl d8) (Wi rfl (ln (CI y rfl (fun h9 y => ?_) (fun h9 y => ?_))))))))
  ·refine kn (bg (Wh e4 (V (jf bd rfl d8) (Wa (lr (Wh h1 (V (jf ap rfl f1) (Wm ?_))))))))
   refine ln (pt (FD y (fun a7 E W => ∃ d3 b4 b5 d5 g7, iH Y d5 ∧ ST false iE w W d5 ((t, Obj.cells j1 191 (0, 0)) :: ((A, Obj.cells g5 38 (0, 0)) :: (b4 ++ (b5 ++ (g0 ++ (f9 ++ g7)))))) ∧ E 3 = h5 ∧ E 6 = v9 ∧ E 7 = O ∧ E 8 = a9 ∧ E 9 = e0 ∧ E 10 = d3 ∧ E 11 = (.int .i64 (B.length : Int)) ∧ hZ 140 iQ 12 d3 a7.1 b4 ∧ ir (fun (x : gI) => (.agg (gS x).toArray)) (fun (x : Bool) => (Value.bool x)) (.map (some D)) a7.2 b5) (fun a7 i6 d6 => ?_) ?_))
   ·let j2 : Value := (.int .i64 (B.length : Int))
    refine iZ (fun i E W => ∃ U a5 K H M a8 e2, (E 30 = .int .i64 (i : Nat) ∧ E 29 = .int .i64 (r3.length : Nat)) ∧ iH Y a8 ∧ ST false iE w W a8 ((t, Obj.cells j1 191 (0, 0)) :: ((A, Obj.cells g5 38 (0, 0)) :: (K ++ (M ++ (g0 ++ (f9 ++ e2)))))) ∧ E 3 = h5 ∧ E 6 = v9 ∧ E 7 = O ∧ E 8 = a9 ∧ E 9 = e0 ∧ E 10 = U ∧ E 11 = j2 ∧ E 28 = v9 ∧ hZ 140 iQ 12 U a5 K ∧ ir (fun (x : gI) => (.agg (gS x).toArray)) (fun (x : Bool) => (Value.bool x)) (.map (some D)) H M ∧ lY k2 q (r3.drop i) a5 H = some a7) r3.length f1.len ⟨d2, B, b2, d0, b3, Y, _, ⟨rfl, rfl⟩, (iH.refl _), (d.gL St), k7, h1, k8, k9, l0, e4, rfl, rfl, d8, j4, i6⟩ dc dc dc (fun _ _ _ h => by obtain ⟨_, _, _, _, _, _, _, L, _⟩ := h; exact L) ?_ ?_
    ·rintro f2 E W i3 ⟨U, a5, K, H, M, a8, e2, ⟨s, eN⟩, b0, d, e5, e6, b8, e7, b9, e8, e9, f0, d9, a3, j⟩
     obtain ⟨g, o3, j9, g2, k0⟩ := iP i3
     rw [j9] at j
     refine bg (VQ (jo (i := (f2 : Int)) (x0 := g) ap ae f0 s f1 (aw _) g2) (fun p6 i9 => V (gM rfl (kD d.has (fun p n => (Mt (Mt (Ma (Ma (Ma (Ml n))))))) f1 iN i9 g2 aM ae)) (VE (jc d aZ (fun o6 h0 d => VO (iw (.agg (gJ g).toArray) ((gJ g).toArray) d rfl rfl ae (jY g) nb rfl (fun o7 d => lr (VA d Mh (gJ g) aM ae (Wh b9 (Wh b8 (bS j fun f4 j3 j => ?_)))))))))))
     refine VE (nt d call130 (vZ g e0 (fun (x : (gH × ByteArray)) => og x.1 x.2 H) O k2 _ _ ⟨133, #[], #[a9], rfl, call133, fun W x r hs hm => (yf x.1 x.2 t (.map (some D)) H r W (a3.at (fun b o n => hs _ _ ((fun b o n => d.at_ (Mt (Mt (Mt (Ma (Ml n)))))) b o n))) (At.of (hs _ _ (d.at_ (Mt Mh))) _ rfl) hm).jH⟩ (n7.sl (fun _ => rfl) (fun b o n => d.at_ (Mt (Mt (Mt (Ma (Ma (Ml n)))))))) j3) (fun o8 n5 f8 k3 d h4 ab a2 => V (jf bp rfl a2) (Wm (ln (pt (FD j (fun d1 E W => ∃ d4 b6 b7 g8, ST false iE w W f8 ((t, Obj.cells j1 191 (0, 0)) :: ((A, Obj.cells g5 38 (0, 0)) :: (b6 ++ (b7 ++ (g0 ++ (f9 ++ g8)))))) ∧ E 3 = h5 ∧ E 6 = v9 ∧ E 7 = O ∧ E 8 = a9 ∧ E 9 = e0 ∧ E 10 = d4 ∧ E 11 = j2 ∧ E 28 = v9 ∧ E 29 = (.int .i64 (r3.length : Int)) ∧ E 30 = (.int .i64 (f2 : Int)) ∧ hZ 140 iQ 12 d4 d1.1 b6 ∧ ir (fun (x : gI) => (.agg (gS x).toArray)) (fun (x : Bool) => (Value.bool x)) (.map (some D)) d1.2 b7) (fun d1 i8 d7 => ?_) ?_))))))
     ·refine iZ (fun i E W => ∃ I a6 G T N e3, (E 39 = .int .i64 (i : Nat) ∧ E 38 = .int .i64 (f4.length : Nat)) ∧ ST false iE w W f8 ((h0, Ol (gJ g) 108) :: ((t, Obj.cells j1 191 (0, 0)) :: ((A, Obj.cells g5 38 (0, 0)) :: (G ++ (N ++ (k3 ++ (g0 ++ (f9 ++ e3)))))))) ∧ E 3 = h5 ∧ E 6 = v9 ∧ E 7 = O ∧ E 8 = a9 ∧ E 9 = e0 ∧ E 10 = I ∧ E 11 = j2 ∧ E 13 = (.pointer (some ⟨h0, 0, none⟩)) ∧ E 28 = v9 ∧ E 29 = (.int .i64 (r3.length : Int)) ∧ E 30 = (.int .i64 (f2 : Int)) ∧ E 37 = n5 ∧ hZ 140 iQ 12 I a6 G ∧ ir (fun (x : gI) => (.agg (gS x).toArray)) (fun (x : Bool) => (Value.bool x)) (.map (some D)) T N ∧ lb g q (f4.drop i) a6 T = some d1) f4.length a2.len ⟨U, a5, K, H, M, _, ⟨rfl, rfl⟩, (d.gL (Sb (Pr Pz) (Sb (Pr Pz) (Sb (Pr Pz) (Sr (Qr Qz) (Sr (Qr Qz) St)))))), e5, e6, b8, e7, b9, e8, e9, rfl, f0, eN, s, rfl, d9, a3, i8⟩ dc dc dc (fun _ _ _ h => by obtain ⟨_, _, _, _, _, _, L, _⟩ := h; exact L) ?_ ?_
      ·rintro m9 E W i4 ⟨I, a6, G, T, N, e3, ⟨s, eN⟩, d, Z, c0, c1, Q, c2, c3, c4, c5, c6, c7, c8, c9, a4, J, a⟩
       obtain ⟨c, o4, k1, g3, g4⟩ := iP i4
       rw [k1] at a
       refine bg (VQ (jo (i := (m9 : Int)) (x0 := c) bp aX c9 s a2 (aw _) g3) (fun p7 j0 => V (gM rfl (kD d.has (fun p n => (Mt (Mt (Mt (Ma (Ma (Ml n))))))) a2 kO j0 g3 cz aX)) (VE (jc d cu (fun o9 p4 d => VO (iw (.agg (gS c).toArray) ((gS c).toArray) d rfl rfl aX (rJ c) nb rfl (fun p0 d => lS (V (gM Q (ia d.has (Mt (Mt Mh)) rfl isAgg191)) (VA d Mh (gS c) cz aX (V (nR (k := c) (z := false) (vf := (fun (x : Bool) => (Value.bool x))) yl underlying191 fF rfl rfl (J.at (fun b o n => d.has.2 b o (Mt (Mt (Mt (Mt (Ma (Ml n))))))))) ?_))))))))))
       refine ln (CI a rfl (fun i0 a => ?_) (fun i0 a => ?_))
       ·refine mH (mc (qV (gV ?_)))
        replace d := d.gL (Db St)
        exact ⟨s, I, a6, G, T, N, _, ⟨rfl, eN⟩, (d.gL St), Z, c0, c1, Q, c2, c3, c4, c5, c6, c7, c8, c9, a4, J, (by rw [g4]; exact a)⟩
       refine kg (V (gM Q (ia d.has (Mt (Mt Mh)) rfl isAgg191)) (VA d Mh (gS c) cz aX ?_))
       replace d := d.perm (Nr (Qb (Qb (Qb (Qb (Qr Qz))))) Nz)
       refine VO (uK (k := c) (v := true) (vf := (fun (x : Bool) => (Value.bool x)))  yl underlying191 d J rfl rfl rfl (fun p1 k4 d h7 => lr (Wh c3 (V (gM c5 (gY d.has (Ma (Mt Mh)) (gJ g) rfl aM ae)) (VA d (Ma Mh) (gS c) cz aX (V (kW (v := (.agg (iQ (⟨g, c⟩ : iu)).toArray)) (nI rfl rfl) (jQ ee eS (Hr _ eS) kr)) (VE (iM (cs := (iQ (⟨g, c⟩ : iu)).toArray) d (ml rfl) (lm bd cL ee) (fun p2 k6 d => ?_)))))))))
       replace d := d.perm (Nr (Qb (Qr (Qb (Qb (Qb (Qb Qz)))))) Nz)
       refine bS a fun f3 i1 a => VE (km (enc := iQ) (v := I) (vs := (.slice (some ⟨k6, 0, none⟩) 1 1)) (R := G) d pg dc sx bd pX.1 pX.2.1 rfl pX.2.2.1 pX.2.2.2 rfl rfl a4 (Sl.lit (enc := iQ) (l := [(⟨g, c⟩ : iu)]) pg rfl nb rfl (d.at_ (Ma Mh))) i1 (fun p3 f5 g9 d g1 => Wa (ln ?_)))
       replace d := d.gL (Kr (Db St))
       refine sg (VA d (Ma (Ma Mh)) (gS c) cz aX (V (gM Z (gY d.has (Ma (Ma (Mt (Mt (Mt Mh))))) (gS q) rfl cz aX)) (V (qF rfl rfl (la eqGuardType38) (nZ (vR _ c q))) (ln ?_))))
       replace d := d.gL (Kr (Kr (Db St)))
       refine CI a rfl (fun i2 a => ?_) (fun i2 a => ?_)
       ·refine sg (Wm (Wa (Wa (ln ?_))))
        replace d := d.gL (Kr (Dr (Db (Db (Db (Dr (Dr (Dr St))))))))
        refine iD (jD (iK (jD (iK (jD (iK (jD (iK (jD (iK (jD (iK ?_))))))))))))
        obtain rfl := sj a
        replace d7 : some (Sum.inl (f3, true)) = some a7 := d7
        obtain rfl := sj d7
        replace d6 : some (f3, true) = some r := d6
        obtain rfl := sj d6
        exact u5 (v := f5) (u := (.bool true)) rfl rfl rfl ⟨_, _, rfl, (d.wq (Kr Sn)), f5, g9, rfl, rfl, g1⟩
       exact iO (iJ (gV ⟨s, f5, f3, g9, (ji iy T c true), k4, _, ⟨rfl, eN⟩, (d.gL (Sb (Pr (Pr Pz)) (Sb (Pr (Pr Pz)) (Sb (Pr (Pr Pz)) St)))), Z, c0, c1, Q, c2, rfl, c4, c5, c6, c7, c8, c9, g1, h7, (by rw [g4]; exact a)⟩))
      rintro E W ⟨I, a6, G, T, N, e3, ⟨s, eN⟩, d, Z, c0, c1, Q, c2, c3, c4, c5, c6, c7, c8, c9, a4, J, a⟩
      rw [aB] at a
      refine gV ?_
      obtain rfl := sj a
      exact ⟨_, rfl, I, G, N, _, (d.gL (Db (Kb (Kb (Kr (Kr (Dr St))))))), Z, c0, c1, Q, c2, c3, c4, c6, c7, c8, a4, J⟩
     rintro ⟨n2, n3⟩ E W ⟨d4, b6, b7, g8, d, l9, m0, m1, m2, m3, m4, m5, m6, m7, m8, j7, j8⟩ i7
     exact iJ (gV ⟨m8, d4, n2, b6, n3, b7, f8, _, ⟨rfl, m7⟩, (b0.trans h4), (d.gL St), l9, m0, m1, m2, m3, m4, m5, m6, j7, j8, (by rw [k0]; exact i7)⟩)
    rintro E W ⟨U, a5, K, H, M, a8, e2, ⟨s, eN⟩, b0, d, e5, e6, b8, e7, b9, e8, e9, f0, d9, a3, j⟩
    rw [aB] at j
    refine gV ?_
    obtain rfl := sj j
    exact ⟨_, rfl, U, K, M, a8, _, b0, (d.gL St), e5, e6, b8, e7, b9, e8, e9, d9, a3⟩
   rintro ⟨n0, n1⟩ E W ⟨d3, b4, b5, d5, g7, h3, d, l2, l3, l4, l5, l6, l7, l8, j5, j6⟩ i5
   exact iJ (gV ⟨n4, bq _, d3, n0, b4, (B.length : Int), n1, b5, d5, _, (h2.trans h3), (d.gL St), l2, l3, l4, l5, l6, l7, l8, j5, j6, i5⟩)
  refine mH (mc (mc (qV (gV ?_))))
  replace d := d.gL (Db (Db (Dr (Dr (Dr (Dr St))))))
  refine sg (Wa (Wa (lt ?_)))
  obtain rfl := sj y
  refine u5 (v := (.slice none 0 0)) (u := (.bool false)) rfl rfl rfl ?_
  replace d := d.Gz
  exact ⟨_, _, rfl, (d.wq (Kr Sn)), (.slice none 0 0), [], rfl, rfl, (hZ.nil _ _ _)⟩
theorem wc (z : Value) (D : List iu) (r : List gI) (w : World) (y : Sl (Pl iQ) 12 (hp w) z D) (hm : pK D = some r) :
  iY true pg0 150 [z] w 38 gS 3 r := by
 refine qS 19 func150 rfl (fun b => sg (Wa (lr (Wa (lS (Wm ?_))))))
 refine V (lV bd rfl y) (Wm (ln (iZ (fun i E W => ∃ j B g t, (E 8 = .int .i64 (i : Nat) ∧ E 7 = .int .i64 (D.length : Nat)) ∧ ST true iE w W (hp w) (g ++ t) ∧ E 3 = j ∧ E 6 = z ∧ hZ 38 gS 3 j B g ∧ nh (D.drop i) B = some r) D.length y.len ⟨(.slice none 0 0), ([]), [], _, ⟨rfl, rfl⟩, (b.gL St), rfl, rfl, (hZ.nil _ _ _), hm⟩ dc dc dc (fun _ _ _ h => by obtain ⟨_, _, _, _, m, _⟩ := h; exact m) ?_ ?_)))
 ·rintro Z E W M ⟨j, B, g, t, ⟨d, n⟩, b, u, x, k, a⟩
  obtain ⟨c, A, Q, N, T⟩ := iP M
  rw [Q] at a
  refine bg (VQ (jK (enc := iQ) (i := (Z : Int)) (x0 := c) bd cL x d y (aw _) N) (fun s I => V (gM rfl (kq b.has I isAgg140 cL)) (VE (jc b ee (fun q a5 b => VO (iw (.agg (iQ c).toArray) ((iQ c).toArray) b rfl rfl cL (sx c) nb rfl (fun a2 b => ln (gZ (Wh u (Wf rG (VA b Mh (gS c.gI) cz aX (VE (iM (cs := (gS c.gI).toArray) b (ml rfl) (lm bp aX cu) (fun a3 K b => ?_))))))))))))))
  replace b := b.perm (Nr (Qb (Qb Qz)) Nz)
  refine bS a fun U H a => VE (km (enc := gS) (v := j) (vs := (.slice (some ⟨K, 0, none⟩) 1 1)) (R := g) b kO dc rJ bp nL.1 nL.2.1 rfl nL.2.2.1 nL.2.2.2 rfl rfl k (Sl.lit (enc := gS) (l := [c.gI]) kO rfl nb rfl (b.at_ (Ma Mh))) H (fun a4 Y J b G => Wa (ig (iJ (gV ?_)))))
  replace b := b.gL (Kr (Db (Db St)))
  exact ⟨d, Y, U, J, _, ⟨rfl, n⟩, (b.gL St), rfl, x, G, (by rw [T]; exact a)⟩
 rintro E W ⟨j, B, g, t, ⟨d, n⟩, b, u, x, k, a⟩
 rw [aB] at a
 refine gV (sg (Wh u (Wa (lt ?_))))
 obtain rfl := sj a
 exact iS (v := j) rfl rfl ⟨_, g, rfl, b.kz (fun p o => (Ml o)) k.nd, k⟩
theorem wz (j : Value) (t : List gI) (c : gI) (r : Int) (w : World) (g : Sl (Pl gS) 3 (hp w) j t) (hm : pZ t c = some r) :
  iG true pg0 204 [j, (.agg (gS c).toArray)] w (.int .i64 r) := by
 refine cG 19 func204 rfl (fun b => sg (VE (iU b rfl (fun Q J b => Wa (lS (Wm (V (lV bp rfl g) (Wm (ln ?_)))))))))
 refine iZ (fun i E W => ∃ k, (E 8 = .int .i64 (i : Nat) ∧ E 7 = .int .i64 (t.length : Nat)) ∧ ST true iE w W (hp w) ((J, Ol (gS c) 38) :: k) ∧ E 0 = j ∧ E 3 = (.pointer (some ⟨J, 0, none⟩)) ∧ lQ c (t.drop i) i = some r) t.length g.len ⟨_, ⟨rfl, rfl⟩, (b.gL St), rfl, rfl, hm⟩ dc dc dc (fun _ _ _ h => by obtain ⟨_, m, _⟩ := h; exact m) ?_ ?_
 ·rintro K E W B ⟨k, ⟨l, o⟩, b, u, x, a⟩
  obtain ⟨y, M, H, G, I⟩ := iP B
  rw [H] at a
  refine bg (Wh l (Wa (ln (hX ?_))))
  replace b := b.drew
  have d := b.has.gL (Kb Sn)
  refine iR d iA (XH 0 rfl d (fun _ n => gM x (gY n Mh (gS c) rfl cz aX)) (X 1 rfl d (gW u) (X 2 rfl d (gW rfl) (XQ 3 rfl d (jK (enc := gS) (i := (K : Int)) (x0 := y) bp aX rfl rfl g (aw _) G) (fun N D => XH 4 rfl d (fun _ n => gM rfl (kq n D cz aX)) (X 5 rfl d (qF rfl rfl (la eqGuardType38) (nZ (vR _ c y))) (jd kr (gV (CI a rfl (fun z a => ?_) (fun z a => ?_))))))))))
  ·refine sg (Wm (Wa (ln ?_)))
   replace b := b.gL (Db St)
   refine iD (jD (iK (jD (iK ?_))))
   obtain rfl := sj a
   exact rP b
  exact iO (iJ (gV ⟨l, _, ⟨rfl, o⟩, (b.gL St), u, x, (by rw [I]; exact a)⟩))
 rintro E W ⟨k, ⟨l, o⟩, b, u, x, a⟩
 rw [aB] at a
 refine gV ?_
 replace b := b.gL (Db St)
 exact sg (Wa (lt (rQ a b)))
theorem uN (a : Value) (g : List gI) (c : gI) (r : Bool) (w : World) (i : Sl (Pl gS) 3 (hp w) a g) (hm : ni g c = some r) :
  iG true pg0 153 [a, (.agg (gS c).toArray)] w (.bool r) := by
 refine cG 9 func153 rfl (fun b => sg (VE (iU b rfl (fun k u b => Wa (lr (Wm (VA b Mh (gS c) cz aX (bS hm fun x j hm => VE (Eg b call204 (wz a g c _ _ (i.mono (Pl.mono _) b.iL) j) (fun t b => Wi rfl (Wa ?_)))))))))))
 refine ln ?_
 exact iD (rQ hm b)
theorem tZ (j : Value) (t : List gI) (c : gI) (r : Int) (w : World) (g : Sl (Pl gS) 3 (hp w) j t) (hm : oC t c = some r) :
  iG true pg0 287 [j, (.agg (gS c).toArray)] w (.int .i64 r) := by
 refine cG 19 func287 rfl (fun b => sg (VE (iU b rfl (fun Q J b => Wa (lS (Wm (V (lV gd rfl g) (Wm (ln ?_)))))))))
 refine iZ (fun i E W => ∃ k, (E 8 = .int .i64 (i : Nat) ∧ E 7 = .int .i64 (t.length : Nat)) ∧ ST true iE w W (hp w) ((J, Ol (gS c) 38) :: k) ∧ E 0 = j ∧ E 3 = (.pointer (some ⟨J, 0, none⟩)) ∧ kI c (t.drop i) i = some r) t.length g.len ⟨_, ⟨rfl, rfl⟩, (b.gL St), rfl, rfl, hm⟩ dc dc dc (fun _ _ _ h => by obtain ⟨_, m, _⟩ := h; exact m) ?_ ?_
 ·rintro K E W B ⟨k, ⟨l, o⟩, b, u, x, a⟩
  obtain ⟨y, M, H, G, I⟩ := iP B
  rw [H] at a
  refine bg (Wh l (Wa (ln (hX ?_))))
  replace b := b.drew
  have d := b.has.gL (Kb Sn)
  refine iR d iA (XH 0 rfl d (fun _ n => gM x (gY n Mh (gS c) rfl cz aX)) (X 1 rfl d (gW u) (X 2 rfl d (gW rfl) (XQ 3 rfl d (jK (enc := gS) (i := (K : Int)) (x0 := y) gd aX rfl rfl g (aw _) G) (fun N D => XH 4 rfl d (fun _ n => gM rfl (kq n D cz aX)) (X 5 rfl d (qF rfl rfl (la eqGuardType38) (nZ (vR _ c y))) (jd kr (gV (CI a rfl (fun z a => ?_) (fun z a => ?_))))))))))
  ·refine sg (Wm (Wa (ln ?_)))
   replace b := b.gL (Db St)
   refine iD (jD (iK (jD (iK ?_))))
   obtain rfl := sj a
   exact rP b
  exact iO (iJ (gV ⟨l, _, ⟨rfl, o⟩, (b.gL St), u, x, (by rw [I]; exact a)⟩))
 rintro E W ⟨k, ⟨l, o⟩, b, u, x, a⟩
 rw [aB] at a
 refine gV ?_
 replace b := b.gL (Db St)
 exact sg (Wa (lt (rQ a b)))
theorem sU (a : Value) (g : List gI) (c : gI) (r : Bool) (w : World) (i : Sl (Pl gS) 3 (hp w) a g) (hm : lT g c = some r) :
  iG true pg0 249 [a, (.agg (gS c).toArray)] w (.bool r) := by
 refine cG 9 func249 rfl (fun b => sg (VE (iU b rfl (fun k u b => Wa (lr (Wm (VA b Mh (gS c) cz aX (bS hm fun x j hm => VE (Eg b call287 (tZ a g c _ _ (i.mono (Pl.mono _) b.iL) j) (fun t b => Wi rfl (Wa ?_)))))))))))
 refine ln ?_
 exact iD (rQ hm b)
theorem qL (c : Value) (i : List gI) (a : gH) (g : ByteArray) (r : Bool) (w : World) (j : Sl (Pl gS) 3 (hp w) c i) (hm : na i a g = some r) :
  iG true pg0 202 [c, (.agg (gK a).toArray), (.string g)] w (.bool r) := by
 refine cG 12 func202 rfl (fun b => sg (VE (iU b rfl (fun t x b => Wa (lr (Wm (VA b Mh (gK a) az ah (Wm (V (kW (v := (.agg (gS (⟨a, g⟩ : gI)).toArray)) (nI rfl rfl) (jQ cu bu (xQ _ bu) kr)) (bS hm fun y k hm => VE (Eg b call249 (sU c i (⟨a, g⟩ : gI) _ _ (j.mono (Pl.mono _) b.iL) k) (fun u b => ?_))))))))))))
 refine Wa (ln ?_)
 exact iD (rQ hm b)
theorem sS (g : Value) (t : List gI) (j : Value) (B : gI → Option Bool) (r : Int) (w : World) (c : Sl (Pl gS) 3 (hp w) g t) (D : qU pg0 j (hp w) (fun (x : gI) => [(.agg (gS x).toArray)]) (fun (r : Bool) => (.bool r)) B) (hm : nq t B = some r) :
  iG false pg0 288 [g, j] w (.int .i64 r) := by
 refine cG 19 func288 rfl (fun b => sg (Wa (lS (Wm (V (lV gd rfl c) (Wm (ln (iZ (fun i E W => ∃ k, (E 8 = .int .i64 (i : Nat) ∧ E 7 = .int .i64 (t.length : Nat)) ∧ ST false iE w W (hp w) k ∧ E 0 = g ∧ E 1 = j ∧ jZ B (t.drop i) i = some r) t.length c.len ⟨_, ⟨rfl, rfl⟩, (b.gL St), rfl, rfl, hm⟩ dc dc dc (fun _ _ _ h => by obtain ⟨_, l, _⟩ := h; exact l) ?_ ?_))))))))
 ·rintro Q E W H ⟨k, ⟨d, m⟩, b, u, y, a⟩
  obtain ⟨z, T, M, K, N⟩ := iP H
  rw [M] at a
  refine bg (Wh d (Wa (lr (Wh y (Wh u (Wm (VQ (jK (enc := gS) (i := (Q : Int)) (x0 := z) gd aX rfl rfl c (aw _) K) (fun Y I => V (gM rfl (kq b.has I cz aX)) (bS a fun Z J a => ?_)))))))))
  refine VE (vQ z b D (iH.refl _) rfl (tq rfl) J (fun U b => ln (CI a rfl (fun G a => ?_) (fun G a => ?_))))
  ·refine sg (Wm (Wa (lt (jD (iK (jD (iK ?_)))))))
   obtain rfl := sj a
   exact rP b
  exact iO (iJ (gV ⟨d, _, ⟨rfl, m⟩, (b.gL St), u, y, (by rw [N]; exact a)⟩))
 rintro E W ⟨k, ⟨d, m⟩, b, u, y, a⟩
 rw [aB] at a
 exact gV (sg (Wa (lt (rQ a b))))
theorem sc (a : Value) (g : List gI) (c : Value) (i : gI → Option Bool) (r : Bool) (w : World) (j : Sl (Pl gS) 3 (hp w) a g) (k : qU pg0 c (hp w) (fun (x : gI) => [(.agg (gS x).toArray)]) (fun (r : Bool) => (.bool r)) i) (hm : kU g i = some r) :
  iG false pg0 250 [a, c] w (.bool r) := by
 refine cG 9 func250 rfl (fun b => sg (Wa (lr (Wm (Wm (bS hm fun y t hm => VE (Eg b call288 (sS a g c i _ _ (j.mono (Pl.mono _) b.iL) (k.mono b.iL) t) (fun u b => Wi rfl (Wa (ig ?_))))))))))
 exact gV (iD (rQ hm b))
theorem uX (i : gI) (t : Nat) (K : gH) (u : Nat) (g : Value) (M : List gI) (x : Nat) (k : ByteArray) (z : Nat) (B : ByteArray) (r : Bool) (w : World) (D : At (hp w) (.pointer (some ⟨t, 0, none⟩)) (gK K)) (N : Sl (Pl gS) 3 (hp w) g M) (G : At (hp w) (.pointer (some ⟨u, 0, none⟩)) [g]) (H : At (hp w) (.pointer (some ⟨x, 0, none⟩)) [(.string k)]) (I : At (hp w) (.pointer (some ⟨z, 0, none⟩)) [(.string B)]) (hm : ny i K M k B = some r) :
  iG true pg0 251 [(.agg (gS i).toArray), (.pointer (some ⟨t, 0, none⟩)), (.pointer (some ⟨u, 0, none⟩)), (.pointer (some ⟨x, 0, none⟩)), (.pointer (some ⟨z, 0, none⟩))] w (.bool r) := by
 refine cG 20 func251 rfl (fun b => sg (VE (iU b rfl (fun W2 h b => Wa (lr (Wf tW (VA b Mh (gK i.gH) az ah (V (gM rfl (kq b.has D az ah)) (V (qF rfl rfl (la dL) (nZ (mT _ i.gH K))) (Wm (LJ hm (fun J E W => ∃ T, ST true iE w W (hp w) T ∧ E 6 = (.bool false) ∧ E 19 = (.bool J)) 8 ?_ (fun J c j => ?_))))))))))))
 ·rintro l E W ⟨T, b, d, U⟩ Y
  exact Wg U (lt (rQ Y b))
 refine bC c (fun a c => ?_) (fun a c => ?_)
 ·refine ug a (gM rfl (lg b.has (y := g) G isAgg250)) (ug a (gQ pv rfl) (ug a (gM rfl (ia b.has Mh rfl aI)) (ug a (gM rfl (lg b.has (y := (.string k)) H aI)) (ug a (kW (v := (.agg (gK (⟨i.ib, k⟩ : gH)).toArray)) (nI rfl rfl) (jQ cE bG (Bx _ bG) kr)) (ug a (gM rfl (lg b.has (y := (.string B)) I aI)) (bS c fun a2 Q c => qN a (Eg b call202 (qL g M (⟨i.ib, k⟩ : gH) B _ _ (N.mono (Pl.mono _) b.iL) Q) (fun Z b => V (ie (cB a) rfl) ?_))))))))
  obtain rfl := sj c
  exact j _ _ ⟨_, (b.gL (Db St)), rfl, rfl⟩
 refine un a (un a (un a (un a (un a (un a (un a (V (ic (cB a) rfl) ?_)))))))
 obtain rfl := sj c
 exact j _ _ ⟨_, (b.gL (Db St)), rfl, rfl⟩
theorem wR (k : Value) (a : List gI) (g : gH) (i j : ByteArray) (r : Bool) (w : World) (c : Sl (Pl gS) 3 (hp w) k a) (hm : qt a g i j = some r) :
  iG false pg0 203 [k, (.agg (gK g).toArray), (.string i), (.string j)] w (.bool r) := by
 refine cG 12 func203 rfl (fun b => sg ?_)
 obtain ⟨t, D, rfl⟩ := c.form
 refine VE (iU b rfl (fun K u b => VE (iU b rfl (fun M y b => VE (iU b rfl (fun N z b => VE (iU b rfl (fun H B b => Wa (lr (VB b (Mt (Mt (Mt Mh))) rfl rfl isAgg250 (V (pW (by exact Ht rfl rfl rfl rfl) rfl) (bS hm fun J G hm => VE (Eg b call250 (sc (.slice t a.length D) a (.func (.func 251) #[] #[(.pointer (some ⟨y, 0, none⟩)), (.pointer (some ⟨u, 0, none⟩)), (.pointer (some ⟨z, 0, none⟩)), (.pointer (some ⟨B, 0, none⟩))]) (fun (x : gI) => ny x g a i j) _ _ (c.mono (Pl.mono _) b.iL) ⟨251, #[], #[(.pointer (some ⟨y, 0, none⟩)), (.pointer (some ⟨u, 0, none⟩)), (.pointer (some ⟨z, 0, none⟩)), (.pointer (some ⟨B, 0, none⟩))], rfl, call251, fun W x r d hm => (uX x y g u (.slice t a.length D) a z i B j r W (At.of (d _ _ (b.at_ (Mt (Mt Mh)))) _ rfl) (c.mono (Pl.mono _) (b.iL.trans d)) (At.of (d _ _ (b.at_ (Mt (Mt (Mt Mh))))) _ rfl) (At.of (d _ _ (b.at_ (Mt Mh))) _ rfl) (At.of (d _ _ (b.at_ Mh)) _ rfl) hm).jH⟩ G) (fun I b => Wa (ig ?_)))))))))))))))
 refine gV ?_
 exact iD (rQ hm b)
theorem uz (i : iu) (k : Value) (G : List gI) (r : Bool) (w : World) (x : Sl (Pl gS) 3 (hp w) k G) (hm : oP i G = some r) :
  iG false pg0 152 [(.agg (iQ i).toArray), k] w (.bool r) := by
 refine cG 67 func152 rfl (fun b => sg (VE (iU b rfl (fun W2 h b => Wa (ln (hX ?_))))))
 replace b := b.drew
 have d := b.has.gL (Kb Sn)
 refine iR d iA (X 0 rfl d (gW rfl) (X 1 rfl d (gQ Gf rfl) (XH 2 rfl d (fun _ o => gM rfl (gY o Mh (gJ i.gG) rfl aM ae)) (XE 3 rfl (jc b aZ (fun a9 l b => ?_))))))
 have d := b.has.gL (Db (Kb Sn))
 refine ⟨d, (X 4 rfl d (kh rfl) (XO 5 rfl (iw (.agg (gJ i.gG).toArray) ((gJ i.gG).toArray) b rfl rfl ae (jY i.gG) nb rfl (fun p b => ?_))))⟩
 have d := b.has.gL (Db (Kb Sn))
 refine ⟨d, (jd kr (gV (hX (sg (VA b Mh (gJ i.gG) aM ae (bS hm fun O Y hm => VE (Eg b call115 (iG.jH (pu i.gG _ _  Y)) (fun q b => V (nn rfl) (Wm (LJ hm (fun K E W => ∃ H, ST false iE w W (hp w) ((l, Ol (gJ i.gG) 108) :: ((h, Ol (iQ i) 140) :: H)) ∧ E 2 = (.pointer (some ⟨h, 0, none⟩)) ∧ E 5 = k ∧ E 6 = (.pointer (some ⟨l, 0, none⟩)) ∧ E 20 = (.bool K)) 7 ?_ (fun K u D => ?_)))))))))))⟩
 ·rintro c3 E W ⟨H, b, y, z, t, m⟩ a
  refine ln (CI a m (fun M a => ?_) (fun M a => ?_))
  ·refine sg (Wa (ln ?_))
   replace b := b.gL (Db (Db St))
   refine iD (iK ?_)
   obtain rfl := sj a
   exact rP b
  refine kS (V (gQ kP t) (VB b Mh rfl rfl bV (ln (bg (Wi rfl (Wa (ig ?_)))))))
  refine gV (CI a rfl (fun N a => ?_) (fun N a => ?_))
  ·refine sg (V (gQ nw t) (VB b Mh rfl rfl aI (V (gQ rG y) (Wf pv (VB b (Mt Mh) rfl rfl aI (V (pa rfl rfl rfl) (Wa (ln ?_))))))))
   replace b := b.gL (Db (Db St))
   refine iD (jD (iK ?_))
   obtain rfl := sj a
   exact rP b
  refine sg (Wi rfl (Wa (ln (CI a rfl (fun Q a => ?_) (fun Q a => ?_)))))
  ·refine sg (Wh z (V (gQ jm t) (VA b Mh (gK i.gG.B) az ah (V (gQ rG y) (Wf pv (VB b (Mt Mh) rfl rfl aI (bS a fun P Z a => VE (Eg b call202 (iG.jH (qL k G i.gG.B i.gI.ib _ _ (x.mono (Pl.mono _) b.iL) Z)) (fun s b => Wa (ln ?_))))))))))
   replace b := b.gL (Db (Db St))
   refine iD (jD (iK ?_))
   obtain rfl := sj a
   exact rP b
  refine sg (Wi rfl (Wa (ln (CI a rfl (fun T a => ?_) (fun T a => ?_)))))
  ·refine sg (Wh z (V (gQ jm t) (VA b Mh (gK i.gG.B) az ah (V (gQ mV t) (VB b Mh rfl rfl aI (V (gQ rG y) (Wf pv (VB b (Mt Mh) rfl rfl aI (bS a fun R a2 a => VE (Eg b call203 (wR k G i.gG.B i.gG.iv i.gI.ib _ _ (x.mono (Pl.mono _) b.iL) a2) (fun v b => Wa (ln ?_))))))))))))
   replace b := b.gL (Db (Db St))
   refine iD (jD (iK ?_))
   obtain rfl := sj a
   exact rP b
  refine iO (iJ (gV (sg (Wh z (V (gQ jm t) (VA b Mh (gK i.gG.B) az ah (V (gQ rG y) (Wf pv (VB b (Mt Mh) rfl rfl aI (bS a fun c1 a3 a => VE (Eg b call202 (iG.jH (qL k G i.gG.B i.gI.ib _ _ (x.mono (Pl.mono _) b.iL) a3)) (fun A b => Wm (LJ a (fun J E W => ∃ I, ST false iE w W (hp w) I ∧ E 66 = (.bool J)) 8 ?_ (fun J j B => ?_))))))))))))))
  ·rintro c4 E W ⟨I, b, n⟩ U
   exact Wg n (lt (rQ U b))
  refine bC j (fun c j => ?_) (fun c j => ?_)
  ·refine ug c (gW z) (ug c (gQ lz t) (ug c (gM rfl (gY b.has Mh (gK i.gG.C) rfl az ah)) (ug c (gQ rG y) (ug c (gQ pv rfl) (ug c (gM rfl (ia b.has (Mt Mh) rfl aI)) (bS j fun c2 a4 j => qN c (Eg b call202 (iG.jH (qL k G i.gG.C i.gI.ib _ _ (x.mono (Pl.mono _) b.iL) a4)) (fun L b => V (ie (cB c) rfl) ?_))))))))
   obtain rfl := sj j
   exact B _ _ ⟨_, (b.gL (Db (Db St))), rfl⟩
  refine un c (un c (un c (un c (un c (un c (un c (V (ic (cB c) rfl) ?_)))))))
  obtain rfl := sj j
  exact B _ _ ⟨_, (b.gL (Db (Db St))), rfl⟩
 refine bC u (fun g u => ?_) (fun g u => ?_)
 ·refine un g (un g (un g (un g (un g (un g (V (ie (cB g) rfl) ?_))))))
  obtain rfl := sj u
  exact D _ _ ⟨_, (b.gL St), rfl, rfl, rfl, rfl⟩
 refine ug g (gQ rG rfl) (ug g (gQ tW rfl) (ug g (gM rfl (gY b.has (Mt Mh) (gK i.gI.gH) rfl az ah)) (ug g (gQ kX rfl) (ug g (gM rfl (gY b.has Mh (gK i.gG.Head) rfl az ah)) (ug g (FK rfl rfl (la dL) (Cp (mT _ i.gI.gH i.gG.Head))) (V (ic (cB g) rfl) ?_))))))
 obtain rfl := sj u
 exact D _ _ ⟨_, (b.gL St), rfl, rfl, rfl, rfl⟩
theorem vc (j : Value) (y : List iu) (r : Bool) (w : World) (g : Sl (Pl iQ) 12 (hp w) j y) (hm : pz y = some r) :
  iG false pg0 191 [j] w (.bool r) := by
 refine cG 22 func191 rfl (fun d => sg (Wa (lr (Wm (bS hm fun Y U hm => VE (nt d call150 (iY.jH (wc j y _ _ (g.mono (Pl.mono _) d.iL) U)) (fun W3 L p R8 d N v T => Wa (ln (hX ?_)))))))))
 refine sg (Wm (V (lV bd rfl g) (Wm (ln (iZ (fun i E W => ∃ k, (E 10 = .int .i64 (i : Nat) ∧ E 9 = .int .i64 (y.length : Nat)) ∧ ST false iE w W p (R8 ++ k) ∧ E 3 = L ∧ E 8 = j ∧ mI Y (y.drop i) i = some r) y.length g.len ⟨_, ⟨rfl, rfl⟩, (d.gL St), rfl, rfl, hm⟩ dc dc dc (fun _ _ _ h => by obtain ⟨_, n, _⟩ := h; exact n) ?_ ?_)))))
 ·rintro z E W D ⟨k, ⟨m, q⟩, d, t, u, a⟩
  obtain ⟨c, Z, K, J, M⟩ := iP D
  rw [K] at a
  refine bg (Wh m (VQ (jK (enc := iQ) (i := (z : Int)) (x0 := c) bd cL u m (g.mono (Pl.mono _) N) (aw _) J) (fun O G => V (gM rfl (kq d.has G isAgg140 cL)) (VE (jc d ee (fun a2 a5 d => Wa (VO (iw (.agg (iQ c).toArray) ((iQ c).toArray) d rfl rfl cL (sx c) nb rfl (fun a3 d => ln (hX ?_))))))))))
  replace d := d.drew
  have l := d.has.gL (Kb Sn)
  refine iR l iA (XH 0 rfl l (fun _ s => gM rfl (gY s Mh (iQ c) rfl isAgg140 cL)) (X 1 rfl l (gW t) (X 2 rfl l (gW rfl) (bS a fun _ x a => XQ 3 rfl l (rK (i := (z : Int)) bp aX rfl rfl T kO (pb x) (oZ x)) (fun Q I => bS a fun P H a => XE 4 rfl (Eg d call152 (uz c Q (Y.take (Int.toNat (z : Int))) _ _ (I.sl kO (fun b o A => d.at_ (Mt (Ml A)))) H) (fun a4 d => ?_)))))))
  have l := d.has.gL (Kb Sn)
  refine ⟨l, (X 5 rfl l (nn rfl) (jd kr (gV ?_)))⟩
  replace d := d.gL (Db St)
  refine CI a rfl (fun B a => ?_) (fun B a => ?_)
  ·refine sg (Wa (ln ?_))
   replace d := d.gL (Dr St)
   refine iD (jD (iK (jD (iK ?_))))
   obtain rfl := sj a
   exact rP d
  exact iO (iJ (gV ⟨m, _, ⟨rfl, q⟩, (d.gL St), t, u, (by rw [M]; exact a)⟩))
 rintro E W ⟨k, ⟨m, q⟩, d, t, u, a⟩
 rw [aB] at a
 refine gV ?_
 replace d := d.gL (Dr St)
 exact sg (Wa (lt (rQ a d)))
end Go.Proofs.YtbnbdigcbldfhaaGreat
