/- a part of a proof of WeighTells -/
import Derived.Test.YtbnbdigcbldfhaaGreatW3Mh
import Derived.Test.YtbnbdigcbldfhaaGreatProg
set_option linter.all false
namespace Go.Proofs.YtbnbdigcbldfhaaGreat
open Go.IntKind renaming wrap → wi0
open Go.Proofs.Tryz renaming prog → pg0
open Go.RowKit
set_option maxRecDepth 10000
open Tryz
def ae := @sizeOf28
def ag := @sizeOf108
def ah := @isAgg28
def ai := @underlying22
def az := @underlying112
def aG := @isAgg9
def aM := @isAgg108
def aO := @underlying34
def aR := @underlying9
def aT := @zeroValue108
def aU := @sizeOf30
def aV := @underlying120
def bd := @underlying25
def bj := @isAgg3
def bq := @underlying38
def bt := @zeroValue28
def bz := @sizeOf38
def bD := @underlying28
def bE := @zeroValue30
def bK := @underlying30
def bL := @underlying78
def bM := @underlying108
def bU := @sizeOf9
def ck := @eqGuardType28
def cu := @zeroValue38
def cP := @underlying174
def cQ := @underlying125
def cU := @isAgg30
def di := @underlying170
def dE := @underlying3
def dF := @underlying5
def dG := @zeroValue3
def dL := @sizeOf3
def dM := @zeroValue175
def dN := @isAgg38
def dW := @underlying175
def ey := @zeroValue9
def eB := @underlying124
def eP := @underlying79
def fh := @eqGuardType108
def fi := @isAgg170
def fW := @underlying81
def fX := @zeroValue5
def gj := @zeroValue22
abbrev K0 : gl := ⟨zS, zS⟩
abbrev K1 : ByteArray := ⟨#[98]⟩
abbrev K2 : ByteArray := ⟨#[115]⟩
abbrev K3 : ByteArray := ⟨#[97]⟩
abbrev K4 : ByteArray := ⟨#[114]⟩
abbrev K5 : ByteArray := ⟨#[100]⟩
abbrev K6 : gl := ⟨K1, K2⟩
abbrev K7 : gl := ⟨K3, K4⟩
abbrev K8 : gx := ⟨K0, 0, 0, 0⟩
abbrev K9 : gm := ⟨0, K0, zS, K0, K0, zS⟩
abbrev tN : gm := ⟨2, K7, zS, K6, K0, zS⟩
abbrev tV : gm := ⟨1, K6, K5, K0, K0, zS⟩
abbrev C1 : List Value := [(.int .i64 2), (.string (K7.gF)), (.string (K7.gY)), (.string zS), (.string (K6.gF)), (.string (K6.gY)), (.string (K0.gF)), (.string (K0.gY)), (.string zS), (.int .i64 1), (.string (K6.gF)), (.string (K6.gY)), (.string K5), (.string (K0.gF)), (.string (K0.gY)), (.string (K0.gF)), (.string (K0.gY)), (.string zS)]
theorem gW : Tryz.prog.follows .mixedOrders = true := by rfl
theorem oe : Tryz.prog.info? 5 = some Tryz.t5 ∧ Tryz.t5.zero = some (.int .u8 0) ∧ Tryz.t5.size = 1 ∧ Tryz.t5.bytes = 1 := ⟨by kernel_rfl, by kernel_rfl, by kernel_rfl, by kernel_rfl⟩
theorem mH : Tryz.prog.info? 9 = some Tryz.t9 ∧ Tryz.t9.zero = some (.string ⟨#[]⟩) ∧ Tryz.t9.size = 1 ∧ Tryz.t9.bytes = 16 := ⟨by kernel_rfl, by kernel_rfl, by kernel_rfl, by kernel_rfl⟩
theorem kA : Tryz.prog.info? 28 = some Tryz.t28 ∧ Tryz.t28.zero = some (.agg #[(.string ⟨#[]⟩), (.string ⟨#[]⟩)]) ∧ Tryz.t28.size = 2 ∧ Tryz.t28.bytes = 32 := ⟨by kernel_rfl, by kernel_rfl, by kernel_rfl, by kernel_rfl⟩
theorem rl : Tryz.prog.info? 30 = some Tryz.t30 ∧ Tryz.t30.zero = some (.agg #[(.string ⟨#[]⟩), (.string ⟨#[]⟩), (.int .i64 0), (.int .i64 0), (.int .i64 0)]) ∧ Tryz.t30.size = 5 ∧ Tryz.t30.bytes = 56 := ⟨by kernel_rfl, by kernel_rfl, by kernel_rfl, by kernel_rfl⟩
theorem mS : Tryz.prog.info? 38 = some Tryz.t38 ∧ Tryz.t38.zero = some (.agg #[(.string ⟨#[]⟩), (.string ⟨#[]⟩), (.string ⟨#[]⟩)]) ∧ Tryz.t38.size = 3 ∧ Tryz.t38.bytes = 48 := ⟨by kernel_rfl, by kernel_rfl, by kernel_rfl, by kernel_rfl⟩
theorem kE : Tryz.prog.info? 108 = some Tryz.t108 ∧ Tryz.t108.zero = some (.agg #[(.int .i64 0), (.string ⟨#[]⟩), (.string ⟨#[]⟩), (.string ⟨#[]⟩), (.string ⟨#[]⟩), (.string ⟨#[]⟩), (.string ⟨#[]⟩), (.string ⟨#[]⟩), (.string ⟨#[]⟩)]) ∧ Tryz.t108.size = 9 ∧ Tryz.t108.bytes = 136 := ⟨by kernel_rfl, by kernel_rfl, by kernel_rfl, by kernel_rfl⟩
theorem kz : jD pg0 28 0 0 := jc bD rfl bU (by decide) rfl
theorem oT : jD pg0 28 1 1 := jc bD rfl bU (by decide) rfl
theorem Dq : (Tryz.prog.fieldsOf 28).toList = (match Tryz.prog.underlying 28 with | some (.struct fs) => fs.toList | _ => []) := by rw [bD]; simp [Program.fieldsOf, bD]
theorem jZ (d : Nat) (x y : gl) (W : World) : (Op.equalIn (d + 2) 28 (.agg (gn x).toArray) (.agg (gn y).toArray)).run pg0 W = .ok (gz x y) W := by
 rw [dZ W (d + 1) 28 _ _ (by kernel_rfl) Tryz.stoodInHeld28, Dq, bD]
 exact (jt (by decide) (ju aG rfl) (ju aG rfl) (CB aR _ _ _ _) (jt (by decide) (ju aG rfl) (ju aG rfl) (CB aR _ _ _ _) (qD _ _ _)))
theorem zY : ∀ fs, Tryz.prog.underlying 28 = some (.struct fs) → ∀ w, (fs.mapM (fun (f : Field) => do pure (f.offset, ← sizeOf f.type)) : Sem (Array (Nat × Nat))).run pg0 w = .ok #[(0, 1), (1, 1)] w := by
 intro fs h w
 rw [bD] at h
 cases h
 kernel_rfl
theorem jk : jD pg0 108 0 0 := jc bM rfl dL (by decide) rfl
theorem jz : jD pg0 108 1 1 := jc bM rfl ae (by decide) rfl
theorem mE : jD pg0 108 2 3 := jc bM rfl bU (by decide) rfl
theorem iK : jD pg0 108 3 4 := jc bM rfl ae (by decide) rfl
theorem kp : jD pg0 108 4 6 := jc bM rfl ae (by decide) rfl
theorem ml : jD pg0 108 5 8 := jc bM rfl bU (by decide) rfl
theorem Cj : (Tryz.prog.fieldsOf 108).toList = (match Tryz.prog.underlying 108 with | some (.struct fs) => fs.toList | _ => []) := by rw [bM]; simp [Program.fieldsOf, bM]
theorem uz (d : Nat) (x y : gm) (W : World) : (Op.equalIn (d + 3) 108 (.agg (gp x).toArray) (.agg (gp y).toArray)).run pg0 W = .ok (lU x y) W := by
 rw [dZ W (d + 2) 108 _ _ (by kernel_rfl) Tryz.stoodInHeld108, Cj, bM]
 exact (jt (by decide) (ju bj rfl) (ju bj rfl) (DD dE _ _ _ _) (jt (by decide) (nu ah ae rfl) (nu ah ae rfl) (jZ _ x.Head y.Head W) (jt (by decide) (ju aG rfl) (ju aG rfl) (CB aR _ _ _ _) (jt (by decide) (nu ah ae rfl) (nu ah ae rfl) (jZ _ x.B y.B W) (jt (by decide) (nu ah ae rfl) (nu ah ae rfl) (jZ _ x.C y.C W) (jt (by decide) (ju aG rfl) (ju aG rfl) (CB aR _ _ _ _) (qD _ _ _)))))))
theorem BB : ∀ fs, Tryz.prog.underlying 108 = some (.struct fs) → ∀ w, (fs.mapM (fun (f : Field) => do pure (f.offset, ← sizeOf f.type)) : Sem (Array (Nat × Nat))).run pg0 w = .ok #[(0, 1), (1, 2), (3, 1), (4, 2), (6, 2), (8, 1)] w := by
 intro fs h w
 rw [bM] at h
 cases h
 kernel_rfl
theorem rz : jD pg0 30 0 0 := jc bK rfl ae (by decide) rfl
theorem sn : jD pg0 30 1 2 := jc bK rfl dL (by decide) rfl
theorem oR : jD pg0 30 2 3 := jc bK rfl dL (by decide) rfl
theorem Eu : jD pg0 30 3 4 := jc bK rfl dL (by decide) rfl
theorem C9 : (Tryz.prog.fieldsOf 30).toList = (match Tryz.prog.underlying 30 with | some (.struct fs) => fs.toList | _ => []) := by rw [bK]; simp [Program.fieldsOf, bK]
theorem ue (d : Nat) (x y : gx) (W : World) : (Op.equalIn (d + 3) 30 (.agg (gw x).toArray) (.agg (gw y).toArray)).run pg0 W = .ok (pp x y) W := by
 rw [dZ W (d + 2) 30 _ _ (by kernel_rfl) Tryz.stoodInHeld30, C9, bK]
 exact (jt (by decide) (nu ah ae rfl) (nu ah ae rfl) (jZ _ x.gl y.gl W) (jt (by decide) (ju bj rfl) (ju bj rfl) (DD dE _ _ _ _) (jt (by decide) (ju bj rfl) (ju bj rfl) (DD dE _ _ _ _) (jt (by decide) (ju bj rfl) (ju bj rfl) (DD dE _ _ _ _) (qD _ _ _)))))
theorem zM : ∀ fs, Tryz.prog.underlying 30 = some (.struct fs) → ∀ w, (fs.mapM (fun (f : Field) => do pure (f.offset, ← sizeOf f.type)) : Sem (Array (Nat × Nat))).run pg0 w = .ok #[(0, 2), (2, 1), (3, 1), (4, 1)] w := by
 intro fs h w
 rw [bK] at h
 cases h
 kernel_rfl
theorem qG : jD pg0 38 0 0 := jc bq rfl ae (by decide) rfl
theorem pP : jD pg0 38 1 2 := jc bq rfl bU (by decide) rfl
theorem Dw : (Tryz.prog.fieldsOf 38).toList = (match Tryz.prog.underlying 38 with | some (.struct fs) => fs.toList | _ => []) := by rw [bq]; simp [Program.fieldsOf, bq]
theorem Df (d : Nat) (x y : gr) (W : World) : (Op.equalIn (d + 3) 38 (.agg (gG x).toArray) (.agg (gG y).toArray)).run pg0 W = .ok (iU x y) W := by
 rw [dZ W (d + 2) 38 _ _ (by kernel_rfl) Tryz.stoodInHeld38, Dw, bq]
 exact (jt (by decide) (nu ah ae rfl) (nu ah ae rfl) (jZ _ x.gl y.gl W) (jt (by decide) (ju aG rfl) (ju aG rfl) (CB aR _ _ _ _) (qD _ _ _)))
theorem xJ : ∀ fs, Tryz.prog.underlying 38 = some (.struct fs) → ∀ w, (fs.mapM (fun (f : Field) => do pure (f.offset, ← sizeOf f.type)) : Sem (Array (Nat × Nat))).run pg0 w = .ok #[(0, 2), (2, 1)] w := by
 intro fs h w
 rw [bq] at h
 cases h
 kernel_rfl
theorem sD : jD pg0 81 0 0 := jc fW rfl sizeOf78 (by decide) rfl
theorem FU : ∀ fs, Tryz.prog.underlying 81 = some (.struct fs) → ∀ w, (fs.mapM (fun (f : Field) => do pure (f.offset, ← sizeOf f.type)) : Sem (Array (Nat × Nat))).run pg0 w = .ok #[(0, 1)] w := by
 intro fs h w
 rw [fW] at h
 cases h
 kernel_rfl
theorem qo : jD pg0 174 0 0 := jc cP rfl sizeOf170 (by decide) rfl
theorem xV : jD pg0 174 1 1 := jc cP rfl sizeOf22 (by decide) rfl
theorem AX : jD pg0 174 2 2 := jc cP rfl sizeOf171 (by decide) rfl
theorem xN : jD pg0 174 3 3 := jc cP rfl sizeOf172 (by decide) rfl
theorem se : jD pg0 174 4 4 := jc cP rfl sizeOf120 (by decide) rfl
theorem vL : jD pg0 174 5 5 := jc cP rfl dL (by decide) rfl
theorem Fv : ∀ fs, Tryz.prog.underlying 174 = some (.struct fs) → ∀ w, (fs.mapM (fun (f : Field) => do pure (f.offset, ← sizeOf f.type)) : Sem (Array (Nat × Nat))).run pg0 w = .ok #[(0, 1), (1, 1), (2, 1), (3, 1), (4, 1), (5, 1)] w := by
 intro fs h w
 rw [cP] at h
 cases h
 kernel_rfl
theorem yn : jI pg0 9 Value.string gX := jI.string aR
theorem oh : jI pg0 28 (fun (x : gl) => (.agg (gn x).toArray)) gz :=
 jI.struct bD (fun d x y W => jZ (d + 8) x y W) (fun b k W => qx bD rfl (cM.2 ⟨fun _ => ⟨.string k.gF, ju aG rfl, mI aR _ _ _ _⟩, (cM.2 ⟨fun _ => ⟨.string k.gY, ju aG rfl, mI aR _ _ _ _⟩, (fun _ h => by cases h)⟩)⟩))
  (fun k x h => (gB.1 h).symm) (fun k => by simp [Instr.sameBits, gn, sM, iE])
theorem BA : jI pg0 38 (fun (x : gr) => (.agg (gG x).toArray)) iU :=
 jI.struct bq (fun d x y W => Df (d + 7) x y W) (fun b k W => qx bq rfl (cM.2 ⟨fun _ => ⟨.agg (gn k.gl).toArray, nu ah ae rfl, qx bD rfl (cM.2 ⟨fun _ => ⟨.string k.gl.gF, ju aG rfl, mI aR _ _ _ _⟩, (cM.2 ⟨fun _ => ⟨.string k.gl.gY, ju aG rfl, mI aR _ _ _ _⟩, (fun _ h => by cases h)⟩)⟩)⟩, (cM.2 ⟨fun _ => ⟨.string k.gP, ju aG rfl, mI aR _ _ _ _⟩, (fun _ h => by cases h)⟩)⟩))
  (fun k x h => (kN.1 h).symm) (fun k => by simp [Instr.sameBits, gG, sM, iE])
theorem uO (g : Value) (i r : List gm) (w : World) (a : Sl (Pl gp) 9 (hp w) g i) (hm : ma i = some r) :
  iz true pg0 113 [g] w 108 gp 9 r := by
 unfold ma at hm
 refine oE 8 func113 rfl (fun b => sg (Wa (lS (Wm ?_))))
 obtain ⟨y, B, rfl⟩ := a.form
 refine V (yp ai rfl rfl) (ln ?_)
 rcases y with _ | z
 ·have u := a.isNil
  replace hm : some [] = some r := by rw [u] at hm; simpa [jh, maxLen] using hm
  refine qp (rfl) (sg (Wa (lt (iv ?_))))
  obtain rfl := sj hm
  exact ij (v := (.slice none 0 0)) rfl rfl ⟨_, [], rfl, b.jd (fun p d => by cases d) (by simp), gI.nil _ _ _⟩
 ·refine mw (rfl) (kg (VE (gS (cs := #[]) b vm (vS [] ai ag aT dc rfl (by simp) rfl rfl) (fun G k b => Wm (bS hm fun H t hm => VE (jn (enc := gp) (v := (.slice (some ⟨k, 0, none⟩) 0 0)) (vs := (.slice (some z) i.length B)) (R := [(k, Ob #[] 108)]) b ia dc js ai kE.1 kE.2.1 rfl kE.2.2.1 kE.2.2.2 rfl rfl (gI.lit (l := []) (enc := gp) rfl dc rfl rfl) (a.mono (Pl.mono _) b.iG) t (fun D x j b c => Wa (lt ?_))))))))
  obtain rfl := sj hm
  exact ij (v := x) rfl rfl ⟨_, j, rfl, b.jd (fun p d => (Ml d)) c.nd, c⟩
theorem sJ (g : Value) (t : List gm) (j : Value) (B : gm → Option Bool) (r : Int) (w : World) (c : Sl (Pl gp) 9 (hp w) g t) (D : qv pg0 j (hp w) (fun (x : gm) => [(.agg (gp x).toArray)]) (fun (r : Bool) => (.bool r)) B) (hm : nz t B = some r) :
  iC false pg0 176 [g, j] w (.int .i64 r) := by
 refine cG 19 func176 rfl (fun b => sg (Wa (lS (Wm (V (kF ai rfl c) (Wm (ln (im (fun i E W => ∃ k, (E 8 = .int .i64 (i : Nat) ∧ E 7 = .int .i64 (t.length : Nat)) ∧ ST false gN w W (hp w) k ∧ E 0 = g ∧ E 1 = j ∧ ki B (t.drop i) i = some r) t.length c.len ⟨_, ⟨rfl, rfl⟩, (b.gq St), rfl, rfl, hm⟩ dc dc dc (fun _ _ _ h => by obtain ⟨_, l, _⟩ := h; exact l) ?_ ?_))))))))
 ·rintro Q E W H ⟨k, ⟨d, m⟩, b, u, y, a⟩
  obtain ⟨z, T, M, K, N⟩ := hX H
  rw [M] at a
  refine bg (Wh d (Wa (lr (Wh y (Wh u (Wm (VQ (iZ (enc := gp) (i := (Q : Int)) (x0 := z) ai ag rfl rfl c (aj _) K) (fun Y I => V (gu rfl (jM b.has I aM ag)) (bS a fun Z J a => ?_)))))))))
  refine VE (vw z b D (ig.refl _) rfl (ur rfl) J (fun U b => ln (CI a rfl (fun G a => ?_) (fun G a => ?_))))
  ·refine sg (Wm (Wa (lt (jU (iv (jU (iv ?_)))))))
   obtain rfl := sj a
   exact rP b
  exact ic (gU (gC ⟨d, _, ⟨rfl, m⟩, (b.gq St), u, y, (by rw [N]; exact a)⟩))
 rintro E W ⟨k, ⟨d, m⟩, b, u, y, a⟩
 rw [au] at a
 exact gC (sg (Wa (lt (rQ a b))))
theorem sC (j : Value) (a0 : List gm) (t : LO) (H : Value) (f1 : gm → Option Bool) (r : List gm) (w : World) {μ0 : gT} (h0 : pN μ0 (t ++ []) w) (T : gI 108 gp 9 j a0 t) (a4 : qv pg0 H μ0 (fun (x : gm) => [(.agg (gp x).toArray)]) (fun (r : Bool) => (.bool r)) f1) (hm : lJ a0 f1 = some r) :
  ir false pg0 112 [j, H] w (t ++ []) (fun v L1 W' => ∃ q S2, v = q ∧ L1 = (S2 ++ []) ∧ gI 108 gp 9 q r S2) := by
 refine sN h0 42 func112 rfl (fun d => sg (Wa (lr (Wm (Wm (bS hm fun n d2 hm => VE (Eg d call176 (sJ j a0 H f1 _ _ (T.sl ia (fun b o h => d.at_ (Ml h))) (a4.mono d.iG) d2) (fun W3 d => Wa (ln ?_)))))))))
 refine gH (sg (Wm (Wi rfl (ln (CI hm rfl (fun d1 hm => ?_) (fun d1 hm => ?_))))))
 ·refine sg (Wm (Wa (lt (iv ?_))))
  obtain rfl := sj hm
  exact ij (v := j) rfl rfl ⟨_, _, rfl, (d.oa (Kr Sn)), j, t, rfl, rfl, T⟩
 refine kS (Wm (Wi rfl (Wa (ln (ji (lT (fun m E W => ∃ U I B D a2, ST false (keys (t ++ [])) w W μ0 (I ++ a2) ∧ E 0 = j ∧ E 1 = H ∧ E 5 = (.int .i64 B) ∧ E 6 = (.int .i64 D) ∧ gI 108 gp 9 j U I ∧ jy f1 m U B D = some r) jj ⟨a0, t, n, (wi0 .i64 (n + 1)), _, (d.gq St), rfl, rfl, rfl, rfl, T, hm⟩ ?_))))))
 rintro m E W ⟨U, I, B, D, a2, d, y, Q, G, K, g, a⟩
 cases m with
 | zero => rw [jy] at a; cases a
 | succ c7 =>
  refine gH (sg (Wh K (Wh y (V (iu ai rfl g) (Wi rfl (ln (CI a rfl (fun A a => ?_) (fun A a => ?_))))))))
  ·refine kn (gH (CJ a (fun Y E W => ∃ J a3, ST false (keys (t ++ [])) w W μ0 (J ++ a3) ∧ E 0 = j ∧ E 1 = H ∧ E 5 = (.int .i64 Y.2) ∧ E 6 = (.int .i64 D) ∧ gI 108 gp 9 j Y.1 J) (fun Y c => ?_) ?_))
   ·refine bg (Wh y (Wh K (bS c fun k M c => VQ (ie (i := D) (x0 := k) ai ag rfl rfl g (iD M) (hZ M)) (fun e3 P => V (gu rfl (je d.has (fun p h => (Ml h)) g ia P (hZ M) aM ag)) (VE (iw d aT (fun d6 e1 d => VO (gO (.agg (gp k).toArray) ((gp k).toArray) d rfl rfl ag (js k) nb rfl (fun d7 d => lr (Wh Q ?_))))))))))
    refine VA d Mh (gp k) aM ag (bS c fun e5 b5 c => VE (vw k d a4 (ig.refl _) rfl (ur rfl) b5 (fun d8 d => V (mZ rfl) (ln (CI c rfl (fun L c => ?_) (fun L c => ?_))))))
    ·refine sg (Wh y (Wh G (VA d Mh (gp k) aM ag (bS c fun c9 N c => VQ (ie (i := B) (x0 := c9) ai ag rfl rfl g (iD N) (hZ N)) (fun e4 R => ?_)))))
     replace d := d.perm (Nr (Qb Qz) Nz)
     refine VO (ua (u := (.agg (gp k).toArray)) (x1 := k)  d g ia js rfl rfl rfl R (hZ N) ag (fun d9 c0 d s => ln ?_))
     replace d := d.gq (Kr (Db St))
     refine gE (Wh G (Wi rfl (Wa (gM (gU (gC ?_))))))
     obtain rfl := sj c
     exact ⟨c0, _, (d.gq St), y, Q, rfl, K, s⟩
    refine ic (gU (gC ?_))
    obtain rfl := sj c
    exact ⟨I, _, (d.gq (Db St)), y, Q, G, K, g⟩
   rintro ⟨c6, c8⟩ E W ⟨J, a3, d, c2, c3, c4, c5, b6⟩ O
   exact gE (Wh c5 (Wi rfl (Wa (ln ⟨c7, bn _, c6, J, c8, (wi0 .i64 (D + 1)), _, (d.gq St), c2, c3, c4, rfl, b6, O⟩))))
  refine oy (nB (nB (sv (gC (sg (Wh y (Wh G (bS a fun _ Z a => VQ (pQ (i := B) ai ag rfl rfl g (pZ Z) (pW Z)) (fun e6 b7 => VO (tB (z := K9)  d g ia js ai aT b7 rfl rfl (fun e0 c1 d a9 => lr (Wh y ?_))))))))))))
  refine Wh G (bS a fun _ l a => VQ (vl (i := B) ai ag rfl rfl a9 ia (pZ l) (pW l)) (fun a5 b8 => Wa (lt ?_)))
  obtain rfl := sj a
  exact ij (v := a5) rfl rfl ⟨_, _, rfl, (d.oa (Kr Sn)), a5, c1, rfl, rfl, b8⟩
theorem Er (w : World) (s : ByteArray) (c : Int) : (callFunc 289 [Value.string s, .int .u8 c].toArray).run pg0 w = .ok (.value (.int .i64 (pF s c))) w := xI func289 (by kernel_rfl) (by kernel_rfl) (by kernel_rfl) (by kernel_rfl) s c w
theorem qi (a : ByteArray) (c r : Int) (w : World) (hm : kd a c = some r) :
  iC true pg0 254 [(.string a), (.int .u8 c)] w (.int .i64 r) := by
 exact cG 8 func254 rfl (fun b => sg (Wa (lr (Wm (Wm (VE (Ba (args := [(.string a), (.int .u8 c)]) (v := .int .i64 (pF a c)) rfl (by exact sb rfl rfl) (Er _ a c) (Wa (lt (rQ hm b))))))))))
theorem qL (a : ByteArray) (c r : Int) (w : World) (hm : mf a c = some r) :
  iC true pg0 215 [(.string a), (.int .u8 c)] w (.int .i64 r) := by
 refine cG 8 func215 rfl (fun b => sg (Wa (lr (Wm (Wm (bS hm fun j g hm => VE (Eg b call254 (qi a c _ _  g) (fun i b => Wa (ln ?_)))))))))
 exact iq (rQ hm b)
theorem Av (I : ByteArray) (r : Bool) (w : World) (hm : tj I = some r) :
  iC true pg0 216 [(.string I)] w (.bool r) := by
 refine cG 16 func216 rfl (fun b => sg (Wa (lS (Wm (bS hm fun H J hm => VE (yz b aR bL dF rfl J (fun W3 N T b M n j Y => V (kF bL rfl j) (Wm (gM ?_)))))))))
 refine gC (im (fun i E W => ∃ c, (E 8 = .int .i64 (i : Nat) ∧ E 7 = .int .i64 (H.length : Nat)) ∧ ST true gN w W T c ∧ E 6 = N ∧ om (H.drop i) = some r) H.length j.len ⟨_, ⟨rfl, rfl⟩, (b.gq St), rfl, hm⟩ dc dc dc (fun _ _ _ h => by obtain ⟨_, l, _⟩ := h; exact l) ?_ ?_)
 ·rintro K E W u ⟨c, ⟨d, m⟩, b, g, a⟩
  obtain ⟨k, Q, D, B, G⟩ := hX u
  rw [D] at a
  refine bg (VQ (iZ (enc := (iV .u8)) (i := (K : Int)) (x0 := k) bL sizeOf5 g d j (aj _) B) (fun Z x => V (gu rfl (kT b.has (y := (.int .u8 k)) x isAgg5)) (Wa (lr (Wm (bS a fun o z a => VE (Eg b call215 (qL (⟨#[97, 98, 99, 100, 101, 102, 103, 104, 105, 106, 107, 108, 109, 110, 111, 112, 113, 114, 115, 116, 117, 118, 119, 120, 121, 122, 48, 49, 50, 51, 52, 53, 54, 55, 56, 57, 45]⟩ : ByteArray) k _ _  z) (fun U b => Wi rfl (gM ?_)))))))))
  refine gC (CI a rfl (fun t a => ?_) (fun t a => ?_))
  ·refine sg (Wa (lt (jU (iv (jU (iv ?_))))))
   obtain rfl := sj a
   exact rP b
  exact ic (gU (gC ⟨d, _, ⟨rfl, m⟩, (b.gq St), g, (by rw [G]; exact a)⟩))
 rintro E W ⟨c, ⟨d, m⟩, b, g, a⟩
 rw [au] at a
 exact gC (sg (Wa (lt (rQ a b))))
theorem ol (z : ByteArray) (r : Bool) (w : World) (hm : lG z = some r) :
  iC true pg0 177 [(.string z)] w (.bool r) := by
 refine cG 21 func177 rfl (fun b => sg (Wa (lr (Wm (V (mi aR rfl) (Wi rfl (Wm (LJ hm (fun K E W => ∃ Y, ST true gN w W (hp w) Y ∧ E 0 = (.string z) ∧ E 2 = (.bool false) ∧ E 10 = (.bool K)) 4 ?_ (fun K t y => ?_)))))))))
 ·rintro x2 E W ⟨Y, b, M, d, l⟩ a5
  refine Wh l (LJ a5 (fun J E W => ∃ D, ST true gN w W (hp w) D ∧ E 0 = (.string z) ∧ E 2 = (.bool false) ∧ E 16 = (.bool J)) 5 ?_ (fun J a x => ?_))
  ·rintro q E W ⟨D, b, h, H, a2⟩ N
   refine Wh a2 (LJ N (fun I E W => ∃ G, ST true gN w W (hp w) G ∧ E 2 = (.bool false) ∧ E 20 = (.bool I)) 3 ?_ (fun I j u => ?_))
   ·rintro s E W ⟨G, b, a9, a3⟩ Q
    exact Wg a3 (lt (rQ Q b))
   refine bC j (fun g j => ?_) (fun g j => ?_)
   ·refine ug g (gy h) (bS j fun o T j => oM g (Eg b call216 (Av z _ _  T) (fun m b => V (gK (cB g) rfl) ?_)))
    obtain rfl := sj j
    exact u _ _ ⟨_, (b.gq St), H, rfl⟩
   refine un g (un g (V (gJ (cB g) rfl) ?_))
   obtain rfl := sj j
   exact u _ _ ⟨_, (b.gq St), H, rfl⟩
  refine bC a (fun c a => ?_) (fun c a => ?_)
  ·refine ug c (gy M) (bS a fun Z B a => ug c (sd (i := 0) aR rfl rfl (rh B) (uc B)) (bS a fun p U a => oM c (Eg b call215 (qL (⟨#[97, 98, 99, 100, 101, 102, 103, 104, 105, 106, 107, 108, 109, 110, 111, 112, 113, 114, 115, 116, 117, 118, 119, 120, 121, 122]⟩ : ByteArray) (Z.toNat : Int) _ _  U) (fun n b => ug c (iX rfl rfl rfl) (V (gK (cB c) rfl) ?_)))))
   obtain rfl := sj a
   exact x _ _ ⟨_, (b.gq St), M, d, rfl⟩
  refine un c (un c (un c (un c (V (gJ (cB c) rfl) ?_))))
  obtain rfl := sj a
  exact x _ _ ⟨_, (b.gq St), M, d, rfl⟩
 refine bC t (fun k t => ?_) (fun k t => ?_)
 ·refine ug k (gy rfl) (ug k (mi aR rfl) (ug k (iX rfl rfl rfl) (V (gK (cB k) rfl) ?_)))
  obtain rfl := sj t
  exact y _ _ ⟨_, (b.gq St), rfl, rfl, rfl⟩
 refine un k (un k (un k (V (gJ (cB k) rfl) ?_)))
 obtain rfl := sj t
 exact y _ _ ⟨_, (b.gq St), rfl, rfl, rfl⟩
theorem ox (i : gl) (r : Bool) (w : World) (hm : lH i = some r) :
  iC true pg0 157 [(.agg (gn i).toArray)] w (.bool r) := by
 refine cG 11 func157 rfl (fun b => sg (VE (iP b rfl (fun H J b => Wa (lr (Wf kz (VB b Mh rfl rfl aG (bS hm fun K y hm => VE (Eg b call177 (ol i.gF _ _  y) (fun I b => Wm (LJ hm (fun k E W => ∃ j, ST true gN w W (hp w) j ∧ E 2 = (.bool false) ∧ E 10 = (.bool k)) 4 ?_ (fun k a g => ?_))))))))))))
 ·rintro G E W ⟨j, b, B, x⟩ t
  exact Wg x (lt (rQ t b))
 refine bC a (fun c a => ?_) (fun c a => ?_)
 ·refine ug c (gA oT rfl) (ug c (gu rfl (gL b.has Mh rfl aG)) (bS a fun D u a => oM c (Eg b call177 (ol i.gY _ _  u) (fun z b => V (gK (cB c) rfl) ?_))))
  obtain rfl := sj a
  exact g _ _ ⟨_, (b.gq (Db St)), rfl, rfl⟩
 refine un c (un c (un c (V (gJ (cB c) rfl) ?_)))
 obtain rfl := sj a
 exact g _ _ ⟨_, (b.gq (Db St)), rfl, rfl⟩
theorem ET (w : World) (a b : ByteArray) : (callFunc 238 [Value.string a, .string b].toArray).run pg0 w = .ok (.value (.int .i64 (nP a b))) w := CH func238 (by kernel_rfl) (by kernel_rfl) (by kernel_rfl) (by kernel_rfl) a b w
theorem qc (a c : ByteArray) (r : Int) (w : World) (hm : lx a c = some r) :
  iC true pg0 186 [(.string a), (.string c)] w (.int .i64 r) := by
 exact cG 8 func186 rfl (fun b => sg (Wa (lr (Wm (Wm (VE (Ba (args := [(.string a), (.string c)]) (v := .int .i64 (nP a c)) rfl (by exact sb rfl rfl) (ET _ a c) (Wa (lt (rQ hm b))))))))))
theorem rS (a c : ByteArray) (r : Int) (w : World) (hm : ob a c = some r) :
  iC true pg0 125 [(.string a), (.string c)] w (.int .i64 r) := by
 refine cG 8 func125 rfl (fun b => sg (Wa (lr (Wm (Wm (bS hm fun j g hm => VE (Eg b call186 (qc a c _ _  g) (fun i b => Wa (ln ?_)))))))))
 exact iq (rQ hm b)
theorem zL (g : Value) (t : List Int) (r : Int) (w : World) (c : Sl (Pl (iV .i64)) 1 (hp w) g t) (hm : su t = some r) :
  iC true pg0 124 [g] w (.int .i64 r) := by
 refine cG 18 func124 rfl (fun b => sg (Wa (lr (Wa (lS (Wm ?_))))))
 refine V (kF underlying234 rfl c) (Wm (ln (im (fun i E W => ∃ k, (E 8 = .int .i64 (i : Nat) ∧ E 7 = .int .i64 (t.length : Nat)) ∧ ST true gN w W (hp w) k ∧ E 3 = (.int .i64 0) ∧ E 6 = g ∧ po (t.drop i) = some r) t.length c.len ⟨_, ⟨rfl, rfl⟩, (b.gq St), rfl, rfl, hm⟩ dc dc dc (fun _ _ _ h => by obtain ⟨_, l, _⟩ := h; exact l) ?_ ?_)))
 ·rintro J E W B ⟨k, ⟨d, m⟩, b, j, u, a⟩
  obtain ⟨x, K, H, G, I⟩ := hX B
  rw [H] at a
  refine bg (VQ (iZ (enc := (iV .i64)) (i := (J : Int)) (x0 := x) underlying234 dL u d c (aj _) G) (fun M D => V (gu rfl (kT b.has (y := (.int .i64 x)) D bj)) (Wa (lr (Wm (Wh j (Wi rfl (ln ?_))))))))
  refine CI a rfl (fun z a => ?_) (fun z a => ?_)
  ·refine sg (Wm (Wa (lt (jU (iv (jU (iv ?_)))))))
   obtain rfl := sj a
   exact rP b
  exact ic (gU (gC ⟨d, _, ⟨rfl, m⟩, (b.gq St), j, u, (by rw [I]; exact a)⟩))
 rintro E W ⟨k, ⟨d, m⟩, b, j, u, a⟩
 rw [au] at a
 exact gC (sg (Wh j (Wa (lt (rQ a b)))))
theorem tG (g i : gl) (r : Int) (w : World) (hm : ou g i = some r) :
  iC true pg0 57 [(.agg (gn g).toArray), (.agg (gn i).toArray)] w (.int .i64 r) := by
 refine cG 17 func57 rfl (fun b => sg (VE (iP b rfl (fun G I b => VE (iP b rfl (fun H J b => Wa (ln (gH ?_))))))))
 replace b := b.drew
 have d := b.has.gq (Kb (Kb Sn))
 refine iy d gW (X 0 rfl d (gA kz rfl) (XH 1 rfl d (fun _ h => gu rfl (gL h (Mt Mh) rfl aG)) (X 2 rfl d (gA kz rfl) (XH 3 rfl d (fun _ h => gu rfl (gL h Mh rfl aG)) (X 5 rfl d (gA oT rfl) (XH 6 rfl d (fun _ h => gu rfl (gL h (Mt Mh) rfl aG)) (X 7 rfl d (gA oT rfl) (XH 8 rfl d (fun _ h => gu rfl (gL h Mh rfl aG)) (bS hm fun a j hm => XE 4 rfl (Eg b call125 (rS g.gF i.gF _ _  j) (fun x b => ?_)))))))))))
 have d := b.has.gq (Kb (Kb Sn))
 refine ⟨d, (bS hm fun c k hm => XE 9 rfl (Eg b call125 (rS g.gY i.gY _ _  k) (fun y b => ?_)))⟩
 have d := b.has.gq (Kb (Kb Sn))
 refine ⟨d, (XE 10 rfl (gS (cs := #[(.int .i64 a), (.int .i64 c)]) b (mB rfl rfl) (jB underlying234 dL dG) (fun z u b => ?_)))⟩
 have d := b.has.gq (Db (Kb (Kb Sn)))
 refine ⟨d, (bS hm fun D t hm => XE 11 rfl (Eg b call124 (zL (.slice (some ⟨u, 0, none⟩) 2 2) ([a, c]) _ _ (Sl.lit (enc := (iV .i64)) (l := [a, c]) (fun _ => rfl) rfl nb rfl (b.at_ Mh)) t) (fun B b => ?_)))⟩
 have d := b.has.gq (Db (Kb (Kb Sn)))
 refine ⟨d, (X 12 rfl d (kc rfl) (iI kr (gC ?_)))⟩
 exact iq (rQ hm b)
set_option maxHeartbeats 4000000 in
theorem px (a : gm) (r : Bool) (w : World) (hm : mC a = some r) :
  iC true pg0 115 [(.agg (gp a).toArray)] w (.bool r) := by
 let m9 := (⟨a.Kind, a.Head, zS, a.B, a.C, zS⟩ : gm)
 let m8 := (⟨a.Kind, a.Head, zS, a.B, K0, a.gZ⟩ : gm)
 let m7 : Value := (.agg (gn a.B).toArray)
 let m6 := ((gp (⟨a.Kind, a.Head, zS, a.B, K0, zS⟩ : gm)).toArray)
 let o := (⟨a.Kind, a.Head, zS, K0, K0, zS⟩ : gm)
 refine cG 98 func115 rfl (fun b => sg (VE (iP b rfl (fun W2 N b => Wa (lr (Wf jk (VB b Mh rfl rfl bj (Wf jz (VA b Mh (gn a.Head) ah ae (V (ko (v := (.agg (gp o).toArray)) (mB rfl rfl) (jq aT bM (BB _ bM) kr)) (VE (iw b aT (fun W4 B b => ?_)))))))))))))
 refine VO (gO (.agg (gp o).toArray) ((gp o).toArray) b rfl rfl ag (js o) nb rfl (fun W5 b => lr (Wf jz (VA b (Mt Mh) (gn a.Head) ah ae (bS hm fun n i9 hm => VE (Eg b call157 (ox a.Head _ _  i9) (fun W8 b => Wa (ln (gH (F1 hm (fun s E W => ∃ R, ST true gN w W (hp w) ((B, Ol (gp s.2) 108) :: ((N, Ol (gp a) 108) :: R)) ∧ E 1 = (.pointer (some ⟨N, 0, none⟩)) ∧ E 3 = (.pointer (some ⟨B, 0, none⟩)) ∧ E 4 = (.bool s.1)) (fun s g Z => ?_) ?_))))))))))
 ·let j2 := ((gp m9).toArray : Array Value)
  let j1 := ((gp m8).toArray : Array Value)
  let m : Value := (.pointer (some ⟨B, 0, none⟩))
  let l : Value := (.pointer (some ⟨N, 0, none⟩))
  let a0 := ((gp a).toArray : Array Value)
  refine sg (Wf jk (VB b (Mt Mh) rfl rfl bj (ln (bg (Wi rfl (Wa (ln (CI g rfl (fun e4 g => ?_) (fun e4 g => ?_)))))))))
  ·replace b := b.drew
   have d := b.has.gq (Db (Kb Sn))
   refine iy d gW (X 0 rfl d (gA mE rfl) (XH 1 rfl d (fun _ h => gu rfl (gL h Mh rfl aG)) (X 2 rfl d (gy rfl) (X 3 rfl d (gy rfl) (X 8 rfl d (gA mE rfl) (PJ g (fun d5 E W => ∃ b8, ST true gN w W (hp w) ((B, Ol (gp o) 108) :: ((N, Obj.cells a0 108 (0, 0)) :: b8)) ∧ E 1 = l ∧ E 3 = m ∧ E 4 = (.bool n) ∧ E 18 = (.string a.gP) ∧ E 24 = (.bool d5) ∧ E 25 = (.pointer (some ⟨B, 3, none⟩))) (bm 11 511) 2 ?_ (fun d5 D a2 => ?_)))))))
   ·rintro l8 E W ⟨b8, b, g9, h0, k5, h1, h2, h3⟩ f0
    refine XO 9 rfl (gO (.string a.gP) ((gp (⟨a.Kind, a.Head, a.gP, K0, K0, zS⟩ : gm)).toArray) b h3 h1 bU (uk a.gP) nb rfl (fun j0 b => ?_))
    have d := b.has.gq (Db (Kb Sn))
    refine ⟨d, (X 10 rfl d (kc h2) (iI kr (gU (gC ?_))))⟩
    obtain rfl := sj f0
    exact ⟨_, rfl, _, (b.gq St), g9, h0, rfl⟩
   refine bC D (fun k D => ?_) (fun k D => ?_)
   ·refine Xg 4 rfl rfl (cB k) d (gA mE rfl) (nn 5 rfl rfl (cB k) d (fun _ h => gu rfl (gL h Mh rfl aG)) (bS D fun k9 f8 D => uG 6 rfl rfl (cB k) (Eg b call177 (ol a.gP _ _  f8) (fun j3 b => ?_))))
    have d := b.has.gq (Db (Kb Sn))
    refine ⟨d, (X 7 rfl d (gK (cB k) rfl) ?_)⟩
    obtain rfl := sj D
    refine iH kr (a2 _ _ ⟨_, (b.gq St), rfl, rfl, rfl, rfl, rfl, rfl⟩)
   refine Xn 4 rfl rfl (cB k) d (Xn 5 rfl rfl (cB k) d (Xn 6 rfl rfl (cB k) d (X 7 rfl d (gJ (cB k) rfl) ?_)))
   obtain rfl := sj D
   refine iH kr (a2 _ _ ⟨_, (b.gq St), rfl, rfl, rfl, rfl, rfl, rfl⟩)
  refine sg (Wi rfl (Wa (ln (CI g rfl (fun e5 g => ?_) (fun e5 g => ?_)))))
  ·replace b := b.drew
   have d := b.has.gq (Db (Kb Sn))
   refine iy d gW (X 0 rfl d (gA iK rfl) (XH 1 rfl d (fun _ h => gu rfl (gD h Mh (gn a.B) rfl ah ae)) (X 2 rfl d (gy rfl) (X 3 rfl d (gy rfl) (X 8 rfl d (gA iK rfl) (PJ g (fun d6 E W => ∃ b9, ST true gN w W (hp w) ((B, Ol (gp o) 108) :: ((N, Obj.cells a0 108 (0, 0)) :: b9)) ∧ E 1 = l ∧ E 3 = m ∧ E 4 = (.bool n) ∧ E 29 = m7 ∧ E 35 = (.bool d6) ∧ E 36 = (.pointer (some ⟨B, 4, none⟩))) (bm 11 511) 2 ?_ (fun d6 G a3 => ?_)))))))
   ·rintro l9 E W ⟨b9, b, h4, h5, k6, h6, h7, h8⟩ f1
    refine XO 9 rfl (gO m7 m6 b h8 h6 ae (kX a.B) nb rfl (fun j4 b => ?_))
    have d := b.has.gq (Db (Kb Sn))
    refine ⟨d, (X 10 rfl d (kc h7) (iI kr (gU (gC ?_))))⟩
    obtain rfl := sj f1
    exact ⟨_, rfl, _, (b.gq St), h4, h5, rfl⟩
   refine bC G (fun t G => ?_) (fun t G => ?_)
   ·refine Xg 4 rfl rfl (cB t) d (gA iK rfl) (nn 5 rfl rfl (cB t) d (fun _ h => gu rfl (gD h Mh (gn a.B) rfl ah ae)) (bS G fun l0 f9 G => uG 6 rfl rfl (cB t) (Eg b call157 (ox a.B _ _  f9) (fun j5 b => ?_))))
    have d := b.has.gq (Db (Kb Sn))
    refine ⟨d, (X 7 rfl d (gK (cB t) rfl) ?_)⟩
    obtain rfl := sj G
    refine iH kr (a3 _ _ ⟨_, (b.gq St), rfl, rfl, rfl, rfl, rfl, rfl⟩)
   refine Xn 4 rfl rfl (cB t) d (Xn 5 rfl rfl (cB t) d (Xn 6 rfl rfl (cB t) d (X 7 rfl d (gJ (cB t) rfl) ?_)))
   obtain rfl := sj G
   refine iH kr (a3 _ _ ⟨_, (b.gq St), rfl, rfl, rfl, rfl, rfl, rfl⟩)
  refine sg (Wi rfl (Wa (ln (CI g rfl (fun e6 g => ?_) (fun e6 g => ?_)))))
  ·refine gH ?_
   replace b := b.drew
   have d := b.has.gq (Db (Kb Sn))
   refine iy d gW (X 0 rfl d (gA iK rfl) (XH 1 rfl d (fun _ h => gu rfl (gD h Mh (gn a.B) rfl ah ae)) (X 2 rfl d (gA ml rfl) (XH 3 rfl d (fun _ h => gu rfl (gL h Mh rfl aG)) (X 4 rfl d (gA iK rfl) (XO 5 rfl (gO m7 m6 b rfl rfl ae (kX a.B) nb rfl (fun j6 b => ?_))))))))
   have d := b.has.gq (Db (Kb Sn))
   refine ⟨d, (X 6 rfl d (gA ml rfl) (XO 7 rfl (gO (.string a.gZ) ((gp m8).toArray) b rfl rfl bU (uk a.gZ) nb rfl (fun j7 b => ?_))))⟩
   have d := b.has.gq (Db (Kb Sn))
   refine ⟨d, (iI kr (gC (gE (Wm (Wm (LJ g (fun d9 E W => ∃ c0, ST true gN w W (hp w) ((B, Obj.cells j1 108 (0, 0)) :: ((N, Obj.cells a0 108 (0, 0)) :: c0)) ∧ E 1 = l ∧ E 3 = m ∧ E 4 = (.bool n) ∧ E 50 = (.bool d9)) 4 ?_ (fun d9 I L => ?_)))))))⟩
   ·rintro m0 E W ⟨c0, b, U, c6, c7, h9⟩ f2
    refine Wh h9 (LJ f2 (fun d8 E W => ∃ c1, ST true gN w W (hp w) ((B, Obj.cells j1 108 (0, 0)) :: ((N, Obj.cells a0 108 (0, 0)) :: c1)) ∧ E 1 = l ∧ E 3 = m ∧ E 4 = (.bool n) ∧ E 59 = (.bool d8)) 8 ?_ (fun d8 T a5 => ?_))
    ·rintro m1 E W ⟨c1, b, p, c8, c9, i0⟩ f3
     refine Wh i0 (LJ f3 (fun d7 E W => ∃ c2, ST true gN w W (hp w) ((B, Obj.cells j1 108 (0, 0)) :: ((N, Obj.cells a0 108 (0, 0)) :: c2)) ∧ E 1 = l ∧ E 3 = m ∧ E 4 = (.bool n) ∧ E 64 = (.bool d7)) 4 ?_ (fun d7 H a4 => ?_))
     ·rintro m2 E W ⟨c2, b, i1, i2, k7, i3⟩ f4
      refine Wg i3 (gM (gU (gC ?_)))
      obtain rfl := sj f4
      exact ⟨_, rfl, _, (b.gq St), i1, i2, rfl⟩
     refine bC H (fun x H => ?_) (fun x H => ?_)
     ·refine ug x (gA ml p) (ug x (gu rfl (gL b.has (Mt Mh) rfl aG)) (bS H fun l1 g0 H => oM x (Eg b call177 (ol a.gZ _ _  g0) (fun j8 b => V (gK (cB x) rfl) ?_))))
      obtain rfl := sj H
      exact a4 _ _ ⟨_, (b.gq St), p, c8, c9, rfl⟩
     refine un x (un x (un x (V (gJ (cB x) rfl) ?_)))
     obtain rfl := sj H
     exact a4 _ _ ⟨_, (b.gq St), p, c8, c9, rfl⟩
    refine bC T (fun c T => ?_) (fun c T => ?_)
    ·refine ug c (gA iK U) (ug c (gA kz rfl) (ug c (gu rfl (gL b.has (Mt Mh) rfl aG)) (ug c (gA jz U) (ug c (gA kz rfl) (ug c (gu rfl (gL b.has (Mt Mh) rfl aG)) (ug c (lY rfl rfl rfl) (V (gK (cB c) rfl) ?_)))))))
     obtain rfl := sj T
     exact a5 _ _ ⟨_, (b.gq St), U, c6, c7, rfl⟩
    refine un c (un c (un c (un c (un c (un c (un c (V (gJ (cB c) rfl) ?_)))))))
    obtain rfl := sj T
    exact a5 _ _ ⟨_, (b.gq St), U, c6, c7, rfl⟩
   refine bC I (fun u I => ?_) (fun u I => ?_)
   ·refine ug u (gA iK rfl) (ug u (gu rfl (gD b.has (Mt Mh) (gn a.B) rfl ah ae)) (bS I fun l2 g1 I => oM u (Eg b call157 (ox a.B _ _  g1) (fun j9 b => V (gK (cB u) rfl) ?_))))
    obtain rfl := sj I
    exact L _ _ ⟨_, (b.gq St), rfl, rfl, rfl, rfl⟩
   refine un u (un u (un u (V (gJ (cB u) rfl) ?_)))
   obtain rfl := sj I
   exact L _ _ ⟨_, (b.gq St), rfl, rfl, rfl, rfl⟩
  refine sg (Wi rfl (Wa (ln (CI g rfl (fun e7 g => ?_) (fun e7 g => ?_)))))
  ·refine gH ?_
   replace b := b.drew
   have d := b.has.gq (Db (Kb Sn))
   refine iy d gW (X 0 rfl d (gA iK rfl) (XH 1 rfl d (fun _ h => gu rfl (gD h Mh (gn a.B) rfl ah ae)) (X 2 rfl d (gA kp rfl) (XH 3 rfl d (fun _ h => gu rfl (gD h Mh (gn a.C) rfl ah ae)) (X 4 rfl d (gA iK rfl) (XO 5 rfl (gO m7 m6 b rfl rfl ae (kX a.B) nb rfl (fun k0 b => ?_))))))))
   have d := b.has.gq (Db (Kb Sn))
   refine ⟨d, (X 6 rfl d (gA kp rfl) (XO 7 rfl (gO (.agg (gn a.C).toArray) ((gp m9).toArray) b rfl rfl ae (kX a.C) nb rfl (fun k1 b => ?_))))⟩
   have d := b.has.gq (Db (Kb Sn))
   refine ⟨d, (iI kr (gC (gE (Wm (Wm (LJ g (fun e2 E W => ∃ c3, ST true gN w W (hp w) ((B, Obj.cells j2 108 (0, 0)) :: ((N, Obj.cells a0 108 (0, 0)) :: c3)) ∧ E 1 = l ∧ E 3 = m ∧ E 4 = (.bool n) ∧ E 78 = (.bool e2)) 4 ?_ (fun e2 M a9 => ?_)))))))⟩
   ·rintro m3 E W ⟨c3, b, q, d0, d1, i4⟩ f5
    refine Wh i4 (LJ f5 (fun e1 E W => ∃ c4, ST true gN w W (hp w) ((B, Obj.cells j2 108 (0, 0)) :: ((N, Obj.cells a0 108 (0, 0)) :: c4)) ∧ E 1 = l ∧ E 3 = m ∧ E 4 = (.bool n) ∧ E 83 = (.bool e1)) 4 ?_ (fun e1 K P => ?_))
    ·rintro m4 E W ⟨c4, b, Y, d2, d3, i5⟩ f6
     refine Wh i5 (LJ f6 (fun e0 E W => ∃ c5, ST true gN w W (hp w) ((B, Obj.cells j2 108 (0, 0)) :: ((N, Obj.cells a0 108 (0, 0)) :: c5)) ∧ E 1 = l ∧ E 3 = m ∧ E 4 = (.bool n) ∧ E 91 = (.bool e0)) 7 ?_ (fun e0 J O => ?_))
     ·rintro m5 E W ⟨c5, b, i6, i7, k8, i8⟩ f7
      refine Wg i8 (gM (gU (gC ?_)))
      obtain rfl := sj f7
      exact ⟨_, rfl, _, (b.gq St), i6, i7, rfl⟩
     refine bC J (fun i J => ?_) (fun i J => ?_)
     ·refine ug i (gA iK Y) (ug i (gu rfl (gD b.has (Mt Mh) (gn a.B) rfl ah ae)) (ug i (gA kp Y) (ug i (gu rfl (gD b.has (Mt Mh) (gn a.C) rfl ah ae)) (bS J fun l3 g2 J => oM i (Eg b call57 (tG a.B a.C _ _  g2) (fun k2 b => ug i (iX rfl rfl rfl) (V (gK (cB i) rfl) ?_)))))))
      obtain rfl := sj J
      exact O _ _ ⟨_, (b.gq St), Y, d2, d3, rfl⟩
     refine un i (un i (un i (un i (un i (un i (V (gJ (cB i) rfl) ?_))))))
     obtain rfl := sj J
     exact O _ _ ⟨_, (b.gq St), Y, d2, d3, rfl⟩
    refine bC K (fun z K => ?_) (fun z K => ?_)
    ·refine ug z (gA kp q) (ug z (gu rfl (gD b.has (Mt Mh) (gn a.C) rfl ah ae)) (bS K fun l4 g3 K => oM z (Eg b call157 (ox a.C _ _  g3) (fun k3 b => V (gK (cB z) rfl) ?_))))
     obtain rfl := sj K
     exact P _ _ ⟨_, (b.gq St), q, d0, d1, rfl⟩
    refine un z (un z (un z (V (gJ (cB z) rfl) ?_)))
    obtain rfl := sj K
    exact P _ _ ⟨_, (b.gq St), q, d0, d1, rfl⟩
   refine bC M (fun y M => ?_) (fun y M => ?_)
   ·refine ug y (gA iK rfl) (ug y (gu rfl (gD b.has (Mt Mh) (gn a.B) rfl ah ae)) (bS M fun l5 g4 M => oM y (Eg b call157 (ox a.B _ _  g4) (fun k4 b => V (gK (cB y) rfl) ?_))))
    obtain rfl := sj M
    exact a9 _ _ ⟨_, (b.gq St), rfl, rfl, rfl, rfl⟩
   refine un y (un y (un y (V (gJ (cB y) rfl) ?_)))
   obtain rfl := sj M
   exact a9 _ _ ⟨_, (b.gq St), rfl, rfl, rfl, rfl⟩
  refine sg (Wa (ln ?_))
  replace b := b.gq (Db (Db St))
  refine iq (jU (iv ?_))
  obtain rfl := sj g
  replace Z : some false = some r := Z
  obtain rfl := sj Z
  exact rP b
 rintro ⟨l6, e3⟩ E W ⟨R, b, g5, g6, g7⟩ e8
 refine sg (Wh g7 (Wm (LJ e8 (fun d4 E W => ∃ b7, ST true gN w W (hp w) b7 ∧ E 97 = (.bool d4)) 4 ?_ (fun d4 Q A => ?_))))
 ·rintro l7 E W ⟨b7, b, g8⟩ e9
  exact Wg g8 (lt (rQ e9 b))
 refine bC Q (fun j Q => ?_) (fun j Q => ?_)
 ·refine ug j (gu g6 (gD b.has Mh (gp e3) rfl aM ag)) (ug j (gu g5 (gD b.has (Mt Mh) (gp a) rfl aM ag)) (ug j (od rfl rfl (jw fh) (lR (uz _ e3 a))) (V (gK (cB j) rfl) ?_)))
  obtain rfl := sj Q
  exact A _ _ ⟨_, (b.gq (Db (Db St))), rfl⟩
 refine un j (un j (un j (V (gJ (cB j) rfl) ?_)))
 obtain rfl := sj Q
 exact A _ _ ⟨_, (b.gq (Db (Db St))), rfl⟩
theorem yN (a : gm) (r : Bool) (w : World) (hm : pY a = some r) :
  iC true pg0 114 [(.agg (gp a).toArray)] w (.bool r) := by
 refine cG 6 func114 rfl (fun b => sg (VE (iP b rfl (fun g j b => Wa (lr (VA b Mh (gp a) aM ag (bS hm fun k c hm => VE (Eg b call115 (px a _ _  c) (fun i b => V (mZ rfl) (Wa (gM ?_)))))))))))
 refine gC ?_
 exact iq (rQ hm b)
theorem Bo (c : Value) (k : List gm) (a : LO) (g : Value) (t : (gm × gm) → Option Int) (r : List gm) (w : World) {y : gT} (u : pN y (a ++ []) w) (i : gI 108 gp 9 c k a) (j : xh pg0 g y (fun (x : (gm × gm)) => [(.agg (gp x.1).toArray), (.agg (gp x.2).toArray)]) (fun (r : Int) => (.int .i64 r)) t) (hm : qy t k = some r) :
  ir true pg0 116 [c, g] w (a ++ []) (fun v z W' => ∃ S, v = (.tuple #[]) ∧ z = (S ++ []) ∧ gI 108 gp 9 c r S) := wm (P := pg0) (ρ := B2) Fi 9 aM ag gp ia js u.H u.S i j hm
theorem qN (t : Nat) (j : Value) (G : List Int) (i : LO) (h : Int) (r : (Bool × (List Int))) (w : World) {μ0 : gT} (s : pN μ0 ((t, Ob #[j] 81) :: (i ++ [])) w) (y : gI 5 (iV .u8) 1 j G i) (hm : mc G h = some r) :
  ir true pg0 93 [(.pointer (some ⟨t, 0, none⟩)), (.int .i64 h)] w ((t, Ob #[j] 81) :: (i ++ [])) (fun v L1 W' => ∃ n S2, v = (.bool (r.1)) ∧ L1 = ((t, Ob #[n] 81) :: (S2 ++ [])) ∧ gI 5 (iV .u8) 1 n r.2 S2) := by
 refine sN s 38 func93 rfl (fun d => sg (Wa (lS (Wm (V (qE eP rfl rfl) (Wm (Vg rfl rfl (gy rfl) (Vg rfl rfl (iX rfl rfl rfl) (V (gJ rfl rfl) ?_)))))))))
 refine ln (CI hm rfl (fun a9 hm => ?_) (fun a9 hm => ?_))
 ·refine sg (Wa (lt (iv ?_)))
  obtain rfl := sj hm
  exact ij (v := (.bool false)) rfl rfl ⟨_, _, rfl, (d.oa (Kb (Kr Sn))), j, i, rfl, rfl, y⟩
 refine kn (gH (ji (lT (fun m E W => ∃ c z U u a0, ST true (keys ((t, Ob #[j] 81) :: (i ++ []))) w W μ0 ((t, Ob #[z] 81) :: (u ++ a0)) ∧ E 0 = (.pointer (some ⟨t, 0, none⟩)) ∧ E 1 = (.int .i64 c) ∧ gI 5 (iV .u8) 1 z U u ∧ la m c U = some r) jj ⟨h, j, G, i, _, (d.gq St), rfl, rfl, y, hm⟩ ?_)))
 rintro m E W ⟨c, z, U, u, a0, d, x, K, T, g⟩
 cases m with
 | zero => rw [la] at g; cases g
 | succ q =>
  refine gH (sg (Wh K (Wi rfl (ln (CI g rfl (fun o g => ?_) (fun o g => ?_))))))
  ·refine kn (gH (ji (gE (Wh x (Wh x (Wn (Wf sD (VB d Mh rfl rfl isAgg78 (Wh K (V (tb (k' := .i64) (a := c) dE dF rfl) (V (BK (k := .u8) (a := (IntKind.u8.wrap c)) (b := 128) (v := (.int .u8 (IntKind.u8.wrap (BitVec.ofInt (IntKind.bits .u8) (IntKind.u8.wrap c) ||| BitVec.ofInt (IntKind.bits .u8) 128).toNat))) rfl rfl dc rfl) (VE (gS (cs := [(.int .u8 (IntKind.u8.wrap (BitVec.ofInt (IntKind.bits .u8) (IntKind.u8.wrap c) ||| BitVec.ofInt (IntKind.bits .u8) 128).toNat))].toArray) d (kk rfl) (jB bL sizeOf5 fX) (fun c2 p d => ?_))))))))))))))
   replace d := d.perm (Nr (Qb (Qb Qz)) Nz)
   refine bS g fun Q Y g => VE (jn (enc := (iV .u8)) (v := z) (vs := (.slice (some ⟨p, 0, none⟩) 1 1)) (R := u) d (fun _ => rfl) dc (sG _) bL oe.1 oe.2.1 rfl oe.2.2.1 oe.2.2.2 rfl rfl T (Sl.lit (enc := (iV .u8)) (l := [(IntKind.u8.wrap (BitVec.ofInt (IntKind.bits .u8) (IntKind.u8.wrap c) ||| BitVec.ofInt (IntKind.bits .u8) 128).toNat)]) (fun _ => rfl) rfl nb rfl (d.at_ (Ma Mh))) Y (fun A c0 a2 d M => Wn (Wf sD ?_)))
   obtain ⟨B, H, rfl⟩ := M.form
   replace d := d.perm (Nb (Pr (Pb Pz)) Nz)
   refine VO (gO (.slice B Q.length H) (#[(.slice B Q.length H)]) d rfl rfl sizeOf78 oc nb rfl (fun L d => gM (gU (gC ?_))))
   replace d := d.gq (Kb (Kr (Db St)))
   exact gE (Wh K (V (Fz (a := c) (b := 7) rfl rfl dc) (Wa (ln ⟨q, bn _, (Int.fdiv c (2 ^ min (Int.toNat 7) (IntKind.bits .i64))), (.slice B Q.length H), Q, a2, _, (d.gq St), x, rfl, M, g⟩))))
  refine oy (nB (nB (sv (gC (sg (Wh x (Wh x (Wn (Wf sD (VB d Mh rfl rfl isAgg78 (Wh K (V (tb (k' := .i64) (a := c) dE dF rfl) (VE (gS (cs := [(.int .u8 (IntKind.u8.wrap c))].toArray) d (kk rfl) (jB bL sizeOf5 fX) (fun O a5 d => ?_)))))))))))))))
  replace d := d.perm (Nr (Qb (Qb Qz)) Nz)
  refine bS g fun J Z g => VE (jn (enc := (iV .u8)) (v := z) (vs := (.slice (some ⟨a5, 0, none⟩) 1 1)) (R := u) d (fun _ => rfl) dc (sG _) bL oe.1 oe.2.1 rfl oe.2.2.1 oe.2.2.2 rfl rfl T (Sl.lit (enc := (iV .u8)) (l := [(IntKind.u8.wrap c)]) (fun _ => rfl) rfl nb rfl (d.at_ (Ma Mh))) Z (fun P c1 a3 d N => Wn (Wf sD ?_)))
  obtain ⟨D, I, rfl⟩ := N.form
  replace d := d.perm (Nb (Pr (Pb Pz)) Nz)
  refine VO (gO (.slice D J.length I) (#[(.slice D J.length I)]) d rfl rfl sizeOf78 oc nb rfl (fun b8 d => ln ?_))
  replace d := d.gq (Kb (Kr (Db St)))
  refine sg (Wa (lt ?_))
  obtain rfl := sj g
  exact ij (v := (.bool true)) rfl rfl ⟨_, _, rfl, (d.oa (Kb (Kr Sn))), (.slice D J.length I), a3, rfl, rfl, N⟩
theorem vV (g : Nat) (c : Value) (j : List Int) (a : LO) (u : Value) (D : List Int) (r : (Bool × (List Int))) (w : World) {Z : gT} (h : pN Z ((g, Ob #[c] 81) :: (a ++ [])) w) (i : gI 5 (iV .u8) 1 c j a) (k : Sl (Pl (iV .u8)) 1 Z u D) (hm : pM j D = some r) :
  ir true pg0 206 [(.pointer (some ⟨g, 0, none⟩)), u] w ((g, Ob #[c] 81) :: (a ++ [])) (fun v L1 W' => ∃ U M, v = (.bool (r.1)) ∧ L1 = ((g, Ob #[U] 81) :: (M ++ [])) ∧ gI 5 (iV .u8) 1 U r.2 M) := by
 refine sN h 25 func206 rfl (fun b => sg (Wa (lS (Wm (V (qE eP rfl rfl) (Wm (Vg rfl rfl (gy rfl) (Vg rfl rfl (kF bL rfl k) (Vg rfl rfl (iX rfl rfl rfl) ?_)))))))))
 refine V (gJ rfl rfl) (ln (CI hm rfl (fun Q hm => ?_) (fun Q hm => ?_)))
 ·refine sg (Wa (lt (iv ?_)))
  obtain rfl := sj hm
  exact ij (v := (.bool false)) rfl rfl ⟨_, _, rfl, (b.oa (Kb (Kr Sn))), c, a, rfl, rfl, i⟩
 refine kg (Wm (Wm (V (kF bL rfl k) (bS hm fun p T hm => ?_))))
 refine VE (eM b (Cb Pz (Cr Qz Cn)) call93 (fun l _ => (qN g c j a (D.length : Int) _ _ l i T)) ?_)
 rintro _ q n a3 b H m d ⟨Y, K, t, rfl, I⟩
 obtain rfl := t.symm
 replace b := b.perm (Tb (Tr Tn))
 refine lr (Wm (Wm (Wn (Wf sD (VB b Mh rfl rfl isAgg78 (Wm ?_))))))
 replace b := b.perm (Nr (Qb Qz) Nz)
 refine bS hm fun B G hm => VE (jn (enc := (iV .u8)) (v := Y) (vs := u) (R := K) b (fun _ => rfl) dc (sG _) bL oe.1 oe.2.1 rfl oe.2.2.1 oe.2.2.2 rfl rfl I (k.mono (Pl.mono _) (H.trans b.iG)) G (fun a4 o J b z => Wn (Wf sD ?_)))
 obtain ⟨x, y, rfl⟩ := z.form
 replace b := b.perm (Nb (Pr Pz) Nz)
 refine VO (gO (.slice x B.length y) (#[(.slice x B.length y)]) b rfl rfl sizeOf78 oc nb rfl (fun a5 b => lr (Wa (lt ?_))))
 obtain rfl := sj hm
 exact ij (v := (.bool true)) rfl rfl ⟨_, _, rfl, (b.oa (Kb (Kr Sn))), (.slice x B.length y), J, rfl, rfl, z⟩
theorem qC (j : Nat) (c : Value) (t : List Int) (a : LO) (J : ByteArray) (r : (Bool × (List Int))) (w : World) {Z : gT} (s : pN Z ((j, Ob #[c] 81) :: (a ++ [])) w) (k : gI 5 (iV .u8) 1 c t a) (hm : nm t J = some r) :
  ir true pg0 162 [(.pointer (some ⟨j, 0, none⟩)), (.string J)] w ((j, Ob #[c] 81) :: (a ++ [])) (fun v L1 W' => ∃ n S2, v = (.bool (r.1)) ∧ L1 = ((j, Ob #[n] 81) :: (S2 ++ [])) ∧ gI 5 (iV .u8) 1 n r.2 S2) := by
 refine sN s 17 func162 rfl (fun b => sg (Wa (lr (Wm (V (xD eP rfl rfl) (Wm (Vg rfl rfl (gy rfl) (bS hm fun r1 a4 hm => E4 rfl rfl (Eg b call177 (ol J _ _  a4) (fun W3 b => V (gK rfl rfl) ?_))))))))))
 refine Wm (LJ hm (fun B E W => ∃ z x D I, ig Z D ∧ ST true (keys ((j, Ob #[c] 81) :: (a ++ []))) w W D ((j, Ob #[z] 81) :: (x ++ I)) ∧ E 4 = (.bool false) ∧ E 16 = (.bool B.1) ∧ gI 5 (iV .u8) 1 z B.2 x) 5 ?_ (fun B g y => ?_))
 ·rintro ⟨p, b9⟩ E W ⟨z, x, D, I, K, b, R, a3, T⟩ M
  refine Wg a3 (lt ?_)
  obtain rfl := sj M
  exact ij (v := (.bool p)) rfl rfl ⟨_, _, rfl, (b.oa (Kb (Kr Sn))), z, x, rfl, rfl, T⟩
 refine bC g (fun i g => ?_) (fun i g => ?_)
 ·refine ug i (gy rfl) (ug i (gy rfl) (bS g fun a5 N g => oM i (yz b aR bL dF rfl N (fun P o c2 b G l U L => bS g fun c0 Q g => ?_))))
  refine oM i (eM b (Cb Pz (Cr Qz Cn)) call206 (fun A h => (vV j c t a o a5 _ _ A k (U.mono (Pl.mono _) h) Q)) ?_)
  rintro _ c1 q O b H m d ⟨a9, a2, u, rfl, Y⟩
  obtain rfl := u.symm
  replace b := b.perm (Tb (Tr Tn))
  refine V (gK (cB i) rfl) ?_
  obtain rfl := sj g
  exact y _ _ ⟨a9, a2, q, _, (G.trans H), (b.gq St), rfl, rfl, Y⟩
 refine un i (un i (un i (un i (V (gJ (cB i) rfl) ?_))))
 obtain rfl := sj g
 exact y _ _ ⟨c, a, Z, _, (ig.refl _), (b.gq St), rfl, rfl, k⟩
theorem pv (c : Nat) (i : Value) (D : List Int) (a : LO) (x : gl) (r : (Bool × (List Int))) (w : World) {μ0 : gT} (h0 : pN μ0 ((c, Ob #[i] 81) :: (a ++ [])) w) (y : gI 5 (iV .u8) 1 i D a) (hm : lF D x = some r) :
  ir true pg0 94 [(.pointer (some ⟨c, 0, none⟩)), (.agg (gn x).toArray)] w ((c, Ob #[i] 81) :: (a ++ [])) (fun v L1 W' => ∃ p S2, v = (.bool (r.1)) ∧ L1 = ((c, Ob #[p] 81) :: (S2 ++ [])) ∧ gI 5 (iV .u8) 1 p r.2 S2) := by
 let l := ((c, Ob #[i] 81) :: (a ++ []))
 refine sN h0 23 func94 rfl (fun b => sg (VE (iP b rfl (fun W2 m b => Wa (lr (Wm (V (xD eP rfl rfl) (Wm (Vg rfl rfl (gu rfl (gD b.has Mh (gn x) rfl ah ae)) (bS hm fun r3 c3 hm => E4 rfl rfl (Eg b call157 (ox x _ _  c3) (fun W5 b => ?_))))))))))))
 refine V (gK rfl rfl) (Wm (LJ hm (fun T E W => ∃ z u B a0, ig μ0 B ∧ ST true (keys l) w W B ((m, Ol (gn x) 28) :: ((c, Ob #[z] 81) :: (u ++ a0))) ∧ E 0 = (.pointer (some ⟨c, 0, none⟩)) ∧ E 3 = (.pointer (some ⟨m, 0, none⟩)) ∧ E 4 = (.bool false) ∧ E 16 = (.bool T.1) ∧ gI 5 (iV .u8) 1 z T.2 u) 5 ?_ (fun T t K => ?_)))
 ·rintro ⟨e5, c4⟩ E W ⟨z, u, B, a0, d1, b, b9, c0, a3, c1, N⟩ q
  refine Wh c1 (LJ q (fun Q E W => ∃ M I U a2, ig B U ∧ ST true (keys l) w W U ((c, Ob #[M] 81) :: (I ++ a2)) ∧ E 4 = (.bool false) ∧ E 22 = (.bool Q.1) ∧ gI 5 (iV .u8) 1 M Q.2 I) 5 ?_ (fun Q k J => ?_))
  ·rintro ⟨c5, e0⟩ E W ⟨M, I, U, a2, d2, b, d9, c2, L⟩ s
   refine Wg c2 (lt ?_)
   obtain rfl := sj s
   exact ij (v := (.bool c5)) rfl rfl ⟨_, _, rfl, (b.oa (Kb (Kr Sn))), M, I, rfl, rfl, L⟩
  refine bC k (fun g k => ?_) (fun g k => ?_)
  ·refine ug g (gy b9) (ug g (gA oT c0) (ug g (gu rfl (gL b.has Mh rfl aG)) (bS k fun e1 A k => ?_)))
   refine oM g (eM b (Cb (Pb Pz) (Cr (Qb Qz) Cn)) call162 (fun h _ => (qC c z c4 u x.gY _ _ h N A)) ?_)
   rintro _ e3 c9 d5 b Y n d ⟨c7, R, G, rfl, O⟩
   obtain rfl := G.symm
   replace b := b.perm (Tb (Tr Tn))
   refine V (gK (cB g) rfl) ?_
   obtain rfl := sj k
   exact J _ _ ⟨c7, R, c9, _, Y, (b.gq (Kb (Kr (Db St)))), a3, rfl, O⟩
  refine un g (un g (un g (un g (V (gJ (cB g) rfl) ?_))))
  obtain rfl := sj k
  exact J _ _ ⟨z, u, B, _, (ig.refl _), (b.gq (Db St)), a3, rfl, N⟩
 refine bC t (fun j t => ?_) (fun j t => ?_)
 ·refine ug j (gy rfl) (ug j (gA kz rfl) (ug j (gu rfl (gL b.has Mh rfl aG)) (bS t fun e2 a9 t => ?_)))
  refine oM j (eM b (Cb (Pb Pz) (Cr (Qb Qz) Cn)) call162 (fun h _ => (qC c i D a x.gF _ _ h y a9)) ?_)
  rintro _ e4 d0 d6 b Z o d ⟨c8, b7, H, rfl, P⟩
  obtain rfl := H.symm
  replace b := b.perm (Tb (Tr Tn))
  refine V (gK (cB j) rfl) ?_
  obtain rfl := sj t
  exact K _ _ ⟨c8, b7, d0, _, Z, (b.gq (Sb (Pb (Pr Pz)) St)), rfl, rfl, rfl, rfl, P⟩
 refine un j (un j (un j (un j (V (gJ (cB j) rfl) ?_))))
 obtain rfl := sj t
 exact K _ _ ⟨i, a, μ0, _, (ig.refl _), (b.gq St), rfl, rfl, rfl, rfl, y⟩
theorem yI (g : Value) (i r : List Int) (w : World) (a : Sl (Pl (iV .u8)) 1 (hp w) g i) (hm : qa i = some r) :
  iz true pg0 96 [g] w 5 (iV .u8) 1 r := by
 unfold qa at hm
 refine oE 8 func96 rfl (fun b => sg (Wa (lS (Wm ?_))))
 obtain ⟨y, B, rfl⟩ := a.form
 refine V (yp bL rfl rfl) (ln ?_)
 rcases y with _ | z
 ·have u := a.isNil
  replace hm : some [] = some r := by rw [u] at hm; simpa [jh, maxLen] using hm
  refine qp (rfl) (sg (Wa (lt (iv ?_))))
  obtain rfl := sj hm
  exact ij (v := (.slice none 0 0)) rfl rfl ⟨_, [], rfl, b.jd (fun p d => by cases d) (by simp), gI.nil _ _ _⟩
 ·refine mw (rfl) (kg (VE (gS (cs := #[]) b vm (vS [] bL sizeOf5 fX dc rfl (by simp) rfl rfl) (fun G k b => Wm (bS hm fun H t hm => VE (jn (enc := (iV .u8)) (v := (.slice (some ⟨k, 0, none⟩) 0 0)) (vs := (.slice (some z) i.length B)) (R := [(k, Ob #[] 5)]) b (fun _ => rfl) dc (sG _) bL oe.1 oe.2.1 rfl oe.2.2.1 oe.2.2.2 rfl rfl (gI.lit (l := []) (enc := (iV .u8)) rfl dc rfl rfl) (a.mono (Pl.mono _) b.iG) t (fun D x j b c => Wa (lt ?_))))))))
  obtain rfl := sj hm
  exact ij (v := x) rfl rfl ⟨_, j, rfl, b.jd (fun p d => (Ml d)) c.nd, c⟩
theorem wQ (g : Nat) (a : Value) (c r : List Int) (w : World) (j : Sl (Pl (iV .u8)) 1 (hp w) a c) (k : At (hp w) (.pointer (some ⟨g, 0, none⟩)) [a]) (hm : qe c = some r) :
  iz true pg0 37 [(.pointer (some ⟨g, 0, none⟩))] w 5 (iV .u8) 1 r := by
 refine oE 10 func37 rfl (fun b => sg (Wa (lS (Wm (V (qE eP rfl rfl) (ln (mw rfl (ic ?_))))))))
 refine gC (sg (Wm (Wn (VQ (rB [a] sD rfl k rfl) (fun G u => V (gu rfl (kT b.has (y := a) u isAgg78)) (bS hm fun H x hm => VE (lB b call96 (yI a c _ _ (j.mono (Pl.mono _) b.iG) x) (fun D z I t b B d i => Wa (lt ?_)))))))))
 obtain rfl := sj hm
 exact ij (v := z) rfl rfl ⟨_, t, rfl, b.jd (fun p h => (Ml h)) i.nd, i⟩
theorem vy (c : gm) (r : List Int) (w : World) (hm : pr c = some r) :
  iz true pg0 161 [(.agg (gp c).toArray)] w 5 (iV .u8) 1 r := by
 refine oE 53 func161 rfl (fun d => sg (VE (iP d rfl (fun W2 b1 d => Wa (lS (VA d Mh (gp c) aM ag (bS hm fun r3 g2 hm => VE (Eg d call115 (px c _ _  g2) (fun W5 d => V (mZ rfl) (gM ?_))))))))))
 refine gC (CI hm rfl (fun f9 hm => ?_) (fun f9 hm => ?_))
 ·refine sg (Wa (ln ?_))
  replace d := d.gq (Db St)
  refine iq (iv ?_)
  obtain rfl := sj hm
  exact ij (v := (.slice none 0 0)) rfl rfl ⟨_, [], rfl, d.jd (fun p m => by cases m) (by simp), gI.nil _ _ _⟩
 refine kg (V (ko (v := (.agg #[(.slice none 0 0)])) vm (jq zeroValue81 fW (FU _ fW) kr)) (VE (iP d rfl (fun W8 g d => Wa (lr (Wm (Wf jk (VB d (Mt Mh) rfl rfl bj (bS hm fun r9 e1 hm => ?_)))))))))
 refine VE (eM d (Cb Pz (C0 Cn)) call93 (fun l _ => (qN g (.slice none 0 0) ([]) [] c.Kind _ _ l (gI.nil _ _ _) e1)) ?_)
 rintro _ k0 k2 j6 d g4 R h ⟨g3, f8, I, rfl, e3⟩
 obtain rfl := I.symm
 replace d := d.perm (Tb (Tr Tn))
 refine lr (Wm (Wf jz (VA d (Mt (Ma Mh)) (gn c.Head) ah ae (bS hm fun N e2 hm => ?_))))
 refine VE (eM d (Cb Pz (Cr Qz Cn)) call94 (fun l _ => (pv g g3 r9.2 f8 c.Head _ _ l e3 e2)) ?_)
 rintro _ k1 d0 j7 d g5 a6 h ⟨G, D, J, rfl, i⟩
 obtain rfl := J.symm
 replace d := d.perm (Tb (Tr Tn))
 refine ln (gH (CJ hm (fun a3 E W => ∃ B H K Q, ig d0 K ∧ ST true gN w W K ((g, Ob #[B] 81) :: (H ++ Q)) ∧ E 3 = (.pointer (some ⟨g, 0, none⟩)) ∧ gI 5 (iV .u8) 1 B a3 H) (fun a3 a => ?_) ?_))
 ·refine sg (Wf jk (VB d (Mt (Ma Mh)) rfl rfl bj (ln (bg (Wi rfl (Wa (ln (CI a rfl (fun b0 a => ?_) (fun b0 a => ?_)))))))))
  ·refine gE (Wm (Wf mE (VB d (Mt (Ma Mh)) rfl rfl aG (bS a fun i0 b6 a => ?_))))
   refine VE (eM d (Cb Pz (Cr Qz Cn)) call162 (fun l _ => (qC g G N.2 D c.gP _ _ l i b6)) ?_)
   rintro _ i5 f4 g6 d T q h ⟨e8, d2, k, rfl, c4⟩
   obtain rfl := k.symm
   replace d := d.perm (Tb (Tr Tn))
   refine gM (gU (gC ?_))
   obtain rfl := sj a
   exact ⟨e8, d2, f4, _, T, (d.gq (Kb (Kr (Db St)))), rfl, c4⟩
  refine sg (Wi rfl (Wa (ln (CI a rfl (fun b2 a => ?_) (fun b2 a => ?_)))))
  ·refine gE (Wm (Wf iK (VA d (Mt (Ma Mh)) (gn c.B) ah ae (bS a fun i1 b8 a => ?_))))
   refine VE (eM d (Cb Pz (Cr Qz Cn)) call94 (fun l _ => (pv g G N.2 D c.B _ _ l i b8)) ?_)
   rintro _ i6 f5 g7 d U s h ⟨e9, d3, t, rfl, c5⟩
   obtain rfl := t.symm
   replace d := d.perm (Tb (Tr Tn))
   refine gM (gU (gC ?_))
   obtain rfl := sj a
   exact ⟨e9, d3, f5, _, U, (d.gq (Kb (Kr (Db St)))), rfl, c5⟩
  refine sg (Wi rfl (Wa (ln (CI a rfl (fun b3 a => ?_) (fun b3 a => ?_)))))
  ·refine sg (Wm (Wf iK (VA d (Mt (Ma Mh)) (gn c.B) ah ae (bS a fun e5 b9 a => ?_))))
   refine VE (eM d (Cb Pz (Cr Qz Cn)) call94 (fun l _ => (pv g G N.2 D c.B _ _ l i b9)) ?_)
   rintro _ i7 j4 g8 d Y A h ⟨f0, d4, u, rfl, c6⟩
   obtain rfl := u.symm
   replace d := d.perm (Tb (Tr Tn))
   refine ln (gE (Wm (Wf ml (VB d (Mt (Ma Mh)) rfl rfl aG (bS a fun i2 c0 a => ?_)))))
   refine VE (eM d (Cb Pz (Cr Qz Cn)) call162 (fun l _ => (qC g f0 e5.2 d4 c.gZ _ _ l c6 c0)) ?_)
   rintro _ i8 f6 g9 d Z L h ⟨f1, d5, x, rfl, c7⟩
   obtain rfl := x.symm
   replace d := d.perm (Tb (Tr Tn))
   refine gM (gU (gC ?_))
   obtain rfl := sj a
   exact ⟨f1, d5, f6, _, (Y.trans Z), (d.gq (Kb (Kr (Db St)))), rfl, c7⟩
  refine sg (Wi rfl (Wa (ln (CI a rfl (fun b4 a => ?_) (fun b4 a => ?_)))))
  ·refine sg (Wm (Wf iK (VA d (Mt (Ma Mh)) (gn c.B) ah ae (bS a fun e6 c1 a => ?_))))
   refine VE (eM d (Cb Pz (Cr Qz Cn)) call94 (fun l _ => (pv g G N.2 D c.B _ _ l i c1)) ?_)
   rintro _ i9 j5 h0 d a1 O h ⟨f2, d6, y, rfl, c8⟩
   obtain rfl := y.symm
   replace d := d.perm (Tb (Tr Tn))
   refine ln (gE (Wm (Wf kp (VA d (Mt (Ma Mh)) (gn c.C) ah ae (bS a fun i3 c2 a => ?_)))))
   refine VE (eM d (Cb Pz (Cr Qz Cn)) call94 (fun l _ => (pv g f2 e6.2 d6 c.C _ _ l c8 c2)) ?_)
   rintro _ j0 f7 h1 d a2 P h ⟨f3, d7, z, rfl, c9⟩
   obtain rfl := z.symm
   replace d := d.perm (Tb (Tr Tn))
   refine gM (gU (gC ?_))
   obtain rfl := sj a
   exact ⟨f3, d7, f7, _, (a1.trans a2), (d.gq (Kb (Kr (Db St)))), rfl, c9⟩
  refine ic (gU (gC ?_))
  obtain rfl := sj a
  exact ⟨G, D, d0, _, (ig.refl _), (d.gq (Kb (Kr (Db St)))), rfl, i⟩
 rintro e4 E W ⟨B, H, K, Q, g0, d, d8, c3⟩ j
 refine sg (Wh d8 (bS j fun h9 b5 j => VE (lB d call37 (wQ g B e4 _ _ (c3.sl (fun _ => rfl) (fun b o m => d.at_ (Mt (Ml m)))) (At.of (d.at_ Mh) _ rfl) b5) (fun h2 e7 j3 d1 d g1 n M => Wa (ln ?_)))))
 replace d := d.gq (Kr (Db (Dr St)))
 refine iq ?_
 obtain rfl := sj j
 exact ij (v := e7) rfl rfl ⟨_, d1, rfl, d.jd (fun p m => (Ml m)) M.nd, M⟩
theorem EX (w : World) {c d : Value} {a b : List Int} (h1 : Sl (Pl (iV .u8)) 1 (hp w) c a) (g : Sl (Pl (iV .u8)) 1 (hp w) d b) : (callFunc 227 [c, d].toArray).run pg0 w = .ok (.value (.int .i64 (rr a b))) w := C4 func227 (by kernel_rfl) (by kernel_rfl) (by kernel_rfl) (by kernel_rfl) h1 g
theorem xt (a : Value) (g : List Int) (c : Value) (i : List Int) (r : Int) (w : World) (j : Sl (Pl (iV .u8)) 1 (hp w) a g) (k : Sl (Pl (iV .u8)) 1 (hp w) c i) (hm : sZ g i = some r) :
  iC true pg0 180 [a, c] w (.int .i64 r) := by
 exact cG 8 func180 rfl (fun b => sg (Wa (lr (Wm (Wm (VE (Ba (args := [a, c]) (v := .int .i64 (rr g i)) rfl (by exact sb rfl rfl) (EX _ (j.mono (Pl.mono _) b.iG) (k.mono (Pl.mono _) b.iG)) (Wa (lt (rQ hm b))))))))))
theorem xW (g i : gm) (r : Int) (w : World) (hm : ni g i = some r) :
  iC true pg0 117 [(.agg (gp g).toArray), (.agg (gp i).toArray)] w (.int .i64 r) := by
 refine cG 10 func117 rfl (fun d => sg (VE (iP d rfl (fun T Y d => VE (iP d rfl (fun U Z d => Wa (ln (gH ?_))))))))
 replace d := d.drew
 have h := d.has.gq (Kb (Kb Sn))
 refine iy h gW (XH 0 rfl h (fun _ l => gu rfl (gD l (Mt Mh) (gp g) rfl aM ag)) (XH 2 rfl h (fun _ l => gu rfl (gD l Mh (gp i) rfl aM ag)) (bS hm fun y t hm => XE 1 rfl (lB d call161 (vy g _ _  t) (fun I B N G d a n j => ?_)))))
 have h := d.has.qP a (Dr (Kb (Kb Sn)))
 refine ⟨h, (bS hm fun z u hm => XE 3 rfl (lB d call161 (vy i _ _  u) (fun J D Q H d c p k => ?_)))⟩
 have h := d.has.qP (a.trans c) (Dr (Dr (Kb (Kb Sn))))
 refine ⟨h, (bS hm fun M x hm => XE 4 rfl (Eg d call180 (xt B y D z _ _ (j.sl (fun _ => rfl) (fun b o m => d.at_ (Ma (Ml m)))) (k.sl (fun _ => rfl) (fun b o m => d.at_ (Ml m))) x) (fun K d => ?_)))⟩
 have h := d.has.qP (a.trans c) (Dr (Dr (Kb (Kb Sn))))
 refine ⟨h, (X 5 rfl h (kc rfl) (iI kr (gC ?_)))⟩
 exact iq (rQ hm d)
theorem tT (j : Value) (a0 : List gm) (x : LO) (r : List gm) (w : World) {μ0 : gT} (h0 : pN μ0 (x ++ []) w) (B : gI 108 gp 9 j a0 x) (hm : mK a0 = some r) :
  ir true pg0 118 [j] w (x ++ []) (fun v L1 W' => ∃ y1 S2, v = y1 ∧ L1 = (S2 ++ []) ∧ gI 108 gp 9 y1 r S2) := by
 refine sN h0 61 func118 rfl (fun b => sg (Wa (lS (Wm (V (iu ai rfl B) (Wi rfl (ln (CI hm rfl (fun f9 hm => ?_) (fun f9 hm => ?_)))))))))
 ·refine sg (Wm (Wa (lt (iv ?_))))
  obtain rfl := sj hm
  exact ij (v := j) rfl rfl ⟨_, _, rfl, (b.oa (Kr Sn)), j, x, rfl, rfl, B⟩
 refine kS (Wa (ln (ji (lT (fun m E W => ∃ t R, ST true (keys (x ++ [])) w W μ0 (x ++ R) ∧ E 0 = j ∧ E 3 = (.int .i64 t) ∧ jR a0 m t = some r) jj ⟨1, _, (b.gq St), rfl, rfl, hm⟩ ?_))))
 rintro m E W ⟨t, R, b, D, H, a⟩
 cases m with
 | zero => rw [jR] at a; cases a
 | succ f4 =>
  refine gH (sg (Wh H (Wh D (V (iu ai rfl B) (Wi rfl (ln (CI a rfl (fun c9 a => ?_) (fun c9 a => ?_))))))))
  ·refine kn (gH (ji (gH ?_)))
   replace b := b.drew
   have d := b.has.gq (Kr Sn)
   refine iy d gW (X 0 rfl d (gy D) (X 1 rfl d (gy H) (bS a fun c2 Z a => XQ 2 rfl d (ie (i := t) (x0 := c2) ai ag rfl rfl B (iD Z) (hZ Z)) (fun g4 d5 => XH 3 rfl d (fun _ l => gu rfl (je l (fun p h => (Ml h)) B ia d5 (hZ Z) aM ag)) (X 4 rfl d (gy D) (X 5 rfl d (gy H) (X 6 rfl d (iX rfl rfl rfl) (bS a fun c3 n a => XQ 7 rfl d (ie (i := (wi0 .i64 (t - 1))) (x0 := c3) ai ag rfl rfl B (iD n) (hZ n)) (fun g5 d6 => XH 8 rfl d (fun _ l => gu rfl (je l (fun p h => (Ml h)) B ia d6 (hZ n) aM ag)) (X 9 rfl d (od rfl rfl (jw fh) (lR (uz _ c2 c3))) (iI kr (gC ?_))))))))))))
   refine CI a rfl (fun d0 a => ?_) (fun d0 a => ?_)
   ·refine sg (Wh D (Wh H (bS a fun _ A a => VQ (pQ (i := t) ai ag rfl rfl B (pZ A) (pW A)) (fun c0 M => Wa (lS (Wa (ln ?_)))))))
    refine CJ a (fun U E W => ∃ o b5, ST true (keys (x ++ [])) w W μ0 (o ++ b5) ∧ E 0 = j ∧ E 3 = (.int .i64 U.2) ∧ gI 108 gp 9 j U.1 o) (fun U d3 => ?_) ?_
    ·refine ji (lT (fun m E W => ∃ q K Y y b6, ST true (keys (x ++ [])) w W μ0 (K ++ b6) ∧ E 0 = j ∧ E 3 = (.int .i64 Y) ∧ E 4 = c0 ∧ E 5 = (.int .i64 y) ∧ gI 108 gp 9 j q K ∧ jQ t m q Y y = some U) jj ⟨a0, x, t, 1, _, (b.gq St), D, H, rfl, rfl, B, d3⟩ ?_)
     rintro m E W ⟨q, K, Y, y, b6, b, Q, T, I, J, g, k⟩
     cases m with
     | zero => rw [jQ] at k; cases k
     | succ f5 =>
      refine gH (sg (Wh J (Wh I (V (yu ai rfl M g) (Wi rfl (ln (CI k rfl (fun d1 k => ?_) (fun d1 k => ?_))))))))
      ·refine kn (gH (CJ k (fun s E W => ∃ N b7, ST true (keys (x ++ [])) w W μ0 (N ++ b7) ∧ E 0 = j ∧ E 3 = (.int .i64 s.2) ∧ E 4 = c0 ∧ E 5 = (.int .i64 y) ∧ gI 108 gp 9 j s.1 N) (fun s c => ?_) ?_))
       ·refine ji (gH ?_)
        replace b := b.drew
        have d := b.has.gq (Kr Sn)
        refine iy d gW (X 0 rfl d (gy I) (X 1 rfl d (gy J) (bS c fun c5 a2 c => XQ 2 rfl d (pb (i := y) (x0 := c5) ai ag rfl rfl g M (iD a2) (hZ a2)) (fun g6 d7 => XH 3 rfl d (fun _ l => gu rfl (je l (fun p h => (Ml h)) g ia d7 (qg (hZ a2)) aM ag)) (X 4 rfl d (gy I) (X 5 rfl d (gy J) (X 6 rfl d (iX rfl rfl rfl) (bS c fun c6 a3 c => XQ 7 rfl d (pb (i := (wi0 .i64 (y - 1))) (x0 := c6) ai ag rfl rfl g M (iD a3) (hZ a3)) (fun g7 d8 => XH 8 rfl d (fun _ l => gu rfl (je l (fun p h => (Ml h)) g ia d8 (qg (hZ a3)) aM ag)) (X 9 rfl d (za rfl rfl (jw fh) (vJ (uz _ c5 c6))) (iI kr (gC ?_))))))))))))
        refine CI c rfl (fun d2 c => ?_) (fun d2 c => ?_)
        ·refine sg (Wh Q (Wh T (Wh I (Wh J (bS c fun a9 a4 c => VQ (pb (i := y) (x0 := a9) ai ag rfl rfl g M (iD a4) (hZ a4)) (fun g8 d9 => V (gu rfl (je b.has (fun p h => (Ml h)) g ia d9 (qg (hZ a4)) aM ag)) (bS c fun f7 a5 c => VQ (ie (i := Y) (x0 := f7) ai ag rfl rfl g (iD a5) (hZ a5)) (fun g9 e0 => VO (ua (u := (.agg (gp a9).toArray)) (x1 := a9)  b g ia js rfl rfl rfl e0 (hZ a5) ag (fun g2 e7 b c8 => ln (gE ?_)))))))))))
         refine Wh T (Wi rfl (Wa (gM (gU (gC ?_)))))
         obtain rfl := sj c
         exact ⟨e7, _, (b.gq St), Q, rfl, I, J, c8⟩
        refine ic (gU (gC ?_))
        obtain rfl := sj c
        exact ⟨K, _, (b.gq St), Q, T, I, J, g⟩
       rintro ⟨f3, f6⟩ E W ⟨N, b7, b, e9, f0, f1, f2, e3⟩ d4
       exact gE (Wh f2 (Wi rfl (Wa (ln ⟨f5, bn _, f3, N, f6, (wi0 .i64 (y + 1)), _, (b.gq St), e9, f0, f1, rfl, e3, d4⟩))))
      refine oy (nB (nB (sv (gC ?_))))
      obtain rfl := sj k
      exact ⟨K, _, (b.gq St), Q, T, g⟩
    rintro ⟨g3, c4⟩ E W ⟨o, b5, b, b8, b9, P⟩ G
    refine sg (Wh b8 (Wh b9 (bS G fun _ L G => VQ (pQ (i := c4) ai ag rfl rfl P (pZ L) (pW L)) (fun h1 e1 => VO (tB (z := K9)  b P ia js ai aT e1 rfl rfl (fun g1 e6 b c7 => lr (Wh b8 (Wh b9 (bS G fun _ O G => VQ (vl (i := c4) ai ag rfl rfl c7 ia (pZ O) (pW O)) (fun c1 e2 => ?_))))))))))
    refine Wa (lt (jU (iv (iv (jU (iv ?_))))))
    obtain rfl := sj G
    exact ij (v := c1) rfl rfl ⟨_, _, rfl, (b.oa (Kr Sn)), c1, e6, rfl, rfl, e2⟩
   exact ic (gU (gC (gE (Wh H (Wi rfl (Wa (ln ⟨f4, bn _, (wi0 .i64 (t + 1)), _, (b.gq St), D, rfl, a⟩)))))))
  refine oy (nB (nB (sv (gC (sg (Wh D (Wa (lt ?_))))))))
  obtain rfl := sj a
  exact ij (v := j) rfl rfl ⟨_, _, rfl, (b.oa (Kr Sn)), j, x, rfl, rfl, B⟩
theorem rZ (i : Value) (t r : List gm) (w : World) (B : Sl (Pl gp) 9 (hp w) i t) (hm : mX t = some r) :
  iz false pg0 51 [i] w 108 gp 9 r := by
 refine oE 11 func51 rfl (fun b => sg (Wa (lr (Wm (bS hm fun u T hm => VE (lB b call113 (iz.kC (uO i t _ _ (B.mono (Pl.mono _) b.iG) T)) (fun W3 y A R8 b a5 o Q => bS hm fun U D hm => ?_)))))))
 refine VE (eM b (Cr Qz Cn) call112 (fun h _ => (sC y u R8 (.func (.func 114) #[] #[]) (fun (x : gm) => pY x) _ _ h Q ⟨114, #[], #[], rfl, call114, fun W x r s hm => (yN x r W  hm).kC⟩ D)) ?_)
 rintro _ R b8 L b E l d ⟨k, K, a, rfl, I⟩
 obtain rfl := a.symm
 replace b := b.perm (Tr Tn)
 refine Wa (lr (Wm (bS hm fun Y G hm => ?_)))
 refine VE (eM b (Cr Qz Cn) call116 (fun h _ => ir.kC (Bo k U K (.func (.func 117) #[] #[]) (fun (x : (gm × gm)) => ni x.1 x.2) _ _ h I ⟨117, #[], rfl, call117, fun W x r s hm => xW x.1 x.2 r W  hm⟩ G)) ?_)
 rintro _ b6 b9 a9 b a2 m d ⟨M, c, rfl, J⟩
 obtain rfl := c.symm
 replace b := b.perm (Tr Tn)
 refine lr (Wm (bS hm fun P H hm => ?_))
 refine VE (eM b (Cr Qz Cn) call118 (fun h _ => ir.kC (tT k Y M _ _ h J H)) ?_)
 rintro _ b7 c0 O b a3 n d ⟨Z, N, g, rfl, j⟩
 obtain rfl := g.symm
 replace b := b.perm (Tr Tn)
 refine Wa (lt ?_)
 obtain rfl := sj hm
 exact ij (v := Z) rfl rfl ⟨_, N, rfl, b.jd (fun p q => (Ml q)) j.nd, j⟩
theorem uP (j : Value) (t : List gm) (c : gm) (r : Int) (w : World) (g : Sl (Pl gp) 9 (hp w) j t) (hm : pc t c = some r) :
  iC true pg0 248 [j, (.agg (gp c).toArray)] w (.int .i64 r) := by
 refine cG 19 func248 rfl (fun b => sg (VE (iP b rfl (fun Q J b => Wa (lS (Wm (V (kF ai rfl g) (Wm (ln ?_)))))))))
 refine im (fun i E W => ∃ k, (E 8 = .int .i64 (i : Nat) ∧ E 7 = .int .i64 (t.length : Nat)) ∧ ST true gN w W (hp w) ((J, Ol (gp c) 108) :: k) ∧ E 0 = j ∧ E 3 = (.pointer (some ⟨J, 0, none⟩)) ∧ lb c (t.drop i) i = some r) t.length g.len ⟨_, ⟨rfl, rfl⟩, (b.gq St), rfl, rfl, hm⟩ dc dc dc (fun _ _ _ h => by obtain ⟨_, m, _⟩ := h; exact m) ?_ ?_
 ·rintro K E W B ⟨k, ⟨l, o⟩, b, u, x, a⟩
  obtain ⟨y, M, H, G, I⟩ := hX B
  rw [H] at a
  refine bg (Wh l (Wa (ln (gH ?_))))
  replace b := b.drew
  have d := b.has.gq (Kb Sn)
  refine iy d gW (XH 0 rfl d (fun _ n => gu x (gD n Mh (gp c) rfl aM ag)) (X 1 rfl d (gy u) (X 2 rfl d (gy rfl) (XQ 3 rfl d (iZ (enc := gp) (i := (K : Int)) (x0 := y) ai ag rfl rfl g (aj _) G) (fun N D => XH 4 rfl d (fun _ n => gu rfl (jM n D aM ag)) (X 5 rfl d (od rfl rfl (jw fh) (lR (uz _ c y))) (iI kr (gC (CI a rfl (fun z a => ?_) (fun z a => ?_))))))))))
  ·refine sg (Wm (Wa (ln ?_)))
   replace b := b.gq (Db St)
   refine iq (jU (iv (jU (iv ?_))))
   obtain rfl := sj a
   exact rP b
  exact ic (gU (gC ⟨l, _, ⟨rfl, o⟩, (b.gq St), u, x, (by rw [I]; exact a)⟩))
 rintro E W ⟨k, ⟨l, o⟩, b, u, x, a⟩
 rw [au] at a
 refine gC ?_
 replace b := b.gq (Db St)
 exact sg (Wa (lt (rQ a b)))
theorem tf (a : Value) (g : List gm) (c : gm) (r : Bool) (w : World) (i : Sl (Pl gp) 9 (hp w) a g) (hm : nW g c = some r) :
  iC true pg0 201 [a, (.agg (gp c).toArray)] w (.bool r) := by
 refine cG 9 func201 rfl (fun b => sg (VE (iP b rfl (fun k u b => Wa (lr (Wm (VA b Mh (gp c) aM ag (bS hm fun x j hm => VE (Eg b call248 (uP a g c _ _ (i.mono (Pl.mono _) b.iG) j) (fun t b => Wi rfl (Wa ?_)))))))))))
 refine ln ?_
 exact iq (rQ hm b)
theorem Bu (a : Value) (g : List gm) (c : gm) (r : Bool) (w : World) (i : Sl (Pl gp) 9 (hp w) a g) (hm : sc g c = some r) :
  iC true pg0 151 [a, (.agg (gp c).toArray)] w (.bool r) := by
 refine cG 8 func151 rfl (fun b => sg (VE (iP b rfl (fun k u b => Wa (lr (Wm (VA b Mh (gp c) aM ag (bS hm fun x j hm => VE (Eg b call201 (tf a g c _ _ (i.mono (Pl.mono _) b.iG) j) (fun t b => Wa (gM ?_)))))))))))
 refine gC ?_
 exact iq (rQ hm b)
theorem vE (a : gm) (r : List gl) (w : World) (hm : pw a = some r) :
  iz true pg0 52 [(.agg (gp a).toArray)] w 28 gn 2 r := by
 refine oE 27 func52 rfl (fun b => sg (VE (iP b rfl (fun W2 h b => Wa (lS (VA b Mh (gp a) aM ag (bS hm fun r3 o hm => VE (Eg b call115 (px a _ _  o) (fun W5 b => V (mZ rfl) (gM ?_))))))))))
 refine gC (CI hm rfl (fun n hm => ?_) (fun n hm => ?_))
 ·refine sg (Wa (ln ?_))
  replace b := b.gq (Db St)
  refine iq (iv ?_)
  obtain rfl := sj hm
  exact ij (v := (.slice none 0 0)) rfl rfl ⟨_, [], rfl, b.jd (fun p d => by cases d) (by simp), gI.nil _ _ _⟩
 refine kg (Wf jz (VA b Mh (gn a.Head) ah ae (VE (gS (cs := (gn a.Head).toArray) b (kk rfl) (jB aO ae bt) (fun W8 y b => Wa (ln (gH (CJ hm (fun I E W => ∃ j i z, ST true gN w W (hp w) ((h, Ol (gp a) 108) :: (i ++ z)) ∧ E 1 = (.pointer (some ⟨h, 0, none⟩)) ∧ E 3 = j ∧ gI 28 gn 2 j I i) (fun I g => ?_) ?_))))))))
 ·refine sg (Wf jk (VB b (Mt Mh) rfl rfl bj (Wi rfl (ln (CI g rfl (fun Q g => ?_) (fun Q g => ?_))))))
  ·refine gE (Wm (Wf iK (VA b (Mt Mh) (gn a.B) ah ae (VE (gS (cs := (gn a.B).toArray) b (kk rfl) (jB aO ae bt) (fun L a4 b => ?_))))))
   replace b := b.perm (Nb (Pb Pz) Nz)
   refine bS g fun b9 T g => VE (jn (enc := gn) (v := (.slice (some ⟨y, 0, none⟩) 1 1)) (vs := (.slice (some ⟨a4, 0, none⟩) 1 1)) (R := [(y, Ol (gn a.Head) 28)]) b kP dc kX aO kA.1 kA.2.1 rfl kA.2.2.1 kA.2.2.2 rfl rfl (gI.lit (l := [a.Head]) (enc := gn) rfl dc rfl rfl) (Sl.lit (enc := gn) (l := [a.B]) kP rfl nb rfl (b.at_ (Mt Mh))) T (fun O a9 m b K => Wa (ln ?_)))
   obtain rfl := sj g
   exact ⟨a9, m, _, (b.gq (Sb (Pr (Pb Pz)) (Kr (Db St)))), rfl, rfl, K⟩
  refine kn ?_
  obtain rfl := sj g
  replace b := b.FQ
  exact ⟨(.slice (some ⟨y, 0, none⟩) 1 1), [(y, Ol (gn a.Head) 28)], _, (b.gq (Sb (Pr Pz) St)), rfl, rfl, (gI.lit (l := [a.Head]) (enc := gn) rfl dc rfl rfl)⟩
 rintro P E W ⟨j, i, z, b, D, G, u⟩ U
 refine gH (CJ U (fun H E W => ∃ t k B, ST true gN w W (hp w) (k ++ B) ∧ E 3 = t ∧ gI 28 gn 2 t H k) (fun H c => ?_) ?_)
 ·refine sg (V (gA jk D) (VB b Mh rfl rfl bj (Wi rfl (ln (CI c rfl (fun M c => ?_) (fun M c => ?_))))))
  ·refine gE (Wh G (V (gA kp D) (VA b Mh (gn a.C) ah ae (VE (gS (cs := (gn a.C).toArray) b (kk rfl) (jB aO ae bt) (fun s a3 b => ?_))))))
   replace b := b.perm (Nr (Qb (Qb Qz)) Nz)
   refine bS c fun b8 N c => VE (jn (enc := gn) (v := j) (vs := (.slice (some ⟨a3, 0, none⟩) 1 1)) (R := i) b kP dc kX aO kA.1 kA.2.1 rfl kA.2.2.1 kA.2.2.2 rfl rfl u (Sl.lit (enc := gn) (l := [a.C]) kP rfl nb rfl (b.at_ (Ma Mh))) N (fun A q Z b J => Wa (ln ?_)))
   obtain rfl := sj c
   exact ⟨q, Z, _, (b.gq (Kr (Db (Db St)))), rfl, J⟩
  refine kn ?_
  obtain rfl := sj c
  exact ⟨j, i, _, (b.gq (Db St)), G, u⟩
 rintro b6 E W ⟨t, k, B, b, a5, x⟩ Y
 refine sg (Wh a5 (Wa (lt ?_)))
 obtain rfl := sj Y
 exact ij (v := t) rfl rfl ⟨_, k, rfl, b.jd (fun p d => (Ml d)) x.nd, x⟩
theorem uA (M : Nat) (u : Value) (a9 : List (gl × (List (ByteArray × Bool)))) (G : LO) (D : Value) (a0 : List gm) (B : LO) (a : Value) (Y : List (gl × (List gm))) (I : LO) (c : Value) (K : List (ByteArray × (List gm))) (t : LO) (j : Value) (a4 : List gr) (y : LO) (J : Int) (H : gm) (r : ((List gm) × (List (gl × (List gm))) × (List (ByteArray × (List gm))))) (w : World) {μ0 : gT} (h0 : pN μ0 ((M, Ob #[u, D, a, c, j, (.int .i64 J)] 174) :: (G ++ (B ++ (I ++ (t ++ (y ++ [])))))) w) (e8 : iF (fun (x : gl) => (.agg (gn x).toArray)) (gV Value.string (fun (x : Bool) => (Value.bool x))) u a9 G) (a6 : gI 108 gp 9 D a0 B) (b2 : iF (fun (x : gl) => (.agg (gn x).toArray)) (gI 108 gp 9) a Y I) (T : iF Value.string (gI 108 gp 9) c K t) (e0 : lk 38 gG 3 j a4 y) (hm : mT a9 a0 Y K a4 J H = some r) :
  ir true pg0 171 [(.pointer (some ⟨M, 0, none⟩)), (.agg (gp H).toArray)] w ((M, Ob #[u, D, a, c, j, (.int .i64 J)] 174) :: (G ++ (B ++ (I ++ (t ++ (y ++ [])))))) (fun v L1 W' => ∃ y1 S2 S4 S6, v = (.tuple #[]) ∧ L1 = ((M, Ob #[u, y1, a, c, j, (.int .i64 J)] 174) :: (G ++ (S2 ++ (S4 ++ (S6 ++ (y ++ [])))))) ∧ gI 108 gp 9 y1 r.1 S2 ∧ iF (fun (x : gl) => (.agg (gn x).toArray)) (gI 108 gp 9) a r.2.1 S4 ∧ iF Value.string (gI 108 gp 9) c r.2.2 S6) := by
 refine sN h0 55 func171 rfl (fun d => sg (VE (iP d rfl (fun W2 b1 d => ln (gH ?_)))))
 replace d := d.drew
 have m := d.has.gq (Kb Sn)
 have n := d.has.gq (Db (Kb Sn))
 refine ta 10 m n gW (jH 0 rfl kr (.inl rfl) rfl dc (fun _ _ h => ⟨h.1, lK br h.2⟩) ⟨m, fun _ => n⟩ (fun _ _ _ _ => gy rfl) (jH 1 rfl kr (.inl rfl) rfl dc (fun _ _ h => ⟨h.1, lK br h.2⟩) ⟨m, fun _ => n⟩ (fun _ _ _ _ => gy rfl) (jH 2 rfl kr (.inl rfl) rfl dc (fun _ _ h => ⟨h.1, lK br h.2⟩) ⟨m, fun _ => n⟩ (fun _ _ _ _ => jo rfl) (jH 3 rfl kr (.inl rfl) rfl dc (fun _ _ h => ⟨h.1, lK br h.2⟩) ⟨m, fun _ => n⟩ (fun _ _ _ _ => gA xV rfl) (jH 4 rfl kr (.inl rfl) rfl dc (fun _ _ h => ⟨h.1, lK br h.2⟩) ⟨m, fun _ => n⟩ (fun l W q s => have p := (s.2 (q.DH 10 [4] kr rfl)); gu rfl (gL p Mh rfl isAgg22)) (jH 5 rfl kr (.inl rfl) rfl dc (fun _ _ h => ⟨h.1, lK br h.2⟩) ⟨m, fun _ => n⟩ (fun l W q s => have p := s.1; gu rfl (gD p Mh (gp H) rfl aM ag)) (XE 6 rfl (gS (cs := (gp H).toArray) d (kk rfl) (jB ai ag aT) (fun j7 f9 d => ?_)))))))))
 have m := d.has.gq (Db (Kb Sn))
 have n := d.has.gq (Db (Db (Kb Sn)))
 refine ⟨⟨m, fun _ => n⟩, ?_⟩
 replace d := d.perm (Nr (Qb (Qb (Qb (Qr Qz)))) Nz)
 refine bS hm fun a5 e9 hm => XE 7 rfl (jn (enc := gp) (v := D) (vs := (.slice (some ⟨f9, 0, none⟩) 1 1)) (R := B) d ia dc js ai kE.1 kE.2.1 rfl kE.2.2.1 kE.2.2.2 rfl rfl a6 (Sl.lit (enc := gp) (l := [H]) ia rfl nb rfl (d.at_ (Ma Mh))) e9 (fun j8 k1 b7 d b5 => ?_))
 have m := d.has.gq (Dr (Db (Kb Sn)))
 have n := d.has.gq (Dr (Db (Db (Kb Sn))))
 refine ⟨⟨m, fun _ => n⟩, (jH 8 rfl kr (.inl rfl) rfl dc (fun _ _ h => ⟨h.1, lK br h.2⟩) ⟨m, fun _ => n⟩ (fun _ _ _ _ => jo rfl) (jH 9 rfl kr (.inl rfl) rfl dc (fun _ _ h => ⟨h.1, lK br h.2⟩) ⟨m, fun _ => n⟩ (fun _ _ _ _ => gA xV rfl) ?_))⟩
 obtain ⟨a8, b0, rfl⟩ := b5.form
 let A : Value := (.slice a8 a5.length b0)
 replace d := d.perm (Nb (Pr (Pb (Pb Pz))) Nz)
 refine XO 10 rfl (gO A (#[u, A, a, c, j, (.int .i64 J)]) d rfl rfl sizeOf22 oc nb rfl (fun j9 d => ?_))
 have m := d.has.gq (Db (Dr (Db (Kb Sn))))
 refine ⟨⟨m, fun h => Cx kr h⟩, (iI kr (gC ?_))⟩
 replace d := d.gq (Kb (Kr (Db St)))
 refine gH (sg (VA d (Mt (Ma Mh)) (gp H) aM ag (bS hm fun c0 f0 hm => VE (lB d call52 (vE H _ _  f0) (fun k0 k2 k3 j6 d g3 ad e7 => ?_)))))
 let f5 := (c0.drop (Int.toNat 1))
 obtain ⟨g2, d, g4, af, f1⟩ := ST.zZ d e7 kP
 refine bS hm fun _ b8 hm => VQ (tA (i := 1) aO ae rfl rfl f1 (pZ b8) (pW b8)) (fun g0 b6 => V (kF aO rfl b6.1) (Wm (ln (im (fun i E W => ∃ a3 U O, (E 20 = .int .i64 (i : Nat) ∧ E 19 = .int .i64 (f5.length : Nat)) ∧ ST true (keys ((M, Ob #[u, D, a, c, j, (.int .i64 J)] 174) :: (G ++ (B ++ (I ++ (t ++ (y ++ []))))))) w W g2 ((M, Ob #[u, A, a, c, j, (.int .i64 J)] 174) :: ((b1, Ol (gp H) 108) :: (U ++ (b7 ++ (G ++ (t ++ (y ++ O))))))) ∧ E 0 = (.pointer (some ⟨M, 0, none⟩)) ∧ E 3 = (.pointer (some ⟨b1, 0, none⟩)) ∧ E 18 = g0 ∧ iF (fun (x : gl) => (.agg (gn x).toArray)) (gI 108 gp 9) a a3 U ∧ jX H K a5 (f5.drop i) a3 = some r) f5.length b6.1.len ⟨Y, I, _, ⟨rfl, rfl⟩, (d.gq (Kb (Sb (Pr Pz) (Sr (Qr (Qr Qz)) St)))), rfl, rfl, rfl, b2, hm⟩ dc dc dc (fun _ _ _ h => by obtain ⟨_, _, _, ab, _⟩ := h; exact ab) ?_ ?_))))
 ·rintro f2 E W d2 ⟨a3, U, O, ⟨eI, eN⟩, d, a2, N, P, Z, g⟩
  obtain ⟨Q, h1, d7, d6, d8⟩ := hX d2
  rw [d7] at g
  refine bg (VQ (iZ (enc := gn) (i := (f2 : Int)) (x0 := Q) aO ae P eI b6.1 (aj _) d6) (fun i9 d3 => V (gu rfl (jM d.has d3 ah ae)) (VE (iw d bt (fun h8 i7 d => VO (gO (.agg (gn Q).toArray) ((gn Q).toArray) d rfl rfl ae (kX Q) nb rfl (fun h9 d => ln ?_)))))))
  replace d := d.drew
  have m := d.has.gq (Kb (Kb (Kb Sn)))
  refine iy m gW (X 0 rfl m (gy a2) (X 1 rfl m (jo rfl) (X 2 rfl m (gA AX rfl) (XH 3 rfl m (fun _ p => gu rfl (gL p (Mt Mh) rfl isAgg171)) (XH 4 rfl m (fun _ p => gu rfl (gD p Mh (gn Q) rfl ah ae)) (XH 5 rfl m (fun _ p => gu N (gD p (Mt (Mt Mh)) (gp H) rfl aM ag)) (XE 6 rfl (gS (cs := (gp H).toArray) d (kk rfl) (jB ai ag aT) (fun i0 e5 d => ?_)))))))))
  have m := d.has.gq (Db (Kb (Kb (Kb Sn))))
  refine ⟨m, ?_⟩
  obtain ⟨g7, d0⟩ := Z
  replace d := d.perm (Nr (Qb (Qb (Qb (Qb Qz)))) Nz)
  refine XE 7 rfl (BH (k := Q) (x0 := [])  gB oh underlying171 gj (gI.nil _ _ _) d d0 rfl rfl (fun i1 f4 g9 h3 e1 d c2 c1 => ?_))
  have m := d.has.gq (Dr (Dr (Db (Kb (Kb (Kb Sn))))))
  refine ⟨m, (X 8 rfl m (oD rfl rfl) (X 10 rfl m (oD rfl rfl) ?_))⟩
  replace d := d.perm (Nr (Qr Qz) Nz)
  refine bS g fun b9 c7 g => XE 9 rfl (jn (enc := gp) (v := f4) (vs := (.slice (some ⟨e5, 0, none⟩) 1 1)) (R := e1) d ia dc js ai kE.1 kE.2.1 rfl kE.2.2.1 kE.2.2.2 rfl rfl c2 (Sl.lit (enc := gp) (l := [H]) ia rfl nb rfl (d.at_ (Ma (Ma Mh)))) c7 (fun i2 j0 h4 d c3 => ?_))
  have m := d.has.gq (Dr (Dr (Db (Kb (Kb (Kb Sn))))))
  refine ⟨m, ?_⟩
  replace d := d.perm (Nr (Qr Qz) Nz)
  refine XO 11 rfl (z8 (e := 0) (z := b9)  gB oh d c1 rfl rfl rfl c3 (fun i3 g8 e2 d c4 => ?_))
  have m := d.has.gq (Dr (Db (Kb (Kb (Kb Sn)))))
  refine ⟨m, (iI kr (gU (gC ?_)))⟩
  replace d := d.gq (Kr (Db (Db St)))
  exact ⟨eI, (iQ gz a3 Q b9), e2, _, ⟨rfl, eN⟩, (d.gq (Sb (Pr Pz) (Sb (Pr Pz) St))), a2, N, P, c4.e, (by rw [d8]; exact g)⟩
 rintro E W ⟨a3, U, O, ⟨eI, eN⟩, d, a2, N, P, Z, g⟩
 rw [au] at g
 refine gC (sg (V (gA jk N) (VB d (Mt Mh) rfl rfl bj (Wi rfl (ln (CI g rfl (fun c8 g => ?_) (fun c8 g => ?_)))))))
 ·replace d := d.drew
  have m := d.has.gq (Kb (Kb Sn))
  have n := d.has.gq (Db (Db (Dr (Dr (Dr (Kr Sn))))))
  refine ta 15 m n gW (jH 0 rfl kr (.inl rfl) rfl dc (fun _ _ h => ⟨h.1, lK br h.2⟩) ⟨m, fun _ => n⟩ (fun _ _ _ _ => gy a2) (jH 1 rfl kr (.inl rfl) rfl dc (fun _ _ h => ⟨h.1, lK br h.2⟩) ⟨m, fun _ => n⟩ (fun _ _ _ _ => jo rfl) (jH 2 rfl kr (.inl rfl) rfl dc (fun _ _ h => ⟨h.1, lK br h.2⟩) ⟨m, fun _ => n⟩ (fun _ _ _ _ => gA xN rfl) (jH 3 rfl kr (.inl rfl) rfl dc (fun _ _ h => ⟨h.1, lK br h.2⟩) ⟨m, fun _ => n⟩ (fun l W q s => have p := s.1; gu rfl (gL p Mh rfl isAgg172)) (jH 4 rfl kr (.inl rfl) rfl dc (fun _ _ h => ⟨h.1, lK br h.2⟩) ⟨m, fun _ => n⟩ (fun _ _ _ _ => gA ml N) (jH 5 rfl kr (.inl rfl) rfl dc (fun _ _ h => ⟨h.1, lK br h.2⟩) ⟨m, fun _ => n⟩ (fun l W q s => have p := s.1; gu rfl (gL p (Mt Mh) rfl aG)) (jH 6 rfl kr (.inl rfl) rfl dc (fun _ _ h => ⟨h.1, lK br h.2⟩) ⟨m, fun _ => n⟩ (fun _ _ _ _ => gy a2) (jH 7 rfl kr (.inl rfl) rfl dc (fun _ _ h => ⟨h.1, lK br h.2⟩) ⟨m, fun _ => n⟩ (fun _ _ _ _ => jo rfl) (jH 8 rfl kr (.inl rfl) rfl dc (fun _ _ h => ⟨h.1, lK br h.2⟩) ⟨m, fun _ => n⟩ (fun _ _ _ _ => gA xN rfl) (jH 9 rfl kr (.inl rfl) rfl dc (fun _ _ h => ⟨h.1, lK br h.2⟩) ⟨m, fun _ => n⟩ (fun l W q s => have p := s.1; gu rfl (gL p Mh rfl isAgg172)) (jH 10 rfl kr (.inl rfl) rfl dc (fun _ _ h => ⟨h.1, lK br h.2⟩) ⟨m, fun _ => n⟩ (fun _ _ _ _ => gA ml N) (jH 11 rfl kr (.inl rfl) rfl dc (fun _ _ h => ⟨h.1, lK br h.2⟩) ⟨m, fun _ => n⟩ (fun l W q s => have p := s.1; gu rfl (gL p (Mt Mh) rfl aG)) ?_))))))))))))
  obtain ⟨d9, L⟩ := T
  obtain ⟨h5, g5, g6⟩ := iY.rowAt iE.1 L H.gZ
  refine jH 12 rfl kr (.inl rfl) rfl dc (fun _ _ h => ⟨h.1, lK br h.2⟩) ⟨m, fun _ => n⟩ (fun l W q s => have p := (s.2 (q.DH 15 [12] kr rfl)); lg (k := H.gZ) (z := (.slice none 0 0)) yn underlying172 gj rfl rfl L (fun b o hq => p.2 b o (Ml hq))) (jH 13 rfl kr (.inl rfl) rfl dc (fun _ _ h => ⟨h.1, lK br h.2⟩) ⟨m, fun _ => n⟩ (fun l W q s => have p := s.1; gu N (gD p (Mt Mh) (gp H) rfl aM ag)) (XE 14 rfl (gS (cs := (gp H).toArray) d (kk rfl) (jB ai ag aT) (fun i4 e6 d => ?_))))
  have m := d.has.gq (Db (Kb (Kb Sn)))
  have n := d.has.gq (Db (Db (Db (Dr (Dr (Dr (Kr Sn)))))))
  refine ⟨⟨m, fun _ => n⟩, ?_⟩
  replace d := d.perm (Nr (Qb (Qb (Qb (Qr (Qr (Qr Qz)))))) Nz)
  obtain ⟨h6, e3, d4, d5, d1⟩ := iY.open iE.1 (gI.nil _ _ _) L H.gZ
  replace d := d.perm (F7 d4)
  replace d := d.perm (Nr (Qr Qz) Nz)
  refine bS g fun f3 c9 g => XE 15 rfl (jn (enc := gp) (v := (lW gX d9 H.gZ (.slice none 0 0))) (vs := (.slice (some ⟨e6, 0, none⟩) 1 1)) (R := e3) d ia dc js ai kE.1 kE.2.1 rfl kE.2.2.1 kE.2.2.2 rfl rfl d5 (Sl.lit (enc := gp) (l := [H]) ia rfl nb rfl (d.at_ (Ma (Ma Mh)))) c9 (fun i5 j3 h7 d c5 => ?_))
  have m := d.has.gq (Dr (Dr (Db (Kb (Kb Sn)))))
  refine ⟨⟨m, fun h => Cx kr h⟩, ?_⟩
  replace d := d.perm (Nr (Qr Qz) Nz)
  refine XO 16 rfl (EP (k := H.gZ) (z := f3)  yn underlying172 d d1 rfl rfl rfl c5 (fun i6 e4 d c6 => ?_))
  have m := d.has.gq (Dr (Db (Kb (Kb Sn))))
  refine ⟨⟨m, fun h => Cx kr h⟩, (iI kr (oV ?_))⟩
  obtain rfl := sj g
  exact nt rfl ⟨_, _, rfl, (d.oa (Sb (Pr (Pb Pz)) (Sr (Qr (Qb (Qb (Qr (Qr Qz))))) (Sr (Qr (Qb (Qb (Qr Qz)))) (Sr (Qr (Qb (Qb Qz))) (Kr (Db (Db (Kr Sn))))))))), A, b7, U, e4, rfl, rfl, b5, Z, c6.e⟩
 refine ic (oV ?_)
 obtain rfl := sj g
 exact nt rfl ⟨_, _, rfl, (d.oa (Kb (Db (Sr (Qr (Qr Qz)) (Sr (Qr Qz) (Kr (Kr (Kr Sn)))))))), A, b7, U, t, rfl, rfl, b5, Z, T⟩
theorem lM (J : Nat) (g : Value) (a0 : List (gl × (List (ByteArray × Bool)))) (D : LO) (a : Value) (M : List gm) (u : LO) (j : Value) (Z : List (gl × (List gm))) (B : LO) (c : Value) (N : List (ByteArray × (List gm))) (y : LO) (i : Value) (Y : List gr) (t : LO) (H : Int) (G : gl) (U : ByteArray) (r : ((List (gl × (List (ByteArray × Bool)))) × (List gr) × Int)) (w : World) {μ0 : gT} (h0 : pN μ0 ((J, Ob #[g, a, j, c, i, (.int .i64 H)] 174) :: (D ++ (u ++ (B ++ (y ++ (t ++ [])))))) w) (a5 : iF (fun (x : gl) => (.agg (gn x).toArray)) (gV Value.string (fun (x : Bool) => (Value.bool x))) g a0 D) (b5 : gI 108 gp 9 a M u) (c2 : iF (fun (x : gl) => (.agg (gn x).toArray)) (gI 108 gp 9) j Z B) (b6 : iF Value.string (gI 108 gp 9) c N y) (K : lk 38 gG 3 i Y t) (hm : jJ a0 M Z N Y H G U = some r) :
  ir true pg0 209 [(.pointer (some ⟨J, 0, none⟩)), (.agg (gn G).toArray), (.string U)] w ((J, Ob #[g, a, j, c, i, (.int .i64 H)] 174) :: (D ++ (u ++ (B ++ (y ++ (t ++ [])))))) (fun v L1 W' => ∃ S1 y3 S4, v = (.tuple #[]) ∧ L1 = ((J, Ob #[g, a, j, c, y3, (.int .i64 (r.2.2))] 174) :: (S1 ++ (u ++ (B ++ (y ++ (S4 ++ [])))))) ∧ iF (fun (x : gl) => (.agg (gn x).toArray)) (gV Value.string (fun (x : Bool) => (Value.bool x))) g r.1 S1 ∧ lk 38 gG 3 y3 r.2.1 S4) := by
 let a1 := (#[g, a, j, c, i, (.int .i64 H)] : Array Value)
 refine sN h0 53 func209 rfl (fun m => sg (VE (iP m rfl (fun W2 b1 m => ln (gH (gH ?_))))))
 replace m := m.drew
 have d := m.has.gq (Kb (Kb (Kr Sn)))
 refine iy d gW (X 0 rfl d (gy rfl) (X 1 rfl d (jo rfl) (X 2 rfl d (gA qo rfl) (XH 3 rfl d (fun _ p => gu rfl (gL p (Mt Mh) rfl fi)) (XH 4 rfl d (fun _ p => gu rfl (gD p Mh (gn G) rfl ah ae)) ?_)))))
 obtain ⟨f3, Q⟩ := a5
 refine XH 5 rfl d (fun _ p => lg (k := G) (z := (.map none)) oh di dM rfl rfl Q (fun b o A => p.2 b o (Mt (Mt (Ml A))))) (X 6 rfl d (gy rfl) (XH 7 rfl d (fun _ p => oB (k := U) (z := false) (vf := (fun (x : Bool) => (Value.bool x))) yn dW zeroValue4 rfl rfl (iY.vG (μ := hp _) gB.1 Q G (fun b o A => p.2 b o (Mt (Mt (Ml A)))))) (iI kr (gC (CI hm rfl (fun d4 hm => ?_) (fun d4 hm => ?_))))))
 ·refine iq (iv ?_)
  obtain rfl := sj hm
  exact nt rfl ⟨_, _, rfl, (m.oa (Db (Kb (Kr (Kr (Kr (Kr (Kr Sn)))))))), D, i, t, rfl, rfl, Q.e, K⟩
 refine kn (gH (CJ hm (fun b2 E W => ∃ O b9, ST true (keys ((J, Obj.cells a1 174 (0, 0)) :: (D ++ (u ++ (B ++ (y ++ (t ++ []))))))) w W μ0 ((b1, Ol (gn G) 28) :: ((J, Obj.cells a1 174 (0, 0)) :: (O ++ (u ++ (B ++ (y ++ (t ++ b9))))))) ∧ E 0 = (.pointer (some ⟨J, 0, none⟩)) ∧ E 2 = (.string U) ∧ E 4 = (.pointer (some ⟨b1, 0, none⟩)) ∧ iF (fun (x : gl) => (.agg (gn x).toArray)) (gV Value.string (fun (x : Bool) => (Value.bool x))) g b2 O) (fun b2 I => ?_) ?_))
 ·refine gH ?_
  replace m := m.drew
  have d := m.has.gq (Kb (Kb (Kr Sn)))
  refine iy d gW (X 0 rfl d (gy rfl) (X 1 rfl d (jo rfl) (X 2 rfl d (gA qo rfl) (XH 3 rfl d (fun _ p => gu rfl (gL p (Mt Mh) rfl fi)) (XH 4 rfl d (fun _ p => gu rfl (gD p Mh (gn G) rfl ah ae)) (XH 5 rfl d (fun _ p => lg (k := G) (z := (.map none)) oh di dM rfl rfl Q (fun b o A => p.2 b o (Mt (Mt (Ml A))))) (X 6 rfl d (Ay gB.1 dW Q rfl rfl) (iI kr (gC (CI I rfl (fun b7 I => ?_) (fun b7 I => ?_)))))))))))
  ·replace m := m.drew
   have d := m.has.gq (Kb (Kb Sn))
   refine iy d gW (X 0 rfl d (gy rfl) (X 1 rfl d (jo rfl) (X 2 rfl d (gA qo rfl) (XH 3 rfl d (fun _ p => gu rfl (gL p (Mt Mh) rfl fi)) (XH 4 rfl d (fun _ p => gu rfl (gD p Mh (gn G) rfl ah ae)) (XE 5 rfl (ry (P := pg0) Value.string (fun (x : Bool) => (Value.bool x)) m (fun e0 e6 d8 m b3 => ?_))))))))
   have d := m.has.gq (Dr (Kb (Kb Sn)))
   refine ⟨d, ?_⟩
   replace m := m.perm (Nr (Qr (Qb (Qb Qz))) Nz)
   refine bS I fun e3 b8 I => XO 6 rfl (CG (k := G) (z := ([]))  oh di m Q rfl rfl rfl b3 b8 (fun e1 c3 m b4 => ?_))
   have d := m.has.gq (Dr (Kb (Kb Sn)))
   refine ⟨d, (iI kr (gC ?_))⟩
   obtain rfl := sj I
   exact ⟨c3, _, (m.gq (Sb (Pr Pz) (Sb (Pr Pz) St))), rfl, rfl, rfl, b4.e⟩
  refine kn ?_
  obtain rfl := sj I
  exact ⟨D, _, (m.gq St), rfl, rfl, rfl, Q.e⟩
 rintro f1 E W ⟨O, b9, m, L, c0, c1, c7⟩ T
 refine gH ?_
 replace m := m.drew
 have d := m.has.gq (Kb (Kb Sn))
 have n := m.has.gq (Db (Db (Kr Sn)))
 refine ta 7 d n gW (jH 0 rfl kr (.inl rfl) rfl dc (fun _ _ h => ⟨h.1, lK br h.2⟩) ⟨d, fun _ => n⟩ (fun _ _ _ _ => gy L) (jH 1 rfl kr (.inl rfl) rfl dc (fun _ _ h => ⟨h.1, lK br h.2⟩) ⟨d, fun _ => n⟩ (fun _ _ _ _ => jo rfl) (jH 2 rfl kr (.inl rfl) rfl dc (fun _ _ h => ⟨h.1, lK br h.2⟩) ⟨d, fun _ => n⟩ (fun _ _ _ _ => gA qo rfl) (jH 3 rfl kr (.inl rfl) rfl dc (fun _ _ h => ⟨h.1, lK br h.2⟩) ⟨d, fun _ => n⟩ (fun l W q s => have p := s.1; gu rfl (gL p (Mt Mh) rfl fi)) (jH 4 rfl kr (.inl rfl) rfl dc (fun _ _ h => ⟨h.1, lK br h.2⟩) ⟨d, fun _ => n⟩ (fun l W q s => have p := s.1; gu c1 (gD p Mh (gn G) rfl ah ae)) ?_)))))
 obtain ⟨e4, a9⟩ := c7
 refine jH 5 rfl kr (.inl rfl) rfl dc (fun _ _ h => ⟨h.1, lK br h.2⟩) ⟨d, fun _ => n⟩ (fun l W q s => have p := (s.2 (q.DH 7 [5] kr rfl)); lg (k := G) (z := (.map none)) oh di dM rfl rfl a9 (fun b o A => p.2 b o (Ml A))) (jH 6 rfl kr (.inl rfl) rfl dc (fun _ _ h => ⟨h.1, lK br h.2⟩) ⟨d, fun _ => n⟩ (fun _ _ _ _ => gy c0) ?_)
 replace m := m.perm (Nr (Qb (Qb Qz)) Nz)
 refine bS T fun f2 c6 T => XO 7 rfl (BR (k := G) (v := true) (vf := (fun (x : Bool) => (Value.bool x)))  gB.1 yn dW m a9 rfl rfl rfl c6 (fun e7 c8 m c4 => ?_))
 have d := m.has.gq (Dr (Kb (Kb Sn)))
 refine ⟨⟨d, fun h => Cx kr h⟩, (iI kr (gC (sg (Wh L (Wn (Wf vL (VB m (Ma (Mt Mh)) rfl rfl bj (Wi rfl (Wn (Wf vL ?_))))))))))⟩
 replace m := m.perm (Nb (Pr (Pb Pz)) Nz)
 refine VO (gO (.int .i64 (wi0 .i64 (H + 1))) (#[g, a, j, c, i, (.int .i64 (wi0 .i64 (H + 1)))]) m rfl rfl dL (sG _ (wi0 .i64 (H + 1))) nb rfl (fun e8 m => ln ?_))
 replace m := m.drew
 have d := m.has.gq (Db (Dr (Kb Sn)))
 have n := m.has.gq (Kb Sn)
 refine ta 12 d n gW (jH 0 rfl kr (.inl rfl) rfl dc (fun _ _ h => ⟨h.1, lK br h.2⟩) ⟨d, fun _ => n⟩ (fun _ _ _ _ => gy L) (jH 1 rfl kr (.inl rfl) rfl dc (fun _ _ h => ⟨h.1, lK br h.2⟩) ⟨d, fun _ => n⟩ (fun _ _ _ _ => gy L) (jH 2 rfl kr (.inl rfl) rfl dc (fun _ _ h => ⟨h.1, lK br h.2⟩) ⟨d, fun _ => n⟩ (fun _ _ _ _ => jo rfl) (jH 3 rfl kr (.inl rfl) rfl dc (fun _ _ h => ⟨h.1, lK br h.2⟩) ⟨d, fun _ => n⟩ (fun _ _ _ _ => gA se rfl) (jH 4 rfl kr (.inl rfl) rfl dc (fun _ _ h => ⟨h.1, lK br h.2⟩) ⟨d, fun _ => n⟩ (fun l W q s => have p := (s.2 (q.DH 12 [4] kr rfl)); gu rfl (gL p Mh rfl isAgg120)) (jH 5 rfl kr (.inl rfl) rfl dc (fun _ _ h => ⟨h.1, lK br h.2⟩) ⟨d, fun _ => n⟩ (fun l W q s => have p := s.1; gu c1 (gD p Mh (gn G) rfl ah ae)) (jH 6 rfl kr (.inl rfl) rfl dc (fun _ _ h => ⟨h.1, lK br h.2⟩) ⟨d, fun _ => n⟩ (fun _ _ _ _ => gy c0) (jH 7 rfl kr (.inl rfl) rfl dc (fun _ _ h => ⟨h.1, lK br h.2⟩) ⟨d, fun _ => n⟩ (fun _ _ _ _ => ko (v := (.agg (gG (⟨G, U⟩ : gr)).toArray)) (mB rfl rfl) (jq cu bq (xJ _ bq) kr)) (XE 8 rfl (gS (cs := (gG (⟨G, U⟩ : gr)).toArray) m (kk rfl) (jB aV bz cu) (fun e9 d3 m => ?_)))))))))))
 have d := m.has.gq (Db (Db (Dr (Kb Sn))))
 have n := m.has.gq (Db (Kb Sn))
 refine ⟨⟨d, fun _ => n⟩, ?_⟩
 replace m := m.perm (Nr (Qb (Qb (Qr (Qb (Qr (Qr (Qr Qz))))))) Nz)
 refine bS T fun b0 c5 T => XE 9 rfl (Ap (enc := gG) (v := i) (vs := (.slice (some ⟨d3, 0, none⟩) 1 1)) (R := t) m kD dc pB aV mS.1 mS.2.1 rfl mS.2.2.1 mS.2.2.2 rfl rfl K (Sl.lit (enc := gG) (l := [(⟨G, U⟩ : gr)]) kD rfl nb rfl (m.at_ (Ma Mh))) c5 (fun f0 e5 c9 m a7 => ?_))
 have d := m.has.gq (Dr (Db (Db (Dr (Kb Sn)))))
 have n := m.has.gq (Dr (Db (Kb Sn)))
 refine ⟨⟨d, fun _ => n⟩, (jH 10 rfl kr (.inl rfl) rfl dc (fun _ _ h => ⟨h.1, lK br h.2⟩) ⟨d, fun _ => n⟩ (fun _ _ _ _ => jo rfl) (jH 11 rfl kr (.inl rfl) rfl dc (fun _ _ h => ⟨h.1, lK br h.2⟩) ⟨d, fun _ => n⟩ (fun _ _ _ _ => gA se rfl) ?_))⟩
 obtain ⟨a3, a4, rfl⟩ := a7.form
 let a2 : Value := (.slice a3 b0.length a4)
 replace m := m.perm (Nb (Pr (Pb Pz)) Nz)
 refine XO 12 rfl (gO a2 (#[g, a, j, c, a2, (.int .i64 (wi0 .i64 (H + 1)))]) m rfl rfl sizeOf120 oc nb rfl (fun d9 m => ?_))
 have d := m.has.gq (Db (Dr (Db (Dr (Kb Sn)))))
 refine ⟨⟨d, fun h => Cx kr h⟩, (iI kr (oV ?_))⟩
 obtain rfl := sj T
 exact nt rfl ⟨_, _, rfl, (m.oa (Kb (Sr (Qr (Qb Qz)) (Sr (Qr (Qb (Qb Qz))) (Sr (Qr (Qb (Qb Qz))) (Sr (Qr (Qb (Qb Qz))) (Kr Sn))))))), c8, a2, c9, rfl, rfl, c4.e, a7⟩
theorem oU (a : Value) (g : List (ByteArray × Bool)) (r : Unit) (w : World) (c : lz Value.string (fun (x : Bool) => (Value.bool x)) (hp w) a g) (hm : kj g = some r) :
  ir true pg0 120 [a] w [] (fun v k W' => ∃ i, v = (.func (.func 183) #[] #[(.pointer (some ⟨i, 0, none⟩))]) ∧ k = ((i, Ob #[a] 175) :: [])) := by
 refine oE 4 func120 rfl (fun b => sg ?_)
 obtain ⟨t, rfl⟩ := c.form
 refine VE (iP b rfl (fun u j b => Wa (lr (V (rf (by exact ur rfl) rfl) (Wa (lt ?_))))))
 obtain rfl := sj hm
 exact ij (v := (.func (.func 183) #[] #[(.pointer (some ⟨j, 0, none⟩))])) rfl rfl ⟨_, _, rfl, (b.yG (Kb Sn)), j, rfl, rfl⟩
theorem yd {β : Type} {vf : β → Value} {l : List (ByteArray × β)} {b : Nat} {a : Value} {W : World} {r : List ByteArray} (c : W.heap[b]? = some (.cells #[a] 175 (0, 0))) (hm : lz Value.string vf (hp W) a l) (hk : xj l = some r) : iz false pg0 119 [.func (.func 183) #[] #[.pointer (some ⟨b, 0, none⟩)]] W 9 iL 1 r := Al (P := pg0) D9 El CD rfl aR call183 call182 c hm hk
theorem ot (T : Nat) (a : Value) (u : List (gl × (List (ByteArray × Bool)))) (c : Value) (t : List gm) (j : Value) (G : List (gl × (List gm))) (g : Value) (B : List (ByteArray × (List gm))) (i : Value) (D : List gr) (Q : Int) (H : gl) (r : List ByteArray) (w : World) (J : py (fun (x : gl) => (.agg (gn x).toArray)) (gV Value.string (fun (x : Bool) => (Value.bool x))) (hp w) a u) (Z : Sl (Pl gp) 9 (hp w) c t) (a4 : py (fun (x : gl) => (.agg (gn x).toArray)) (gI 108 gp 9) (hp w) j G) (a0 : py Value.string (gI 108 gp 9) (hp w) g B) (a3 : Sl (Pl gG) 3 (hp w) i D) (Y : At (hp w) (.pointer (some ⟨T, 0, none⟩)) [a, c, j, g, i, (.int .i64 Q)]) (hm : iS u t G B D Q H = some r) :
  iz false pg0 53 [(.pointer (some ⟨T, 0, none⟩)), (.agg (gn H).toArray)] w 9 iL 1 r := by
 refine oE 15 func53 rfl (fun d => sg (VE (iP d rfl (fun W2 R d => Wa (lS (Wm (V (qE underlying101 rfl rfl) (ln (mw rfl ?_)))))))))
 refine kn (gH ?_)
 replace d := d.drew
 have h := d.has.gq (Kb Sn)
 refine iy h gW (X 0 rfl h (gy rfl) (X 1 rfl h (jo rfl) (XQ 2 rfl h (rB [a] qo rfl Y rfl) (fun b8 A => XH 3 rfl h (fun _ l => gu rfl (kT l (y := a) A fi)) (XH 4 rfl h (fun _ l => gu rfl (gD l Mh (gn H) rfl ah ae)) ?_)))))
 obtain ⟨a9, b4, K, M⟩ := J
 refine XH 5 rfl h (fun _ l => lg (k := H) (z := (.map none)) oh di dM rfl rfl K (fun b o m => l.1 b o (M b o m))) (bS hm fun b9 E hm => ?_)
 refine XE 6 rfl (wo d (dr _) call120 (fun _ _ _ _ => ir.kC (oU (lW gz a9 H (.map none)) ((gQ gz u H).getD []) _ _ ((iY.vG gB.1 K H M).mono d.iG) E)) (fun b5 c1 c2 W d I q n a5 => ?_) (L0 := []))
 obtain ⟨b7, N, rfl⟩ := a5
 replace N := N.symm; subst N
 replace d := d.perm (Tb Tn)
 have h := d.has.qP I (Db (Kb Sn))
 refine ⟨h, (bS hm fun c0 L hm => XE 7 rfl (lB d call119 (yd (vf := (fun (x : Bool) => (Value.bool x))) (d.has.2 _ _ Mh) ((iY.vG gB.1 K H M).mono (fun b o m => d.has.1 b o (I b o m))) L) (fun b6 P c3 O d a2 s U => ?_)))⟩
 have h := d.has.qP (I.trans a2) (Dr (Db (Kb Sn)))
 refine ⟨h, (X 8 rfl h (kc rfl) (iI kr (gC ?_)))⟩
 replace d := d.gq (Kr (Db (Db St)))
 refine iq ?_
 obtain rfl := sj hm
 exact ij (v := P) rfl rfl ⟨_, O, rfl, d.jd (fun p m => (Ml m)) U.nd, U⟩
theorem uM (K : Nat) (g : Value) (N : List (gl × (List (ByteArray × Bool)))) (G : LO) (a : Value) (H : List gm) (k : LO) (j : Value) (J : List (gl × (List gm))) (u : LO) (c : Value) (I : List (ByteArray × (List gm))) (t : LO) (z : Value) (M : List gr) (B : LO) (Z : Int) (A a2 : gl) (r : ((List (gl × (List (ByteArray × Bool)))) × (List gr) × Int)) (w : World) {μ0 : gT} (h0 : pN μ0 ((K, Ob #[g, a, j, c, z, (.int .i64 Z)] 174) :: (G ++ (k ++ (u ++ (t ++ (B ++ [])))))) w) (a5 : iF (fun (x : gl) => (.agg (gn x).toArray)) (gV Value.string (fun (x : Bool) => (Value.bool x))) g N G) (Q : gI 108 gp 9 a H k) (a4 : iF (fun (x : gl) => (.agg (gn x).toArray)) (gI 108 gp 9) j J u) (T : iF Value.string (gI 108 gp 9) c I t) (a3 : lk 38 gG 3 z M B) (hm : ny N H J I M Z A a2 = some r) :
  ir false pg0 252 [(.pointer (some ⟨K, 0, none⟩)), (.agg (gn A).toArray), (.agg (gn a2).toArray)] w ((K, Ob #[g, a, j, c, z, (.int .i64 Z)] 174) :: (G ++ (k ++ (u ++ (t ++ (B ++ [])))))) (fun v L1 W' => ∃ S1 y3 S4, v = (.tuple #[]) ∧ L1 = ((K, Ob #[g, a, j, c, y3, (.int .i64 (r.2.2))] 174) :: (S1 ++ (k ++ (u ++ (t ++ (S4 ++ [])))))) ∧ iF (fun (x : gl) => (.agg (gn x).toArray)) (gV Value.string (fun (x : Bool) => (Value.bool x))) g r.1 S1 ∧ lk 38 gG 3 y3 r.2.1 S4) := by
 refine sN h0 21 func252 rfl (fun d => sg (VE (iP d rfl (fun W2 b1 d => VE (iP d rfl (fun W4 b3 d => lr (Wm (VA d (Mt Mh) (gn A) ah ae (bS hm fun r5 e5 hm => VE (lB d call53 (ot K g N a H j J c I z M Z A _ _ (a5.at (fun b o l => d.at_ (Mt (Mt (Mt (Ml l)))))) (Q.sl ia (fun b o l => d.at_ (Mt (Mt (Mt (Ma (Ml l))))))) (a4.at (fun b o l => d.at_ (Mt (Mt (Mt (Ma (Ma (Ml l)))))))) (T.at (fun b o l => d.at_ (Mt (Mt (Mt (Ma (Ma (Ma (Ml l))))))))) ((a3.vA kD).mono (Pl.mono _) (pt (fun b o l => d.at_ (Mt (Mt (Mt (Ma (Ma (Ma (Ma (Ml l))))))))))) (At.of (d.at_ (Mt (Mt Mh))) _ rfl) e5) (fun W7 e6 s e1 d f4 ao a9 => V (iu az rfl a9) (Wm ?_))))))))))))
 refine ln ?_
 replace d := d.gq (Kr (Kb (Db St)))
 refine nH (im (fun i E W => ∃ m U a0 n Y q L R, (E 12 = .int .i64 (i : Nat) ∧ E 11 = .int .i64 (r5.length : Nat)) ∧ ig s L ∧ ST false (keys ((K, Ob #[g, a, j, c, z, (.int .i64 Z)] 174) :: (G ++ (k ++ (u ++ (t ++ (B ++ []))))))) w W L ((K, Ob #[g, a, j, c, a0, (.int .i64 q)] 174) :: ((b3, Ol (gn a2) 28) :: (U ++ (k ++ (u ++ (t ++ (Y ++ (e1 ++ R)))))))) ∧ E 0 = (.pointer (some ⟨K, 0, none⟩)) ∧ E 5 = (.pointer (some ⟨b3, 0, none⟩)) ∧ E 10 = e6 ∧ iF (fun (x : gl) => (.agg (gn x).toArray)) (gV Value.string (fun (x : Bool) => (Value.bool x))) g m U ∧ lk 38 gG 3 a0 n Y ∧ lh H J I a2 (r5.drop i) m n q = some r) r5.length a9.len ⟨N, G, z, M, B, Z, s, _, ⟨rfl, rfl⟩, (ig.refl _), (d.gq (Sb (Pr (Pb Pz)) (Sb (Pr Pz) (Sr (Qr Qz) (Sr (Qr Qz) (Sr (Qr Qz) (Sr (Qr Qz) (Sr (Qr Qz) St)))))))), rfl, rfl, rfl, a5, a3, hm⟩ dc dc dc (fun _ _ _ h => by obtain ⟨_, _, _, _, _, _, _, _, ab, _⟩ := h; exact ab) ?_ ?_)
 ·rintro d7 E W c8 ⟨m, U, a0, n, Y, q, L, R, ⟨eI, eN⟩, b6, d, b9, c0, c1, O, P, D⟩
  obtain ⟨c3, e9, d1, c4, d2⟩ := hX c8
  rw [d1] at D
  refine bg (VQ (ie (i := (d7 : Int)) (x0 := c3) az bU c1 eI a9 (aj _) c4) (fun f5 c9 => V (gu rfl (oF d.has (fun p l => (Mt (Mt (Ma (Ma (Ma (Ma (Ma (Ml l))))))))) a9 (fun _ => rfl) c9 c4 (y := (.string c3)) rfl aG)) (Wa (ln (gE (Wh b9 (V (gu c0 (gD d.has (Mt Mh) (gn a2) rfl ah ae)) (Wm (bS D fun c2 d0 D => ?_)))))))))
  refine VE (eM d (Cb Pz (Cr (Qb Qz) (Cr (Qb Qz) (Cr (Qb Qz) (Cr (Qb Qz) (Cr (Qb Qz) Cn)))))) call209 (fun hh _ => ir.kC (lM K g m U a H k j J u c I t a0 n Y q a2 c3 _ _ hh O Q a4 T P d0)) ?_)
  rintro _ f6 e0 f1 d c6 ad af ⟨d5, d9, d6, b4, rfl, d3, d4⟩
  obtain rfl := b4.symm
  replace d := d.perm (Tb (Tr (Tr (Tr (Tr (Tr Tn))))))
  exact gM (gU (gC ⟨eI, c2.1, d5, d9, c2.2.1, d6, c2.2.2, e0, _, ⟨rfl, eN⟩, (b6.trans c6), (d.gq (Kb (Sb (Pr (Pr (Pr (Pr (Pr Pz))))) St))), b9, c0, c1, d3, d4, (by rw [d2]; exact D)⟩))
 rintro E W ⟨m, U, a0, n, Y, q, L, R, ⟨eI, eN⟩, b6, d, b9, c0, c1, O, P, D⟩
 rw [au] at D
 refine gC ?_
 replace d := d.gq (Kb (Db (Kr (Kr (Kr (Kr (Kr (Dr St))))))))
 refine oV ?_
 obtain rfl := sj D
 exact nt rfl ⟨_, _, rfl, (d.oa (Kb (Kr (Kr (Kr (Kr (Kr Sn))))))), U, a0, Y, rfl, rfl, O, P⟩
theorem qM (K : Nat) (G : Value) (Z : List (gl × (List (ByteArray × Bool)))) (D : LO) (g : Value) (I : List gm) (a : LO) (B : Value) (N : List (gl × (List gm))) (y : LO) (i : Value) (J : List (ByteArray × (List gm))) (c : LO) (t : Value) (M : List gr) (j : LO) (a0 : Int) (Q : gm) (a2 : gr) (r : ((List (gl × (List (ByteArray × Bool)))) × (List gr) × Int)) (w : World) {μ0 : gT} (h0 : pN μ0 ((K, Ob #[G, g, B, i, t, (.int .i64 a0)] 174) :: (D ++ (a ++ (y ++ (c ++ (j ++ [])))))) w) (U : iF (fun (x : gl) => (.agg (gn x).toArray)) (gV Value.string (fun (x : Bool) => (Value.bool x))) G Z D) (T : gI 108 gp 9 g I a) (a3 : iF (fun (x : gl) => (.agg (gn x).toArray)) (gI 108 gp 9) B N y) (Y : iF Value.string (gI 108 gp 9) i J c) (H : lk 38 gG 3 t M j) (hm : me Z I N J M a0 Q a2 = some r) :
  ir false pg0 210 [(.pointer (some ⟨K, 0, none⟩)), (.agg (gp Q).toArray), (.agg (gG a2).toArray)] w ((K, Ob #[G, g, B, i, t, (.int .i64 a0)] 174) :: (D ++ (a ++ (y ++ (c ++ (j ++ [])))))) (fun v L1 W' => ∃ S1 y3 S4, v = (.tuple #[]) ∧ L1 = ((K, Ob #[G, g, B, i, y3, (.int .i64 (r.2.2))] 174) :: (S1 ++ (a ++ (y ++ (c ++ (S4 ++ [])))))) ∧ iF (fun (x : gl) => (.agg (gn x).toArray)) (gV Value.string (fun (x : Bool) => (Value.bool x))) G r.1 S1 ∧ lk 38 gG 3 y3 r.2.1 S4) := by
 let s := (#[G, g, B, i, t, (.int .i64 a0)] : Array Value)
 refine sN h0 57 func210 rfl (fun d => sg (VE (iP d rfl (fun W2 A d => VE (iP d rfl (fun W4 O d => lr (Wf jk (VB d (Mt Mh) rfl rfl bj (ln (ji (gH ?_)))))))))))
 refine gE (Wi rfl (Wa (ln (CI hm rfl (fun e4 hm => ?_) (fun e4 hm => ?_)))))
 ·refine gE (Wm (Wf jz (VA d (Mt Mh) (gn Q.Head) ah ae (Wf pP (VB d Mh rfl rfl aG (bS hm fun r6 e5 hm => ?_))))))
  refine VE (eM d (Cb (Pb (Pb Pz)) (Cr (Qb (Qb Qz)) (Cr (Qb (Qb Qz)) (Cr (Qb (Qb Qz)) (Cr (Qb (Qb Qz)) (Cr (Qb (Qb Qz)) Cn)))))) call209 (fun q _ => ir.kC (lM K G Z D g I a B N y i J c t M j a0 Q.Head a2.gP _ _ q U T a3 Y H e5)) ?_)
  rintro _ g4 af f7 d f1 a6 m ⟨d1, e6, d2, a8, rfl, c4, c5⟩
  obtain rfl := a8.symm
  replace d := d.perm (Tb (Tr (Tr (Tr (Tr (Tr Tn))))))
  refine gM (gU (oV ?_))
  obtain rfl := sj hm
  exact nt rfl ⟨_, _, rfl, (d.oa (Kb (Kr (Kr (Kr (Kr (Kr Sn))))))), d1, e6, d2, rfl, rfl, c4, c5⟩
 refine sg (Wi rfl (Wa (ln (CI hm rfl (fun b9 hm => ?_) (fun b9 hm => ?_)))))
 ·refine gE (Wm (Wf pP (VB d Mh rfl rfl aG (Wf ml (VB d (Mt Mh) rfl rfl aG (V (ko (v := (.agg (gn (⟨a2.gP, Q.gZ⟩ : gl)).toArray)) (mB rfl rfl) (jq bt bD (zY _ bD) kr)) (Wf jz (VA d (Mt Mh) (gn Q.Head) ah ae (bS hm fun g2 c2 hm => ?_)))))))))
  refine VE (eM d (Cb (Pb (Pb Pz)) (Cr (Qb (Qb Qz)) (Cr (Qb (Qb Qz)) (Cr (Qb (Qb Qz)) (Cr (Qb (Qb Qz)) (Cr (Qb (Qb Qz)) Cn)))))) call252 (fun q _ => (uM K G Z D g I a B N y i J c t M j a0 (⟨a2.gP, Q.gZ⟩ : gl) Q.Head _ _ q U T a3 Y H c2)) ?_)
  rintro _ g5 g8 f8 d f2 ab m ⟨d3, e8, d4, a9, rfl, c6, c7⟩
  obtain rfl := a9.symm
  replace d := d.perm (Tb (Tr (Tr (Tr (Tr (Tr Tn))))))
  refine gM (gU (oV ?_))
  obtain rfl := sj hm
  exact nt rfl ⟨_, _, rfl, (d.oa (Kb (Kr (Kr (Kr (Kr (Kr Sn))))))), d3, e8, d4, rfl, rfl, c6, c7⟩
 refine sg (Wi rfl (Wa (ln (CI hm rfl (fun c0 hm => ?_) (fun c0 hm => ?_)))))
 ·refine gH ?_
  replace d := d.drew
  have h := d.has.gq (Kb (Kb (Kb (Kr Sn))))
  refine iy h gW (X 0 rfl h (gy rfl) (X 1 rfl h (jo rfl) (X 2 rfl h (gA qo rfl) (XH 3 rfl h (fun _ l => gu rfl (gL l (Mt (Mt Mh)) rfl fi)) (X 4 rfl h (gA iK rfl) (XH 5 rfl h (fun _ l => gu rfl (gD l (Mt Mh) (gn Q.B) rfl ah ae)) ?_))))))
  obtain ⟨f6, a5⟩ := U
  refine XH 6 rfl h (fun _ l => lg (k := Q.B) (z := (.map none)) oh di dM rfl rfl a5 (fun b o n => l.2 b o (Mt (Mt (Mt (Ml n)))))) (X 7 rfl h (gA pP rfl) (XH 8 rfl h (fun _ l => gu rfl (gL l Mh rfl aG)) (XH 9 rfl h (fun _ l => oB (k := a2.gP) (z := false) (vf := (fun (x : Bool) => (Value.bool x))) yn dW zeroValue4 rfl rfl (iY.vG (μ := hp _) gB.1 a5 Q.B (fun b o n => l.2 b o (Mt (Mt (Mt (Ml n))))))) (X 10 rfl h (gy rfl) (PJ hm (fun R E W => ∃ P, ST false (keys ((K, Obj.cells s 174 (0, 0)) :: (D ++ (a ++ (y ++ (c ++ (j ++ []))))))) w W μ0 ((O, Ol (gG a2) 38) :: ((A, Ol (gp Q) 108) :: ((K, Obj.cells s 174 (0, 0)) :: (D ++ (a ++ (y ++ (c ++ (j ++ P)))))))) ∧ E 0 = (.pointer (some ⟨K, 0, none⟩)) ∧ E 4 = (.pointer (some ⟨A, 0, none⟩)) ∧ E 5 = (.pointer (some ⟨O, 0, none⟩)) ∧ E 50 = (.bool R)) (bm 22 4194303) 0 ?_ (fun R p L => ?_))))))
  ·rintro g7 E W ⟨P, d, e0, e1, e2, e3⟩ a4
   refine iI kr (gC (CI a4 e3 (fun c1 a4 => ?_) (fun c1 a4 => ?_)))
   ·refine gE (Wh e0 (V (gA jz e1) (VA d (Mt Mh) (gn Q.Head) ah ae (V (gA pP e2) (VB d Mh rfl rfl aG (bS a4 fun g3 c3 a4 => ?_))))))
    refine VE (eM d (Cb (Pb (Pb Pz)) (Cr (Qb (Qb Qz)) (Cr (Qb (Qb Qz)) (Cr (Qb (Qb Qz)) (Cr (Qb (Qb Qz)) (Cr (Qb (Qb Qz)) Cn)))))) call209 (fun q _ => ir.kC (lM K G Z D g I a B N y i J c t M j a0 Q.Head a2.gP _ _ q a5.e T a3 Y H c3)) ?_)
    rintro _ g6 g9 f9 d f3 ad m ⟨d6, e9, d7, b0, rfl, c8, c9⟩
    obtain rfl := b0.symm
    replace d := d.perm (Tb (Tr (Tr (Tr (Tr (Tr Tn))))))
    refine gM (gU (oV ?_))
    obtain rfl := sj a4
    exact nt rfl ⟨_, _, rfl, (d.oa (Kb (Kr (Kr (Kr (Kr (Kr Sn))))))), d6, e9, d7, rfl, rfl, c8, c9⟩
   refine ic (gU (oV ?_))
   obtain rfl := sj a4
   exact nt rfl ⟨_, _, rfl, (d.oa (Db (Db (Kb (Kr (Kr (Kr (Kr (Kr Sn))))))))), D, t, j, rfl, rfl, a5.e, H⟩
  refine bC p (fun u p => ?_) (fun u p => ?_)
  ·refine Xg 11 rfl rfl (cB u) h (gy rfl) (Xg 12 rfl rfl (cB u) h (jo rfl) (Xg 13 rfl rfl (cB u) h (gA qo rfl) (nn 14 rfl rfl (cB u) h (fun _ l => gu rfl (gL l (Mt (Mt Mh)) rfl fi)) (Xg 15 rfl rfl (cB u) h (gA kp rfl) (nn 16 rfl rfl (cB u) h (fun _ l => gu rfl (gD l (Mt Mh) (gn Q.C) rfl ah ae)) (nn 17 rfl rfl (cB u) h (fun _ l => lg (k := Q.C) (z := (.map none)) oh di dM rfl rfl a5 (fun b o n => l.2 b o (Mt (Mt (Mt (Ml n)))))) (Xg 18 rfl rfl (cB u) h (gA pP rfl) (nn 19 rfl rfl (cB u) h (fun _ l => gu rfl (gL l Mh rfl aG)) (nn 20 rfl rfl (cB u) h (fun _ l => oB (k := a2.gP) (z := false) (vf := (fun (x : Bool) => (Value.bool x))) yn dW zeroValue4 rfl rfl (iY.vG (μ := hp _) gB.1 a5 Q.C (fun b o n => l.2 b o (Mt (Mt (Mt (Ml n))))))) (X 21 rfl h (gK (cB u) rfl) ?_))))))))))
   obtain rfl := sj p
   refine iH kr (L _ _ ⟨_, (d.gq St), rfl, rfl, rfl, rfl⟩)
  refine Xn 11 rfl rfl (cB u) h (Xn 12 rfl rfl (cB u) h (Xn 13 rfl rfl (cB u) h (Xn 14 rfl rfl (cB u) h (Xn 15 rfl rfl (cB u) h (Xn 16 rfl rfl (cB u) h (Xn 17 rfl rfl (cB u) h (Xn 18 rfl rfl (cB u) h (Xn 19 rfl rfl (cB u) h (Xn 20 rfl rfl (cB u) h (X 21 rfl h (gJ (cB u) rfl) ?_))))))))))
  obtain rfl := sj p
  refine iH kr (L _ _ ⟨_, (d.gq St), rfl, rfl, rfl, rfl⟩)
 refine ic (gU (oV ?_))
 obtain rfl := sj hm
 exact nt rfl ⟨_, _, rfl, (d.oa (Db (Db (Kb (Kr (Kr (Kr (Kr (Kr Sn))))))))), D, t, j, rfl, rfl, U, H⟩
theorem tL (K : Nat) (g : Value) (T : List (gl × (List (ByteArray × Bool)))) (D : LO) (a : Value) (G : List gm) (j : LO) (t : Value) (J : List (gl × (List gm))) (u : LO) (c : Value) (H : List (ByteArray × (List gm))) (k : LO) (z : Value) (M : List gr) (B : LO) (a0 : Int) (Z : gm) (r : ((List (gl × (List (ByteArray × Bool)))) × (List gr) × Int)) (w : World) {μ0 : gT} (h0 : pN μ0 ((K, Ob #[g, a, t, c, z, (.int .i64 a0)] 174) :: (D ++ (j ++ (u ++ (k ++ (B ++ [])))))) w) (a2 : iF (fun (x : gl) => (.agg (gn x).toArray)) (gV Value.string (fun (x : Bool) => (Value.bool x))) g T D) (N : gI 108 gp 9 a G j) (Y : iF (fun (x : gl) => (.agg (gn x).toArray)) (gI 108 gp 9) t J u) (Q : iF Value.string (gI 108 gp 9) c H k) (U : lk 38 gG 3 z M B) (hm : mJ T G J H M a0 Z = some r) :
  ir false pg0 172 [(.pointer (some ⟨K, 0, none⟩)), (.agg (gp Z).toArray)] w ((K, Ob #[g, a, t, c, z, (.int .i64 a0)] 174) :: (D ++ (j ++ (u ++ (k ++ (B ++ [])))))) (fun v L1 W' => ∃ S1 y3 S4, v = (.tuple #[]) ∧ L1 = ((K, Ob #[g, a, t, c, y3, (.int .i64 (r.2.2))] 174) :: (S1 ++ (j ++ (u ++ (k ++ (S4 ++ [])))))) ∧ iF (fun (x : gl) => (.agg (gn x).toArray)) (gV Value.string (fun (x : Bool) => (Value.bool x))) g r.1 S1 ∧ lk 38 gG 3 y3 r.2.1 S4) := by
 refine sN h0 33 func172 rfl (fun d => sg (VE (iP d rfl (fun W2 b1 d => lr (Wf jk (VB d Mh rfl rfl bj (ln (bg ?_))))))))
 refine Wi rfl (Wa (ln (CI hm rfl (fun f0 hm => ?_) (fun f0 hm => ?_))))
 ·refine gE (Wm (Wf jz (VA d Mh (gn Z.Head) ah ae (Wf mE (VB d Mh rfl rfl aG (bS hm fun r4 f1 hm => ?_))))))
  refine VE (eM d (Cb (Pb Pz) (Cr (Qb Qz) (Cr (Qb Qz) (Cr (Qb Qz) (Cr (Qb Qz) (Cr (Qb Qz) Cn)))))) call209 (fun hh _ => ir.kC (lM K g T D a G j t J u c H k z M B a0 Z.Head Z.gP _ _ hh a2 N Y Q U f1)) ?_)
  rintro _ g7 ao g5 d g1 af m ⟨e6, f3, e7, c1, rfl, d9, e0⟩
  obtain rfl := c1.symm
  replace d := d.perm (Tb (Tr (Tr (Tr (Tr (Tr Tn))))))
  refine gM (gU (oV ?_))
  obtain rfl := sj hm
  exact nt rfl ⟨_, _, rfl, (d.oa (Kb (Kr (Kr (Kr (Kr (Kr Sn))))))), e6, f3, e7, rfl, rfl, d9, e0⟩
 refine sg (Wm (Wf iK (VA d Mh (gn Z.B) ah ae (bS hm fun c5 d8 hm => VE (lB d call53 (ot K g T a G t J c H z M a0 Z.B _ _ (a2.at (fun b o l => d.at_ (Mt (Mt (Ml l))))) (N.sl ia (fun b o l => d.at_ (Mt (Mt (Ma (Ml l)))))) (Y.at (fun b o l => d.at_ (Mt (Mt (Ma (Ma (Ml l))))))) (Q.at (fun b o l => d.at_ (Mt (Mt (Ma (Ma (Ma (Ml l)))))))) ((U.vA kD).mono (Pl.mono _) (pt (fun b o l => d.at_ (Mt (Mt (Ma (Ma (Ma (Ma (Ml l)))))))))) (At.of (d.at_ (Mt Mh)) _ rfl) d8) (fun g6 f2 d4 e4 d f5 ad L => V (iu az rfl L) (Wm (ln (nH (im (fun i E W => ∃ n a3 a5 q a4 a9 O b8, (E 13 = .int .i64 (i : Nat) ∧ E 12 = .int .i64 (c5.length : Nat)) ∧ ig d4 O ∧ ST false (keys ((K, Ob #[g, a, t, c, z, (.int .i64 a0)] 174) :: (D ++ (j ++ (u ++ (k ++ (B ++ []))))))) w W O ((K, Ob #[g, a, t, c, a5, (.int .i64 a9)] 174) :: ((b1, Ol (gp Z) 108) :: (a3 ++ (j ++ (u ++ (k ++ (a4 ++ (e4 ++ b8)))))))) ∧ E 0 = (.pointer (some ⟨K, 0, none⟩)) ∧ E 3 = (.pointer (some ⟨b1, 0, none⟩)) ∧ E 11 = f2 ∧ iF (fun (x : gl) => (.agg (gn x).toArray)) (gV Value.string (fun (x : Bool) => (Value.bool x))) g n a3 ∧ lk 38 gG 3 a5 q a4 ∧ kH G J H Z (c5.drop i) n q a9 = some r) c5.length L.len ⟨T, D, z, M, B, a0, d4, _, ⟨rfl, rfl⟩, (ig.refl _), (d.gq (Sb (Pr (Pb Pz)) (Sb (Pr Pz) (Sr (Qr Qz) (Sr (Qr Qz) (Sr (Qr Qz) (Sr (Qr Qz) (Sr (Qr Qz) St)))))))), rfl, rfl, rfl, a2, U, hm⟩ dc dc dc (fun _ _ _ h => by obtain ⟨_, _, _, _, _, _, _, _, a1, _⟩ := h; exact a1) ?_ ?_))))))))))
 ·rintro e1 E W c7 ⟨n, a3, a5, q, a4, a9, O, b8, ⟨eI, eN⟩, b7, d, b9, A, c0, P, R, I⟩
  obtain ⟨s, f6, d0, c3, d1⟩ := hX c7
  rw [d0] at I
  refine bg (VQ (ie (i := (e1 : Int)) (x0 := s) az bU c0 eI L (aj _) c3) (fun g2 c8 => V (gu rfl (oF d.has (fun p l => (Mt (Mt (Ma (Ma (Ma (Ma (Ma (Ml l))))))))) L (fun _ => rfl) c8 c3 (y := (.string s)) rfl aG)) (Wa (ln (gE (Wh b9 (V (gu A (gD d.has (Mt Mh) (gp Z) rfl aM ag)) (V (gA iK A) (VA d (Mt Mh) (gn Z.B) ah ae (Wm (V (ko (v := (.agg (gG (⟨Z.B, s⟩ : gr)).toArray)) (mB rfl rfl) (jq cu bq (xJ _ bq) kr)) ?_)))))))))))
  refine bS I fun c2 c9 I => ?_
  refine VE (eM d (Cb Pz (Cr (Qb Qz) (Cr (Qb Qz) (Cr (Qb Qz) (Cr (Qb Qz) (Cr (Qb Qz) Cn)))))) call210 (fun hh _ => (qM K g n a3 a G j t J u c H k a5 q a4 a9 Z (⟨Z.B, s⟩ : gr) _ _ hh P N Y Q R c9)) ?_)
  rintro _ g3 e3 f8 d c4 ab m ⟨d5, e2, d6, b5, rfl, d2, d3⟩
  obtain rfl := b5.symm
  replace d := d.perm (Tb (Tr (Tr (Tr (Tr (Tr Tn))))))
  exact gM (gU (gC ⟨eI, c2.1, d5, e2, c2.2.1, d6, c2.2.2, e3, _, ⟨rfl, eN⟩, (b7.trans c4), (d.gq (Kb (Sb (Pr (Pr (Pr (Pr (Pr Pz))))) St))), b9, A, c0, d2, d3, (by rw [d1]; exact I)⟩))
 rintro E W ⟨n, a3, a5, q, a4, a9, O, b8, ⟨eI, eN⟩, b7, d, b9, A, c0, P, R, I⟩
 rw [au] at I
 refine gC ?_
 replace d := d.gq (Kb (Db (Kr (Kr (Kr (Kr (Kr (Dr St))))))))
 refine gU (oV ?_)
 obtain rfl := sj I
 exact nt rfl ⟨_, _, rfl, (d.oa (Kb (Kr (Kr (Kr (Kr (Kr Sn))))))), a3, a5, a4, rfl, rfl, P, R⟩
theorem tC (I : Nat) (a : Value) (e7 : List (gl × (List (ByteArray × Bool)))) (K : LO) (c : Value) (Q : List gm) (j : LO) (u : Value) (N : List (gl × (List gm))) (y : LO) (g : Value) (H : List (ByteArray × (List gm))) (t : LO) (G : Value) (d3 : List gr) (D : LO) (a0 : Int) (r : ((List (gl × (List (ByteArray × Bool)))) × (List gr) × Int)) (w : World) {μ0 : gT} (h0 : pN μ0 ((I, Ob #[a, c, u, g, G, (.int .i64 a0)] 174) :: (K ++ (j ++ (y ++ (t ++ (D ++ [])))))) w) (h1 : iF (fun (x : gl) => (.agg (gn x).toArray)) (gV Value.string (fun (x : Bool) => (Value.bool x))) a e7 K) (c0 : gI 108 gp 9 c Q j) (g4 : iF (fun (x : gl) => (.agg (gn x).toArray)) (gI 108 gp 9) u N y) (c1 : iF Value.string (gI 108 gp 9) g H t) (g3 : lk 38 gG 3 G d3 D) (hm : nV e7 Q N H d3 a0 = some r) :
  ir false pg0 173 [(.pointer (some ⟨I, 0, none⟩))] w ((I, Ob #[a, c, u, g, G, (.int .i64 a0)] 174) :: (K ++ (j ++ (y ++ (t ++ (D ++ [])))))) (fun v L1 W' => ∃ S1 y3 S4, v = (.tuple #[]) ∧ L1 = ((I, Ob #[a, c, u, g, y3, (.int .i64 (r.2.2))] 174) :: (S1 ++ (j ++ (y ++ (t ++ (S4 ++ [])))))) ∧ iF (fun (x : gl) => (.agg (gn x).toArray)) (gV Value.string (fun (x : Bool) => (Value.bool x))) a r.1 S1 ∧ lk 38 gG 3 y3 r.2.1 S4) := by
 let i3 : Value := (.pointer (some ⟨I, 0, none⟩))
 let i2 := ((I, Ob #[a, c, u, g, G, (.int .i64 a0)] 174) :: (K ++ (j ++ (y ++ (t ++ (D ++ []))))))
 refine sN h0 75 func173 rfl (fun d => nH (ji (lT (fun m E W => ∃ e2 b7 e3 a1 b8 d0 b4 h2, ig μ0 b4 ∧ ST false (keys i2) w W b4 ((I, Ob #[a, c, u, g, e3, (.int .i64 d0)] 174) :: (b7 ++ (j ++ (y ++ (t ++ (b8 ++ h2)))))) ∧ E 0 = i3 ∧ iF (fun (x : gl) => (.agg (gn x).toArray)) (gV Value.string (fun (x : Bool) => (Value.bool x))) a e2 b7 ∧ lk 38 gG 3 e3 a1 b8 ∧ jm Q N H m e2 a1 d0 = some r) jj ⟨e7, K, G, d3, D, a0, μ0, _, (ig.refl _), (d.gq St), rfl, h1, g3, hm⟩ ?_)))
 rintro m E W ⟨e2, b7, e3, a1, b8, d0, b4, h2, h7, d, L, g6, c4, M⟩
 cases m with
 | zero => rw [jm] at M; cases M
 | succ m7 =>
  refine gH (sg (Wh L (Wn (Wf se (VB d Mh rfl rfl isAgg120 (V (Dl aV rfl c4) (Wi rfl (ln (CI M rfl (fun i4 M => ?_) (fun i4 M => ?_))))))))))
  ·refine kn (bg (Wh L (Wn (Wf se (VB d Mh rfl rfl isAgg120 (bS M fun B g8 M => VQ (iZ (enc := gG) (i := 0) (x0 := B) aV bz rfl rfl (c4.vA kD) (iD g8) (hZ g8)) (fun p7 j4 => V (gu rfl (jM (mu.hp _) (j4.mono (pt (fun b o p => d.has.2 b o (Mt (Ma (Ma (Ma (Ma (Ml p))))))))) dN bz)) (VE (iw d cu (fun o6 a5 d => VO (gO (.agg (gG B).toArray) ((gG B).toArray) d rfl rfl bz (pB B) nb rfl (fun o7 d => gM ?_))))))))))))
   let n6 := ((gQ gz N B.gl).getD [])
   let n5 : Value := (.pointer (some ⟨a5, 0, none⟩))
   let n4 := ((gG B).toArray : Array Value)
   let j2 := ((gQ gX H B.gl.gY).getD [])
   refine gC (sg (Wh L (Wh L (Wn (Wf se (VB d (Mt Mh) rfl rfl isAgg120 (bS M fun _ g5 M => VQ (BC (i := 1) aV bz rfl rfl kD c4 (pZ g5) (pW g5)) (fun q0 g7 => Wn (Wf se ?_)))))))))
   obtain ⟨f6, f9, rfl⟩ := g7.form
   let j1 : Value := (.slice f6 (a1.drop (Int.toNat 1)).length f9)
   replace d := d.perm (Nb (Pb Pz) Nz)
   refine VO (gO j1 (#[a, c, u, g, j1, (.int .i64 d0)]) d rfl rfl sizeOf120 oc nb rfl (fun o8 d => ln (gH (gH ?_))))
   replace d := d.drew
   have l := d.has.gq (Kb (Kb (Dr (Dr (Kr Sn)))))
   refine iy l gW (X 0 rfl l (gy L) (X 1 rfl l (jo rfl) (X 2 rfl l (gA AX rfl) (XH 3 rfl l (fun _ n => gu rfl (gL n Mh rfl isAgg171)) (X 4 rfl l (gA qG rfl) (XH 5 rfl l (fun _ n => gu rfl (gD n (Mt Mh) (gn B.gl) rfl ah ae)) ?_))))))
   obtain ⟨l4, c2⟩ := g4
   obtain ⟨o4, e9, j9⟩ := iY.rowAt gB.1 c2 B.gl
   refine XH 6 rfl l (fun _ n => lg (k := B.gl) (z := (.slice none 0 0)) oh underlying171 gj rfl rfl c2 (fun b o p => n.2 b o (Mt (Mt (Ml p))))) (X 7 rfl l (kF ai rfl (e9.vA ia)) (X 8 rfl l (gy rfl) (iI kr (gC (CJ M (fun c9 E W => ∃ d5 e4 d6 b5 h3, ig b4 b5 ∧ ST false (keys i2) w W b5 ((I, Ob #[a, c, u, g, e4, (.int .i64 c9.2.2)] 174) :: ((a5, Obj.cells n4 38 (0, 0)) :: (d5 ++ (j ++ (y ++ (t ++ (d6 ++ h3))))))) ∧ E 0 = i3 ∧ E 2 = n5 ∧ iF (fun (x : gl) => (.agg (gn x).toArray)) (gV Value.string (fun (x : Bool) => (Value.bool x))) a c9.1 d5 ∧ lk 38 gG 3 e4 c9.2.1 d6) (fun c9 j3 => ?_) ?_)))))
   ·refine im (fun i E W => ∃ c6 a3 R c7 a4 d1 d2 f8, (E 35 = .int .i64 (i : Nat) ∧ E 34 = .int .i64 (n6.length : Nat)) ∧ ig b4 d2 ∧ ST false (keys i2) w W d2 ((I, Ob #[a, c, u, g, R, (.int .i64 d1)] 174) :: ((a5, Obj.cells n4 38 (0, 0)) :: (a3 ++ (j ++ (y ++ (t ++ (a4 ++ f8))))))) ∧ E 0 = i3 ∧ E 2 = n5 ∧ E 33 = (lW gz l4 B.gl (.slice none 0 0)) ∧ iF (fun (x : gl) => (.agg (gn x).toArray)) (gV Value.string (fun (x : Bool) => (Value.bool x))) a c6 a3 ∧ lk 38 gG 3 R c7 a4 ∧ kB Q N H B (n6.drop i) c6 c7 d1 = some c9) n6.length (e9.vA ia).len ⟨e2, b7, j1, (a1.drop (Int.toNat 1)), b8, d0, b4, _, ⟨rfl, rfl⟩, (ig.refl _), (d.gq St), L, rfl, rfl, g6, g7, j3⟩ dc dc dc (fun _ _ _ h => by obtain ⟨_, _, _, _, _, _, _, _, s, _⟩ := h; exact s) ?_ ?_
    ·rintro m2 E W i7 ⟨c6, a3, R, c7, a4, d1, d2, f8, ⟨q, eN⟩, d4, d, e0, e1, g0, f2, f3, T⟩
     obtain ⟨b3, o0, k8, k7, k9⟩ := hX i7
     rw [k8] at T
     refine bg (VQ (iZ (enc := gp) (i := (m2 : Int)) (x0 := b3) ai ag g0 q (e9.vA ia) (aj _) k7) (fun p9 j6 => V (gu rfl (jM (mu.hp _) (j6.mono (pt (fun b o p => d.has.2 b o (Mt (Mt (Ma (Ma (Ml (j9 b o p))))))))) aM ag)) (VE (iw d aT (fun p2 p6 d => VO (gO (.agg (gp b3).toArray) ((gp b3).toArray) d rfl rfl ag (js b3) nb rfl (fun p3 d => ln (gE (Wh e0 (VA d Mh (gp b3) aM ag (V (gu e1 (gD d.has (Mt (Mt Mh)) (gG B) rfl dN bz)) (bS T fun g2 j8 T => ?_))))))))))))
     refine VE (eM d (Cb (Pb Pz) (Cr (Qb (Qb Qz)) (Cr (Qb (Qb Qz)) (Cr (Qb (Qb Qz)) (Cr (Qb (Qb Qz)) (Cr (Qb (Qb Qz)) Cn)))))) call210 (fun hh _ => (qM I a c6 a3 c Q j u N y g H t R c7 a4 d1 b3 B _ _ hh f2 c0 c2.e c1 f3 j8)) ?_)
     rintro _ q2 n3 o3 d i1 ad A ⟨l8, n1, l9, f5, rfl, l2, l3⟩
     obtain rfl := f5.symm
     replace d := d.perm (Tb (Tr (Tr (Tr (Tr (Tr Tn))))))
     refine gM (gU (gC ?_))
     replace d := d.gq (Kb (Kr (Kr (Kr (Kr (Kr (Db St)))))))
     exact ⟨q, g2.1, l8, n1, g2.2.1, l9, g2.2.2, n3, _, ⟨rfl, eN⟩, (d4.trans i1), (d.gq (Kb (Sb (Pr (Pr (Pr (Pr (Pr Pz))))) St))), e0, e1, g0, l2, l3, (by rw [k9]; exact T)⟩
    rintro E W ⟨c6, a3, R, c7, a4, d1, d2, f8, ⟨q, eN⟩, d4, d, e0, e1, g0, f2, f3, T⟩
    rw [au] at T
    refine gC ?_
    obtain rfl := sj T
    exact ⟨a3, R, a4, d2, _, d4, (d.gq St), e0, e1, f2, f3⟩
   rintro ⟨m3, m4, m8⟩ E W ⟨d5, e4, d6, b5, h3, h8, d, h5, h6, k0, k1⟩ i8
   refine gH ?_
   replace d := d.drew
   have l := d.has.gq (Kb (Kb (Dr (Dr (Dr (Kr Sn))))))
   refine iy l gW (X 0 rfl l (gy h5) (X 1 rfl l (jo rfl) (X 2 rfl l (gA xN rfl) (XH 3 rfl l (fun _ n => gu rfl (gL n Mh rfl isAgg172)) (X 4 rfl l (gA qG h6) (X 5 rfl l (gA oT rfl) (XH 6 rfl l (fun _ n => gu rfl (gL n (Mt Mh) rfl aG)) ?_)))))))
   obtain ⟨l5, e8⟩ := c1
   obtain ⟨o5, f0, k2⟩ := iY.rowAt iE.1 e8 B.gl.gY
   refine XH 7 rfl l (fun _ n => lg (k := B.gl.gY) (z := (.slice none 0 0)) yn underlying172 gj rfl rfl e8 (fun b o p => n.2 b o (Mt (Mt (Ml p))))) (X 8 rfl l (kF ai rfl (f0.vA ia)) (X 9 rfl l (gy rfl) (iI kr (gC (nH (CJ i8 (fun c8 E W => ∃ d7 e5 d8 e6 h4, ig b5 e6 ∧ ST false (keys i2) w W e6 ((I, Ob #[a, c, u, g, e5, (.int .i64 c8.2.2)] 174) :: (d7 ++ (j ++ (y ++ (t ++ (d8 ++ h4)))))) ∧ E 0 = i3 ∧ iF (fun (x : gl) => (.agg (gn x).toArray)) (gV Value.string (fun (x : Bool) => (Value.bool x))) a c8.1 d7 ∧ lk 38 gG 3 e5 c8.2.1 d8) (fun c8 j0 => ?_) ?_))))))
   ·refine im (fun i E W => ∃ a9 Y a2 P Z b2 b6 f7, (E 53 = .int .i64 (i : Nat) ∧ E 52 = .int .i64 (j2.length : Nat)) ∧ ig b5 b6 ∧ ST false (keys i2) w W b6 ((I, Ob #[a, c, u, g, a2, (.int .i64 b2)] 174) :: ((a5, Obj.cells n4 38 (0, 0)) :: (Y ++ (j ++ (y ++ (t ++ (Z ++ f7))))))) ∧ E 0 = i3 ∧ E 2 = n5 ∧ E 51 = (lW gX l5 B.gl.gY (.slice none 0 0)) ∧ iF (fun (x : gl) => (.agg (gn x).toArray)) (gV Value.string (fun (x : Bool) => (Value.bool x))) a a9 Y ∧ lk 38 gG 3 a2 P Z ∧ jN B Q N H (j2.drop i) a9 P b2 = some c8) j2.length (f0.vA ia).len ⟨m3, d5, e4, m4, d6, m8, b5, _, ⟨rfl, rfl⟩, (ig.refl _), (d.gq St), h5, h6, rfl, k0, k1, j0⟩ dc dc dc (fun _ _ _ h => by obtain ⟨_, _, _, _, _, _, _, _, s, _⟩ := h; exact s) ?_ ?_
    ·rintro m1 E W i6 ⟨a9, Y, a2, P, Z, b2, b6, f7, ⟨q, eN⟩, a8, d, O, b9, d9, f1, c5, J⟩
     obtain ⟨U, n9, k6, k5, g9⟩ := hX i6
     rw [k6] at J
     refine bg (VQ (iZ (enc := gp) (i := (m1 : Int)) (x0 := U) ai ag d9 q (f0.vA ia) (aj _) k5) (fun p8 j5 => V (gu rfl (jM (mu.hp _) (j5.mono (pt (fun b o p => d.has.2 b o (Mt (Mt (Ma (Ma (Ma (Ml (k2 b o p)))))))))) aM ag)) (VE (iw d aT (fun o9 p5 d => VO (gO (.agg (gp U).toArray) ((gp U).toArray) d rfl rfl ag (js U) nb rfl (fun p0 d => ln (gH ?_))))))))
     replace d := d.drew
     have l := d.has.gq (Kb (Kb (Kb (Kr Sn))))
     refine iy l gW (X 0 rfl l (gy O) (X 1 rfl l (jo rfl) (X 2 rfl l (gA qo rfl) (XH 3 rfl l (fun _ n => gu rfl (gL n (Mt Mh) rfl fi)) (X 4 rfl l (gA iK rfl) (XH 5 rfl l (fun _ n => gu rfl (gD n Mh (gn U.B) rfl ah ae)) ?_))))))
     obtain ⟨n7, c3⟩ := f1
     refine XH 6 rfl l (fun _ n => lg (k := U.B) (z := (.map none)) oh di dM rfl rfl c3 (fun b o p => n.2 b o (Mt (Mt (Mt (Ml p)))))) (X 7 rfl l (gA qG b9) (X 8 rfl l (gA kz rfl) (XH 9 rfl l (fun _ n => gu rfl (gL n (Mt (Mt Mh)) rfl aG)) (XH 10 rfl l (fun _ n => oB (k := B.gl.gF) (z := false) (vf := (fun (x : Bool) => (Value.bool x))) yn dW zeroValue4 rfl rfl (iY.vG (μ := hp _) gB.1 c3 U.B (fun b o p => n.2 b o (Mt (Mt (Mt (Ml p))))))) (iI kr (gC (CI J rfl (fun i5 J => ?_) (fun i5 J => ?_))))))))
     ·refine gE (Wh O (Wf jz (VA d Mh (gn U.Head) ah ae (V (gA pP b9) (VB d (Mt (Mt Mh)) rfl rfl aG (bS J fun g1 j7 J => ?_))))))
      refine VE (eM d (Cb (Pb Pz) (Cr (Qb (Qb Qz)) (Cr (Qb (Qb Qz)) (Cr (Qb (Qb Qz)) (Cr (Qb (Qb Qz)) (Cr (Qb (Qb Qz)) Cn)))))) call209 (fun hh _ => ir.kC (lM I a a9 Y c Q j u N y g H t a2 P Z b2 U.Head B.gP _ _ hh c3.e c0 c2.e e8.e c5 j7)) ?_)
      rintro _ q1 n2 o2 d i0 ab A ⟨l6, n0, l7, f4, rfl, l0, l1⟩
      obtain rfl := f4.symm
      replace d := d.perm (Tb (Tr (Tr (Tr (Tr (Tr Tn))))))
      refine gM (gU (gC ?_))
      replace d := d.gq (Kb (Kr (Kr (Kr (Kr (Kr (Db St)))))))
      exact ⟨q, g1.1, l6, n0, g1.2.1, l7, g1.2.2, n2, _, ⟨rfl, eN⟩, (a8.trans i0), (d.gq (Kb (Sb (Pr (Pr (Pr (Pr (Pr Pz))))) St))), O, b9, d9, l0, l1, (by rw [g9]; exact J)⟩
     refine ic (gU (gC ?_))
     replace d := d.gq (Db St)
     exact ⟨q, a9, Y, a2, P, Z, b2, b6, _, ⟨rfl, eN⟩, a8, (d.gq St), O, b9, d9, c3.e, c5, (by rw [g9]; exact J)⟩
    rintro E W ⟨a9, Y, a2, P, Z, b2, b6, f7, ⟨q, eN⟩, a8, d, O, b9, d9, f1, c5, J⟩
    rw [au] at J
    refine gC ?_
    obtain rfl := sj J
    exact ⟨Y, a2, Z, b6, _, a8, (d.gq (Kb (Db St))), O, f1, c5⟩
   rintro ⟨m5, m6, m9⟩ E W ⟨d7, e5, d8, e6, h4, h9, d, m0, k3, k4⟩ i9
   exact gU (gC ⟨m7, bn _, m5, d7, e5, m6, d8, m9, e6, _, ((h7.trans h8).trans h9), (d.gq St), m0, k3, k4, i9⟩)
  refine oy (nB (nB (sv (gC (oV ?_)))))
  obtain rfl := sj M
  exact nt rfl ⟨_, _, rfl, (d.oa (Kb (Kr (Kr (Kr (Kr (Kr Sn))))))), b7, e3, b8, rfl, rfl, g6, c4⟩
theorem uN (H : Nat) (g : Value) (c1 : List (gl × (List (ByteArray × Bool)))) (G : LO) (u : Value) (a7 : List gm) (k : LO) (c : Value) (b7 : List (gl × (List gm))) (z : LO) (a : Value) (a8 : List (ByteArray × (List gm))) (t : LO) (B : Value) (b6 : List gr) (y : LO) (K : Int) (d0 : Value) (p : List gm) (r : (Int × (List (gl × (List (ByteArray × Bool)))) × (List gm) × (List (gl × (List gm))) × (List (ByteArray × (List gm))) × (List gr) × Int)) (w : World) {μ0 : gT} (h0 : pN μ0 ((H, Ob #[g, u, c, a, B, (.int .i64 K)] 174) :: (G ++ (k ++ (z ++ (t ++ (y ++ [])))))) w) (d5 : iF (fun (x : gl) => (.agg (gn x).toArray)) (gV Value.string (fun (x : Bool) => (Value.bool x))) g c1 G) (c5 : gI 108 gp 9 u a7 k) (d2 : iF (fun (x : gl) => (.agg (gn x).toArray)) (gI 108 gp 9) c b7 z) (c6 : iF Value.string (gI 108 gp 9) a a8 t) (d1 : lk 38 gG 3 B b6 y) (d6 : Sl (Pl gp) 9 μ0 d0 p) (hm : nx c1 a7 b7 a8 b6 K p = some r) :
  ir false pg0 109 [(.pointer (some ⟨H, 0, none⟩)), d0] w ((H, Ob #[g, u, c, a, B, (.int .i64 K)] 174) :: (G ++ (k ++ (z ++ (t ++ (y ++ [])))))) (fun v L1 W' => ∃ S1 y3 S4 S6 S8 h8 h7, v = (.int .i64 (r.1)) ∧ L1 = ((H, Ob #[g, y3, c, a, h8, (.int .i64 (r.2.2.2.2.2.2))] 174) :: (S1 ++ (S4 ++ (S6 ++ (S8 ++ (h7 ++ [])))))) ∧ iF (fun (x : gl) => (.agg (gn x).toArray)) (gV Value.string (fun (x : Bool) => (Value.bool x))) g r.2.1 S1 ∧ gI 108 gp 9 y3 r.2.2.1 S4 ∧ iF (fun (x : gl) => (.agg (gn x).toArray)) (gI 108 gp 9) c r.2.2.2.1 S6 ∧ iF Value.string (gI 108 gp 9) a r.2.2.2.2.1 S8 ∧ lk 38 gG 3 h8 r.2.2.2.2.2.1 h7) := by
 let e2 := ((H, Ob #[g, u, c, a, B, (.int .i64 K)] 174) :: (G ++ (k ++ (z ++ (t ++ (y ++ []))))))
 refine sN h0 46 func109 rfl (fun d => sg (Wa (lS (Wm (V (qE underlying101 rfl rfl) (ln (mw rfl (ic ?_))))))))
 refine gC (sg (Wm (Wn (Wf vL (VB d Mh rfl rfl bj (Wa (lS (Wm (V (kF ai rfl d6) ?_)))))))))
 refine Wm (ln (im (fun i E W => ∃ a3 N M a4 Q a9 T n U a0 a5 Y a2 L d4, (E 16 = .int .i64 (i : Nat) ∧ E 15 = .int .i64 (p.length : Nat)) ∧ ig μ0 L ∧ ST false (keys e2) w W L ((H, Ob #[g, M, c, a, a0, (.int .i64 a2)] 174) :: (N ++ (Q ++ (T ++ (U ++ (Y ++ d4)))))) ∧ E 0 = (.pointer (some ⟨H, 0, none⟩)) ∧ E 5 = (.int .i64 K) ∧ E 14 = d0 ∧ iF (fun (x : gl) => (.agg (gn x).toArray)) (gV Value.string (fun (x : Bool) => (Value.bool x))) g a3 N ∧ gI 108 gp 9 M a4 Q ∧ iF (fun (x : gl) => (.agg (gn x).toArray)) (gI 108 gp 9) c a9 T ∧ iF Value.string (gI 108 gp 9) a n U ∧ lk 38 gG 3 a0 a5 Y ∧ jL K (p.drop i) a3 a4 a9 n a5 a2 = some r) p.length d6.len ⟨c1, G, u, a7, k, b7, z, a8, t, B, b6, y, K, μ0, _, ⟨rfl, rfl⟩, (ig.refl _), (d.gq St), rfl, rfl, rfl, d5, c5, d2, c6, d1, hm⟩ dc dc dc (fun _ _ _ h => by obtain ⟨_, _, _, _, _, _, _, _, _, _, _, _, _, _, _, ab, _⟩ := h; exact ab) ?_ ?_))
 ·rintro f5 E W g2 ⟨a3, N, M, a4, Q, a9, T, n, U, a0, a5, Y, a2, L, d4, ⟨eI, eN⟩, b1, d, s, c2, c3, O, q, P, R, b5, D⟩
  obtain ⟨I, j6, h1, g9, d8⟩ := hX g2
  rw [h1] at D
  refine bg (VQ (iZ (enc := gp) (i := (f5 : Int)) (x0 := I) ai ag c3 eI (d6.mono (Pl.mono _) b1) (aj _) g9) (fun k9 g3 => V (gu rfl (jM d.has g3 aM ag)) (VE (iw d aT (fun k1 e7 d => VO (gO (.agg (gp I).toArray) ((gp I).toArray) d rfl rfl ag (js I) nb rfl (fun k2 d => ln (gH ?_))))))))
  replace d := d.drew
  have l := d.has.gq (Kb (Kb Sn))
  refine iy l gW (XH 0 rfl l (fun _ hS => gu rfl (gD hS Mh (gp I) rfl aM ag)) (bS D fun l0 g4 D => XE 1 rfl (Eg d call115 (iC.kC (px I _ _  g4)) (fun k3 d => ?_))))
  have l := d.has.gq (Kb (Kb Sn))
  refine ⟨l, (X 2 rfl l (gy rfl) (PJ D (fun f6 E W => ∃ e3, ST false (keys e2) w W L ((e7, Ol (gp I) 108) :: ((H, Ob #[g, M, c, a, a0, (.int .i64 a2)] 174) :: (N ++ (Q ++ (T ++ (U ++ (Y ++ e3))))))) ∧ E 0 = (.pointer (some ⟨H, 0, none⟩)) ∧ E 5 = (.int .i64 K) ∧ E 7 = (.pointer (some ⟨e7, 0, none⟩)) ∧ E 14 = d0 ∧ E 15 = (.int .i64 (p.length : Int)) ∧ E 16 = (.int .i64 (f5 : Int)) ∧ E 30 = (.bool f6)) (bm 11 2047) 0 ?_ (fun f6 Z d3 => ?_)))⟩
  ·rintro l5 E W ⟨e3, d, c4, e8, e9, f0, f1, f2, i3⟩ J
   refine iI kr (gC (CI J i3 (fun g1 J => ?_) (fun g1 J => ?_)))
   ·refine sg (Wh c4 (V (gu e9 (gD d.has Mh (gp I) rfl aM ag)) (bS J fun A g5 J => ?_)))
    refine VE (eM d (Cb (Pb Pz) (Cr (Qb Qz) (Cr (Qb Qz) (Cr (Qb Qz) (Cr (Qb Qz) (Cr (Qb Qz) Cn)))))) call171 (fun hh _ => ir.kC (uA H g a3 N M a4 Q c a9 T a n U a0 a5 Y a2 I _ _ hh O q P R b5 g5)) ?_)
    rintro _ l2 l6 j8 d f3 ad m ⟨f7, e4, e5, e6, c7, rfl, d9, e0, e1⟩
    obtain rfl := c7.symm
    replace d := d.perm (Tb (Tr (Tr (Tr (Tr (Tr Tn))))))
    refine ln (gE (Wh c4 (V (gu e9 (gD d.has (Mt (Ma (Ma (Ma (Ma (Ma Mh)))))) (gp I) rfl aM ag)) (bS J fun d7 g6 J => ?_))))
    refine VE (eM d (Cb Pz (Cr Qz (Cr Qz (Cr Qz (Cr Qz (Cr Qz Cn)))))) call172 (fun hh _ => (tL H g a3 N f7 A.1 e4 c A.2.1 e5 a A.2.2 e6 a0 a5 Y a2 I _ _ hh O d9 e0 e1 b5 g6)) ?_)
    rintro _ l3 i7 j9 d f4 af m ⟨h9, i5, i0, c8, rfl, h2, h3⟩
    obtain rfl := c8.symm
    replace d := d.perm (Tb (Tr (Tr (Tr (Tr (Tr Tn))))))
    refine gM (gU (gC ?_))
    replace d := d.gq (Kb (Kr (Kr (Kr (Kr (Kr (Db St)))))))
    exact ⟨f2, d7.1, h9, f7, A.1, e4, A.2.1, e5, A.2.2, e6, i5, d7.2.1, i0, d7.2.2, i7, _, ⟨rfl, f1⟩, ((b1.trans f3).trans f4), (d.gq St), c4, e8, f0, h2, d9, e0, e1, h3, (by rw [d8]; exact J)⟩
   refine ic (gU (gC ?_))
   replace d := d.gq (Db St)
   exact ⟨f2, a3, N, M, a4, Q, a9, T, n, U, a0, a5, Y, a2, L, _, ⟨rfl, f1⟩, b1, (d.gq St), c4, e8, f0, O, q, P, R, b5, (by rw [d8]; exact J)⟩
  refine bC Z (fun j Z => ?_) (fun j Z => ?_)
  ·refine Xg 3 rfl rfl (cB j) l (gy s) (Xg 4 rfl rfl (cB j) l (jo rfl) (Xg 5 rfl rfl (cB j) l (gA xV rfl) (nn 6 rfl rfl (cB j) l (fun _ hS => gu rfl (gL hS (Mt Mh) rfl isAgg22)) (nn 7 rfl rfl (cB j) l (fun _ hS => gu rfl (gD hS Mh (gp I) rfl aM ag)) (bS Z fun l1 g7 Z => uG 8 rfl rfl (cB j) (Eg d call151 (iC.kC (Bu M a4 I _ _ (q.sl ia (fun b o hq => d.at_ (Mt (Mt (Ma (Ml hq)))))) g7)) (fun k6 d => ?_)))))))
   have l := d.has.gq (Kb (Kb Sn))
   refine ⟨l, (Xg 9 rfl rfl (cB j) l (mZ rfl) (X 10 rfl l (gK (cB j) rfl) ?_))⟩
   obtain rfl := sj Z
   refine iH kr (d3 _ _ ⟨_, (d.gq St), s, c2, rfl, c3, eN, eI, rfl⟩)
  refine Xn 3 rfl rfl (cB j) l (Xn 4 rfl rfl (cB j) l (Xn 5 rfl rfl (cB j) l (Xn 6 rfl rfl (cB j) l (Xn 7 rfl rfl (cB j) l (Xn 8 rfl rfl (cB j) l (Xn 9 rfl rfl (cB j) l (X 10 rfl l (gJ (cB j) rfl) ?_)))))))
  obtain rfl := sj Z
  refine iH kr (d3 _ _ ⟨_, (d.gq St), s, c2, rfl, c3, eN, eI, rfl⟩)
 rintro E W ⟨a3, N, M, a4, Q, a9, T, n, U, a0, a5, Y, a2, L, d4, ⟨eI, eN⟩, b1, d, s, c2, c3, O, q, P, R, b5, D⟩
 rw [au] at D
 refine gC (sg (Wh s (bS D fun i4 g8 D => ?_)))
 refine VE (eM d (Cb Pz (Cr Qz (Cr Qz (Cr Qz (Cr Qz (Cr Qz Cn)))))) call173 (fun hh _ => (tC H g a3 N M a4 Q c a9 T a n U a0 a5 Y a2 _ _ hh O q P R b5 g8)) ?_)
 rintro _ l4 l7 k0 d j4 ao m ⟨i1, i6, i2, c9, rfl, h4, h5⟩
 obtain rfl := c9.symm
 replace d := d.perm (Tb (Tr (Tr (Tr (Tr (Tr Tn))))))
 refine lr (Wh s (Wn (Wf vL (VB d Mh rfl rfl bj (Wh c2 (Wi rfl (Wa (lt ?_))))))))
 obtain rfl := sj D
 exact ij (v := (.int .i64 (wi0 .i64 (i4.2.2 - K)))) rfl rfl ⟨_, _, rfl, (d.oa (Kb (Kr (Kr (Kr (Kr (Kr Sn))))))), i1, M, Q, T, U, i6, i2, rfl, rfl, h4, q, P, R, h5⟩
theorem By (j : Value) (H : List gm) (r : ((List (gl × (List (ByteArray × Bool)))) × (List gm) × (List (gl × (List gm))) × (List (ByteArray × (List gm))) × (List gr) × Int)) (w : World) (J : Sl (Pl gp) 9 (hp w) j H) (hm : rX H = some r) :
  ir false pg0 47 [j] w [] (fun v L1 W' => ∃ l n S3 o S6 p S9 D u G y, v = (.pointer (some ⟨l, 0, none⟩)) ∧ L1 = ((l, Ob #[n, o, p, D, G, (.int .i64 (r.2.2.2.2.2))] 174) :: (S3 ++ (S6 ++ (S9 ++ (u ++ (y ++ [])))))) ∧ iF (fun (x : gl) => (.agg (gn x).toArray)) (gV Value.string (fun (x : Bool) => (Value.bool x))) n r.1 S3 ∧ gI 108 gp 9 o r.2.1 S6 ∧ iF (fun (x : gl) => (.agg (gn x).toArray)) (gI 108 gp 9) p r.2.2.1 S9 ∧ iF Value.string (gI 108 gp 9) D r.2.2.2.1 u ∧ lk 38 gG 3 G r.2.2.2.2.1 y) := by
 refine oE 13 func47 rfl (fun b => sg (Wa (lr (VE (uf (P := pg0) (fun (x : gl) => (.agg (gn x).toArray)) (gV Value.string (fun (x : Bool) => (Value.bool x))) b (fun W1 v4 R2 b z => VE (uf (P := pg0) (fun (x : gl) => (.agg (gn x).toArray)) (gI 108 gp 9) b (fun W5 v8 R6 b B => VE (uf (P := pg0) Value.string (gI 108 gp 9) b (fun W9 O Y b t => ?_))))))))))
 obtain ⟨a, rfl⟩ := z.form
 obtain ⟨c, rfl⟩ := B.form
 obtain ⟨g, rfl⟩ := t.form
 refine V (ko (v := (.agg #[(.map (some a)), (.slice none 0 0), (.map (some c)), (.map (some g)), (.slice none 0 0), (.int .i64 0)])) (xF rfl rfl rfl) (jq zeroValue174 cP (Fv _ cP) kr)) (VE (iP b rfl (fun L k b => Wa (lr (Wm (Wm (bS hm fun c2 K hm => ?_)))))))
 refine VE (eM b (Cb Pz (Cr (Qr (Qr Qz)) (C0 (Cr (Qr Qz) (Cr Qz (C0 Cn)))))) call109 (fun A h => (uN k (.map (some a)) ([]) R2 (.slice none 0 0) ([]) [] (.map (some c)) ([]) R6 (.map (some g)) ([]) Y (.slice none 0 0) ([]) [] 0 j H _ _ A z (gI.nil _ _ _) B t (lk.nil _ _ _) (J.mono (Pl.mono _) h) K)) ?_)
 rintro _ R W I b E m d ⟨Z, q, a2, a3, a4, s, a5, i, rfl, M, N, Q, T, U⟩
 obtain rfl := i.symm
 replace b := b.perm (Tb (Tr (Tr (Tr (Tr (Tr Tn))))))
 refine lr (Wm (Wa (lt ?_)))
 obtain rfl := sj hm
 exact ij (v := (.pointer (some ⟨k, 0, none⟩))) rfl rfl ⟨_, _, rfl, (b.yG (Kb (Kr (Kr (Kr (Kr (Kr Sn))))))), k, (.map (some a)), Z, q, a2, (.map (some c)), a3, (.map (some g)), a4, s, a5, rfl, rfl, M, N, Q, T, U⟩
theorem ng (a : Value) (g : List (gl × gx)) (r : Unit) (w : World) (c : lz (fun (x : gl) => (.agg (gn x).toArray)) (fun (x : gx) => (Value.agg (gw x).toArray)) (hp w) a g) (hm : jr g = some r) :
  ir true pg0 55 [a] w [] (fun v k W' => ∃ i, v = (.func (.func 123) #[] #[(.pointer (some ⟨i, 0, none⟩))]) ∧ k = ((i, Ob #[a] 110) :: [])) := by
 refine oE 4 func55 rfl (fun b => sg ?_)
 obtain ⟨t, rfl⟩ := c.form
 refine VE (iP b rfl (fun u j b => Wa (lr (V (rf (by exact ur rfl) rfl) (Wa (lt ?_))))))
 obtain rfl := sj hm
 exact ij (v := (.func (.func 123) #[] #[(.pointer (some ⟨j, 0, none⟩))])) rfl rfl ⟨_, _, rfl, (b.yG (Kb Sn)), j, rfl, rfl⟩
theorem Bh (c : Value) (k : List gx) (a : LO) (g : Value) (t : (gx × gx) → Option Int) (r : List gx) (w : World) {y : gT} (u : pN y (a ++ []) w) (i : gI 30 gw 5 c k a) (j : xh pg0 g y (fun (x : (gx × gx)) => [(.agg (gw x.1).toArray), (.agg (gw x.2).toArray)]) (fun (r : Int) => (.int .i64 r)) t) (hm : qy t k = some r) :
  ir true pg0 122 [c, g] w (a ++ []) (fun v z W' => ∃ S, v = (.tuple #[]) ∧ z = (S ++ []) ∧ gI 30 gw 5 c r S) := wm (P := pg0) (ρ := Ci) Ff 5 cU aU gw kV jO u.H u.S i j hm
theorem vg (a c : gx) (r : Int) (w : World) (hm : iR a c = some r) :
  iC true pg0 56 [(.agg (gw a).toArray), (.agg (gw c).toArray)] w (.int .i64 r) := by
 refine cG 10 func56 rfl (fun b => sg (VE (iP b rfl (fun i t b => VE (iP b rfl (fun j u b => Wa (lr (Wf rz (VA b (Mt Mh) (gn a.gl) ah ae (Wf rz (VA b Mh (gn c.gl) ah ae (bS hm fun x g hm => ?_))))))))))))
 refine VE (Eg b call57 (tG a.gl c.gl _ _  g) (fun k b => Wa (ln ?_)))
 exact iq (rQ hm b)
theorem Cw {σ κ : Type} {t : κ → Value} (b : Nat) (mv yv : Value) (l : List (κ × gx)) (i : σ → List (Nat × Obj) → Prop) (fs : σ → gx → Option (Bool × σ)) (u : σ) (g : List (Nat × Obj)) (w : World) {a : gT} (N : pN a g w) (T : a b = some (.cells #[mv] 110 (0, 0))) (hm : lz t (fun x => Value.agg (gw x).toArray) a mv l) (hy : wO pg0 yv a i (fun x => [.agg (gw x).toArray]) (fun b => .bool b) fs) (Z : i u g) (G : ∀ o, o.Perm (l.map (·.2)) → ∃ A, qW fs u o = some A) :
  ir false pg0 123 [yv, .pointer (some ⟨b, 0, none⟩)] w g (fun v R' _ => v = .tuple #[] ∧ ∃ o A, o.Perm (l.map (·.2)) ∧ qW fs u o = some A ∧ i A R') := by
 have d : ST false (keys g) w w a g := ST.Co N
 refine cF 15 func123 rfl (gH (gE (V (gu rfl (kT d.has (y := mv) ⟨b, 0, _, _, _, rfl, T, fun j y hj => by simpa using hj⟩ isAgg110)) (VE (D1 underlying110 d rfl hm (fun W K M d O => gM (gC (ji (lT (fun m E W => ∃ (μ : gT) (done : List gx) (s : σ) (R L : List (Nat × Obj)) (lf : List (κ × gx)) (Ri : List (Nat × Obj)), m = lf.length ∧ ig a μ ∧ ST false (keys g) w W μ (R ++ (Ri ++ L)) ∧ E 0 = yv ∧ E 6 = K ∧ wP t (fun x => Value.agg (gw x).toArray) a K lf Ri ∧ i s R ∧ (∀ o, qW fs u (done ++ o) = qW fs s o) ∧ (done ++ lf.map (·.2)).Perm (l.map (·.2))) _ ⟨a, [], u, g, [], l, M, rfl, ig.refl _, d.perm (by rw [aX]; exact cH), rfl, rfl, O, Z, fun o => rfl, .refl _⟩ ?_)))))))))
 rintro m E W ⟨μ, done, s, R, L, lf, Ri, rfl, hs, d, I, D, O, Z, n, hP⟩
 refine gH (gE (VE (D7 R d (fun b o T => d.mem b o (hs b o T)) O D (fun U => ?_) (fun W B p k z d hA => ?_))))
 ·subst U
  refine V (oD (v := .bool false) rfl rfl) (gM (gC (gH (mw rfl (oy (nB (nB (sv (CV (nt rfl ⟨_, R, rfl, ST.yY d, rfl, done, s, by simpa using hP, ?_, Z⟩))))))))))
  have := n []
  rwa [aX] at this
 ·refine V (oD (v := .bool true) rfl rfl) (gM (gC (gH (qp rfl (ic (gC (ji (gH (gE (V (CL (fun q hq => (d.box q.1 q.2 (bB _ (aS _ hq))).1) (fun b o T => d.mem b o (hs b o T)) hA D) (V (oD (v := .agg (gw p.2).toArray) rfl rfl) (VE (iw d bE (fun W H d => VO (vR [] (.agg (gw p.2).toArray) ((gw p.2).toArray) d rfl rfl aU (jO p.2) nb rfl (fun W d => gM (gC (gH (gE (V (gy I) (V (gu rfl (gD d.has (.head _) (gw p.2) rfl cU aU)) ?_)))))))))))))))))))))
  have P : (done ++ p.2 :: k.map (·.2)).Perm (l.map (·.2)) := (aY done (z.map (fun q : κ × gx => q.2))).symm.trans hP
  have J : ∃ r, fs s p.2 = some r := by
   obtain ⟨A, Y⟩ := G _ P
   rw [n] at Y
   cases h : fs s p.2 with
   | none => simp [qW, h] at Y
   | some r => exact ⟨r, rfl⟩
  obtain ⟨r, hr⟩ := J
  refine VY (Fe s p.2 (R := R) ((H, .cells (gw p.2).toArray 30 (0, 0)) :: (B ++ L)) d (by exact (cJ (l₁ := R)).symm) hy hs Z rfl (by exact ur rfl) hr (fun W μ' R' d hle _ Q => V (mZ rfl) (gM (gC ?_))))
  obtain ⟨c, A⟩ := r
  cases c with
  | false =>
   refine qp rfl (iq (jU (iv (jU (nt rfl ⟨_, R', rfl, ST.yY d, rfl, done ++ p.2 :: k.map (·.2), A, P, ?_, Q⟩)))))
   rw [n]; simp only [qW, hr]
  | true =>
   refine mw rfl (ic (gU (gC ⟨k.length, by simp [z.length_eq], μ', done ++ [p.2], A, R', (H, .cells (gw p.2).toArray 30 (0, 0)) :: L, k, B, rfl, hs.trans hle, d.perm (aY R' (cJ (l₁ := B)).symm), I, D, hA.iter, Q, fun o => ?_, ?_⟩)))
   ·rw [ay, n]; simp only [dx, qW, hr]
   ·rw [ay]; exact P
theorem BS {κ : Type} {g : κ → Value} (b : Nat) (mv : Value) (l : List (κ × gx)) (w : World) (hb : hp w b = some (.cells #[mv] 110 (0, 0))) (hm : lz g (fun x => Value.agg (gw x).toArray) (hp w) mv l) (J : l.length * 56 ≤ 140737488355328) (K : l.length ≤ maxLen) :
  ir false pg0 184 [.slice none 0 0, .func (.func 123) #[] #[.pointer (some ⟨b, 0, none⟩)]] w [] (fun v R _ => ∃ o, o.Perm (l.map (·.2)) ∧ gI 30 gw 5 v o R) := by
 have h := ST.start (dd := false) w
 refine z6 (n := 13) func184 rfl rfl nb (AQ (gE (VE (iP h rfl (fun W i h => V (kc rfl) (gM (gC (Fj (AQ (gE (V (gy rfl) (gM (gC (B4 (B0 (caps := #[.pointer (some ⟨b, 0, none⟩)]) h rfl call123 (fun L d Lp W E h => ?_))))))))))))))))
 have hy : wO pg0 (.func (.yield L) #[] #[]) (hp w) (CT L Lp (fun (xs : List gx) R => ∃ v q, R = (i, .cells #[v] 25 (0, 0)) :: q ∧ gI 30 gw 5 v xs q) (fun (_ : Empty) _ => False)) (fun x => [.agg (gw x).toArray]) (fun b => .bool b) (vK (A7 gx 56)) := by
  refine D8 E (fun _ => rfl) (by decide) (fun W s x r u hs U hf h => ?_)
  obtain ⟨v, q, rfl, Z⟩ := U
  obtain ⟨xs, P, rfl⟩ := Option.map_eq_some_iff.1 hf
  generalize yo L = M
  refine gE (VE (iw h bE (fun k I h => VO (vR [] (.agg (gw x).toArray) ((gw x).toArray) h rfl rfl aU (jO x) nb rfl (fun k h => gM ⟨rfl, _, _, ig.refl _, h.perm (List.Perm.swap _ _ _), fun G h => ji (gE (V (gu rfl (gL h.has (.tail _ (.tail _ (.head _))) rfl isAgg25)) (V (gu rfl (gD h.has (.tail _ (.head _)) (gw x) rfl cU aU)) (VE (gS (qs := #[(0, .agg (gw x).toArray)]) (cs := (gw x).toArray) h (kk rfl) (vS [.agg (gw x).toArray] bd aU bE (by decide) rfl (by intro v hv; simp only [ak, cc, dV] at hv; rcases hv with rfl <;> rfl) rfl rfl) (fun W t h => VE (wL (enc := gw) (v := v) (vs := (.slice (some ⟨t, 0, none⟩) 1 1)) (R := q) (Y := []) [_, _, _, _] (by rw [aX]; exact h) kV (by decide) jO bd rl.1 rl.2.1 rfl rl.2.2.1 rl.2.2.2 rfl rfl Z (Sl.lit (enc := gw) (l := [x]) kV rfl nb rfl (h.at_ (.head _))) P (fun W N j h a => ?_))))))))⟩)))))
  obtain ⟨A, c, rfl⟩ := a.form
  exact VO (vR [_, _, _] (.slice A xs.length c) #[.slice A xs.length c] h rfl rfl sizeOf25 (by simp [Value.cells, Value.oneCell']) (aJ 1) rfl (fun W h => gM (gU ⟨rfl, _, _, _, h, Db (Kb (Db (Kb ⟨[], .refl _⟩))), _, j, rfl, a⟩)))
 have Q : ∀ {x y z : Nat × Obj}, ([x, y, z] : List (Nat × Obj)).Perm ([x, z] ++ [y]) := (List.Perm.swap _ _ _).cons _
 have a1 := Cw b mv (.func (.yield L) #[] #[]) l _ _ (.inl [] : List gx ⊕ Empty) [_, _] W ⟨h.held Q, h.Dd Q, h.C6 Q⟩ hb hm hy ⟨_, rfl, _, [], rfl, gI.nil _ _ _⟩ (fun o T => ⟨_, wY (l := l.map (·.2)) (by rwa [bN]) (by rwa [bN]) o [] (by rw [bw]; exact Nat.le_of_eq T.length_eq)⟩)
 refine bG a1 ?_
 rintro e H ⟨v, R', rfl, hB, rfl, o, s', T, hi, U⟩
 rw [wY (l := l.map (·.2)) (by rwa [bN]) (by rwa [bN]) o [] (by rw [bw]; exact Nat.le_of_eq T.length_eq)] at hi
 obtain rfl := gb hi
 obtain ⟨D, rfl, v, q, rfl, Z⟩ := U
 have p := (h.perm Q).back hB
 refine ⟨⟨_, rfl⟩, Lp, (p.box L _ (.head _)).1, by rw [E.st]; simp, .inl ⟨E.pe, ?_⟩⟩
 have m := ST.setBlock (A := []) p (.loop { Lp with state := .exhausted })
 refine gU (gC ?_)
 generalize Cu [{ target := .collected d, args := #[] }] = M
 refine gH (gE (V (gu rfl (gL m.has (.tail _ (.head _)) rfl isAgg25)) (V (kc rfl) (gM (gC (iq ?_))))))
 have O := ST.setBlock (A := (L, _) :: (i, _) :: q) (B := []) m (.deferred none)
 exact .inr ⟨d, rfl, (m.box d _ (.tail _ (.tail _ (bB _ (.head _))))).1, ij rfl rfl ⟨_, q, rfl, O.yG (Db (Db ⟨[_], .refl _⟩)), o, T, Z⟩⟩
theorem B6 {κ : Type} {a : κ → Value} (b : Nat) (h : Value) (l : List (κ × gx)) (w : World) (m : hp w b = some (.cells #[h] 110 (0, 0))) (hm : lz a (fun x => Value.agg (gw x).toArray) (hp w) h l) (g : l.length * 56 ≤ 140737488355328) (i : l.length ≤ maxLen) :
  ir false pg0 121 [.func (.func 123) #[] #[.pointer (some ⟨b, 0, none⟩)]] w [] (fun v R _ => ∃ o, o.Perm (l.map (·.2)) ∧ gI 30 gw 5 v o R) := by
 have d := ST.start (dd := false) w
 refine cF 5 func121 rfl (gH (gE (V (kc rfl) (gM (gC (gH (gE (V (gy rfl) (VE (wo d (.refl _) call184 (fun _ _ _ _ => BS b h l _ m hm g i) (fun W v μ c d hle _ _ j => ?_) (L0 := [])))))))))))
 obtain ⟨o, n, k⟩ := j
 exact V (kc rfl) (gM (gC (iq (ij rfl rfl ⟨_, c, rfl, d.yG ⟨[], .refl _⟩, o, n, k⟩))))
theorem Bx {κ : Type} {c : κ → Value} (b : Nat) (n g : Value) (a : gx × gx → Option Int) (l : List (κ × gx)) (r : List gx) (w : World) (q : hp w b = some (.cells #[n] 110 (0, 0))) (hm : lz c (fun x => Value.agg (gw x).toArray) (hp w) n l) (s : xh pg0 g (hp w) (fun (x : gx × gx) => [(.agg (gw x.1).toArray), (.agg (gw x.2).toArray)]) (fun (r : Int) => (.int .i64 r)) a) (E : vN 56 a l = some r) :
  iz false pg0 54 [.func (.func 123) #[] #[.pointer (some ⟨b, 0, none⟩)], g] w 30 gw 5 r := by
 obtain ⟨k, t, y⟩ := A8 E
 have d := ST.start (dd := false) w
 refine cF 12 func54 rfl (gH (gE (V (kc rfl) (gM (gC (gH (gE (V (gy rfl) (VE (wo d (.refl _) call121 (fun _ _ _ _ => B6 b n l _ q hm k t) (fun W v μ i d hle _ _ h => ?_) (L0 := [])))))))))))
 obtain ⟨o, A, j⟩ := h
 refine V (kc rfl) (gM (gC (gH (gE (V (gy rfl) (V (gy rfl) (VE (wo d (perm_nil _) call122 (fun hH p m _ => ir.kC (Bh v o i g a r W ⟨hH, p, m⟩ j (s.mono hle) (y o A))) (fun W u D B d z _ _ h => ?_) (L0 := (i ++ []))))))))))
 obtain ⟨S, rfl, rfl, j⟩ := h
 exact gM (gC (gH (gE (V (gy rfl) (V (kc rfl) (gM (gC (iq (ij rfl rfl ⟨_, S, rfl, d.yG ⟨[], by simp⟩, j⟩)))))))))
theorem ph (R : Value) (a0 : List gm) (r : List gx) (w : World) (f5 : Sl (Pl gp) 9 (hp w) R a0) (hm : jT a0 = some r) :
  iz false pg0 12 [R] w 30 gw 5 r := by
 refine oE 58 func12 rfl (fun d => sg (Wa (lr (Wm (bS hm fun r1 k6 hm => VE (lB d call51 (rZ R a0 _ _ (f5.mono (Pl.mono _) d.iG) k6) (fun W3 v7 ba R8 d j6 aE e4 => Wm (bS hm fun y j7 hm => ?_))))))))
 refine VE (wo d (dr _) call47 (fun _ _ _ _ => (By R a0 _ _ (f5.mono (Pl.mono _) (j6.trans d.iG)) j7)) (fun o0 o2 j3 n9 d m8 av q j4 => ?_) (L0 := []))
 obtain ⟨K, c3, d2, c4, d3, c5, d4, c6, d5, c7, d6, c8, rfl, j8, j9, k0, k1, k2⟩ := j4
 replace c8 := c8.symm; subst c8
 replace d := d.perm (Tb (Tr (Tr (Tr (Tr (Tr Tn))))))
 refine Wa (Wa (lr (VE (ry (P := pg0) (fun (x : gl) => (.agg (gn x).toArray)) (fun (x : gx) => (Value.agg (gw x).toArray)) d (fun o1 Y k5 d j5 => Wa (lS (Wm (V (iu ai rfl e4) ?_))))))))
 refine Wm (ln (im (fun i E W => ∃ u J O b3, (E 18 = .int .i64 (i : Nat) ∧ E 17 = .int .i64 (r1.length : Nat)) ∧ ig j3 O ∧ ST false gN w W O ((K, Ob #[c3, c4, c5, c6, c7, (.int .i64 y.2.2.2.2.2)] 174) :: (J ++ (d2 ++ (d3 ++ (d4 ++ (d5 ++ (d6 ++ (R8 ++ b3)))))))) ∧ E 4 = (.pointer (some ⟨K, 0, none⟩)) ∧ E 5 = Y ∧ E 16 = v7 ∧ gV (fun (x : gl) => (.agg (gn x).toArray)) (fun (x : gx) => (Value.agg (gw x).toArray)) Y u J ∧ kK y (r1.drop i) u = some r) r1.length e4.len ⟨([]), k5, j3, _, ⟨rfl, rfl⟩, (ig.refl _), (d.gq (Sb (Pr Pz) St)), rfl, rfl, rfl, j5, hm⟩ dc dc dc (fun _ _ _ h => by obtain ⟨_, _, _, _, n, _⟩ := h; exact n) ?_ ?_))
 ·let i9 : Value := (.pointer (some ⟨K, 0, none⟩))
  let h5 := (#[c3, c4, c5, c6, c7, (.int .i64 y.2.2.2.2.2)] : Array Value)
  rintro a6 E W f7 ⟨u, J, O, b3, ⟨m, s⟩, b2, d, d9, b5, b6, Q, g⟩
  obtain ⟨H, k7, g8, c1, g9⟩ := hX f7
  rw [g8] at g
  refine bg (VQ (ie (i := (a6 : Int)) (x0 := H) ai ag b6 m e4 (aj _) c1) (fun m9 g1 => V (gu rfl (je d.has (fun p l => (Mt (Ma (Ma (Ma (Ma (Ma (Ma (Ml l))))))))) e4 ia g1 c1 aM ag)) (VE (iw d aT (fun l1 m6 d => VO (gO (.agg (gp H).toArray) ((gp H).toArray) d rfl rfl ag (js H) nb rfl (fun l2 d => lr (VA d Mh (gp H) aM ag (bS g fun L g3 g => VE (lB d call52 (iz.kC (vE H _ _  g3)) (fun l3 e7 b9 d1 d e8 ab N => V (iu aO rfl N) ?_)))))))))))
  let j2 : Value := (.int .i64 (a6 : Int))
  let j1 : Value := (.int .i64 (r1.length : Int))
  refine Wm (ln ?_)
  replace d := d.gq (Kr (Db St))
  refine nH (CJ g (fun b7 E W => ∃ Z a9 c9, ig b9 a9 ∧ ST false gN w W a9 ((K, Obj.cells h5 174 (0, 0)) :: (Z ++ (d2 ++ (d3 ++ (d4 ++ (d5 ++ (d6 ++ (R8 ++ c9)))))))) ∧ E 4 = i9 ∧ E 5 = Y ∧ E 16 = v7 ∧ E 17 = j1 ∧ E 18 = j2 ∧ gV (fun (x : gl) => (.agg (gn x).toArray)) (fun (x : gx) => (Value.agg (gw x).toArray)) Y b7 Z) (fun b7 g0 => ?_) ?_)
  ·refine im (fun i E W => ∃ c D I b4, (E 25 = .int .i64 (i : Nat) ∧ E 24 = .int .i64 (L.length : Nat)) ∧ ig b9 I ∧ ST false gN w W I ((K, Obj.cells h5 174 (0, 0)) :: (D ++ (d1 ++ (d2 ++ (d3 ++ (d4 ++ (d5 ++ (d6 ++ (R8 ++ b4))))))))) ∧ E 4 = i9 ∧ E 5 = Y ∧ E 16 = v7 ∧ E 17 = j1 ∧ E 18 = j2 ∧ E 23 = e7 ∧ gV (fun (x : gl) => (.agg (gn x).toArray)) (fun (x : gx) => (Value.agg (gw x).toArray)) Y c D ∧ jW y (L.drop i) i c = some b7) L.length N.len ⟨u, J, b9, _, ⟨rfl, rfl⟩, (ig.refl _), (d.gq (Sb (Pr Pz) (Sr (Qr Qz) St))), d9, b5, b6, s, m, rfl, Q, g0⟩ dc dc dc (fun _ _ _ h => by obtain ⟨_, _, _, _, n, _⟩ := h; exact n) ?_ ?_
   ·rintro e5 E W f8 ⟨c, D, I, b4, ⟨m, s⟩, U, d, A, M, a2, a3, a4, a5, T, t⟩
    obtain ⟨a, k8, h0, c2, h1⟩ := hX f8
    let f1 := (iW gz c a K8)
    rw [h0] at t
    refine bg (Wh m (VQ (ie (i := (e5 : Int)) (x0 := a) aO ae a5 m N (aj _) c2) (fun n0 g2 => V (gu rfl (je d.has (fun p l => (Mt (Ma (Ml l)))) N kP g2 c2 ah ae)) (VE (iw d bt (fun l4 d7 d => Wa (VO (gO (.agg (gn a).toArray) ((gn a).toArray) d rfl rfl ae (kX a) nb rfl (fun l5 d => lr (Wh M (VA d Mh (gn a) ah ae ?_)))))))))))
    refine V (oB (k := a) (z := K8) (vf := (fun (x : gx) => (Value.agg (gw x).toArray))) oh underlying110 bE rfl rfl (T.at (fun b o l => d.has.2 b o (Mt (Mt (Ml l)))))) (VE (iw d bE (fun l6 d8 d => VO (gO (.agg (gw f1).toArray) ((gw f1).toArray) d rfl rfl aU (jO f1) nb rfl (fun l7 d => lr (VA d (Mt Mh) (gn a) ah ae (Wf rz (VO (gO (.agg (gn a).toArray) ((gw (⟨a, f1.ke, f1.jg, f1.oI⟩ : gx)).toArray) d rfl rfl ae (kX a) nb rfl (fun l8 d => ln (gH (CJ t (fun e6 E W => ∃ d0, ST false gN w W I ((d8, Ol (gw e6) 30) :: ((d7, Ol (gn a) 28) :: ((K, Obj.cells h5 174 (0, 0)) :: (D ++ (d1 ++ (d2 ++ (d3 ++ (d4 ++ (d5 ++ (d6 ++ (R8 ++ d0))))))))))) ∧ E 4 = i9 ∧ E 5 = Y ∧ E 9 = (.pointer (some ⟨d7, 0, none⟩)) ∧ E 10 = (.pointer (some ⟨d8, 0, none⟩)) ∧ E 16 = v7 ∧ E 17 = j1 ∧ E 18 = j2 ∧ E 23 = e7 ∧ E 24 = (.int .i64 (L.length : Int)) ∧ E 25 = (.int .i64 (e5 : Int))) (fun e6 B => ?_) ?_))))))))))))
    ·refine sg (Wm (Wi rfl (ln (CI B rfl (fun f6 B => ?_) (fun f6 B => ?_)))))
     ·refine gE (Wf sn (VB d Mh rfl rfl bj (Wi rfl (Wf sn (VO (gO (.int .i64 (wi0 .i64 ((f1.ke) + 1))) ((gw (⟨a, (wi0 .i64 ((f1.ke) + 1)), f1.jg, f1.oI⟩ : gx)).toArray) d rfl rfl dL (sG _ (wi0 .i64 ((f1.ke) + 1))) nb rfl (fun m2 d => ln ?_)))))))
      obtain rfl := sj B
      exact ⟨_, (d.gq St), A, M, rfl, rfl, a2, a3, a4, a5, s, m⟩
     refine gE (Wf oR (VB d Mh rfl rfl bj (Wi rfl (Wf oR (VO (gO (.int .i64 (wi0 .i64 ((f1.jg) + 1))) ((gw (⟨a, f1.ke, (wi0 .i64 ((f1.jg) + 1)), f1.oI⟩ : gx)).toArray) d rfl rfl dL (sG _ (wi0 .i64 ((f1.jg) + 1))) nb rfl (fun m3 d => ln ?_)))))))
     obtain rfl := sj B
     exact ⟨_, (d.gq St), A, M, rfl, rfl, a2, a3, a4, a5, s, m⟩
    rintro j E W ⟨d0, d, e0, e1, e2, e3, i1, i2, i3, i4, i5, i6⟩ b0
    refine sg (Wh e0 (V (gu e2 (gD d.has (Mt Mh) (gn a) rfl ah ae)) (bS b0 fun G g4 b0 => VE (lB d call53 (ot K c3 y.1 c4 y.2.1 c5 y.2.2.1 c6 y.2.2.2.1 c7 y.2.2.2.2.1 y.2.2.2.2.2 a _ _ (j8.at (fun b o l => d.at_ (Mt (Mt (Mt (Ma (Ma (Ml l)))))))) (j9.sl ia (fun b o l => d.at_ (Mt (Mt (Mt (Ma (Ma (Ma (Ml l))))))))) (k0.at (fun b o l => d.at_ (Mt (Mt (Mt (Ma (Ma (Ma (Ma (Ml l)))))))))) (k1.at (fun b o l => d.at_ (Mt (Mt (Mt (Ma (Ma (Ma (Ma (Ma (Ml l))))))))))) ((k2.vA kD).mono (Pl.mono _) (pt (fun b o l => d.at_ (Mt (Mt (Mt (Ma (Ma (Ma (Ma (Ma (Ma (Ml l))))))))))))) (At.of (d.at_ (Mt (Mt Mh))) _ rfl) g4) (fun l9 n3 j0 l0 d f0 ad f3 => V (iu az rfl f3) (V (gA Eu e3) ?_))))))
    let h4 := (⟨j.gl, j.ke, j.jg, (G.length : Int)⟩ : gx)
    replace d := d.perm (Nb (Pr Pz) Nz)
    refine VO (gO (.int .i64 (G.length : Int)) ((gw h4).toArray) d rfl rfl dL (sG _ (G.length : Int)) nb rfl (fun m0 d => ln ?_))
    replace d := d.gq (Kb (Dr St))
    refine gE (Wh e1 (V (gu e2 (gD d.has (Mt Mh) (gn a) rfl ah ae)) (V (gu e3 (gD d.has Mh (gw h4) rfl cU aU)) ?_)))
    replace d := d.perm (Nr (Qb (Qb (Qb Qz))) Nz)
    refine VO (we (k := a) (v := h4) (vf := (fun (x : gx) => (Value.agg (gw x).toArray)))  oh underlying110 d T rfl rfl rfl (fun m1 h2 d f4 => gM (gU (gC ?_))))
    replace d := d.gq (Kr (Db (Db St)))
    exact ⟨i6, (iQ gz c a h4), h2, j0, _, ⟨rfl, i5⟩, (U.trans f0), (d.gq (Sb (Pr Pz) St)), e0, e1, i1, i2, i3, i4, f4, (by rw [h1]; exact b0)⟩
   rintro E W ⟨c, D, I, b4, ⟨m, s⟩, U, d, A, M, a2, a3, a4, a5, T, t⟩
   rw [au] at t
   refine gC ?_
   obtain rfl := sj t
   exact ⟨D, I, _, U, (d.gq (Kb (Kr (Dr St)))), A, M, a2, a3, a4, T⟩
  rintro i7 E W ⟨Z, a9, c9, e9, d, h6, h7, h8, h9, i0, g7⟩ f9
  exact gU (gC ⟨i0, i7, Z, a9, _, ⟨rfl, h9⟩, ((b2.trans e8).trans e9), (d.gq St), h6, h7, h8, g7, (by rw [g9]; exact f9)⟩)
 rintro E W ⟨u, J, O, b3, ⟨m, s⟩, b2, d, d9, b5, b6, Q, g⟩
 rw [au] at g
 refine gC ?_
 replace d := d.gq (Db (Kr (Dr (Dr (Dr (Dr (Dr (Dr St))))))))
 refine sg (Wh b5 (bS g fun n1 g5 g => ?_))
 refine VE (wo d (dr _) call55 (fun _ _ _ _ => ir.kC (ng Y u _ _ (Q.at (fun b o l => d.at_ (Ml l))) g5)) (fun m4 n4 n5 k9 d k3 af q f2 => ?_) (L0 := []))
 obtain ⟨m7, b1, rfl⟩ := f2
 replace b1 := b1.symm; subst b1
 replace d := d.perm (Tb Tn)
 refine bS g fun n2 g6 g => VE (lB d call54 (Bx _ _ (.func (.func 56) #[] #[]) (fun (x : (gx × gx)) => iR x.1 x.2) u _ _ (d.has.2 _ _ Mh) (Q.at (fun b o l => d.has.2 b o (Mt (Ml l)))) ⟨56, #[], rfl, call56, fun W x r hs hm => vg x.1 x.2 r W  hm⟩ g6) (fun m5 i8 n6 h3 d k4 ao c0 => Wa (ln ?_)))
 replace d := d.gq (Kr (Db (Dr St)))
 refine iq ?_
 obtain rfl := sj g
 exact ij (v := i8) rfl rfl ⟨_, h3, rfl, d.jd (fun p l => (Ml l)) c0.nd, c0⟩
theorem si (B : Value) (M : List gm) (r : (gx × Bool)) (w : World) (N : Sl (Pl gp) 9 (hp w) B M) (hm : nr M = some r) :
  iC false pg0 14 [B] w (.tuple #[(.agg (gw r.1).toArray), (.bool r.2)]) := by
 let a0 : Value := (.agg (gw K8).toArray)
 refine cG 32 func14 rfl (fun b => sg (VE (iw b bE (fun W2 q b => Wa (lr (Wm (bS hm fun o a4 hm => VE (lB b call12 (ph B M _ _ (N.mono (Pl.mono _) b.iG) a4) (fun W5 v9 R c2 b b6 P t => Wa (ln ?_))))))))))
 refine gH (sg (Wm (V (iu bd rfl t) (Wi rfl (ln (CI hm rfl (fun Q hm => ?_) (fun Q hm => ?_)))))))
 ·refine sg (V (ko (v := a0) vm (jq bE bK (zM _ bK) kr)) ?_)
  replace b := b.perm (Nb (Pr Pz) Nz)
  refine VO (gO a0 ((gw K8).toArray) b rfl rfl aU (jO K8) nb rfl (fun c3 b => Wa (ln ?_)))
  replace b := b.gq (Kb (Dr St))
  refine iq (iv ?_)
  obtain rfl := sj hm
  exact AS (v0 := a0) (v1 := (.bool false)) rfl rfl (gD b.has Mh (gw K8) rfl cU aU) rfl ⟨rfl, b.ex⟩
 refine kg (Wm (bS hm fun x z hm => VQ (ie (i := 0) (x0 := x) bd aU rfl rfl t (iD z) (hZ z)) (fun c6 U => V (gu rfl (je b.has (fun p n => (Ml n)) t kV U (hZ z) cU aU)) (VE (iw b bE (fun c4 K b => VO (gO (.agg (gw x).toArray) ((gw x).toArray) b rfl rfl aU (jO x) nb rfl (fun c5 b => lS ?_))))))))
 refine Wm ?_
 replace b := b.perm (Nr (Qb Qz) Nz)
 have b5 := t.ES b (fun p n => (Ml n))
 obtain ⟨O, b, a8, s, Y⟩ := ST.zZ b t kV
 refine bS hm fun _ G hm => VQ (tA (i := 1) bd aU rfl rfl Y (pZ G) (pW G)) (fun L y => V (kF bd rfl y.1) (Wm (ln (im (fun i E W => ∃ c D, (E 20 = .int .i64 (i : Nat) ∧ E 19 = .int .i64 ((o.drop (Int.toNat 1)).length : Nat)) ∧ ST false gN w W O ((K, Ol (gw c) 30) :: ((q, Ol (gw K8) 30) :: D)) ∧ E 2 = (.pointer (some ⟨q, 0, none⟩)) ∧ E 5 = (.pointer (some ⟨K, 0, none⟩)) ∧ E 18 = L ∧ kW ((o.drop (Int.toNat 1)).drop i) c = some r) (o.drop (Int.toNat 1)).length y.1.len ⟨x, _, ⟨rfl, rfl⟩, (b.gq St), rfl, rfl, rfl, hm⟩ dc dc dc (fun _ _ _ h => by obtain ⟨_, _, l, _⟩ := h; exact l) ?_ ?_))))
 ·rintro a5 E W T ⟨c, D, ⟨d, m⟩, b, k, j, u, a⟩
  obtain ⟨g, c1, A, Z, H⟩ := hX T
  rw [A] at a
  refine bg (VQ (iZ (enc := gw) (i := (a5 : Int)) (x0 := g) bd aU u d y.1 (aj _) Z) (fun b7 J => V (gu rfl (jM b.has J cU aU)) (VE (iw b bE (fun a9 b4 b => VO (gO (.agg (gw g).toArray) ((gw g).toArray) b rfl rfl aU (jO g) nb rfl (fun b0 b => lr (Wf oR (VB b Mh rfl rfl bj (V (gA oR j) (VB b (Mt Mh) rfl rfl bj ?_)))))))))))
  refine Wi rfl (ln (CI a rfl (fun I a => ?_) (fun I a => ?_)))
  ·refine gE (VA b Mh (gw g) cU aU ?_)
   replace b := b.perm (Nb (Pb Pz) Nz)
   refine VO (gO (.agg (gw g).toArray) ((gw g).toArray) b j rfl aU (jO g) nb rfl (fun b2 b => gM (gU (gC ?_))))
   replace b := b.gq (Kb (Db St))
   exact ⟨d, g, _, ⟨rfl, m⟩, (b.gq St), k, j, u, (by rw [H]; exact a)⟩
  refine ic (gU (gC ?_))
  replace b := b.gq (Db St)
  exact ⟨d, c, _, ⟨rfl, m⟩, (b.gq St), k, j, u, (by rw [H]; exact a)⟩
 rintro E W ⟨c, D, ⟨d, m⟩, b, k, j, u, a⟩
 rw [au] at a
 refine gC (sg (V (gu j (gD b.has Mh (gw c) rfl cU aU)) ?_))
 replace b := b.perm (Nb (Pb Pz) Nz)
 refine VO (gO (.agg (gw c).toArray) ((gw c).toArray) b k rfl aU (jO c) nb rfl (fun b3 b => Wa (ln ?_)))
 replace b := b.gq (Kb (Db St))
 refine iq ?_
 obtain rfl := sj a
 exact AS (v0 := (.agg (gw c).toArray)) (v1 := (.bool true)) rfl k (gD b.has Mh (gw c) rfl cU aU) rfl ⟨rfl, b.ex⟩
theorem A9 (c : Value) (i : List ByteArray) (a : LO) (r : List ByteArray) (w : World) {t : gT} (k : pN t (a ++ []) w) (g : gI 9 iL 1 c i a) (hm : vQ i = some r) :
  ir true pg0 182 [c] w (a ++ []) (fun v j W' => ∃ S, v = (.tuple #[]) ∧ j = (S ++ []) ∧ gI 9 iL 1 c r S) := Aq (P := pg0) (ρ := BQ) CD k.H g hm
theorem sI (j : Value) (a0 : List ByteArray) (x : LO) (r : List ByteArray) (w : World) {μ0 : gT} (h0 : pN μ0 (x ++ []) w) (D : gI 9 iL 1 j a0 x) (hm : kR a0 = some r) :
  ir true pg0 239 [j] w (x ++ []) (fun v L1 W' => ∃ y1 S2, v = y1 ∧ L1 = (S2 ++ []) ∧ gI 9 iL 1 y1 r S2) := by
 refine sN h0 61 func239 rfl (fun b => sg (Wa (lS (Wm (V (iu az rfl D) (Wi rfl (ln (CI hm rfl (fun g0 hm => ?_) (fun g0 hm => ?_)))))))))
 ·refine sg (Wm (Wa (lt (iv ?_))))
  obtain rfl := sj hm
  exact ij (v := j) rfl rfl ⟨_, _, rfl, (b.oa (Kr Sn)), j, x, rfl, rfl, D⟩
 refine kS (Wa (ln (ji (lT (fun m E W => ∃ t b5, ST true (keys (x ++ [])) w W μ0 (x ++ b5) ∧ E 0 = j ∧ E 3 = (.int .i64 t) ∧ jE a0 m t = some r) jj ⟨1, _, (b.gq St), rfl, rfl, hm⟩ ?_))))
 rintro m E W ⟨t, b5, b, G, I, a⟩
 cases m with
 | zero => rw [jE] at a; cases a
 | succ f5 =>
  refine gH (sg (Wh I (Wh G (V (iu az rfl D) (Wi rfl (ln (CI a rfl (fun d0 a => ?_) (fun d0 a => ?_))))))))
  ·refine kn (gH (ji (gH ?_)))
   replace b := b.drew
   have d := b.has.gq (Kr Sn)
   refine iy d gW (X 0 rfl d (gy G) (X 1 rfl d (gy I) (bS a fun c3 a2 a => XQ 2 rfl d (ie (i := t) (x0 := c3) az bU rfl rfl D (iD a2) (hZ a2)) (fun g5 d6 => XH 3 rfl d (fun _ l => gu rfl (oF l (fun p h => (Ml h)) D (fun _ => rfl) d6 (hZ a2) (y := (.string c3)) rfl aG)) (X 4 rfl d (gy G) (X 5 rfl d (gy I) (X 6 rfl d (iX rfl rfl rfl) (bS a fun c4 a3 a => XQ 7 rfl d (ie (i := (wi0 .i64 (t - 1))) (x0 := c4) az bU rfl rfl D (iD a3) (hZ a3)) (fun g6 d7 => XH 8 rfl d (fun _ l => gu rfl (oF l (fun p h => (Ml h)) D (fun _ => rfl) d7 (hZ a3) (y := (.string c4)) rfl aG)) (X 9 rfl d (lY rfl rfl rfl) (iI kr (gC ?_))))))))))))
   refine CI a rfl (fun d1 a => ?_) (fun d1 a => ?_)
   ·refine sg (Wh G (Wh I (bS a fun _ L a => VQ (pQ (i := t) az bU rfl rfl D (pZ L) (pW L)) (fun c1 N => Wa (lS (Wa (ln ?_)))))))
    refine CJ a (fun Y E W => ∃ s b6, ST true (keys (x ++ [])) w W μ0 (s ++ b6) ∧ E 0 = j ∧ E 3 = (.int .i64 Y.2) ∧ gI 9 iL 1 j Y.1 s) (fun Y d4 => ?_) ?_
    ·refine ji (lT (fun m E W => ∃ a9 M Z B b7, ST true (keys (x ++ [])) w W μ0 (M ++ b7) ∧ E 0 = j ∧ E 3 = (.int .i64 Z) ∧ E 4 = c1 ∧ E 5 = (.int .i64 B) ∧ gI 9 iL 1 j a9 M ∧ jF t m a9 Z B = some Y) jj ⟨a0, x, t, 1, _, (b.gq St), G, I, rfl, rfl, D, d4⟩ ?_)
     rintro m E W ⟨a9, M, Z, B, b7, b, T, U, J, K, g, k⟩
     cases m with
     | zero => rw [jF] at k; cases k
     | succ f6 =>
      refine gH (sg (Wh K (Wh J (V (yu az rfl N g) (Wi rfl (ln (CI k rfl (fun d2 k => ?_) (fun d2 k => ?_))))))))
      ·refine kn (gH (CJ k (fun A E W => ∃ Q b8, ST true (keys (x ++ [])) w W μ0 (Q ++ b8) ∧ E 0 = j ∧ E 3 = (.int .i64 A.2) ∧ E 4 = c1 ∧ E 5 = (.int .i64 B) ∧ gI 9 iL 1 j A.1 Q) (fun A c => ?_) ?_))
       ·refine ji (gH ?_)
        replace b := b.drew
        have d := b.has.gq (Kr Sn)
        refine iy d gW (X 0 rfl d (gy J) (X 1 rfl d (gy K) (bS c fun c6 a4 c => XQ 2 rfl d (pb (i := B) (x0 := c6) az bU rfl rfl g N (iD a4) (hZ a4)) (fun g7 d8 => XH 3 rfl d (fun _ l => gu rfl (oF l (fun p h => (Ml h)) g (fun _ => rfl) d8 (qg (hZ a4)) (y := (.string c6)) rfl aG)) (X 4 rfl d (gy J) (X 5 rfl d (gy K) (X 6 rfl d (iX rfl rfl rfl) (bS c fun c7 a5 c => XQ 7 rfl d (pb (i := (wi0 .i64 (B - 1))) (x0 := c7) az bU rfl rfl g N (iD a5) (hZ a5)) (fun g8 d9 => XH 8 rfl d (fun _ l => gu rfl (oF l (fun p h => (Ml h)) g (fun _ => rfl) d9 (qg (hZ a5)) (y := (.string c7)) rfl aG)) (X 9 rfl d (lY rfl rfl rfl) (iI kr (gC ?_))))))))))))
        refine CI c rfl (fun d3 c => ?_) (fun d3 c => ?_)
        ·refine sg (Wh T (Wh U (Wh J (Wh K (bS c fun n o c => VQ (pb (i := B) (x0 := n) az bU rfl rfl g N (iD o) (hZ o)) (fun g9 e0 => V (gu rfl (oF b.has (fun p h => (Ml h)) g (fun _ => rfl) e0 (qg (hZ o)) (y := (.string n)) rfl aG)) (bS c fun f8 q c => VQ (ie (i := Z) (x0 := f8) az bU rfl rfl g (iD q) (hZ q)) (fun h1 e1 => VO (ua (u := (.string n)) (x1 := n)  b g (fun _ => rfl) uk rfl rfl rfl e1 (hZ q) bU (fun g3 e8 b c9 => ln (gE ?_)))))))))))
         refine Wh U (Wi rfl (Wa (gM (gU (gC ?_)))))
         obtain rfl := sj c
         exact ⟨e8, _, (b.gq St), T, rfl, J, K, c9⟩
        refine ic (gU (gC ?_))
        obtain rfl := sj c
        exact ⟨M, _, (b.gq St), T, U, J, K, g⟩
       rintro ⟨f4, f7⟩ E W ⟨Q, b8, b, f0, f1, f2, f3, e4⟩ d5
       exact gE (Wh f3 (Wi rfl (Wa (ln ⟨f6, bn _, f4, Q, f7, (wi0 .i64 (B + 1)), _, (b.gq St), f0, f1, f2, rfl, e4, d5⟩))))
      refine oy (nB (nB (sv (gC ?_))))
      obtain rfl := sj k
      exact ⟨M, _, (b.gq St), T, U, g⟩
    rintro ⟨g4, c5⟩ E W ⟨s, b6, b, b9, c0, R⟩ H
    refine sg (Wh b9 (Wh c0 (bS H fun _ O H => VQ (pQ (i := c5) az bU rfl rfl R (pZ O) (pW O)) (fun h2 e2 => VO (tB (z := zS)  b R (fun _ => rfl) uk az ey e2 rfl rfl (fun g2 e7 b c8 => lr (Wh b9 (Wh c0 (bS H fun _ P H => VQ (vl (i := c5) az bU rfl rfl c8 (fun _ => rfl) (pZ P) (pW P)) (fun c2 e3 => ?_))))))))))
    refine Wa (lt (jU (iv (iv (jU (iv ?_))))))
    obtain rfl := sj H
    exact ij (v := c2) rfl rfl ⟨_, _, rfl, (b.oa (Kr Sn)), c2, e7, rfl, rfl, e3⟩
   exact ic (gU (gC (gE (Wh I (Wi rfl (Wa (ln ⟨f5, bn _, (wi0 .i64 (t + 1)), _, (b.gq St), G, rfl, a⟩)))))))
  refine oy (nB (nB (sv (gC (sg (Wh G (Wa (lt ?_))))))))
  obtain rfl := sj a
  exact ij (v := j) rfl rfl ⟨_, _, rfl, (b.oa (Kr Sn)), j, x, rfl, rfl, D⟩
theorem xa (H : Value) (J r : List ByteArray) (w : World) (G : Sl (Pl iL) 1 (hp w) H J) (hm : pC J = some r) :
  iz true pg0 188 [H] w 9 iL 1 r := by
 refine oE 23 func188 rfl (fun b => sg (Wa (lr (Wa (lS (Wm ?_))))))
 refine V (kF az rfl G) (Wm (ln (im (fun i E W => ∃ c t g D, (E 8 = .int .i64 (i : Nat) ∧ E 7 = .int .i64 (J.length : Nat)) ∧ ST true gN w W (hp w) (g ++ D) ∧ E 3 = c ∧ E 6 = H ∧ gI 9 iL 1 c t g ∧ mN (J.drop i) t = some r) J.length G.len ⟨(.slice none 0 0), ([]), [], _, ⟨rfl, rfl⟩, (b.gq St), rfl, rfl, (gI.nil _ _ _), hm⟩ dc dc dc (fun _ _ _ h => by obtain ⟨_, _, _, _, n, _⟩ := h; exact n) ?_ ?_)))
 ·rintro b7 E W P ⟨c, t, g, D, ⟨m, o⟩, b, j, u, x, a⟩
  obtain ⟨k, d0, b0, a9, K⟩ := hX P
  rw [b0] at a
  refine bg (VQ (iZ (enc := iL) (i := (b7 : Int)) (x0 := k) az bU u m G (aj _) a9) (fun c5 Y => V (gu rfl (kT b.has (y := (.string k)) Y aG)) (Wa (lr (Wm (bS a fun c6 Z a => VE (Eg b call177 (ol k _ _  Z) (fun c0 b => ln ?_))))))))
  refine CI a rfl (fun T a => ?_) (fun T a => ?_)
  ·refine gE (Wh j (Wm (VE (gS (cs := [(.string k)].toArray) b (kk rfl) (jB az bU ey) (fun c1 O b => ?_)))))
   replace b := b.perm (Nr (Qb Qz) Nz)
   refine bS a fun b1 U a => VE (jn (enc := iL) (v := c) (vs := (.slice (some ⟨O, 0, none⟩) 1 1)) (R := g) b (fun _ => rfl) dc uk az mH.1 mH.2.1 rfl mH.2.2.1 mH.2.2.2 rfl rfl x (Sl.lit (enc := iL) (l := [k]) (fun _ => rfl) rfl nb rfl (b.at_ (Ma Mh))) U (fun c2 b3 a4 b Q => Wa (gM (gU (gC ?_)))))
   replace b := b.gq (Kr (Db St))
   exact ⟨m, b3, b1, a4, _, ⟨rfl, o⟩, (b.gq St), rfl, u, Q, (by rw [K]; exact a)⟩
  exact ic (gU (gC ⟨m, c, t, g, _, ⟨rfl, o⟩, (b.gq St), j, u, x, (by rw [K]; exact a)⟩))
 rintro E W ⟨c, t, g, D, ⟨m, o⟩, b, j, u, x, a⟩
 rw [au] at a
 refine gC (sg (Wh j (bS a fun b2 L a => ?_)))
 refine VE (eM b (Cr Qz Cn) call182 (fun q _ => (A9 c t g _ _ q x L)) ?_)
 rintro _ c8 d1 b8 b b5 s d ⟨a5, z, rfl, a3⟩
 obtain rfl := z.symm
 replace b := b.perm (Tr Tn)
 refine lr (Wh j (bS a fun c7 a2 a => ?_))
 refine VE (eM b (Cr Qz Cn) call239 (fun q _ => (sI c b2 a5 _ _ q a3 a2)) ?_)
 rintro _ c9 d2 b9 b b6 A d ⟨b4, M, B, rfl, I⟩
 obtain rfl := B.symm
 replace b := b.perm (Tr Tn)
 refine Wa (lt ?_)
 obtain rfl := sj a
 exact ij (v := b4) rfl rfl ⟨_, M, rfl, b.jd (fun p hq => (Ml hq)) I.nd, I⟩
theorem yS (B : Value) (G : List gm) (r : List ByteArray) (w : World) (y : Sl (Pl gp) 9 (hp w) B G) (hm : rE G = some r) :
  iz true pg0 127 [B] w 9 iL 1 r := by
 refine oE 29 func127 rfl (fun d => sg (Wa (lr (Wa (lS (Wm ?_))))))
 refine V (kF ai rfl y) (Wm (ln (im (fun i E W => ∃ g k j t, (E 8 = .int .i64 (i : Nat) ∧ E 7 = .int .i64 (G.length : Nat)) ∧ ST true gN w W (hp w) (j ++ t) ∧ E 3 = g ∧ E 6 = B ∧ gI 9 iL 1 g k j ∧ mo (G.drop i) k = some r) G.length y.len ⟨(.slice none 0 0), ([]), [], _, ⟨rfl, rfl⟩, (d.gq St), rfl, rfl, (gI.nil _ _ _), hm⟩ dc dc dc (fun _ _ _ h => by obtain ⟨_, _, _, _, n, _⟩ := h; exact n) ?_ ?_)))
 ·rintro a5 E W T ⟨g, k, j, t, ⟨m, A⟩, d, u, x, z, c⟩
  obtain ⟨a, b4, Y, U, Z⟩ := hX T
  rw [Y] at c
  refine bg (VQ (iZ (enc := gp) (i := (a5 : Int)) (x0 := a) ai ag x m y (aj _) U) (fun b2 J => V (gu rfl (jM d.has J aM ag)) (VE (iw d aT (fun O b1 d => VO (gO (.agg (gp a).toArray) ((gp a).toArray) d rfl rfl ag (js a) nb rfl (fun P d => ln (gE (Wh u (Wf mE (VB d Mh rfl rfl aG (Wf jz (Wf kz ?_)))))))))))))
  refine VB d Mh rfl rfl aG (Wf iK (Wf kz (VB d Mh rfl rfl aG (Wf kp (Wf kz (VB d Mh rfl rfl aG (VE (gS (cs := #[(.string a.gP), (.string a.Head.gF), (.string a.B.gF), (.string a.C.gF)]) d (zi rfl rfl rfl rfl) (jB az bU ey) (fun a8 Q d => ?_)))))))))
  replace d := d.perm (Nr (Qb (Qb Qz)) Nz)
  refine bS c fun L I c => VE (jn (enc := iL) (v := g) (vs := (.slice (some ⟨Q, 0, none⟩) 4 4)) (R := j) d (fun _ => rfl) dc uk az mH.1 mH.2.1 rfl mH.2.2.1 mH.2.2.2 rfl rfl z (Sl.lit (enc := iL) (l := [a.gP, a.Head.gF, a.B.gF, a.C.gF]) (fun _ => rfl) rfl nb rfl (d.at_ (Ma Mh))) I (fun a9 a2 M d H => Wa (gM (gU (gC ?_)))))
  replace d := d.gq (Kr (Db (Db St)))
  exact ⟨m, a2, L, M, _, ⟨rfl, A⟩, (d.gq St), rfl, x, H, (by rw [Z]; exact c)⟩
 rintro E W ⟨g, k, j, t, ⟨m, A⟩, d, u, x, z, c⟩
 rw [au] at c
 refine gC (sg (Wh u (bS c fun b3 K c => VE (lB d call188 (xa g k _ _ (z.sl (fun _ => rfl) (fun b o s => d.at_ (Ml s))) K) (fun b0 a3 b5 N d a4 q D => Wa (ln ?_))))))
 replace d := d.gq (Kr (Dr St))
 refine iq ?_
 obtain rfl := sj c
 exact ij (v := a3) rfl rfl ⟨_, N, rfl, d.jd (fun p s => (Ml s)) D.nd, D⟩
theorem Bp {κ β : Type} {a : κ → Value} {vf : β → Value} (v : Value) (l : List (κ × β)) (w : World) (i : ∃ m, v = .map (some m)) (hm : lz a vf (hp w) v l) : ir true pg0 128 [v] w [] (fun v R _ => gV a vf v l R) := by
 obtain ⟨c, rfl⟩ := i
 rcases hm with ⟨h, _⟩ | ⟨m, es, clock, h, d, hO⟩
 ·cases h
 obtain rfl : c = m := by injection h with h; injection h
 have b := ST.start (dd := true) w
 exact cF 9 func128 rfl (gH (gE (V (kc rfl) (gM (gC (gH (gH (gE (V (gy rfl) (V (xy cQ rfl rfl rfl) (gM (gC (mw rfl (ic (gC (gH (gE (V (gy rfl) (V (Ep cQ (by intro q h; cases h) rfl) (VE (DX b rfl rfl (B9 func189 (by kernel_rfl) (by kernel_rfl) (by kernel_rfl) (by kernel_rfl) _ (b.mem _ _ d)) (fun W g b => V (AA cQ rfl) (V (kc rfl) (gM (gC (iq (ij rfl rfl ⟨_, _, rfl, b.yG ⟨[], .refl _⟩, g, es, clock, rfl, rfl, hO⟩)))))))))))))))))))))))))))
theorem rY (g : Value) (t : List ByteArray) (j : Value) (D : ByteArray → Option Bool) (r : Int) (w : World) (c : Sl (Pl iL) 1 (hp w) g t) (G : qv pg0 j (hp w) (fun (x : ByteArray) => [(.string x)]) (fun (r : Bool) => (.bool r)) D) (hm : mW t D = some r) :
  iC false pg0 272 [g, j] w (.int .i64 r) := by
 refine cG 19 func272 rfl (fun b => sg (Wa (lS (Wm (V (kF az rfl c) (Wm (ln (im (fun i E W => ∃ k, (E 8 = .int .i64 (i : Nat) ∧ E 7 = .int .i64 (t.length : Nat)) ∧ ST false gN w W (hp w) k ∧ E 0 = g ∧ E 1 = j ∧ jP D (t.drop i) i = some r) t.length c.len ⟨_, ⟨rfl, rfl⟩, (b.gq St), rfl, rfl, hm⟩ dc dc dc (fun _ _ _ h => by obtain ⟨_, l, _⟩ := h; exact l) ?_ ?_))))))))
 ·rintro T E W I ⟨k, ⟨d, m⟩, b, u, z, a⟩
  obtain ⟨B, U, N, M, Q⟩ := hX I
  rw [N] at a
  refine bg (Wh d (Wa (lr (Wh z (Wh u (Wm (VQ (iZ (enc := iL) (i := (T : Int)) (x0 := B) az bU rfl rfl c (aj _) M) (fun Z J => V (gu rfl (kT b.has (y := (.string B)) J aG)) (bS a fun n K a => ?_)))))))))
  refine VE (vw B b G (ig.refl _) rfl (ur rfl) K (fun Y b => ln (CI a rfl (fun H a => ?_) (fun H a => ?_))))
  ·refine sg (Wm (Wa (lt (jU (iv (jU (iv ?_)))))))
   obtain rfl := sj a
   exact rP b
  exact ic (gU (gC ⟨d, _, ⟨rfl, m⟩, (b.gq St), u, z, (by rw [Q]; exact a)⟩))
 rintro E W ⟨k, ⟨d, m⟩, b, u, z, a⟩
 rw [au] at a
 exact gC (sg (Wa (lt (rQ a b))))
theorem qT (a : Value) (g : List ByteArray) (c : Value) (i : ByteArray → Option Bool) (r : Bool) (w : World) (j : Sl (Pl iL) 1 (hp w) a g) (k : qv pg0 c (hp w) (fun (x : ByteArray) => [(.string x)]) (fun (r : Bool) => (.bool r)) i) (hm : mn g i = some r) :
  iC false pg0 240 [a, c] w (.bool r) := by
 refine cG 9 func240 rfl (fun b => sg (Wa (lr (Wm (Wm (bS hm fun y t hm => VE (Eg b call272 (rY a g c i _ _ (j.mono (Pl.mono _) b.iG) (k.mono b.iG) t) (fun u b => Wi rfl (Wa (gM ?_))))))))))
 exact gC (iq (rQ hm b))
theorem vU (u : ByteArray) (z : Nat) (i : Value) (G : (gl × ByteArray) → Option Bool) (B : Nat) (g : gm) (D : Nat) (I : ByteArray) (r : Bool) (w : World) (H : qv pg0 i (hp w) (fun (x : (gl × ByteArray)) => [(.agg (gn x.1).toArray), (.string x.2)]) (fun (r : Bool) => (.bool r)) G) (j : At (hp w) (.pointer (some ⟨z, 0, none⟩)) [i]) (k : At (hp w) (.pointer (some ⟨B, 0, none⟩)) (gp g)) (J : At (hp w) (.pointer (some ⟨D, 0, none⟩)) [(.string I)]) (hm : mP u G g I = some r) :
  iC false pg0 241 [(.string u), (.pointer (some ⟨z, 0, none⟩)), (.pointer (some ⟨B, 0, none⟩)), (.pointer (some ⟨D, 0, none⟩))] w (.bool r) := by
 refine cG 20 func241 rfl (fun b => sg (Wa (lr (V (gu rfl (kT b.has (y := i) j isAgg104)) (VQ (rB (gn g.B) iK rfl k rfl) (fun h Y => V (gu rfl (jM b.has Y ah ae)) (Wm (bS hm fun l Z hm => VE (vw (g.B, u) b H (ig.refl _) rfl (sb rfl rfl) Z (fun W6 b => Wm ?_))))))))))
 refine LJ hm (fun M E W => ∃ K, ST false gN w W (hp w) K ∧ E 5 = (.bool false) ∧ E 19 = (.bool M)) 8 ?_ (fun M c t => ?_)
 ·rintro a5 E W ⟨K, b, a2, U⟩ N
  exact Wg U (lt (rQ N b))
 refine bC c (fun a c => ?_) (fun a c => ?_)
 ·refine ug a (gu rfl (kT b.has (y := i) j isAgg104)) (ug a (gy rfl) (FE a (rB [(.string g.gZ)] ml rfl k rfl) (fun a3 Q => ug a (gu rfl (kT b.has (y := (.string g.gZ)) Q aG)) (ug a (ko (v := (.agg (gn (⟨u, g.gZ⟩ : gl)).toArray)) (mB rfl rfl) (jq bt bD (zY _ bD) kr)) (ug a (gu rfl (kT b.has (y := (.string I)) J aG)) (bS c fun a4 T c => oM a (vw ((⟨u, g.gZ⟩ : gl), I) b H (ig.refl _) rfl (sb rfl rfl) T (fun d b => V (gK (cB a) rfl) ?_))))))))
  obtain rfl := sj c
  exact t _ _ ⟨_, (b.gq St), rfl, rfl⟩
 refine un a (un a (un a (un a (un a (un a (un a (V (gJ (cB a) rfl) ?_)))))))
 obtain rfl := sj c
 exact t _ _ ⟨_, (b.gq St), rfl, rfl⟩
theorem yf (g : gm) (u : Value) (y : (gl × ByteArray) → Option Bool) (k : Value) (D : List ByteArray) (j : ByteArray) (r : Bool) (w : World) (i : qv pg0 u (hp w) (fun (x : (gl × ByteArray)) => [(.agg (gn x.1).toArray), (.string x.2)]) (fun (r : Bool) => (.bool r)) y) (J : Sl (Pl iL) 1 (hp w) k D) (hm : pD g y D j = some r) :
  iC false pg0 190 [(.agg (gp g).toArray), u, k, (.string j)] w (.bool r) := by
 refine cG 41 func190 rfl (fun b => sg (VE (iP b rfl (fun W2 G b => ?_))))
 obtain ⟨f3, f4, f5, rfl⟩ := i.form
 refine VE (iP b rfl (fun W7 H b => VE (iP b rfl (fun W9 I b => Wa (lS (Wf jk (VB b (Mt (Mt Mh)) rfl rfl bj (ln (bg ?_)))))))))
 refine Wi rfl (Wa (ln (CI hm rfl (fun K hm => ?_) (fun K hm => ?_))))
 ·refine sg (Wf mE (VB b (Mt (Mt Mh)) rfl rfl aG (VB b Mh rfl rfl aG (V (lY rfl rfl rfl) (Wa (ln ?_))))))
  replace b := b.gq (Db (Db (Db St)))
  refine iq (jU (iv ?_))
  obtain rfl := sj hm
  exact rP b
 refine sg (Wi rfl (Wa (ln (CI hm rfl (fun M hm => ?_) (fun M hm => ?_)))))
 ·refine sg (VB b (Mt Mh) rfl rfl isAgg104 (Wf iK (VA b (Mt (Mt Mh)) (gn g.B) ah ae (VB b Mh rfl rfl aG (bS hm fun p T hm => VE (vw (g.B, j) b i (ig.refl _) rfl (sb rfl rfl) T (fun l b => Wa (ln ?_))))))))
  replace b := b.gq (Db (Db (Db St)))
  refine iq (jU (iv ?_))
  obtain rfl := sj hm
  exact rP b
 refine sg (Wi rfl (Wa (ln (CI hm rfl (fun N hm => ?_) (fun N hm => ?_)))))
 ·refine sg (VB b (Mt Mh) rfl rfl isAgg104 (Wf iK (VA b (Mt (Mt Mh)) (gn g.B) ah ae (VB b Mh rfl rfl aG (bS hm fun q U hm => VE (vw (g.B, j) b i (ig.refl _) rfl (sb rfl rfl) U (fun m b => Wm (LJ hm (fun B E W => ∃ z, ST false gN w W (hp w) z ∧ E 8 = (.bool false) ∧ E 37 = (.bool B)) 6 ?_ (fun B c t => ?_)))))))))
  ·rintro A E W ⟨z, b, o, h⟩ Q
   refine Wg h (lt (jU (iv ?_)))
   obtain rfl := sj Q
   exact rP b
  refine bC c (fun a c => ?_) (fun a c => ?_)
  ·refine ug a (gu rfl (gL b.has (Mt Mh) rfl isAgg104)) (ug a (gA kp rfl) (ug a (gu rfl (gD b.has (Mt (Mt Mh)) (gn g.C) rfl ah ae)) (ug a (gu rfl (gL b.has Mh rfl aG)) (bS c fun s Y c => oM a (vw (g.C, j) b i (ig.refl _) rfl (sb rfl rfl) Y (fun a9 b => V (gK (cB a) rfl) ?_))))))
   obtain rfl := sj c
   exact t _ _ ⟨_, (b.gq (Db (Db (Db St)))), rfl, rfl⟩
  refine un a (un a (un a (un a (un a (V (gJ (cB a) rfl) ?_)))))
  obtain rfl := sj c
  exact t _ _ ⟨_, (b.gq (Db (Db (Db St)))), rfl, rfl⟩
 refine ic (gU (gC (sg (Wm (V (rf (by exact Fq rfl rfl rfl) rfl) (bS hm fun v Z hm => VE (Eg b call240 (qT k D (.func (.func 241) #[] #[(.pointer (some ⟨H, 0, none⟩)), (.pointer (some ⟨G, 0, none⟩)), (.pointer (some ⟨I, 0, none⟩))]) (fun (x : ByteArray) => mP x y g j) _ _ (J.mono (Pl.mono _) b.iG) ⟨241, #[], #[(.pointer (some ⟨H, 0, none⟩)), (.pointer (some ⟨G, 0, none⟩)), (.pointer (some ⟨I, 0, none⟩))], rfl, call241, fun W x r d hm => vU x H (.func f3 f4 f5) y G g I j r W (i.mono (b.iG.trans d)) (At.of (d _ _ (b.at_ (Mt Mh))) _ rfl) (At.of (d _ _ (b.at_ (Mt (Mt Mh)))) _ rfl) (At.of (d _ _ (b.at_ Mh)) _ rfl) hm⟩ Z) (fun n b => Wa (ln ?_)))))))))
 exact iq (rQ hm b)
theorem yK (c : gm) (B : Value) (f1 : (gl × ByteArray) → Option Bool) (T : Value) (a2 : List ByteArray) (r : List gr) (w : World) (b0 : qv pg0 B (hp w) (fun (x : (gl × ByteArray)) => [(.agg (gn x.1).toArray), (.string x.2)]) (fun (r : Bool) => (.bool r)) f1) (d8 : Sl (Pl iL) 1 (hp w) T a2) (hm : pT c f1 a2 = some r) :
  iz false pg0 130 [(.agg (gp c).toArray), B, T] w 38 gG 3 r := by
 refine oE 47 func130 rfl (fun d => sg (VE (iP d rfl (fun W2 n d => Wa (lS (VA d Mh (gp c) aM ag (bS hm fun r3 f5 hm => VE (Eg d call115 (iC.kC (px c _ _  f5)) (fun W5 d => V (mZ rfl) (Wm ?_))))))))))
 refine LJ hm (fun b6 E W => ∃ L8, ST false gN w W (hp w) ((n, Ol (gp c) 108) :: L8) ∧ E 1 = B ∧ E 2 = T ∧ E 3 = (.pointer (some ⟨n, 0, none⟩)) ∧ E 17 = (.bool b6)) 3 ?_ (fun b6 u U => ?_)
 ·rintro x7 E W ⟨L8, d, d2, e8, a4, e9⟩ H
  refine ln (CI H e9 (fun d9 H => ?_) (fun d9 H => ?_))
  ·refine sg (Wa (ln ?_))
   replace d := d.gq (Db St)
   refine iq (iv ?_)
   obtain rfl := sj H
   exact ij (v := (.slice none 0 0)) rfl rfl ⟨_, [], rfl, d.jd (fun p o => by cases o) (by simp), gI.nil _ _ _⟩
  refine kg (Wh e8 (bS H fun d3 e2 H => VE (lB d call188 (iz.kC (xa T a2 _ _ (d8.mono (Pl.mono _) d.iG) e2)) (fun g5 q g6 g4 d c4 ab a9 => Wa (lr (Wm (Wa (gM ?_))))))))
  refine gC (gH ?_)
  have e0 := a9.ES d (fun p o => (Ml o))
  obtain ⟨d4, d, c5, ad, b3⟩ := ST.zZ d a9 (fun _ => rfl)
  refine CJ H (fun b5 E W => ∃ Y Z d1, ig d4 Z ∧ ST false gN w W Z ((n, Ol (gp c) 108) :: d1) ∧ E 1 = B ∧ E 2 = q ∧ E 3 = (.pointer (some ⟨n, 0, none⟩)) ∧ E 7 = Y ∧ Sl (Pl iL) 1 Z Y b5 ∧ Fr w.heap.size Y) (fun b5 t => ?_) ?_
  ·refine sg (V (gA jk a4) (VB d Mh rfl rfl bj (Wi rfl (ln (CI t rfl (fun c1 t => ?_) (fun c1 t => ?_))))))
   ·refine gE (V (gA mE a4) (VB d Mh rfl rfl aG (VE (gS (cs := [(.string c.gP)].toArray) d (kk rfl) (jB az bU ey) (fun g0 J d => Wa (ln ?_))))))
    obtain rfl := sj t
    have c2 : Fr w.heap.size (.slice (some ⟨J, 0, none⟩) 1 1) := Fr.box d Mh
    obtain ⟨e6, d, b2, a8, c8⟩ := ST.zZ (R := [(J, Ol [(.string c.gP)] 9)]) d (gI.lit (l := [c.gP]) (enc := iL) (b := J) (m := 1) rfl dc rfl rfl) (fun _ => rfl)
    exact ⟨(.slice (some ⟨J, 0, none⟩) 1 1), e6, _, b2, (d.gq St), d2, rfl, a4, rfl, c8, c2⟩
   refine kn ?_
   obtain rfl := sj t
   exact ⟨q, d4, _, (ig.refl _), (d.gq St), d2, rfl, a4, rfl, b3, e0⟩
  rintro L E W ⟨Y, Z, d1, a5, d, f0, f2, f3, f4, a3, g1⟩ e1
  refine sg (Wa (lS (Wh f4 (V (kF az rfl a3) (Wm (ln (im (fun i E W => ∃ k I j A, (E 29 = .int .i64 (i : Nat) ∧ E 28 = .int .i64 (L.length : Nat)) ∧ ST false gN w W Z ((n, Ol (gp c) 108) :: (j ++ A)) ∧ E 1 = B ∧ E 2 = q ∧ E 3 = (.pointer (some ⟨n, 0, none⟩)) ∧ E 8 = k ∧ E 27 = Y ∧ gI 38 gG 3 k I j ∧ lo c f1 d3 (L.drop i) I = some r) L.length a3.len ⟨(.slice none 0 0), ([]), [], _, ⟨rfl, rfl⟩, (d.gq St), f0, f2, f3, rfl, rfl, (gI.nil _ _ _), e1⟩ dc dc dc (fun _ _ _ h => by obtain ⟨_, _, _, _, O, _⟩ := h; exact O) ?_ ?_)))))))
  ·rintro e3 E W c3 ⟨k, I, j, A, ⟨s, P⟩, d, K, M, D, N, Q, z, a⟩
   obtain ⟨g, f6, d0, c9, a6⟩ := hX c3
   let a0 := (⟨c.Head, g⟩ : gr)
   rw [d0] at a
   refine bg (VQ (iZ (enc := iL) (i := (e3 : Int)) (x0 := g) az bU Q s a3 (aj _) c9) (fun g2 c6 => V (gu rfl (kT d.has (y := (.string g)) c6 aG)) (Wa (lr (V (gu D (gD d.has Mh (gp c) rfl aM ag)) (Wh K (Wh M (Wm (bS a fun g3 c7 a => ?_)))))))))
   refine VE (Eg d call190 (yf c B f1 q d3 g _ _ (b0.mono (((c4.trans c5).trans a5).trans d.iG)) (b3.mono (Pl.mono _) (a5.trans d.iG)) c7) (fun f7 d => ln (CI a rfl (fun b9 a => ?_) (fun b9 a => ?_))))
   ·refine gE (Wh N (V (gA jz D) (VA d Mh (gn c.Head) ah ae (Wm (V (ko (v := (.agg (gG (a0)).toArray)) (mB rfl rfl) (jq cu bq (xJ _ bq) kr)) (VE (gS (cs := (gG (a0)).toArray) d (kk rfl) (jB aV bz cu) (fun f8 d7 d => ?_))))))))
    replace d := d.perm (Nr (Qb (Qb Qz)) Nz)
    refine bS a fun e4 c0 a => VE (jn (enc := gG) (v := k) (vs := (.slice (some ⟨d7, 0, none⟩) 1 1)) (R := j) d kD dc pB aV mS.1 mS.2.1 rfl mS.2.2.1 mS.2.2.2 rfl rfl z (Sl.lit (enc := gG) (l := [a0]) kD rfl nb rfl (d.at_ (Ma Mh))) c0 (fun f9 e5 d5 d b8 => Wa (gM (gU (gC ?_)))))
    replace d := d.gq (Kr (Db St))
    exact ⟨s, e5, e4, d5, _, ⟨rfl, P⟩, (d.gq (Sb (Pr Pz) St)), K, M, D, rfl, Q, b8, (by rw [a6]; exact a)⟩
   exact ic (gU (gC ⟨s, k, I, j, _, ⟨rfl, P⟩, (d.gq St), K, M, D, N, Q, z, (by rw [a6]; exact a)⟩))
  rintro E W ⟨k, I, j, A, ⟨s, P⟩, d, K, M, D, N, Q, z, a⟩
  rw [au] at a
  refine gC ?_
  replace d := d.gq (Db St)
  refine sg (Wh N (Wa (lt ?_)))
  obtain rfl := sj a
  exact ij (v := k) rfl rfl ⟨_, j, rfl, d.jd (fun p o => (Ml o)) z.nd, z⟩
 refine bC u (fun G u => ?_) (fun G u => ?_)
 ·refine un G (un G (V (gK (cB G) rfl) ?_))
  obtain rfl := sj u
  exact U _ _ ⟨_, (d.gq St), rfl, rfl, rfl, rfl⟩
 refine ug G (gy rfl) (ug G (Cz underlying104 b0 rfl rfl) (V (gJ (cB G) rfl) ?_))
 obtain rfl := sj u
 exact U _ _ ⟨_, (d.gq St), rfl, rfl, rfl, rfl⟩
theorem wu (a : gl) (g : ByteArray) (i : Nat) (c : Value) (u : List (gr × Int)) (r : Bool) (w : World) (t : lz (fun (x : gr) => (.agg (gG x).toArray)) (fun (x : Int) => (Value.int .i64 x)) (hp w) c u) (j : At (hp w) (.pointer (some ⟨i, 0, none⟩)) [c]) (hm : oJ a g u = some r) :
  iC true pg0 129 [(.agg (gn a).toArray), (.string g), (.pointer (some ⟨i, 0, none⟩))] w (.bool r) := by
 refine cG 17 func129 rfl (fun d => sg (VE (iP d rfl (fun B D d => Wa (lr (V (gu rfl (kT d.has (y := c) j isAgg125)) (VA d Mh (gn a) ah ae (Wm (V (ko (v := (.agg (gG (⟨a, g⟩ : gr)).toArray)) (mB rfl rfl) (jq cu bq (xJ _ bq) kr)) (V (uo (k := (⟨a, g⟩ : gr)) (z := 0) (vf := (fun (x : Int) => (Value.int .i64 x))) BA cQ dG rfl rfl (t.mono (fun b o h => d.has.1 b o h))) (Wm ?_)))))))))))
 refine Wx rfl (Wx rfl (Wa (Wa (ln ?_))))
 replace d := d.gq (Db St)
 exact sg (Wm (Wa (lt (rQ hm d))))
theorem uJ (d4 : Value) (a0 : List gm) (r : ((List (gr × Int)) × Int)) (w : World) (f7 : Sl (Pl gp) 9 (hp w) d4 a0) (hm : nI a0 = some r) :
  ir false pg0 62 [d4] w [] (fun v L1 W' => ∃ y1 S2, v = (.tuple #[y1, (.int .i64 (r.2))]) ∧ L1 = (S2 ++ []) ∧ gV (fun (x : gr) => (.agg (gG x).toArray)) (fun (x : Int) => (Value.int .i64 x)) y1 r.1 S2) := by
 refine oE 62 func62 rfl (fun d => sg (Wa (Wa (lr (Wm (bS hm fun O k6 hm => VE (lB d call51 (rZ d4 a0 _ _ (f7.mono (Pl.mono _) d.iG) k6) (fun W3 q aE R8 d k1 av e9 => Wm (bS hm fun k7 k2 hm => VE (lB d call51 (rZ d4 a0 _ _ (f7.mono (Pl.mono _) (k1.trans d.iG)) k2) (fun n1 k8 n4 n0 d m3 af j8 => ?_)))))))))))
 refine bS hm fun h2 k3 hm => VE (lB d call127 (iz.kC (yS k8 k7 _ _ (j8.sl ia (fun b o l => d.at_ (Ml l))) k3)) (fun n2 A j7 d8 d m4 ao j9 => Wa (Wa (ln ?_))))
 replace d := d.gq (Kr (Dr St))
 refine sg (VE (ry (P := pg0) (fun (x : gr) => (.agg (gG x).toArray)) (fun (x : Int) => (Value.int .i64 x)) d (fun n3 D k4 d k0 => Wa (lr (Wa (ln (nH (ji (lT (fun m E W => ∃ y a3 g d5 e3, ig j7 d5 ∧ ST false gN w W d5 (a3 ++ (d8 ++ (R8 ++ e3))) ∧ E 4 = q ∧ E 5 = A ∧ E 6 = D ∧ E 7 = (.int .i64 g) ∧ gV (fun (x : gr) => (.agg (gG x).toArray)) (fun (x : Int) => (Value.int .i64 x)) D y a3 ∧ mg h2 O m y g = some r) jj ⟨([]), k4, 0, j7, _, (ig.refl _), (d.gq St), rfl, rfl, rfl, rfl, k0, hm⟩ ?_)))))))))
 rintro m E W ⟨y, a3, g, d5, e3, f0, d, e6, h6, e7, h7, b7, Y⟩
 cases m with
 | zero => rw [mg] at Y; cases Y
 | succ j5 =>
  refine gH (bg (Wh e7 (VE (wo d (dr _) call128 (fun _ _ _ _ => ir.kC (Bp _ y _ b7.form (b7.at (fun b o l => d.has.2 b o (Ml l))))) (fun l2 m7 d6 a4 d f1 ab _ b6 => VE (iw d zeroValue125 (fun l3 a d => ?_))) (L0 := [])))))
  obtain ⟨B, rfl⟩ := b6.form
  refine VO (gO (.map (some B)) (#[(.map (some B))]) d rfl rfl sizeOf125 oc nb rfl (fun l4 d => lr (V (rf (by exact ur rfl) rfl) (Wa (lS (Wh e6 (V (iu ai rfl e9) (Wm ?_))))))))
  refine ln (CJ Y (fun d2 E W => ∃ Q b5 e4, ig d6 b5 ∧ ST false gN w W b5 ((a, Ob #[(.map (some B))] 125) :: (a4 ++ (Q ++ (d8 ++ (R8 ++ e4))))) ∧ E 4 = q ∧ E 5 = A ∧ E 6 = D ∧ E 7 = (.int .i64 g) ∧ E 8 = (.pointer (some ⟨a, 0, none⟩)) ∧ gV (fun (x : gr) => (.agg (gG x).toArray)) (fun (x : Int) => (Value.int .i64 x)) D d2 Q) (fun d2 g2 => ?_) ?_)
  ·let f5 := (#[(.map (some B))] : Array Value)
   let e2 : Value := (.pointer (some ⟨a, 0, none⟩))
   let f4 : Value := (.func (.func 129) #[] #[e2])
   refine im (fun i E W => ∃ Z I R c1, (E 29 = .int .i64 (i : Nat) ∧ E 28 = .int .i64 (O.length : Nat)) ∧ ig d6 R ∧ ST false gN w W R ((a, Obj.cells f5 125 (0, 0)) :: (a4 ++ (I ++ (d8 ++ (R8 ++ c1))))) ∧ E 4 = q ∧ E 5 = A ∧ E 6 = D ∧ E 7 = (.int .i64 g) ∧ E 8 = e2 ∧ E 9 = f4 ∧ E 27 = q ∧ gV (fun (x : gr) => (.agg (gG x).toArray)) (fun (x : Int) => (Value.int .i64 x)) D Z I ∧ nw y h2 g (O.drop i) Z = some d2) O.length e9.len ⟨y, a3, d6, _, ⟨rfl, rfl⟩, (ig.refl _), (d.gq St), e6, h6, e7, h7, rfl, rfl, rfl, b7, g2⟩ dc dc dc (fun _ _ _ h => by obtain ⟨_, _, _, _, s, _⟩ := h; exact s) ?_ ?_
   ·rintro d0 E W g0 ⟨Z, I, R, c1, ⟨n, L⟩, a2, d, c4, a6, c5, c6, c7, c8, c9, b9, j⟩
    obtain ⟨N, k9, g9, d9, h0⟩ := hX g0
    rw [g9] at j
    refine bg (VQ (ie (i := (d0 : Int)) (x0 := N) ai ag c9 n e9 (aj _) d9) (fun m5 g5 => V (gu rfl (je d.has (fun p l => (Mt (Ma (Ma (Ma (Ml l)))))) e9 ia g5 d9 aM ag)) (VE (iw d aT (fun l5 m1 d => VO (gO (.agg (gp N).toArray) ((gp N).toArray) d rfl rfl ag (js N) nb rfl (fun l6 d => lr (VA d Mh (gp N) aM ag (Wh c8 (Wh a6 (bS j fun d1 g7 j => ?_)))))))))))
    refine VE (lB d call130 (yK N f4 (fun (x : (gl × ByteArray)) => oJ x.1 x.2 y) A h2 _ _ ⟨129, #[], #[e2], rfl, call129, fun W x r hs hm => (wu x.1 x.2 a (.map (some B)) y r W (b6.at (fun b o l => hs _ _ ((fun b o l => d.at_ (Mt (Mt (Ml l)))) b o l))) (At.of (hs _ _ (d.at_ (Mt Mh))) _ rfl) hm).kC⟩ (j9.sl (fun _ => rfl) (fun b o l => d.at_ (Mt (Mt (Ma (Ma (Ml l))))))) g7) (fun l7 j6 d7 h3 d f3 ad U => V (iu aV rfl U) (Wm (ln ?_))))
    replace d := d.gq (Kr (Db St))
    refine nH (CJ j (fun d3 E W => ∃ a5 e5, ST false gN w W d7 ((a, Obj.cells f5 125 (0, 0)) :: (a4 ++ (a5 ++ (d8 ++ (R8 ++ e5))))) ∧ E 4 = q ∧ E 5 = A ∧ E 6 = D ∧ E 7 = (.int .i64 g) ∧ E 8 = e2 ∧ E 9 = f4 ∧ E 27 = q ∧ E 28 = (.int .i64 (O.length : Int)) ∧ E 29 = (.int .i64 (d0 : Int)) ∧ gV (fun (x : gr) => (.agg (gG x).toArray)) (fun (x : Int) => (Value.int .i64 x)) D d3 a5) (fun d3 g4 => ?_) ?_)
    ·refine im (fun i E W => ∃ M J c2, (E 38 = .int .i64 (i : Nat) ∧ E 37 = .int .i64 (d1.length : Nat)) ∧ ST false gN w W d7 ((a, Obj.cells f5 125 (0, 0)) :: (h3 ++ (a4 ++ (J ++ (d8 ++ (R8 ++ c2)))))) ∧ E 4 = q ∧ E 5 = A ∧ E 6 = D ∧ E 7 = (.int .i64 g) ∧ E 8 = e2 ∧ E 9 = f4 ∧ E 27 = q ∧ E 28 = (.int .i64 (O.length : Int)) ∧ E 29 = (.int .i64 (d0 : Int)) ∧ E 36 = j6 ∧ gV (fun (x : gr) => (.agg (gG x).toArray)) (fun (x : Int) => (Value.int .i64 x)) D M J ∧ ms g (d1.drop i) M = some d3) d1.length U.len ⟨Z, I, _, ⟨rfl, rfl⟩, (d.gq (Sb (Pr Pz) St)), c4, a6, c5, c6, c7, c8, c9, L, n, rfl, b9, g4⟩ dc dc dc (fun _ _ _ h => by obtain ⟨_, _, _, s, _⟩ := h; exact s) ?_ ?_
     ·rintro j0 E W g1 ⟨M, J, c2, ⟨n, L⟩, d, a7, a8, K, T, a9, b0, b1, b2, b3, b4, H, c⟩
      obtain ⟨t, l0, h1, e0, e1⟩ := hX g1
      rw [h1] at c
      refine bg (VQ (ie (i := (j0 : Int)) (x0 := t) aV bz b4 n U (aj _) e0) (fun m6 g6 => V (gu rfl (je d.has (fun p l => (Mt (Ml l))) U kD g6 e0 dN bz)) (VE (iw d cu (fun l8 m2 d => VO (gO (.agg (gG t).toArray) ((gG t).toArray) d rfl rfl bz (pB t) nb rfl (fun l9 d => lr (Wh K (VA d Mh (gG t) dN bz (V (uo (k := t) (z := 0) (vf := (fun (x : Int) => (Value.int .i64 x))) BA cQ dG rfl rfl (H.at (fun b o l => d.has.2 b o (Mt (Mt (Ma (Ma (Ml l)))))))) (Wm ?_)))))))))))
      refine Wx rfl (Wx rfl (Wa (Wa (lr (Wm (V (mZ rfl) (ln (CI c rfl (fun f9 c => ?_) (fun f9 c => ?_)))))))))
      ·refine gE (Wh K (VA d Mh (gG t) dN bz (Wh T ?_)))
       replace d := d.perm (Nr (Qb (Qb (Qr (Qr Qz)))) Nz)
       refine VO (we (k := t) (v := g) (vf := (fun (x : Int) => (Value.int .i64 x)))  BA cQ d H rfl rfl rfl (fun m0 h4 d f6 => gM (gU (gC ?_))))
       replace d := d.gq (Kr (Db St))
       exact ⟨n, (iQ iU M t g), h4, _, ⟨rfl, L⟩, (d.gq (Sb (Pr Pz) (Sr (Qr Qz) (Sr (Qr Qz) St)))), a7, a8, K, T, a9, b0, b1, b2, b3, b4, f6, (by rw [e1]; exact c)⟩
      refine ic (gU (gC ?_))
      replace d := d.gq (Db St)
      exact ⟨n, M, J, _, ⟨rfl, L⟩, (d.gq St), a7, a8, K, T, a9, b0, b1, b2, b3, b4, H, (by rw [e1]; exact c)⟩
     rintro E W ⟨M, J, c2, ⟨n, L⟩, d, a7, a8, K, T, a9, b0, b1, b2, b3, b4, H, c⟩
     rw [au] at c
     refine gC ?_
     obtain rfl := sj c
     exact ⟨J, _, (d.gq (Kb (Dr St))), a7, a8, K, T, a9, b0, b1, b2, b3, H⟩
    rintro j4 E W ⟨a5, e5, d, i1, i2, i3, i4, i5, i6, i7, i8, i9, g8⟩ g3
    exact gU (gC ⟨i9, j4, a5, d7, _, ⟨rfl, i8⟩, (a2.trans f3), (d.gq St), i1, i2, i3, i4, i5, i6, i7, g8, (by rw [h0]; exact g3)⟩)
   rintro E W ⟨Z, I, R, c1, ⟨n, L⟩, a2, d, c4, a6, c5, c6, c7, c8, c9, b9, j⟩
   rw [au] at j
   refine gC ?_
   obtain rfl := sj j
   exact ⟨I, R, _, a2, (d.gq St), c4, a6, c5, c6, c7, b9⟩
  rintro j3 E W ⟨Q, b5, e4, f2, d, h8, h9, c3, e8, i0, b8⟩ G
  refine sg (Wh c3 (V (zg (vf := (fun (x : Int) => (Value.int .i64 x))) (kenc := (fun (x : gr) => (.agg (gG x).toArray))) cQ rfl (b8.at (fun b o l => d.has.2 b o (Mt (Ma (Ml l)))))) (V (gu i0 (gL d.has Mh rfl isAgg125)) (V (zg (vf := (fun (x : Int) => (Value.int .i64 x))) (kenc := (fun (x : gr) => (.agg (gG x).toArray))) cQ rfl (b6.at (fun b o l => d.has.2 b o (Mt (Ml l))))) (Wi rfl (ln ?_))))))
  replace d := d.gq (Db (Dr St))
  refine CI G rfl (fun f8 G => ?_) (fun f8 G => ?_)
  ·refine sg (Wh c3 (Wh e8 (Wa (Wa (ln ?_)))))
   replace d := d.gq (Kr (Dr (Dr St)))
   refine iq (jU (iv (iv (jU (iv ?_)))))
   obtain rfl := sj G
   exact Cd (v := D) (u := (.int .i64 g)) rfl rfl rfl ⟨_, _, rfl, (d.yG (Kr Sn)), D, Q, rfl, rfl, b8⟩
  exact ic (gU (gC (gE (Wh e8 (Wi rfl (Wa (ln ⟨j5, bn _, j3, Q, (wi0 .i64 (g + 1)), b5, _, ((f0.trans f1).trans f2), (d.gq St), h8, h9, c3, rfl, b8, G⟩)))))))
theorem zw (g : Value) (i : List gm) (a : gr) (r : (Int × Bool)) (w : World) (t : Sl (Pl gp) 9 (hp w) g i) (hm : sB i a = some r) :
  iC false pg0 18 [g, (.agg (gG a).toArray)] w (.tuple #[(.int .i64 r.1), (.bool r.2)]) := by
 refine cG 23 func18 rfl (fun d => sg (VE (iP d rfl (fun M Q d => Wa (Wa (lr (Wm (bS hm fun D B hm => ?_))))))))
 refine VE (wo d (dr _) call62 (fun _ _ _ _ => (uJ g i _ _ (t.mono (Pl.mono _) d.iG) B)) (fun N T U H d G l h j => ?_) (L0 := []))
 obtain ⟨J, I, c, rfl, y⟩ := j
 replace c := c.symm; subst c
 replace d := d.perm (Tr Tn)
 refine Wm (Wx rfl (Wx rfl (Wa (Wa (lr (Wm (VA d (Ma Mh) (gG a) dN bz (V (uo (k := a) (z := 0) (vf := (fun (x : Int) => (Value.int .i64 x))) BA cQ dG rfl rfl (y.at (fun b o m => d.has.2 b o (Ml m)))) (Wm (Wx rfl (Wx rfl ?_)))))))))))
 refine Wa (Wa (ln ?_))
 replace d := d.gq (Dr (Db St))
 refine sg (Wm (Wm (Wa (Wa (lt ?_)))))
 obtain rfl := sj hm
 exact Cd (v := (.int .i64 (iW iU D.1 a 0))) (u := (.bool ((gQ iU D.1 a).isSome))) rfl rfl rfl ⟨rfl, d.ex⟩
theorem zX (c : Value) (g : List gm) (r : Int) (w : World) (i : Sl (Pl gp) 9 (hp w) c g) (hm : sA g = some r) :
  iC false pg0 20 [c] w (.int .i64 r) := by
 refine cG 11 func20 rfl (fun b => sg (Wa (lr (Wm (bS hm fun G k hm => ?_)))))
 refine VE (wo b (dr _) call62 (fun _ _ _ _ => (uJ c g _ _ (i.mono (Pl.mono _) b.iG) k)) (fun D H I B b t h d j => ?_) (L0 := []))
 obtain ⟨y, x, a, rfl, u⟩ := j
 replace a := a.symm; subst a
 replace b := b.perm (Tr Tn)
 refine Wm (Wx rfl (Wx rfl (Wa (Wa (ln ?_)))))
 replace b := b.gq (Dr St)
 exact sg (Wm (Wa (lt (rQ hm b))))
theorem qh (a5 : Value) (a0 : List gm) (r : List gl) (w : World) (e2 : Sl (Pl gp) 9 (hp w) a5 a0) (hm : kI a0 = some r) :
  iz false pg0 16 [a5] w 28 gn 2 r := by
 refine oE 59 func16 rfl (fun d => sg (Wa (lr (VE (ry (P := pg0) (fun (x : gl) => (.agg (gn x).toArray)) (fun (x : Int) => (Value.int .i64 x)) d (fun W1 v4 R2 d h5 => Wa (lS ?_)))))))
 refine Wm (bS hm fun r5 h7 hm => VE (lB d call51 (rZ a5 a0 _ _ (e2.mono (Pl.mono _) d.iG) h7) (fun W7 h8 ad h4 d h1 af b2 => V (iu ai rfl b2) (Wm (ln (im (fun i E W => ∃ u H b6, (E 13 = .int .i64 (i : Nat) ∧ E 12 = .int .i64 (r5.length : Nat)) ∧ ST false gN w W ad (h4 ++ (H ++ b6)) ∧ E 0 = a5 ∧ E 3 = v4 ∧ E 11 = h8 ∧ gV (fun (x : gl) => (.agg (gn x).toArray)) (fun (x : Int) => (Value.int .i64 x)) v4 u H ∧ jv a0 (r5.drop i) u = some r) r5.length b2.len ⟨([]), R2, _, ⟨rfl, rfl⟩, (d.gq St), rfl, rfl, rfl, h5, hm⟩ dc dc dc (fun _ _ _ h => by obtain ⟨_, _, _, L, _⟩ := h; exact L) ?_ ?_))))))
 ·rintro h2 E W f7 ⟨u, H, b6, ⟨s, A⟩, d, O, M, a2, K, c⟩
  obtain ⟨g, i8, g3, d4, b3⟩ := hX f7
  let e0 := ((iW gz u g.Head 0) + 1)
  rw [g3] at c
  refine bg (VQ (ie (i := (h2 : Int)) (x0 := g) ai ag a2 s b2 (aj _) d4) (fun k4 g1 => V (gu rfl (je d.has (fun p q => (Ml q)) b2 ia g1 d4 aM ag)) (VE (iw d aT (fun j5 k2 d => VO (gO (.agg (gp g).toArray) ((gp g).toArray) d rfl rfl ag (js g) nb rfl (fun j6 d => lr (Wf jk (VB d Mh rfl rfl bj (Wi rfl (gM ?_)))))))))))
  refine gC (CI c rfl (fun f6 c => ?_) (fun f6 c => ?_))
  ·replace d := d.drew
   have m := d.has.gq (Kb Sn)
   refine iy m gW (X 0 rfl m (gy M) (X 1 rfl m (gA jz rfl) (XH 2 rfl m (fun _ n => gu rfl (gD n Mh (gn g.Head) rfl ah ae)) (Cy 3 5 rfl rfl kr (.inl rfl) (.inl rfl) rfl rfl dc dc ?_ ?_))))
   ·refine .inl ⟨_, _, oB (k := g.Head) (z := 0) (vf := (fun (x : Int) => (Value.int .i64 x))) oh eB dG rfl rfl (K.at (fun b o q => d.has.2 b o (Mt (Ma (Ml q))))), ⟨m, (X 4 rfl m (iX rfl rfl rfl) ?_)⟩⟩
    replace d := d.perm (Nr (Qb (Qr Qz)) Nz)
    refine XE 5 rfl (wj (k := g.Head) (x0 := 0) (vf := (fun (x : Int) => (Value.int .i64 x))) gB oh eB dG d K rfl rfl (fun j7 i4 j3 d f3 => ?_))
    have m := d.has.gq (Dr (Kb Sn))
    refine ⟨m, (X 6 rfl m (oD rfl rfl) (XO 7 rfl (uL (z := (wi0 .i64 e0)) gB oh d f3 rfl rfl rfl (fun j8 g8 d f4 => ?_))))⟩
    have m := d.has.gq (Dr (Kb Sn))
    refine ⟨m, (iI kr (gU (gC ?_)))⟩
    replace d := d.gq (Kr (Db St))
    exact ⟨s, (iQ gz u g.Head (wi0 .i64 e0)), g8, _, ⟨rfl, A⟩, (d.gq (Sr (Qr Qz) St)), O, M, a2, f4, (by rw [b3]; exact c)⟩
   ·replace d := d.perm (Nr (Qb (Qr Qz)) Nz)
    refine wj (k := g.Head) (x0 := 0) (vf := (fun (x : Int) => (Value.int .i64 x))) gB oh eB dG d K rfl rfl (fun j9 i5 j4 d d2 => ?_)
    have m := d.has.gq (Dr (Kb Sn))
    refine ⟨m, (X 6 rfl m (oD rfl rfl) (XE 3 rfl (.inl ⟨_, _, zI (k := g.Head) (x0 := 0) (vf := (fun (x : Int) => (Value.int .i64 x))) gB oh eB dG rfl rfl d2 (fun b o q => d.has.2 b o (Ml q)), ⟨m, (X 4 rfl m (iX rfl rfl rfl) (XO 7 rfl (uL (z := (wi0 .i64 e0)) gB oh d d2 rfl rfl rfl (fun k0 g9 d f5 => ?_))))⟩⟩)))⟩
    have m := d.has.gq (Dr (Kb Sn))
    refine ⟨m, (iI kr (gU (gC ?_)))⟩
    replace d := d.gq (Kr (Db St))
    exact ⟨s, (iQ gz u g.Head (wi0 .i64 e0)), g9, _, ⟨rfl, A⟩, (d.gq (Sr (Qr Qz) St)), O, M, a2, f5, (by rw [b3]; exact c)⟩
  refine ic (gU (gC ?_))
  replace d := d.gq (Db St)
  exact ⟨s, u, H, _, ⟨rfl, A⟩, (d.gq St), O, M, a2, K, (by rw [b3]; exact c)⟩
 rintro E W ⟨u, H, b6, ⟨s, A⟩, d, O, M, a2, K, c⟩
 rw [au] at c
 refine gC ?_
 replace d := d.gq (Dr St)
 refine sg (Wa (lS (Wh O (bS c fun a4 g2 c => VE (lB d call12 (ph a5 a0 _ _ (e2.mono (Pl.mono _) (h1.trans d.iG)) g2) (fun k1 c0 b5 b7 d h6 ab Y => V (iu bd rfl Y) (Wm (ln ?_))))))))
 refine CJ c (fun b9 E W => ∃ b4 a9 d9, ST false gN w W b5 (a9 ++ d9) ∧ E 6 = b4 ∧ gI 28 gn 2 b4 b9 a9) (fun b9 g0 => ?_) ?_
 ·refine im (fun i E W => ∃ G a3 D a8, (E 31 = .int .i64 (i : Nat) ∧ E 30 = .int .i64 (a4.length : Nat)) ∧ ST false gN w W b5 (D ++ (b7 ++ (H ++ a8))) ∧ E 3 = v4 ∧ E 6 = G ∧ E 29 = c0 ∧ gI 28 gn 2 G a3 D ∧ kx u (a4.drop i) a3 = some b9) a4.length Y.len ⟨(.slice none 0 0), ([]), [], _, ⟨rfl, rfl⟩, (d.gq St), M, rfl, rfl, (gI.nil _ _ _), g0⟩ dc dc dc (fun _ _ _ h => by obtain ⟨_, _, _, _, L, _⟩ := h; exact L) ?_ ?_
  ·rintro b8 E W f8 ⟨G, a3, D, a8, ⟨s, A⟩, d, b0, Q, T, Z, y⟩
   obtain ⟨t, i9, g4, d5, d6⟩ := hX f8
   rw [g4] at y
   refine bg (VQ (ie (i := (b8 : Int)) (x0 := t) bd aU T s Y (aj _) d5) (fun i3 e6 => V (gu rfl (je d.has (fun p q => (Ma (Ml q))) Y kV e6 d5 cU aU)) (VE (iw d bE (fun h9 N d => VO (gO (.agg (gw t).toArray) ((gw t).toArray) d rfl rfl aU (jO t) nb rfl (fun i0 d => ln (gH ?_))))))))
   replace d := d.drew
   have m := d.has.gq (Kb (Dr (Dr (Kr Sn))))
   refine iy m gW (X 0 rfl m (gA sn rfl) (XH 1 rfl m (fun _ n => gu rfl (gL n Mh rfl bj)) (X 2 rfl m (iX rfl rfl rfl) (X 3 rfl m (gy rfl) (PJ y (fun d8 E W => ∃ c1, ST false gN w W b5 ((N, Ol (gw t) 30) :: (D ++ (b7 ++ (H ++ c1)))) ∧ E 3 = v4 ∧ E 6 = G ∧ E 8 = (.pointer (some ⟨N, 0, none⟩)) ∧ E 29 = c0 ∧ E 30 = (.int .i64 (a4.length : Int)) ∧ E 31 = (.int .i64 (b8 : Int)) ∧ E 42 = (.bool d8)) (bm 17 255) 9 ?_ (fun d8 J a7 => ?_))))))
   ·rintro i6 E W ⟨c1, d, b1, c3, U, c4, c5, c6, f0⟩ e5
    have m := d.has.gq (Kb (Dr (Dr (Kr Sn))))
    refine X 8 rfl m (gy f0) (PJ e5 (fun d7 E W => ∃ c2, ST false gN w W b5 ((N, Ol (gw t) 30) :: (D ++ (b7 ++ (H ++ c2)))) ∧ E 3 = v4 ∧ E 6 = G ∧ E 8 = (.pointer (some ⟨N, 0, none⟩)) ∧ E 29 = c0 ∧ E 30 = (.int .i64 (a4.length : Int)) ∧ E 31 = (.int .i64 (b8 : Int)) ∧ E 51 = (.bool d7)) (bm 17 131071) 0 ?_ (fun d7 I a6 => ?_))
    ·rintro i7 E W ⟨c2, d, c7, c8, f1, c9, d0, d1, f2⟩ B
     refine iI kr (gC (CI B f2 (fun e3 B => ?_) (fun e3 B => ?_)))
     ·refine gE (Wh c8 (V (gA rz f1) (VA d Mh (gn t.gl) ah ae (VE (gS (cs := (gn t.gl).toArray) d (kk rfl) (jB aO ae bt) (fun i1 e9 d => ?_))))))
      replace d := d.perm (Nr (Qb (Qb Qz)) Nz)
      refine bS B fun g5 e4 B => VE (jn (enc := gn) (v := G) (vs := (.slice (some ⟨e9, 0, none⟩) 1 1)) (R := D) d kP dc kX aO kA.1 kA.2.1 rfl kA.2.2.1 kA.2.2.2 rfl rfl Z (Sl.lit (enc := gn) (l := [t.gl]) kP rfl nb rfl (d.at_ (Ma Mh))) e4 (fun i2 g6 e8 d e1 => Wa (gM (gU (gC ?_)))))
      replace d := d.gq (Kr (Db (Db St)))
      exact ⟨d1, g6, g5, e8, _, ⟨rfl, d0⟩, (d.gq St), c7, rfl, c9, e1, (by rw [d6]; exact B)⟩
     refine ic (gU (gC ?_))
     replace d := d.gq (Db St)
     exact ⟨d1, G, a3, D, _, ⟨rfl, d0⟩, (d.gq St), c7, c8, c9, Z, (by rw [d6]; exact B)⟩
    refine bC I (fun a I => ?_) (fun a I => ?_)
    ·refine Xg 9 rfl rfl (cB a) m (gy b1) (Xg 10 rfl rfl (cB a) m (gA rz U) (nn 11 rfl rfl (cB a) m (fun _ n => gu rfl (gD n Mh (gn t.gl) rfl ah ae)) (nn 12 rfl rfl (cB a) m (fun _ n => oB (k := t.gl) (z := 0) (vf := (fun (x : Int) => (Value.int .i64 x))) oh eB dG rfl rfl (K.at (fun b o q => n.2 b o (Mt (Ml q))))) (Xg 13 rfl rfl (cB a) m (gA sn U) (nn 14 rfl rfl (cB a) m (fun _ n => gu rfl (gL n Mh rfl bj)) (Xg 15 rfl rfl (cB a) m (iX rfl rfl rfl) (X 16 rfl m (gK (cB a) rfl) ?_)))))))
     obtain rfl := sj I
     refine iH kr (a6 _ _ ⟨_, (d.gq St), b1, c3, U, c4, c5, c6, rfl⟩)
    refine Xn 9 rfl rfl (cB a) m (Xn 10 rfl rfl (cB a) m (Xn 11 rfl rfl (cB a) m (Xn 12 rfl rfl (cB a) m (Xn 13 rfl rfl (cB a) m (Xn 14 rfl rfl (cB a) m (Xn 15 rfl rfl (cB a) m (X 16 rfl m (gJ (cB a) rfl) ?_)))))))
    obtain rfl := sj I
    refine iH kr (a6 _ _ ⟨_, (d.gq St), b1, c3, U, c4, c5, c6, rfl⟩)
   refine bC J (fun j J => ?_) (fun j J => ?_)
   ·refine Xg 4 rfl rfl (cB j) m (gA oR rfl) (nn 5 rfl rfl (cB j) m (fun _ n => gu rfl (gL n Mh rfl bj)) (Xg 6 rfl rfl (cB j) m (iX rfl rfl rfl) (X 7 rfl m (gK (cB j) rfl) ?_)))
    obtain rfl := sj J
    refine iH kr (a7 _ _ ⟨_, (d.gq St), b0, Q, rfl, T, A, s, rfl⟩)
   refine Xn 4 rfl rfl (cB j) m (Xn 5 rfl rfl (cB j) m (Xn 6 rfl rfl (cB j) m (X 7 rfl m (gJ (cB j) rfl) ?_)))
   obtain rfl := sj J
   refine iH kr (a7 _ _ ⟨_, (d.gq St), b0, Q, rfl, T, A, s, rfl⟩)
  rintro E W ⟨G, a3, D, a8, ⟨s, A⟩, d, b0, Q, T, Z, y⟩
  rw [au] at y
  refine gC ?_
  obtain rfl := sj y
  exact ⟨G, D, _, (d.gq (Kr (Dr (Dr St)))), Q, Z⟩
 rintro k3 E W ⟨b4, a9, d9, d, h0, d3⟩ f9
 refine sg (Wh h0 (Wa (lt ?_)))
 obtain rfl := sj f9
 exact ij (v := b4) rfl rfl ⟨_, a9, rfl, d.jd (fun p q => (Ml q)) d3.nd, d3⟩
set_option maxHeartbeats 4000000 in
theorem yJ (r : Bool) (w : World) (hm : oP  = some r) :
  iC false pg0 10 [] w (.bool r) := by
 refine cG 76 func10 rfl (fun n => sg (Wa (lr (V (ko (v := (.agg (gn K7).toArray)) (mB rfl rfl) (jq bt bD (zY _ bD) kr)) (V (ko (v := (.agg (gn K6).toArray)) (mB rfl rfl) (jq bt bD (zY _ bD) kr)) (VE (iw n bt (fun W2 b1 n => VE (iw n bt (fun W4 o n => ?_))))))))))
 replace n := n.perm (Nb (Pb Pz) Nz)
 refine VO (gO (.agg (gn K7).toArray) ((gn K7).toArray) n rfl rfl ae (kX K7) nb rfl (fun W5 n => ?_))
 replace n := n.perm (Nb (Pb Pz) Nz)
 refine VO (gO (.agg (gn K6).toArray) ((gn K6).toArray) n rfl rfl ae (kX K6) nb rfl (fun W6 n => lr (VA n (Mt Mh) (gn K7) ah ae (VA n Mh (gn K6) ah ae (V (ko (v := (.agg (gp tN).toArray)) (xF rfl rfl rfl) (jq aT bM (BB _ bM) kr)) (VA n Mh (gn K6) ah ae (V (ko (v := (.agg (gp tV).toArray)) (xF rfl rfl rfl) (jq aT bM (BB _ bM) kr)) (VE (gS (cs := C1.toArray) n (mB rfl rfl) (jB ai ag aT) (fun W8 u n => Wa (ln (gH ?_))))))))))))
 refine gE (Wm (bS hm fun r9 i7 hm => VE (lB n call12 (ph (.slice (some ⟨u, 0, none⟩) 2 2) ([tN, tV]) _ _ (Sl.lit (enc := gp) (l := [tN, tV]) ia rfl nb rfl (n.at_ Mh)) i7) (fun l8 m3 T Q n j6 ao P => Wa (lr (Wm (bS hm fun x i8 hm => VE (Eg n call14 (si (.slice (some ⟨u, 0, none⟩) 2 2) ([tN, tV]) _ _ (Sl.lit (enc := gp) (l := [tN, tV]) ia rfl nb rfl (n.at_ (Ma Mh))) i8) (fun l9 n => Wm (Wx rfl (Wx rfl ?_)))))))))))
 let a0 : Value := (.slice (some ⟨u, 0, none⟩) 2 2)
 refine VE (iw n bE (fun m0 G n => VO (gO (.agg (gw x.1).toArray) ((gw x.1).toArray) n rfl rfl aU (jO x.1) nb rfl (fun m1 n => Wa (lr (Wm (VA n (Mt (Ma (Mt (Mt Mh)))) (gn K7) ah ae (V (ko (v := (.agg (gG (⟨K7, K5⟩ : gr)).toArray)) (mB rfl rfl) (jq cu bq (xJ _ bq) kr)) (bS hm fun Y i9 hm => VE (Eg n call18 (zw a0 ([tN, tV]) (⟨K7, K5⟩ : gr) _ _ (Sl.lit (enc := gp) (l := [tN, tV]) ia rfl nb rfl (n.at_ (Mt (Ma Mh)))) i9) (fun m2 n => Wm (Wx rfl (Wx rfl ?_)))))))))))))
 refine Wa (Wa (ln ?_))
 replace n := n.gq (Kb (Kr (Kb (Kb (Db St)))))
 refine gH ?_
 replace n := n.drew
 have d := n.has.gq (Kb (Kr (Db (Kb Sn))))
 refine iy d gW (X 0 rfl d (gy rfl) (X 1 rfl d (iu bd rfl P) (X 2 rfl d (iX rfl rfl rfl) (X 3 rfl d (gy rfl) (PJ hm (fun f5 E W => ∃ c1, ST false gN w W T ((G, Ol (gw x.1) 30) :: ((u, Ol C1 108) :: ((o, Ol (gn K6) 28) :: (Q ++ c1)))) ∧ E 0 = (.bool false) ∧ E 2 = (.pointer (some ⟨o, 0, none⟩)) ∧ E 3 = a0 ∧ E 5 = (.pointer (some ⟨G, 0, none⟩)) ∧ E 6 = (.bool x.2) ∧ E 7 = (.int .i64 Y.1) ∧ E 8 = (.bool Y.2) ∧ E 41 = (.bool f5)) (bm 46 2047) 35 ?_ (fun f5 D b4 => ?_))))))
 ·let j1 := ((gn K6).toArray : Array Value)
  let q := ((gw x.1).toArray : Array Value)
  rintro k9 E W ⟨c1, n, c9, d0, d1, d2, h3, d3, d4, h4⟩ f9
  have d := n.has.gq (Kb (Db (Sr (Qb Qz) (Kb Sn))))
  refine X 11 rfl d (gy h4) (PJ f9 (fun f4 E W => ∃ c2, ST false gN w W T ((G, Obj.cells q 30 (0, 0)) :: ((u, Ol C1 108) :: ((o, Obj.cells j1 28 (0, 0)) :: (Q ++ c2)))) ∧ E 0 = (.bool false) ∧ E 2 = (.pointer (some ⟨o, 0, none⟩)) ∧ E 3 = a0 ∧ E 5 = (.pointer (some ⟨G, 0, none⟩)) ∧ E 7 = (.int .i64 Y.1) ∧ E 8 = (.bool Y.2) ∧ E 44 = (.bool f4)) (bm 46 16383) 32 ?_ (fun f4 N b2 => ?_))
  ·rintro l0 E W ⟨c2, n, d5, h5, d6, h6, d7, d8, h7⟩ g0
   have d := n.has.gq (Kb (Db (Sr (Qb Qz) (Kb Sn))))
   refine X 14 rfl d (gy h7) (PJ g0 (fun f3 E W => ∃ c3, ST false gN w W T ((G, Obj.cells q 30 (0, 0)) :: ((u, Ol C1 108) :: ((o, Obj.cells j1 28 (0, 0)) :: (Q ++ c3)))) ∧ E 0 = (.bool false) ∧ E 3 = a0 ∧ E 7 = (.int .i64 Y.1) ∧ E 8 = (.bool Y.2) ∧ E 50 = (.bool f3)) (bm 46 1048575) 26 ?_ (fun f3 M b0 => ?_))
   ·rintro l1 E W ⟨c3, n, d9, e0, e1, h8, h9⟩ g1
    have d := n.has.gq (Kb (Db (Sr (Qb Qz) (Kb Sn))))
    refine X 20 rfl d (gy h9) (PJ g1 (fun f2 E W => ∃ c4, ST false gN w W T ((G, Obj.cells q 30 (0, 0)) :: ((u, Ol C1 108) :: ((o, Obj.cells j1 28 (0, 0)) :: (Q ++ c4)))) ∧ E 0 = (.bool false) ∧ E 3 = a0 ∧ E 7 = (.int .i64 Y.1) ∧ E 53 = (.bool f2)) (bm 46 8388607) 23 ?_ (fun f2 K a9 => ?_))
    ·rintro l2 E W ⟨c4, n, e2, e3, i0, i1⟩ g2
     have d := n.has.gq (Kb (Db (Sr (Qb Qz) (Kb Sn))))
     refine X 23 rfl d (gy i1) (PJ g2 (fun f1 E W => ∃ c5, ST false gN w W T ((G, Obj.cells q 30 (0, 0)) :: ((u, Ol C1 108) :: ((o, Obj.cells j1 28 (0, 0)) :: (Q ++ c5)))) ∧ E 0 = (.bool false) ∧ E 3 = a0 ∧ E 57 = (.bool f1)) (bm 46 134217727) 19 ?_ (fun f1 J a8 => ?_))
     ·rintro l3 E W ⟨c5, n, e4, L, i2⟩ g3
      have d := n.has.gq (Kb (Db (Sr (Qb Qz) (Kb Sn))))
      refine X 27 rfl d (gy i2) (PJ g3 (fun f0 E W => ∃ c6, ST false gN w W T ((G, Obj.cells q 30 (0, 0)) :: ((u, Ol C1 108) :: ((o, Obj.cells j1 28 (0, 0)) :: (Q ++ c6)))) ∧ E 0 = (.bool false) ∧ E 3 = a0 ∧ E 62 = (.bool f0)) (bm 46 4294967295) 14 ?_ (fun f0 B a7 => ?_))
      ·rintro l4 E W ⟨c6, n, e5, O, i3⟩ g4
       have d := n.has.gq (Kb (Db (Sr (Qb Qz) (Kb Sn))))
       refine X 32 rfl d (gy i3) (PJ g4 (fun e9 E W => ∃ Z c7, ig T Z ∧ ST false gN w W Z ((G, Obj.cells q 30 (0, 0)) :: ((u, Ol C1 108) :: ((o, Obj.cells j1 28 (0, 0)) :: (Q ++ c7)))) ∧ E 0 = (.bool false) ∧ E 3 = a0 ∧ E 68 = (.bool e9)) (bm 46 274877906943) 8 ?_ (fun e9 z a6 => ?_))
       ·rintro l5 E W ⟨Z, c7, U, n, e6, i4, i5⟩ g5
        have d := n.has.qP U (Kb (Db (Sr (Qb Qz) (Kb Sn))))
        refine X 38 rfl d (gy i5) (PJ g5 (fun e8 E W => ∃ b9 c8, ig Z b9 ∧ ST false gN w W b9 ((G, Obj.cells q 30 (0, 0)) :: ((o, Obj.cells j1 28 (0, 0)) :: (Q ++ c8))) ∧ E 0 = (.bool false) ∧ E 75 = (.bool e8)) (bm 46 35184372088831) 1 ?_ (fun e8 t a5 => ?_))
        ·rintro l6 E W ⟨b9, c8, e7, n, k2, i6⟩ g6
         have d := n.has.qP (U.trans e7) (Kb (Sr (Qb Qz) (Kb Sn)))
         refine X 45 rfl d (kc i6) (iI kr (gC ?_))
         exact iq (rQ g6 n)
        refine bC t (fun c t => ?_) (fun c t => ?_)
        ·refine Xg 39 rfl rfl (cB c) d (gy i4) ?_
         replace n := n.perm (Nb (Pb Pz) Nz)
         have j5 : Fr w.heap.size a0 := Fr.box n Mh
         obtain ⟨l7, n, a2, ab, h2⟩ := ST.zZ (R := [(u, Ol C1 108)]) n (gI.lit (l := [tN, tV]) (enc := gp) (b := u) (m := 2) rfl dc rfl rfl) ia
         refine bS t fun _ c0 t => um 40 rfl kr (.inr ⟨38, true, 69, rfl, rfl, by decide, (cB c)⟩) rfl dc (fun _ _ h => h) d (tA (i := 1) ai ag rfl rfl h2 (pZ c0) (pW c0)) (fun j0 h1 => bS t fun k4 g8 t => uG 41 rfl rfl (cB c) (lB n call16 (qh j0 (([tN, tV]).drop (Int.toNat 1)) _ _ (h1.1.mono (Pl.mono _) n.iG) g8) (fun j9 k7 j3 j7 n a3 ad f7 => ?_)))
         have d := n.has.qP ((U.trans a2).trans a3) (Dr (Kb (Sr (Qb Qz) (Kb Sn))))
         refine ⟨d, (Xg 42 rfl rfl (cB c) d (iu aO rfl f7) (Xg 43 rfl rfl (cB c) d (iX rfl rfl rfl) (X 44 rfl d (gK (cB c) rfl) ?_)))⟩
         obtain rfl := sj t
         refine iH kr (a5 _ _ ⟨j3, _, (a2.trans a3), (n.gq (Dr St)), e6, rfl⟩)
        refine Xn 39 rfl rfl (cB c) d (Xn 40 rfl rfl (cB c) d (Xn 41 rfl rfl (cB c) d (Xn 42 rfl rfl (cB c) d (Xn 43 rfl rfl (cB c) d (X 44 rfl d (gJ (cB c) rfl) ?_)))))
        obtain rfl := sj t
        refine iH kr (a5 _ _ ⟨Z, _, (ig.refl _), (n.gq (Kb (Db St))), e6, rfl⟩)
       refine bC z (fun j z => ?_) (fun j z => ?_)
       ·refine Xg 33 rfl rfl (cB j) d (gy O) (bS z fun k5 g9 z => uG 34 rfl rfl (cB j) (lB n call16 (qh a0 ([tN, tV]) _ _ (Sl.lit (enc := gp) (l := [tN, tV]) ia rfl nb rfl (n.at_ (Mt Mh))) g9) (fun k0 k8 j4 j8 n a4 af f8 => ?_)))
        have d := n.has.qP a4 (Dr (Kb (Db (Sr (Qb Qz) (Kb Sn)))))
        refine ⟨d, (Xg 35 rfl rfl (cB j) d (iu aO rfl f8) (Xg 36 rfl rfl (cB j) d (iX rfl rfl rfl) (X 37 rfl d (gK (cB j) rfl) ?_)))⟩
        obtain rfl := sj z
        refine iH kr (a6 _ _ ⟨j4, _, a4, (n.gq (Dr St)), e5, O, rfl⟩)
       refine Xn 33 rfl rfl (cB j) d (Xn 34 rfl rfl (cB j) d (Xn 35 rfl rfl (cB j) d (Xn 36 rfl rfl (cB j) d (X 37 rfl d (gJ (cB j) rfl) ?_))))
       obtain rfl := sj z
       refine iH kr (a6 _ _ ⟨T, _, (ig.refl _), (n.gq St), e5, O, rfl⟩)
      refine bC B (fun k B => ?_) (fun k B => ?_)
      ·refine Xg 28 rfl rfl (cB k) d (gy L) (bS B fun k6 h0 B => uG 29 rfl rfl (cB k) (Eg n call20 (zX a0 ([tN, tV]) _ _ (Sl.lit (enc := gp) (l := [tN, tV]) ia rfl nb rfl (n.at_ (Mt Mh))) h0) (fun k1 n => ?_)))
       have d := n.has.gq (Kb (Db (Sr (Qb Qz) (Kb Sn))))
       refine ⟨d, (Xg 30 rfl rfl (cB k) d (iX rfl rfl rfl) (X 31 rfl d (gK (cB k) rfl) ?_))⟩
       obtain rfl := sj B
       refine iH kr (a7 _ _ ⟨_, (n.gq St), e4, L, rfl⟩)
      refine Xn 28 rfl rfl (cB k) d (Xn 29 rfl rfl (cB k) d (Xn 30 rfl rfl (cB k) d (X 31 rfl d (gJ (cB k) rfl) ?_)))
      obtain rfl := sj B
      refine iH kr (a7 _ _ ⟨_, (n.gq St), e4, L, rfl⟩)
     refine bC J (fun y J => ?_) (fun y J => ?_)
     ·refine Xg 24 rfl rfl (cB y) d (gy i0) (Xg 25 rfl rfl (cB y) d (iX rfl rfl rfl) (X 26 rfl d (gK (cB y) rfl) ?_))
      obtain rfl := sj J
      refine iH kr (a8 _ _ ⟨_, (n.gq St), e2, e3, rfl⟩)
     refine Xn 24 rfl rfl (cB y) d (Xn 25 rfl rfl (cB y) d (X 26 rfl d (gJ (cB y) rfl) ?_))
     obtain rfl := sj J
     refine iH kr (a8 _ _ ⟨_, (n.gq St), e2, e3, rfl⟩)
    refine bC K (fun I K => ?_) (fun I K => ?_)
    ·refine Xg 21 rfl rfl (cB I) d (gy h8) (X 22 rfl d (gK (cB I) rfl) ?_)
     obtain rfl := sj K
     refine iH kr (a9 _ _ ⟨_, (n.gq St), d9, e0, e1, rfl⟩)
    refine Xn 21 rfl rfl (cB I) d (X 22 rfl d (gJ (cB I) rfl) ?_)
    obtain rfl := sj K
    refine iH kr (a9 _ _ ⟨_, (n.gq St), d9, e0, e1, rfl⟩)
   refine bC M (fun g M => ?_) (fun g M => ?_)
   ·refine Xg 15 rfl rfl (cB g) d (gA rz h6) (nn 16 rfl rfl (cB g) d (fun _ s => gu rfl (gD s Mh (gn x.1.gl) rfl ah ae)) (nn 17 rfl rfl (cB g) d (fun _ s => gu h5 (gD s (Mt (Ma Mh)) (gn K6) rfl ah ae)) (Xg 18 rfl rfl (cB g) d (od rfl rfl (jw ck) (lR (jZ _ x.1.gl K6))) (X 19 rfl d (gK (cB g) rfl) ?_))))
    obtain rfl := sj M
    refine iH kr (b0 _ _ ⟨_, (n.gq St), d5, d6, d7, d8, rfl⟩)
   refine Xn 15 rfl rfl (cB g) d (Xn 16 rfl rfl (cB g) d (Xn 17 rfl rfl (cB g) d (Xn 18 rfl rfl (cB g) d (X 19 rfl d (gJ (cB g) rfl) ?_))))
   obtain rfl := sj M
   refine iH kr (b0 _ _ ⟨_, (n.gq St), d5, d6, d7, d8, rfl⟩)
  refine bC N (fun H N => ?_) (fun H N => ?_)
  ·refine Xg 12 rfl rfl (cB H) d (gy h3) (X 13 rfl d (gK (cB H) rfl) ?_)
   obtain rfl := sj N
   refine iH kr (b2 _ _ ⟨_, (n.gq St), c9, d0, d1, d2, d3, d4, rfl⟩)
  refine Xn 12 rfl rfl (cB H) d (X 13 rfl d (gJ (cB H) rfl) ?_)
  obtain rfl := sj N
  refine iH kr (b2 _ _ ⟨_, (n.gq St), c9, d0, d1, d2, d3, d4, rfl⟩)
 refine bC D (fun a D => ?_) (fun a D => ?_)
 ·refine Xg 4 rfl rfl (cB a) d (gy rfl) (bS D fun f6 A D => um 5 rfl kr (.inr ⟨3, true, 34, rfl, rfl, by decide, (cB a)⟩) rfl dc (fun _ _ h => h) d (ie (i := 1) (x0 := f6) bd aU rfl rfl P (iD A) (hZ A)) (fun k3 g7 => nn 6 rfl rfl (cB a) d (fun _ s => gu rfl (je s (fun p hq => (Mt (Ml hq))) P kV g7 (hZ A) cU aU)) (nn 7 rfl rfl (cB a) d (fun _ s => gu rfl (gD s (Mt (Ma Mh)) (gn K6) rfl ah ae)) (Xg 8 rfl rfl (cB a) d (ko (v := (.agg (gw (⟨K6, 1, 1, 1⟩ : gx)).toArray)) (zi rfl rfl rfl rfl) (jq bE bK (zM _ bK) kr)) (Xg 9 rfl rfl (cB a) d (od rfl rfl (jw eqGuardType30) (lR (ue _ f6 (⟨K6, 1, 1, 1⟩ : gx)))) (X 10 rfl d (gK (cB a) rfl) ?_))))))
  obtain rfl := sj D
  refine iH kr (b4 _ _ ⟨_, (n.gq (Kb (Sb (Pr Pz) (Sb (Pr Pz) St)))), rfl, rfl, rfl, rfl, rfl, rfl, rfl, rfl⟩)
 refine Xn 4 rfl rfl (cB a) d (Xn 5 rfl rfl (cB a) d (Xn 6 rfl rfl (cB a) d (Xn 7 rfl rfl (cB a) d (Xn 8 rfl rfl (cB a) d (Xn 9 rfl rfl (cB a) d (X 10 rfl d (gJ (cB a) rfl) ?_))))))
 obtain rfl := sj D
 refine iH kr (b4 _ _ ⟨_, (n.gq (Kb (Sb (Pr Pz) (Sb (Pr Pz) St)))), rfl, rfl, rfl, rfl, rfl, rfl, rfl, rfl⟩)
theorem yW (k : Value) (u : List gm) (r : Int) (w : World) (j : Sl (Pl gp) 9 (hp w) k u) (hm : rI u = some r) :
  iC true pg0 11 [k] w (.int .i64 r) := by
 refine cG 54 func11 rfl (fun b => sg (Wa (lr (Wa (lS (Wm ?_))))))
 refine V (kF ai rfl j) (Wm (ln (im (fun i E W => ∃ g t, (E 8 = .int .i64 (i : Nat) ∧ E 7 = .int .i64 (u.length : Nat)) ∧ ST true gN w W (hp w) t ∧ E 3 = (.int .i64 g) ∧ E 6 = k ∧ lu (u.drop i) g = some r) u.length j.len ⟨0, _, ⟨rfl, rfl⟩, (b.gq St), rfl, rfl, hm⟩ dc dc dc (fun _ _ _ h => by obtain ⟨_, _, l, _⟩ := h; exact l) ?_ ?_)))
 ·rintro I E W z ⟨g, t, ⟨d, m⟩, b, x, y, c⟩
  obtain ⟨a, J, G, D, H⟩ := hX z
  rw [G] at c
  refine bg (VQ (iZ (enc := gp) (i := (I : Int)) (x0 := a) ai ag y d j (aj _) D) (fun Q B => V (gu rfl (jM b.has B aM ag)) (VE (iw b aT (fun K N b => VO (gO (.agg (gp a).toArray) ((gp a).toArray) b rfl rfl ag (js a) nb rfl (fun M b => ln (gE (Wh x (Wf jz (Wf kz (VB b Mh rfl rfl aG (V (mi aR rfl) ?_)))))))))))))
  refine Wi rfl (Wf jz (Wf oT (VB b Mh rfl rfl aG (V (mi aR rfl) (Wi rfl (Wf mE (VB b Mh rfl rfl aG (V (mi aR rfl) (Wi rfl (Wf iK (Wf kz (VB b Mh rfl rfl aG (V (mi aR rfl) (Wi rfl ?_))))))))))))))
  refine Wf iK (Wf oT (VB b Mh rfl rfl aG (V (mi aR rfl) (Wi rfl (Wf kp (Wf kz (VB b Mh rfl rfl aG (V (mi aR rfl) (Wi rfl (Wf kp (Wf oT (VB b Mh rfl rfl aG (V (mi aR rfl) (Wi rfl ?_))))))))))))))
  refine Wf ml (VB b Mh rfl rfl aG (V (mi aR rfl) (Wi rfl (Wi rfl (Wa (gM (gU (gC ?_))))))))
  replace b := b.gq (Db St)
  exact ⟨d, (wi0 .i64 (g + (wi0 .i64 ((wi0 .i64 ((wi0 .i64 ((wi0 .i64 ((wi0 .i64 ((wi0 .i64 ((wi0 .i64 ((wi0 .i64 (20 + (a.Head.gF.size : Int))) + (a.Head.gY.size : Int))) + (a.gP.size : Int))) + (a.B.gF.size : Int))) + (a.B.gY.size : Int))) + (a.C.gF.size : Int))) + (a.C.gY.size : Int))) + (a.gZ.size : Int))))), _, ⟨rfl, m⟩, (b.gq St), rfl, y, (by rw [H]; exact c)⟩
 rintro E W ⟨g, t, ⟨d, m⟩, b, x, y, c⟩
 rw [au] at c
 exact gC (sg (Wh x (Wa (lt (rQ c b)))))
theorem oL (M : ByteArray) (r : Bool) (w : World) (hm : lV M = some r) :
  iC true pg0 138 [(.string M)] w (.bool r) := by
 refine cG 49 func138 rfl (fun b => sg (Wa (lS (Wm (V (lY rfl rfl rfl) (Wm (LJ hm (fun c6 E W => ∃ L3, ST true gN w W (hp w) L3 ∧ E 0 = (.string M) ∧ E 11 = (.bool c6)) 4 ?_ (fun c6 K a5 => ?_))))))))
 ·rintro x2 E W ⟨L3, b, o, e6⟩ f6
  refine Wh e6 (LJ f6 (fun c5 E W => ∃ d2, ST true gN w W (hp w) d2 ∧ E 0 = (.string M) ∧ E 16 = (.bool c5)) 4 ?_ (fun c5 x a4 => ?_))
  ·rintro g3 E W ⟨d2, b, n, f3⟩ e9
   refine Wh f3 (LJ e9 (fun c4 E W => ∃ d3, ST true gN w W (hp w) d3 ∧ E 0 = (.string M) ∧ E 21 = (.bool c4)) 4 ?_ (fun c4 u a3 => ?_))
   ·rintro g4 E W ⟨d3, b, f4, f5⟩ Q
    refine ln (CI Q f5 (fun e8 Q => ?_) (fun e8 Q => ?_))
    ·refine sg (Wa (lt (iv ?_)))
     obtain rfl := sj Q
     exact rP b
    refine kS (Wa (ln (ji (lT (fun m E W => ∃ y v, ST true gN w W (hp w) v ∧ E 0 = (.string M) ∧ E 3 = (.int .i64 y) ∧ lm M m y = some r) jj ⟨0, _, (b.gq St), f4, rfl, Q⟩ ?_))))
    rintro m E W ⟨y, v, b, T, U, c⟩
    cases m with
    | zero => rw [lm] at c; cases c
    | succ f0 =>
     refine gH (sg (Wh U (Wh T (V (mi aR rfl) (Wi rfl (ln (CI c rfl (fun c7 c => ?_) (fun c7 c => ?_))))))))
     ·refine kn (gH (bg (Wh T (Wh U (bS c fun d a9 c => V (sd (i := y) aR rfl rfl (rh a9) (uc a9)) (Wa (lr ?_)))))))
      refine Wm (Wi rfl (Wm (LJ c (fun c3 E W => ∃ A, ST true gN w W (hp w) A ∧ E 0 = (.string M) ∧ E 3 = (.int .i64 y) ∧ E 4 = (.int .u8 (d.toNat : Int)) ∧ E 36 = (.bool c3)) 3 ?_ (fun c3 J a2 => ?_))))
      ·rintro f1 E W ⟨A, b, h, l, N, d4⟩ c9
       refine Wh d4 (LJ c9 (fun c1 E W => ∃ L, ST true gN w W (hp w) L ∧ E 0 = (.string M) ∧ E 3 = (.int .i64 y) ∧ E 4 = (.int .u8 (d.toNat : Int)) ∧ E 44 = (.bool c1)) 7 ?_ (fun c1 H Z => ?_))
       ·rintro g0 E W ⟨L, b, R, b9, d5, d6⟩ d0
        refine Wh d6 (LJ d0 (fun c0 E W => ∃ O, ST true gN w W (hp w) O ∧ E 0 = (.string M) ∧ E 3 = (.int .i64 y) ∧ E 48 = (.bool c0)) 3 ?_ (fun c0 G Y => ?_))
        ·rintro g1 E W ⟨O, b, d7, d8, d9⟩ D
         refine ln (CI D d9 (fun c8 D => ?_) (fun c8 D => ?_))
         ·refine sg (Wa (lt (jU (iv (iv (jU (iv ?_)))))))
          obtain rfl := sj D
          exact rP b
         exact ic (gU (gC (gE (Wh d8 (Wi rfl (Wa (ln ⟨f0, bn _, (wi0 .i64 (y + 1)), _, (b.gq St), d7, rfl, D⟩)))))))
        refine bC G (fun k G => ?_) (fun k G => ?_)
        ·refine ug k (gy d5) (ug k (iX rfl rfl rfl) (V (gK (cB k) rfl) ?_))
         obtain rfl := sj G
         exact Y _ _ ⟨_, (b.gq St), R, b9, rfl⟩
        refine un k (un k (V (gJ (cB k) rfl) ?_))
        obtain rfl := sj G
        exact Y _ _ ⟨_, (b.gq St), R, b9, rfl⟩
       refine bC H (fun a H => ?_) (fun a H => ?_)
       ·refine ug a (gy N) (ug a (iX rfl rfl rfl) (ug a (gy rfl) (LJ H (fun c2 E W => ∃ P, ST true gN w W (hp w) P ∧ E 0 = (.string M) ∧ E 3 = (.int .i64 y) ∧ E 4 = (.int .u8 (d.toNat : Int)) ∧ E 37 = (.bool f1) ∧ E 43 = (.bool c2)) 3 ?_ (fun c2 I p => ?_))))
        ·rintro g2 E W ⟨P, b, e0, e1, e2, e3, e4⟩ d1
         refine V (gK (e3.trans (cB a)) e4) ?_
         obtain rfl := sj d1
         exact Z _ _ ⟨_, (b.gq St), e0, e1, e2, rfl⟩
        refine bC I (fun t I => ?_) (fun t I => ?_)
        ·refine un t (un t (ug a (gK (cB t) rfl) ?_))
         obtain rfl := sj I
         exact p _ _ ⟨_, (b.gq St), h, l, N, rfl, rfl⟩
        refine ug t (gy N) (ug t (iX rfl rfl rfl) (ug a (gJ (cB t) rfl) ?_))
        obtain rfl := sj I
        exact p _ _ ⟨_, (b.gq St), h, l, N, rfl, rfl⟩
       refine un a (un a (un a (Vu rfl rfl (Vu rfl rfl (un a (V (gJ (cB a) rfl) ?_))))))
       obtain rfl := sj H
       exact Z _ _ ⟨_, (b.gq St), h, l, N, rfl⟩
      refine bC J (fun j J => ?_) (fun j J => ?_)
      ·refine un j (un j (V (gK (cB j) rfl) ?_))
       obtain rfl := sj J
       exact a2 _ _ ⟨_, (b.gq St), T, U, rfl, rfl⟩
      refine ug j (gy rfl) (ug j (iX rfl rfl rfl) (V (gJ (cB j) rfl) ?_))
      obtain rfl := sj J
      exact a2 _ _ ⟨_, (b.gq St), T, U, rfl, rfl⟩
     exact oy (nB (nB (sv (gC (sg (Wa (lt (rQ c b))))))))
   refine bC u (fun g u => ?_) (fun g u => ?_)
   ·refine un g (un g (un g (V (gK (cB g) rfl) ?_)))
    obtain rfl := sj u
    exact a3 _ _ ⟨_, (b.gq St), n, rfl⟩
   refine ug g (gy n) (bS u fun f7 q u => ug g (sd (i := 0) aR rfl rfl (rh q) (uc q)) (ug g (iX rfl rfl rfl) (V (gJ (cB g) rfl) ?_)))
   obtain rfl := sj u
   exact a3 _ _ ⟨_, (b.gq St), n, rfl⟩
  refine bC x (fun B x => ?_) (fun B x => ?_)
  ·refine un B (un B (un B (V (gK (cB B) rfl) ?_)))
   obtain rfl := sj x
   exact a4 _ _ ⟨_, (b.gq St), o, rfl⟩
  refine ug B (gy o) (bS x fun f8 s x => ug B (sd (i := 0) aR rfl rfl (rh s) (uc s)) (ug B (iX rfl rfl rfl) (V (gJ (cB B) rfl) ?_)))
  obtain rfl := sj x
  exact a4 _ _ ⟨_, (b.gq St), o, rfl⟩
 refine bC K (fun z K => ?_) (fun z K => ?_)
 ·refine un z (un z (un z (V (gK (cB z) rfl) ?_)))
  obtain rfl := sj K
  exact a5 _ _ ⟨_, (b.gq St), rfl, rfl⟩
 refine ug z (gy rfl) (ug z (mi aR rfl) (ug z (iX rfl rfl rfl) (V (gJ (cB z) rfl) ?_)))
 obtain rfl := sj K
 exact a5 _ _ ⟨_, (b.gq St), rfl, rfl⟩
theorem pX (i : gl) (r : Bool) (w : World) (hm : mM i = some r) :
  iC true pg0 88 [(.agg (gn i).toArray)] w (.bool r) := by
 refine cG 11 func88 rfl (fun b => sg (VE (iP b rfl (fun H J b => Wa (lr (Wf kz (VB b Mh rfl rfl aG (bS hm fun K y hm => VE (Eg b call138 (oL i.gF _ _  y) (fun I b => Wm (LJ hm (fun k E W => ∃ j, ST true gN w W (hp w) j ∧ E 2 = (.bool false) ∧ E 10 = (.bool k)) 4 ?_ (fun k a g => ?_))))))))))))
 ·rintro G E W ⟨j, b, B, x⟩ t
  exact Wg x (lt (rQ t b))
 refine bC a (fun c a => ?_) (fun c a => ?_)
 ·refine ug c (gA oT rfl) (ug c (gu rfl (gL b.has Mh rfl aG)) (bS a fun D u a => oM c (Eg b call138 (oL i.gY _ _  u) (fun z b => V (gK (cB c) rfl) ?_))))
  obtain rfl := sj a
  exact g _ _ ⟨_, (b.gq (Db St)), rfl, rfl⟩
 refine un c (un c (un c (V (gJ (cB c) rfl) ?_)))
 obtain rfl := sj a
 exact g _ _ ⟨_, (b.gq (Db St)), rfl, rfl⟩
theorem qK (t u : gl) (r : Bool) (w : World) (hm : nv t u = some r) :
  iC true pg0 107 [(.agg (gn t).toArray), (.agg (gn u).toArray)] w (.bool r) := by
 refine cG 24 func107 rfl (fun b => sg (VE (iP b rfl (fun T Y b => VE (iP b rfl (fun U Z b => Wa (lr (Wf kz (VB b (Mt Mh) rfl rfl aG (Wf kz (VB b Mh rfl rfl aG (V (lY rfl rfl rfl) ?_))))))))))))
 refine Wm (LJ hm (fun z E W => ∃ x, ST true gN w W (hp w) x ∧ E 4 = (.bool false) ∧ E 23 = (.bool z)) 13 ?_ (fun z g j => ?_))
 ·rintro N E W ⟨x, b, M, H⟩ D
  exact Wg H (lt (rQ D b))
 refine bC g (fun a g => ?_) (fun a g => ?_)
 ·refine un a (un a (un a (un a (un a (un a (Vu rfl rfl (Vu rfl rfl (Vu rfl rfl (Vu rfl rfl (Vu rfl rfl (un a (V (gK (cB a) rfl) ?_))))))))))))
  obtain rfl := sj g
  exact j _ _ ⟨_, (b.gq (Db (Db St))), rfl, rfl⟩
 refine ug a (gA kz rfl) (ug a (gu rfl (gL b.has (Mt Mh) rfl aG)) (ug a (gA kz rfl) (ug a (gu rfl (gL b.has Mh rfl aG)) (ug a (lY rfl rfl rfl) (ug a (gy rfl) (LJ g (fun B E W => ∃ y, ST true gN w W (hp w) y ∧ E 4 = (.bool false) ∧ E 10 = (.bool (kL t.gF u.gF)) ∧ E 22 = (.bool B)) 6 ?_ (fun B i k => ?_)))))))
 ·rintro Q E W ⟨y, b, I, J, K⟩ G
  refine V (gJ (J.trans (cB a)) K) ?_
  obtain rfl := sj G
  exact j _ _ ⟨_, (b.gq St), I, rfl⟩
 refine bC i (fun c i => ?_) (fun c i => ?_)
 ·refine ug c (gA oT rfl) (ug c (gu rfl (gL b.has (Mt Mh) rfl aG)) (ug c (gA oT rfl) (ug c (gu rfl (gL b.has Mh rfl aG)) (ug c (lY rfl rfl rfl) (ug a (gK (cB c) rfl) ?_)))))
  obtain rfl := sj i
  exact k _ _ ⟨_, (b.gq (Db (Db St))), rfl, rfl, rfl⟩
 refine un c (un c (un c (un c (un c (ug a (gJ (cB c) rfl) ?_)))))
 obtain rfl := sj i
 exact k _ _ ⟨_, (b.gq (Db (Db St))), rfl, rfl, rfl⟩
theorem rJ (g : gm) (r : Bool) (w : World) (hm : nF g = some r) :
  iC true pg0 68 [(.agg (gp g).toArray)] w (.bool r) := by
 refine cG 93 func68 rfl (fun b => sg (VE (iP b rfl (fun W2 M b => Wa (lr (VE (iw b bt (fun W4 h b => lS ?_))))))))
 refine Wf jz (VA b (Mt Mh) (gn g.Head) ah ae (bS hm fun r5 h1 hm => VE (Eg b call88 (pX g.Head _ _  h1) (fun W7 b => V (mZ rfl) (ln (CI hm rfl (fun g9 hm => ?_) (fun g9 hm => ?_)))))))
 ·refine sg (Wa (ln ?_))
  replace b := b.gq (Db (Db St))
  refine iq (iv ?_)
  obtain rfl := sj hm
  exact rP b
 refine kS (Wf jk (VB b (Mt Mh) rfl rfl bj (Wi rfl (ln (CI hm rfl (fun h0 hm => ?_) (fun h0 hm => ?_))))))
 ·refine sg (Wf mE (VB b (Mt Mh) rfl rfl aG (bS hm fun i3 f6 hm => VE (Eg b call138 (oL g.gP _ _  f6) (fun i0 b => Wm (LJ hm (fun e0 E W => ∃ c7, ST true gN w W (hp w) ((h, Ol (gn K0) 28) :: ((M, Ol (gp g) 108) :: c7)) ∧ E 1 = (.pointer (some ⟨M, 0, none⟩)) ∧ E 2 = (.bool false) ∧ E 3 = (.pointer (some ⟨h, 0, none⟩)) ∧ E 19 = (.bool e0)) 5 ?_ (fun e0 T o => ?_)))))))
  ·rintro i5 E W ⟨c7, b, l, d5, f8, f9⟩ e9
   refine Wh f9 (LJ e9 (fun d9 E W => ∃ c8, ST true gN w W (hp w) ((M, Ol (gp g) 108) :: c8) ∧ E 1 = (.pointer (some ⟨M, 0, none⟩)) ∧ E 2 = (.bool false) ∧ E 25 = (.bool d9)) 5 ?_ (fun d9 Q a5 => ?_))
   ·rintro i6 E W ⟨c8, b, g0, d6, g1⟩ f0
    refine Wh g1 (LJ f0 (fun d8 E W => ∃ c9, ST true gN w W (hp w) c9 ∧ E 2 = (.bool false) ∧ E 30 = (.bool d8)) 4 ?_ (fun d8 N a4 => ?_))
    ·rintro i7 E W ⟨c9, b, i2, g2⟩ f1
     refine Wg g2 (lt (iv ?_))
     obtain rfl := sj f1
     exact rP b
    refine bC N (fun x N => ?_) (fun x N => ?_)
    ·refine ug x (gA ml g0) (ug x (gu rfl (gL b.has Mh rfl aG)) (ug x (lY rfl rfl rfl) (V (gK (cB x) rfl) ?_)))
     obtain rfl := sj N
     exact a4 _ _ ⟨_, (b.gq (Db St)), d6, rfl⟩
    refine un x (un x (un x (V (gJ (cB x) rfl) ?_)))
    obtain rfl := sj N
    exact a4 _ _ ⟨_, (b.gq (Db St)), d6, rfl⟩
   refine bC Q (fun k Q => ?_) (fun k Q => ?_)
   ·refine ug k (gA kp l) (ug k (gu rfl (gD b.has (Mt Mh) (gn g.C) rfl ah ae)) (ug k (gu f8 (gD b.has Mh (gn K0) rfl ah ae)) (ug k (od rfl rfl (jw ck) (lR (jZ _ g.C K0))) (V (gK (cB k) rfl) ?_))))
    obtain rfl := sj Q
    exact a5 _ _ ⟨_, (b.gq (Db St)), l, d5, rfl⟩
   refine un k (un k (un k (un k (V (gJ (cB k) rfl) ?_))))
   obtain rfl := sj Q
   exact a5 _ _ ⟨_, (b.gq (Db St)), l, d5, rfl⟩
  refine bC T (fun j T => ?_) (fun j T => ?_)
  ·refine ug j (gA iK rfl) (ug j (gu rfl (gD b.has (Mt Mh) (gn g.B) rfl ah ae)) (ug j (gu rfl (gD b.has Mh (gn K0) rfl ah ae)) (ug j (od rfl rfl (jw ck) (lR (jZ _ g.B K0))) (V (gK (cB j) rfl) ?_))))
   obtain rfl := sj T
   exact o _ _ ⟨_, (b.gq St), rfl, rfl, rfl, rfl⟩
  refine un j (un j (un j (un j (V (gJ (cB j) rfl) ?_))))
  obtain rfl := sj T
  exact o _ _ ⟨_, (b.gq St), rfl, rfl, rfl, rfl⟩
 let a0 := ((gp g).toArray : Array Value)
 let d : Value := (.pointer (some ⟨M, 0, none⟩))
 refine kS (Wf mE (VB b (Mt Mh) rfl rfl aG (V (lY rfl rfl rfl) (Wm (LJ hm (fun R E W => ∃ d0, ST true gN w W (hp w) ((h, Ol (gn K0) 28) :: ((M, Obj.cells a0 108 (0, 0)) :: d0)) ∧ E 1 = d ∧ E 3 = (.pointer (some ⟨h, 0, none⟩)) ∧ E 39 = (.bool R)) 5 ?_ (fun R I a3 => ?_))))))
 ·rintro i8 E W ⟨d0, b, u, d7, g3⟩ i
  refine ln (CI i g3 (fun e6 i => ?_) (fun e6 i => ?_))
  ·refine sg (Wa (ln ?_))
   replace b := b.gq (Db (Db St))
   refine iq (iv ?_)
   obtain rfl := sj i
   exact rP b
  refine kS (V (gA jk u) (VB b (Mt Mh) rfl rfl bj (Wi rfl (ln (CI i rfl (fun e7 i => ?_) (fun e7 i => ?_))))))
  ·refine sg (V (gA kp u) (VA b (Mt Mh) (gn g.C) ah ae (V (gu d7 (gD b.has Mh (gn K0) rfl ah ae)) (V (od rfl rfl (jw ck) (lR (jZ _ g.C K0))) (Wm (LJ i (fun e1 E W => ∃ d1, ST true gN w W (hp w) d1 ∧ E 51 = (.bool e1)) 4 ?_ (fun e1 U p => ?_)))))))
   ·rintro i9 E W ⟨d1, b, g4⟩ f2
    refine Wg g4 (lt (iv ?_))
    obtain rfl := sj f2
    exact rP b
   refine bC U (fun y U => ?_) (fun y U => ?_)
   ·refine ug y (gA ml u) (ug y (gu rfl (gL b.has (Mt Mh) rfl aG)) (ug y (lY rfl rfl rfl) (V (gK (cB y) rfl) ?_)))
    obtain rfl := sj U
    exact p _ _ ⟨_, (b.gq (Db (Db St))), rfl⟩
   refine un y (un y (un y (V (gJ (cB y) rfl) ?_)))
   obtain rfl := sj U
   exact p _ _ ⟨_, (b.gq (Db (Db St))), rfl⟩
  refine kS (V (gA jk u) (VB b (Mt Mh) rfl rfl bj (Wi rfl (ln (CI i rfl (fun e8 i => ?_) (fun e8 i => ?_))))))
  ·refine sg (V (gA kp u) (VA b (Mt Mh) (gn g.C) ah ae (V (gu d7 (gD b.has Mh (gn K0) rfl ah ae)) (V (od rfl rfl (jw ck) (lR (jZ _ g.C K0))) (Wm (LJ i (fun e3 E W => ∃ d2, ST true gN w W (hp w) ((M, Obj.cells a0 108 (0, 0)) :: d2) ∧ E 1 = d ∧ E 67 = (.bool e3)) 8 ?_ (fun e3 Y a9 => ?_)))))))
   ·rintro j0 E W ⟨d2, b, g5, g6⟩ f3
    refine Wh g6 (LJ f3 (fun e2 E W => ∃ d3, ST true gN w W (hp w) d3 ∧ E 72 = (.bool e2)) 4 ?_ (fun e2 J q => ?_))
    ·rintro j3 E W ⟨d3, b, g7⟩ f4
     refine Wg g7 (lt (iv ?_))
     obtain rfl := sj f4
     exact rP b
    refine bC J (fun z J => ?_) (fun z J => ?_)
    ·refine ug z (gA ml g5) (ug z (gu rfl (gL b.has Mh rfl aG)) (bS J fun i4 f7 J => oM z (Eg b call138 (oL g.gZ _ _  f7) (fun i1 b => V (gK (cB z) rfl) ?_))))
     obtain rfl := sj J
     exact q _ _ ⟨_, (b.gq (Db St)), rfl⟩
    refine un z (un z (un z (V (gJ (cB z) rfl) ?_)))
    obtain rfl := sj J
    exact q _ _ ⟨_, (b.gq (Db St)), rfl⟩
   refine bC Y (fun a Y => ?_) (fun a Y => ?_)
   ·refine ug a (gA iK u) (ug a (gA kz rfl) (ug a (gu rfl (gL b.has (Mt Mh) rfl aG)) (ug a (gA jz u) (ug a (gA kz rfl) (ug a (gu rfl (gL b.has (Mt Mh) rfl aG)) (ug a (lY rfl rfl rfl) (V (gK (cB a) rfl) ?_)))))))
    obtain rfl := sj Y
    exact a9 _ _ ⟨_, (b.gq (Db St)), u, rfl⟩
   refine un a (un a (un a (un a (un a (un a (un a (V (gJ (cB a) rfl) ?_)))))))
   obtain rfl := sj Y
   exact a9 _ _ ⟨_, (b.gq (Db St)), u, rfl⟩
  refine kn ?_
  replace b := b.gq (Db St)
  refine sg (V (gA jk u) (VB b Mh rfl rfl bj (Wi rfl (Wm (LJ i (fun P E W => ∃ d4, ST true gN w W (hp w) ((M, Obj.cells a0 108 (0, 0)) :: d4) ∧ E 1 = d ∧ E 80 = (.bool P)) 4 ?_ (fun P K a2 => ?_))))))
  ·rintro j4 E W ⟨d4, b, m, g8⟩ f5
   refine Wh g8 (LJ f5 (fun O E W => ∃ s, ST true gN w W (hp w) ((M, Obj.cells a0 108 (0, 0)) :: s) ∧ E 1 = d ∧ E 85 = (.bool O)) 4 ?_ (fun O H n => ?_))
   ·rintro h8 E W ⟨s, b, A, e4⟩ c2
    refine Wh e4 (LJ c2 (fun L E W => ∃ v, ST true gN w W (hp w) v ∧ E 92 = (.bool L)) 6 ?_ (fun L G Z => ?_))
    ·rintro h9 E W ⟨v, b, e5⟩ c3
     exact Wg e5 (lt (rQ c3 b))
    refine bC G (fun c G => ?_) (fun c G => ?_)
    ·refine ug c (gA iK A) (ug c (gu rfl (gD b.has Mh (gn g.B) rfl ah ae)) (ug c (gA kp A) (ug c (gu rfl (gD b.has Mh (gn g.C) rfl ah ae)) (bS G fun h5 c4 G => oM c (Eg b call107 (qK g.B g.C _ _  c4) (fun h2 b => V (gK (cB c) rfl) ?_))))))
     obtain rfl := sj G
     exact Z _ _ ⟨_, (b.gq (Db St)), rfl⟩
    refine un c (un c (un c (un c (un c (V (gJ (cB c) rfl) ?_)))))
    obtain rfl := sj G
    exact Z _ _ ⟨_, (b.gq (Db St)), rfl⟩
   refine bC H (fun D H => ?_) (fun D H => ?_)
   ·refine ug D (gA kp m) (ug D (gu rfl (gD b.has Mh (gn g.C) rfl ah ae)) (bS H fun h6 c5 H => oM D (Eg b call88 (pX g.C _ _  c5) (fun h3 b => V (gK (cB D) rfl) ?_))))
    obtain rfl := sj H
    exact n _ _ ⟨_, (b.gq St), m, rfl⟩
   refine un D (un D (un D (V (gJ (cB D) rfl) ?_)))
   obtain rfl := sj H
   exact n _ _ ⟨_, (b.gq St), m, rfl⟩
  refine bC K (fun B K => ?_) (fun B K => ?_)
  ·refine ug B (gA ml u) (ug B (gu rfl (gL b.has Mh rfl aG)) (ug B (lY rfl rfl rfl) (V (gK (cB B) rfl) ?_)))
   obtain rfl := sj K
   exact a2 _ _ ⟨_, (b.gq St), u, rfl⟩
  refine un B (un B (un B (V (gJ (cB B) rfl) ?_)))
  obtain rfl := sj K
  exact a2 _ _ ⟨_, (b.gq St), u, rfl⟩
 refine bC I (fun t I => ?_) (fun t I => ?_)
 ·refine un t (un t (un t (un t (V (gK (cB t) rfl) ?_))))
  obtain rfl := sj I
  exact a3 _ _ ⟨_, (b.gq St), rfl, rfl, rfl⟩
 refine ug t (gA iK rfl) (ug t (gu rfl (gD b.has (Mt Mh) (gn g.B) rfl ah ae)) (bS I fun h7 c6 I => oM t (Eg b call88 (pX g.B _ _  c6) (fun h4 b => ug t (mZ rfl) (V (gJ (cB t) rfl) ?_)))))
 obtain rfl := sj I
 exact a3 _ _ ⟨_, (b.gq St), rfl, rfl, rfl⟩
theorem tY (x : Int) (r : ByteArray) (w : World) (hm : oz x = some r) :
  iC true pg0 87 [(.int .i64 x)] w (.string r) := by
 refine cG 22 func87 rfl (fun d => sg (Wa (lr (Wa (ln (gH (ji (lT (fun m E W => ∃ c j t, ST true gN w W (hp w) t ∧ E 0 = (.int .i64 c) ∧ E 3 = (.string j) ∧ mQ m c j = some r) jj ⟨x, zS, _, (d.gq St), rfl, rfl, hm⟩ ?_))))))))
 rintro m E W ⟨c, j, t, d, i, u, g⟩
 let N := (Int.tmod c 128)
 cases m with
 | zero => rw [mQ] at g; cases g
 | succ D =>
  refine gH (sg (Wh i (Wi rfl (ln (CI g rfl (fun y g => ?_) (fun y g => ?_))))))
  ·refine kn (bg (Wh u (Wh i (V (BK (k := .i64) (a := c) (b := 128) (v := (.int .i64 N)) rfl rfl dc rfl) (Wi rfl (V (tb (k' := .i64) (a := (wi0 .i64 (128 + N))) dE dF rfl) (VE (gS (cs := [(.int .u8 (IntKind.u8.wrap (wi0 .i64 (128 + N))))].toArray) d (kk rfl) (jB bL sizeOf5 fX) (fun H J d => V (AL bL dF aR rfl (Sl.lit (enc := (iV .u8)) (l := [(IntKind.u8.wrap (wi0 .i64 (128 + N)))]) (fun _ => rfl) rfl nb rfl (d.at_ Mh))) (bS g fun G z g => V (rU rfl rfl z) (Wa ?_)))))))))))
   refine ln ?_
   replace d := d.gq (Db St)
   exact gE (Wh i (V (BK (k := .i64) (a := c) (b := 128) (v := (.int .i64 (wi0 .i64 (Int.tdiv c 128)))) rfl rfl dc rfl) (Wa (gM (gU (gC ⟨D, bn _, (wi0 .i64 (Int.tdiv c 128)), G, _, (d.gq St), rfl, rfl, g⟩))))))
  refine oy (nB (nB (sv (gC (sg (Wh u (Wh i (V (tb (k' := .i64) (a := c) dE dF rfl) (VE (gS (cs := [(.int .u8 (IntKind.u8.wrap c))].toArray) d (kk rfl) (jB bL sizeOf5 fX) (fun I K d => V (AL bL dF aR rfl (Sl.lit (enc := (iV .u8)) (l := [(IntKind.u8.wrap c)]) (fun _ => rfl) rfl nb rfl (d.at_ Mh))) (bS g fun M B g => V (rU rfl rfl B) (Wa (ln ?_))))))))))))))
  exact iq (rQ g d)
theorem qJ (a r : ByteArray) (w : World) (hm : nq a = some r) :
  iC true pg0 154 [(.string a)] w (.string r) := by
 refine cG 8 func154 rfl (fun b => sg (Wa (lr (Wm (V (mi aR rfl) (bS hm fun j c hm => VE (Eg b call87 (tY (a.size : Int) _ _  c) (fun i b => Wm (bS hm fun k g hm => V (rU rfl rfl g) ?_)))))))))
 exact Wa (lt (rQ hm b))
theorem rF (a : gl) (r : ByteArray) (w : World) (hm : nG a = some r) :
  iC true pg0 89 [(.agg (gn a).toArray)] w (.string r) := by
 refine cG 10 func89 rfl (fun b => sg (VE (iP b rfl (fun y z b => Wa (ln (gH ?_))))))
 replace b := b.drew
 have d := b.has.gq (Kb Sn)
 refine iy d gW (X 0 rfl d (gA kz rfl) (XH 1 rfl d (fun _ h => gu rfl (gL h Mh rfl aG)) (X 3 rfl d (gA oT rfl) (XH 4 rfl d (fun _ h => gu rfl (gL h Mh rfl aG)) (bS hm fun t c hm => XE 2 rfl (Eg b call154 (qJ a.gF _ _  c) (fun j b => ?_)))))))
 have d := b.has.gq (Kb Sn)
 refine ⟨d, (bS hm fun u g hm => XE 5 rfl (Eg b call154 (qJ a.gY _ _  g) (fun k b => ?_)))⟩
 have d := b.has.gq (Kb Sn)
 refine ⟨d, (bS hm fun x i hm => X 6 rfl d (rU rfl rfl i) (X 7 rfl d (kc rfl) (iI kr (gC ?_))))⟩
 exact iq (rQ hm b)
theorem yU (g : gm) (r : ByteArray) (w : World) (hm : rH g = some r) :
  iC true pg0 155 [(.agg (gp g).toArray)] w (.string r) := by
 refine cG 41 func155 rfl (fun b => sg (VE (iP b rfl (fun W2 l b => Wa (ln (gH ?_))))))
 replace b := b.drew
 have d := b.has.gq (Kb Sn)
 refine iy d gW (X 0 rfl d (gA jk rfl) (XH 1 rfl d (fun _ h => gu rfl (gL h Mh rfl bj)) (X 3 rfl d (gA jz rfl) (XH 4 rfl d (fun _ h => gu rfl (gD h Mh (gn g.Head) rfl ah ae)) (bS hm fun a9 H hm => XE 2 rfl (Eg b call87 (tY g.Kind _ _  H) (fun a3 b => ?_)))))))
 have d := b.has.gq (Kb Sn)
 refine ⟨d, (bS hm fun p I hm => XE 5 rfl (Eg b call89 (rF g.Head _ _  I) (fun a4 b => ?_)))⟩
 have d := b.has.gq (Kb Sn)
 refine ⟨d, (bS hm fun L Q hm => X 6 rfl d (rU rfl rfl Q) (X 7 rfl d (kc rfl) (iI kr (gC (gH (sg (Wf jk (VB b Mh rfl rfl bj (Wi rfl (ln (CI hm rfl (fun y hm => ?_) (fun y hm => ?_))))))))))))⟩
 ·refine sg (Wm (Wf mE (VB b Mh rfl rfl aG (bS hm fun q J hm => VE (Eg b call154 (qJ g.gP _ _  J) (fun a5 b => bS hm fun O T hm => V (rU rfl rfl T) (Wa (ln ?_))))))))
  replace b := b.gq (Db St)
  refine iq (iv ?_)
  obtain rfl := sj hm
  exact rP b
 refine kg (Wm (Wf iK (VA b Mh (gn g.B) ah ae (bS hm fun s K hm => VE (Eg b call89 (rF g.B _ _  K) (fun m b => bS hm fun P U hm => V (rU rfl rfl U) (Wa (ln (gH ?_)))))))))
 refine CJ hm (fun x E W => ∃ i, ST true gN w W (hp w) ((l, Ol (gp g) 108) :: i) ∧ E 1 = (.pointer (some ⟨l, 0, none⟩)) ∧ E 3 = (.string x)) (fun x c => ?_) ?_
 ·refine sg (Wf jk (VB b Mh rfl rfl bj (Wi rfl (ln (CI c rfl (fun B c => ?_) (fun B c => ?_))))))
  ·refine gE (Wm (Wf ml (VB b Mh rfl rfl aG (bS c fun A N c => VE (Eg b call154 (qJ g.gZ _ _  N) (fun o b => bS c fun c0 Z c => V (rU rfl rfl Z) (Wa (ln ?_))))))))
   obtain rfl := sj c
   exact ⟨_, (b.gq St), rfl, rfl⟩
  refine kn ?_
  obtain rfl := sj c
  exact ⟨_, (b.gq St), rfl, rfl⟩
 rintro c1 E W ⟨i, b, k, t⟩ D
 refine gH (CJ D (fun u E W => ∃ j, ST true gN w W (hp w) j ∧ E 3 = (.string u)) (fun u a => ?_) ?_)
 ·refine sg (V (gA jk k) (VB b Mh rfl rfl bj (Wi rfl (ln (CI a rfl (fun z a => ?_) (fun z a => ?_))))))
  ·refine gE (Wh t (V (gA kp k) (VA b Mh (gn g.C) ah ae (bS a fun v M a => VE (Eg b call89 (rF g.C _ _  M) (fun n b => bS a fun R Y a => V (rU rfl rfl Y) (Wa (ln ?_))))))))
   obtain rfl := sj a
   exact ⟨_, (b.gq (Db St)), rfl⟩
  refine kn ?_
  obtain rfl := sj a
  exact ⟨_, (b.gq (Db St)), t⟩
 rintro c2 E W ⟨j, b, a2⟩ G
 exact sg (Wh a2 (Wa (lt (rQ G b))))
theorem uI (a : gm) (r : ByteArray) (w : World) (hm : oQ a = some r) :
  iC true pg0 139 [(.agg (gp a).toArray)] w (.string r) := by
 refine cG 8 func139 rfl (fun b => sg (VE (iP b rfl (fun j u b => Wa (lS (VA b Mh (gp a) aM ag (bS hm fun x g hm => VE (Eg b call68 (rJ a _ _  g) (fun k b => V (mZ rfl) (gM ?_))))))))))
 refine gC (CI hm rfl (fun c hm => ?_) (fun c hm => ?_))
 ·refine sg (Wa (ln ?_))
  replace b := b.gq (Db St)
  refine iq (iv ?_)
  obtain rfl := sj hm
  exact rP b
 refine kg (VA b Mh (gp a) aM ag (bS hm fun y i hm => VE (Eg b call155 (yU a _ _  i) (fun t b => Wa (ln ?_)))))
 exact iq (rQ hm b)
theorem sY (a c : gm) (r : Int) (w : World) (hm : mF a c = some r) :
  iC true pg0 69 [(.agg (gp a).toArray), (.agg (gp c).toArray)] w (.int .i64 r) := by
 refine cG 17 func69 rfl (fun b => sg (VE (iP b rfl (fun u z b => VE (iP b rfl (fun x B b => Wa (lr (VA b (Mt Mh) (gp a) aM ag (bS hm fun D j hm => VE (Eg b call139 (uI a _ _  j) (fun y b => Wa (gM ?_))))))))))))
 refine gC ?_
 replace b := b.gq (Kb (Db St))
 refine sg (VA b Mh (gp c) aM ag (bS hm fun G k hm => VE (Eg b call139 (uI c _ _  k) (fun t b => Wa (ln ?_)))))
 replace b := b.gq (Db St)
 refine gH (sg (Wm (Wm (V (lY rfl rfl rfl) (ln (CI hm rfl (fun g hm => ?_) (fun g hm => ?_)))))))
 ·refine sg (Wa (lt (iv ?_)))
  obtain rfl := sj hm
  exact rP b
 refine kS (Wm (Wm (V (lY rfl rfl rfl) (ln (CI hm rfl (fun i hm => ?_) (fun i hm => ?_))))))
 ·refine sg (Wa (lt (iv ?_)))
  obtain rfl := sj hm
  exact rP b
 exact kg (Wa (lt (rQ hm b)))
theorem tk (D : Value) (a0 r : List gm) (w : World) (e2 : Sl (Pl gp) 9 (hp w) D a0) (hm : lD a0 = some r) :
  iz true pg0 23 [D] w 108 gp 9 r := by
 refine oE 51 func23 rfl (fun d => sg (Wa (lr (Wa (ln (nH (ji (lT (fun m E W => ∃ x a3 u c4, ST true gN w W (hp w) (u ++ c4) ∧ E 0 = D ∧ E 3 = x ∧ gI 108 gp 9 x a3 u ∧ nf a0 m a3 = some r) jj ⟨(.slice none 0 0), ([]), [], _, (d.gq St), rfl, rfl, (gI.nil _ _ _), hm⟩ ?_))))))))
 rintro m E W ⟨x, a3, u, c4, d, d0, g1, J, a5⟩
 cases m with
 | zero => rw [nf] at a5; cases a5
 | succ j0 =>
  refine bg (VE (iw d aT (fun j7 t d => lr (Wa (lS (Wh d0 ?_))))))
  let c2 : Value := (.pointer (some ⟨t, 0, none⟩))
  refine V (kF ai rfl e2) (Wm (ln (CJ a5 (fun a9 E W => ∃ c5, ST true gN w W (hp w) ((t, Ol (gp a9.2) 108) :: (u ++ c5)) ∧ E 0 = D ∧ E 3 = x ∧ E 4 = c2 ∧ E 5 = (.bool a9.1)) (fun a9 e8 => ?_) ?_)))
  ·refine im (fun i E W => ∃ G y b1, (E 10 = .int .i64 (i : Nat) ∧ E 9 = .int .i64 (a0.length : Nat)) ∧ ST true gN w W (hp w) ((t, Ol (gp y) 108) :: (u ++ b1)) ∧ E 0 = D ∧ E 3 = x ∧ E 4 = c2 ∧ E 5 = (.bool G) ∧ E 8 = D ∧ mr a3 (a0.drop i) G y = some a9) a0.length e2.len ⟨false, K9, _, ⟨rfl, rfl⟩, (d.gq St), d0, g1, rfl, rfl, rfl, e8⟩ dc dc dc (fun _ _ _ h => by obtain ⟨_, _, _, ab, _⟩ := h; exact ab) ?_ ?_
   ·rintro a2 E W e7 ⟨G, y, b1, ⟨q, O⟩, d, U, M, Y, Z, o, z⟩
    let j2 := ((gp y).toArray : Array Value)
    obtain ⟨c, j6, f8, f7, c3⟩ := hX e7
    let j1 := ((gp c).toArray : Array Value)
    rw [f8] at z
    refine bg (VQ (iZ (enc := gp) (i := (a2 : Int)) (x0 := c) ai ag o q e2 (aj _) f7) (fun k6 f2 => V (gu rfl (jM d.has f2 aM ag)) (VE (iw d aT (fun k0 K d => VO (gO (.agg (gp c).toArray) ((gp c).toArray) d rfl rfl ag (js c) nb rfl (fun k1 d => ln (gH ?_))))))))
    let l6 : Value := (.int .i64 (a2 : Int))
    let l5 : Value := (.int .i64 (a0.length : Int))
    let P : Value := (.pointer (some ⟨K, 0, none⟩))
    replace d := d.drew
    have b := d.has.gq (Kb (Kb (Kr Sn)))
    refine iy b gW (XH 0 rfl b (fun _ n => gu rfl (gD n Mh (gp c) rfl aM ag)) (bS z fun j3 f4 z => XE 1 rfl (Eg d call68 (rJ c _ _  f4) (fun k2 d => ?_))))
    have b := d.has.gq (Kb (Kb (Kr Sn)))
    refine ⟨b, (X 2 rfl b (gy rfl) (PJ z (fun d9 E W => ∃ c6, ST true gN w W (hp w) ((K, Obj.cells j1 108 (0, 0)) :: ((t, Obj.cells j2 108 (0, 0)) :: (u ++ c6))) ∧ E 0 = D ∧ E 3 = x ∧ E 4 = c2 ∧ E 5 = (.bool G) ∧ E 7 = P ∧ E 8 = D ∧ E 9 = l5 ∧ E 10 = l6 ∧ E 31 = (.bool d9)) (bm 28 262143) 10 ?_ (fun d9 T c0 => ?_)))⟩
    ·rintro j5 E W ⟨c6, d, b2, b3, s, A, L, b4, b5, b6, g5⟩ e9
     have b := d.has.gq (Kb (Kb (Kr Sn)))
     refine X 18 rfl b (gy g5) (PJ e9 (fun d7 E W => ∃ c7, ST true gN w W (hp w) ((K, Obj.cells j1 108 (0, 0)) :: ((t, Obj.cells j2 108 (0, 0)) :: (u ++ c7))) ∧ E 0 = D ∧ E 3 = x ∧ E 4 = c2 ∧ E 5 = (.bool G) ∧ E 7 = P ∧ E 8 = D ∧ E 9 = l5 ∧ E 10 = l6 ∧ E 41 = (.bool d7)) (bm 28 268435455) 0 ?_ (fun d7 Q b8 => ?_))
     ·rintro l1 E W ⟨c7, d, d2, d3, b7, g6, g7, d4, d5, d6, g8⟩ N
      refine iI kr (gC (CI N g8 (fun e6 N => ?_) (fun e6 N => ?_)))
      ·refine sg (V (gu g7 (gD d.has Mh (gp c) rfl aM ag)) ?_)
       replace d := d.perm (Nb (Pb Pz) Nz)
       refine VO (gO (.agg (gp c).toArray) ((gp c).toArray) d b7 rfl ag (js c) nb rfl (fun k3 d => ln ?_))
       replace d := d.gq (Kb (Db St))
       exact gE (Wa (gM (gU (gC ⟨d6, true, c, _, ⟨rfl, d5⟩, (d.gq St), d2, d3, b7, rfl, d4, (by rw [c3]; exact N)⟩))))
      refine ic (gU (gC ?_))
      replace d := d.gq (Db St)
      exact ⟨d6, G, y, _, ⟨rfl, d5⟩, (d.gq St), d2, d3, b7, g6, d4, (by rw [c3]; exact N)⟩
     refine bC Q (fun j Q => ?_) (fun j Q => ?_)
     ·refine Xg 19 rfl rfl (cB j) b (gy A) (Xg 20 rfl rfl (cB j) b (mZ rfl) (Xg 21 rfl rfl (cB j) b (gy rfl) (PJ Q (fun d8 E W => ∃ c8, ST true gN w W (hp w) ((K, Obj.cells j1 108 (0, 0)) :: ((t, Obj.cells j2 108 (0, 0)) :: (u ++ c8))) ∧ E 0 = D ∧ E 3 = x ∧ E 4 = c2 ∧ E 5 = (.bool G) ∧ E 7 = P ∧ E 8 = D ∧ E 9 = l5 ∧ E 10 = l6 ∧ E 32 = (.bool j5) ∧ E 40 = (.bool d8)) (bm 28 134217727) 1 ?_ (fun d8 I b9 => ?_))))
      ·rintro l2 E W ⟨c8, d, g9, h0, h1, h2, h3, h4, h5, h6, h7, h8⟩ f0
       have b := d.has.gq (Kb (Kb (Kr Sn)))
       refine X 27 rfl b (gK (h7.trans (cB j)) h8) ?_
       obtain rfl := sj f0
       refine iH kr (b8 _ _ ⟨_, (d.gq St), g9, h0, h1, h2, h3, h4, h5, h6, rfl⟩)
      refine bC I (fun k I => ?_) (fun k I => ?_)
      ·refine Xn 22 rfl rfl (cB k) b (Xn 23 rfl rfl (cB k) b (Xn 24 rfl rfl (cB k) b (Xn 25 rfl rfl (cB k) b (Xg 26 rfl rfl (cB j) b (gK (cB k) rfl) ?_))))
       obtain rfl := sj I
       refine iH kr (b9 _ _ ⟨_, (d.gq St), b2, b3, s, A, L, b4, b5, b6, rfl, rfl⟩)
      refine nn 22 rfl rfl (cB k) b (fun _ n => gu L (gD n Mh (gp c) rfl aM ag)) (nn 23 rfl rfl (cB k) b (fun _ n => gu s (gD n (Mt Mh) (gp y) rfl aM ag)) (bS I fun k8 f5 I => uG 24 rfl rfl (cB k) (Eg d call69 (sY c y _ _  f5) (fun k4 d => ?_))))
      have b := d.has.gq (Kb (Kb (Kr Sn)))
      refine ⟨b, (Xg 25 rfl rfl (cB k) b (iX rfl rfl rfl) (Xg 26 rfl rfl (cB j) b (gJ (cB k) rfl) ?_))⟩
      obtain rfl := sj I
      refine iH kr (b9 _ _ ⟨_, (d.gq St), b2, b3, s, A, L, b4, b5, b6, rfl, rfl⟩)
     refine Xn 19 rfl rfl (cB j) b (Xn 20 rfl rfl (cB j) b (Xn 21 rfl rfl (cB j) b (Xu 22 rfl rfl rfl b (Xu 23 rfl rfl rfl b (Xu 24 rfl rfl rfl b (Xu 25 rfl rfl rfl b (Xn 26 rfl rfl (cB j) b (X 27 rfl b (gJ (cB j) rfl) ?_))))))))
     obtain rfl := sj Q
     refine iH kr (b8 _ _ ⟨_, (d.gq St), b2, b3, s, A, L, b4, b5, b6, rfl⟩)
    refine bC T (fun g T => ?_) (fun g T => ?_)
    ·refine Xg 3 rfl rfl (cB g) b (gy M) (Xg 4 rfl rfl (cB g) b (iu ai rfl J) (Xg 5 rfl rfl (cB g) b (iX rfl rfl rfl) (Xg 6 rfl rfl (cB g) b (gy rfl) (PJ T (fun e0 E W => ∃ c9, ST true gN w W (hp w) ((K, Obj.cells j1 108 (0, 0)) :: ((t, Obj.cells j2 108 (0, 0)) :: (u ++ c9))) ∧ E 0 = D ∧ E 3 = x ∧ E 4 = c2 ∧ E 5 = (.bool G) ∧ E 7 = P ∧ E 8 = D ∧ E 9 = l5 ∧ E 10 = l6 ∧ E 16 = (.bool j3) ∧ E 30 = (.bool e0)) (bm 28 131071) 11 ?_ (fun e0 B c1 => ?_)))))
     ·rintro l3 E W ⟨c9, d, h9, i0, i1, i2, i3, i4, i5, i6, i7, i8⟩ f1
      have b := d.has.gq (Kb (Kb (Kr Sn)))
      refine X 17 rfl b (gK (i7.trans (cB g)) i8) ?_
      obtain rfl := sj f1
      refine iH kr (c0 _ _ ⟨_, (d.gq St), h9, i0, i1, i2, i3, i4, i5, i6, rfl⟩)
     refine bC B (fun a B => ?_) (fun a B => ?_)
     ·refine Xn 7 rfl rfl (cB a) b (Xn 8 rfl rfl (cB a) b (Xn 9 rfl rfl (cB a) b (Xn 10 rfl rfl (cB a) b (Xn 11 rfl rfl (cB a) b (Xn 12 rfl rfl (cB a) b (Xn 13 rfl rfl (cB a) b (Xn 14 rfl rfl (cB a) b (Xn 15 rfl rfl (cB a) b (Xg 16 rfl rfl (cB g) b (gK (cB a) rfl) ?_)))))))))
      obtain rfl := sj B
      refine iH kr (c1 _ _ ⟨_, (d.gq St), U, M, Y, Z, rfl, o, O, q, rfl, rfl⟩)
     refine Xg 7 rfl rfl (cB a) b (gy M) (Xg 8 rfl rfl (cB a) b (gy M) (Xg 9 rfl rfl (cB a) b (iu ai rfl J) (Xg 10 rfl rfl (cB a) b (iX rfl rfl rfl) (bS B fun e1 b0 B => um 11 rfl kr (.inr ⟨6, false, 20, rfl, rfl, by decide, (cB a)⟩) rfl dc (fun _ _ h => h) b (ie (i := (wi0 .i64 ((a3.length : Int) - 1))) (x0 := e1) ai ag rfl rfl J (iD b0) (hZ b0)) (fun k7 f3 => nn 12 rfl rfl (cB a) b (fun _ n => gu rfl (je n (fun p hq => (Mt (Mt (Ml hq)))) J ia f3 (hZ b0) aM ag)) (nn 13 rfl rfl (cB a) b (fun _ n => gu rfl (gD n Mh (gp c) rfl aM ag)) (bS B fun k9 f6 B => uG 14 rfl rfl (cB a) (Eg d call69 (sY e1 c _ _  f6) (fun k5 d => ?_)))))))))
     have b := d.has.gq (Kb (Kb (Kr Sn)))
     refine ⟨b, (Xg 15 rfl rfl (cB a) b (iX rfl rfl rfl) (Xg 16 rfl rfl (cB g) b (gJ (cB a) rfl) ?_))⟩
     obtain rfl := sj B
     refine iH kr (c1 _ _ ⟨_, (d.gq St), U, M, Y, Z, rfl, o, O, q, rfl, rfl⟩)
    refine Xn 3 rfl rfl (cB g) b (Xn 4 rfl rfl (cB g) b (Xn 5 rfl rfl (cB g) b (Xn 6 rfl rfl (cB g) b (Xu 7 rfl rfl rfl b (Xu 8 rfl rfl rfl b (Xu 9 rfl rfl rfl b (Xu 10 rfl rfl rfl b (Xu 11 rfl rfl rfl b (Xu 12 rfl rfl rfl b (Xu 13 rfl rfl rfl b (Xu 14 rfl rfl rfl b (Xu 15 rfl rfl rfl b (Xn 16 rfl rfl (cB g) b (X 17 rfl b (gJ (cB g) rfl) ?_))))))))))))))
    obtain rfl := sj T
    refine iH kr (c0 _ _ ⟨_, (d.gq St), U, M, Y, Z, rfl, o, O, q, rfl⟩)
   rintro E W ⟨G, y, b1, ⟨q, O⟩, d, U, M, Y, Z, o, z⟩
   rw [au] at z
   refine gC ?_
   obtain rfl := sj z
   exact ⟨_, (d.gq St), U, M, Y, Z⟩
  rintro ⟨l0, a4⟩ E W ⟨c5, d, g2, d1, g3, g4⟩ H
  refine gH (sg (Wh g4 (V (mZ rfl) (ln (CI H rfl (fun e4 H => ?_) (fun e4 H => ?_))))))
  ·refine sg (Wh d1 (Wa (ln ?_)))
   replace d := d.gq (Db St)
   refine iq (iv (jU (iv (jU (iv ?_)))))
   obtain rfl := sj H
   exact ij (v := x) rfl rfl ⟨_, u, rfl, d.jd (fun p hq => (Ml hq)) J.nd, J⟩
  refine kn (gE (Wh d1 (V (gu g3 (gD d.has Mh (gp a4) rfl aM ag)) (VE (gS (cs := (gp a4).toArray) d (kk rfl) (jB ai ag aT) (fun j8 g0 d => ?_))))))
  replace d := d.perm (Nr (Qb (Qb Qz)) Nz)
  refine bS H fun i9 e5 H => VE (jn (enc := gp) (v := x) (vs := (.slice (some ⟨g0, 0, none⟩) 1 1)) (R := u) d ia dc js ai kE.1 kE.2.1 rfl kE.2.2.1 kE.2.2.2 rfl rfl J (Sl.lit (enc := gp) (l := [a4]) ia rfl nb rfl (d.at_ (Ma Mh))) e5 (fun j9 j4 f9 d e3 => Wa (gM (gU (gC ?_)))))
  replace d := d.gq (Kr (Db (Db St)))
  exact ⟨j0, bn _, j4, i9, f9, _, (d.gq St), g2, rfl, e3, H⟩
end Go.Proofs.YtbnbdigcbldfhaaGreat
