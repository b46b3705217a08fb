/- a part of a proof of WeighRanks -/
import Derived.Test.YtbnbdigcbldfhaaGreatW4Mi
import Derived.Test.YtbnbdigcbldfhaaGreatProg
set_option linter.all false
namespace Go.Proofs.YtbnbdigcbldfhaaGreat
open Go.IntKind renaming wrap → wi0
open Go.Proofs.Tryz renaming prog → pg0
open Go.RowKit
set_option maxRecDepth 10000
open Tryz
def ae := @sizeOf108
def ag := @sizeOf28
def aj := @underlying22
def au := @isAgg28
def aB := @underlying112
def aF := @isAgg9
def aN := @isAgg108
def aP := @underlying9
def aT := @zeroValue108
def bi := @underlying38
def bt := @underlying28
def bD := @underlying78
def bF := @underlying108
def bI := @isAgg3
def bJ := @sizeOf30
def bK := @underlying120
def bQ := @sizeOf9
def bZ := @underlying34
def cw := @zeroValue28
def cz := @underlying30
def cD := @sizeOf38
def cI := @underlying25
def cM := @zeroValue38
def cN := @zeroValue30
def cR := @underlying174
def cT := @underlying125
def di := @underlying170
def dD := @underlying3
def dE := @underlying5
def dF := @zeroValue3
def dJ := @zeroValue175
def dS := @underlying175
def dT := @eqGuardType28
def ef := @isAgg30
def ey := @sizeOf3
def eA := @underlying124
def eQ := @underlying79
def eS := @underlying42
def fj := @eqGuardType108
def fk := @isAgg170
def fl := @zeroValue9
def fM := @isAgg38
def ga := @underlying81
def gb := @zeroValue5
def gn := @zeroValue22
def gq := @sizeOf120
abbrev K0 : gr := ⟨zS, zS⟩
abbrev K1 : ByteArray := ⟨#[98]⟩
abbrev K2 : ByteArray := ⟨#[115]⟩
abbrev K3 : ByteArray := ⟨#[97]⟩
abbrev K4 : ByteArray := ⟨#[114]⟩
abbrev K5 : ByteArray := ⟨#[100]⟩
abbrev K6 : gr := ⟨K1, K2⟩
abbrev K7 : gr := ⟨K3, K4⟩
abbrev K8 : gD := ⟨K0, 0, 0, 0⟩
abbrev K9 : gu := ⟨0, K0, zS, K0, K0, zS⟩
abbrev tA : gu := ⟨2, K7, zS, K6, K0, zS⟩
abbrev tI : gu := ⟨1, K6, K5, K0, K0, zS⟩
abbrev C1 : List Value := [(.int .i64 2), (.string (K7.gG)), (.string (K7.hX)), (.string zS), (.string (K6.gG)), (.string (K6.hX)), (.string (K0.gG)), (.string (K0.hX)), (.string zS), (.int .i64 1), (.string (K6.gG)), (.string (K6.hX)), (.string K5), (.string (K0.gG)), (.string (K0.hX)), (.string (K0.gG)), (.string (K0.hX)), (.string zS)]
theorem ij : Tryz.prog.follows .mixedOrders = true := by rfl
theorem nX : Tryz.prog.info? 5 = some Tryz.t5 ∧ Tryz.t5.zero = some (.int .u8 0) ∧ Tryz.t5.size = 1 ∧ Tryz.t5.bytes = 1 := ⟨by kernel_rfl, by kernel_rfl, by kernel_rfl, by kernel_rfl⟩
theorem nW : Tryz.prog.info? 9 = some Tryz.t9 ∧ Tryz.t9.zero = some (.string ⟨#[]⟩) ∧ Tryz.t9.size = 1 ∧ Tryz.t9.bytes = 16 := ⟨by kernel_rfl, by kernel_rfl, by kernel_rfl, by kernel_rfl⟩
theorem oN : Tryz.prog.info? 28 = some Tryz.t28 ∧ Tryz.t28.zero = some (.agg #[(.string ⟨#[]⟩), (.string ⟨#[]⟩)]) ∧ Tryz.t28.size = 2 ∧ Tryz.t28.bytes = 32 := ⟨by kernel_rfl, by kernel_rfl, by kernel_rfl, by kernel_rfl⟩
theorem wO : Tryz.prog.info? 30 = some Tryz.t30 ∧ Tryz.t30.zero = some (.agg #[(.string ⟨#[]⟩), (.string ⟨#[]⟩), (.int .i64 0), (.int .i64 0), (.int .i64 0)]) ∧ Tryz.t30.size = 5 ∧ Tryz.t30.bytes = 56 := ⟨by kernel_rfl, by kernel_rfl, by kernel_rfl, by kernel_rfl⟩
theorem mP : Tryz.prog.info? 38 = some Tryz.t38 ∧ Tryz.t38.zero = some (.agg #[(.string ⟨#[]⟩), (.string ⟨#[]⟩), (.string ⟨#[]⟩)]) ∧ Tryz.t38.size = 3 ∧ Tryz.t38.bytes = 48 := ⟨by kernel_rfl, by kernel_rfl, by kernel_rfl, by kernel_rfl⟩
theorem kq : Tryz.prog.info? 108 = some Tryz.t108 ∧ Tryz.t108.zero = some (.agg #[(.int .i64 0), (.string ⟨#[]⟩), (.string ⟨#[]⟩), (.string ⟨#[]⟩), (.string ⟨#[]⟩), (.string ⟨#[]⟩), (.string ⟨#[]⟩), (.string ⟨#[]⟩), (.string ⟨#[]⟩)]) ∧ Tryz.t108.size = 9 ∧ Tryz.t108.bytes = 136 := ⟨by kernel_rfl, by kernel_rfl, by kernel_rfl, by kernel_rfl⟩
theorem vr : Tryz.prog.info? 120 = some Tryz.t120 ∧ Tryz.t120.zero = some (.slice none 0 0) ∧ Tryz.t120.size = 1 ∧ Tryz.t120.bytes = 24 := ⟨by kernel_rfl, by kernel_rfl, by kernel_rfl, by kernel_rfl⟩
theorem jY : jx pg0 28 0 0 := jc bt rfl bQ (by decide) rfl
theorem ov : jx pg0 28 1 1 := jc bt rfl bQ (by decide) rfl
theorem Dd : (Tryz.prog.fieldsOf 28).toList = (match Tryz.prog.underlying 28 with | some (.struct fs) => fs.toList | _ => []) := by rw [bt]; simp [Program.fieldsOf, bt]
theorem mI (d : Nat) (x y : gr) (W : World) : (Op.equalIn (d + 2) 28 (.agg (gw x).toArray) (.agg (gw y).toArray)).run pg0 W = .ok (gB x y) W := by
 rw [dV W (d + 1) 28 _ _ (by kernel_rfl) Tryz.stoodInHeld28, Dd, bt]
 exact (jr (by decide) (js aF rfl) (js aF rfl) (Cl aP _ _ _ _) (jr (by decide) (js aF rfl) (js aF rfl) (Cl aP _ _ _ _) (qC _ _ _)))
theorem zw : ∀ fs, Tryz.prog.underlying 28 = some (.struct fs) → ∀ w, (fs.mapM (fun (f : Field) => do pure (f.offset, ← sizeOf f.type)) : Sem (Array (Nat × Nat))).run pg0 w = .ok #[(0, 1), (1, 1)] w := by
 intro fs h w
 rw [bt] at h
 cases h
 kernel_rfl
theorem jN : jx pg0 108 0 0 := jc bF rfl ey (by decide) rfl
theorem jT : jx pg0 108 1 1 := jc bF rfl ag (by decide) rfl
theorem mB : jx pg0 108 2 3 := jc bF rfl bQ (by decide) rfl
theorem iM : jx pg0 108 3 4 := jc bF rfl ag (by decide) rfl
theorem kD : jx pg0 108 4 6 := jc bF rfl ag (by decide) rfl
theorem ma : jx pg0 108 5 8 := jc bF rfl bQ (by decide) rfl
theorem B5 : (Tryz.prog.fieldsOf 108).toList = (match Tryz.prog.underlying 108 with | some (.struct fs) => fs.toList | _ => []) := by rw [bF]; simp [Program.fieldsOf, bF]
theorem uf (d : Nat) (x y : gu) (W : World) : (Op.equalIn (d + 3) 108 (.agg (gv x).toArray) (.agg (gv y).toArray)).run pg0 W = .ok (lM x y) W := by
 rw [dV W (d + 2) 108 _ _ (by kernel_rfl) Tryz.stoodInHeld108, B5, bF]
 exact (jr (by decide) (js bI rfl) (js bI rfl) (Ds dD _ _ _ _) (jr (by decide) (nk au ag rfl) (nk au ag rfl) (mI _ x.Head y.Head W) (jr (by decide) (js aF rfl) (js aF rfl) (Cl aP _ _ _ _) (jr (by decide) (nk au ag rfl) (nk au ag rfl) (mI _ x.B y.B W) (jr (by decide) (nk au ag rfl) (nk au ag rfl) (mI _ x.C y.C W) (jr (by decide) (js aF rfl) (js aF rfl) (Cl aP _ _ _ _) (qC _ _ _)))))))
theorem Bl : ∀ fs, Tryz.prog.underlying 108 = some (.struct fs) → ∀ w, (fs.mapM (fun (f : Field) => do pure (f.offset, ← sizeOf f.type)) : Sem (Array (Nat × Nat))).run pg0 w = .ok #[(0, 1), (1, 2), (3, 1), (4, 2), (6, 2), (8, 1)] w := by
 intro fs h w
 rw [bF] at h
 cases h
 kernel_rfl
theorem tu : jx pg0 30 0 0 := jc cz rfl ag (by decide) rfl
theorem wP : jx pg0 30 1 2 := jc cz rfl ey (by decide) rfl
theorem u3 : jx pg0 30 2 3 := jc cz rfl ey (by decide) rfl
theorem Ei : jx pg0 30 3 4 := jc cz rfl ey (by decide) rfl
theorem CT : (Tryz.prog.fieldsOf 30).toList = (match Tryz.prog.underlying 30 with | some (.struct fs) => fs.toList | _ => []) := by rw [cz]; simp [Program.fieldsOf, cz]
theorem AW (d : Nat) (x y : gD) (W : World) : (Op.equalIn (d + 3) 30 (.agg (gH x).toArray) (.agg (gH y).toArray)).run pg0 W = .ok (re x y) W := by
 rw [dV W (d + 2) 30 _ _ (by kernel_rfl) Tryz.stoodInHeld30, CT, cz]
 exact (jr (by decide) (nk au ag rfl) (nk au ag rfl) (mI _ x.gr y.gr W) (jr (by decide) (js bI rfl) (js bI rfl) (Ds dD _ _ _ _) (jr (by decide) (js bI rfl) (js bI rfl) (Ds dD _ _ _ _) (jr (by decide) (js bI rfl) (js bI rfl) (Ds dD _ _ _ _) (qC _ _ _)))))
theorem EF : ∀ fs, Tryz.prog.underlying 30 = some (.struct fs) → ∀ w, (fs.mapM (fun (f : Field) => do pure (f.offset, ← sizeOf f.type)) : Sem (Array (Nat × Nat))).run pg0 w = .ok #[(0, 2), (2, 1), (3, 1), (4, 1)] w := by
 intro fs h w
 rw [cz] at h
 cases h
 kernel_rfl
theorem sn : jx pg0 38 0 0 := jc bi rfl ag (by decide) rfl
theorem qE : jx pg0 38 1 2 := jc bi rfl bQ (by decide) rfl
theorem Di : (Tryz.prog.fieldsOf 38).toList = (match Tryz.prog.underlying 38 with | some (.struct fs) => fs.toList | _ => []) := by rw [bi]; simp [Program.fieldsOf, bi]
theorem CX (d : Nat) (x y : gx) (W : World) : (Op.equalIn (d + 3) 38 (.agg (gL x).toArray) (.agg (gL y).toArray)).run pg0 W = .ok (iD x y) W := by
 rw [dV W (d + 2) 38 _ _ (by kernel_rfl) Tryz.stoodInHeld38, Di, bi]
 exact (jr (by decide) (nk au ag rfl) (nk au ag rfl) (mI _ x.gr y.gr W) (jr (by decide) (js aF rfl) (js aF rfl) (Cl aP _ _ _ _) (qC _ _ _)))
theorem xq : ∀ fs, Tryz.prog.underlying 38 = some (.struct fs) → ∀ w, (fs.mapM (fun (f : Field) => do pure (f.offset, ← sizeOf f.type)) : Sem (Array (Nat × Nat))).run pg0 w = .ok #[(0, 2), (2, 1)] w := by
 intro fs h w
 rw [bi] at h
 cases h
 kernel_rfl
theorem si : jx pg0 81 0 0 := jc ga rfl sizeOf78 (by decide) rfl
theorem FJ : ∀ fs, Tryz.prog.underlying 81 = some (.struct fs) → ∀ w, (fs.mapM (fun (f : Field) => do pure (f.offset, ← sizeOf f.type)) : Sem (Array (Nat × Nat))).run pg0 w = .ok #[(0, 1)] w := by
 intro fs h w
 rw [ga] at h
 cases h
 kernel_rfl
theorem qj : jx pg0 174 0 0 := jc cR rfl sizeOf170 (by decide) rfl
theorem xB : jx pg0 174 1 1 := jc cR rfl sizeOf22 (by decide) rfl
theorem AF : jx pg0 174 2 2 := jc cR rfl sizeOf171 (by decide) rfl
theorem xv : jx pg0 174 3 3 := jc cR rfl sizeOf172 (by decide) rfl
theorem rT : jx pg0 174 4 4 := jc cR rfl gq (by decide) rfl
theorem vq : jx pg0 174 5 5 := jc cR rfl ey (by decide) rfl
theorem Fg : ∀ fs, Tryz.prog.underlying 174 = some (.struct fs) → ∀ w, (fs.mapM (fun (f : Field) => do pure (f.offset, ← sizeOf f.type)) : Sem (Array (Nat × Nat))).run pg0 w = .ok #[(0, 1), (1, 1), (2, 1), (3, 1), (4, 1), (5, 1)] w := by
 intro fs h w
 rw [cR] at h
 cases h
 kernel_rfl
theorem xQ : jC pg0 9 Value.string gX := jC.string aP
theorem nZ : jC pg0 28 (fun (x : gr) => (.agg (gw x).toArray)) gB :=
 jC.struct bt (fun d x y W => mI (d + 8) x y W) (fun b k W => qw bt rfl (cL.2 ⟨fun _ => ⟨.string k.gG, js aF rfl, mD aP _ _ _ _⟩, (cL.2 ⟨fun _ => ⟨.string k.hX, js aF rfl, mD aP _ _ _ _⟩, (fun _ h => by cases h)⟩)⟩))
  (fun k x h => (gC.1 h).symm) (fun k => by simp [Instr.sameBits, gw, sy, iy])
theorem Bj : jC pg0 38 (fun (x : gx) => (.agg (gL x).toArray)) iD :=
 jC.struct bi (fun d x y W => CX (d + 7) x y W) (fun b k W => qw bi rfl (cL.2 ⟨fun _ => ⟨.agg (gw k.gr).toArray, nk au ag rfl, qw bt rfl (cL.2 ⟨fun _ => ⟨.string k.gr.gG, js aF rfl, mD aP _ _ _ _⟩, (cL.2 ⟨fun _ => ⟨.string k.gr.hX, js aF rfl, mD aP _ _ _ _⟩, (fun _ h => by cases h)⟩)⟩)⟩, (cL.2 ⟨fun _ => ⟨.string k.gU, js aF rfl, mD aP _ _ _ _⟩, (fun _ h => by cases h)⟩)⟩))
  (fun k x h => (jn.1 h).symm) (fun k => by simp [Instr.sameBits, gL, sy, iy])
theorem uA (g : Value) (i r : List gu) (w : World) (a : Sl (Pl gv) 9 (hp w) g i) (hm : lT i = some r) :
  iS true pg0 113 [g] w 108 gv 9 r := by
 unfold lT at hm
 refine qH 8 func113 rfl (fun b => sg (Wa (lS (Wm ?_))))
 obtain ⟨y, B, rfl⟩ := a.form
 refine V (xS aj rfl rfl) (ln ?_)
 rcases y with _ | z
 ·have u := a.isNil
  replace hm : some [] = some r := by rw [u] at hm; simpa [je, maxLen] using hm
  refine qk (rfl) (sg (Wa (lt (iw ?_))))
  obtain rfl := sj hm
  exact iC (v := (.slice none 0 0)) rfl rfl ⟨_, [], rfl, b.kp (fun p d => by cases d) (by simp), gM.nil _ _ _⟩
 ·refine ml (rfl) (kg (VE (ig (cs := #[]) b w9 (vA [] aj ae aT dc rfl (by simp) rfl rfl) (fun G k b => Wm (bS hm fun H t hm => VE (jJ (enc := gv) (v := (.slice (some ⟨k, 0, none⟩) 0 0)) (vs := (.slice (some z) i.length B)) (R := [(k, Ob #[] 108)]) b ic dc jF aj kq.1 kq.2.1 rfl kq.2.2.1 kq.2.2.2 rfl rfl (gM.lit (l := []) (enc := gv) rfl dc rfl rfl) (a.mono (Pl.mono _) b.iH) t (fun D x j b c => Wa (lt ?_))))))))
  obtain rfl := sj hm
  exact iC (v := x) rfl rfl ⟨_, j, rfl, b.kp (fun p d => (Ml d)) c.nd, c⟩
theorem sw (g : Value) (t : List gu) (j : Value) (B : gu → Option Bool) (r : Int) (w : World) (c : Sl (Pl gv) 9 (hp w) g t) (D : qt pg0 j (hp w) (fun (x : gu) => [(.agg (gv x).toArray)]) (fun (r : Bool) => (.bool r)) B) (hm : nr t B = some r) :
  iA false pg0 176 [g, j] w (.int .i64 r) := by
 refine cG 19 func176 rfl (fun b => sg (Wa (lS (Wm (V (lB aj rfl c) (Wm (ln (iL (fun i E W => ∃ k, (E 8 = .int .i64 (i : Nat) ∧ E 7 = .int .i64 (t.length : Nat)) ∧ ST false ia w W (hp w) k ∧ E 0 = g ∧ E 1 = j ∧ jZ B (t.drop i) i = some r) t.length c.len ⟨_, ⟨rfl, rfl⟩, (b.gy St), rfl, rfl, hm⟩ dc dc dc (fun _ _ _ h => by obtain ⟨_, l, _⟩ := h; exact l) ?_ ?_))))))))
 ·rintro Q E W H ⟨k, ⟨d, m⟩, b, u, y, a⟩
  obtain ⟨z, T, M, K, N⟩ := iB H
  rw [M] at a
  refine bg (Wh d (Wa (lr (Wh y (Wh u (Wm (VQ (jL (enc := gv) (i := (Q : Int)) (x0 := z) aj ae rfl rfl c (ay _) K) (fun Y I => V (gA rfl (lI b.has I aN ae)) (bS a fun Z J a => ?_)))))))))
  refine VE (u5 z b D (gZ.refl _) rfl (tZ rfl) J (fun U b => ln (CI a rfl (fun G a => ?_) (fun G a => ?_))))
  ·refine sg (Wm (Wa (lt (ko (iw (ko (iw ?_)))))))
   obtain rfl := sj a
   exact rP b
  exact iv (im (gI ⟨d, _, ⟨rfl, m⟩, (b.gy St), u, y, (by rw [N]; exact a)⟩))
 rintro E W ⟨k, ⟨d, m⟩, b, u, y, a⟩
 rw [aI] at a
 exact gI (sg (Wa (lt (rQ a b))))
theorem sh (j : Value) (a0 : List gu) (t : LO) (H : Value) (f1 : gu → Option Bool) (r : List gu) (w : World) {μ0 : gS} (h0 : pb μ0 (t ++ []) w) (T : gM 108 gv 9 j a0 t) (a4 : qt pg0 H μ0 (fun (x : gu) => [(.agg (gv x).toArray)]) (fun (r : Bool) => (.bool r)) f1) (hm : lD a0 f1 = some r) :
  ie false pg0 112 [j, H] w (t ++ []) (fun v L1 W' => ∃ q S2, v = q ∧ L1 = (S2 ++ []) ∧ gM 108 gv 9 q r S2) := by
 refine sA h0 42 func112 rfl (fun d => sg (Wa (lr (Wm (Wm (bS hm fun n d2 hm => VE (Eg d call176 (sw j a0 H f1 _ _ (T.sl ic (fun b o h => d.at_ (Ml h))) (a4.mono d.iH) d2) (fun W3 d => Wa (ln ?_)))))))))
 refine gO (sg (Wm (Wi rfl (ln (CI hm rfl (fun d1 hm => ?_) (fun d1 hm => ?_))))))
 ·refine sg (Wm (Wa (lt (iw ?_))))
  obtain rfl := sj hm
  exact iC (v := j) rfl rfl ⟨_, _, rfl, (d.nL (Kr Sn)), j, t, rfl, rfl, T⟩
 refine kS (Wm (Wi rfl (Wa (ln (jl (mc (fun m E W => ∃ U I B D a2, ST false (keys (t ++ [])) w W μ0 (I ++ a2) ∧ E 0 = j ∧ E 1 = H ∧ E 5 = (.int .i64 B) ∧ E 6 = (.int .i64 D) ∧ gM 108 gv 9 j U I ∧ ju f1 m U B D = some r) jg ⟨a0, t, n, (wi0 .i64 (n + 1)), _, (d.gy St), rfl, rfl, rfl, rfl, T, hm⟩ ?_))))))
 rintro m E W ⟨U, I, B, D, a2, d, y, Q, G, K, g, a⟩
 cases m with
 | zero => rw [ju] at a; cases a
 | succ c7 =>
  refine gO (sg (Wh K (Wh y (V (jf aj rfl g) (Wi rfl (ln (CI a rfl (fun A a => ?_) (fun A a => ?_))))))))
  ·refine kn (gO (CJ a (fun Y E W => ∃ J a3, ST false (keys (t ++ [])) w W μ0 (J ++ a3) ∧ E 0 = j ∧ E 1 = H ∧ E 5 = (.int .i64 Y.2) ∧ E 6 = (.int .i64 D) ∧ gM 108 gv 9 j Y.1 J) (fun Y c => ?_) ?_))
   ·refine bg (Wh y (Wh K (bS c fun k M c => VQ (iW (i := D) (x0 := k) aj ae rfl rfl g (jk M) (iF M)) (fun e3 P => V (gA rfl (kH d.has (fun p h => (Ml h)) g ic P (iF M) aN ae)) (VE (iZ d aT (fun d6 e1 d => VO (ib (.agg (gv k).toArray) ((gv k).toArray) d rfl rfl ae (jF k) nb rfl (fun d7 d => lr (Wh Q ?_))))))))))
    refine VA d Mh (gv k) aN ae (bS c fun e5 b5 c => VE (u5 k d a4 (gZ.refl _) rfl (tZ rfl) b5 (fun d8 d => V (nY rfl) (ln (CI c rfl (fun L c => ?_) (fun L c => ?_))))))
    ·refine sg (Wh y (Wh G (VA d Mh (gv k) aN ae (bS c fun c9 N c => VQ (iW (i := B) (x0 := c9) aj ae rfl rfl g (jk N) (iF N)) (fun e4 R => ?_)))))
     replace d := d.perm (Nr (Qb Qz) Nz)
     refine VO (tM (u := (.agg (gv k).toArray)) (x1 := k)  d g ic jF rfl rfl rfl R (iF N) ae (fun d9 c0 d s => ln ?_))
     replace d := d.gy (Kr (Db St))
     refine gJ (Wh G (Wi rfl (Wa (gT (im (gI ?_))))))
     obtain rfl := sj c
     exact ⟨c0, _, (d.gy St), y, Q, rfl, K, s⟩
    refine iv (im (gI ?_))
    obtain rfl := sj c
    exact ⟨I, _, (d.gy (Db St)), y, Q, G, K, g⟩
   rintro ⟨c6, c8⟩ E W ⟨J, a3, d, c2, c3, c4, c5, b6⟩ O
   exact gJ (Wh c5 (Wi rfl (Wa (ln ⟨c7, bl _, c6, J, c8, (wi0 .i64 (D + 1)), _, (d.gy St), c2, c3, c4, rfl, b6, O⟩))))
  refine ot (ns (ns (sb (gI (sg (Wh y (Wh G (bS a fun _ Z a => VQ (pK (i := B) aj ae rfl rfl g (pT Z) (pP Z)) (fun e6 b7 => VO (te (z := K9)  d g ic jF aj aT b7 rfl rfl (fun e0 c1 d a9 => lr (Wh y ?_))))))))))))
  refine Wh G (bS a fun _ l a => VQ (uW (i := B) aj ae rfl rfl a9 ic (pT l) (pP l)) (fun a5 b8 => Wa (lt ?_)))
  obtain rfl := sj a
  exact iC (v := a5) rfl rfl ⟨_, _, rfl, (d.nL (Kr Sn)), a5, c1, rfl, rfl, b8⟩
theorem Ee (w : World) (s : ByteArray) (c : Int) : (callFunc 289 [Value.string s, .int .u8 c].toArray).run pg0 w = .ok (.value (.int .i64 (pB s c))) w := xp func289 (by kernel_rfl) (by kernel_rfl) (by kernel_rfl) (by kernel_rfl) s c w
theorem qa (a : ByteArray) (c r : Int) (w : World) (hm : jV a c = some r) :
  iA true pg0 254 [(.string a), (.int .u8 c)] w (.int .i64 r) := by
 exact cG 8 func254 rfl (fun b => sg (Wa (lr (Wm (Wm (VE (AS (args := [(.string a), (.int .u8 c)]) (v := .int .i64 (pB a c)) rfl (by exact sM rfl rfl) (Ee _ a c) (Wa (lt (rQ hm b))))))))))
theorem qJ (a : ByteArray) (c r : Int) (w : World) (hm : lW a c = some r) :
  iA true pg0 215 [(.string a), (.int .u8 c)] w (.int .i64 r) := by
 refine cG 8 func215 rfl (fun b => sg (Wa (lr (Wm (Wm (bS hm fun j g hm => VE (Eg b call254 (qa a c _ _  g) (fun i b => Wa (ln ?_)))))))))
 exact iq (rQ hm b)
theorem Aa (I : ByteArray) (r : Bool) (w : World) (hm : sV I = some r) :
  iA true pg0 216 [(.string I)] w (.bool r) := by
 refine cG 16 func216 rfl (fun b => sg (Wa (lS (Wm (bS hm fun H J hm => VE (ya b aP bD dE rfl J (fun W3 N T b M n j Y => V (lB bD rfl j) (Wm (gT ?_)))))))))
 refine gI (iL (fun i E W => ∃ c, (E 8 = .int .i64 (i : Nat) ∧ E 7 = .int .i64 (H.length : Nat)) ∧ ST true ia w W T c ∧ E 6 = N ∧ od (H.drop i) = some r) H.length j.len ⟨_, ⟨rfl, rfl⟩, (b.gy St), rfl, hm⟩ dc dc dc (fun _ _ _ h => by obtain ⟨_, l, _⟩ := h; exact l) ?_ ?_)
 ·rintro K E W u ⟨c, ⟨d, m⟩, b, g, a⟩
  obtain ⟨k, Q, D, B, G⟩ := iB u
  rw [D] at a
  refine bg (VQ (jL (enc := (iV .u8)) (i := (K : Int)) (x0 := k) bD sizeOf5 g d j (ay _) B) (fun Z x => V (gA rfl (kI b.has (y := (.int .u8 k)) x isAgg5)) (Wa (lr (Wm (bS a fun o z a => VE (Eg b call215 (qJ (⟨#[97, 98, 99, 100, 101, 102, 103, 104, 105, 106, 107, 108, 109, 110, 111, 112, 113, 114, 115, 116, 117, 118, 119, 120, 121, 122, 48, 49, 50, 51, 52, 53, 54, 55, 56, 57, 45]⟩ : ByteArray) k _ _  z) (fun U b => Wi rfl (gT ?_)))))))))
  refine gI (CI a rfl (fun t a => ?_) (fun t a => ?_))
  ·refine sg (Wa (lt (ko (iw (ko (iw ?_))))))
   obtain rfl := sj a
   exact rP b
  exact iv (im (gI ⟨d, _, ⟨rfl, m⟩, (b.gy St), g, (by rw [G]; exact a)⟩))
 rintro E W ⟨c, ⟨d, m⟩, b, g, a⟩
 rw [aI] at a
 exact gI (sg (Wa (lt (rQ a b))))
theorem oa (z : ByteArray) (r : Bool) (w : World) (hm : lz z = some r) :
  iA true pg0 177 [(.string z)] w (.bool r) := by
 refine cG 21 func177 rfl (fun b => sg (Wa (lr (Wm (V (kG aP rfl) (Wi rfl (Wm (LJ hm (fun K E W => ∃ Y, ST true ia w W (hp w) Y ∧ E 0 = (.string z) ∧ E 2 = (.bool false) ∧ E 10 = (.bool K)) 4 ?_ (fun K t y => ?_)))))))))
 ·rintro x2 E W ⟨Y, b, M, d, l⟩ a5
  refine Wh l (LJ a5 (fun J E W => ∃ D, ST true ia w W (hp w) D ∧ E 0 = (.string z) ∧ E 2 = (.bool false) ∧ E 16 = (.bool J)) 5 ?_ (fun J a x => ?_))
  ·rintro q E W ⟨D, b, h, H, a2⟩ N
   refine Wh a2 (LJ N (fun I E W => ∃ G, ST true ia w W (hp w) G ∧ E 2 = (.bool false) ∧ E 20 = (.bool I)) 3 ?_ (fun I j u => ?_))
   ·rintro s E W ⟨G, b, a9, a3⟩ Q
    exact Wg a3 (lt (rQ Q b))
   refine bC j (fun g j => ?_) (fun g j => ?_)
   ·refine ug g (gF h) (bS j fun o T j => oK g (Eg b call216 (Aa z _ _  T) (fun m b => V (gQ (cB g) rfl) ?_)))
    obtain rfl := sj j
    exact u _ _ ⟨_, (b.gy St), H, rfl⟩
   refine un g (un g (V (gP (cB g) rfl) ?_))
   obtain rfl := sj j
   exact u _ _ ⟨_, (b.gy St), H, rfl⟩
  refine bC a (fun c a => ?_) (fun c a => ?_)
  ·refine ug c (gF M) (bS a fun Z B a => ug c (rS (i := 0) aP rfl rfl (qZ B) (tO B)) (bS a fun p U a => oK c (Eg b call215 (qJ (⟨#[97, 98, 99, 100, 101, 102, 103, 104, 105, 106, 107, 108, 109, 110, 111, 112, 113, 114, 115, 116, 117, 118, 119, 120, 121, 122]⟩ : ByteArray) (Z.toNat : Int) _ _  U) (fun n b => ug c (jm rfl rfl rfl) (V (gQ (cB c) rfl) ?_)))))
   obtain rfl := sj a
   exact x _ _ ⟨_, (b.gy St), M, d, rfl⟩
  refine un c (un c (un c (un c (V (gP (cB c) rfl) ?_))))
  obtain rfl := sj a
  exact x _ _ ⟨_, (b.gy St), M, d, rfl⟩
 refine bC t (fun k t => ?_) (fun k t => ?_)
 ·refine ug k (gF rfl) (ug k (kG aP rfl) (ug k (jm rfl rfl rfl) (V (gQ (cB k) rfl) ?_)))
  obtain rfl := sj t
  exact y _ _ ⟨_, (b.gy St), rfl, rfl, rfl⟩
 refine un k (un k (un k (V (gP (cB k) rfl) ?_)))
 obtain rfl := sj t
 exact y _ _ ⟨_, (b.gy St), rfl, rfl, rfl⟩
theorem oq (i : gr) (r : Bool) (w : World) (hm : lA i = some r) :
  iA true pg0 157 [(.agg (gw i).toArray)] w (.bool r) := by
 refine cG 11 func157 rfl (fun b => sg (VE (iO b rfl (fun H J b => Wa (lr (Wf jY (VB b Mh rfl rfl aF (bS hm fun K y hm => VE (Eg b call177 (oa i.gG _ _  y) (fun I b => Wm (LJ hm (fun k E W => ∃ j, ST true ia w W (hp w) j ∧ E 2 = (.bool false) ∧ E 10 = (.bool k)) 4 ?_ (fun k a g => ?_))))))))))))
 ·rintro G E W ⟨j, b, B, x⟩ t
  exact Wg x (lt (rQ t b))
 refine bC a (fun c a => ?_) (fun c a => ?_)
 ·refine ug c (gE ov rfl) (ug c (gA rfl (gN b.has Mh rfl aF)) (bS a fun D u a => oK c (Eg b call177 (oa i.hX _ _  u) (fun z b => V (gQ (cB c) rfl) ?_))))
  obtain rfl := sj a
  exact g _ _ ⟨_, (b.gy (Db St)), rfl, rfl⟩
 refine un c (un c (un c (V (gP (cB c) rfl) ?_)))
 obtain rfl := sj a
 exact g _ _ ⟨_, (b.gy (Db St)), rfl, rfl⟩
theorem EE (w : World) (a b : ByteArray) : (callFunc 238 [Value.string a, .string b].toArray).run pg0 w = .ok (.value (.int .i64 (nF a b))) w := Ct func238 (by kernel_rfl) (by kernel_rfl) (by kernel_rfl) (by kernel_rfl) a b w
theorem pW (a c : ByteArray) (r : Int) (w : World) (hm : lh a c = some r) :
  iA true pg0 186 [(.string a), (.string c)] w (.int .i64 r) := by
 exact cG 8 func186 rfl (fun b => sg (Wa (lr (Wm (Wm (VE (AS (args := [(.string a), (.string c)]) (v := .int .i64 (nF a c)) rfl (by exact sM rfl rfl) (EE _ a c) (Wa (lt (rQ hm b))))))))))
theorem rH (a c : ByteArray) (r : Int) (w : World) (hm : nV a c = some r) :
  iA true pg0 125 [(.string a), (.string c)] w (.int .i64 r) := by
 refine cG 8 func125 rfl (fun b => sg (Wa (lr (Wm (Wm (bS hm fun j g hm => VE (Eg b call186 (pW a c _ _  g) (fun i b => Wa (ln ?_)))))))))
 exact iq (rQ hm b)
theorem zk (g : Value) (t : List Int) (r : Int) (w : World) (c : Sl (Pl (iV .i64)) 1 (hp w) g t) (hm : sa t = some r) :
  iA true pg0 124 [g] w (.int .i64 r) := by
 refine cG 18 func124 rfl (fun b => sg (Wa (lr (Wa (lS (Wm ?_))))))
 refine V (lB underlying234 rfl c) (Wm (ln (iL (fun i E W => ∃ k, (E 8 = .int .i64 (i : Nat) ∧ E 7 = .int .i64 (t.length : Nat)) ∧ ST true ia w W (hp w) k ∧ E 3 = (.int .i64 0) ∧ E 6 = g ∧ pg (t.drop i) = some r) t.length c.len ⟨_, ⟨rfl, rfl⟩, (b.gy St), rfl, rfl, hm⟩ dc dc dc (fun _ _ _ h => by obtain ⟨_, l, _⟩ := h; exact l) ?_ ?_)))
 ·rintro J E W B ⟨k, ⟨d, m⟩, b, j, u, a⟩
  obtain ⟨x, K, H, G, I⟩ := iB B
  rw [H] at a
  refine bg (VQ (jL (enc := (iV .i64)) (i := (J : Int)) (x0 := x) underlying234 ey u d c (ay _) G) (fun M D => V (gA rfl (kI b.has (y := (.int .i64 x)) D bI)) (Wa (lr (Wm (Wh j (Wi rfl (ln ?_))))))))
  refine CI a rfl (fun z a => ?_) (fun z a => ?_)
  ·refine sg (Wm (Wa (lt (ko (iw (ko (iw ?_)))))))
   obtain rfl := sj a
   exact rP b
  exact iv (im (gI ⟨d, _, ⟨rfl, m⟩, (b.gy St), j, u, (by rw [I]; exact a)⟩))
 rintro E W ⟨k, ⟨d, m⟩, b, j, u, a⟩
 rw [aI] at a
 exact gI (sg (Wh j (Wa (lt (rQ a b)))))
theorem tk (g i : gr) (r : Int) (w : World) (hm : oh g i = some r) :
  iA true pg0 57 [(.agg (gw g).toArray), (.agg (gw i).toArray)] w (.int .i64 r) := by
 refine cG 17 func57 rfl (fun b => sg (VE (iO b rfl (fun G I b => VE (iO b rfl (fun H J b => Wa (ln (gO ?_))))))))
 replace b := b.drew
 have d := b.has.gy (Kb (Kb Sn))
 refine iI d ij (X 0 rfl d (gE jY rfl) (XH 1 rfl d (fun _ h => gA rfl (gN h (Mt Mh) rfl aF)) (X 2 rfl d (gE jY rfl) (XH 3 rfl d (fun _ h => gA rfl (gN h Mh rfl aF)) (X 5 rfl d (gE ov rfl) (XH 6 rfl d (fun _ h => gA rfl (gN h (Mt Mh) rfl aF)) (X 7 rfl d (gE ov rfl) (XH 8 rfl d (fun _ h => gA rfl (gN h Mh rfl aF)) (bS hm fun a j hm => XE 4 rfl (Eg b call125 (rH g.gG i.gG _ _  j) (fun x b => ?_)))))))))))
 have d := b.has.gy (Kb (Kb Sn))
 refine ⟨d, (bS hm fun c k hm => XE 9 rfl (Eg b call125 (rH g.hX i.hX _ _  k) (fun y b => ?_)))⟩
 have d := b.has.gy (Kb (Kb Sn))
 refine ⟨d, (XE 10 rfl (ig (cs := #[(.int .i64 a), (.int .i64 c)]) b (nC rfl rfl) (kz underlying234 ey dF) (fun z u b => ?_)))⟩
 have d := b.has.gy (Db (Kb (Kb Sn)))
 refine ⟨d, (bS hm fun D t hm => XE 11 rfl (Eg b call124 (zk (.slice (some ⟨u, 0, none⟩) 2 2) ([a, c]) _ _ (Sl.lit (enc := (iV .i64)) (l := [a, c]) (fun _ => rfl) rfl nb rfl (b.at_ Mh)) t) (fun B b => ?_)))⟩
 have d := b.has.gy (Db (Kb (Kb Sn)))
 refine ⟨d, (X 12 rfl d (jU rfl) (iU kr (gI ?_)))⟩
 exact iq (rQ hm b)
set_option maxHeartbeats 4000000 in
theorem pr (a : gu) (r : Bool) (w : World) (hm : mw a = some r) :
  iA true pg0 115 [(.agg (gv a).toArray)] w (.bool r) := by
 let m9 := (⟨a.Kind, a.Head, zS, a.B, a.C, zS⟩ : gu)
 let m8 := (⟨a.Kind, a.Head, zS, a.B, K0, a.gY⟩ : gu)
 let m7 : Value := (.agg (gw a.B).toArray)
 let m6 := ((gv (⟨a.Kind, a.Head, zS, a.B, K0, zS⟩ : gu)).toArray)
 let o := (⟨a.Kind, a.Head, zS, K0, K0, zS⟩ : gu)
 refine cG 98 func115 rfl (fun b => sg (VE (iO b rfl (fun W2 N b => Wa (lr (Wf jN (VB b Mh rfl rfl bI (Wf jT (VA b Mh (gw a.Head) au ag (V (kO (v := (.agg (gv o).toArray)) (nC rfl rfl) (jH aT bF (Bl _ bF) kr)) (VE (iZ b aT (fun W4 B b => ?_)))))))))))))
 refine VO (ib (.agg (gv o).toArray) ((gv o).toArray) b rfl rfl ae (jF o) nb rfl (fun W5 b => lr (Wf jT (VA b (Mt Mh) (gw a.Head) au ag (bS hm fun n i9 hm => VE (Eg b call157 (oq a.Head _ _  i9) (fun W8 b => Wa (ln (gO (FV hm (fun s E W => ∃ R, ST true ia w W (hp w) ((B, Ol (gv s.2) 108) :: ((N, Ol (gv a) 108) :: R)) ∧ E 1 = (.pointer (some ⟨N, 0, none⟩)) ∧ E 3 = (.pointer (some ⟨B, 0, none⟩)) ∧ E 4 = (.bool s.1)) (fun s g Z => ?_) ?_))))))))))
 ·let j2 := ((gv m9).toArray : Array Value)
  let j1 := ((gv m8).toArray : Array Value)
  let m : Value := (.pointer (some ⟨B, 0, none⟩))
  let l : Value := (.pointer (some ⟨N, 0, none⟩))
  let a0 := ((gv a).toArray : Array Value)
  refine sg (Wf jN (VB b (Mt Mh) rfl rfl bI (ln (bg (Wi rfl (Wa (ln (CI g rfl (fun e4 g => ?_) (fun e4 g => ?_)))))))))
  ·replace b := b.drew
   have d := b.has.gy (Db (Kb Sn))
   refine iI d ij (X 0 rfl d (gE mB rfl) (XH 1 rfl d (fun _ h => gA rfl (gN h Mh rfl aF)) (X 2 rfl d (gF rfl) (X 3 rfl d (gF rfl) (X 8 rfl d (gE mB rfl) (PJ g (fun d5 E W => ∃ b8, ST true ia w W (hp w) ((B, Ol (gv o) 108) :: ((N, Obj.cells a0 108 (0, 0)) :: b8)) ∧ E 1 = l ∧ E 3 = m ∧ E 4 = (.bool n) ∧ E 18 = (.string a.gU) ∧ E 24 = (.bool d5) ∧ E 25 = (.pointer (some ⟨B, 3, none⟩))) (bm 11 511) 2 ?_ (fun d5 D a2 => ?_)))))))
   ·rintro l8 E W ⟨b8, b, g9, h0, k5, h1, h2, h3⟩ f0
    refine XO 9 rfl (ib (.string a.gU) ((gv (⟨a.Kind, a.Head, a.gU, K0, K0, zS⟩ : gu)).toArray) b h3 h1 bQ (uP a.gU) nb rfl (fun j0 b => ?_))
    have d := b.has.gy (Db (Kb Sn))
    refine ⟨d, (X 10 rfl d (jU h2) (iU kr (im (gI ?_))))⟩
    obtain rfl := sj f0
    exact ⟨_, rfl, _, (b.gy St), g9, h0, rfl⟩
   refine bC D (fun k D => ?_) (fun k D => ?_)
   ·refine Xg 4 rfl rfl (cB k) d (gE mB rfl) (pJ 5 rfl rfl (cB k) d (fun _ h => gA rfl (gN h Mh rfl aF)) (bS D fun k9 f8 D => xT 6 rfl rfl (cB k) (Eg b call177 (oa a.gU _ _  f8) (fun j3 b => ?_))))
    have d := b.has.gy (Db (Kb Sn))
    refine ⟨d, (X 7 rfl d (gQ (cB k) rfl) ?_)⟩
    obtain rfl := sj D
    refine jv kr (a2 _ _ ⟨_, (b.gy St), rfl, rfl, rfl, rfl, rfl, rfl⟩)
   refine Xn 4 rfl rfl (cB k) d (Xn 5 rfl rfl (cB k) d (Xn 6 rfl rfl (cB k) d (X 7 rfl d (gP (cB k) rfl) ?_)))
   obtain rfl := sj D
   refine jv kr (a2 _ _ ⟨_, (b.gy St), rfl, rfl, rfl, rfl, rfl, rfl⟩)
  refine sg (Wi rfl (Wa (ln (CI g rfl (fun e5 g => ?_) (fun e5 g => ?_)))))
  ·replace b := b.drew
   have d := b.has.gy (Db (Kb Sn))
   refine iI d ij (X 0 rfl d (gE iM rfl) (XH 1 rfl d (fun _ h => gA rfl (gK h Mh (gw a.B) rfl au ag)) (X 2 rfl d (gF rfl) (X 3 rfl d (gF rfl) (X 8 rfl d (gE iM rfl) (PJ g (fun d6 E W => ∃ b9, ST true ia w W (hp w) ((B, Ol (gv o) 108) :: ((N, Obj.cells a0 108 (0, 0)) :: b9)) ∧ E 1 = l ∧ E 3 = m ∧ E 4 = (.bool n) ∧ E 29 = m7 ∧ E 35 = (.bool d6) ∧ E 36 = (.pointer (some ⟨B, 4, none⟩))) (bm 11 511) 2 ?_ (fun d6 G a3 => ?_)))))))
   ·rintro l9 E W ⟨b9, b, h4, h5, k6, h6, h7, h8⟩ f1
    refine XO 9 rfl (ib m7 m6 b h8 h6 ag (nx a.B) nb rfl (fun j4 b => ?_))
    have d := b.has.gy (Db (Kb Sn))
    refine ⟨d, (X 10 rfl d (jU h7) (iU kr (im (gI ?_))))⟩
    obtain rfl := sj f1
    exact ⟨_, rfl, _, (b.gy St), h4, h5, rfl⟩
   refine bC G (fun t G => ?_) (fun t G => ?_)
   ·refine Xg 4 rfl rfl (cB t) d (gE iM rfl) (pJ 5 rfl rfl (cB t) d (fun _ h => gA rfl (gK h Mh (gw a.B) rfl au ag)) (bS G fun l0 f9 G => xT 6 rfl rfl (cB t) (Eg b call157 (oq a.B _ _  f9) (fun j5 b => ?_))))
    have d := b.has.gy (Db (Kb Sn))
    refine ⟨d, (X 7 rfl d (gQ (cB t) rfl) ?_)⟩
    obtain rfl := sj G
    refine jv kr (a3 _ _ ⟨_, (b.gy St), rfl, rfl, rfl, rfl, rfl, rfl⟩)
   refine Xn 4 rfl rfl (cB t) d (Xn 5 rfl rfl (cB t) d (Xn 6 rfl rfl (cB t) d (X 7 rfl d (gP (cB t) rfl) ?_)))
   obtain rfl := sj G
   refine jv kr (a3 _ _ ⟨_, (b.gy St), rfl, rfl, rfl, rfl, rfl, rfl⟩)
  refine sg (Wi rfl (Wa (ln (CI g rfl (fun e6 g => ?_) (fun e6 g => ?_)))))
  ·refine gO ?_
   replace b := b.drew
   have d := b.has.gy (Db (Kb Sn))
   refine iI d ij (X 0 rfl d (gE iM rfl) (XH 1 rfl d (fun _ h => gA rfl (gK h Mh (gw a.B) rfl au ag)) (X 2 rfl d (gE ma rfl) (XH 3 rfl d (fun _ h => gA rfl (gN h Mh rfl aF)) (X 4 rfl d (gE iM rfl) (XO 5 rfl (ib m7 m6 b rfl rfl ag (nx a.B) nb rfl (fun j6 b => ?_))))))))
   have d := b.has.gy (Db (Kb Sn))
   refine ⟨d, (X 6 rfl d (gE ma rfl) (XO 7 rfl (ib (.string a.gY) ((gv m8).toArray) b rfl rfl bQ (uP a.gY) nb rfl (fun j7 b => ?_))))⟩
   have d := b.has.gy (Db (Kb Sn))
   refine ⟨d, (iU kr (gI (gJ (Wm (Wm (LJ g (fun d9 E W => ∃ c0, ST true ia w W (hp w) ((B, Obj.cells j1 108 (0, 0)) :: ((N, Obj.cells a0 108 (0, 0)) :: c0)) ∧ E 1 = l ∧ E 3 = m ∧ E 4 = (.bool n) ∧ E 50 = (.bool d9)) 4 ?_ (fun d9 I L => ?_)))))))⟩
   ·rintro m0 E W ⟨c0, b, U, c6, c7, h9⟩ f2
    refine Wh h9 (LJ f2 (fun d8 E W => ∃ c1, ST true ia w W (hp w) ((B, Obj.cells j1 108 (0, 0)) :: ((N, Obj.cells a0 108 (0, 0)) :: c1)) ∧ E 1 = l ∧ E 3 = m ∧ E 4 = (.bool n) ∧ E 59 = (.bool d8)) 8 ?_ (fun d8 T a5 => ?_))
    ·rintro m1 E W ⟨c1, b, p, c8, c9, i0⟩ f3
     refine Wh i0 (LJ f3 (fun d7 E W => ∃ c2, ST true ia w W (hp w) ((B, Obj.cells j1 108 (0, 0)) :: ((N, Obj.cells a0 108 (0, 0)) :: c2)) ∧ E 1 = l ∧ E 3 = m ∧ E 4 = (.bool n) ∧ E 64 = (.bool d7)) 4 ?_ (fun d7 H a4 => ?_))
     ·rintro m2 E W ⟨c2, b, i1, i2, k7, i3⟩ f4
      refine Wg i3 (gT (im (gI ?_)))
      obtain rfl := sj f4
      exact ⟨_, rfl, _, (b.gy St), i1, i2, rfl⟩
     refine bC H (fun x H => ?_) (fun x H => ?_)
     ·refine ug x (gE ma p) (ug x (gA rfl (gN b.has (Mt Mh) rfl aF)) (bS H fun l1 g0 H => oK x (Eg b call177 (oa a.gY _ _  g0) (fun j8 b => V (gQ (cB x) rfl) ?_))))
      obtain rfl := sj H
      exact a4 _ _ ⟨_, (b.gy St), p, c8, c9, rfl⟩
     refine un x (un x (un x (V (gP (cB x) rfl) ?_)))
     obtain rfl := sj H
     exact a4 _ _ ⟨_, (b.gy St), p, c8, c9, rfl⟩
    refine bC T (fun c T => ?_) (fun c T => ?_)
    ·refine ug c (gE iM U) (ug c (gE jY rfl) (ug c (gA rfl (gN b.has (Mt Mh) rfl aF)) (ug c (gE jT U) (ug c (gE jY rfl) (ug c (gA rfl (gN b.has (Mt Mh) rfl aF)) (ug c (mr rfl rfl rfl) (V (gQ (cB c) rfl) ?_)))))))
     obtain rfl := sj T
     exact a5 _ _ ⟨_, (b.gy St), U, c6, c7, rfl⟩
    refine un c (un c (un c (un c (un c (un c (un c (V (gP (cB c) rfl) ?_)))))))
    obtain rfl := sj T
    exact a5 _ _ ⟨_, (b.gy St), U, c6, c7, rfl⟩
   refine bC I (fun u I => ?_) (fun u I => ?_)
   ·refine ug u (gE iM rfl) (ug u (gA rfl (gK b.has (Mt Mh) (gw a.B) rfl au ag)) (bS I fun l2 g1 I => oK u (Eg b call157 (oq a.B _ _  g1) (fun j9 b => V (gQ (cB u) rfl) ?_))))
    obtain rfl := sj I
    exact L _ _ ⟨_, (b.gy St), rfl, rfl, rfl, rfl⟩
   refine un u (un u (un u (V (gP (cB u) rfl) ?_)))
   obtain rfl := sj I
   exact L _ _ ⟨_, (b.gy St), rfl, rfl, rfl, rfl⟩
  refine sg (Wi rfl (Wa (ln (CI g rfl (fun e7 g => ?_) (fun e7 g => ?_)))))
  ·refine gO ?_
   replace b := b.drew
   have d := b.has.gy (Db (Kb Sn))
   refine iI d ij (X 0 rfl d (gE iM rfl) (XH 1 rfl d (fun _ h => gA rfl (gK h Mh (gw a.B) rfl au ag)) (X 2 rfl d (gE kD rfl) (XH 3 rfl d (fun _ h => gA rfl (gK h Mh (gw a.C) rfl au ag)) (X 4 rfl d (gE iM rfl) (XO 5 rfl (ib m7 m6 b rfl rfl ag (nx a.B) nb rfl (fun k0 b => ?_))))))))
   have d := b.has.gy (Db (Kb Sn))
   refine ⟨d, (X 6 rfl d (gE kD rfl) (XO 7 rfl (ib (.agg (gw a.C).toArray) ((gv m9).toArray) b rfl rfl ag (nx a.C) nb rfl (fun k1 b => ?_))))⟩
   have d := b.has.gy (Db (Kb Sn))
   refine ⟨d, (iU kr (gI (gJ (Wm (Wm (LJ g (fun e2 E W => ∃ c3, ST true ia w W (hp w) ((B, Obj.cells j2 108 (0, 0)) :: ((N, Obj.cells a0 108 (0, 0)) :: c3)) ∧ E 1 = l ∧ E 3 = m ∧ E 4 = (.bool n) ∧ E 78 = (.bool e2)) 4 ?_ (fun e2 M a9 => ?_)))))))⟩
   ·rintro m3 E W ⟨c3, b, q, d0, d1, i4⟩ f5
    refine Wh i4 (LJ f5 (fun e1 E W => ∃ c4, ST true ia w W (hp w) ((B, Obj.cells j2 108 (0, 0)) :: ((N, Obj.cells a0 108 (0, 0)) :: c4)) ∧ E 1 = l ∧ E 3 = m ∧ E 4 = (.bool n) ∧ E 83 = (.bool e1)) 4 ?_ (fun e1 K P => ?_))
    ·rintro m4 E W ⟨c4, b, Y, d2, d3, i5⟩ f6
     refine Wh i5 (LJ f6 (fun e0 E W => ∃ c5, ST true ia w W (hp w) ((B, Obj.cells j2 108 (0, 0)) :: ((N, Obj.cells a0 108 (0, 0)) :: c5)) ∧ E 1 = l ∧ E 3 = m ∧ E 4 = (.bool n) ∧ E 91 = (.bool e0)) 7 ?_ (fun e0 J O => ?_))
     ·rintro m5 E W ⟨c5, b, i6, i7, k8, i8⟩ f7
      refine Wg i8 (gT (im (gI ?_)))
      obtain rfl := sj f7
      exact ⟨_, rfl, _, (b.gy St), i6, i7, rfl⟩
     refine bC J (fun i J => ?_) (fun i J => ?_)
     ·refine ug i (gE iM Y) (ug i (gA rfl (gK b.has (Mt Mh) (gw a.B) rfl au ag)) (ug i (gE kD Y) (ug i (gA rfl (gK b.has (Mt Mh) (gw a.C) rfl au ag)) (bS J fun l3 g2 J => oK i (Eg b call57 (tk a.B a.C _ _  g2) (fun k2 b => ug i (jm rfl rfl rfl) (V (gQ (cB i) rfl) ?_)))))))
      obtain rfl := sj J
      exact O _ _ ⟨_, (b.gy St), Y, d2, d3, rfl⟩
     refine un i (un i (un i (un i (un i (un i (V (gP (cB i) rfl) ?_))))))
     obtain rfl := sj J
     exact O _ _ ⟨_, (b.gy St), Y, d2, d3, rfl⟩
    refine bC K (fun z K => ?_) (fun z K => ?_)
    ·refine ug z (gE kD q) (ug z (gA rfl (gK b.has (Mt Mh) (gw a.C) rfl au ag)) (bS K fun l4 g3 K => oK z (Eg b call157 (oq a.C _ _  g3) (fun k3 b => V (gQ (cB z) rfl) ?_))))
     obtain rfl := sj K
     exact P _ _ ⟨_, (b.gy St), q, d0, d1, rfl⟩
    refine un z (un z (un z (V (gP (cB z) rfl) ?_)))
    obtain rfl := sj K
    exact P _ _ ⟨_, (b.gy St), q, d0, d1, rfl⟩
   refine bC M (fun y M => ?_) (fun y M => ?_)
   ·refine ug y (gE iM rfl) (ug y (gA rfl (gK b.has (Mt Mh) (gw a.B) rfl au ag)) (bS M fun l5 g4 M => oK y (Eg b call157 (oq a.B _ _  g4) (fun k4 b => V (gQ (cB y) rfl) ?_))))
    obtain rfl := sj M
    exact a9 _ _ ⟨_, (b.gy St), rfl, rfl, rfl, rfl⟩
   refine un y (un y (un y (V (gP (cB y) rfl) ?_)))
   obtain rfl := sj M
   exact a9 _ _ ⟨_, (b.gy St), rfl, rfl, rfl, rfl⟩
  refine sg (Wa (ln ?_))
  replace b := b.gy (Db (Db St))
  refine iq (ko (iw ?_))
  obtain rfl := sj g
  replace Z : some false = some r := Z
  obtain rfl := sj Z
  exact rP b
 rintro ⟨l6, e3⟩ E W ⟨R, b, g5, g6, g7⟩ e8
 refine sg (Wh g7 (Wm (LJ e8 (fun d4 E W => ∃ b7, ST true ia w W (hp w) b7 ∧ E 97 = (.bool d4)) 4 ?_ (fun d4 Q A => ?_))))
 ·rintro l7 E W ⟨b7, b, g8⟩ e9
  exact Wg g8 (lt (rQ e9 b))
 refine bC Q (fun j Q => ?_) (fun j Q => ?_)
 ·refine ug j (gA g6 (gK b.has Mh (gv e3) rfl aN ae)) (ug j (gA g5 (gK b.has (Mt Mh) (gv a) rfl aN ae)) (ug j (qU rfl rfl (ms fj) (oV (uf _ e3 a))) (V (gQ (cB j) rfl) ?_)))
  obtain rfl := sj Q
  exact A _ _ ⟨_, (b.gy (Db (Db St))), rfl⟩
 refine un j (un j (un j (V (gP (cB j) rfl) ?_)))
 obtain rfl := sj Q
 exact A _ _ ⟨_, (b.gy (Db (Db St))), rfl⟩
theorem yp (a : gu) (r : Bool) (w : World) (hm : pQ a = some r) :
  iA true pg0 114 [(.agg (gv a).toArray)] w (.bool r) := by
 refine cG 6 func114 rfl (fun b => sg (VE (iO b rfl (fun g j b => Wa (lr (VA b Mh (gv a) aN ae (bS hm fun k c hm => VE (Eg b call115 (pr a _ _  c) (fun i b => V (nY rfl) (Wa (gT ?_)))))))))))
 refine gI ?_
 exact iq (rQ hm b)
theorem A7 (c : Value) (k : List gu) (a : LO) (g : Value) (t : (gu × gu) → Option Int) (r : List gu) (w : World) {y : gS} (u : pb y (a ++ []) w) (i : gM 108 gv 9 c k a) (j : wU pg0 g y (fun (x : (gu × gu)) => [(.agg (gv x.1).toArray), (.agg (gv x.2).toArray)]) (fun (r : Int) => (.int .i64 r)) t) (hm : qx t k = some r) :
  ie true pg0 116 [c, g] w (a ++ []) (fun v z W' => ∃ S, v = (.tuple #[]) ∧ z = (S ++ []) ∧ gM 108 gv 9 c r S) := vR (P := pg0) (ρ := BO) E4 9 aN ae gv ic jF u.H u.S i j hm
theorem qL (t : Nat) (j : Value) (G : List Int) (i : LO) (h : Int) (r : (Bool × (List Int))) (w : World) {μ0 : gS} (s : pb μ0 ((t, Ob #[j] 81) :: (i ++ [])) w) (y : gM 5 (iV .u8) 1 j G i) (hm : lU G h = some r) :
  ie true pg0 93 [(.pointer (some ⟨t, 0, none⟩)), (.int .i64 h)] w ((t, Ob #[j] 81) :: (i ++ [])) (fun v L1 W' => ∃ n S2, v = (.bool (r.1)) ∧ L1 = ((t, Ob #[n] 81) :: (S2 ++ [])) ∧ gM 5 (iV .u8) 1 n r.2 S2) := by
 refine sA s 38 func93 rfl (fun d => sg (Wa (lS (Wm (V (qF eQ rfl rfl) (Wm (Vg rfl rfl (gF rfl) (Vg rfl rfl (jm rfl rfl rfl) (V (gP rfl rfl) ?_)))))))))
 refine ln (CI hm rfl (fun a9 hm => ?_) (fun a9 hm => ?_))
 ·refine sg (Wa (lt (iw ?_)))
  obtain rfl := sj hm
  exact iC (v := (.bool false)) rfl rfl ⟨_, _, rfl, (d.nL (Kb (Kr Sn))), j, i, rfl, rfl, y⟩
 refine kn (gO (jl (mc (fun m E W => ∃ c z U u a0, ST true (keys ((t, Ob #[j] 81) :: (i ++ []))) w W μ0 ((t, Ob #[z] 81) :: (u ++ a0)) ∧ E 0 = (.pointer (some ⟨t, 0, none⟩)) ∧ E 1 = (.int .i64 c) ∧ gM 5 (iV .u8) 1 z U u ∧ kQ m c U = some r) jg ⟨h, j, G, i, _, (d.gy St), rfl, rfl, y, hm⟩ ?_)))
 rintro m E W ⟨c, z, U, u, a0, d, x, K, T, g⟩
 cases m with
 | zero => rw [kQ] at g; cases g
 | succ q =>
  refine gO (sg (Wh K (Wi rfl (ln (CI g rfl (fun o g => ?_) (fun o g => ?_))))))
  ·refine kn (gO (jl (gJ (Wh x (Wh x (Wn (Wf si (VB d Mh rfl rfl isAgg78 (Wh K (V (sR (k' := .i64) (a := c) dD dE rfl) (V (Bv (k := .u8) (a := (IntKind.u8.wrap c)) (b := 128) (v := (.int .u8 (IntKind.u8.wrap (BitVec.ofInt (IntKind.bits .u8) (IntKind.u8.wrap c) ||| BitVec.ofInt (IntKind.bits .u8) 128).toNat))) rfl rfl dc rfl) (VE (ig (cs := [(.int .u8 (IntKind.u8.wrap (BitVec.ofInt (IntKind.bits .u8) (IntKind.u8.wrap c) ||| BitVec.ofInt (IntKind.bits .u8) 128).toNat))].toArray) d (lk rfl) (kz bD sizeOf5 gb) (fun c2 p d => ?_))))))))))))))
   replace d := d.perm (Nr (Qb (Qb Qz)) Nz)
   refine bS g fun Q Y g => VE (jJ (enc := (iV .u8)) (v := z) (vs := (.slice (some ⟨p, 0, none⟩) 1 1)) (R := u) d (fun _ => rfl) dc (vi _) bD nX.1 nX.2.1 rfl nX.2.2.1 nX.2.2.2 rfl rfl T (Sl.lit (enc := (iV .u8)) (l := [(IntKind.u8.wrap (BitVec.ofInt (IntKind.bits .u8) (IntKind.u8.wrap c) ||| BitVec.ofInt (IntKind.bits .u8) 128).toNat)]) (fun _ => rfl) rfl nb rfl (d.at_ (Ma Mh))) Y (fun A c0 a2 d M => Wn (Wf si ?_)))
   obtain ⟨B, H, rfl⟩ := M.form
   replace d := d.perm (Nb (Pr (Pb Pz)) Nz)
   refine VO (ib (.slice B Q.length H) (#[(.slice B Q.length H)]) d rfl rfl sizeOf78 oc nb rfl (fun L d => gT (im (gI ?_))))
   replace d := d.gy (Kb (Kr (Db St)))
   exact gJ (Wh K (V (Fk (a := c) (b := 7) rfl rfl dc) (Wa (ln ⟨q, bl _, (Int.fdiv c (2 ^ min (Int.toNat 7) (IntKind.bits .i64))), (.slice B Q.length H), Q, a2, _, (d.gy St), x, rfl, M, g⟩))))
  refine ot (ns (ns (sb (gI (sg (Wh x (Wh x (Wn (Wf si (VB d Mh rfl rfl isAgg78 (Wh K (V (sR (k' := .i64) (a := c) dD dE rfl) (VE (ig (cs := [(.int .u8 (IntKind.u8.wrap c))].toArray) d (lk rfl) (kz bD sizeOf5 gb) (fun O a5 d => ?_)))))))))))))))
  replace d := d.perm (Nr (Qb (Qb Qz)) Nz)
  refine bS g fun J Z g => VE (jJ (enc := (iV .u8)) (v := z) (vs := (.slice (some ⟨a5, 0, none⟩) 1 1)) (R := u) d (fun _ => rfl) dc (vi _) bD nX.1 nX.2.1 rfl nX.2.2.1 nX.2.2.2 rfl rfl T (Sl.lit (enc := (iV .u8)) (l := [(IntKind.u8.wrap c)]) (fun _ => rfl) rfl nb rfl (d.at_ (Ma Mh))) Z (fun P c1 a3 d N => Wn (Wf si ?_)))
  obtain ⟨D, I, rfl⟩ := N.form
  replace d := d.perm (Nb (Pr (Pb Pz)) Nz)
  refine VO (ib (.slice D J.length I) (#[(.slice D J.length I)]) d rfl rfl sizeOf78 oc nb rfl (fun b8 d => ln ?_))
  replace d := d.gy (Kb (Kr (Db St)))
  refine sg (Wa (lt ?_))
  obtain rfl := sj g
  exact iC (v := (.bool true)) rfl rfl ⟨_, _, rfl, (d.nL (Kb (Kr Sn))), (.slice D J.length I), a3, rfl, rfl, N⟩
theorem vD (g : Nat) (c : Value) (j : List Int) (a : LO) (u : Value) (D : List Int) (r : (Bool × (List Int))) (w : World) {Z : gS} (h : pb Z ((g, Ob #[c] 81) :: (a ++ [])) w) (i : gM 5 (iV .u8) 1 c j a) (k : Sl (Pl (iV .u8)) 1 Z u D) (hm : pH j D = some r) :
  ie true pg0 206 [(.pointer (some ⟨g, 0, none⟩)), u] w ((g, Ob #[c] 81) :: (a ++ [])) (fun v L1 W' => ∃ U M, v = (.bool (r.1)) ∧ L1 = ((g, Ob #[U] 81) :: (M ++ [])) ∧ gM 5 (iV .u8) 1 U r.2 M) := by
 refine sA h 25 func206 rfl (fun b => sg (Wa (lS (Wm (V (qF eQ rfl rfl) (Wm (Vg rfl rfl (gF rfl) (Vg rfl rfl (lB bD rfl k) (Vg rfl rfl (jm rfl rfl rfl) ?_)))))))))
 refine V (gP rfl rfl) (ln (CI hm rfl (fun Q hm => ?_) (fun Q hm => ?_)))
 ·refine sg (Wa (lt (iw ?_)))
  obtain rfl := sj hm
  exact iC (v := (.bool false)) rfl rfl ⟨_, _, rfl, (b.nL (Kb (Kr Sn))), c, a, rfl, rfl, i⟩
 refine kg (Wm (Wm (V (lB bD rfl k) (bS hm fun p T hm => ?_))))
 refine VE (eM b (Cb Pz (Cr Qz Cn)) call93 (fun l _ => (qL g c j a (D.length : Int) _ _ l i T)) ?_)
 rintro _ q n a3 b H m d ⟨Y, K, t, rfl, I⟩
 obtain rfl := t.symm
 replace b := b.perm (Tb (Tr Tn))
 refine lr (Wm (Wm (Wn (Wf si (VB b Mh rfl rfl isAgg78 (Wm ?_))))))
 replace b := b.perm (Nr (Qb Qz) Nz)
 refine bS hm fun B G hm => VE (jJ (enc := (iV .u8)) (v := Y) (vs := u) (R := K) b (fun _ => rfl) dc (vi _) bD nX.1 nX.2.1 rfl nX.2.2.1 nX.2.2.2 rfl rfl I (k.mono (Pl.mono _) (H.trans b.iH)) G (fun a4 o J b z => Wn (Wf si ?_)))
 obtain ⟨x, y, rfl⟩ := z.form
 replace b := b.perm (Nb (Pr Pz) Nz)
 refine VO (ib (.slice x B.length y) (#[(.slice x B.length y)]) b rfl rfl sizeOf78 oc nb rfl (fun a5 b => lr (Wa (lt ?_))))
 obtain rfl := sj hm
 exact iC (v := (.bool true)) rfl rfl ⟨_, _, rfl, (b.nL (Kb (Kr Sn))), (.slice x B.length y), J, rfl, rfl, z⟩
theorem qz (j : Nat) (c : Value) (t : List Int) (a : LO) (J : ByteArray) (r : (Bool × (List Int))) (w : World) {Z : gS} (s : pb Z ((j, Ob #[c] 81) :: (a ++ [])) w) (k : gM 5 (iV .u8) 1 c t a) (hm : nf t J = some r) :
  ie true pg0 162 [(.pointer (some ⟨j, 0, none⟩)), (.string J)] w ((j, Ob #[c] 81) :: (a ++ [])) (fun v L1 W' => ∃ n S2, v = (.bool (r.1)) ∧ L1 = ((j, Ob #[n] 81) :: (S2 ++ [])) ∧ gM 5 (iV .u8) 1 n r.2 S2) := by
 refine sA s 17 func162 rfl (fun b => sg (Wa (lr (Wm (V (xk eQ rfl rfl) (Wm (Vg rfl rfl (gF rfl) (bS hm fun r1 a4 hm => EM rfl rfl (Eg b call177 (oa J _ _  a4) (fun W3 b => V (gQ rfl rfl) ?_))))))))))
 refine Wm (LJ hm (fun B E W => ∃ z x D I, gZ Z D ∧ ST true (keys ((j, Ob #[c] 81) :: (a ++ []))) w W D ((j, Ob #[z] 81) :: (x ++ I)) ∧ E 4 = (.bool false) ∧ E 16 = (.bool B.1) ∧ gM 5 (iV .u8) 1 z B.2 x) 5 ?_ (fun B g y => ?_))
 ·rintro ⟨p, b9⟩ E W ⟨z, x, D, I, K, b, R, a3, T⟩ M
  refine Wg a3 (lt ?_)
  obtain rfl := sj M
  exact iC (v := (.bool p)) rfl rfl ⟨_, _, rfl, (b.nL (Kb (Kr Sn))), z, x, rfl, rfl, T⟩
 refine bC g (fun i g => ?_) (fun i g => ?_)
 ·refine ug i (gF rfl) (ug i (gF rfl) (bS g fun a5 N g => oK i (ya b aP bD dE rfl N (fun P o c2 b G l U L => bS g fun c0 Q g => ?_))))
  refine oK i (eM b (Cb Pz (Cr Qz Cn)) call206 (fun A h => (vD j c t a o a5 _ _ A k (U.mono (Pl.mono _) h) Q)) ?_)
  rintro _ c1 q O b H m d ⟨a9, a2, u, rfl, Y⟩
  obtain rfl := u.symm
  replace b := b.perm (Tb (Tr Tn))
  refine V (gQ (cB i) rfl) ?_
  obtain rfl := sj g
  exact y _ _ ⟨a9, a2, q, _, (G.trans H), (b.gy St), rfl, rfl, Y⟩
 refine un i (un i (un i (un i (V (gP (cB i) rfl) ?_))))
 obtain rfl := sj g
 exact y _ _ ⟨c, a, Z, _, (gZ.refl _), (b.gy St), rfl, rfl, k⟩
theorem pp (c : Nat) (i : Value) (D : List Int) (a : LO) (x : gr) (r : (Bool × (List Int))) (w : World) {μ0 : gS} (h0 : pb μ0 ((c, Ob #[i] 81) :: (a ++ [])) w) (y : gM 5 (iV .u8) 1 i D a) (hm : ly D x = some r) :
  ie true pg0 94 [(.pointer (some ⟨c, 0, none⟩)), (.agg (gw x).toArray)] w ((c, Ob #[i] 81) :: (a ++ [])) (fun v L1 W' => ∃ p S2, v = (.bool (r.1)) ∧ L1 = ((c, Ob #[p] 81) :: (S2 ++ [])) ∧ gM 5 (iV .u8) 1 p r.2 S2) := by
 let l := ((c, Ob #[i] 81) :: (a ++ []))
 refine sA h0 23 func94 rfl (fun b => sg (VE (iO b rfl (fun W2 m b => Wa (lr (Wm (V (xk eQ rfl rfl) (Wm (Vg rfl rfl (gA rfl (gK b.has Mh (gw x) rfl au ag)) (bS hm fun r3 c3 hm => EM rfl rfl (Eg b call157 (oq x _ _  c3) (fun W5 b => ?_))))))))))))
 refine V (gQ rfl rfl) (Wm (LJ hm (fun T E W => ∃ z u B a0, gZ μ0 B ∧ ST true (keys l) w W B ((m, Ol (gw x) 28) :: ((c, Ob #[z] 81) :: (u ++ a0))) ∧ E 0 = (.pointer (some ⟨c, 0, none⟩)) ∧ E 3 = (.pointer (some ⟨m, 0, none⟩)) ∧ E 4 = (.bool false) ∧ E 16 = (.bool T.1) ∧ gM 5 (iV .u8) 1 z T.2 u) 5 ?_ (fun T t K => ?_)))
 ·rintro ⟨e5, c4⟩ E W ⟨z, u, B, a0, d1, b, b9, c0, a3, c1, N⟩ q
  refine Wh c1 (LJ q (fun Q E W => ∃ M I U a2, gZ B U ∧ ST true (keys l) w W U ((c, Ob #[M] 81) :: (I ++ a2)) ∧ E 4 = (.bool false) ∧ E 22 = (.bool Q.1) ∧ gM 5 (iV .u8) 1 M Q.2 I) 5 ?_ (fun Q k J => ?_))
  ·rintro ⟨c5, e0⟩ E W ⟨M, I, U, a2, d2, b, d9, c2, L⟩ s
   refine Wg c2 (lt ?_)
   obtain rfl := sj s
   exact iC (v := (.bool c5)) rfl rfl ⟨_, _, rfl, (b.nL (Kb (Kr Sn))), M, I, rfl, rfl, L⟩
  refine bC k (fun g k => ?_) (fun g k => ?_)
  ·refine ug g (gF b9) (ug g (gE ov c0) (ug g (gA rfl (gN b.has Mh rfl aF)) (bS k fun e1 A k => ?_)))
   refine oK g (eM b (Cb (Pb Pz) (Cr (Qb Qz) Cn)) call162 (fun h _ => (qz c z c4 u x.hX _ _ h N A)) ?_)
   rintro _ e3 c9 d5 b Y n d ⟨c7, R, G, rfl, O⟩
   obtain rfl := G.symm
   replace b := b.perm (Tb (Tr Tn))
   refine V (gQ (cB g) rfl) ?_
   obtain rfl := sj k
   exact J _ _ ⟨c7, R, c9, _, Y, (b.gy (Kb (Kr (Db St)))), a3, rfl, O⟩
  refine un g (un g (un g (un g (V (gP (cB g) rfl) ?_))))
  obtain rfl := sj k
  exact J _ _ ⟨z, u, B, _, (gZ.refl _), (b.gy (Db St)), a3, rfl, N⟩
 refine bC t (fun j t => ?_) (fun j t => ?_)
 ·refine ug j (gF rfl) (ug j (gE jY rfl) (ug j (gA rfl (gN b.has Mh rfl aF)) (bS t fun e2 a9 t => ?_)))
  refine oK j (eM b (Cb (Pb Pz) (Cr (Qb Qz) Cn)) call162 (fun h _ => (qz c i D a x.gG _ _ h y a9)) ?_)
  rintro _ e4 d0 d6 b Z o d ⟨c8, b7, H, rfl, P⟩
  obtain rfl := H.symm
  replace b := b.perm (Tb (Tr Tn))
  refine V (gQ (cB j) rfl) ?_
  obtain rfl := sj t
  exact K _ _ ⟨c8, b7, d0, _, Z, (b.gy (Sb (Pb (Pr Pz)) St)), rfl, rfl, rfl, rfl, P⟩
 refine un j (un j (un j (un j (V (gP (cB j) rfl) ?_))))
 obtain rfl := sj t
 exact K _ _ ⟨i, a, μ0, _, (gZ.refl _), (b.gy St), rfl, rfl, rfl, rfl, y⟩
theorem yj (g : Value) (i r : List Int) (w : World) (a : Sl (Pl (iV .u8)) 1 (hp w) g i) (hm : pU i = some r) :
  iS true pg0 96 [g] w 5 (iV .u8) 1 r := by
 unfold pU at hm
 refine qH 8 func96 rfl (fun b => sg (Wa (lS (Wm ?_))))
 obtain ⟨y, B, rfl⟩ := a.form
 refine V (xS bD rfl rfl) (ln ?_)
 rcases y with _ | z
 ·have u := a.isNil
  replace hm : some [] = some r := by rw [u] at hm; simpa [je, maxLen] using hm
  refine qk (rfl) (sg (Wa (lt (iw ?_))))
  obtain rfl := sj hm
  exact iC (v := (.slice none 0 0)) rfl rfl ⟨_, [], rfl, b.kp (fun p d => by cases d) (by simp), gM.nil _ _ _⟩
 ·refine ml (rfl) (kg (VE (ig (cs := #[]) b w9 (vA [] bD sizeOf5 gb dc rfl (by simp) rfl rfl) (fun G k b => Wm (bS hm fun H t hm => VE (jJ (enc := (iV .u8)) (v := (.slice (some ⟨k, 0, none⟩) 0 0)) (vs := (.slice (some z) i.length B)) (R := [(k, Ob #[] 5)]) b (fun _ => rfl) dc (vi _) bD nX.1 nX.2.1 rfl nX.2.2.1 nX.2.2.2 rfl rfl (gM.lit (l := []) (enc := (iV .u8)) rfl dc rfl rfl) (a.mono (Pl.mono _) b.iH) t (fun D x j b c => Wa (lt ?_))))))))
  obtain rfl := sj hm
  exact iC (v := x) rfl rfl ⟨_, j, rfl, b.kp (fun p d => (Ml d)) c.nd, c⟩
theorem wC (g : Nat) (a : Value) (c r : List Int) (w : World) (j : Sl (Pl (iV .u8)) 1 (hp w) a c) (k : At (hp w) (.pointer (some ⟨g, 0, none⟩)) [a]) (hm : pX c = some r) :
  iS true pg0 37 [(.pointer (some ⟨g, 0, none⟩))] w 5 (iV .u8) 1 r := by
 refine qH 10 func37 rfl (fun b => sg (Wa (lS (Wm (V (qF eQ rfl rfl) (ln (ml rfl (iv ?_))))))))
 refine gI (sg (Wm (Wn (VQ (sP [a] si rfl k rfl) (fun G u => V (gA rfl (kI b.has (y := a) u isAgg78)) (bS hm fun H x hm => VE (nU b call96 (yj a c _ _ (j.mono (Pl.mono _) b.iH) x) (fun D z I t b B d i => Wa (lt ?_)))))))))
 obtain rfl := sj hm
 exact iC (v := z) rfl rfl ⟨_, t, rfl, b.kp (fun p h => (Ml h)) i.nd, i⟩
theorem u7 (c : gu) (r : List Int) (w : World) (hm : pj c = some r) :
  iS true pg0 161 [(.agg (gv c).toArray)] w 5 (iV .u8) 1 r := by
 refine qH 53 func161 rfl (fun d => sg (VE (iO d rfl (fun W2 b1 d => Wa (lS (VA d Mh (gv c) aN ae (bS hm fun r3 g2 hm => VE (Eg d call115 (pr c _ _  g2) (fun W5 d => V (nY rfl) (gT ?_))))))))))
 refine gI (CI hm rfl (fun f9 hm => ?_) (fun f9 hm => ?_))
 ·refine sg (Wa (ln ?_))
  replace d := d.gy (Db St)
  refine iq (iw ?_)
  obtain rfl := sj hm
  exact iC (v := (.slice none 0 0)) rfl rfl ⟨_, [], rfl, d.kp (fun p m => by cases m) (by simp), gM.nil _ _ _⟩
 refine kg (V (kO (v := (.agg #[(.slice none 0 0)])) w9 (jH zeroValue81 ga (FJ _ ga) kr)) (VE (iO d rfl (fun W8 g d => Wa (lr (Wm (Wf jN (VB d (Mt Mh) rfl rfl bI (bS hm fun r9 e1 hm => ?_)))))))))
 refine VE (eM d (Cb Pz (C0 Cn)) call93 (fun l _ => (qL g (.slice none 0 0) ([]) [] c.Kind _ _ l (gM.nil _ _ _) e1)) ?_)
 rintro _ k0 k2 j6 d g4 R h ⟨g3, f8, I, rfl, e3⟩
 obtain rfl := I.symm
 replace d := d.perm (Tb (Tr Tn))
 refine lr (Wm (Wf jT (VA d (Mt (Ma Mh)) (gw c.Head) au ag (bS hm fun N e2 hm => ?_))))
 refine VE (eM d (Cb Pz (Cr Qz Cn)) call94 (fun l _ => (pp g g3 r9.2 f8 c.Head _ _ l e3 e2)) ?_)
 rintro _ k1 d0 j7 d g5 a6 h ⟨G, D, J, rfl, i⟩
 obtain rfl := J.symm
 replace d := d.perm (Tb (Tr Tn))
 refine ln (gO (CJ hm (fun a3 E W => ∃ B H K Q, gZ d0 K ∧ ST true ia w W K ((g, Ob #[B] 81) :: (H ++ Q)) ∧ E 3 = (.pointer (some ⟨g, 0, none⟩)) ∧ gM 5 (iV .u8) 1 B a3 H) (fun a3 a => ?_) ?_))
 ·refine sg (Wf jN (VB d (Mt (Ma Mh)) rfl rfl bI (ln (bg (Wi rfl (Wa (ln (CI a rfl (fun b0 a => ?_) (fun b0 a => ?_)))))))))
  ·refine gJ (Wm (Wf mB (VB d (Mt (Ma Mh)) rfl rfl aF (bS a fun i0 b6 a => ?_))))
   refine VE (eM d (Cb Pz (Cr Qz Cn)) call162 (fun l _ => (qz g G N.2 D c.gU _ _ l i b6)) ?_)
   rintro _ i5 f4 g6 d T q h ⟨e8, d2, k, rfl, c4⟩
   obtain rfl := k.symm
   replace d := d.perm (Tb (Tr Tn))
   refine gT (im (gI ?_))
   obtain rfl := sj a
   exact ⟨e8, d2, f4, _, T, (d.gy (Kb (Kr (Db St)))), rfl, c4⟩
  refine sg (Wi rfl (Wa (ln (CI a rfl (fun b2 a => ?_) (fun b2 a => ?_)))))
  ·refine gJ (Wm (Wf iM (VA d (Mt (Ma Mh)) (gw c.B) au ag (bS a fun i1 b8 a => ?_))))
   refine VE (eM d (Cb Pz (Cr Qz Cn)) call94 (fun l _ => (pp g G N.2 D c.B _ _ l i b8)) ?_)
   rintro _ i6 f5 g7 d U s h ⟨e9, d3, t, rfl, c5⟩
   obtain rfl := t.symm
   replace d := d.perm (Tb (Tr Tn))
   refine gT (im (gI ?_))
   obtain rfl := sj a
   exact ⟨e9, d3, f5, _, U, (d.gy (Kb (Kr (Db St)))), rfl, c5⟩
  refine sg (Wi rfl (Wa (ln (CI a rfl (fun b3 a => ?_) (fun b3 a => ?_)))))
  ·refine sg (Wm (Wf iM (VA d (Mt (Ma Mh)) (gw c.B) au ag (bS a fun e5 b9 a => ?_))))
   refine VE (eM d (Cb Pz (Cr Qz Cn)) call94 (fun l _ => (pp g G N.2 D c.B _ _ l i b9)) ?_)
   rintro _ i7 j4 g8 d Y A h ⟨f0, d4, u, rfl, c6⟩
   obtain rfl := u.symm
   replace d := d.perm (Tb (Tr Tn))
   refine ln (gJ (Wm (Wf ma (VB d (Mt (Ma Mh)) rfl rfl aF (bS a fun i2 c0 a => ?_)))))
   refine VE (eM d (Cb Pz (Cr Qz Cn)) call162 (fun l _ => (qz g f0 e5.2 d4 c.gY _ _ l c6 c0)) ?_)
   rintro _ i8 f6 g9 d Z L h ⟨f1, d5, x, rfl, c7⟩
   obtain rfl := x.symm
   replace d := d.perm (Tb (Tr Tn))
   refine gT (im (gI ?_))
   obtain rfl := sj a
   exact ⟨f1, d5, f6, _, (Y.trans Z), (d.gy (Kb (Kr (Db St)))), rfl, c7⟩
  refine sg (Wi rfl (Wa (ln (CI a rfl (fun b4 a => ?_) (fun b4 a => ?_)))))
  ·refine sg (Wm (Wf iM (VA d (Mt (Ma Mh)) (gw c.B) au ag (bS a fun e6 c1 a => ?_))))
   refine VE (eM d (Cb Pz (Cr Qz Cn)) call94 (fun l _ => (pp g G N.2 D c.B _ _ l i c1)) ?_)
   rintro _ i9 j5 h0 d a1 O h ⟨f2, d6, y, rfl, c8⟩
   obtain rfl := y.symm
   replace d := d.perm (Tb (Tr Tn))
   refine ln (gJ (Wm (Wf kD (VA d (Mt (Ma Mh)) (gw c.C) au ag (bS a fun i3 c2 a => ?_)))))
   refine VE (eM d (Cb Pz (Cr Qz Cn)) call94 (fun l _ => (pp g f2 e6.2 d6 c.C _ _ l c8 c2)) ?_)
   rintro _ j0 f7 h1 d a2 P h ⟨f3, d7, z, rfl, c9⟩
   obtain rfl := z.symm
   replace d := d.perm (Tb (Tr Tn))
   refine gT (im (gI ?_))
   obtain rfl := sj a
   exact ⟨f3, d7, f7, _, (a1.trans a2), (d.gy (Kb (Kr (Db St)))), rfl, c9⟩
  refine iv (im (gI ?_))
  obtain rfl := sj a
  exact ⟨G, D, d0, _, (gZ.refl _), (d.gy (Kb (Kr (Db St)))), rfl, i⟩
 rintro e4 E W ⟨B, H, K, Q, g0, d, d8, c3⟩ j
 refine sg (Wh d8 (bS j fun h9 b5 j => VE (nU d call37 (wC g B e4 _ _ (c3.sl (fun _ => rfl) (fun b o m => d.at_ (Mt (Ml m)))) (At.of (d.at_ Mh) _ rfl) b5) (fun h2 e7 j3 d1 d g1 n M => Wa (ln ?_)))))
 replace d := d.gy (Kr (Db (Dr St)))
 refine iq ?_
 obtain rfl := sj j
 exact iC (v := e7) rfl rfl ⟨_, d1, rfl, d.kp (fun p m => (Ml m)) M.nd, M⟩
theorem EJ (w : World) {c d : Value} {a b : List Int} (h1 : Sl (Pl (iV .u8)) 1 (hp w) c a) (g : Sl (Pl (iV .u8)) 1 (hp w) d b) : (callFunc 227 [c, d].toArray).run pg0 w = .ok (.value (.int .i64 (ri a b))) w := CP func227 (by kernel_rfl) (by kernel_rfl) (by kernel_rfl) (by kernel_rfl) h1 g
theorem xa (a : Value) (g : List Int) (c : Value) (i : List Int) (r : Int) (w : World) (j : Sl (Pl (iV .u8)) 1 (hp w) a g) (k : Sl (Pl (iV .u8)) 1 (hp w) c i) (hm : sN g i = some r) :
  iA true pg0 180 [a, c] w (.int .i64 r) := by
 exact cG 8 func180 rfl (fun b => sg (Wa (lr (Wm (Wm (VE (AS (args := [a, c]) (v := .int .i64 (ri g i)) rfl (by exact sM rfl rfl) (EJ _ (j.mono (Pl.mono _) b.iH) (k.mono (Pl.mono _) b.iH)) (Wa (lt (rQ hm b))))))))))
theorem xC (g i : gu) (r : Int) (w : World) (hm : na g i = some r) :
  iA true pg0 117 [(.agg (gv g).toArray), (.agg (gv i).toArray)] w (.int .i64 r) := by
 refine cG 10 func117 rfl (fun d => sg (VE (iO d rfl (fun T Y d => VE (iO d rfl (fun U Z d => Wa (ln (gO ?_))))))))
 replace d := d.drew
 have h := d.has.gy (Kb (Kb Sn))
 refine iI h ij (XH 0 rfl h (fun _ l => gA rfl (gK l (Mt Mh) (gv g) rfl aN ae)) (XH 2 rfl h (fun _ l => gA rfl (gK l Mh (gv i) rfl aN ae)) (bS hm fun y t hm => XE 1 rfl (nU d call161 (u7 g _ _  t) (fun I B N G d a n j => ?_)))))
 have h := d.has.tY a (Dr (Kb (Kb Sn)))
 refine ⟨h, (bS hm fun z u hm => XE 3 rfl (nU d call161 (u7 i _ _  u) (fun J D Q H d c p k => ?_)))⟩
 have h := d.has.tY (a.trans c) (Dr (Dr (Kb (Kb Sn))))
 refine ⟨h, (bS hm fun M x hm => XE 4 rfl (Eg d call180 (xa B y D z _ _ (j.sl (fun _ => rfl) (fun b o m => d.at_ (Ma (Ml m)))) (k.sl (fun _ => rfl) (fun b o m => d.at_ (Ml m))) x) (fun K d => ?_)))⟩
 have h := d.has.tY (a.trans c) (Dr (Dr (Kb (Kb Sn))))
 refine ⟨h, (X 5 rfl h (jU rfl) (iU kr (gI ?_)))⟩
 exact iq (rQ hm d)
theorem tG (j : Value) (a0 : List gu) (x : LO) (r : List gu) (w : World) {μ0 : gS} (h0 : pb μ0 (x ++ []) w) (B : gM 108 gv 9 j a0 x) (hm : mF a0 = some r) :
  ie true pg0 118 [j] w (x ++ []) (fun v L1 W' => ∃ y1 S2, v = y1 ∧ L1 = (S2 ++ []) ∧ gM 108 gv 9 y1 r S2) := by
 refine sA h0 61 func118 rfl (fun b => sg (Wa (lS (Wm (V (jf aj rfl B) (Wi rfl (ln (CI hm rfl (fun f9 hm => ?_) (fun f9 hm => ?_)))))))))
 ·refine sg (Wm (Wa (lt (iw ?_))))
  obtain rfl := sj hm
  exact iC (v := j) rfl rfl ⟨_, _, rfl, (b.nL (Kr Sn)), j, x, rfl, rfl, B⟩
 refine kS (Wa (ln (jl (mc (fun m E W => ∃ t R, ST true (keys (x ++ [])) w W μ0 (x ++ R) ∧ E 0 = j ∧ E 3 = (.int .i64 t) ∧ jO a0 m t = some r) jg ⟨1, _, (b.gy St), rfl, rfl, hm⟩ ?_))))
 rintro m E W ⟨t, R, b, D, H, a⟩
 cases m with
 | zero => rw [jO] at a; cases a
 | succ f4 =>
  refine gO (sg (Wh H (Wh D (V (jf aj rfl B) (Wi rfl (ln (CI a rfl (fun c9 a => ?_) (fun c9 a => ?_))))))))
  ·refine kn (gO (jl (gO ?_)))
   replace b := b.drew
   have d := b.has.gy (Kr Sn)
   refine iI d ij (X 0 rfl d (gF D) (X 1 rfl d (gF H) (bS a fun c2 Z a => XQ 2 rfl d (iW (i := t) (x0 := c2) aj ae rfl rfl B (jk Z) (iF Z)) (fun g4 d5 => XH 3 rfl d (fun _ l => gA rfl (kH l (fun p h => (Ml h)) B ic d5 (iF Z) aN ae)) (X 4 rfl d (gF D) (X 5 rfl d (gF H) (X 6 rfl d (jm rfl rfl rfl) (bS a fun c3 n a => XQ 7 rfl d (iW (i := (wi0 .i64 (t - 1))) (x0 := c3) aj ae rfl rfl B (jk n) (iF n)) (fun g5 d6 => XH 8 rfl d (fun _ l => gA rfl (kH l (fun p h => (Ml h)) B ic d6 (iF n) aN ae)) (X 9 rfl d (qU rfl rfl (ms fj) (oV (uf _ c2 c3))) (iU kr (gI ?_))))))))))))
   refine CI a rfl (fun d0 a => ?_) (fun d0 a => ?_)
   ·refine sg (Wh D (Wh H (bS a fun _ A a => VQ (pK (i := t) aj ae rfl rfl B (pT A) (pP A)) (fun c0 M => Wa (lS (Wa (ln ?_)))))))
    refine CJ a (fun U E W => ∃ o b5, ST true (keys (x ++ [])) w W μ0 (o ++ b5) ∧ E 0 = j ∧ E 3 = (.int .i64 U.2) ∧ gM 108 gv 9 j U.1 o) (fun U d3 => ?_) ?_
    ·refine jl (mc (fun m E W => ∃ q K Y y b6, ST true (keys (x ++ [])) w W μ0 (K ++ b6) ∧ E 0 = j ∧ E 3 = (.int .i64 Y) ∧ E 4 = c0 ∧ E 5 = (.int .i64 y) ∧ gM 108 gv 9 j q K ∧ jM t m q Y y = some U) jg ⟨a0, x, t, 1, _, (b.gy St), D, H, rfl, rfl, B, d3⟩ ?_)
     rintro m E W ⟨q, K, Y, y, b6, b, Q, T, I, J, g, k⟩
     cases m with
     | zero => rw [jM] at k; cases k
     | succ f5 =>
      refine gO (sg (Wh J (Wh I (V (xX aj rfl M g) (Wi rfl (ln (CI k rfl (fun d1 k => ?_) (fun d1 k => ?_))))))))
      ·refine kn (gO (CJ k (fun s E W => ∃ N b7, ST true (keys (x ++ [])) w W μ0 (N ++ b7) ∧ E 0 = j ∧ E 3 = (.int .i64 s.2) ∧ E 4 = c0 ∧ E 5 = (.int .i64 y) ∧ gM 108 gv 9 j s.1 N) (fun s c => ?_) ?_))
       ·refine jl (gO ?_)
        replace b := b.drew
        have d := b.has.gy (Kr Sn)
        refine iI d ij (X 0 rfl d (gF I) (X 1 rfl d (gF J) (bS c fun c5 a2 c => XQ 2 rfl d (oY (i := y) (x0 := c5) aj ae rfl rfl g M (jk a2) (iF a2)) (fun g6 d7 => XH 3 rfl d (fun _ l => gA rfl (kH l (fun p h => (Ml h)) g ic d7 (p4 (iF a2)) aN ae)) (X 4 rfl d (gF I) (X 5 rfl d (gF J) (X 6 rfl d (jm rfl rfl rfl) (bS c fun c6 a3 c => XQ 7 rfl d (oY (i := (wi0 .i64 (y - 1))) (x0 := c6) aj ae rfl rfl g M (jk a3) (iF a3)) (fun g7 d8 => XH 8 rfl d (fun _ l => gA rfl (kH l (fun p h => (Ml h)) g ic d8 (p4 (iF a3)) aN ae)) (X 9 rfl d (Fm rfl rfl (ms fj) (DS (uf _ c5 c6))) (iU kr (gI ?_))))))))))))
        refine CI c rfl (fun d2 c => ?_) (fun d2 c => ?_)
        ·refine sg (Wh Q (Wh T (Wh I (Wh J (bS c fun a9 a4 c => VQ (oY (i := y) (x0 := a9) aj ae rfl rfl g M (jk a4) (iF a4)) (fun g8 d9 => V (gA rfl (kH b.has (fun p h => (Ml h)) g ic d9 (p4 (iF a4)) aN ae)) (bS c fun f7 a5 c => VQ (iW (i := Y) (x0 := f7) aj ae rfl rfl g (jk a5) (iF a5)) (fun g9 e0 => VO (tM (u := (.agg (gv a9).toArray)) (x1 := a9)  b g ic jF rfl rfl rfl e0 (iF a5) ae (fun g2 e7 b c8 => ln (gJ ?_)))))))))))
         refine Wh T (Wi rfl (Wa (gT (im (gI ?_)))))
         obtain rfl := sj c
         exact ⟨e7, _, (b.gy St), Q, rfl, I, J, c8⟩
        refine iv (im (gI ?_))
        obtain rfl := sj c
        exact ⟨K, _, (b.gy St), Q, T, I, J, g⟩
       rintro ⟨f3, f6⟩ E W ⟨N, b7, b, e9, f0, f1, f2, e3⟩ d4
       exact gJ (Wh f2 (Wi rfl (Wa (ln ⟨f5, bl _, f3, N, f6, (wi0 .i64 (y + 1)), _, (b.gy St), e9, f0, f1, rfl, e3, d4⟩))))
      refine ot (ns (ns (sb (gI ?_))))
      obtain rfl := sj k
      exact ⟨K, _, (b.gy St), Q, T, g⟩
    rintro ⟨g3, c4⟩ E W ⟨o, b5, b, b8, b9, P⟩ G
    refine sg (Wh b8 (Wh b9 (bS G fun _ L G => VQ (pK (i := c4) aj ae rfl rfl P (pT L) (pP L)) (fun h1 e1 => VO (te (z := K9)  b P ic jF aj aT e1 rfl rfl (fun g1 e6 b c7 => lr (Wh b8 (Wh b9 (bS G fun _ O G => VQ (uW (i := c4) aj ae rfl rfl c7 ic (pT O) (pP O)) (fun c1 e2 => ?_))))))))))
    refine Wa (lt (ko (iw (iw (ko (iw ?_))))))
    obtain rfl := sj G
    exact iC (v := c1) rfl rfl ⟨_, _, rfl, (b.nL (Kr Sn)), c1, e6, rfl, rfl, e2⟩
   exact iv (im (gI (gJ (Wh H (Wi rfl (Wa (ln ⟨f4, bl _, (wi0 .i64 (t + 1)), _, (b.gy St), D, rfl, a⟩)))))))
  refine ot (ns (ns (sb (gI (sg (Wh D (Wa (lt ?_))))))))
  obtain rfl := sj a
  exact iC (v := j) rfl rfl ⟨_, _, rfl, (b.nL (Kr Sn)), j, x, rfl, rfl, B⟩
theorem rN (i : Value) (t r : List gu) (w : World) (B : Sl (Pl gv) 9 (hp w) i t) (hm : mU t = some r) :
  iS false pg0 51 [i] w 108 gv 9 r := by
 refine qH 11 func51 rfl (fun b => sg (Wa (lr (Wm (bS hm fun u T hm => VE (nU b call113 (iS.ki (uA i t _ _ (B.mono (Pl.mono _) b.iH) T)) (fun W3 y A R8 b a5 o Q => bS hm fun U D hm => ?_)))))))
 refine VE (eM b (Cr Qz Cn) call112 (fun h _ => (sh y u R8 (.func (.func 114) #[] #[]) (fun (x : gu) => pQ x) _ _ h Q ⟨114, #[], #[], rfl, call114, fun W x r s hm => (yp x r W  hm).ki⟩ D)) ?_)
 rintro _ R b8 L b E l d ⟨k, K, a, rfl, I⟩
 obtain rfl := a.symm
 replace b := b.perm (Tr Tn)
 refine Wa (lr (Wm (bS hm fun Y G hm => ?_)))
 refine VE (eM b (Cr Qz Cn) call116 (fun h _ => ie.ki (A7 k U K (.func (.func 117) #[] #[]) (fun (x : (gu × gu)) => na x.1 x.2) _ _ h I ⟨117, #[], rfl, call117, fun W x r s hm => xC x.1 x.2 r W  hm⟩ G)) ?_)
 rintro _ b6 b9 a9 b a2 m d ⟨M, c, rfl, J⟩
 obtain rfl := c.symm
 replace b := b.perm (Tr Tn)
 refine lr (Wm (bS hm fun P H hm => ?_))
 refine VE (eM b (Cr Qz Cn) call118 (fun h _ => ie.ki (tG k Y M _ _ h J H)) ?_)
 rintro _ b7 c0 O b a3 n d ⟨Z, N, g, rfl, j⟩
 obtain rfl := g.symm
 replace b := b.perm (Tr Tn)
 refine Wa (lt ?_)
 obtain rfl := sj hm
 exact iC (v := Z) rfl rfl ⟨_, N, rfl, b.kp (fun p q => (Ml q)) j.nd, j⟩
theorem uB (j : Value) (t : List gu) (c : gu) (r : Int) (w : World) (g : Sl (Pl gv) 9 (hp w) j t) (hm : oZ t c = some r) :
  iA true pg0 248 [j, (.agg (gv c).toArray)] w (.int .i64 r) := by
 refine cG 19 func248 rfl (fun b => sg (VE (iO b rfl (fun Q J b => Wa (lS (Wm (V (lB aj rfl g) (Wm (ln ?_)))))))))
 refine iL (fun i E W => ∃ k, (E 8 = .int .i64 (i : Nat) ∧ E 7 = .int .i64 (t.length : Nat)) ∧ ST true ia w W (hp w) ((J, Ol (gv c) 108) :: k) ∧ E 0 = j ∧ E 3 = (.pointer (some ⟨J, 0, none⟩)) ∧ kR c (t.drop i) i = some r) t.length g.len ⟨_, ⟨rfl, rfl⟩, (b.gy St), rfl, rfl, hm⟩ dc dc dc (fun _ _ _ h => by obtain ⟨_, m, _⟩ := h; exact m) ?_ ?_
 ·rintro K E W B ⟨k, ⟨l, o⟩, b, u, x, a⟩
  obtain ⟨y, M, H, G, I⟩ := iB B
  rw [H] at a
  refine bg (Wh l (Wa (ln (gO ?_))))
  replace b := b.drew
  have d := b.has.gy (Kb Sn)
  refine iI d ij (XH 0 rfl d (fun _ n => gA x (gK n Mh (gv c) rfl aN ae)) (X 1 rfl d (gF u) (X 2 rfl d (gF rfl) (XQ 3 rfl d (jL (enc := gv) (i := (K : Int)) (x0 := y) aj ae rfl rfl g (ay _) G) (fun N D => XH 4 rfl d (fun _ n => gA rfl (lI n D aN ae)) (X 5 rfl d (qU rfl rfl (ms fj) (oV (uf _ c y))) (iU kr (gI (CI a rfl (fun z a => ?_) (fun z a => ?_))))))))))
  ·refine sg (Wm (Wa (ln ?_)))
   replace b := b.gy (Db St)
   refine iq (ko (iw (ko (iw ?_))))
   obtain rfl := sj a
   exact rP b
  exact iv (im (gI ⟨l, _, ⟨rfl, o⟩, (b.gy St), u, x, (by rw [I]; exact a)⟩))
 rintro E W ⟨k, ⟨l, o⟩, b, u, x, a⟩
 rw [aI] at a
 refine gI ?_
 replace b := b.gy (Db St)
 exact sg (Wa (lt (rQ a b)))
theorem sT (a : Value) (g : List gu) (c : gu) (r : Bool) (w : World) (i : Sl (Pl gv) 9 (hp w) a g) (hm : nP g c = some r) :
  iA true pg0 201 [a, (.agg (gv c).toArray)] w (.bool r) := by
 refine cG 9 func201 rfl (fun b => sg (VE (iO b rfl (fun k u b => Wa (lr (Wm (VA b Mh (gv c) aN ae (bS hm fun x j hm => VE (Eg b call248 (uB a g c _ _ (i.mono (Pl.mono _) b.iH) j) (fun t b => Wi rfl (Wa ?_)))))))))))
 refine ln ?_
 exact iq (rQ hm b)
theorem Bd (a : Value) (g : List gu) (c : gu) (r : Bool) (w : World) (i : Sl (Pl gv) 9 (hp w) a g) (hm : rR g c = some r) :
  iA true pg0 151 [a, (.agg (gv c).toArray)] w (.bool r) := by
 refine cG 8 func151 rfl (fun b => sg (VE (iO b rfl (fun k u b => Wa (lr (Wm (VA b Mh (gv c) aN ae (bS hm fun x j hm => VE (Eg b call201 (sT a g c _ _ (i.mono (Pl.mono _) b.iH) j) (fun t b => Wa (gT ?_)))))))))))
 refine gI ?_
 exact iq (rQ hm b)
theorem vj (a : gu) (r : List gr) (w : World) (hm : pq a = some r) :
  iS true pg0 52 [(.agg (gv a).toArray)] w 28 gw 2 r := by
 refine qH 27 func52 rfl (fun b => sg (VE (iO b rfl (fun W2 h b => Wa (lS (VA b Mh (gv a) aN ae (bS hm fun r3 o hm => VE (Eg b call115 (pr a _ _  o) (fun W5 b => V (nY rfl) (gT ?_))))))))))
 refine gI (CI hm rfl (fun n hm => ?_) (fun n hm => ?_))
 ·refine sg (Wa (ln ?_))
  replace b := b.gy (Db St)
  refine iq (iw ?_)
  obtain rfl := sj hm
  exact iC (v := (.slice none 0 0)) rfl rfl ⟨_, [], rfl, b.kp (fun p d => by cases d) (by simp), gM.nil _ _ _⟩
 refine kg (Wf jT (VA b Mh (gw a.Head) au ag (VE (ig (cs := (gw a.Head).toArray) b (lk rfl) (kz bZ ag cw) (fun W8 y b => Wa (ln (gO (CJ hm (fun I E W => ∃ j i z, ST true ia w W (hp w) ((h, Ol (gv a) 108) :: (i ++ z)) ∧ E 1 = (.pointer (some ⟨h, 0, none⟩)) ∧ E 3 = j ∧ gM 28 gw 2 j I i) (fun I g => ?_) ?_))))))))
 ·refine sg (Wf jN (VB b (Mt Mh) rfl rfl bI (Wi rfl (ln (CI g rfl (fun Q g => ?_) (fun Q g => ?_))))))
  ·refine gJ (Wm (Wf iM (VA b (Mt Mh) (gw a.B) au ag (VE (ig (cs := (gw a.B).toArray) b (lk rfl) (kz bZ ag cw) (fun L a4 b => ?_))))))
   replace b := b.perm (Nb (Pb Pz) Nz)
   refine bS g fun b9 T g => VE (jJ (enc := gw) (v := (.slice (some ⟨y, 0, none⟩) 1 1)) (vs := (.slice (some ⟨a4, 0, none⟩) 1 1)) (R := [(y, Ol (gw a.Head) 28)]) b qf dc nx bZ oN.1 oN.2.1 rfl oN.2.2.1 oN.2.2.2 rfl rfl (gM.lit (l := [a.Head]) (enc := gw) rfl dc rfl rfl) (Sl.lit (enc := gw) (l := [a.B]) qf rfl nb rfl (b.at_ (Mt Mh))) T (fun O a9 m b K => Wa (ln ?_)))
   obtain rfl := sj g
   exact ⟨a9, m, _, (b.gy (Sb (Pr (Pb Pz)) (Kr (Db St)))), rfl, rfl, K⟩
  refine kn ?_
  obtain rfl := sj g
  replace b := b.FG
  exact ⟨(.slice (some ⟨y, 0, none⟩) 1 1), [(y, Ol (gw a.Head) 28)], _, (b.gy (Sb (Pr Pz) St)), rfl, rfl, (gM.lit (l := [a.Head]) (enc := gw) rfl dc rfl rfl)⟩
 rintro P E W ⟨j, i, z, b, D, G, u⟩ U
 refine gO (CJ U (fun H E W => ∃ t k B, ST true ia w W (hp w) (k ++ B) ∧ E 3 = t ∧ gM 28 gw 2 t H k) (fun H c => ?_) ?_)
 ·refine sg (V (gE jN D) (VB b Mh rfl rfl bI (Wi rfl (ln (CI c rfl (fun M c => ?_) (fun M c => ?_))))))
  ·refine gJ (Wh G (V (gE kD D) (VA b Mh (gw a.C) au ag (VE (ig (cs := (gw a.C).toArray) b (lk rfl) (kz bZ ag cw) (fun s a3 b => ?_))))))
   replace b := b.perm (Nr (Qb (Qb Qz)) Nz)
   refine bS c fun b8 N c => VE (jJ (enc := gw) (v := j) (vs := (.slice (some ⟨a3, 0, none⟩) 1 1)) (R := i) b qf dc nx bZ oN.1 oN.2.1 rfl oN.2.2.1 oN.2.2.2 rfl rfl u (Sl.lit (enc := gw) (l := [a.C]) qf rfl nb rfl (b.at_ (Ma Mh))) N (fun A q Z b J => Wa (ln ?_)))
   obtain rfl := sj c
   exact ⟨q, Z, _, (b.gy (Kr (Db (Db St)))), rfl, J⟩
  refine kn ?_
  obtain rfl := sj c
  exact ⟨j, i, _, (b.gy (Db St)), G, u⟩
 rintro b6 E W ⟨t, k, B, b, a5, x⟩ Y
 refine sg (Wh a5 (Wa (lt ?_)))
 obtain rfl := sj Y
 exact iC (v := t) rfl rfl ⟨_, k, rfl, b.kp (fun p d => (Ml d)) x.nd, x⟩
theorem uh (M : Nat) (u : Value) (a9 : List (gr × (List (ByteArray × Bool)))) (G : LO) (D : Value) (a0 : List gu) (B : LO) (a : Value) (Y : List (gr × (List gu))) (I : LO) (c : Value) (K : List (ByteArray × (List gu))) (t : LO) (j : Value) (a4 : List gx) (y : LO) (J : Int) (H : gu) (r : ((List gu) × (List (gr × (List gu))) × (List (ByteArray × (List gu))))) (w : World) {μ0 : gS} (h0 : pb μ0 ((M, Ob #[u, D, a, c, j, (.int .i64 J)] 174) :: (G ++ (B ++ (I ++ (t ++ (y ++ [])))))) w) (e8 : iz (fun (x : gr) => (.agg (gw x).toArray)) (gW Value.string (fun (x : Bool) => (Value.bool x))) u a9 G) (a6 : gM 108 gv 9 D a0 B) (b2 : iz (fun (x : gr) => (.agg (gw x).toArray)) (gM 108 gv 9) a Y I) (T : iz Value.string (gM 108 gv 9) c K t) (e0 : kY 38 gL 3 j a4 y) (hm : mQ a9 a0 Y K a4 J H = some r) :
  ie true pg0 171 [(.pointer (some ⟨M, 0, none⟩)), (.agg (gv H).toArray)] w ((M, Ob #[u, D, a, c, j, (.int .i64 J)] 174) :: (G ++ (B ++ (I ++ (t ++ (y ++ [])))))) (fun v L1 W' => ∃ y1 S2 S4 S6, v = (.tuple #[]) ∧ L1 = ((M, Ob #[u, y1, a, c, j, (.int .i64 J)] 174) :: (G ++ (S2 ++ (S4 ++ (S6 ++ (y ++ [])))))) ∧ gM 108 gv 9 y1 r.1 S2 ∧ iz (fun (x : gr) => (.agg (gw x).toArray)) (gM 108 gv 9) a r.2.1 S4 ∧ iz Value.string (gM 108 gv 9) c r.2.2 S6) := by
 refine sA h0 55 func171 rfl (fun d => sg (VE (iO d rfl (fun W2 b1 d => ln (gO ?_)))))
 replace d := d.drew
 have m := d.has.gy (Kb Sn)
 have n := d.has.gy (Db (Kb Sn))
 refine sO 10 m n ij (jB 0 rfl kr (.inl rfl) rfl dc (fun _ _ h => ⟨h.1, lE br h.2⟩) ⟨m, fun _ => n⟩ (fun _ _ _ _ => gF rfl) (jB 1 rfl kr (.inl rfl) rfl dc (fun _ _ h => ⟨h.1, lE br h.2⟩) ⟨m, fun _ => n⟩ (fun _ _ _ _ => gF rfl) (jB 2 rfl kr (.inl rfl) rfl dc (fun _ _ h => ⟨h.1, lE br h.2⟩) ⟨m, fun _ => n⟩ (fun _ _ _ _ => jj rfl) (jB 3 rfl kr (.inl rfl) rfl dc (fun _ _ h => ⟨h.1, lE br h.2⟩) ⟨m, fun _ => n⟩ (fun _ _ _ _ => gE xB rfl) (jB 4 rfl kr (.inl rfl) rfl dc (fun _ _ h => ⟨h.1, lE br h.2⟩) ⟨m, fun _ => n⟩ (fun l W q s => have p := (s.2 (q.Dx 10 [4] kr rfl)); gA rfl (gN p Mh rfl isAgg22)) (jB 5 rfl kr (.inl rfl) rfl dc (fun _ _ h => ⟨h.1, lE br h.2⟩) ⟨m, fun _ => n⟩ (fun l W q s => have p := s.1; gA rfl (gK p Mh (gv H) rfl aN ae)) (XE 6 rfl (ig (cs := (gv H).toArray) d (lk rfl) (kz aj ae aT) (fun j7 f9 d => ?_)))))))))
 have m := d.has.gy (Db (Kb Sn))
 have n := d.has.gy (Db (Db (Kb Sn)))
 refine ⟨⟨m, fun _ => n⟩, ?_⟩
 replace d := d.perm (Nr (Qb (Qb (Qb (Qr Qz)))) Nz)
 refine bS hm fun a5 e9 hm => XE 7 rfl (jJ (enc := gv) (v := D) (vs := (.slice (some ⟨f9, 0, none⟩) 1 1)) (R := B) d ic dc jF aj kq.1 kq.2.1 rfl kq.2.2.1 kq.2.2.2 rfl rfl a6 (Sl.lit (enc := gv) (l := [H]) ic rfl nb rfl (d.at_ (Ma Mh))) e9 (fun j8 k1 b7 d b5 => ?_))
 have m := d.has.gy (Dr (Db (Kb Sn)))
 have n := d.has.gy (Dr (Db (Db (Kb Sn))))
 refine ⟨⟨m, fun _ => n⟩, (jB 8 rfl kr (.inl rfl) rfl dc (fun _ _ h => ⟨h.1, lE br h.2⟩) ⟨m, fun _ => n⟩ (fun _ _ _ _ => jj rfl) (jB 9 rfl kr (.inl rfl) rfl dc (fun _ _ h => ⟨h.1, lE br h.2⟩) ⟨m, fun _ => n⟩ (fun _ _ _ _ => gE xB rfl) ?_))⟩
 obtain ⟨a8, b0, rfl⟩ := b5.form
 let A : Value := (.slice a8 a5.length b0)
 replace d := d.perm (Nb (Pr (Pb (Pb Pz))) Nz)
 refine XO 10 rfl (ib A (#[u, A, a, c, j, (.int .i64 J)]) d rfl rfl sizeOf22 oc nb rfl (fun j9 d => ?_))
 have m := d.has.gy (Db (Dr (Db (Kb Sn))))
 refine ⟨⟨m, fun h => Ci kr h⟩, (iU kr (gI ?_))⟩
 replace d := d.gy (Kb (Kr (Db St)))
 refine gO (sg (VA d (Mt (Ma Mh)) (gv H) aN ae (bS hm fun c0 f0 hm => VE (nU d call52 (vj H _ _  f0) (fun k0 k2 k3 j6 d g3 ad e7 => ?_)))))
 let f5 := (c0.drop (Int.toNat 1))
 obtain ⟨g2, d, g4, af, f1⟩ := ST.wz d e7 qf
 refine bS hm fun _ b8 hm => VQ (tb (i := 1) bZ ag rfl rfl f1 (pT b8) (pP b8)) (fun g0 b6 => V (lB bZ rfl b6.1) (Wm (ln (iL (fun i E W => ∃ a3 U O, (E 20 = .int .i64 (i : Nat) ∧ E 19 = .int .i64 (f5.length : Nat)) ∧ ST true (keys ((M, Ob #[u, D, a, c, j, (.int .i64 J)] 174) :: (G ++ (B ++ (I ++ (t ++ (y ++ []))))))) w W g2 ((M, Ob #[u, A, a, c, j, (.int .i64 J)] 174) :: ((b1, Ol (gv H) 108) :: (U ++ (b7 ++ (G ++ (t ++ (y ++ O))))))) ∧ E 0 = (.pointer (some ⟨M, 0, none⟩)) ∧ E 3 = (.pointer (some ⟨b1, 0, none⟩)) ∧ E 18 = g0 ∧ iz (fun (x : gr) => (.agg (gw x).toArray)) (gM 108 gv 9) a a3 U ∧ jR H K a5 (f5.drop i) a3 = some r) f5.length b6.1.len ⟨Y, I, _, ⟨rfl, rfl⟩, (d.gy (Kb (Sb (Pr Pz) (Sr (Qr (Qr Qz)) St)))), rfl, rfl, rfl, b2, hm⟩ dc dc dc (fun _ _ _ h => by obtain ⟨_, _, _, ab, _⟩ := h; exact ab) ?_ ?_))))
 ·rintro f2 E W d2 ⟨a3, U, O, ⟨eI, eN⟩, d, a2, N, P, Z, g⟩
  obtain ⟨Q, h1, d7, d6, d8⟩ := iB d2
  rw [d7] at g
  refine bg (VQ (jL (enc := gw) (i := (f2 : Int)) (x0 := Q) bZ ag P eI b6.1 (ay _) d6) (fun i9 d3 => V (gA rfl (lI d.has d3 au ag)) (VE (iZ d cw (fun h8 i7 d => VO (ib (.agg (gw Q).toArray) ((gw Q).toArray) d rfl rfl ag (nx Q) nb rfl (fun h9 d => ln ?_)))))))
  replace d := d.drew
  have m := d.has.gy (Kb (Kb (Kb Sn)))
  refine iI m ij (X 0 rfl m (gF a2) (X 1 rfl m (jj rfl) (X 2 rfl m (gE AF rfl) (XH 3 rfl m (fun _ p => gA rfl (gN p (Mt Mh) rfl isAgg171)) (XH 4 rfl m (fun _ p => gA rfl (gK p Mh (gw Q) rfl au ag)) (XH 5 rfl m (fun _ p => gA N (gK p (Mt (Mt Mh)) (gv H) rfl aN ae)) (XE 6 rfl (ig (cs := (gv H).toArray) d (lk rfl) (kz aj ae aT) (fun i0 e5 d => ?_)))))))))
  have m := d.has.gy (Db (Kb (Kb (Kb Sn))))
  refine ⟨m, ?_⟩
  obtain ⟨g7, d0⟩ := Z
  replace d := d.perm (Nr (Qb (Qb (Qb (Qb Qz)))) Nz)
  refine XE 7 rfl (Bs (k := Q) (x0 := [])  gC nZ underlying171 gn (gM.nil _ _ _) d d0 rfl rfl (fun i1 f4 g9 h3 e1 d c2 c1 => ?_))
  have m := d.has.gy (Dr (Dr (Db (Kb (Kb (Kb Sn))))))
  refine ⟨m, (X 8 rfl m (oB rfl rfl) (X 10 rfl m (oB rfl rfl) ?_))⟩
  replace d := d.perm (Nr (Qr Qz) Nz)
  refine bS g fun b9 c7 g => XE 9 rfl (jJ (enc := gv) (v := f4) (vs := (.slice (some ⟨e5, 0, none⟩) 1 1)) (R := e1) d ic dc jF aj kq.1 kq.2.1 rfl kq.2.2.1 kq.2.2.2 rfl rfl c2 (Sl.lit (enc := gv) (l := [H]) ic rfl nb rfl (d.at_ (Ma (Ma Mh)))) c7 (fun i2 j0 h4 d c3 => ?_))
  have m := d.has.gy (Dr (Dr (Db (Kb (Kb (Kb Sn))))))
  refine ⟨m, ?_⟩
  replace d := d.perm (Nr (Qr Qz) Nz)
  refine XO 11 rfl (zB (e := 0) (z := b9)  gC nZ d c1 rfl rfl rfl c3 (fun i3 g8 e2 d c4 => ?_))
  have m := d.has.gy (Dr (Db (Kb (Kb (Kb Sn)))))
  refine ⟨m, (iU kr (im (gI ?_)))⟩
  replace d := d.gy (Kr (Db (Db St)))
  exact ⟨eI, (iN gB a3 Q b9), e2, _, ⟨rfl, eN⟩, (d.gy (Sb (Pr Pz) (Sb (Pr Pz) St))), a2, N, P, c4.e, (by rw [d8]; exact g)⟩
 rintro E W ⟨a3, U, O, ⟨eI, eN⟩, d, a2, N, P, Z, g⟩
 rw [aI] at g
 refine gI (sg (V (gE jN N) (VB d (Mt Mh) rfl rfl bI (Wi rfl (ln (CI g rfl (fun c8 g => ?_) (fun c8 g => ?_)))))))
 ·replace d := d.drew
  have m := d.has.gy (Kb (Kb Sn))
  have n := d.has.gy (Db (Db (Dr (Dr (Dr (Kr Sn))))))
  refine sO 15 m n ij (jB 0 rfl kr (.inl rfl) rfl dc (fun _ _ h => ⟨h.1, lE br h.2⟩) ⟨m, fun _ => n⟩ (fun _ _ _ _ => gF a2) (jB 1 rfl kr (.inl rfl) rfl dc (fun _ _ h => ⟨h.1, lE br h.2⟩) ⟨m, fun _ => n⟩ (fun _ _ _ _ => jj rfl) (jB 2 rfl kr (.inl rfl) rfl dc (fun _ _ h => ⟨h.1, lE br h.2⟩) ⟨m, fun _ => n⟩ (fun _ _ _ _ => gE xv rfl) (jB 3 rfl kr (.inl rfl) rfl dc (fun _ _ h => ⟨h.1, lE br h.2⟩) ⟨m, fun _ => n⟩ (fun l W q s => have p := s.1; gA rfl (gN p Mh rfl isAgg172)) (jB 4 rfl kr (.inl rfl) rfl dc (fun _ _ h => ⟨h.1, lE br h.2⟩) ⟨m, fun _ => n⟩ (fun _ _ _ _ => gE ma N) (jB 5 rfl kr (.inl rfl) rfl dc (fun _ _ h => ⟨h.1, lE br h.2⟩) ⟨m, fun _ => n⟩ (fun l W q s => have p := s.1; gA rfl (gN p (Mt Mh) rfl aF)) (jB 6 rfl kr (.inl rfl) rfl dc (fun _ _ h => ⟨h.1, lE br h.2⟩) ⟨m, fun _ => n⟩ (fun _ _ _ _ => gF a2) (jB 7 rfl kr (.inl rfl) rfl dc (fun _ _ h => ⟨h.1, lE br h.2⟩) ⟨m, fun _ => n⟩ (fun _ _ _ _ => jj rfl) (jB 8 rfl kr (.inl rfl) rfl dc (fun _ _ h => ⟨h.1, lE br h.2⟩) ⟨m, fun _ => n⟩ (fun _ _ _ _ => gE xv rfl) (jB 9 rfl kr (.inl rfl) rfl dc (fun _ _ h => ⟨h.1, lE br h.2⟩) ⟨m, fun _ => n⟩ (fun l W q s => have p := s.1; gA rfl (gN p Mh rfl isAgg172)) (jB 10 rfl kr (.inl rfl) rfl dc (fun _ _ h => ⟨h.1, lE br h.2⟩) ⟨m, fun _ => n⟩ (fun _ _ _ _ => gE ma N) (jB 11 rfl kr (.inl rfl) rfl dc (fun _ _ h => ⟨h.1, lE br h.2⟩) ⟨m, fun _ => n⟩ (fun l W q s => have p := s.1; gA rfl (gN p (Mt Mh) rfl aF)) ?_))))))))))))
  obtain ⟨d9, L⟩ := T
  obtain ⟨h5, g5, g6⟩ := iX.rowAt iy.1 L H.gY
  refine jB 12 rfl kr (.inl rfl) rfl dc (fun _ _ h => ⟨h.1, lE br h.2⟩) ⟨m, fun _ => n⟩ (fun l W q s => have p := (s.2 (q.Dx 15 [12] kr rfl)); kU (k := H.gY) (z := (.slice none 0 0)) xQ underlying172 gn rfl rfl L (fun b o hq => p.2 b o (Ml hq))) (jB 13 rfl kr (.inl rfl) rfl dc (fun _ _ h => ⟨h.1, lE br h.2⟩) ⟨m, fun _ => n⟩ (fun l W q s => have p := s.1; gA N (gK p (Mt Mh) (gv H) rfl aN ae)) (XE 14 rfl (ig (cs := (gv H).toArray) d (lk rfl) (kz aj ae aT) (fun i4 e6 d => ?_))))
  have m := d.has.gy (Db (Kb (Kb Sn)))
  have n := d.has.gy (Db (Db (Db (Dr (Dr (Dr (Kr Sn)))))))
  refine ⟨⟨m, fun _ => n⟩, ?_⟩
  replace d := d.perm (Nr (Qb (Qb (Qb (Qr (Qr (Qr Qz)))))) Nz)
  obtain ⟨h6, e3, d4, d5, d1⟩ := iX.open iy.1 (gM.nil _ _ _) L H.gY
  replace d := d.perm (F1 d4)
  replace d := d.perm (Nr (Qr Qz) Nz)
  refine bS g fun f3 c9 g => XE 15 rfl (jJ (enc := gv) (v := (lP gX d9 H.gY (.slice none 0 0))) (vs := (.slice (some ⟨e6, 0, none⟩) 1 1)) (R := e3) d ic dc jF aj kq.1 kq.2.1 rfl kq.2.2.1 kq.2.2.2 rfl rfl d5 (Sl.lit (enc := gv) (l := [H]) ic rfl nb rfl (d.at_ (Ma (Ma Mh)))) c9 (fun i5 j3 h7 d c5 => ?_))
  have m := d.has.gy (Dr (Dr (Db (Kb (Kb Sn)))))
  refine ⟨⟨m, fun h => Ci kr h⟩, ?_⟩
  replace d := d.perm (Nr (Qr Qz) Nz)
  refine XO 16 rfl (EB (k := H.gY) (z := f3)  xQ underlying172 d d1 rfl rfl rfl c5 (fun i6 e4 d c6 => ?_))
  have m := d.has.gy (Dr (Db (Kb (Kb Sn))))
  refine ⟨⟨m, fun h => Ci kr h⟩, (iU kr (oS ?_))⟩
  obtain rfl := sj g
  exact nj rfl ⟨_, _, rfl, (d.nL (Sb (Pr (Pb Pz)) (Sr (Qr (Qb (Qb (Qr (Qr Qz))))) (Sr (Qr (Qb (Qb (Qr Qz)))) (Sr (Qr (Qb (Qb Qz))) (Kr (Db (Db (Kr Sn))))))))), A, b7, U, e4, rfl, rfl, b5, Z, c6.e⟩
 refine iv (oS ?_)
 obtain rfl := sj g
 exact nj rfl ⟨_, _, rfl, (d.nL (Kb (Db (Sr (Qr (Qr Qz)) (Sr (Qr Qz) (Kr (Kr (Kr Sn)))))))), A, b7, U, t, rfl, rfl, b5, Z, T⟩
theorem lG (J : Nat) (g : Value) (a0 : List (gr × (List (ByteArray × Bool)))) (D : LO) (a : Value) (M : List gu) (u : LO) (j : Value) (Z : List (gr × (List gu))) (B : LO) (c : Value) (N : List (ByteArray × (List gu))) (y : LO) (i : Value) (Y : List gx) (t : LO) (H : Int) (G : gr) (U : ByteArray) (r : ((List (gr × (List (ByteArray × Bool)))) × (List gx) × Int)) (w : World) {μ0 : gS} (h0 : pb μ0 ((J, Ob #[g, a, j, c, i, (.int .i64 H)] 174) :: (D ++ (u ++ (B ++ (y ++ (t ++ [])))))) w) (a5 : iz (fun (x : gr) => (.agg (gw x).toArray)) (gW Value.string (fun (x : Bool) => (Value.bool x))) g a0 D) (b5 : gM 108 gv 9 a M u) (c2 : iz (fun (x : gr) => (.agg (gw x).toArray)) (gM 108 gv 9) j Z B) (b6 : iz Value.string (gM 108 gv 9) c N y) (K : kY 38 gL 3 i Y t) (hm : jD a0 M Z N Y H G U = some r) :
  ie true pg0 209 [(.pointer (some ⟨J, 0, none⟩)), (.agg (gw G).toArray), (.string U)] w ((J, Ob #[g, a, j, c, i, (.int .i64 H)] 174) :: (D ++ (u ++ (B ++ (y ++ (t ++ [])))))) (fun v L1 W' => ∃ S1 y3 S4, v = (.tuple #[]) ∧ L1 = ((J, Ob #[g, a, j, c, y3, (.int .i64 (r.2.2))] 174) :: (S1 ++ (u ++ (B ++ (y ++ (S4 ++ [])))))) ∧ iz (fun (x : gr) => (.agg (gw x).toArray)) (gW Value.string (fun (x : Bool) => (Value.bool x))) g r.1 S1 ∧ kY 38 gL 3 y3 r.2.1 S4) := by
 let a1 := (#[g, a, j, c, i, (.int .i64 H)] : Array Value)
 refine sA h0 53 func209 rfl (fun m => sg (VE (iO m rfl (fun W2 b1 m => ln (gO (gO ?_))))))
 replace m := m.drew
 have d := m.has.gy (Kb (Kb (Kr Sn)))
 refine iI d ij (X 0 rfl d (gF rfl) (X 1 rfl d (jj rfl) (X 2 rfl d (gE qj rfl) (XH 3 rfl d (fun _ p => gA rfl (gN p (Mt Mh) rfl fk)) (XH 4 rfl d (fun _ p => gA rfl (gK p Mh (gw G) rfl au ag)) ?_)))))
 obtain ⟨f3, Q⟩ := a5
 refine XH 5 rfl d (fun _ p => kU (k := G) (z := (.map none)) nZ di dJ rfl rfl Q (fun b o A => p.2 b o (Mt (Mt (Ml A))))) (X 6 rfl d (gF rfl) (XH 7 rfl d (fun _ p => oz (k := U) (z := false) (vf := (fun (x : Bool) => (Value.bool x))) xQ dS zeroValue4 rfl rfl (iX.vl (μ := hp _) gC.1 Q G (fun b o A => p.2 b o (Mt (Mt (Ml A)))))) (iU kr (gI (CI hm rfl (fun d4 hm => ?_) (fun d4 hm => ?_))))))
 ·refine iq (iw ?_)
  obtain rfl := sj hm
  exact nj rfl ⟨_, _, rfl, (m.nL (Db (Kb (Kr (Kr (Kr (Kr (Kr Sn)))))))), D, i, t, rfl, rfl, Q.e, K⟩
 refine kn (gO (CJ hm (fun b2 E W => ∃ O b9, ST true (keys ((J, Obj.cells a1 174 (0, 0)) :: (D ++ (u ++ (B ++ (y ++ (t ++ []))))))) w W μ0 ((b1, Ol (gw G) 28) :: ((J, Obj.cells a1 174 (0, 0)) :: (O ++ (u ++ (B ++ (y ++ (t ++ b9))))))) ∧ E 0 = (.pointer (some ⟨J, 0, none⟩)) ∧ E 2 = (.string U) ∧ E 4 = (.pointer (some ⟨b1, 0, none⟩)) ∧ iz (fun (x : gr) => (.agg (gw x).toArray)) (gW Value.string (fun (x : Bool) => (Value.bool x))) g b2 O) (fun b2 I => ?_) ?_))
 ·refine gO ?_
  replace m := m.drew
  have d := m.has.gy (Kb (Kb (Kr Sn)))
  refine iI d ij (X 0 rfl d (gF rfl) (X 1 rfl d (jj rfl) (X 2 rfl d (gE qj rfl) (XH 3 rfl d (fun _ p => gA rfl (gN p (Mt Mh) rfl fk)) (XH 4 rfl d (fun _ p => gA rfl (gK p Mh (gw G) rfl au ag)) (XH 5 rfl d (fun _ p => kU (k := G) (z := (.map none)) nZ di dJ rfl rfl Q (fun b o A => p.2 b o (Mt (Mt (Ml A))))) (X 6 rfl d (Ad gC.1 dS Q rfl rfl) (iU kr (gI (CI I rfl (fun b7 I => ?_) (fun b7 I => ?_)))))))))))
  ·replace m := m.drew
   have d := m.has.gy (Kb (Kb Sn))
   refine iI d ij (X 0 rfl d (gF rfl) (X 1 rfl d (jj rfl) (X 2 rfl d (gE qj rfl) (XH 3 rfl d (fun _ p => gA rfl (gN p (Mt Mh) rfl fk)) (XH 4 rfl d (fun _ p => gA rfl (gK p Mh (gw G) rfl au ag)) (XE 5 rfl (rk (P := pg0) Value.string (fun (x : Bool) => (Value.bool x)) m (fun e0 e6 d8 m b3 => ?_))))))))
   have d := m.has.gy (Dr (Kb (Kb Sn)))
   refine ⟨d, ?_⟩
   replace m := m.perm (Nr (Qr (Qb (Qb Qz))) Nz)
   refine bS I fun e3 b8 I => XO 6 rfl (Cs (k := G) (z := ([]))  nZ di m Q rfl rfl rfl b3 b8 (fun e1 c3 m b4 => ?_))
   have d := m.has.gy (Dr (Kb (Kb Sn)))
   refine ⟨d, (iU kr (gI ?_))⟩
   obtain rfl := sj I
   exact ⟨c3, _, (m.gy (Sb (Pr Pz) (Sb (Pr Pz) St))), rfl, rfl, rfl, b4.e⟩
  refine kn ?_
  obtain rfl := sj I
  exact ⟨D, _, (m.gy St), rfl, rfl, rfl, Q.e⟩
 rintro f1 E W ⟨O, b9, m, L, c0, c1, c7⟩ T
 refine gO ?_
 replace m := m.drew
 have d := m.has.gy (Kb (Kb Sn))
 have n := m.has.gy (Db (Db (Kr Sn)))
 refine sO 7 d n ij (jB 0 rfl kr (.inl rfl) rfl dc (fun _ _ h => ⟨h.1, lE br h.2⟩) ⟨d, fun _ => n⟩ (fun _ _ _ _ => gF L) (jB 1 rfl kr (.inl rfl) rfl dc (fun _ _ h => ⟨h.1, lE br h.2⟩) ⟨d, fun _ => n⟩ (fun _ _ _ _ => jj rfl) (jB 2 rfl kr (.inl rfl) rfl dc (fun _ _ h => ⟨h.1, lE br h.2⟩) ⟨d, fun _ => n⟩ (fun _ _ _ _ => gE qj rfl) (jB 3 rfl kr (.inl rfl) rfl dc (fun _ _ h => ⟨h.1, lE br h.2⟩) ⟨d, fun _ => n⟩ (fun l W q s => have p := s.1; gA rfl (gN p (Mt Mh) rfl fk)) (jB 4 rfl kr (.inl rfl) rfl dc (fun _ _ h => ⟨h.1, lE br h.2⟩) ⟨d, fun _ => n⟩ (fun l W q s => have p := s.1; gA c1 (gK p Mh (gw G) rfl au ag)) ?_)))))
 obtain ⟨e4, a9⟩ := c7
 refine jB 5 rfl kr (.inl rfl) rfl dc (fun _ _ h => ⟨h.1, lE br h.2⟩) ⟨d, fun _ => n⟩ (fun l W q s => have p := (s.2 (q.Dx 7 [5] kr rfl)); kU (k := G) (z := (.map none)) nZ di dJ rfl rfl a9 (fun b o A => p.2 b o (Ml A))) (jB 6 rfl kr (.inl rfl) rfl dc (fun _ _ h => ⟨h.1, lE br h.2⟩) ⟨d, fun _ => n⟩ (fun _ _ _ _ => gF c0) ?_)
 replace m := m.perm (Nr (Qb (Qb Qz)) Nz)
 refine bS T fun f2 c6 T => XO 7 rfl (BC (k := G) (v := true) (vf := (fun (x : Bool) => (Value.bool x)))  gC.1 xQ dS m a9 rfl rfl rfl c6 (fun e7 c8 m c4 => ?_))
 have d := m.has.gy (Dr (Kb (Kb Sn)))
 refine ⟨⟨d, fun h => Ci kr h⟩, (iU kr (gI (sg (Wh L (Wn (Wf vq (VB m (Ma (Mt Mh)) rfl rfl bI (Wi rfl (Wn (Wf vq ?_))))))))))⟩
 replace m := m.perm (Nb (Pr (Pb Pz)) Nz)
 refine VO (ib (.int .i64 (wi0 .i64 (H + 1))) (#[g, a, j, c, i, (.int .i64 (wi0 .i64 (H + 1)))]) m rfl rfl ey (vi _ (wi0 .i64 (H + 1))) nb rfl (fun e8 m => ln ?_))
 replace m := m.drew
 have d := m.has.gy (Db (Dr (Kb Sn)))
 have n := m.has.gy (Kb Sn)
 refine sO 12 d n ij (jB 0 rfl kr (.inl rfl) rfl dc (fun _ _ h => ⟨h.1, lE br h.2⟩) ⟨d, fun _ => n⟩ (fun _ _ _ _ => gF L) (jB 1 rfl kr (.inl rfl) rfl dc (fun _ _ h => ⟨h.1, lE br h.2⟩) ⟨d, fun _ => n⟩ (fun _ _ _ _ => gF L) (jB 2 rfl kr (.inl rfl) rfl dc (fun _ _ h => ⟨h.1, lE br h.2⟩) ⟨d, fun _ => n⟩ (fun _ _ _ _ => jj rfl) (jB 3 rfl kr (.inl rfl) rfl dc (fun _ _ h => ⟨h.1, lE br h.2⟩) ⟨d, fun _ => n⟩ (fun _ _ _ _ => gE rT rfl) (jB 4 rfl kr (.inl rfl) rfl dc (fun _ _ h => ⟨h.1, lE br h.2⟩) ⟨d, fun _ => n⟩ (fun l W q s => have p := (s.2 (q.Dx 12 [4] kr rfl)); gA rfl (gN p Mh rfl isAgg120)) (jB 5 rfl kr (.inl rfl) rfl dc (fun _ _ h => ⟨h.1, lE br h.2⟩) ⟨d, fun _ => n⟩ (fun l W q s => have p := s.1; gA c1 (gK p Mh (gw G) rfl au ag)) (jB 6 rfl kr (.inl rfl) rfl dc (fun _ _ h => ⟨h.1, lE br h.2⟩) ⟨d, fun _ => n⟩ (fun _ _ _ _ => gF c0) (jB 7 rfl kr (.inl rfl) rfl dc (fun _ _ h => ⟨h.1, lE br h.2⟩) ⟨d, fun _ => n⟩ (fun _ _ _ _ => kO (v := (.agg (gL (⟨G, U⟩ : gx)).toArray)) (nC rfl rfl) (jH cM bi (xq _ bi) kr)) (XE 8 rfl (ig (cs := (gL (⟨G, U⟩ : gx)).toArray) m (lk rfl) (kz bK cD cM) (fun e9 d3 m => ?_)))))))))))
 have d := m.has.gy (Db (Db (Dr (Kb Sn))))
 have n := m.has.gy (Db (Kb Sn))
 refine ⟨⟨d, fun _ => n⟩, ?_⟩
 replace m := m.perm (Nr (Qb (Qb (Qr (Qb (Qr (Qr (Qr Qz))))))) Nz)
 refine bS T fun b0 c5 T => XE 9 rfl (zZ (enc := gL) (v := i) (vs := (.slice (some ⟨d3, 0, none⟩) 1 1)) (R := t) m lj dc qM bK mP.1 mP.2.1 rfl mP.2.2.1 mP.2.2.2 rfl rfl K (Sl.lit (enc := gL) (l := [(⟨G, U⟩ : gx)]) lj rfl nb rfl (m.at_ (Ma Mh))) c5 (fun f0 e5 c9 m a7 => ?_))
 have d := m.has.gy (Dr (Db (Db (Dr (Kb Sn)))))
 have n := m.has.gy (Dr (Db (Kb Sn)))
 refine ⟨⟨d, fun _ => n⟩, (jB 10 rfl kr (.inl rfl) rfl dc (fun _ _ h => ⟨h.1, lE br h.2⟩) ⟨d, fun _ => n⟩ (fun _ _ _ _ => jj rfl) (jB 11 rfl kr (.inl rfl) rfl dc (fun _ _ h => ⟨h.1, lE br h.2⟩) ⟨d, fun _ => n⟩ (fun _ _ _ _ => gE rT rfl) ?_))⟩
 obtain ⟨a3, a4, rfl⟩ := a7.form
 let a2 : Value := (.slice a3 b0.length a4)
 replace m := m.perm (Nb (Pr (Pb Pz)) Nz)
 refine XO 12 rfl (ib a2 (#[g, a, j, c, a2, (.int .i64 (wi0 .i64 (H + 1)))]) m rfl rfl gq oc nb rfl (fun d9 m => ?_))
 have d := m.has.gy (Db (Dr (Db (Dr (Kb Sn)))))
 refine ⟨⟨d, fun h => Ci kr h⟩, (iU kr (oS ?_))⟩
 obtain rfl := sj T
 exact nj rfl ⟨_, _, rfl, (m.nL (Kb (Sr (Qr (Qb Qz)) (Sr (Qr (Qb (Qb Qz))) (Sr (Qr (Qb (Qb Qz))) (Sr (Qr (Qb (Qb Qz))) (Kr Sn))))))), c8, a2, c9, rfl, rfl, c4.e, a7⟩
theorem oR (a : Value) (g : List (ByteArray × Bool)) (r : Unit) (w : World) (c : kL Value.string (fun (x : Bool) => (Value.bool x)) (hp w) a g) (hm : kc g = some r) :
  ie true pg0 120 [a] w [] (fun v k W' => ∃ i, v = (.func (.func 183) #[] #[(.pointer (some ⟨i, 0, none⟩))]) ∧ k = ((i, Ob #[a] 175) :: [])) := by
 refine qH 4 func120 rfl (fun b => sg ?_)
 obtain ⟨t, rfl⟩ := c.form
 refine VE (iO b rfl (fun u j b => Wa (lr (V (qY (by exact tZ rfl) rfl) (Wa (lt ?_))))))
 obtain rfl := sj hm
 exact iC (v := (.func (.func 183) #[] #[(.pointer (some ⟨j, 0, none⟩))])) rfl rfl ⟨_, _, rfl, (b.yh (Kb Sn)), j, rfl, rfl⟩
theorem xH {β : Type} {vf : β → Value} {l : List (ByteArray × β)} {b : Nat} {a : Value} {W : World} {r : List ByteArray} (c : W.heap[b]? = some (.cells #[a] 175 (0, 0))) (hm : kL Value.string vf (hp W) a l) (hk : wX l = some r) : iS false pg0 119 [.func (.func 183) #[] #[.pointer (some ⟨b, 0, none⟩)]] W 9 iQ 1 r := zU (P := pg0) DX D9 Co rfl aP call183 call182 c hm hk
theorem og (T : Nat) (a : Value) (u : List (gr × (List (ByteArray × Bool)))) (c : Value) (t : List gu) (j : Value) (G : List (gr × (List gu))) (g : Value) (B : List (ByteArray × (List gu))) (i : Value) (D : List gx) (Q : Int) (H : gr) (r : List ByteArray) (w : World) (J : ow (fun (x : gr) => (.agg (gw x).toArray)) (gW Value.string (fun (x : Bool) => (Value.bool x))) (hp w) a u) (Z : Sl (Pl gv) 9 (hp w) c t) (a4 : ow (fun (x : gr) => (.agg (gw x).toArray)) (gM 108 gv 9) (hp w) j G) (a0 : ow Value.string (gM 108 gv 9) (hp w) g B) (a3 : Sl (Pl gL) 3 (hp w) i D) (Y : At (hp w) (.pointer (some ⟨T, 0, none⟩)) [a, c, j, g, i, (.int .i64 Q)]) (hm : iT u t G B D Q H = some r) :
  iS false pg0 53 [(.pointer (some ⟨T, 0, none⟩)), (.agg (gw H).toArray)] w 9 iQ 1 r := by
 refine qH 15 func53 rfl (fun d => sg (VE (iO d rfl (fun W2 R d => Wa (lS (Wm (V (qF underlying101 rfl rfl) (ln (ml rfl ?_)))))))))
 refine kn (gO ?_)
 replace d := d.drew
 have h := d.has.gy (Kb Sn)
 refine iI h ij (X 0 rfl h (gF rfl) (X 1 rfl h (jj rfl) (XQ 2 rfl h (sP [a] qj rfl Y rfl) (fun b8 A => XH 3 rfl h (fun _ l => gA rfl (kI l (y := a) A fk)) (XH 4 rfl h (fun _ l => gA rfl (gK l Mh (gw H) rfl au ag)) ?_)))))
 obtain ⟨a9, b4, K, M⟩ := J
 refine XH 5 rfl h (fun _ l => kU (k := H) (z := (.map none)) nZ di dJ rfl rfl K (fun b o m => l.1 b o (M b o m))) (bS hm fun b9 E hm => ?_)
 refine XE 6 rfl (vS d (cK _) call120 (fun _ _ _ _ => ie.ki (oR (lP gB a9 H (.map none)) ((gV gB u H).getD []) _ _ ((iX.vl gC.1 K H M).mono d.iH) E)) (fun b5 c1 c2 W d I q n a5 => ?_) (L0 := []))
 obtain ⟨b7, N, rfl⟩ := a5
 replace N := N.symm; subst N
 replace d := d.perm (Tb Tn)
 have h := d.has.tY I (Db (Kb Sn))
 refine ⟨h, (bS hm fun c0 L hm => XE 7 rfl (nU d call119 (xH (vf := (fun (x : Bool) => (Value.bool x))) (d.has.2 _ _ Mh) ((iX.vl gC.1 K H M).mono (fun b o m => d.has.1 b o (I b o m))) L) (fun b6 P c3 O d a2 s U => ?_)))⟩
 have h := d.has.tY (I.trans a2) (Dr (Db (Kb Sn)))
 refine ⟨h, (X 8 rfl h (jU rfl) (iU kr (gI ?_)))⟩
 replace d := d.gy (Kr (Db (Db St)))
 refine iq ?_
 obtain rfl := sj hm
 exact iC (v := P) rfl rfl ⟨_, O, rfl, d.kp (fun p m => (Ml m)) U.nd, U⟩
theorem uy (K : Nat) (g : Value) (N : List (gr × (List (ByteArray × Bool)))) (G : LO) (a : Value) (H : List gu) (k : LO) (j : Value) (J : List (gr × (List gu))) (u : LO) (c : Value) (I : List (ByteArray × (List gu))) (t : LO) (z : Value) (M : List gx) (B : LO) (Z : Int) (A a2 : gr) (r : ((List (gr × (List (ByteArray × Bool)))) × (List gx) × Int)) (w : World) {μ0 : gS} (h0 : pb μ0 ((K, Ob #[g, a, j, c, z, (.int .i64 Z)] 174) :: (G ++ (k ++ (u ++ (t ++ (B ++ [])))))) w) (a5 : iz (fun (x : gr) => (.agg (gw x).toArray)) (gW Value.string (fun (x : Bool) => (Value.bool x))) g N G) (Q : gM 108 gv 9 a H k) (a4 : iz (fun (x : gr) => (.agg (gw x).toArray)) (gM 108 gv 9) j J u) (T : iz Value.string (gM 108 gv 9) c I t) (a3 : kY 38 gL 3 z M B) (hm : nq N H J I M Z A a2 = some r) :
  ie false pg0 252 [(.pointer (some ⟨K, 0, none⟩)), (.agg (gw A).toArray), (.agg (gw a2).toArray)] w ((K, Ob #[g, a, j, c, z, (.int .i64 Z)] 174) :: (G ++ (k ++ (u ++ (t ++ (B ++ [])))))) (fun v L1 W' => ∃ S1 y3 S4, v = (.tuple #[]) ∧ L1 = ((K, Ob #[g, a, j, c, y3, (.int .i64 (r.2.2))] 174) :: (S1 ++ (k ++ (u ++ (t ++ (S4 ++ [])))))) ∧ iz (fun (x : gr) => (.agg (gw x).toArray)) (gW Value.string (fun (x : Bool) => (Value.bool x))) g r.1 S1 ∧ kY 38 gL 3 y3 r.2.1 S4) := by
 refine sA h0 21 func252 rfl (fun d => sg (VE (iO d rfl (fun W2 b1 d => VE (iO d rfl (fun W4 b3 d => lr (Wm (VA d (Mt Mh) (gw A) au ag (bS hm fun r5 e5 hm => VE (nU d call53 (og K g N a H j J c I z M Z A _ _ (a5.at (fun b o l => d.at_ (Mt (Mt (Mt (Ml l)))))) (Q.sl ic (fun b o l => d.at_ (Mt (Mt (Mt (Ma (Ml l))))))) (a4.at (fun b o l => d.at_ (Mt (Mt (Mt (Ma (Ma (Ml l)))))))) (T.at (fun b o l => d.at_ (Mt (Mt (Mt (Ma (Ma (Ma (Ml l))))))))) ((a3.vd lj).mono (Pl.mono _) (qg (fun b o l => d.at_ (Mt (Mt (Mt (Ma (Ma (Ma (Ma (Ml l))))))))))) (At.of (d.at_ (Mt (Mt Mh))) _ rfl) e5) (fun W7 e6 s e1 d f4 ao a9 => V (jf aB rfl a9) (Wm ?_))))))))))))
 refine ln ?_
 replace d := d.gy (Kr (Kb (Db St)))
 refine ou (iL (fun i E W => ∃ m U a0 n Y q L R, (E 12 = .int .i64 (i : Nat) ∧ E 11 = .int .i64 (r5.length : Nat)) ∧ gZ s L ∧ ST false (keys ((K, Ob #[g, a, j, c, z, (.int .i64 Z)] 174) :: (G ++ (k ++ (u ++ (t ++ (B ++ []))))))) w W L ((K, Ob #[g, a, j, c, a0, (.int .i64 q)] 174) :: ((b3, Ol (gw a2) 28) :: (U ++ (k ++ (u ++ (t ++ (Y ++ (e1 ++ R)))))))) ∧ E 0 = (.pointer (some ⟨K, 0, none⟩)) ∧ E 5 = (.pointer (some ⟨b3, 0, none⟩)) ∧ E 10 = e6 ∧ iz (fun (x : gr) => (.agg (gw x).toArray)) (gW Value.string (fun (x : Bool) => (Value.bool x))) g m U ∧ kY 38 gL 3 a0 n Y ∧ kV H J I a2 (r5.drop i) m n q = some r) r5.length a9.len ⟨N, G, z, M, B, Z, s, _, ⟨rfl, rfl⟩, (gZ.refl _), (d.gy (Sb (Pr (Pb Pz)) (Sb (Pr Pz) (Sr (Qr Qz) (Sr (Qr Qz) (Sr (Qr Qz) (Sr (Qr Qz) (Sr (Qr Qz) St)))))))), rfl, rfl, rfl, a5, a3, hm⟩ dc dc dc (fun _ _ _ h => by obtain ⟨_, _, _, _, _, _, _, _, ab, _⟩ := h; exact ab) ?_ ?_)
 ·rintro d7 E W c8 ⟨m, U, a0, n, Y, q, L, R, ⟨eI, eN⟩, b6, d, b9, c0, c1, O, P, D⟩
  obtain ⟨c3, e9, d1, c4, d2⟩ := iB c8
  rw [d1] at D
  refine bg (VQ (iW (i := (d7 : Int)) (x0 := c3) aB bQ c1 eI a9 (ay _) c4) (fun f5 c9 => V (gA rfl (oD d.has (fun p l => (Mt (Mt (Ma (Ma (Ma (Ma (Ma (Ml l))))))))) a9 (fun _ => rfl) c9 c4 (y := (.string c3)) rfl aF)) (Wa (ln (gJ (Wh b9 (V (gA c0 (gK d.has (Mt Mh) (gw a2) rfl au ag)) (Wm (bS D fun c2 d0 D => ?_)))))))))
  refine VE (eM d (Cb Pz (Cr (Qb Qz) (Cr (Qb Qz) (Cr (Qb Qz) (Cr (Qb Qz) (Cr (Qb Qz) Cn)))))) call209 (fun hh _ => ie.ki (lG K g m U a H k j J u c I t a0 n Y q a2 c3 _ _ hh O Q a4 T P d0)) ?_)
  rintro _ f6 e0 f1 d c6 ad af ⟨d5, d9, d6, b4, rfl, d3, d4⟩
  obtain rfl := b4.symm
  replace d := d.perm (Tb (Tr (Tr (Tr (Tr (Tr Tn))))))
  exact gT (im (gI ⟨eI, c2.1, d5, d9, c2.2.1, d6, c2.2.2, e0, _, ⟨rfl, eN⟩, (b6.trans c6), (d.gy (Kb (Sb (Pr (Pr (Pr (Pr (Pr Pz))))) St))), b9, c0, c1, d3, d4, (by rw [d2]; exact D)⟩))
 rintro E W ⟨m, U, a0, n, Y, q, L, R, ⟨eI, eN⟩, b6, d, b9, c0, c1, O, P, D⟩
 rw [aI] at D
 refine gI ?_
 replace d := d.gy (Kb (Db (Kr (Kr (Kr (Kr (Kr (Dr St))))))))
 refine oS ?_
 obtain rfl := sj D
 exact nj rfl ⟨_, _, rfl, (d.nL (Kb (Kr (Kr (Kr (Kr (Kr Sn))))))), U, a0, Y, rfl, rfl, O, P⟩
theorem qK (K : Nat) (G : Value) (Z : List (gr × (List (ByteArray × Bool)))) (D : LO) (g : Value) (I : List gu) (a : LO) (B : Value) (N : List (gr × (List gu))) (y : LO) (i : Value) (J : List (ByteArray × (List gu))) (c : LO) (t : Value) (M : List gx) (j : LO) (a0 : Int) (Q : gu) (a2 : gx) (r : ((List (gr × (List (ByteArray × Bool)))) × (List gx) × Int)) (w : World) {μ0 : gS} (h0 : pb μ0 ((K, Ob #[G, g, B, i, t, (.int .i64 a0)] 174) :: (D ++ (a ++ (y ++ (c ++ (j ++ [])))))) w) (U : iz (fun (x : gr) => (.agg (gw x).toArray)) (gW Value.string (fun (x : Bool) => (Value.bool x))) G Z D) (T : gM 108 gv 9 g I a) (a3 : iz (fun (x : gr) => (.agg (gw x).toArray)) (gM 108 gv 9) B N y) (Y : iz Value.string (gM 108 gv 9) i J c) (H : kY 38 gL 3 t M j) (hm : lV Z I N J M a0 Q a2 = some r) :
  ie false pg0 210 [(.pointer (some ⟨K, 0, none⟩)), (.agg (gv Q).toArray), (.agg (gL a2).toArray)] w ((K, Ob #[G, g, B, i, t, (.int .i64 a0)] 174) :: (D ++ (a ++ (y ++ (c ++ (j ++ [])))))) (fun v L1 W' => ∃ S1 y3 S4, v = (.tuple #[]) ∧ L1 = ((K, Ob #[G, g, B, i, y3, (.int .i64 (r.2.2))] 174) :: (S1 ++ (a ++ (y ++ (c ++ (S4 ++ [])))))) ∧ iz (fun (x : gr) => (.agg (gw x).toArray)) (gW Value.string (fun (x : Bool) => (Value.bool x))) G r.1 S1 ∧ kY 38 gL 3 y3 r.2.1 S4) := by
 let s := (#[G, g, B, i, t, (.int .i64 a0)] : Array Value)
 refine sA h0 57 func210 rfl (fun d => sg (VE (iO d rfl (fun W2 A d => VE (iO d rfl (fun W4 O d => lr (Wf jN (VB d (Mt Mh) rfl rfl bI (ln (jl (gO ?_)))))))))))
 refine gJ (Wi rfl (Wa (ln (CI hm rfl (fun e4 hm => ?_) (fun e4 hm => ?_)))))
 ·refine gJ (Wm (Wf jT (VA d (Mt Mh) (gw Q.Head) au ag (Wf qE (VB d Mh rfl rfl aF (bS hm fun r6 e5 hm => ?_))))))
  refine VE (eM d (Cb (Pb (Pb Pz)) (Cr (Qb (Qb Qz)) (Cr (Qb (Qb Qz)) (Cr (Qb (Qb Qz)) (Cr (Qb (Qb Qz)) (Cr (Qb (Qb Qz)) Cn)))))) call209 (fun q _ => ie.ki (lG K G Z D g I a B N y i J c t M j a0 Q.Head a2.gU _ _ q U T a3 Y H e5)) ?_)
  rintro _ g4 af f7 d f1 a6 m ⟨d1, e6, d2, a8, rfl, c4, c5⟩
  obtain rfl := a8.symm
  replace d := d.perm (Tb (Tr (Tr (Tr (Tr (Tr Tn))))))
  refine gT (im (oS ?_))
  obtain rfl := sj hm
  exact nj rfl ⟨_, _, rfl, (d.nL (Kb (Kr (Kr (Kr (Kr (Kr Sn))))))), d1, e6, d2, rfl, rfl, c4, c5⟩
 refine sg (Wi rfl (Wa (ln (CI hm rfl (fun b9 hm => ?_) (fun b9 hm => ?_)))))
 ·refine gJ (Wm (Wf qE (VB d Mh rfl rfl aF (Wf ma (VB d (Mt Mh) rfl rfl aF (V (kO (v := (.agg (gw (⟨a2.gU, Q.gY⟩ : gr)).toArray)) (nC rfl rfl) (jH cw bt (zw _ bt) kr)) (Wf jT (VA d (Mt Mh) (gw Q.Head) au ag (bS hm fun g2 c2 hm => ?_)))))))))
  refine VE (eM d (Cb (Pb (Pb Pz)) (Cr (Qb (Qb Qz)) (Cr (Qb (Qb Qz)) (Cr (Qb (Qb Qz)) (Cr (Qb (Qb Qz)) (Cr (Qb (Qb Qz)) Cn)))))) call252 (fun q _ => (uy K G Z D g I a B N y i J c t M j a0 (⟨a2.gU, Q.gY⟩ : gr) Q.Head _ _ q U T a3 Y H c2)) ?_)
  rintro _ g5 g8 f8 d f2 ab m ⟨d3, e8, d4, a9, rfl, c6, c7⟩
  obtain rfl := a9.symm
  replace d := d.perm (Tb (Tr (Tr (Tr (Tr (Tr Tn))))))
  refine gT (im (oS ?_))
  obtain rfl := sj hm
  exact nj rfl ⟨_, _, rfl, (d.nL (Kb (Kr (Kr (Kr (Kr (Kr Sn))))))), d3, e8, d4, rfl, rfl, c6, c7⟩
 refine sg (Wi rfl (Wa (ln (CI hm rfl (fun c0 hm => ?_) (fun c0 hm => ?_)))))
 ·refine gO ?_
  replace d := d.drew
  have h := d.has.gy (Kb (Kb (Kb (Kr Sn))))
  refine iI h ij (X 0 rfl h (gF rfl) (X 1 rfl h (jj rfl) (X 2 rfl h (gE qj rfl) (XH 3 rfl h (fun _ l => gA rfl (gN l (Mt (Mt Mh)) rfl fk)) (X 4 rfl h (gE iM rfl) (XH 5 rfl h (fun _ l => gA rfl (gK l (Mt Mh) (gw Q.B) rfl au ag)) ?_))))))
  obtain ⟨f6, a5⟩ := U
  refine XH 6 rfl h (fun _ l => kU (k := Q.B) (z := (.map none)) nZ di dJ rfl rfl a5 (fun b o n => l.2 b o (Mt (Mt (Mt (Ml n)))))) (X 7 rfl h (gE qE rfl) (XH 8 rfl h (fun _ l => gA rfl (gN l Mh rfl aF)) (XH 9 rfl h (fun _ l => oz (k := a2.gU) (z := false) (vf := (fun (x : Bool) => (Value.bool x))) xQ dS zeroValue4 rfl rfl (iX.vl (μ := hp _) gC.1 a5 Q.B (fun b o n => l.2 b o (Mt (Mt (Mt (Ml n))))))) (X 10 rfl h (gF rfl) (PJ hm (fun R E W => ∃ P, ST false (keys ((K, Obj.cells s 174 (0, 0)) :: (D ++ (a ++ (y ++ (c ++ (j ++ []))))))) w W μ0 ((O, Ol (gL a2) 38) :: ((A, Ol (gv Q) 108) :: ((K, Obj.cells s 174 (0, 0)) :: (D ++ (a ++ (y ++ (c ++ (j ++ P)))))))) ∧ E 0 = (.pointer (some ⟨K, 0, none⟩)) ∧ E 4 = (.pointer (some ⟨A, 0, none⟩)) ∧ E 5 = (.pointer (some ⟨O, 0, none⟩)) ∧ E 50 = (.bool R)) (bm 22 4194303) 0 ?_ (fun R p L => ?_))))))
  ·rintro g7 E W ⟨P, d, e0, e1, e2, e3⟩ a4
   refine iU kr (gI (CI a4 e3 (fun c1 a4 => ?_) (fun c1 a4 => ?_)))
   ·refine gJ (Wh e0 (V (gE jT e1) (VA d (Mt Mh) (gw Q.Head) au ag (V (gE qE e2) (VB d Mh rfl rfl aF (bS a4 fun g3 c3 a4 => ?_))))))
    refine VE (eM d (Cb (Pb (Pb Pz)) (Cr (Qb (Qb Qz)) (Cr (Qb (Qb Qz)) (Cr (Qb (Qb Qz)) (Cr (Qb (Qb Qz)) (Cr (Qb (Qb Qz)) Cn)))))) call209 (fun q _ => ie.ki (lG K G Z D g I a B N y i J c t M j a0 Q.Head a2.gU _ _ q a5.e T a3 Y H c3)) ?_)
    rintro _ g6 g9 f9 d f3 ad m ⟨d6, e9, d7, b0, rfl, c8, c9⟩
    obtain rfl := b0.symm
    replace d := d.perm (Tb (Tr (Tr (Tr (Tr (Tr Tn))))))
    refine gT (im (oS ?_))
    obtain rfl := sj a4
    exact nj rfl ⟨_, _, rfl, (d.nL (Kb (Kr (Kr (Kr (Kr (Kr Sn))))))), d6, e9, d7, rfl, rfl, c8, c9⟩
   refine iv (im (oS ?_))
   obtain rfl := sj a4
   exact nj rfl ⟨_, _, rfl, (d.nL (Db (Db (Kb (Kr (Kr (Kr (Kr (Kr Sn))))))))), D, t, j, rfl, rfl, a5.e, H⟩
  refine bC p (fun u p => ?_) (fun u p => ?_)
  ·refine Xg 11 rfl rfl (cB u) h (gF rfl) (Xg 12 rfl rfl (cB u) h (jj rfl) (Xg 13 rfl rfl (cB u) h (gE qj rfl) (pJ 14 rfl rfl (cB u) h (fun _ l => gA rfl (gN l (Mt (Mt Mh)) rfl fk)) (Xg 15 rfl rfl (cB u) h (gE kD rfl) (pJ 16 rfl rfl (cB u) h (fun _ l => gA rfl (gK l (Mt Mh) (gw Q.C) rfl au ag)) (pJ 17 rfl rfl (cB u) h (fun _ l => kU (k := Q.C) (z := (.map none)) nZ di dJ rfl rfl a5 (fun b o n => l.2 b o (Mt (Mt (Mt (Ml n)))))) (Xg 18 rfl rfl (cB u) h (gE qE rfl) (pJ 19 rfl rfl (cB u) h (fun _ l => gA rfl (gN l Mh rfl aF)) (pJ 20 rfl rfl (cB u) h (fun _ l => oz (k := a2.gU) (z := false) (vf := (fun (x : Bool) => (Value.bool x))) xQ dS zeroValue4 rfl rfl (iX.vl (μ := hp _) gC.1 a5 Q.C (fun b o n => l.2 b o (Mt (Mt (Mt (Ml n))))))) (X 21 rfl h (gQ (cB u) rfl) ?_))))))))))
   obtain rfl := sj p
   refine jv kr (L _ _ ⟨_, (d.gy St), rfl, rfl, rfl, rfl⟩)
  refine Xn 11 rfl rfl (cB u) h (Xn 12 rfl rfl (cB u) h (Xn 13 rfl rfl (cB u) h (Xn 14 rfl rfl (cB u) h (Xn 15 rfl rfl (cB u) h (Xn 16 rfl rfl (cB u) h (Xn 17 rfl rfl (cB u) h (Xn 18 rfl rfl (cB u) h (Xn 19 rfl rfl (cB u) h (Xn 20 rfl rfl (cB u) h (X 21 rfl h (gP (cB u) rfl) ?_))))))))))
  obtain rfl := sj p
  refine jv kr (L _ _ ⟨_, (d.gy St), rfl, rfl, rfl, rfl⟩)
 refine iv (im (oS ?_))
 obtain rfl := sj hm
 exact nj rfl ⟨_, _, rfl, (d.nL (Db (Db (Kb (Kr (Kr (Kr (Kr (Kr Sn))))))))), D, t, j, rfl, rfl, U, H⟩
theorem tw (K : Nat) (g : Value) (T : List (gr × (List (ByteArray × Bool)))) (D : LO) (a : Value) (G : List gu) (j : LO) (t : Value) (J : List (gr × (List gu))) (u : LO) (c : Value) (H : List (ByteArray × (List gu))) (k : LO) (z : Value) (M : List gx) (B : LO) (a0 : Int) (Z : gu) (r : ((List (gr × (List (ByteArray × Bool)))) × (List gx) × Int)) (w : World) {μ0 : gS} (h0 : pb μ0 ((K, Ob #[g, a, t, c, z, (.int .i64 a0)] 174) :: (D ++ (j ++ (u ++ (k ++ (B ++ [])))))) w) (a2 : iz (fun (x : gr) => (.agg (gw x).toArray)) (gW Value.string (fun (x : Bool) => (Value.bool x))) g T D) (N : gM 108 gv 9 a G j) (Y : iz (fun (x : gr) => (.agg (gw x).toArray)) (gM 108 gv 9) t J u) (Q : iz Value.string (gM 108 gv 9) c H k) (U : kY 38 gL 3 z M B) (hm : mE T G J H M a0 Z = some r) :
  ie false pg0 172 [(.pointer (some ⟨K, 0, none⟩)), (.agg (gv Z).toArray)] w ((K, Ob #[g, a, t, c, z, (.int .i64 a0)] 174) :: (D ++ (j ++ (u ++ (k ++ (B ++ [])))))) (fun v L1 W' => ∃ S1 y3 S4, v = (.tuple #[]) ∧ L1 = ((K, Ob #[g, a, t, c, y3, (.int .i64 (r.2.2))] 174) :: (S1 ++ (j ++ (u ++ (k ++ (S4 ++ [])))))) ∧ iz (fun (x : gr) => (.agg (gw x).toArray)) (gW Value.string (fun (x : Bool) => (Value.bool x))) g r.1 S1 ∧ kY 38 gL 3 y3 r.2.1 S4) := by
 refine sA h0 33 func172 rfl (fun d => sg (VE (iO d rfl (fun W2 b1 d => lr (Wf jN (VB d Mh rfl rfl bI (ln (bg ?_))))))))
 refine Wi rfl (Wa (ln (CI hm rfl (fun f0 hm => ?_) (fun f0 hm => ?_))))
 ·refine gJ (Wm (Wf jT (VA d Mh (gw Z.Head) au ag (Wf mB (VB d Mh rfl rfl aF (bS hm fun r4 f1 hm => ?_))))))
  refine VE (eM d (Cb (Pb Pz) (Cr (Qb Qz) (Cr (Qb Qz) (Cr (Qb Qz) (Cr (Qb Qz) (Cr (Qb Qz) Cn)))))) call209 (fun hh _ => ie.ki (lG K g T D a G j t J u c H k z M B a0 Z.Head Z.gU _ _ hh a2 N Y Q U f1)) ?_)
  rintro _ g7 ao g5 d g1 af m ⟨e6, f3, e7, c1, rfl, d9, e0⟩
  obtain rfl := c1.symm
  replace d := d.perm (Tb (Tr (Tr (Tr (Tr (Tr Tn))))))
  refine gT (im (oS ?_))
  obtain rfl := sj hm
  exact nj rfl ⟨_, _, rfl, (d.nL (Kb (Kr (Kr (Kr (Kr (Kr Sn))))))), e6, f3, e7, rfl, rfl, d9, e0⟩
 refine sg (Wm (Wf iM (VA d Mh (gw Z.B) au ag (bS hm fun c5 d8 hm => VE (nU d call53 (og K g T a G t J c H z M a0 Z.B _ _ (a2.at (fun b o l => d.at_ (Mt (Mt (Ml l))))) (N.sl ic (fun b o l => d.at_ (Mt (Mt (Ma (Ml l)))))) (Y.at (fun b o l => d.at_ (Mt (Mt (Ma (Ma (Ml l))))))) (Q.at (fun b o l => d.at_ (Mt (Mt (Ma (Ma (Ma (Ml l)))))))) ((U.vd lj).mono (Pl.mono _) (qg (fun b o l => d.at_ (Mt (Mt (Ma (Ma (Ma (Ma (Ml l)))))))))) (At.of (d.at_ (Mt Mh)) _ rfl) d8) (fun g6 f2 d4 e4 d f5 ad L => V (jf aB rfl L) (Wm (ln (ou (iL (fun i E W => ∃ n a3 a5 q a4 a9 O b8, (E 13 = .int .i64 (i : Nat) ∧ E 12 = .int .i64 (c5.length : Nat)) ∧ gZ d4 O ∧ ST false (keys ((K, Ob #[g, a, t, c, z, (.int .i64 a0)] 174) :: (D ++ (j ++ (u ++ (k ++ (B ++ []))))))) w W O ((K, Ob #[g, a, t, c, a5, (.int .i64 a9)] 174) :: ((b1, Ol (gv Z) 108) :: (a3 ++ (j ++ (u ++ (k ++ (a4 ++ (e4 ++ b8)))))))) ∧ E 0 = (.pointer (some ⟨K, 0, none⟩)) ∧ E 3 = (.pointer (some ⟨b1, 0, none⟩)) ∧ E 11 = f2 ∧ iz (fun (x : gr) => (.agg (gw x).toArray)) (gW Value.string (fun (x : Bool) => (Value.bool x))) g n a3 ∧ kY 38 gL 3 a5 q a4 ∧ ku G J H Z (c5.drop i) n q a9 = some r) c5.length L.len ⟨T, D, z, M, B, a0, d4, _, ⟨rfl, rfl⟩, (gZ.refl _), (d.gy (Sb (Pr (Pb Pz)) (Sb (Pr Pz) (Sr (Qr Qz) (Sr (Qr Qz) (Sr (Qr Qz) (Sr (Qr Qz) (Sr (Qr Qz) St)))))))), rfl, rfl, rfl, a2, U, hm⟩ dc dc dc (fun _ _ _ h => by obtain ⟨_, _, _, _, _, _, _, _, a1, _⟩ := h; exact a1) ?_ ?_))))))))))
 ·rintro e1 E W c7 ⟨n, a3, a5, q, a4, a9, O, b8, ⟨eI, eN⟩, b7, d, b9, A, c0, P, R, I⟩
  obtain ⟨s, f6, d0, c3, d1⟩ := iB c7
  rw [d0] at I
  refine bg (VQ (iW (i := (e1 : Int)) (x0 := s) aB bQ c0 eI L (ay _) c3) (fun g2 c8 => V (gA rfl (oD d.has (fun p l => (Mt (Mt (Ma (Ma (Ma (Ma (Ma (Ml l))))))))) L (fun _ => rfl) c8 c3 (y := (.string s)) rfl aF)) (Wa (ln (gJ (Wh b9 (V (gA A (gK d.has (Mt Mh) (gv Z) rfl aN ae)) (V (gE iM A) (VA d (Mt Mh) (gw Z.B) au ag (Wm (V (kO (v := (.agg (gL (⟨Z.B, s⟩ : gx)).toArray)) (nC rfl rfl) (jH cM bi (xq _ bi) kr)) ?_)))))))))))
  refine bS I fun c2 c9 I => ?_
  refine VE (eM d (Cb Pz (Cr (Qb Qz) (Cr (Qb Qz) (Cr (Qb Qz) (Cr (Qb Qz) (Cr (Qb Qz) Cn)))))) call210 (fun hh _ => (qK K g n a3 a G j t J u c H k a5 q a4 a9 Z (⟨Z.B, s⟩ : gx) _ _ hh P N Y Q R c9)) ?_)
  rintro _ g3 e3 f8 d c4 ab m ⟨d5, e2, d6, b5, rfl, d2, d3⟩
  obtain rfl := b5.symm
  replace d := d.perm (Tb (Tr (Tr (Tr (Tr (Tr Tn))))))
  exact gT (im (gI ⟨eI, c2.1, d5, e2, c2.2.1, d6, c2.2.2, e3, _, ⟨rfl, eN⟩, (b7.trans c4), (d.gy (Kb (Sb (Pr (Pr (Pr (Pr (Pr Pz))))) St))), b9, A, c0, d2, d3, (by rw [d1]; exact I)⟩))
 rintro E W ⟨n, a3, a5, q, a4, a9, O, b8, ⟨eI, eN⟩, b7, d, b9, A, c0, P, R, I⟩
 rw [aI] at I
 refine gI ?_
 replace d := d.gy (Kb (Db (Kr (Kr (Kr (Kr (Kr (Dr St))))))))
 refine im (oS ?_)
 obtain rfl := sj I
 exact nj rfl ⟨_, _, rfl, (d.nL (Kb (Kr (Kr (Kr (Kr (Kr Sn))))))), a3, a5, a4, rfl, rfl, P, R⟩
theorem tf (I : Nat) (a : Value) (e7 : List (gr × (List (ByteArray × Bool)))) (K : LO) (c : Value) (Q : List gu) (j : LO) (u : Value) (N : List (gr × (List gu))) (y : LO) (g : Value) (H : List (ByteArray × (List gu))) (t : LO) (G : Value) (d3 : List gx) (D : LO) (a0 : Int) (r : ((List (gr × (List (ByteArray × Bool)))) × (List gx) × Int)) (w : World) {μ0 : gS} (h0 : pb μ0 ((I, Ob #[a, c, u, g, G, (.int .i64 a0)] 174) :: (K ++ (j ++ (y ++ (t ++ (D ++ [])))))) w) (h1 : iz (fun (x : gr) => (.agg (gw x).toArray)) (gW Value.string (fun (x : Bool) => (Value.bool x))) a e7 K) (c0 : gM 108 gv 9 c Q j) (g4 : iz (fun (x : gr) => (.agg (gw x).toArray)) (gM 108 gv 9) u N y) (c1 : iz Value.string (gM 108 gv 9) g H t) (g3 : kY 38 gL 3 G d3 D) (hm : nO e7 Q N H d3 a0 = some r) :
  ie false pg0 173 [(.pointer (some ⟨I, 0, none⟩))] w ((I, Ob #[a, c, u, g, G, (.int .i64 a0)] 174) :: (K ++ (j ++ (y ++ (t ++ (D ++ [])))))) (fun v L1 W' => ∃ S1 y3 S4, v = (.tuple #[]) ∧ L1 = ((I, Ob #[a, c, u, g, y3, (.int .i64 (r.2.2))] 174) :: (S1 ++ (j ++ (y ++ (t ++ (S4 ++ [])))))) ∧ iz (fun (x : gr) => (.agg (gw x).toArray)) (gW Value.string (fun (x : Bool) => (Value.bool x))) a r.1 S1 ∧ kY 38 gL 3 y3 r.2.1 S4) := by
 let i3 : Value := (.pointer (some ⟨I, 0, none⟩))
 let i2 := ((I, Ob #[a, c, u, g, G, (.int .i64 a0)] 174) :: (K ++ (j ++ (y ++ (t ++ (D ++ []))))))
 refine sA h0 75 func173 rfl (fun d => ou (jl (mc (fun m E W => ∃ e2 b7 e3 a1 b8 d0 b4 h2, gZ μ0 b4 ∧ ST false (keys i2) w W b4 ((I, Ob #[a, c, u, g, e3, (.int .i64 d0)] 174) :: (b7 ++ (j ++ (y ++ (t ++ (b8 ++ h2)))))) ∧ E 0 = i3 ∧ iz (fun (x : gr) => (.agg (gw x).toArray)) (gW Value.string (fun (x : Bool) => (Value.bool x))) a e2 b7 ∧ kY 38 gL 3 e3 a1 b8 ∧ ji Q N H m e2 a1 d0 = some r) jg ⟨e7, K, G, d3, D, a0, μ0, _, (gZ.refl _), (d.gy St), rfl, h1, g3, hm⟩ ?_)))
 rintro m E W ⟨e2, b7, e3, a1, b8, d0, b4, h2, h7, d, L, g6, c4, M⟩
 cases m with
 | zero => rw [ji] at M; cases M
 | succ m7 =>
  refine gO (sg (Wh L (Wn (Wf rT (VB d Mh rfl rfl isAgg120 (V (C7 bK rfl c4) (Wi rfl (ln (CI M rfl (fun i4 M => ?_) (fun i4 M => ?_))))))))))
  ·refine kn (bg (Wh L (Wn (Wf rT (VB d Mh rfl rfl isAgg120 (bS M fun B g8 M => VQ (jL (enc := gL) (i := 0) (x0 := B) bK cD rfl rfl (c4.vd lj) (jk g8) (iF g8)) (fun p7 j4 => V (gA rfl (lI (my.hp _) (j4.mono (qg (fun b o p => d.has.2 b o (Mt (Ma (Ma (Ma (Ma (Ml p))))))))) fM cD)) (VE (iZ d cM (fun o6 a5 d => VO (ib (.agg (gL B).toArray) ((gL B).toArray) d rfl rfl cD (qM B) nb rfl (fun o7 d => gT ?_))))))))))))
   let n6 := ((gV gB N B.gr).getD [])
   let n5 : Value := (.pointer (some ⟨a5, 0, none⟩))
   let n4 := ((gL B).toArray : Array Value)
   let j2 := ((gV gX H B.gr.hX).getD [])
   refine gI (sg (Wh L (Wh L (Wn (Wf rT (VB d (Mt Mh) rfl rfl isAgg120 (bS M fun _ g5 M => VQ (Bm (i := 1) bK cD rfl rfl lj c4 (pT g5) (pP g5)) (fun q0 g7 => Wn (Wf rT ?_)))))))))
   obtain ⟨f6, f9, rfl⟩ := g7.form
   let j1 : Value := (.slice f6 (a1.drop (Int.toNat 1)).length f9)
   replace d := d.perm (Nb (Pb Pz) Nz)
   refine VO (ib j1 (#[a, c, u, g, j1, (.int .i64 d0)]) d rfl rfl gq oc nb rfl (fun o8 d => ln (gO (gO ?_))))
   replace d := d.drew
   have l := d.has.gy (Kb (Kb (Dr (Dr (Kr Sn)))))
   refine iI l ij (X 0 rfl l (gF L) (X 1 rfl l (jj rfl) (X 2 rfl l (gE AF rfl) (XH 3 rfl l (fun _ n => gA rfl (gN n Mh rfl isAgg171)) (X 4 rfl l (gE sn rfl) (XH 5 rfl l (fun _ n => gA rfl (gK n (Mt Mh) (gw B.gr) rfl au ag)) ?_))))))
   obtain ⟨l4, c2⟩ := g4
   obtain ⟨o4, e9, j9⟩ := iX.rowAt gC.1 c2 B.gr
   refine XH 6 rfl l (fun _ n => kU (k := B.gr) (z := (.slice none 0 0)) nZ underlying171 gn rfl rfl c2 (fun b o p => n.2 b o (Mt (Mt (Ml p))))) (X 7 rfl l (lB aj rfl (e9.vd ic)) (X 8 rfl l (gF rfl) (iU kr (gI (CJ M (fun c9 E W => ∃ d5 e4 d6 b5 h3, gZ b4 b5 ∧ ST false (keys i2) w W b5 ((I, Ob #[a, c, u, g, e4, (.int .i64 c9.2.2)] 174) :: ((a5, Obj.cells n4 38 (0, 0)) :: (d5 ++ (j ++ (y ++ (t ++ (d6 ++ h3))))))) ∧ E 0 = i3 ∧ E 2 = n5 ∧ iz (fun (x : gr) => (.agg (gw x).toArray)) (gW Value.string (fun (x : Bool) => (Value.bool x))) a c9.1 d5 ∧ kY 38 gL 3 e4 c9.2.1 d6) (fun c9 j3 => ?_) ?_)))))
   ·refine iL (fun i E W => ∃ c6 a3 R c7 a4 d1 d2 f8, (E 35 = .int .i64 (i : Nat) ∧ E 34 = .int .i64 (n6.length : Nat)) ∧ gZ b4 d2 ∧ ST false (keys i2) w W d2 ((I, Ob #[a, c, u, g, R, (.int .i64 d1)] 174) :: ((a5, Obj.cells n4 38 (0, 0)) :: (a3 ++ (j ++ (y ++ (t ++ (a4 ++ f8))))))) ∧ E 0 = i3 ∧ E 2 = n5 ∧ E 33 = (lP gB l4 B.gr (.slice none 0 0)) ∧ iz (fun (x : gr) => (.agg (gw x).toArray)) (gW Value.string (fun (x : Bool) => (Value.bool x))) a c6 a3 ∧ kY 38 gL 3 R c7 a4 ∧ kl Q N H B (n6.drop i) c6 c7 d1 = some c9) n6.length (e9.vd ic).len ⟨e2, b7, j1, (a1.drop (Int.toNat 1)), b8, d0, b4, _, ⟨rfl, rfl⟩, (gZ.refl _), (d.gy St), L, rfl, rfl, g6, g7, j3⟩ dc dc dc (fun _ _ _ h => by obtain ⟨_, _, _, _, _, _, _, _, s, _⟩ := h; exact s) ?_ ?_
    ·rintro m2 E W i7 ⟨c6, a3, R, c7, a4, d1, d2, f8, ⟨q, eN⟩, d4, d, e0, e1, g0, f2, f3, T⟩
     obtain ⟨b3, o0, k8, k7, k9⟩ := iB i7
     rw [k8] at T
     refine bg (VQ (jL (enc := gv) (i := (m2 : Int)) (x0 := b3) aj ae g0 q (e9.vd ic) (ay _) k7) (fun p9 j6 => V (gA rfl (lI (my.hp _) (j6.mono (qg (fun b o p => d.has.2 b o (Mt (Mt (Ma (Ma (Ml (j9 b o p))))))))) aN ae)) (VE (iZ d aT (fun p2 p6 d => VO (ib (.agg (gv b3).toArray) ((gv b3).toArray) d rfl rfl ae (jF b3) nb rfl (fun p3 d => ln (gJ (Wh e0 (VA d Mh (gv b3) aN ae (V (gA e1 (gK d.has (Mt (Mt Mh)) (gL B) rfl fM cD)) (bS T fun g2 j8 T => ?_))))))))))))
     refine VE (eM d (Cb (Pb Pz) (Cr (Qb (Qb Qz)) (Cr (Qb (Qb Qz)) (Cr (Qb (Qb Qz)) (Cr (Qb (Qb Qz)) (Cr (Qb (Qb Qz)) Cn)))))) call210 (fun hh _ => (qK I a c6 a3 c Q j u N y g H t R c7 a4 d1 b3 B _ _ hh f2 c0 c2.e c1 f3 j8)) ?_)
     rintro _ q2 n3 o3 d i1 ad A ⟨l8, n1, l9, f5, rfl, l2, l3⟩
     obtain rfl := f5.symm
     replace d := d.perm (Tb (Tr (Tr (Tr (Tr (Tr Tn))))))
     refine gT (im (gI ?_))
     replace d := d.gy (Kb (Kr (Kr (Kr (Kr (Kr (Db St)))))))
     exact ⟨q, g2.1, l8, n1, g2.2.1, l9, g2.2.2, n3, _, ⟨rfl, eN⟩, (d4.trans i1), (d.gy (Kb (Sb (Pr (Pr (Pr (Pr (Pr Pz))))) St))), e0, e1, g0, l2, l3, (by rw [k9]; exact T)⟩
    rintro E W ⟨c6, a3, R, c7, a4, d1, d2, f8, ⟨q, eN⟩, d4, d, e0, e1, g0, f2, f3, T⟩
    rw [aI] at T
    refine gI ?_
    obtain rfl := sj T
    exact ⟨a3, R, a4, d2, _, d4, (d.gy St), e0, e1, f2, f3⟩
   rintro ⟨m3, m4, m8⟩ E W ⟨d5, e4, d6, b5, h3, h8, d, h5, h6, k0, k1⟩ i8
   refine gO ?_
   replace d := d.drew
   have l := d.has.gy (Kb (Kb (Dr (Dr (Dr (Kr Sn))))))
   refine iI l ij (X 0 rfl l (gF h5) (X 1 rfl l (jj rfl) (X 2 rfl l (gE xv rfl) (XH 3 rfl l (fun _ n => gA rfl (gN n Mh rfl isAgg172)) (X 4 rfl l (gE sn h6) (X 5 rfl l (gE ov rfl) (XH 6 rfl l (fun _ n => gA rfl (gN n (Mt Mh) rfl aF)) ?_)))))))
   obtain ⟨l5, e8⟩ := c1
   obtain ⟨o5, f0, k2⟩ := iX.rowAt iy.1 e8 B.gr.hX
   refine XH 7 rfl l (fun _ n => kU (k := B.gr.hX) (z := (.slice none 0 0)) xQ underlying172 gn rfl rfl e8 (fun b o p => n.2 b o (Mt (Mt (Ml p))))) (X 8 rfl l (lB aj rfl (f0.vd ic)) (X 9 rfl l (gF rfl) (iU kr (gI (ou (CJ i8 (fun c8 E W => ∃ d7 e5 d8 e6 h4, gZ b5 e6 ∧ ST false (keys i2) w W e6 ((I, Ob #[a, c, u, g, e5, (.int .i64 c8.2.2)] 174) :: (d7 ++ (j ++ (y ++ (t ++ (d8 ++ h4)))))) ∧ E 0 = i3 ∧ iz (fun (x : gr) => (.agg (gw x).toArray)) (gW Value.string (fun (x : Bool) => (Value.bool x))) a c8.1 d7 ∧ kY 38 gL 3 e5 c8.2.1 d8) (fun c8 j0 => ?_) ?_))))))
   ·refine iL (fun i E W => ∃ a9 Y a2 P Z b2 b6 f7, (E 53 = .int .i64 (i : Nat) ∧ E 52 = .int .i64 (j2.length : Nat)) ∧ gZ b5 b6 ∧ ST false (keys i2) w W b6 ((I, Ob #[a, c, u, g, a2, (.int .i64 b2)] 174) :: ((a5, Obj.cells n4 38 (0, 0)) :: (Y ++ (j ++ (y ++ (t ++ (Z ++ f7))))))) ∧ E 0 = i3 ∧ E 2 = n5 ∧ E 51 = (lP gX l5 B.gr.hX (.slice none 0 0)) ∧ iz (fun (x : gr) => (.agg (gw x).toArray)) (gW Value.string (fun (x : Bool) => (Value.bool x))) a a9 Y ∧ kY 38 gL 3 a2 P Z ∧ jG B Q N H (j2.drop i) a9 P b2 = some c8) j2.length (f0.vd ic).len ⟨m3, d5, e4, m4, d6, m8, b5, _, ⟨rfl, rfl⟩, (gZ.refl _), (d.gy St), h5, h6, rfl, k0, k1, j0⟩ dc dc dc (fun _ _ _ h => by obtain ⟨_, _, _, _, _, _, _, _, s, _⟩ := h; exact s) ?_ ?_
    ·rintro m1 E W i6 ⟨a9, Y, a2, P, Z, b2, b6, f7, ⟨q, eN⟩, a8, d, O, b9, d9, f1, c5, J⟩
     obtain ⟨U, n9, k6, k5, g9⟩ := iB i6
     rw [k6] at J
     refine bg (VQ (jL (enc := gv) (i := (m1 : Int)) (x0 := U) aj ae d9 q (f0.vd ic) (ay _) k5) (fun p8 j5 => V (gA rfl (lI (my.hp _) (j5.mono (qg (fun b o p => d.has.2 b o (Mt (Mt (Ma (Ma (Ma (Ml (k2 b o p)))))))))) aN ae)) (VE (iZ d aT (fun o9 p5 d => VO (ib (.agg (gv U).toArray) ((gv U).toArray) d rfl rfl ae (jF U) nb rfl (fun p0 d => ln (gO ?_))))))))
     replace d := d.drew
     have l := d.has.gy (Kb (Kb (Kb (Kr Sn))))
     refine iI l ij (X 0 rfl l (gF O) (X 1 rfl l (jj rfl) (X 2 rfl l (gE qj rfl) (XH 3 rfl l (fun _ n => gA rfl (gN n (Mt Mh) rfl fk)) (X 4 rfl l (gE iM rfl) (XH 5 rfl l (fun _ n => gA rfl (gK n Mh (gw U.B) rfl au ag)) ?_))))))
     obtain ⟨n7, c3⟩ := f1
     refine XH 6 rfl l (fun _ n => kU (k := U.B) (z := (.map none)) nZ di dJ rfl rfl c3 (fun b o p => n.2 b o (Mt (Mt (Mt (Ml p)))))) (X 7 rfl l (gE sn b9) (X 8 rfl l (gE jY rfl) (XH 9 rfl l (fun _ n => gA rfl (gN n (Mt (Mt Mh)) rfl aF)) (XH 10 rfl l (fun _ n => oz (k := B.gr.gG) (z := false) (vf := (fun (x : Bool) => (Value.bool x))) xQ dS zeroValue4 rfl rfl (iX.vl (μ := hp _) gC.1 c3 U.B (fun b o p => n.2 b o (Mt (Mt (Mt (Ml p))))))) (iU kr (gI (CI J rfl (fun i5 J => ?_) (fun i5 J => ?_))))))))
     ·refine gJ (Wh O (Wf jT (VA d Mh (gw U.Head) au ag (V (gE qE b9) (VB d (Mt (Mt Mh)) rfl rfl aF (bS J fun g1 j7 J => ?_))))))
      refine VE (eM d (Cb (Pb Pz) (Cr (Qb (Qb Qz)) (Cr (Qb (Qb Qz)) (Cr (Qb (Qb Qz)) (Cr (Qb (Qb Qz)) (Cr (Qb (Qb Qz)) Cn)))))) call209 (fun hh _ => ie.ki (lG I a a9 Y c Q j u N y g H t a2 P Z b2 U.Head B.gU _ _ hh c3.e c0 c2.e e8.e c5 j7)) ?_)
      rintro _ q1 n2 o2 d i0 ab A ⟨l6, n0, l7, f4, rfl, l0, l1⟩
      obtain rfl := f4.symm
      replace d := d.perm (Tb (Tr (Tr (Tr (Tr (Tr Tn))))))
      refine gT (im (gI ?_))
      replace d := d.gy (Kb (Kr (Kr (Kr (Kr (Kr (Db St)))))))
      exact ⟨q, g1.1, l6, n0, g1.2.1, l7, g1.2.2, n2, _, ⟨rfl, eN⟩, (a8.trans i0), (d.gy (Kb (Sb (Pr (Pr (Pr (Pr (Pr Pz))))) St))), O, b9, d9, l0, l1, (by rw [g9]; exact J)⟩
     refine iv (im (gI ?_))
     replace d := d.gy (Db St)
     exact ⟨q, a9, Y, a2, P, Z, b2, b6, _, ⟨rfl, eN⟩, a8, (d.gy St), O, b9, d9, c3.e, c5, (by rw [g9]; exact J)⟩
    rintro E W ⟨a9, Y, a2, P, Z, b2, b6, f7, ⟨q, eN⟩, a8, d, O, b9, d9, f1, c5, J⟩
    rw [aI] at J
    refine gI ?_
    obtain rfl := sj J
    exact ⟨Y, a2, Z, b6, _, a8, (d.gy (Kb (Db St))), O, f1, c5⟩
   rintro ⟨m5, m6, m9⟩ E W ⟨d7, e5, d8, e6, h4, h9, d, m0, k3, k4⟩ i9
   exact im (gI ⟨m7, bl _, m5, d7, e5, m6, d8, m9, e6, _, ((h7.trans h8).trans h9), (d.gy St), m0, k3, k4, i9⟩)
  refine ot (ns (ns (sb (gI (oS ?_)))))
  obtain rfl := sj M
  exact nj rfl ⟨_, _, rfl, (d.nL (Kb (Kr (Kr (Kr (Kr (Kr Sn))))))), b7, e3, b8, rfl, rfl, g6, c4⟩
theorem uz (H : Nat) (g : Value) (c1 : List (gr × (List (ByteArray × Bool)))) (G : LO) (u : Value) (a7 : List gu) (k : LO) (c : Value) (b7 : List (gr × (List gu))) (z : LO) (a : Value) (a8 : List (ByteArray × (List gu))) (t : LO) (B : Value) (b6 : List gx) (y : LO) (K : Int) (d0 : Value) (p : List gu) (r : (Int × (List (gr × (List (ByteArray × Bool)))) × (List gu) × (List (gr × (List gu))) × (List (ByteArray × (List gu))) × (List gx) × Int)) (w : World) {μ0 : gS} (h0 : pb μ0 ((H, Ob #[g, u, c, a, B, (.int .i64 K)] 174) :: (G ++ (k ++ (z ++ (t ++ (y ++ [])))))) w) (d5 : iz (fun (x : gr) => (.agg (gw x).toArray)) (gW Value.string (fun (x : Bool) => (Value.bool x))) g c1 G) (c5 : gM 108 gv 9 u a7 k) (d2 : iz (fun (x : gr) => (.agg (gw x).toArray)) (gM 108 gv 9) c b7 z) (c6 : iz Value.string (gM 108 gv 9) a a8 t) (d1 : kY 38 gL 3 B b6 y) (d6 : Sl (Pl gv) 9 μ0 d0 p) (hm : np c1 a7 b7 a8 b6 K p = some r) :
  ie false pg0 109 [(.pointer (some ⟨H, 0, none⟩)), d0] w ((H, Ob #[g, u, c, a, B, (.int .i64 K)] 174) :: (G ++ (k ++ (z ++ (t ++ (y ++ [])))))) (fun v L1 W' => ∃ S1 y3 S4 S6 S8 h8 h7, v = (.int .i64 (r.1)) ∧ L1 = ((H, Ob #[g, y3, c, a, h8, (.int .i64 (r.2.2.2.2.2.2))] 174) :: (S1 ++ (S4 ++ (S6 ++ (S8 ++ (h7 ++ [])))))) ∧ iz (fun (x : gr) => (.agg (gw x).toArray)) (gW Value.string (fun (x : Bool) => (Value.bool x))) g r.2.1 S1 ∧ gM 108 gv 9 y3 r.2.2.1 S4 ∧ iz (fun (x : gr) => (.agg (gw x).toArray)) (gM 108 gv 9) c r.2.2.2.1 S6 ∧ iz Value.string (gM 108 gv 9) a r.2.2.2.2.1 S8 ∧ kY 38 gL 3 h8 r.2.2.2.2.2.1 h7) := by
 let e2 := ((H, Ob #[g, u, c, a, B, (.int .i64 K)] 174) :: (G ++ (k ++ (z ++ (t ++ (y ++ []))))))
 refine sA h0 46 func109 rfl (fun d => sg (Wa (lS (Wm (V (qF underlying101 rfl rfl) (ln (ml rfl (iv ?_))))))))
 refine gI (sg (Wm (Wn (Wf vq (VB d Mh rfl rfl bI (Wa (lS (Wm (V (lB aj rfl d6) ?_)))))))))
 refine Wm (ln (iL (fun i E W => ∃ a3 N M a4 Q a9 T n U a0 a5 Y a2 L d4, (E 16 = .int .i64 (i : Nat) ∧ E 15 = .int .i64 (p.length : Nat)) ∧ gZ μ0 L ∧ ST false (keys e2) w W L ((H, Ob #[g, M, c, a, a0, (.int .i64 a2)] 174) :: (N ++ (Q ++ (T ++ (U ++ (Y ++ d4)))))) ∧ E 0 = (.pointer (some ⟨H, 0, none⟩)) ∧ E 5 = (.int .i64 K) ∧ E 14 = d0 ∧ iz (fun (x : gr) => (.agg (gw x).toArray)) (gW Value.string (fun (x : Bool) => (Value.bool x))) g a3 N ∧ gM 108 gv 9 M a4 Q ∧ iz (fun (x : gr) => (.agg (gw x).toArray)) (gM 108 gv 9) c a9 T ∧ iz Value.string (gM 108 gv 9) a n U ∧ kY 38 gL 3 a0 a5 Y ∧ jE K (p.drop i) a3 a4 a9 n a5 a2 = some r) p.length d6.len ⟨c1, G, u, a7, k, b7, z, a8, t, B, b6, y, K, μ0, _, ⟨rfl, rfl⟩, (gZ.refl _), (d.gy St), rfl, rfl, rfl, d5, c5, d2, c6, d1, hm⟩ dc dc dc (fun _ _ _ h => by obtain ⟨_, _, _, _, _, _, _, _, _, _, _, _, _, _, _, ab, _⟩ := h; exact ab) ?_ ?_))
 ·rintro f5 E W g2 ⟨a3, N, M, a4, Q, a9, T, n, U, a0, a5, Y, a2, L, d4, ⟨eI, eN⟩, b1, d, s, c2, c3, O, q, P, R, b5, D⟩
  obtain ⟨I, j6, h1, g9, d8⟩ := iB g2
  rw [h1] at D
  refine bg (VQ (jL (enc := gv) (i := (f5 : Int)) (x0 := I) aj ae c3 eI (d6.mono (Pl.mono _) b1) (ay _) g9) (fun k9 g3 => V (gA rfl (lI d.has g3 aN ae)) (VE (iZ d aT (fun k1 e7 d => VO (ib (.agg (gv I).toArray) ((gv I).toArray) d rfl rfl ae (jF I) nb rfl (fun k2 d => ln (gO ?_))))))))
  replace d := d.drew
  have l := d.has.gy (Kb (Kb Sn))
  refine iI l ij (XH 0 rfl l (fun _ hS => gA rfl (gK hS Mh (gv I) rfl aN ae)) (bS D fun l0 g4 D => XE 1 rfl (Eg d call115 (iA.ki (pr I _ _  g4)) (fun k3 d => ?_))))
  have l := d.has.gy (Kb (Kb Sn))
  refine ⟨l, (X 2 rfl l (gF rfl) (PJ D (fun f6 E W => ∃ e3, ST false (keys e2) w W L ((e7, Ol (gv I) 108) :: ((H, Ob #[g, M, c, a, a0, (.int .i64 a2)] 174) :: (N ++ (Q ++ (T ++ (U ++ (Y ++ e3))))))) ∧ E 0 = (.pointer (some ⟨H, 0, none⟩)) ∧ E 5 = (.int .i64 K) ∧ E 7 = (.pointer (some ⟨e7, 0, none⟩)) ∧ E 14 = d0 ∧ E 15 = (.int .i64 (p.length : Int)) ∧ E 16 = (.int .i64 (f5 : Int)) ∧ E 30 = (.bool f6)) (bm 11 2047) 0 ?_ (fun f6 Z d3 => ?_)))⟩
  ·rintro l5 E W ⟨e3, d, c4, e8, e9, f0, f1, f2, i3⟩ J
   refine iU kr (gI (CI J i3 (fun g1 J => ?_) (fun g1 J => ?_)))
   ·refine sg (Wh c4 (V (gA e9 (gK d.has Mh (gv I) rfl aN ae)) (bS J fun A g5 J => ?_)))
    refine VE (eM d (Cb (Pb Pz) (Cr (Qb Qz) (Cr (Qb Qz) (Cr (Qb Qz) (Cr (Qb Qz) (Cr (Qb Qz) Cn)))))) call171 (fun hh _ => ie.ki (uh H g a3 N M a4 Q c a9 T a n U a0 a5 Y a2 I _ _ hh O q P R b5 g5)) ?_)
    rintro _ l2 l6 j8 d f3 ad m ⟨f7, e4, e5, e6, c7, rfl, d9, e0, e1⟩
    obtain rfl := c7.symm
    replace d := d.perm (Tb (Tr (Tr (Tr (Tr (Tr Tn))))))
    refine ln (gJ (Wh c4 (V (gA e9 (gK d.has (Mt (Ma (Ma (Ma (Ma (Ma Mh)))))) (gv I) rfl aN ae)) (bS J fun d7 g6 J => ?_))))
    refine VE (eM d (Cb Pz (Cr Qz (Cr Qz (Cr Qz (Cr Qz (Cr Qz Cn)))))) call172 (fun hh _ => (tw H g a3 N f7 A.1 e4 c A.2.1 e5 a A.2.2 e6 a0 a5 Y a2 I _ _ hh O d9 e0 e1 b5 g6)) ?_)
    rintro _ l3 i7 j9 d f4 af m ⟨h9, i5, i0, c8, rfl, h2, h3⟩
    obtain rfl := c8.symm
    replace d := d.perm (Tb (Tr (Tr (Tr (Tr (Tr Tn))))))
    refine gT (im (gI ?_))
    replace d := d.gy (Kb (Kr (Kr (Kr (Kr (Kr (Db St)))))))
    exact ⟨f2, d7.1, h9, f7, A.1, e4, A.2.1, e5, A.2.2, e6, i5, d7.2.1, i0, d7.2.2, i7, _, ⟨rfl, f1⟩, ((b1.trans f3).trans f4), (d.gy St), c4, e8, f0, h2, d9, e0, e1, h3, (by rw [d8]; exact J)⟩
   refine iv (im (gI ?_))
   replace d := d.gy (Db St)
   exact ⟨f2, a3, N, M, a4, Q, a9, T, n, U, a0, a5, Y, a2, L, _, ⟨rfl, f1⟩, b1, (d.gy St), c4, e8, f0, O, q, P, R, b5, (by rw [d8]; exact J)⟩
  refine bC Z (fun j Z => ?_) (fun j Z => ?_)
  ·refine Xg 3 rfl rfl (cB j) l (gF s) (Xg 4 rfl rfl (cB j) l (jj rfl) (Xg 5 rfl rfl (cB j) l (gE xB rfl) (pJ 6 rfl rfl (cB j) l (fun _ hS => gA rfl (gN hS (Mt Mh) rfl isAgg22)) (pJ 7 rfl rfl (cB j) l (fun _ hS => gA rfl (gK hS Mh (gv I) rfl aN ae)) (bS Z fun l1 g7 Z => xT 8 rfl rfl (cB j) (Eg d call151 (iA.ki (Bd M a4 I _ _ (q.sl ic (fun b o hq => d.at_ (Mt (Mt (Ma (Ml hq)))))) g7)) (fun k6 d => ?_)))))))
   have l := d.has.gy (Kb (Kb Sn))
   refine ⟨l, (Xg 9 rfl rfl (cB j) l (nY rfl) (X 10 rfl l (gQ (cB j) rfl) ?_))⟩
   obtain rfl := sj Z
   refine jv kr (d3 _ _ ⟨_, (d.gy St), s, c2, rfl, c3, eN, eI, rfl⟩)
  refine Xn 3 rfl rfl (cB j) l (Xn 4 rfl rfl (cB j) l (Xn 5 rfl rfl (cB j) l (Xn 6 rfl rfl (cB j) l (Xn 7 rfl rfl (cB j) l (Xn 8 rfl rfl (cB j) l (Xn 9 rfl rfl (cB j) l (X 10 rfl l (gP (cB j) rfl) ?_)))))))
  obtain rfl := sj Z
  refine jv kr (d3 _ _ ⟨_, (d.gy St), s, c2, rfl, c3, eN, eI, rfl⟩)
 rintro E W ⟨a3, N, M, a4, Q, a9, T, n, U, a0, a5, Y, a2, L, d4, ⟨eI, eN⟩, b1, d, s, c2, c3, O, q, P, R, b5, D⟩
 rw [aI] at D
 refine gI (sg (Wh s (bS D fun i4 g8 D => ?_)))
 refine VE (eM d (Cb Pz (Cr Qz (Cr Qz (Cr Qz (Cr Qz (Cr Qz Cn)))))) call173 (fun hh _ => (tf H g a3 N M a4 Q c a9 T a n U a0 a5 Y a2 _ _ hh O q P R b5 g8)) ?_)
 rintro _ l4 l7 k0 d j4 ao m ⟨i1, i6, i2, c9, rfl, h4, h5⟩
 obtain rfl := c9.symm
 replace d := d.perm (Tb (Tr (Tr (Tr (Tr (Tr Tn))))))
 refine lr (Wh s (Wn (Wf vq (VB d Mh rfl rfl bI (Wh c2 (Wi rfl (Wa (lt ?_))))))))
 obtain rfl := sj D
 exact iC (v := (.int .i64 (wi0 .i64 (i4.2.2 - K)))) rfl rfl ⟨_, _, rfl, (d.nL (Kb (Kr (Kr (Kr (Kr (Kr Sn))))))), i1, M, Q, T, U, i6, i2, rfl, rfl, h4, q, P, R, h5⟩
theorem Bh (j : Value) (H : List gu) (r : ((List (gr × (List (ByteArray × Bool)))) × (List gu) × (List (gr × (List gu))) × (List (ByteArray × (List gu))) × (List gx) × Int)) (w : World) (J : Sl (Pl gv) 9 (hp w) j H) (hm : rL H = some r) :
  ie false pg0 47 [j] w [] (fun v L1 W' => ∃ l n S3 o S6 p S9 D u G y, v = (.pointer (some ⟨l, 0, none⟩)) ∧ L1 = ((l, Ob #[n, o, p, D, G, (.int .i64 (r.2.2.2.2.2))] 174) :: (S3 ++ (S6 ++ (S9 ++ (u ++ (y ++ [])))))) ∧ iz (fun (x : gr) => (.agg (gw x).toArray)) (gW Value.string (fun (x : Bool) => (Value.bool x))) n r.1 S3 ∧ gM 108 gv 9 o r.2.1 S6 ∧ iz (fun (x : gr) => (.agg (gw x).toArray)) (gM 108 gv 9) p r.2.2.1 S9 ∧ iz Value.string (gM 108 gv 9) D r.2.2.2.1 u ∧ kY 38 gL 3 G r.2.2.2.2.1 y) := by
 refine qH 13 func47 rfl (fun b => sg (Wa (lr (VE (tR (P := pg0) (fun (x : gr) => (.agg (gw x).toArray)) (gW Value.string (fun (x : Bool) => (Value.bool x))) b (fun W1 v4 R2 b z => VE (tR (P := pg0) (fun (x : gr) => (.agg (gw x).toArray)) (gM 108 gv 9) b (fun W5 v8 R6 b B => VE (tR (P := pg0) Value.string (gM 108 gv 9) b (fun W9 O Y b t => ?_))))))))))
 obtain ⟨a, rfl⟩ := z.form
 obtain ⟨c, rfl⟩ := B.form
 obtain ⟨g, rfl⟩ := t.form
 refine V (kO (v := (.agg #[(.map (some a)), (.slice none 0 0), (.map (some c)), (.map (some g)), (.slice none 0 0), (.int .i64 0)])) (zL rfl rfl rfl) (jH zeroValue174 cR (Fg _ cR) kr)) (VE (iO b rfl (fun L k b => Wa (lr (Wm (Wm (bS hm fun c2 K hm => ?_)))))))
 refine VE (eM b (Cb Pz (Cr (Qr (Qr Qz)) (C0 (Cr (Qr Qz) (Cr Qz (C0 Cn)))))) call109 (fun A h => (uz k (.map (some a)) ([]) R2 (.slice none 0 0) ([]) [] (.map (some c)) ([]) R6 (.map (some g)) ([]) Y (.slice none 0 0) ([]) [] 0 j H _ _ A z (gM.nil _ _ _) B t (kY.nil _ _ _) (J.mono (Pl.mono _) h) K)) ?_)
 rintro _ R W I b E m d ⟨Z, q, a2, a3, a4, s, a5, i, rfl, M, N, Q, T, U⟩
 obtain rfl := i.symm
 replace b := b.perm (Tb (Tr (Tr (Tr (Tr (Tr Tn))))))
 refine lr (Wm (Wa (lt ?_)))
 obtain rfl := sj hm
 exact iC (v := (.pointer (some ⟨k, 0, none⟩))) rfl rfl ⟨_, _, rfl, (b.yh (Kb (Kr (Kr (Kr (Kr (Kr Sn))))))), k, (.map (some a)), Z, q, a2, (.map (some c)), a3, (.map (some g)), a4, s, a5, rfl, rfl, M, N, Q, T, U⟩
theorem mZ (a : Value) (g : List (gr × gD)) (r : Unit) (w : World) (c : kL (fun (x : gr) => (.agg (gw x).toArray)) (fun (x : gD) => (Value.agg (gH x).toArray)) (hp w) a g) (hm : jo g = some r) :
  ie true pg0 55 [a] w [] (fun v k W' => ∃ i, v = (.func (.func 123) #[] #[(.pointer (some ⟨i, 0, none⟩))]) ∧ k = ((i, Ob #[a] 110) :: [])) := by
 refine qH 4 func55 rfl (fun b => sg ?_)
 obtain ⟨t, rfl⟩ := c.form
 refine VE (iO b rfl (fun u j b => Wa (lr (V (qY (by exact tZ rfl) rfl) (Wa (lt ?_))))))
 obtain rfl := sj hm
 exact iC (v := (.func (.func 123) #[] #[(.pointer (some ⟨j, 0, none⟩))])) rfl rfl ⟨_, _, rfl, (b.yh (Kb Sn)), j, rfl, rfl⟩
theorem A0 (c : Value) (k : List gD) (a : LO) (g : Value) (t : (gD × gD) → Option Int) (r : List gD) (w : World) {y : gS} (u : pb y (a ++ []) w) (i : gM 30 gH 5 c k a) (j : wU pg0 g y (fun (x : (gD × gD)) => [(.agg (gH x.1).toArray), (.agg (gH x.2).toArray)]) (fun (r : Int) => (.int .i64 r)) t) (hm : qx t k = some r) :
  ie true pg0 122 [c, g] w (a ++ []) (fun v z W' => ∃ S, v = (.tuple #[]) ∧ z = (S ++ []) ∧ gM 30 gH 5 c r S) := vR (P := pg0) (ρ := B4) EX 5 ef bJ gH pu lN u.H u.S i j hm
theorem uR (a c : gD) (r : Int) (w : World) (hm : iR a c = some r) :
  iA true pg0 56 [(.agg (gH a).toArray), (.agg (gH c).toArray)] w (.int .i64 r) := by
 refine cG 10 func56 rfl (fun b => sg (VE (iO b rfl (fun i t b => VE (iO b rfl (fun j u b => Wa (lr (Wf tu (VA b (Mt Mh) (gw a.gr) au ag (Wf tu (VA b Mh (gw c.gr) au ag (bS hm fun x g hm => ?_))))))))))))
 refine VE (Eg b call57 (tk a.gr c.gr _ _  g) (fun k b => Wa (ln ?_)))
 exact iq (rQ hm b)
theorem Ch {σ κ : Type} {t : κ → Value} (b : Nat) (mv yv : Value) (l : List (κ × gD)) (i : σ → List (Nat × Obj) → Prop) (fs : σ → gD → Option (Bool × σ)) (u : σ) (g : List (Nat × Obj)) (w : World) {a : gS} (N : pb a g w) (T : a b = some (.cells #[mv] 110 (0, 0))) (hm : kL t (fun x => Value.agg (gH x).toArray) a mv l) (hy : wA pg0 yv a i (fun x => [.agg (gH x).toArray]) (fun b => .bool b) fs) (Z : i u g) (G : ∀ o, o.Perm (l.map (·.2)) → ∃ A, qS fs u o = some A) :
  ie false pg0 123 [yv, .pointer (some ⟨b, 0, none⟩)] w g (fun v R' _ => v = .tuple #[] ∧ ∃ o A, o.Perm (l.map (·.2)) ∧ qS fs u o = some A ∧ i A R') := by
 have d : ST false (keys g) w w a g := ST.zz N
 refine cF 15 func123 rfl (gO (gJ (V (gA rfl (kI d.has (y := mv) ⟨b, 0, _, _, _, rfl, T, fun j y hj => by simpa using hj⟩ isAgg110)) (VE (DQ underlying110 d rfl hm (fun W K M d O => gT (gI (jl (mc (fun m E W => ∃ (μ : gS) (done : List gD) (s : σ) (R L : List (Nat × Obj)) (lf : List (κ × gD)) (Ri : List (Nat × Obj)), m = lf.length ∧ gZ a μ ∧ ST false (keys g) w W μ (R ++ (Ri ++ L)) ∧ E 0 = yv ∧ E 6 = K ∧ wB t (fun x => Value.agg (gH x).toArray) a K lf Ri ∧ i s R ∧ (∀ o, qS fs u (done ++ o) = qS fs s o) ∧ (done ++ lf.map (·.2)).Perm (l.map (·.2))) _ ⟨a, [], u, g, [], l, M, rfl, gZ.refl _, d.perm (by rw [aU]; exact cC), rfl, rfl, O, Z, fun o => rfl, .refl _⟩ ?_)))))))))
 rintro m E W ⟨μ, done, s, R, L, lf, Ri, rfl, hs, d, I, D, O, Z, n, hP⟩
 refine gO (gJ (VE (DV R d (fun b o T => d.mem b o (hs b o T)) O D (fun U => ?_) (fun W B p k z d hA => ?_))))
 ·subst U
  refine V (oB (v := .bool false) rfl rfl) (gT (gI (gO (ml rfl (ot (ns (ns (sb (CH (nj rfl ⟨_, R, rfl, ST.yB d, rfl, done, s, by simpa using hP, ?_, Z⟩))))))))))
  have := n []
  rwa [aU] at this
 ·refine V (oB (v := .bool true) rfl rfl) (gT (gI (gO (qk rfl (iv (gI (jl (gO (gJ (V (Cw (fun q hq => (d.box q.1 q.2 (aZ _ (aR _ hq))).1) (fun b o T => d.mem b o (hs b o T)) hA D) (V (oB (v := .agg (gH p.2).toArray) rfl rfl) (VE (iZ d cN (fun W H d => VO (vz [] (.agg (gH p.2).toArray) ((gH p.2).toArray) d rfl rfl bJ (lN p.2) nb rfl (fun W d => gT (gI (gO (gJ (V (gF I) (V (gA rfl (gK d.has (.head _) (gH p.2) rfl ef bJ)) ?_)))))))))))))))))))))
  have P : (done ++ p.2 :: k.map (·.2)).Perm (l.map (·.2)) := (aV done (z.map (fun q : κ × gD => q.2))).symm.trans hP
  have J : ∃ r, fs s p.2 = some r := by
   obtain ⟨A, Y⟩ := G _ P
   rw [n] at Y
   cases h : fs s p.2 with
   | none => simp [qS, h] at Y
   | some r => exact ⟨r, rfl⟩
  obtain ⟨r, hr⟩ := J
  refine VY (EW s p.2 (R := R) ((H, .cells (gH p.2).toArray 30 (0, 0)) :: (B ++ L)) d (by exact (cE (l₁ := R)).symm) hy hs Z rfl (by exact tZ rfl) hr (fun W μ' R' d hle _ Q => V (nY rfl) (gT (gI ?_))))
  obtain ⟨c, A⟩ := r
  cases c with
  | false =>
   refine qk rfl (iq (ko (iw (ko (nj rfl ⟨_, R', rfl, ST.yB d, rfl, done ++ p.2 :: k.map (·.2), A, P, ?_, Q⟩)))))
   rw [n]; simp only [qS, hr]
  | true =>
   refine ml rfl (iv (im (gI ⟨k.length, by simp [z.length_eq], μ', done ++ [p.2], A, R', (H, .cells (gH p.2).toArray 30 (0, 0)) :: L, k, B, rfl, hs.trans hle, d.perm (aV R' (cE (l₁ := B)).symm), I, D, hA.iter, Q, fun o => ?_, ?_⟩)))
   ·rw [ar, n]; simp only [ej, qS, hr]
   ·rw [ar]; exact P
theorem BD {κ : Type} {g : κ → Value} (b : Nat) (mv : Value) (l : List (κ × gD)) (w : World) (hb : hp w b = some (.cells #[mv] 110 (0, 0))) (hm : kL g (fun x => Value.agg (gH x).toArray) (hp w) mv l) (J : l.length * 56 ≤ 140737488355328) (K : l.length ≤ maxLen) :
  ie false pg0 184 [.slice none 0 0, .func (.func 123) #[] #[.pointer (some ⟨b, 0, none⟩)]] w [] (fun v R _ => ∃ o, o.Perm (l.map (·.2)) ∧ gM 30 gH 5 v o R) := by
 have h := ST.start (dd := false) w
 refine zy (n := 13) func184 rfl rfl nb (Au (gJ (VE (iO h rfl (fun W i h => V (jU rfl) (gT (gI (E5 (Au (gJ (V (gF rfl) (gT (gI (BQ (BM (caps := #[.pointer (some ⟨b, 0, none⟩)]) h rfl call123 (fun L d Lp W E h => ?_))))))))))))))))
 have hy : wA pg0 (.func (.yield L) #[] #[]) (hp w) (CE L Lp (fun (xs : List gD) R => ∃ v q, R = (i, .cells #[v] 25 (0, 0)) :: q ∧ gM 30 gH 5 v xs q) (fun (_ : Empty) _ => False)) (fun x => [.agg (gH x).toArray]) (fun b => .bool b) (vo (AP gD 56)) := by
  refine DW E (fun _ => rfl) (by decide) (fun W s x r u hs U hf h => ?_)
  obtain ⟨v, q, rfl, Z⟩ := U
  obtain ⟨xs, P, rfl⟩ := Option.map_eq_some_iff.1 hf
  generalize xR L = M
  refine gJ (VE (iZ h cN (fun k I h => VO (vz [] (.agg (gH x).toArray) ((gH x).toArray) h rfl rfl bJ (lN x) nb rfl (fun k h => gT ⟨rfl, _, _, gZ.refl _, h.perm (List.Perm.swap _ _ _), fun G h => jl (gJ (V (gA rfl (gN h.has (.tail _ (.tail _ (.head _))) rfl isAgg25)) (V (gA rfl (gK h.has (.tail _ (.head _)) (gH x) rfl ef bJ)) (VE (ig (qs := #[(0, .agg (gH x).toArray)]) (cs := (gH x).toArray) h (lk rfl) (vA [.agg (gH x).toArray] cI bJ cN (by decide) rfl (by intro v hv; simp only [ah, bU, dR] at hv; rcases hv with rfl <;> rfl) rfl rfl) (fun W t h => VE (wv (enc := gH) (v := v) (vs := (.slice (some ⟨t, 0, none⟩) 1 1)) (R := q) (Y := []) [_, _, _, _] (by rw [aU]; exact h) pu (by decide) lN cI wO.1 wO.2.1 rfl wO.2.2.1 wO.2.2.2 rfl rfl Z (Sl.lit (enc := gH) (l := [x]) pu rfl nb rfl (h.at_ (.head _))) P (fun W N j h a => ?_))))))))⟩)))))
  obtain ⟨A, c, rfl⟩ := a.form
  exact VO (vz [_, _, _] (.slice A xs.length c) #[.slice A xs.length c] h rfl rfl sizeOf25 (by simp [Value.cells, Value.oneCell']) (aJ 1) rfl (fun W h => gT (im ⟨rfl, _, _, _, h, Db (Kb (Db (Kb ⟨[], .refl _⟩))), _, j, rfl, a⟩)))
 have Q : ∀ {x y z : Nat × Obj}, ([x, y, z] : List (Nat × Obj)).Perm ([x, z] ++ [y]) := (List.Perm.swap _ _ _).cons _
 have a1 := Ch b mv (.func (.yield L) #[] #[]) l _ _ (.inl [] : List gD ⊕ Empty) [_, _] W ⟨h.held Q, h.Bk Q, h.Ba Q⟩ hb hm hy ⟨_, rfl, _, [], rfl, gM.nil _ _ _⟩ (fun o T => ⟨_, wJ (l := l.map (·.2)) (by rwa [bG]) (by rwa [bG]) o [] (by rw [bn]; exact Nat.le_of_eq T.length_eq)⟩)
 refine bf a1 ?_
 rintro e H ⟨v, R', rfl, hB, rfl, o, s', T, hi, U⟩
 rw [wJ (l := l.map (·.2)) (by rwa [bG]) (by rwa [bG]) o [] (by rw [bn]; exact Nat.le_of_eq T.length_eq)] at hi
 obtain rfl := gi hi
 obtain ⟨D, rfl, v, q, rfl, Z⟩ := U
 have p := (h.perm Q).back hB
 refine ⟨⟨_, rfl⟩, Lp, (p.box L _ (.head _)).1, by rw [E.st]; simp, .inl ⟨E.pe, ?_⟩⟩
 have m := ST.setBlock (A := []) p (.loop { Lp with state := .exhausted })
 refine im (gI ?_)
 generalize Cf [{ target := .collected d, args := #[] }] = M
 refine gO (gJ (V (gA rfl (gN m.has (.tail _ (.head _)) rfl isAgg25)) (V (jU rfl) (gT (gI (iq ?_))))))
 have O := ST.setBlock (A := (L, _) :: (i, _) :: q) (B := []) m (.deferred none)
 exact .inr ⟨d, rfl, (m.box d _ (.tail _ (.tail _ (aZ _ (.head _))))).1, iC rfl rfl ⟨_, q, rfl, O.yh (Db (Db ⟨[_], .refl _⟩)), o, T, Z⟩⟩
theorem BS {κ : Type} {a : κ → Value} (b : Nat) (h : Value) (l : List (κ × gD)) (w : World) (m : hp w b = some (.cells #[h] 110 (0, 0))) (hm : kL a (fun x => Value.agg (gH x).toArray) (hp w) h l) (g : l.length * 56 ≤ 140737488355328) (i : l.length ≤ maxLen) :
  ie false pg0 121 [.func (.func 123) #[] #[.pointer (some ⟨b, 0, none⟩)]] w [] (fun v R _ => ∃ o, o.Perm (l.map (·.2)) ∧ gM 30 gH 5 v o R) := by
 have d := ST.start (dd := false) w
 refine cF 5 func121 rfl (gO (gJ (V (jU rfl) (gT (gI (gO (gJ (V (gF rfl) (VE (vS d (.refl _) call184 (fun _ _ _ _ => BD b h l _ m hm g i) (fun W v μ c d hle _ _ j => ?_) (L0 := [])))))))))))
 obtain ⟨o, n, k⟩ := j
 exact V (jU rfl) (gT (gI (iq (iC rfl rfl ⟨_, c, rfl, d.yh ⟨[], .refl _⟩, o, n, k⟩))))
theorem Bg {κ : Type} {c : κ → Value} (b : Nat) (n g : Value) (a : gD × gD → Option Int) (l : List (κ × gD)) (r : List gD) (w : World) (q : hp w b = some (.cells #[n] 110 (0, 0))) (hm : kL c (fun x => Value.agg (gH x).toArray) (hp w) n l) (s : wU pg0 g (hp w) (fun (x : gD × gD) => [(.agg (gH x.1).toArray), (.agg (gH x.2).toArray)]) (fun (r : Int) => (.int .i64 r)) a) (E : vv 56 a l = some r) :
  iS false pg0 54 [.func (.func 123) #[] #[.pointer (some ⟨b, 0, none⟩)], g] w 30 gH 5 r := by
 obtain ⟨k, t, y⟩ := AQ E
 have d := ST.start (dd := false) w
 refine cF 12 func54 rfl (gO (gJ (V (jU rfl) (gT (gI (gO (gJ (V (gF rfl) (VE (vS d (.refl _) call121 (fun _ _ _ _ => BS b n l _ q hm k t) (fun W v μ i d hle _ _ h => ?_) (L0 := [])))))))))))
 obtain ⟨o, A, j⟩ := h
 refine V (jU rfl) (gT (gI (gO (gJ (V (gF rfl) (V (gF rfl) (VE (vS d (perm_nil _) call122 (fun hH p m _ => ie.ki (A0 v o i g a r W ⟨hH, p, m⟩ j (s.mono hle) (y o A))) (fun W u D B d z _ _ h => ?_) (L0 := (i ++ []))))))))))
 obtain ⟨S, rfl, rfl, j⟩ := h
 exact gT (gI (gO (gJ (V (gF rfl) (V (jU rfl) (gT (gI (iq (iC rfl rfl ⟨_, S, rfl, d.yh ⟨[], by simp⟩, j⟩)))))))))
theorem qp (R : Value) (a0 : List gu) (r : List gD) (w : World) (f5 : Sl (Pl gv) 9 (hp w) R a0) (hm : km a0 = some r) :
  iS false pg0 12 [R] w 30 gH 5 r := by
 refine qH 58 func12 rfl (fun d => sg (Wa (lr (Wm (bS hm fun r1 k6 hm => VE (nU d call51 (rN R a0 _ _ (f5.mono (Pl.mono _) d.iH) k6) (fun W3 v7 ba R8 d j6 aE e4 => Wm (bS hm fun y j7 hm => ?_))))))))
 refine VE (vS d (cK _) call47 (fun _ _ _ _ => (Bh R a0 _ _ (f5.mono (Pl.mono _) (j6.trans d.iH)) j7)) (fun o0 o2 j3 n9 d m8 av q j4 => ?_) (L0 := []))
 obtain ⟨K, c3, d2, c4, d3, c5, d4, c6, d5, c7, d6, c8, rfl, j8, j9, k0, k1, k2⟩ := j4
 replace c8 := c8.symm; subst c8
 replace d := d.perm (Tb (Tr (Tr (Tr (Tr (Tr Tn))))))
 refine Wa (Wa (lr (VE (rk (P := pg0) (fun (x : gr) => (.agg (gw x).toArray)) (fun (x : gD) => (Value.agg (gH x).toArray)) d (fun o1 Y k5 d j5 => Wa (lS (Wm (V (jf aj rfl e4) ?_))))))))
 refine Wm (ln (iL (fun i E W => ∃ u J O b3, (E 18 = .int .i64 (i : Nat) ∧ E 17 = .int .i64 (r1.length : Nat)) ∧ gZ j3 O ∧ ST false ia w W O ((K, Ob #[c3, c4, c5, c6, c7, (.int .i64 y.2.2.2.2.2)] 174) :: (J ++ (d2 ++ (d3 ++ (d4 ++ (d5 ++ (d6 ++ (R8 ++ b3)))))))) ∧ E 4 = (.pointer (some ⟨K, 0, none⟩)) ∧ E 5 = Y ∧ E 16 = v7 ∧ gW (fun (x : gr) => (.agg (gw x).toArray)) (fun (x : gD) => (Value.agg (gH x).toArray)) Y u J ∧ kv y (r1.drop i) u = some r) r1.length e4.len ⟨([]), k5, j3, _, ⟨rfl, rfl⟩, (gZ.refl _), (d.gy (Sb (Pr Pz) St)), rfl, rfl, rfl, j5, hm⟩ dc dc dc (fun _ _ _ h => by obtain ⟨_, _, _, _, n, _⟩ := h; exact n) ?_ ?_))
 ·let i9 : Value := (.pointer (some ⟨K, 0, none⟩))
  let h5 := (#[c3, c4, c5, c6, c7, (.int .i64 y.2.2.2.2.2)] : Array Value)
  rintro a6 E W f7 ⟨u, J, O, b3, ⟨m, s⟩, b2, d, d9, b5, b6, Q, g⟩
  obtain ⟨H, k7, g8, c1, g9⟩ := iB f7
  rw [g8] at g
  refine bg (VQ (iW (i := (a6 : Int)) (x0 := H) aj ae b6 m e4 (ay _) c1) (fun m9 g1 => V (gA rfl (kH d.has (fun p l => (Mt (Ma (Ma (Ma (Ma (Ma (Ma (Ml l))))))))) e4 ic g1 c1 aN ae)) (VE (iZ d aT (fun l1 m6 d => VO (ib (.agg (gv H).toArray) ((gv H).toArray) d rfl rfl ae (jF H) nb rfl (fun l2 d => lr (VA d Mh (gv H) aN ae (bS g fun L g3 g => VE (nU d call52 (iS.ki (vj H _ _  g3)) (fun l3 e7 b9 d1 d e8 ab N => V (jf bZ rfl N) ?_)))))))))))
  let j2 : Value := (.int .i64 (a6 : Int))
  let j1 : Value := (.int .i64 (r1.length : Int))
  refine Wm (ln ?_)
  replace d := d.gy (Kr (Db St))
  refine ou (CJ g (fun b7 E W => ∃ Z a9 c9, gZ b9 a9 ∧ ST false ia w W a9 ((K, Obj.cells h5 174 (0, 0)) :: (Z ++ (d2 ++ (d3 ++ (d4 ++ (d5 ++ (d6 ++ (R8 ++ c9)))))))) ∧ E 4 = i9 ∧ E 5 = Y ∧ E 16 = v7 ∧ E 17 = j1 ∧ E 18 = j2 ∧ gW (fun (x : gr) => (.agg (gw x).toArray)) (fun (x : gD) => (Value.agg (gH x).toArray)) Y b7 Z) (fun b7 g0 => ?_) ?_)
  ·refine iL (fun i E W => ∃ c D I b4, (E 25 = .int .i64 (i : Nat) ∧ E 24 = .int .i64 (L.length : Nat)) ∧ gZ b9 I ∧ ST false ia w W I ((K, Obj.cells h5 174 (0, 0)) :: (D ++ (d1 ++ (d2 ++ (d3 ++ (d4 ++ (d5 ++ (d6 ++ (R8 ++ b4))))))))) ∧ E 4 = i9 ∧ E 5 = Y ∧ E 16 = v7 ∧ E 17 = j1 ∧ E 18 = j2 ∧ E 23 = e7 ∧ gW (fun (x : gr) => (.agg (gw x).toArray)) (fun (x : gD) => (Value.agg (gH x).toArray)) Y c D ∧ jQ y (L.drop i) i c = some b7) L.length N.len ⟨u, J, b9, _, ⟨rfl, rfl⟩, (gZ.refl _), (d.gy (Sb (Pr Pz) (Sr (Qr Qz) St))), d9, b5, b6, s, m, rfl, Q, g0⟩ dc dc dc (fun _ _ _ h => by obtain ⟨_, _, _, _, n, _⟩ := h; exact n) ?_ ?_
   ·rintro e5 E W f8 ⟨c, D, I, b4, ⟨m, s⟩, U, d, A, M, a2, a3, a4, a5, T, t⟩
    obtain ⟨a, k8, h0, c2, h1⟩ := iB f8
    let f1 := (iP gB c a K8)
    rw [h0] at t
    refine bg (Wh m (VQ (iW (i := (e5 : Int)) (x0 := a) bZ ag a5 m N (ay _) c2) (fun n0 g2 => V (gA rfl (kH d.has (fun p l => (Mt (Ma (Ml l)))) N qf g2 c2 au ag)) (VE (iZ d cw (fun l4 d7 d => Wa (VO (ib (.agg (gw a).toArray) ((gw a).toArray) d rfl rfl ag (nx a) nb rfl (fun l5 d => lr (Wh M (VA d Mh (gw a) au ag ?_)))))))))))
    refine V (oz (k := a) (z := K8) (vf := (fun (x : gD) => (Value.agg (gH x).toArray))) nZ underlying110 cN rfl rfl (T.at (fun b o l => d.has.2 b o (Mt (Mt (Ml l)))))) (VE (iZ d cN (fun l6 d8 d => VO (ib (.agg (gH f1).toArray) ((gH f1).toArray) d rfl rfl bJ (lN f1) nb rfl (fun l7 d => lr (VA d (Mt Mh) (gw a) au ag (Wf tu (VO (ib (.agg (gw a).toArray) ((gH (⟨a, f1.lH, f1.kM, f1.pG⟩ : gD)).toArray) d rfl rfl ag (nx a) nb rfl (fun l8 d => ln (gO (CJ t (fun e6 E W => ∃ d0, ST false ia w W I ((d8, Ol (gH e6) 30) :: ((d7, Ol (gw a) 28) :: ((K, Obj.cells h5 174 (0, 0)) :: (D ++ (d1 ++ (d2 ++ (d3 ++ (d4 ++ (d5 ++ (d6 ++ (R8 ++ d0))))))))))) ∧ E 4 = i9 ∧ E 5 = Y ∧ E 9 = (.pointer (some ⟨d7, 0, none⟩)) ∧ E 10 = (.pointer (some ⟨d8, 0, none⟩)) ∧ E 16 = v7 ∧ E 17 = j1 ∧ E 18 = j2 ∧ E 23 = e7 ∧ E 24 = (.int .i64 (L.length : Int)) ∧ E 25 = (.int .i64 (e5 : Int))) (fun e6 B => ?_) ?_))))))))))))
    ·refine sg (Wm (Wi rfl (ln (CI B rfl (fun f6 B => ?_) (fun f6 B => ?_)))))
     ·refine gJ (Wf wP (VB d Mh rfl rfl bI (Wi rfl (Wf wP (VO (ib (.int .i64 (wi0 .i64 ((f1.lH) + 1))) ((gH (⟨a, (wi0 .i64 ((f1.lH) + 1)), f1.kM, f1.pG⟩ : gD)).toArray) d rfl rfl ey (vi _ (wi0 .i64 ((f1.lH) + 1))) nb rfl (fun m2 d => ln ?_)))))))
      obtain rfl := sj B
      exact ⟨_, (d.gy St), A, M, rfl, rfl, a2, a3, a4, a5, s, m⟩
     refine gJ (Wf u3 (VB d Mh rfl rfl bI (Wi rfl (Wf u3 (VO (ib (.int .i64 (wi0 .i64 ((f1.kM) + 1))) ((gH (⟨a, f1.lH, (wi0 .i64 ((f1.kM) + 1)), f1.pG⟩ : gD)).toArray) d rfl rfl ey (vi _ (wi0 .i64 ((f1.kM) + 1))) nb rfl (fun m3 d => ln ?_)))))))
     obtain rfl := sj B
     exact ⟨_, (d.gy St), A, M, rfl, rfl, a2, a3, a4, a5, s, m⟩
    rintro j E W ⟨d0, d, e0, e1, e2, e3, i1, i2, i3, i4, i5, i6⟩ b0
    refine sg (Wh e0 (V (gA e2 (gK d.has (Mt Mh) (gw a) rfl au ag)) (bS b0 fun G g4 b0 => VE (nU d call53 (og K c3 y.1 c4 y.2.1 c5 y.2.2.1 c6 y.2.2.2.1 c7 y.2.2.2.2.1 y.2.2.2.2.2 a _ _ (j8.at (fun b o l => d.at_ (Mt (Mt (Mt (Ma (Ma (Ml l)))))))) (j9.sl ic (fun b o l => d.at_ (Mt (Mt (Mt (Ma (Ma (Ma (Ml l))))))))) (k0.at (fun b o l => d.at_ (Mt (Mt (Mt (Ma (Ma (Ma (Ma (Ml l)))))))))) (k1.at (fun b o l => d.at_ (Mt (Mt (Mt (Ma (Ma (Ma (Ma (Ma (Ml l))))))))))) ((k2.vd lj).mono (Pl.mono _) (qg (fun b o l => d.at_ (Mt (Mt (Mt (Ma (Ma (Ma (Ma (Ma (Ma (Ml l))))))))))))) (At.of (d.at_ (Mt (Mt Mh))) _ rfl) g4) (fun l9 n3 j0 l0 d f0 ad f3 => V (jf aB rfl f3) (V (gE Ei e3) ?_))))))
    let h4 := (⟨j.gr, j.lH, j.kM, (G.length : Int)⟩ : gD)
    replace d := d.perm (Nb (Pr Pz) Nz)
    refine VO (ib (.int .i64 (G.length : Int)) ((gH h4).toArray) d rfl rfl ey (vi _ (G.length : Int)) nb rfl (fun m0 d => ln ?_))
    replace d := d.gy (Kb (Dr St))
    refine gJ (Wh e1 (V (gA e2 (gK d.has (Mt Mh) (gw a) rfl au ag)) (V (gA e3 (gK d.has Mh (gH h4) rfl ef bJ)) ?_)))
    replace d := d.perm (Nr (Qb (Qb (Qb Qz))) Nz)
    refine VO (vK (k := a) (v := h4) (vf := (fun (x : gD) => (Value.agg (gH x).toArray)))  nZ underlying110 d T rfl rfl rfl (fun m1 h2 d f4 => gT (im (gI ?_))))
    replace d := d.gy (Kr (Db (Db St)))
    exact ⟨i6, (iN gB c a h4), h2, j0, _, ⟨rfl, i5⟩, (U.trans f0), (d.gy (Sb (Pr Pz) St)), e0, e1, i1, i2, i3, i4, f4, (by rw [h1]; exact b0)⟩
   rintro E W ⟨c, D, I, b4, ⟨m, s⟩, U, d, A, M, a2, a3, a4, a5, T, t⟩
   rw [aI] at t
   refine gI ?_
   obtain rfl := sj t
   exact ⟨D, I, _, U, (d.gy (Kb (Kr (Dr St)))), A, M, a2, a3, a4, T⟩
  rintro i7 E W ⟨Z, a9, c9, e9, d, h6, h7, h8, h9, i0, g7⟩ f9
  exact im (gI ⟨i0, i7, Z, a9, _, ⟨rfl, h9⟩, ((b2.trans e8).trans e9), (d.gy St), h6, h7, h8, g7, (by rw [g9]; exact f9)⟩)
 rintro E W ⟨u, J, O, b3, ⟨m, s⟩, b2, d, d9, b5, b6, Q, g⟩
 rw [aI] at g
 refine gI ?_
 replace d := d.gy (Db (Kr (Dr (Dr (Dr (Dr (Dr (Dr St))))))))
 refine sg (Wh b5 (bS g fun n1 g5 g => ?_))
 refine VE (vS d (cK _) call55 (fun _ _ _ _ => ie.ki (mZ Y u _ _ (Q.at (fun b o l => d.at_ (Ml l))) g5)) (fun m4 n4 n5 k9 d k3 af q f2 => ?_) (L0 := []))
 obtain ⟨m7, b1, rfl⟩ := f2
 replace b1 := b1.symm; subst b1
 replace d := d.perm (Tb Tn)
 refine bS g fun n2 g6 g => VE (nU d call54 (Bg _ _ (.func (.func 56) #[] #[]) (fun (x : (gD × gD)) => iR x.1 x.2) u _ _ (d.has.2 _ _ Mh) (Q.at (fun b o l => d.has.2 b o (Mt (Ml l)))) ⟨56, #[], rfl, call56, fun W x r hs hm => uR x.1 x.2 r W  hm⟩ g6) (fun m5 i8 n6 h3 d k4 ao c0 => Wa (ln ?_)))
 replace d := d.gy (Kr (Db (Dr St)))
 refine iq ?_
 obtain rfl := sj g
 exact iC (v := i8) rfl rfl ⟨_, h3, rfl, d.kp (fun p l => (Ml l)) c0.nd, c0⟩
theorem vX (B : Value) (M : List gu) (r : (gD × Bool)) (w : World) (N : Sl (Pl gv) 9 (hp w) B M) (hm : oF M = some r) :
  iA false pg0 14 [B] w (.tuple #[(.agg (gH r.1).toArray), (.bool r.2)]) := by
 let a0 : Value := (.agg (gH K8).toArray)
 refine cG 32 func14 rfl (fun b => sg (VE (iZ b cN (fun W2 q b => Wa (lr (Wm (bS hm fun o a4 hm => VE (nU b call12 (qp B M _ _ (N.mono (Pl.mono _) b.iH) a4) (fun W5 v9 R c2 b b6 P t => Wa (ln ?_))))))))))
 refine gO (sg (Wm (V (jf cI rfl t) (Wi rfl (ln (CI hm rfl (fun Q hm => ?_) (fun Q hm => ?_)))))))
 ·refine sg (V (kO (v := a0) w9 (jH cN cz (EF _ cz) kr)) ?_)
  replace b := b.perm (Nb (Pr Pz) Nz)
  refine VO (ib a0 ((gH K8).toArray) b rfl rfl bJ (lN K8) nb rfl (fun c3 b => Wa (ln ?_)))
  replace b := b.gy (Kb (Dr St))
  refine iq (iw ?_)
  obtain rfl := sj hm
  exact Ay (v0 := a0) (v1 := (.bool false)) rfl rfl (gK b.has Mh (gH K8) rfl ef bJ) rfl ⟨rfl, b.ex⟩
 refine kg (Wm (bS hm fun x z hm => VQ (iW (i := 0) (x0 := x) cI bJ rfl rfl t (jk z) (iF z)) (fun c6 U => V (gA rfl (kH b.has (fun p n => (Ml n)) t pu U (iF z) ef bJ)) (VE (iZ b cN (fun c4 K b => VO (ib (.agg (gH x).toArray) ((gH x).toArray) b rfl rfl bJ (lN x) nb rfl (fun c5 b => lS ?_))))))))
 refine Wm ?_
 replace b := b.perm (Nr (Qb Qz) Nz)
 have b5 := t.B0 b (fun p n => (Ml n))
 obtain ⟨O, b, a8, s, Y⟩ := ST.wz b t pu
 refine bS hm fun _ G hm => VQ (tb (i := 1) cI bJ rfl rfl Y (pT G) (pP G)) (fun L y => V (lB cI rfl y.1) (Wm (ln (iL (fun i E W => ∃ c D, (E 20 = .int .i64 (i : Nat) ∧ E 19 = .int .i64 ((o.drop (Int.toNat 1)).length : Nat)) ∧ ST false ia w W O ((K, Ol (gH c) 30) :: ((q, Ol (gH K8) 30) :: D)) ∧ E 2 = (.pointer (some ⟨q, 0, none⟩)) ∧ E 5 = (.pointer (some ⟨K, 0, none⟩)) ∧ E 18 = L ∧ kN ((o.drop (Int.toNat 1)).drop i) c = some r) (o.drop (Int.toNat 1)).length y.1.len ⟨x, _, ⟨rfl, rfl⟩, (b.gy St), rfl, rfl, rfl, hm⟩ dc dc dc (fun _ _ _ h => by obtain ⟨_, _, l, _⟩ := h; exact l) ?_ ?_))))
 ·rintro a5 E W T ⟨c, D, ⟨d, m⟩, b, k, j, u, a⟩
  obtain ⟨g, c1, A, Z, H⟩ := iB T
  rw [A] at a
  refine bg (VQ (jL (enc := gH) (i := (a5 : Int)) (x0 := g) cI bJ u d y.1 (ay _) Z) (fun b7 J => V (gA rfl (lI b.has J ef bJ)) (VE (iZ b cN (fun a9 b4 b => VO (ib (.agg (gH g).toArray) ((gH g).toArray) b rfl rfl bJ (lN g) nb rfl (fun b0 b => lr (Wf u3 (VB b Mh rfl rfl bI (V (gE u3 j) (VB b (Mt Mh) rfl rfl bI ?_)))))))))))
  refine Wi rfl (ln (CI a rfl (fun I a => ?_) (fun I a => ?_)))
  ·refine gJ (VA b Mh (gH g) ef bJ ?_)
   replace b := b.perm (Nb (Pb Pz) Nz)
   refine VO (ib (.agg (gH g).toArray) ((gH g).toArray) b j rfl bJ (lN g) nb rfl (fun b2 b => gT (im (gI ?_))))
   replace b := b.gy (Kb (Db St))
   exact ⟨d, g, _, ⟨rfl, m⟩, (b.gy St), k, j, u, (by rw [H]; exact a)⟩
  refine iv (im (gI ?_))
  replace b := b.gy (Db St)
  exact ⟨d, c, _, ⟨rfl, m⟩, (b.gy St), k, j, u, (by rw [H]; exact a)⟩
 rintro E W ⟨c, D, ⟨d, m⟩, b, k, j, u, a⟩
 rw [aI] at a
 refine gI (sg (V (gA j (gK b.has Mh (gH c) rfl ef bJ)) ?_))
 replace b := b.perm (Nb (Pb Pz) Nz)
 refine VO (ib (.agg (gH c).toArray) ((gH c).toArray) b k rfl bJ (lN c) nb rfl (fun b3 b => Wa (ln ?_)))
 replace b := b.gy (Kb (Db St))
 refine iq ?_
 obtain rfl := sj a
 exact Ay (v0 := (.agg (gH c).toArray)) (v1 := (.bool true)) rfl k (gK b.has Mh (gH c) rfl ef bJ) rfl ⟨rfl, b.ex⟩
theorem AR (c : Value) (i : List ByteArray) (a : LO) (r : List ByteArray) (w : World) {t : gS} (k : pb t (a ++ []) w) (g : gM 9 iQ 1 c i a) (hm : vy i = some r) :
  ie true pg0 182 [c] w (a ++ []) (fun v j W' => ∃ S, v = (.tuple #[]) ∧ j = (S ++ []) ∧ gM 9 iQ 1 c r S) := z6 (P := pg0) (ρ := BB) Co k.H g hm
theorem sv (j : Value) (a0 : List ByteArray) (x : LO) (r : List ByteArray) (w : World) {μ0 : gS} (h0 : pb μ0 (x ++ []) w) (D : gM 9 iQ 1 j a0 x) (hm : kE a0 = some r) :
  ie true pg0 239 [j] w (x ++ []) (fun v L1 W' => ∃ y1 S2, v = y1 ∧ L1 = (S2 ++ []) ∧ gM 9 iQ 1 y1 r S2) := by
 refine sA h0 61 func239 rfl (fun b => sg (Wa (lS (Wm (V (jf aB rfl D) (Wi rfl (ln (CI hm rfl (fun g0 hm => ?_) (fun g0 hm => ?_)))))))))
 ·refine sg (Wm (Wa (lt (iw ?_))))
  obtain rfl := sj hm
  exact iC (v := j) rfl rfl ⟨_, _, rfl, (b.nL (Kr Sn)), j, x, rfl, rfl, D⟩
 refine kS (Wa (ln (jl (mc (fun m E W => ∃ t b5, ST true (keys (x ++ [])) w W μ0 (x ++ b5) ∧ E 0 = j ∧ E 3 = (.int .i64 t) ∧ jy a0 m t = some r) jg ⟨1, _, (b.gy St), rfl, rfl, hm⟩ ?_))))
 rintro m E W ⟨t, b5, b, G, I, a⟩
 cases m with
 | zero => rw [jy] at a; cases a
 | succ f5 =>
  refine gO (sg (Wh I (Wh G (V (jf aB rfl D) (Wi rfl (ln (CI a rfl (fun d0 a => ?_) (fun d0 a => ?_))))))))
  ·refine kn (gO (jl (gO ?_)))
   replace b := b.drew
   have d := b.has.gy (Kr Sn)
   refine iI d ij (X 0 rfl d (gF G) (X 1 rfl d (gF I) (bS a fun c3 a2 a => XQ 2 rfl d (iW (i := t) (x0 := c3) aB bQ rfl rfl D (jk a2) (iF a2)) (fun g5 d6 => XH 3 rfl d (fun _ l => gA rfl (oD l (fun p h => (Ml h)) D (fun _ => rfl) d6 (iF a2) (y := (.string c3)) rfl aF)) (X 4 rfl d (gF G) (X 5 rfl d (gF I) (X 6 rfl d (jm rfl rfl rfl) (bS a fun c4 a3 a => XQ 7 rfl d (iW (i := (wi0 .i64 (t - 1))) (x0 := c4) aB bQ rfl rfl D (jk a3) (iF a3)) (fun g6 d7 => XH 8 rfl d (fun _ l => gA rfl (oD l (fun p h => (Ml h)) D (fun _ => rfl) d7 (iF a3) (y := (.string c4)) rfl aF)) (X 9 rfl d (mr rfl rfl rfl) (iU kr (gI ?_))))))))))))
   refine CI a rfl (fun d1 a => ?_) (fun d1 a => ?_)
   ·refine sg (Wh G (Wh I (bS a fun _ L a => VQ (pK (i := t) aB bQ rfl rfl D (pT L) (pP L)) (fun c1 N => Wa (lS (Wa (ln ?_)))))))
    refine CJ a (fun Y E W => ∃ s b6, ST true (keys (x ++ [])) w W μ0 (s ++ b6) ∧ E 0 = j ∧ E 3 = (.int .i64 Y.2) ∧ gM 9 iQ 1 j Y.1 s) (fun Y d4 => ?_) ?_
    ·refine jl (mc (fun m E W => ∃ a9 M Z B b7, ST true (keys (x ++ [])) w W μ0 (M ++ b7) ∧ E 0 = j ∧ E 3 = (.int .i64 Z) ∧ E 4 = c1 ∧ E 5 = (.int .i64 B) ∧ gM 9 iQ 1 j a9 M ∧ jz t m a9 Z B = some Y) jg ⟨a0, x, t, 1, _, (b.gy St), G, I, rfl, rfl, D, d4⟩ ?_)
     rintro m E W ⟨a9, M, Z, B, b7, b, T, U, J, K, g, k⟩
     cases m with
     | zero => rw [jz] at k; cases k
     | succ f6 =>
      refine gO (sg (Wh K (Wh J (V (xX aB rfl N g) (Wi rfl (ln (CI k rfl (fun d2 k => ?_) (fun d2 k => ?_))))))))
      ·refine kn (gO (CJ k (fun A E W => ∃ Q b8, ST true (keys (x ++ [])) w W μ0 (Q ++ b8) ∧ E 0 = j ∧ E 3 = (.int .i64 A.2) ∧ E 4 = c1 ∧ E 5 = (.int .i64 B) ∧ gM 9 iQ 1 j A.1 Q) (fun A c => ?_) ?_))
       ·refine jl (gO ?_)
        replace b := b.drew
        have d := b.has.gy (Kr Sn)
        refine iI d ij (X 0 rfl d (gF J) (X 1 rfl d (gF K) (bS c fun c6 a4 c => XQ 2 rfl d (oY (i := B) (x0 := c6) aB bQ rfl rfl g N (jk a4) (iF a4)) (fun g7 d8 => XH 3 rfl d (fun _ l => gA rfl (oD l (fun p h => (Ml h)) g (fun _ => rfl) d8 (p4 (iF a4)) (y := (.string c6)) rfl aF)) (X 4 rfl d (gF J) (X 5 rfl d (gF K) (X 6 rfl d (jm rfl rfl rfl) (bS c fun c7 a5 c => XQ 7 rfl d (oY (i := (wi0 .i64 (B - 1))) (x0 := c7) aB bQ rfl rfl g N (jk a5) (iF a5)) (fun g8 d9 => XH 8 rfl d (fun _ l => gA rfl (oD l (fun p h => (Ml h)) g (fun _ => rfl) d9 (p4 (iF a5)) (y := (.string c7)) rfl aF)) (X 9 rfl d (mr rfl rfl rfl) (iU kr (gI ?_))))))))))))
        refine CI c rfl (fun d3 c => ?_) (fun d3 c => ?_)
        ·refine sg (Wh T (Wh U (Wh J (Wh K (bS c fun n o c => VQ (oY (i := B) (x0 := n) aB bQ rfl rfl g N (jk o) (iF o)) (fun g9 e0 => V (gA rfl (oD b.has (fun p h => (Ml h)) g (fun _ => rfl) e0 (p4 (iF o)) (y := (.string n)) rfl aF)) (bS c fun f8 q c => VQ (iW (i := Z) (x0 := f8) aB bQ rfl rfl g (jk q) (iF q)) (fun h1 e1 => VO (tM (u := (.string n)) (x1 := n)  b g (fun _ => rfl) uP rfl rfl rfl e1 (iF q) bQ (fun g3 e8 b c9 => ln (gJ ?_)))))))))))
         refine Wh U (Wi rfl (Wa (gT (im (gI ?_)))))
         obtain rfl := sj c
         exact ⟨e8, _, (b.gy St), T, rfl, J, K, c9⟩
        refine iv (im (gI ?_))
        obtain rfl := sj c
        exact ⟨M, _, (b.gy St), T, U, J, K, g⟩
       rintro ⟨f4, f7⟩ E W ⟨Q, b8, b, f0, f1, f2, f3, e4⟩ d5
       exact gJ (Wh f3 (Wi rfl (Wa (ln ⟨f6, bl _, f4, Q, f7, (wi0 .i64 (B + 1)), _, (b.gy St), f0, f1, f2, rfl, e4, d5⟩))))
      refine ot (ns (ns (sb (gI ?_))))
      obtain rfl := sj k
      exact ⟨M, _, (b.gy St), T, U, g⟩
    rintro ⟨g4, c5⟩ E W ⟨s, b6, b, b9, c0, R⟩ H
    refine sg (Wh b9 (Wh c0 (bS H fun _ O H => VQ (pK (i := c5) aB bQ rfl rfl R (pT O) (pP O)) (fun h2 e2 => VO (te (z := zS)  b R (fun _ => rfl) uP aB fl e2 rfl rfl (fun g2 e7 b c8 => lr (Wh b9 (Wh c0 (bS H fun _ P H => VQ (uW (i := c5) aB bQ rfl rfl c8 (fun _ => rfl) (pT P) (pP P)) (fun c2 e3 => ?_))))))))))
    refine Wa (lt (ko (iw (iw (ko (iw ?_))))))
    obtain rfl := sj H
    exact iC (v := c2) rfl rfl ⟨_, _, rfl, (b.nL (Kr Sn)), c2, e7, rfl, rfl, e3⟩
   exact iv (im (gI (gJ (Wh I (Wi rfl (Wa (ln ⟨f5, bl _, (wi0 .i64 (t + 1)), _, (b.gy St), G, rfl, a⟩)))))))
  refine ot (ns (ns (sb (gI (sg (Wh G (Wa (lt ?_))))))))
  obtain rfl := sj a
  exact iC (v := j) rfl rfl ⟨_, _, rfl, (b.nL (Kr Sn)), j, x, rfl, rfl, D⟩
theorem wL (H : Value) (J r : List ByteArray) (w : World) (G : Sl (Pl iQ) 1 (hp w) H J) (hm : pw J = some r) :
  iS true pg0 188 [H] w 9 iQ 1 r := by
 refine qH 23 func188 rfl (fun b => sg (Wa (lr (Wa (lS (Wm ?_))))))
 refine V (lB aB rfl G) (Wm (ln (iL (fun i E W => ∃ c t g D, (E 8 = .int .i64 (i : Nat) ∧ E 7 = .int .i64 (J.length : Nat)) ∧ ST true ia w W (hp w) (g ++ D) ∧ E 3 = c ∧ E 6 = H ∧ gM 9 iQ 1 c t g ∧ mK (J.drop i) t = some r) J.length G.len ⟨(.slice none 0 0), ([]), [], _, ⟨rfl, rfl⟩, (b.gy St), rfl, rfl, (gM.nil _ _ _), hm⟩ dc dc dc (fun _ _ _ h => by obtain ⟨_, _, _, _, n, _⟩ := h; exact n) ?_ ?_)))
 ·rintro b7 E W P ⟨c, t, g, D, ⟨m, o⟩, b, j, u, x, a⟩
  obtain ⟨k, d0, b0, a9, K⟩ := iB P
  rw [b0] at a
  refine bg (VQ (jL (enc := iQ) (i := (b7 : Int)) (x0 := k) aB bQ u m G (ay _) a9) (fun c5 Y => V (gA rfl (kI b.has (y := (.string k)) Y aF)) (Wa (lr (Wm (bS a fun c6 Z a => VE (Eg b call177 (oa k _ _  Z) (fun c0 b => ln ?_))))))))
  refine CI a rfl (fun T a => ?_) (fun T a => ?_)
  ·refine gJ (Wh j (Wm (VE (ig (cs := [(.string k)].toArray) b (lk rfl) (kz aB bQ fl) (fun c1 O b => ?_)))))
   replace b := b.perm (Nr (Qb Qz) Nz)
   refine bS a fun b1 U a => VE (jJ (enc := iQ) (v := c) (vs := (.slice (some ⟨O, 0, none⟩) 1 1)) (R := g) b (fun _ => rfl) dc uP aB nW.1 nW.2.1 rfl nW.2.2.1 nW.2.2.2 rfl rfl x (Sl.lit (enc := iQ) (l := [k]) (fun _ => rfl) rfl nb rfl (b.at_ (Ma Mh))) U (fun c2 b3 a4 b Q => Wa (gT (im (gI ?_)))))
   replace b := b.gy (Kr (Db St))
   exact ⟨m, b3, b1, a4, _, ⟨rfl, o⟩, (b.gy St), rfl, u, Q, (by rw [K]; exact a)⟩
  exact iv (im (gI ⟨m, c, t, g, _, ⟨rfl, o⟩, (b.gy St), j, u, x, (by rw [K]; exact a)⟩))
 rintro E W ⟨c, t, g, D, ⟨m, o⟩, b, j, u, x, a⟩
 rw [aI] at a
 refine gI (sg (Wh j (bS a fun b2 L a => ?_)))
 refine VE (eM b (Cr Qz Cn) call182 (fun q _ => (AR c t g _ _ q x L)) ?_)
 rintro _ c8 d1 b8 b b5 s d ⟨a5, z, rfl, a3⟩
 obtain rfl := z.symm
 replace b := b.perm (Tr Tn)
 refine lr (Wh j (bS a fun c7 a2 a => ?_))
 refine VE (eM b (Cr Qz Cn) call239 (fun q _ => (sv c b2 a5 _ _ q a3 a2)) ?_)
 rintro _ c9 d2 b9 b b6 A d ⟨b4, M, B, rfl, I⟩
 obtain rfl := B.symm
 replace b := b.perm (Tr Tn)
 refine Wa (lt ?_)
 obtain rfl := sj a
 exact iC (v := b4) rfl rfl ⟨_, M, rfl, b.kp (fun p hq => (Ml hq)) I.nd, I⟩
theorem yu (B : Value) (G : List gu) (r : List ByteArray) (w : World) (y : Sl (Pl gv) 9 (hp w) B G) (hm : rr G = some r) :
  iS true pg0 127 [B] w 9 iQ 1 r := by
 refine qH 29 func127 rfl (fun d => sg (Wa (lr (Wa (lS (Wm ?_))))))
 refine V (lB aj rfl y) (Wm (ln (iL (fun i E W => ∃ g k j t, (E 8 = .int .i64 (i : Nat) ∧ E 7 = .int .i64 (G.length : Nat)) ∧ ST true ia w W (hp w) (j ++ t) ∧ E 3 = g ∧ E 6 = B ∧ gM 9 iQ 1 g k j ∧ mf (G.drop i) k = some r) G.length y.len ⟨(.slice none 0 0), ([]), [], _, ⟨rfl, rfl⟩, (d.gy St), rfl, rfl, (gM.nil _ _ _), hm⟩ dc dc dc (fun _ _ _ h => by obtain ⟨_, _, _, _, n, _⟩ := h; exact n) ?_ ?_)))
 ·rintro a5 E W T ⟨g, k, j, t, ⟨m, A⟩, d, u, x, z, c⟩
  obtain ⟨a, b4, Y, U, Z⟩ := iB T
  rw [Y] at c
  refine bg (VQ (jL (enc := gv) (i := (a5 : Int)) (x0 := a) aj ae x m y (ay _) U) (fun b2 J => V (gA rfl (lI d.has J aN ae)) (VE (iZ d aT (fun O b1 d => VO (ib (.agg (gv a).toArray) ((gv a).toArray) d rfl rfl ae (jF a) nb rfl (fun P d => ln (gJ (Wh u (Wf mB (VB d Mh rfl rfl aF (Wf jT (Wf jY ?_)))))))))))))
  refine VB d Mh rfl rfl aF (Wf iM (Wf jY (VB d Mh rfl rfl aF (Wf kD (Wf jY (VB d Mh rfl rfl aF (VE (ig (cs := #[(.string a.gU), (.string a.Head.gG), (.string a.B.gG), (.string a.C.gG)]) d (yP rfl rfl rfl rfl) (kz aB bQ fl) (fun a8 Q d => ?_)))))))))
  replace d := d.perm (Nr (Qb (Qb Qz)) Nz)
  refine bS c fun L I c => VE (jJ (enc := iQ) (v := g) (vs := (.slice (some ⟨Q, 0, none⟩) 4 4)) (R := j) d (fun _ => rfl) dc uP aB nW.1 nW.2.1 rfl nW.2.2.1 nW.2.2.2 rfl rfl z (Sl.lit (enc := iQ) (l := [a.gU, a.Head.gG, a.B.gG, a.C.gG]) (fun _ => rfl) rfl nb rfl (d.at_ (Ma Mh))) I (fun a9 a2 M d H => Wa (gT (im (gI ?_)))))
  replace d := d.gy (Kr (Db (Db St)))
  exact ⟨m, a2, L, M, _, ⟨rfl, A⟩, (d.gy St), rfl, x, H, (by rw [Z]; exact c)⟩
 rintro E W ⟨g, k, j, t, ⟨m, A⟩, d, u, x, z, c⟩
 rw [aI] at c
 refine gI (sg (Wh u (bS c fun b3 K c => VE (nU d call188 (wL g k _ _ (z.sl (fun _ => rfl) (fun b o s => d.at_ (Ml s))) K) (fun b0 a3 b5 N d a4 q D => Wa (ln ?_))))))
 replace d := d.gy (Kr (Dr St))
 refine iq ?_
 obtain rfl := sj c
 exact iC (v := a3) rfl rfl ⟨_, N, rfl, d.kp (fun p s => (Ml s)) D.nd, D⟩
theorem A8 {κ β : Type} {a : κ → Value} {vf : β → Value} (v : Value) (l : List (κ × β)) (w : World) (i : ∃ m, v = .map (some m)) (hm : kL a vf (hp w) v l) : ie true pg0 128 [v] w [] (fun v R _ => gW a vf v l R) := by
 obtain ⟨c, rfl⟩ := i
 rcases hm with ⟨h, _⟩ | ⟨m, es, clock, h, d, hO⟩
 ·cases h
 obtain rfl : c = m := by injection h with h; injection h
 have b := ST.start (dd := true) w
 exact cF 9 func128 rfl (gO (gJ (V (jU rfl) (gT (gI (gO (gO (gJ (V (gF rfl) (V (xe cT rfl rfl rfl) (gT (gI (ml rfl (iv (gI (gO (gJ (V (gF rfl) (V (Ed cT (by intro q h; cases h) rfl) (VE (DN b rfl rfl (BW func189 (by kernel_rfl) (by kernel_rfl) (by kernel_rfl) (by kernel_rfl) _ (b.mem _ _ d)) (fun W g b => V (Af cT rfl) (V (jU rfl) (gT (gI (iq (iC rfl rfl ⟨_, _, rfl, b.yh ⟨[], .refl _⟩, g, es, clock, rfl, rfl, hO⟩)))))))))))))))))))))))))))
theorem rM (g : Value) (t : List ByteArray) (j : Value) (D : ByteArray → Option Bool) (r : Int) (w : World) (c : Sl (Pl iQ) 1 (hp w) g t) (G : qt pg0 j (hp w) (fun (x : ByteArray) => [(.string x)]) (fun (r : Bool) => (.bool r)) D) (hm : mT t D = some r) :
  iA false pg0 272 [g, j] w (.int .i64 r) := by
 refine cG 19 func272 rfl (fun b => sg (Wa (lS (Wm (V (lB aB rfl c) (Wm (ln (iL (fun i E W => ∃ k, (E 8 = .int .i64 (i : Nat) ∧ E 7 = .int .i64 (t.length : Nat)) ∧ ST false ia w W (hp w) k ∧ E 0 = g ∧ E 1 = j ∧ jK D (t.drop i) i = some r) t.length c.len ⟨_, ⟨rfl, rfl⟩, (b.gy St), rfl, rfl, hm⟩ dc dc dc (fun _ _ _ h => by obtain ⟨_, l, _⟩ := h; exact l) ?_ ?_))))))))
 ·rintro T E W I ⟨k, ⟨d, m⟩, b, u, z, a⟩
  obtain ⟨B, U, N, M, Q⟩ := iB I
  rw [N] at a
  refine bg (Wh d (Wa (lr (Wh z (Wh u (Wm (VQ (jL (enc := iQ) (i := (T : Int)) (x0 := B) aB bQ rfl rfl c (ay _) M) (fun Z J => V (gA rfl (kI b.has (y := (.string B)) J aF)) (bS a fun n K a => ?_)))))))))
  refine VE (u5 B b G (gZ.refl _) rfl (tZ rfl) K (fun Y b => ln (CI a rfl (fun H a => ?_) (fun H a => ?_))))
  ·refine sg (Wm (Wa (lt (ko (iw (ko (iw ?_)))))))
   obtain rfl := sj a
   exact rP b
  exact iv (im (gI ⟨d, _, ⟨rfl, m⟩, (b.gy St), u, z, (by rw [Q]; exact a)⟩))
 rintro E W ⟨k, ⟨d, m⟩, b, u, z, a⟩
 rw [aI] at a
 exact gI (sg (Wa (lt (rQ a b))))
theorem qP (a : Value) (g : List ByteArray) (c : Value) (i : ByteArray → Option Bool) (r : Bool) (w : World) (j : Sl (Pl iQ) 1 (hp w) a g) (k : qt pg0 c (hp w) (fun (x : ByteArray) => [(.string x)]) (fun (r : Bool) => (.bool r)) i) (hm : me g i = some r) :
  iA false pg0 240 [a, c] w (.bool r) := by
 refine cG 9 func240 rfl (fun b => sg (Wa (lr (Wm (Wm (bS hm fun y t hm => VE (Eg b call272 (rM a g c i _ _ (j.mono (Pl.mono _) b.iH) (k.mono b.iH) t) (fun u b => Wi rfl (Wa (gT ?_))))))))))
 exact gI (iq (rQ hm b))
theorem vC (u : ByteArray) (z : Nat) (i : Value) (G : (gr × ByteArray) → Option Bool) (B : Nat) (g : gu) (D : Nat) (I : ByteArray) (r : Bool) (w : World) (H : qt pg0 i (hp w) (fun (x : (gr × ByteArray)) => [(.agg (gw x.1).toArray), (.string x.2)]) (fun (r : Bool) => (.bool r)) G) (j : At (hp w) (.pointer (some ⟨z, 0, none⟩)) [i]) (k : At (hp w) (.pointer (some ⟨B, 0, none⟩)) (gv g)) (J : At (hp w) (.pointer (some ⟨D, 0, none⟩)) [(.string I)]) (hm : mN u G g I = some r) :
  iA false pg0 241 [(.string u), (.pointer (some ⟨z, 0, none⟩)), (.pointer (some ⟨B, 0, none⟩)), (.pointer (some ⟨D, 0, none⟩))] w (.bool r) := by
 refine cG 20 func241 rfl (fun b => sg (Wa (lr (V (gA rfl (kI b.has (y := i) j isAgg104)) (VQ (sP (gw g.B) iM rfl k rfl) (fun h Y => V (gA rfl (lI b.has Y au ag)) (Wm (bS hm fun l Z hm => VE (u5 (g.B, u) b H (gZ.refl _) rfl (sM rfl rfl) Z (fun W6 b => Wm ?_))))))))))
 refine LJ hm (fun M E W => ∃ K, ST false ia w W (hp w) K ∧ E 5 = (.bool false) ∧ E 19 = (.bool M)) 8 ?_ (fun M c t => ?_)
 ·rintro a5 E W ⟨K, b, a2, U⟩ N
  exact Wg U (lt (rQ N b))
 refine bC c (fun a c => ?_) (fun a c => ?_)
 ·refine ug a (gA rfl (kI b.has (y := i) j isAgg104)) (ug a (gF rfl) (Ft a (sP [(.string g.gY)] ma rfl k rfl) (fun a3 Q => ug a (gA rfl (kI b.has (y := (.string g.gY)) Q aF)) (ug a (kO (v := (.agg (gw (⟨u, g.gY⟩ : gr)).toArray)) (nC rfl rfl) (jH cw bt (zw _ bt) kr)) (ug a (gA rfl (kI b.has (y := (.string I)) J aF)) (bS c fun a4 T c => oK a (u5 ((⟨u, g.gY⟩ : gr), I) b H (gZ.refl _) rfl (sM rfl rfl) T (fun d b => V (gQ (cB a) rfl) ?_))))))))
  obtain rfl := sj c
  exact t _ _ ⟨_, (b.gy St), rfl, rfl⟩
 refine un a (un a (un a (un a (un a (un a (un a (V (gP (cB a) rfl) ?_)))))))
 obtain rfl := sj c
 exact t _ _ ⟨_, (b.gy St), rfl, rfl⟩
theorem xJ (g : gu) (u : Value) (y : (gr × ByteArray) → Option Bool) (k : Value) (D : List ByteArray) (j : ByteArray) (r : Bool) (w : World) (i : qt pg0 u (hp w) (fun (x : (gr × ByteArray)) => [(.agg (gw x.1).toArray), (.string x.2)]) (fun (r : Bool) => (.bool r)) y) (J : Sl (Pl iQ) 1 (hp w) k D) (hm : pz g y D j = some r) :
  iA false pg0 190 [(.agg (gv g).toArray), u, k, (.string j)] w (.bool r) := by
 refine cG 41 func190 rfl (fun b => sg (VE (iO b rfl (fun W2 G b => ?_))))
 obtain ⟨f3, f4, f5, rfl⟩ := i.form
 refine VE (iO b rfl (fun W7 H b => VE (iO b rfl (fun W9 I b => Wa (lS (Wf jN (VB b (Mt (Mt Mh)) rfl rfl bI (ln (bg ?_)))))))))
 refine Wi rfl (Wa (ln (CI hm rfl (fun K hm => ?_) (fun K hm => ?_))))
 ·refine sg (Wf mB (VB b (Mt (Mt Mh)) rfl rfl aF (VB b Mh rfl rfl aF (V (mr rfl rfl rfl) (Wa (ln ?_))))))
  replace b := b.gy (Db (Db (Db St)))
  refine iq (ko (iw ?_))
  obtain rfl := sj hm
  exact rP b
 refine sg (Wi rfl (Wa (ln (CI hm rfl (fun M hm => ?_) (fun M hm => ?_)))))
 ·refine sg (VB b (Mt Mh) rfl rfl isAgg104 (Wf iM (VA b (Mt (Mt Mh)) (gw g.B) au ag (VB b Mh rfl rfl aF (bS hm fun p T hm => VE (u5 (g.B, j) b i (gZ.refl _) rfl (sM rfl rfl) T (fun l b => Wa (ln ?_))))))))
  replace b := b.gy (Db (Db (Db St)))
  refine iq (ko (iw ?_))
  obtain rfl := sj hm
  exact rP b
 refine sg (Wi rfl (Wa (ln (CI hm rfl (fun N hm => ?_) (fun N hm => ?_)))))
 ·refine sg (VB b (Mt Mh) rfl rfl isAgg104 (Wf iM (VA b (Mt (Mt Mh)) (gw g.B) au ag (VB b Mh rfl rfl aF (bS hm fun q U hm => VE (u5 (g.B, j) b i (gZ.refl _) rfl (sM rfl rfl) U (fun m b => Wm (LJ hm (fun B E W => ∃ z, ST false ia w W (hp w) z ∧ E 8 = (.bool false) ∧ E 37 = (.bool B)) 6 ?_ (fun B c t => ?_)))))))))
  ·rintro A E W ⟨z, b, o, h⟩ Q
   refine Wg h (lt (ko (iw ?_)))
   obtain rfl := sj Q
   exact rP b
  refine bC c (fun a c => ?_) (fun a c => ?_)
  ·refine ug a (gA rfl (gN b.has (Mt Mh) rfl isAgg104)) (ug a (gE kD rfl) (ug a (gA rfl (gK b.has (Mt (Mt Mh)) (gw g.C) rfl au ag)) (ug a (gA rfl (gN b.has Mh rfl aF)) (bS c fun s Y c => oK a (u5 (g.C, j) b i (gZ.refl _) rfl (sM rfl rfl) Y (fun a9 b => V (gQ (cB a) rfl) ?_))))))
   obtain rfl := sj c
   exact t _ _ ⟨_, (b.gy (Db (Db (Db St)))), rfl, rfl⟩
  refine un a (un a (un a (un a (un a (V (gP (cB a) rfl) ?_)))))
  obtain rfl := sj c
  exact t _ _ ⟨_, (b.gy (Db (Db (Db St)))), rfl, rfl⟩
 refine iv (im (gI (sg (Wm (V (qY (by exact Fc rfl rfl rfl) rfl) (bS hm fun v Z hm => VE (Eg b call240 (qP k D (.func (.func 241) #[] #[(.pointer (some ⟨H, 0, none⟩)), (.pointer (some ⟨G, 0, none⟩)), (.pointer (some ⟨I, 0, none⟩))]) (fun (x : ByteArray) => mN x y g j) _ _ (J.mono (Pl.mono _) b.iH) ⟨241, #[], #[(.pointer (some ⟨H, 0, none⟩)), (.pointer (some ⟨G, 0, none⟩)), (.pointer (some ⟨I, 0, none⟩))], rfl, call241, fun W x r d hm => vC x H (.func f3 f4 f5) y G g I j r W (i.mono (b.iH.trans d)) (At.of (d _ _ (b.at_ (Mt Mh))) _ rfl) (At.of (d _ _ (b.at_ (Mt (Mt Mh)))) _ rfl) (At.of (d _ _ (b.at_ Mh)) _ rfl) hm⟩ Z) (fun n b => Wa (ln ?_)))))))))
 exact iq (rQ hm b)
theorem yl (c : gu) (B : Value) (f1 : (gr × ByteArray) → Option Bool) (T : Value) (a2 : List ByteArray) (r : List gx) (w : World) (b0 : qt pg0 B (hp w) (fun (x : (gr × ByteArray)) => [(.agg (gw x.1).toArray), (.string x.2)]) (fun (r : Bool) => (.bool r)) f1) (d8 : Sl (Pl iQ) 1 (hp w) T a2) (hm : pO c f1 a2 = some r) :
  iS false pg0 130 [(.agg (gv c).toArray), B, T] w 38 gL 3 r := by
 refine qH 47 func130 rfl (fun d => sg (VE (iO d rfl (fun W2 n d => Wa (lS (VA d Mh (gv c) aN ae (bS hm fun r3 f5 hm => VE (Eg d call115 (iA.ki (pr c _ _  f5)) (fun W5 d => V (nY rfl) (Wm ?_))))))))))
 refine LJ hm (fun b6 E W => ∃ L8, ST false ia w W (hp w) ((n, Ol (gv c) 108) :: L8) ∧ E 1 = B ∧ E 2 = T ∧ E 3 = (.pointer (some ⟨n, 0, none⟩)) ∧ E 17 = (.bool b6)) 3 ?_ (fun b6 u U => ?_)
 ·rintro x7 E W ⟨L8, d, d2, e8, a4, e9⟩ H
  refine ln (CI H e9 (fun d9 H => ?_) (fun d9 H => ?_))
  ·refine sg (Wa (ln ?_))
   replace d := d.gy (Db St)
   refine iq (iw ?_)
   obtain rfl := sj H
   exact iC (v := (.slice none 0 0)) rfl rfl ⟨_, [], rfl, d.kp (fun p o => by cases o) (by simp), gM.nil _ _ _⟩
  refine kg (Wh e8 (bS H fun d3 e2 H => VE (nU d call188 (iS.ki (wL T a2 _ _ (d8.mono (Pl.mono _) d.iH) e2)) (fun g5 q g6 g4 d c4 ab a9 => Wa (lr (Wm (Wa (gT ?_))))))))
  refine gI (gO ?_)
  have e0 := a9.B0 d (fun p o => (Ml o))
  obtain ⟨d4, d, c5, ad, b3⟩ := ST.wz d a9 (fun _ => rfl)
  refine CJ H (fun b5 E W => ∃ Y Z d1, gZ d4 Z ∧ ST false ia w W Z ((n, Ol (gv c) 108) :: d1) ∧ E 1 = B ∧ E 2 = q ∧ E 3 = (.pointer (some ⟨n, 0, none⟩)) ∧ E 7 = Y ∧ Sl (Pl iQ) 1 Z Y b5 ∧ Fr w.heap.size Y) (fun b5 t => ?_) ?_
  ·refine sg (V (gE jN a4) (VB d Mh rfl rfl bI (Wi rfl (ln (CI t rfl (fun c1 t => ?_) (fun c1 t => ?_))))))
   ·refine gJ (V (gE mB a4) (VB d Mh rfl rfl aF (VE (ig (cs := [(.string c.gU)].toArray) d (lk rfl) (kz aB bQ fl) (fun g0 J d => Wa (ln ?_))))))
    obtain rfl := sj t
    have c2 : Fr w.heap.size (.slice (some ⟨J, 0, none⟩) 1 1) := Fr.box d Mh
    obtain ⟨e6, d, b2, a8, c8⟩ := ST.wz (R := [(J, Ol [(.string c.gU)] 9)]) d (gM.lit (l := [c.gU]) (enc := iQ) (b := J) (m := 1) rfl dc rfl rfl) (fun _ => rfl)
    exact ⟨(.slice (some ⟨J, 0, none⟩) 1 1), e6, _, b2, (d.gy St), d2, rfl, a4, rfl, c8, c2⟩
   refine kn ?_
   obtain rfl := sj t
   exact ⟨q, d4, _, (gZ.refl _), (d.gy St), d2, rfl, a4, rfl, b3, e0⟩
  rintro L E W ⟨Y, Z, d1, a5, d, f0, f2, f3, f4, a3, g1⟩ e1
  refine sg (Wa (lS (Wh f4 (V (lB aB rfl a3) (Wm (ln (iL (fun i E W => ∃ k I j A, (E 29 = .int .i64 (i : Nat) ∧ E 28 = .int .i64 (L.length : Nat)) ∧ ST false ia w W Z ((n, Ol (gv c) 108) :: (j ++ A)) ∧ E 1 = B ∧ E 2 = q ∧ E 3 = (.pointer (some ⟨n, 0, none⟩)) ∧ E 8 = k ∧ E 27 = Y ∧ gM 38 gL 3 k I j ∧ la c f1 d3 (L.drop i) I = some r) L.length a3.len ⟨(.slice none 0 0), ([]), [], _, ⟨rfl, rfl⟩, (d.gy St), f0, f2, f3, rfl, rfl, (gM.nil _ _ _), e1⟩ dc dc dc (fun _ _ _ h => by obtain ⟨_, _, _, _, O, _⟩ := h; exact O) ?_ ?_)))))))
  ·rintro e3 E W c3 ⟨k, I, j, A, ⟨s, P⟩, d, K, M, D, N, Q, z, a⟩
   obtain ⟨g, f6, d0, c9, a6⟩ := iB c3
   let a0 := (⟨c.Head, g⟩ : gx)
   rw [d0] at a
   refine bg (VQ (jL (enc := iQ) (i := (e3 : Int)) (x0 := g) aB bQ Q s a3 (ay _) c9) (fun g2 c6 => V (gA rfl (kI d.has (y := (.string g)) c6 aF)) (Wa (lr (V (gA D (gK d.has Mh (gv c) rfl aN ae)) (Wh K (Wh M (Wm (bS a fun g3 c7 a => ?_)))))))))
   refine VE (Eg d call190 (xJ c B f1 q d3 g _ _ (b0.mono (((c4.trans c5).trans a5).trans d.iH)) (b3.mono (Pl.mono _) (a5.trans d.iH)) c7) (fun f7 d => ln (CI a rfl (fun b9 a => ?_) (fun b9 a => ?_))))
   ·refine gJ (Wh N (V (gE jT D) (VA d Mh (gw c.Head) au ag (Wm (V (kO (v := (.agg (gL (a0)).toArray)) (nC rfl rfl) (jH cM bi (xq _ bi) kr)) (VE (ig (cs := (gL (a0)).toArray) d (lk rfl) (kz bK cD cM) (fun f8 d7 d => ?_))))))))
    replace d := d.perm (Nr (Qb (Qb Qz)) Nz)
    refine bS a fun e4 c0 a => VE (jJ (enc := gL) (v := k) (vs := (.slice (some ⟨d7, 0, none⟩) 1 1)) (R := j) d lj dc qM bK mP.1 mP.2.1 rfl mP.2.2.1 mP.2.2.2 rfl rfl z (Sl.lit (enc := gL) (l := [a0]) lj rfl nb rfl (d.at_ (Ma Mh))) c0 (fun f9 e5 d5 d b8 => Wa (gT (im (gI ?_)))))
    replace d := d.gy (Kr (Db St))
    exact ⟨s, e5, e4, d5, _, ⟨rfl, P⟩, (d.gy (Sb (Pr Pz) St)), K, M, D, rfl, Q, b8, (by rw [a6]; exact a)⟩
   exact iv (im (gI ⟨s, k, I, j, _, ⟨rfl, P⟩, (d.gy St), K, M, D, N, Q, z, (by rw [a6]; exact a)⟩))
  rintro E W ⟨k, I, j, A, ⟨s, P⟩, d, K, M, D, N, Q, z, a⟩
  rw [aI] at a
  refine gI ?_
  replace d := d.gy (Db St)
  refine sg (Wh N (Wa (lt ?_)))
  obtain rfl := sj a
  exact iC (v := k) rfl rfl ⟨_, j, rfl, d.kp (fun p o => (Ml o)) z.nd, z⟩
 refine bC u (fun G u => ?_) (fun G u => ?_)
 ·refine un G (un G (V (gQ (cB G) rfl) ?_))
  obtain rfl := sj u
  exact U _ _ ⟨_, (d.gy St), rfl, rfl, rfl, rfl⟩
 refine ug G (gF rfl) (ug G (Cj underlying104 b0 rfl rfl) (V (gP (cB G) rfl) ?_))
 obtain rfl := sj u
 exact U _ _ ⟨_, (d.gy St), rfl, rfl, rfl, rfl⟩
theorem vV (a : gr) (g : ByteArray) (i : Nat) (c : Value) (u : List (gx × Int)) (r : Bool) (w : World) (t : kL (fun (x : gx) => (.agg (gL x).toArray)) (fun (x : Int) => (Value.int .i64 x)) (hp w) c u) (j : At (hp w) (.pointer (some ⟨i, 0, none⟩)) [c]) (hm : oH a g u = some r) :
  iA true pg0 129 [(.agg (gw a).toArray), (.string g), (.pointer (some ⟨i, 0, none⟩))] w (.bool r) := by
 refine cG 17 func129 rfl (fun d => sg (VE (iO d rfl (fun B D d => Wa (lr (V (gA rfl (kI d.has (y := c) j isAgg125)) (VA d Mh (gw a) au ag (Wm (V (kO (v := (.agg (gL (⟨a, g⟩ : gx)).toArray)) (nC rfl rfl) (jH cM bi (xq _ bi) kr)) (V (tW (k := (⟨a, g⟩ : gx)) (z := 0) (vf := (fun (x : Int) => (Value.int .i64 x))) Bj cT dF rfl rfl (t.mono (fun b o h => d.has.1 b o h))) (Wm ?_)))))))))))
 refine Wx rfl (Wx rfl (Wa (Wa (ln ?_))))
 replace d := d.gy (Db St)
 exact sg (Wm (Wa (lt (rQ hm d))))
theorem uv (d4 : Value) (a0 : List gu) (r : ((List (gx × Int)) × Int)) (w : World) (f7 : Sl (Pl gv) 9 (hp w) d4 a0) (hm : nz a0 = some r) :
  ie false pg0 62 [d4] w [] (fun v L1 W' => ∃ y1 S2, v = (.tuple #[y1, (.int .i64 (r.2))]) ∧ L1 = (S2 ++ []) ∧ gW (fun (x : gx) => (.agg (gL x).toArray)) (fun (x : Int) => (Value.int .i64 x)) y1 r.1 S2) := by
 refine qH 62 func62 rfl (fun d => sg (Wa (Wa (lr (Wm (bS hm fun O k6 hm => VE (nU d call51 (rN d4 a0 _ _ (f7.mono (Pl.mono _) d.iH) k6) (fun W3 q aE R8 d k1 av e9 => Wm (bS hm fun k7 k2 hm => VE (nU d call51 (rN d4 a0 _ _ (f7.mono (Pl.mono _) (k1.trans d.iH)) k2) (fun n1 k8 n4 n0 d m3 af j8 => ?_)))))))))))
 refine bS hm fun h2 k3 hm => VE (nU d call127 (iS.ki (yu k8 k7 _ _ (j8.sl ic (fun b o l => d.at_ (Ml l))) k3)) (fun n2 A j7 d8 d m4 ao j9 => Wa (Wa (ln ?_))))
 replace d := d.gy (Kr (Dr St))
 refine sg (VE (rk (P := pg0) (fun (x : gx) => (.agg (gL x).toArray)) (fun (x : Int) => (Value.int .i64 x)) d (fun n3 D k4 d k0 => Wa (lr (Wa (ln (ou (jl (mc (fun m E W => ∃ y a3 g d5 e3, gZ j7 d5 ∧ ST false ia w W d5 (a3 ++ (d8 ++ (R8 ++ e3))) ∧ E 4 = q ∧ E 5 = A ∧ E 6 = D ∧ E 7 = (.int .i64 g) ∧ gW (fun (x : gx) => (.agg (gL x).toArray)) (fun (x : Int) => (Value.int .i64 x)) D y a3 ∧ lX h2 O m y g = some r) jg ⟨([]), k4, 0, j7, _, (gZ.refl _), (d.gy St), rfl, rfl, rfl, rfl, k0, hm⟩ ?_)))))))))
 rintro m E W ⟨y, a3, g, d5, e3, f0, d, e6, h6, e7, h7, b7, Y⟩
 cases m with
 | zero => rw [lX] at Y; cases Y
 | succ j5 =>
  refine gO (bg (Wh e7 (VE (vS d (cK _) call128 (fun _ _ _ _ => ie.ki (A8 _ y _ b7.form (b7.at (fun b o l => d.has.2 b o (Ml l))))) (fun l2 m7 d6 a4 d f1 ab _ b6 => VE (iZ d zeroValue125 (fun l3 a d => ?_))) (L0 := [])))))
  obtain ⟨B, rfl⟩ := b6.form
  refine VO (ib (.map (some B)) (#[(.map (some B))]) d rfl rfl sizeOf125 oc nb rfl (fun l4 d => lr (V (qY (by exact tZ rfl) rfl) (Wa (lS (Wh e6 (V (jf aj rfl e9) (Wm ?_))))))))
  refine ln (CJ Y (fun d2 E W => ∃ Q b5 e4, gZ d6 b5 ∧ ST false ia w W b5 ((a, Ob #[(.map (some B))] 125) :: (a4 ++ (Q ++ (d8 ++ (R8 ++ e4))))) ∧ E 4 = q ∧ E 5 = A ∧ E 6 = D ∧ E 7 = (.int .i64 g) ∧ E 8 = (.pointer (some ⟨a, 0, none⟩)) ∧ gW (fun (x : gx) => (.agg (gL x).toArray)) (fun (x : Int) => (Value.int .i64 x)) D d2 Q) (fun d2 g2 => ?_) ?_)
  ·let f5 := (#[(.map (some B))] : Array Value)
   let e2 : Value := (.pointer (some ⟨a, 0, none⟩))
   let f4 : Value := (.func (.func 129) #[] #[e2])
   refine iL (fun i E W => ∃ Z I R c1, (E 29 = .int .i64 (i : Nat) ∧ E 28 = .int .i64 (O.length : Nat)) ∧ gZ d6 R ∧ ST false ia w W R ((a, Obj.cells f5 125 (0, 0)) :: (a4 ++ (I ++ (d8 ++ (R8 ++ c1))))) ∧ E 4 = q ∧ E 5 = A ∧ E 6 = D ∧ E 7 = (.int .i64 g) ∧ E 8 = e2 ∧ E 9 = f4 ∧ E 27 = q ∧ gW (fun (x : gx) => (.agg (gL x).toArray)) (fun (x : Int) => (Value.int .i64 x)) D Z I ∧ nm y h2 g (O.drop i) Z = some d2) O.length e9.len ⟨y, a3, d6, _, ⟨rfl, rfl⟩, (gZ.refl _), (d.gy St), e6, h6, e7, h7, rfl, rfl, rfl, b7, g2⟩ dc dc dc (fun _ _ _ h => by obtain ⟨_, _, _, _, s, _⟩ := h; exact s) ?_ ?_
   ·rintro d0 E W g0 ⟨Z, I, R, c1, ⟨n, L⟩, a2, d, c4, a6, c5, c6, c7, c8, c9, b9, j⟩
    obtain ⟨N, k9, g9, d9, h0⟩ := iB g0
    rw [g9] at j
    refine bg (VQ (iW (i := (d0 : Int)) (x0 := N) aj ae c9 n e9 (ay _) d9) (fun m5 g5 => V (gA rfl (kH d.has (fun p l => (Mt (Ma (Ma (Ma (Ml l)))))) e9 ic g5 d9 aN ae)) (VE (iZ d aT (fun l5 m1 d => VO (ib (.agg (gv N).toArray) ((gv N).toArray) d rfl rfl ae (jF N) nb rfl (fun l6 d => lr (VA d Mh (gv N) aN ae (Wh c8 (Wh a6 (bS j fun d1 g7 j => ?_)))))))))))
    refine VE (nU d call130 (yl N f4 (fun (x : (gr × ByteArray)) => oH x.1 x.2 y) A h2 _ _ ⟨129, #[], #[e2], rfl, call129, fun W x r hs hm => (vV x.1 x.2 a (.map (some B)) y r W (b6.at (fun b o l => hs _ _ ((fun b o l => d.at_ (Mt (Mt (Ml l)))) b o l))) (At.of (hs _ _ (d.at_ (Mt Mh))) _ rfl) hm).ki⟩ (j9.sl (fun _ => rfl) (fun b o l => d.at_ (Mt (Mt (Ma (Ma (Ml l))))))) g7) (fun l7 j6 d7 h3 d f3 ad U => V (jf bK rfl U) (Wm (ln ?_))))
    replace d := d.gy (Kr (Db St))
    refine ou (CJ j (fun d3 E W => ∃ a5 e5, ST false ia w W d7 ((a, Obj.cells f5 125 (0, 0)) :: (a4 ++ (a5 ++ (d8 ++ (R8 ++ e5))))) ∧ E 4 = q ∧ E 5 = A ∧ E 6 = D ∧ E 7 = (.int .i64 g) ∧ E 8 = e2 ∧ E 9 = f4 ∧ E 27 = q ∧ E 28 = (.int .i64 (O.length : Int)) ∧ E 29 = (.int .i64 (d0 : Int)) ∧ gW (fun (x : gx) => (.agg (gL x).toArray)) (fun (x : Int) => (Value.int .i64 x)) D d3 a5) (fun d3 g4 => ?_) ?_)
    ·refine iL (fun i E W => ∃ M J c2, (E 38 = .int .i64 (i : Nat) ∧ E 37 = .int .i64 (d1.length : Nat)) ∧ ST false ia w W d7 ((a, Obj.cells f5 125 (0, 0)) :: (h3 ++ (a4 ++ (J ++ (d8 ++ (R8 ++ c2)))))) ∧ E 4 = q ∧ E 5 = A ∧ E 6 = D ∧ E 7 = (.int .i64 g) ∧ E 8 = e2 ∧ E 9 = f4 ∧ E 27 = q ∧ E 28 = (.int .i64 (O.length : Int)) ∧ E 29 = (.int .i64 (d0 : Int)) ∧ E 36 = j6 ∧ gW (fun (x : gx) => (.agg (gL x).toArray)) (fun (x : Int) => (Value.int .i64 x)) D M J ∧ mj g (d1.drop i) M = some d3) d1.length U.len ⟨Z, I, _, ⟨rfl, rfl⟩, (d.gy (Sb (Pr Pz) St)), c4, a6, c5, c6, c7, c8, c9, L, n, rfl, b9, g4⟩ dc dc dc (fun _ _ _ h => by obtain ⟨_, _, _, s, _⟩ := h; exact s) ?_ ?_
     ·rintro j0 E W g1 ⟨M, J, c2, ⟨n, L⟩, d, a7, a8, K, T, a9, b0, b1, b2, b3, b4, H, c⟩
      obtain ⟨t, l0, h1, e0, e1⟩ := iB g1
      rw [h1] at c
      refine bg (VQ (iW (i := (j0 : Int)) (x0 := t) bK cD b4 n U (ay _) e0) (fun m6 g6 => V (gA rfl (kH d.has (fun p l => (Mt (Ml l))) U lj g6 e0 fM cD)) (VE (iZ d cM (fun l8 m2 d => VO (ib (.agg (gL t).toArray) ((gL t).toArray) d rfl rfl cD (qM t) nb rfl (fun l9 d => lr (Wh K (VA d Mh (gL t) fM cD (V (tW (k := t) (z := 0) (vf := (fun (x : Int) => (Value.int .i64 x))) Bj cT dF rfl rfl (H.at (fun b o l => d.has.2 b o (Mt (Mt (Ma (Ma (Ml l)))))))) (Wm ?_)))))))))))
      refine Wx rfl (Wx rfl (Wa (Wa (lr (Wm (V (nY rfl) (ln (CI c rfl (fun f9 c => ?_) (fun f9 c => ?_)))))))))
      ·refine gJ (Wh K (VA d Mh (gL t) fM cD (Wh T ?_)))
       replace d := d.perm (Nr (Qb (Qb (Qr (Qr Qz)))) Nz)
       refine VO (vK (k := t) (v := g) (vf := (fun (x : Int) => (Value.int .i64 x)))  Bj cT d H rfl rfl rfl (fun m0 h4 d f6 => gT (im (gI ?_))))
       replace d := d.gy (Kr (Db St))
       exact ⟨n, (iN iD M t g), h4, _, ⟨rfl, L⟩, (d.gy (Sb (Pr Pz) (Sr (Qr Qz) (Sr (Qr Qz) St)))), a7, a8, K, T, a9, b0, b1, b2, b3, b4, f6, (by rw [e1]; exact c)⟩
      refine iv (im (gI ?_))
      replace d := d.gy (Db St)
      exact ⟨n, M, J, _, ⟨rfl, L⟩, (d.gy St), a7, a8, K, T, a9, b0, b1, b2, b3, b4, H, (by rw [e1]; exact c)⟩
     rintro E W ⟨M, J, c2, ⟨n, L⟩, d, a7, a8, K, T, a9, b0, b1, b2, b3, b4, H, c⟩
     rw [aI] at c
     refine gI ?_
     obtain rfl := sj c
     exact ⟨J, _, (d.gy (Kb (Dr St))), a7, a8, K, T, a9, b0, b1, b2, b3, H⟩
    rintro j4 E W ⟨a5, e5, d, i1, i2, i3, i4, i5, i6, i7, i8, i9, g8⟩ g3
    exact im (gI ⟨i9, j4, a5, d7, _, ⟨rfl, i8⟩, (a2.trans f3), (d.gy St), i1, i2, i3, i4, i5, i6, i7, g8, (by rw [h0]; exact g3)⟩)
   rintro E W ⟨Z, I, R, c1, ⟨n, L⟩, a2, d, c4, a6, c5, c6, c7, c8, c9, b9, j⟩
   rw [aI] at j
   refine gI ?_
   obtain rfl := sj j
   exact ⟨I, R, _, a2, (d.gy St), c4, a6, c5, c6, c7, b9⟩
  rintro j3 E W ⟨Q, b5, e4, f2, d, h8, h9, c3, e8, i0, b8⟩ G
  refine sg (Wh c3 (V (yN (vf := (fun (x : Int) => (Value.int .i64 x))) (kenc := (fun (x : gx) => (.agg (gL x).toArray))) cT rfl (b8.at (fun b o l => d.has.2 b o (Mt (Ma (Ml l)))))) (V (gA i0 (gN d.has Mh rfl isAgg125)) (V (yN (vf := (fun (x : Int) => (Value.int .i64 x))) (kenc := (fun (x : gx) => (.agg (gL x).toArray))) cT rfl (b6.at (fun b o l => d.has.2 b o (Mt (Ml l))))) (Wi rfl (ln ?_))))))
  replace d := d.gy (Db (Dr St))
  refine CI G rfl (fun f8 G => ?_) (fun f8 G => ?_)
  ·refine sg (Wh c3 (Wh e8 (Wa (Wa (ln ?_)))))
   replace d := d.gy (Kr (Dr (Dr St)))
   refine iq (ko (iw (iw (ko (iw ?_)))))
   obtain rfl := sj G
   exact w5 (v := D) (u := (.int .i64 g)) rfl rfl rfl ⟨_, _, rfl, (d.yh (Kr Sn)), D, Q, rfl, rfl, b8⟩
  exact iv (im (gI (gJ (Wh e8 (Wi rfl (Wa (ln ⟨j5, bl _, j3, Q, (wi0 .i64 (g + 1)), b5, _, ((f0.trans f1).trans f2), (d.gy St), h8, h9, c3, rfl, b8, G⟩)))))))
theorem uQ (g : Value) (i : List gu) (a : gx) (r : (Int × Bool)) (w : World) (t : Sl (Pl gv) 9 (hp w) g i) (hm : po i a = some r) :
  iA false pg0 18 [g, (.agg (gL a).toArray)] w (.tuple #[(.int .i64 r.1), (.bool r.2)]) := by
 refine cG 23 func18 rfl (fun d => sg (VE (iO d rfl (fun M Q d => Wa (Wa (lr (Wm (bS hm fun D B hm => ?_))))))))
 refine VE (vS d (cK _) call62 (fun _ _ _ _ => (uv g i _ _ (t.mono (Pl.mono _) d.iH) B)) (fun N T U H d G l h j => ?_) (L0 := []))
 obtain ⟨J, I, c, rfl, y⟩ := j
 replace c := c.symm; subst c
 replace d := d.perm (Tr Tn)
 refine Wm (Wx rfl (Wx rfl (Wa (Wa (lr (Wm (VA d (Ma Mh) (gL a) fM cD (V (tW (k := a) (z := 0) (vf := (fun (x : Int) => (Value.int .i64 x))) Bj cT dF rfl rfl (y.at (fun b o m => d.has.2 b o (Ml m)))) (Wm (Wx rfl (Wx rfl ?_)))))))))))
 refine Wa (Wa (ln ?_))
 replace d := d.gy (Dr (Db St))
 refine sg (Wm (Wm (Wa (Wa (lt ?_)))))
 obtain rfl := sj hm
 exact w5 (v := (.int .i64 (iP iD D.1 a 0))) (u := (.bool ((gV iD D.1 a).isSome))) rfl rfl rfl ⟨rfl, d.ex⟩
theorem u1 (c : Value) (g : List gu) (r : Int) (w : World) (i : Sl (Pl gv) 9 (hp w) c g) (hm : pn g = some r) :
  iA false pg0 20 [c] w (.int .i64 r) := by
 refine cG 11 func20 rfl (fun b => sg (Wa (lr (Wm (bS hm fun G k hm => ?_)))))
 refine VE (vS b (cK _) call62 (fun _ _ _ _ => (uv c g _ _ (i.mono (Pl.mono _) b.iH) k)) (fun D H I B b t h d j => ?_) (L0 := []))
 obtain ⟨y, x, a, rfl, u⟩ := j
 replace a := a.symm; subst a
 replace b := b.perm (Tr Tn)
 refine Wm (Wx rfl (Wx rfl (Wa (Wa (ln ?_)))))
 replace b := b.gy (Dr St)
 exact sg (Wm (Wa (lt (rQ hm b))))
theorem sf (a5 : Value) (a0 : List gu) (r : List gr) (w : World) (e2 : Sl (Pl gv) 9 (hp w) a5 a0) (hm : lg a0 = some r) :
  iS false pg0 16 [a5] w 28 gw 2 r := by
 refine qH 59 func16 rfl (fun d => sg (Wa (lr (VE (rk (P := pg0) (fun (x : gr) => (.agg (gw x).toArray)) (fun (x : Int) => (Value.int .i64 x)) d (fun W1 v4 R2 d h5 => Wa (lS ?_)))))))
 refine Wm (bS hm fun r5 h7 hm => VE (nU d call51 (rN a5 a0 _ _ (e2.mono (Pl.mono _) d.iH) h7) (fun W7 h8 ad h4 d h1 af b2 => V (jf aj rfl b2) (Wm (ln (iL (fun i E W => ∃ u H b6, (E 13 = .int .i64 (i : Nat) ∧ E 12 = .int .i64 (r5.length : Nat)) ∧ ST false ia w W ad (h4 ++ (H ++ b6)) ∧ E 0 = a5 ∧ E 3 = v4 ∧ E 11 = h8 ∧ gW (fun (x : gr) => (.agg (gw x).toArray)) (fun (x : Int) => (Value.int .i64 x)) v4 u H ∧ jt a0 (r5.drop i) u = some r) r5.length b2.len ⟨([]), R2, _, ⟨rfl, rfl⟩, (d.gy St), rfl, rfl, rfl, h5, hm⟩ dc dc dc (fun _ _ _ h => by obtain ⟨_, _, _, L, _⟩ := h; exact L) ?_ ?_))))))
 ·rintro h2 E W f7 ⟨u, H, b6, ⟨s, A⟩, d, O, M, a2, K, c⟩
  obtain ⟨g, i8, g3, d4, b3⟩ := iB f7
  let e0 := ((iP gB u g.Head 0) + 1)
  rw [g3] at c
  refine bg (VQ (iW (i := (h2 : Int)) (x0 := g) aj ae a2 s b2 (ay _) d4) (fun k4 g1 => V (gA rfl (kH d.has (fun p q => (Ml q)) b2 ic g1 d4 aN ae)) (VE (iZ d aT (fun j5 k2 d => VO (ib (.agg (gv g).toArray) ((gv g).toArray) d rfl rfl ae (jF g) nb rfl (fun j6 d => lr (Wf jN (VB d Mh rfl rfl bI (Wi rfl (gT ?_)))))))))))
  refine gI (CI c rfl (fun f6 c => ?_) (fun f6 c => ?_))
  ·replace d := d.drew
   have m := d.has.gy (Kb Sn)
   refine iI m ij (X 0 rfl m (gF M) (X 1 rfl m (gE jT rfl) (XH 2 rfl m (fun _ n => gA rfl (gK n Mh (gw g.Head) rfl au ag)) (ET 3 5 rfl rfl kr (.inl rfl) (.inl rfl) rfl rfl dc dc ?_ ?_))))
   ·refine .inl ⟨_, _, oz (k := g.Head) (z := 0) (vf := (fun (x : Int) => (Value.int .i64 x))) nZ eA dF rfl rfl (K.at (fun b o q => d.has.2 b o (Mt (Ma (Ml q))))), ⟨m, (X 4 rfl m (jm rfl rfl rfl) ?_)⟩⟩
    replace d := d.perm (Nr (Qb (Qr Qz)) Nz)
    refine XE 5 rfl (vO (k := g.Head) (x0 := 0) (vf := (fun (x : Int) => (Value.int .i64 x))) gC nZ eA dF d K rfl rfl (fun j7 i4 j3 d f3 => ?_))
    have m := d.has.gy (Dr (Kb Sn))
    refine ⟨m, (X 6 rfl m (oB rfl rfl) (XO 7 rfl (ux (z := (wi0 .i64 e0)) gC nZ d f3 rfl rfl rfl (fun j8 g8 d f4 => ?_))))⟩
    have m := d.has.gy (Dr (Kb Sn))
    refine ⟨m, (iU kr (im (gI ?_)))⟩
    replace d := d.gy (Kr (Db St))
    exact ⟨s, (iN gB u g.Head (wi0 .i64 e0)), g8, _, ⟨rfl, A⟩, (d.gy (Sr (Qr Qz) St)), O, M, a2, f4, (by rw [b3]; exact c)⟩
   ·replace d := d.perm (Nr (Qb (Qr Qz)) Nz)
    refine vO (k := g.Head) (x0 := 0) (vf := (fun (x : Int) => (Value.int .i64 x))) gC nZ eA dF d K rfl rfl (fun j9 i5 j4 d d2 => ?_)
    have m := d.has.gy (Dr (Kb Sn))
    refine ⟨m, (X 6 rfl m (oB rfl rfl) (XE 3 rfl (.inl ⟨_, _, zh (k := g.Head) (x0 := 0) (vf := (fun (x : Int) => (Value.int .i64 x))) gC nZ eA dF rfl rfl d2 (fun b o q => d.has.2 b o (Ml q)), ⟨m, (X 4 rfl m (jm rfl rfl rfl) (XO 7 rfl (ux (z := (wi0 .i64 e0)) gC nZ d d2 rfl rfl rfl (fun k0 g9 d f5 => ?_))))⟩⟩)))⟩
    have m := d.has.gy (Dr (Kb Sn))
    refine ⟨m, (iU kr (im (gI ?_)))⟩
    replace d := d.gy (Kr (Db St))
    exact ⟨s, (iN gB u g.Head (wi0 .i64 e0)), g9, _, ⟨rfl, A⟩, (d.gy (Sr (Qr Qz) St)), O, M, a2, f5, (by rw [b3]; exact c)⟩
  refine iv (im (gI ?_))
  replace d := d.gy (Db St)
  exact ⟨s, u, H, _, ⟨rfl, A⟩, (d.gy St), O, M, a2, K, (by rw [b3]; exact c)⟩
 rintro E W ⟨u, H, b6, ⟨s, A⟩, d, O, M, a2, K, c⟩
 rw [aI] at c
 refine gI ?_
 replace d := d.gy (Dr St)
 refine sg (Wa (lS (Wh O (bS c fun a4 g2 c => VE (nU d call12 (qp a5 a0 _ _ (e2.mono (Pl.mono _) (h1.trans d.iH)) g2) (fun k1 c0 b5 b7 d h6 ab Y => V (jf cI rfl Y) (Wm (ln ?_))))))))
 refine CJ c (fun b9 E W => ∃ b4 a9 d9, ST false ia w W b5 (a9 ++ d9) ∧ E 6 = b4 ∧ gM 28 gw 2 b4 b9 a9) (fun b9 g0 => ?_) ?_
 ·refine iL (fun i E W => ∃ G a3 D a8, (E 31 = .int .i64 (i : Nat) ∧ E 30 = .int .i64 (a4.length : Nat)) ∧ ST false ia w W b5 (D ++ (b7 ++ (H ++ a8))) ∧ E 3 = v4 ∧ E 6 = G ∧ E 29 = c0 ∧ gM 28 gw 2 G a3 D ∧ kj u (a4.drop i) a3 = some b9) a4.length Y.len ⟨(.slice none 0 0), ([]), [], _, ⟨rfl, rfl⟩, (d.gy St), M, rfl, rfl, (gM.nil _ _ _), g0⟩ dc dc dc (fun _ _ _ h => by obtain ⟨_, _, _, _, L, _⟩ := h; exact L) ?_ ?_
  ·rintro b8 E W f8 ⟨G, a3, D, a8, ⟨s, A⟩, d, b0, Q, T, Z, y⟩
   obtain ⟨t, i9, g4, d5, d6⟩ := iB f8
   rw [g4] at y
   refine bg (VQ (iW (i := (b8 : Int)) (x0 := t) cI bJ T s Y (ay _) d5) (fun i3 e6 => V (gA rfl (kH d.has (fun p q => (Ma (Ml q))) Y pu e6 d5 ef bJ)) (VE (iZ d cN (fun h9 N d => VO (ib (.agg (gH t).toArray) ((gH t).toArray) d rfl rfl bJ (lN t) nb rfl (fun i0 d => ln (gO ?_))))))))
   replace d := d.drew
   have m := d.has.gy (Kb (Dr (Dr (Kr Sn))))
   refine iI m ij (X 0 rfl m (gE wP rfl) (XH 1 rfl m (fun _ n => gA rfl (gN n Mh rfl bI)) (X 2 rfl m (jm rfl rfl rfl) (X 3 rfl m (gF rfl) (PJ y (fun d8 E W => ∃ c1, ST false ia w W b5 ((N, Ol (gH t) 30) :: (D ++ (b7 ++ (H ++ c1)))) ∧ E 3 = v4 ∧ E 6 = G ∧ E 8 = (.pointer (some ⟨N, 0, none⟩)) ∧ E 29 = c0 ∧ E 30 = (.int .i64 (a4.length : Int)) ∧ E 31 = (.int .i64 (b8 : Int)) ∧ E 42 = (.bool d8)) (bm 17 255) 9 ?_ (fun d8 J a7 => ?_))))))
   ·rintro i6 E W ⟨c1, d, b1, c3, U, c4, c5, c6, f0⟩ e5
    have m := d.has.gy (Kb (Dr (Dr (Kr Sn))))
    refine X 8 rfl m (gF f0) (PJ e5 (fun d7 E W => ∃ c2, ST false ia w W b5 ((N, Ol (gH t) 30) :: (D ++ (b7 ++ (H ++ c2)))) ∧ E 3 = v4 ∧ E 6 = G ∧ E 8 = (.pointer (some ⟨N, 0, none⟩)) ∧ E 29 = c0 ∧ E 30 = (.int .i64 (a4.length : Int)) ∧ E 31 = (.int .i64 (b8 : Int)) ∧ E 51 = (.bool d7)) (bm 17 131071) 0 ?_ (fun d7 I a6 => ?_))
    ·rintro i7 E W ⟨c2, d, c7, c8, f1, c9, d0, d1, f2⟩ B
     refine iU kr (gI (CI B f2 (fun e3 B => ?_) (fun e3 B => ?_)))
     ·refine gJ (Wh c8 (V (gE tu f1) (VA d Mh (gw t.gr) au ag (VE (ig (cs := (gw t.gr).toArray) d (lk rfl) (kz bZ ag cw) (fun i1 e9 d => ?_))))))
      replace d := d.perm (Nr (Qb (Qb Qz)) Nz)
      refine bS B fun g5 e4 B => VE (jJ (enc := gw) (v := G) (vs := (.slice (some ⟨e9, 0, none⟩) 1 1)) (R := D) d qf dc nx bZ oN.1 oN.2.1 rfl oN.2.2.1 oN.2.2.2 rfl rfl Z (Sl.lit (enc := gw) (l := [t.gr]) qf rfl nb rfl (d.at_ (Ma Mh))) e4 (fun i2 g6 e8 d e1 => Wa (gT (im (gI ?_)))))
      replace d := d.gy (Kr (Db (Db St)))
      exact ⟨d1, g6, g5, e8, _, ⟨rfl, d0⟩, (d.gy St), c7, rfl, c9, e1, (by rw [d6]; exact B)⟩
     refine iv (im (gI ?_))
     replace d := d.gy (Db St)
     exact ⟨d1, G, a3, D, _, ⟨rfl, d0⟩, (d.gy St), c7, c8, c9, Z, (by rw [d6]; exact B)⟩
    refine bC I (fun a I => ?_) (fun a I => ?_)
    ·refine Xg 9 rfl rfl (cB a) m (gF b1) (Xg 10 rfl rfl (cB a) m (gE tu U) (pJ 11 rfl rfl (cB a) m (fun _ n => gA rfl (gK n Mh (gw t.gr) rfl au ag)) (pJ 12 rfl rfl (cB a) m (fun _ n => oz (k := t.gr) (z := 0) (vf := (fun (x : Int) => (Value.int .i64 x))) nZ eA dF rfl rfl (K.at (fun b o q => n.2 b o (Mt (Ml q))))) (Xg 13 rfl rfl (cB a) m (gE wP U) (pJ 14 rfl rfl (cB a) m (fun _ n => gA rfl (gN n Mh rfl bI)) (Xg 15 rfl rfl (cB a) m (jm rfl rfl rfl) (X 16 rfl m (gQ (cB a) rfl) ?_)))))))
     obtain rfl := sj I
     refine jv kr (a6 _ _ ⟨_, (d.gy St), b1, c3, U, c4, c5, c6, rfl⟩)
    refine Xn 9 rfl rfl (cB a) m (Xn 10 rfl rfl (cB a) m (Xn 11 rfl rfl (cB a) m (Xn 12 rfl rfl (cB a) m (Xn 13 rfl rfl (cB a) m (Xn 14 rfl rfl (cB a) m (Xn 15 rfl rfl (cB a) m (X 16 rfl m (gP (cB a) rfl) ?_)))))))
    obtain rfl := sj I
    refine jv kr (a6 _ _ ⟨_, (d.gy St), b1, c3, U, c4, c5, c6, rfl⟩)
   refine bC J (fun j J => ?_) (fun j J => ?_)
   ·refine Xg 4 rfl rfl (cB j) m (gE u3 rfl) (pJ 5 rfl rfl (cB j) m (fun _ n => gA rfl (gN n Mh rfl bI)) (Xg 6 rfl rfl (cB j) m (jm rfl rfl rfl) (X 7 rfl m (gQ (cB j) rfl) ?_)))
    obtain rfl := sj J
    refine jv kr (a7 _ _ ⟨_, (d.gy St), b0, Q, rfl, T, A, s, rfl⟩)
   refine Xn 4 rfl rfl (cB j) m (Xn 5 rfl rfl (cB j) m (Xn 6 rfl rfl (cB j) m (X 7 rfl m (gP (cB j) rfl) ?_)))
   obtain rfl := sj J
   refine jv kr (a7 _ _ ⟨_, (d.gy St), b0, Q, rfl, T, A, s, rfl⟩)
  rintro E W ⟨G, a3, D, a8, ⟨s, A⟩, d, b0, Q, T, Z, y⟩
  rw [aI] at y
  refine gI ?_
  obtain rfl := sj y
  exact ⟨G, D, _, (d.gy (Kr (Dr (Dr St)))), Q, Z⟩
 rintro k3 E W ⟨b4, a9, d9, d, h0, d3⟩ f9
 refine sg (Wh h0 (Wa (lt ?_)))
 obtain rfl := sj f9
 exact iC (v := b4) rfl rfl ⟨_, a9, rfl, d.kp (fun p q => (Ml q)) d3.nd, d3⟩
set_option maxHeartbeats 4000000 in
theorem yk (r : Bool) (w : World) (hm : oO  = some r) :
  iA false pg0 10 [] w (.bool r) := by
 refine cG 76 func10 rfl (fun n => sg (Wa (lr (V (kO (v := (.agg (gw K7).toArray)) (nC rfl rfl) (jH cw bt (zw _ bt) kr)) (V (kO (v := (.agg (gw K6).toArray)) (nC rfl rfl) (jH cw bt (zw _ bt) kr)) (VE (iZ n cw (fun W2 b1 n => VE (iZ n cw (fun W4 o n => ?_))))))))))
 replace n := n.perm (Nb (Pb Pz) Nz)
 refine VO (ib (.agg (gw K7).toArray) ((gw K7).toArray) n rfl rfl ag (nx K7) nb rfl (fun W5 n => ?_))
 replace n := n.perm (Nb (Pb Pz) Nz)
 refine VO (ib (.agg (gw K6).toArray) ((gw K6).toArray) n rfl rfl ag (nx K6) nb rfl (fun W6 n => lr (VA n (Mt Mh) (gw K7) au ag (VA n Mh (gw K6) au ag (V (kO (v := (.agg (gv tA).toArray)) (zL rfl rfl rfl) (jH aT bF (Bl _ bF) kr)) (VA n Mh (gw K6) au ag (V (kO (v := (.agg (gv tI).toArray)) (zL rfl rfl rfl) (jH aT bF (Bl _ bF) kr)) (VE (ig (cs := C1.toArray) n (nC rfl rfl) (kz aj ae aT) (fun W8 u n => Wa (ln (gO ?_))))))))))))
 refine gJ (Wm (bS hm fun r9 i7 hm => VE (nU n call12 (qp (.slice (some ⟨u, 0, none⟩) 2 2) ([tA, tI]) _ _ (Sl.lit (enc := gv) (l := [tA, tI]) ic rfl nb rfl (n.at_ Mh)) i7) (fun l8 m3 T Q n j6 ao P => Wa (lr (Wm (bS hm fun x i8 hm => VE (Eg n call14 (vX (.slice (some ⟨u, 0, none⟩) 2 2) ([tA, tI]) _ _ (Sl.lit (enc := gv) (l := [tA, tI]) ic rfl nb rfl (n.at_ (Ma Mh))) i8) (fun l9 n => Wm (Wx rfl (Wx rfl ?_)))))))))))
 let a0 : Value := (.slice (some ⟨u, 0, none⟩) 2 2)
 refine VE (iZ n cN (fun m0 G n => VO (ib (.agg (gH x.1).toArray) ((gH x.1).toArray) n rfl rfl bJ (lN x.1) nb rfl (fun m1 n => Wa (lr (Wm (VA n (Mt (Ma (Mt (Mt Mh)))) (gw K7) au ag (V (kO (v := (.agg (gL (⟨K7, K5⟩ : gx)).toArray)) (nC rfl rfl) (jH cM bi (xq _ bi) kr)) (bS hm fun Y i9 hm => VE (Eg n call18 (uQ a0 ([tA, tI]) (⟨K7, K5⟩ : gx) _ _ (Sl.lit (enc := gv) (l := [tA, tI]) ic rfl nb rfl (n.at_ (Mt (Ma Mh)))) i9) (fun m2 n => Wm (Wx rfl (Wx rfl ?_)))))))))))))
 refine Wa (Wa (ln ?_))
 replace n := n.gy (Kb (Kr (Kb (Kb (Db St)))))
 refine gO ?_
 replace n := n.drew
 have d := n.has.gy (Kb (Kr (Db (Kb Sn))))
 refine iI d ij (X 0 rfl d (gF rfl) (X 1 rfl d (jf cI rfl P) (X 2 rfl d (jm rfl rfl rfl) (X 3 rfl d (gF rfl) (PJ hm (fun f5 E W => ∃ c1, ST false ia w W T ((G, Ol (gH x.1) 30) :: ((u, Ol C1 108) :: ((o, Ol (gw K6) 28) :: (Q ++ c1)))) ∧ E 0 = (.bool false) ∧ E 2 = (.pointer (some ⟨o, 0, none⟩)) ∧ E 3 = a0 ∧ E 5 = (.pointer (some ⟨G, 0, none⟩)) ∧ E 6 = (.bool x.2) ∧ E 7 = (.int .i64 Y.1) ∧ E 8 = (.bool Y.2) ∧ E 41 = (.bool f5)) (bm 46 2047) 35 ?_ (fun f5 D b4 => ?_))))))
 ·let j1 := ((gw K6).toArray : Array Value)
  let q := ((gH x.1).toArray : Array Value)
  rintro k9 E W ⟨c1, n, c9, d0, d1, d2, h3, d3, d4, h4⟩ f9
  have d := n.has.gy (Kb (Db (Sr (Qb Qz) (Kb Sn))))
  refine X 11 rfl d (gF h4) (PJ f9 (fun f4 E W => ∃ c2, ST false ia w W T ((G, Obj.cells q 30 (0, 0)) :: ((u, Ol C1 108) :: ((o, Obj.cells j1 28 (0, 0)) :: (Q ++ c2)))) ∧ E 0 = (.bool false) ∧ E 2 = (.pointer (some ⟨o, 0, none⟩)) ∧ E 3 = a0 ∧ E 5 = (.pointer (some ⟨G, 0, none⟩)) ∧ E 7 = (.int .i64 Y.1) ∧ E 8 = (.bool Y.2) ∧ E 44 = (.bool f4)) (bm 46 16383) 32 ?_ (fun f4 N b2 => ?_))
  ·rintro l0 E W ⟨c2, n, d5, h5, d6, h6, d7, d8, h7⟩ g0
   have d := n.has.gy (Kb (Db (Sr (Qb Qz) (Kb Sn))))
   refine X 14 rfl d (gF h7) (PJ g0 (fun f3 E W => ∃ c3, ST false ia w W T ((G, Obj.cells q 30 (0, 0)) :: ((u, Ol C1 108) :: ((o, Obj.cells j1 28 (0, 0)) :: (Q ++ c3)))) ∧ E 0 = (.bool false) ∧ E 3 = a0 ∧ E 7 = (.int .i64 Y.1) ∧ E 8 = (.bool Y.2) ∧ E 50 = (.bool f3)) (bm 46 1048575) 26 ?_ (fun f3 M b0 => ?_))
   ·rintro l1 E W ⟨c3, n, d9, e0, e1, h8, h9⟩ g1
    have d := n.has.gy (Kb (Db (Sr (Qb Qz) (Kb Sn))))
    refine X 20 rfl d (gF h9) (PJ g1 (fun f2 E W => ∃ c4, ST false ia w W T ((G, Obj.cells q 30 (0, 0)) :: ((u, Ol C1 108) :: ((o, Obj.cells j1 28 (0, 0)) :: (Q ++ c4)))) ∧ E 0 = (.bool false) ∧ E 3 = a0 ∧ E 7 = (.int .i64 Y.1) ∧ E 53 = (.bool f2)) (bm 46 8388607) 23 ?_ (fun f2 K a9 => ?_))
    ·rintro l2 E W ⟨c4, n, e2, e3, i0, i1⟩ g2
     have d := n.has.gy (Kb (Db (Sr (Qb Qz) (Kb Sn))))
     refine X 23 rfl d (gF i1) (PJ g2 (fun f1 E W => ∃ c5, ST false ia w W T ((G, Obj.cells q 30 (0, 0)) :: ((u, Ol C1 108) :: ((o, Obj.cells j1 28 (0, 0)) :: (Q ++ c5)))) ∧ E 0 = (.bool false) ∧ E 3 = a0 ∧ E 57 = (.bool f1)) (bm 46 134217727) 19 ?_ (fun f1 J a8 => ?_))
     ·rintro l3 E W ⟨c5, n, e4, L, i2⟩ g3
      have d := n.has.gy (Kb (Db (Sr (Qb Qz) (Kb Sn))))
      refine X 27 rfl d (gF i2) (PJ g3 (fun f0 E W => ∃ c6, ST false ia w W T ((G, Obj.cells q 30 (0, 0)) :: ((u, Ol C1 108) :: ((o, Obj.cells j1 28 (0, 0)) :: (Q ++ c6)))) ∧ E 0 = (.bool false) ∧ E 3 = a0 ∧ E 62 = (.bool f0)) (bm 46 4294967295) 14 ?_ (fun f0 B a7 => ?_))
      ·rintro l4 E W ⟨c6, n, e5, O, i3⟩ g4
       have d := n.has.gy (Kb (Db (Sr (Qb Qz) (Kb Sn))))
       refine X 32 rfl d (gF i3) (PJ g4 (fun e9 E W => ∃ Z c7, gZ T Z ∧ ST false ia w W Z ((G, Obj.cells q 30 (0, 0)) :: ((u, Ol C1 108) :: ((o, Obj.cells j1 28 (0, 0)) :: (Q ++ c7)))) ∧ E 0 = (.bool false) ∧ E 3 = a0 ∧ E 68 = (.bool e9)) (bm 46 274877906943) 8 ?_ (fun e9 z a6 => ?_))
       ·rintro l5 E W ⟨Z, c7, U, n, e6, i4, i5⟩ g5
        have d := n.has.tY U (Kb (Db (Sr (Qb Qz) (Kb Sn))))
        refine X 38 rfl d (gF i5) (PJ g5 (fun e8 E W => ∃ b9 c8, gZ Z b9 ∧ ST false ia w W b9 ((G, Obj.cells q 30 (0, 0)) :: ((o, Obj.cells j1 28 (0, 0)) :: (Q ++ c8))) ∧ E 0 = (.bool false) ∧ E 75 = (.bool e8)) (bm 46 35184372088831) 1 ?_ (fun e8 t a5 => ?_))
        ·rintro l6 E W ⟨b9, c8, e7, n, k2, i6⟩ g6
         have d := n.has.tY (U.trans e7) (Kb (Sr (Qb Qz) (Kb Sn)))
         refine X 45 rfl d (jU i6) (iU kr (gI ?_))
         exact iq (rQ g6 n)
        refine bC t (fun c t => ?_) (fun c t => ?_)
        ·refine Xg 39 rfl rfl (cB c) d (gF i4) ?_
         replace n := n.perm (Nb (Pb Pz) Nz)
         have j5 : Fr w.heap.size a0 := Fr.box n Mh
         obtain ⟨l7, n, a2, ab, h2⟩ := ST.wz (R := [(u, Ol C1 108)]) n (gM.lit (l := [tA, tI]) (enc := gv) (b := u) (m := 2) rfl dc rfl rfl) ic
         refine bS t fun _ c0 t => A2 40 rfl kr (.inr ⟨38, true, 69, rfl, rfl, by decide, (cB c)⟩) rfl dc (fun _ _ h => h) d (tb (i := 1) aj ae rfl rfl h2 (pT c0) (pP c0)) (fun j0 h1 => bS t fun k4 g8 t => xT 41 rfl rfl (cB c) (nU n call16 (sf j0 (([tA, tI]).drop (Int.toNat 1)) _ _ (h1.1.mono (Pl.mono _) n.iH) g8) (fun j9 k7 j3 j7 n a3 ad f7 => ?_)))
         have d := n.has.tY ((U.trans a2).trans a3) (Dr (Kb (Sr (Qb Qz) (Kb Sn))))
         refine ⟨d, (Xg 42 rfl rfl (cB c) d (jf bZ rfl f7) (Xg 43 rfl rfl (cB c) d (jm rfl rfl rfl) (X 44 rfl d (gQ (cB c) rfl) ?_)))⟩
         obtain rfl := sj t
         refine jv kr (a5 _ _ ⟨j3, _, (a2.trans a3), (n.gy (Dr St)), e6, rfl⟩)
        refine Xn 39 rfl rfl (cB c) d (Xn 40 rfl rfl (cB c) d (Xn 41 rfl rfl (cB c) d (Xn 42 rfl rfl (cB c) d (Xn 43 rfl rfl (cB c) d (X 44 rfl d (gP (cB c) rfl) ?_)))))
        obtain rfl := sj t
        refine jv kr (a5 _ _ ⟨Z, _, (gZ.refl _), (n.gy (Kb (Db St))), e6, rfl⟩)
       refine bC z (fun j z => ?_) (fun j z => ?_)
       ·refine Xg 33 rfl rfl (cB j) d (gF O) (bS z fun k5 g9 z => xT 34 rfl rfl (cB j) (nU n call16 (sf a0 ([tA, tI]) _ _ (Sl.lit (enc := gv) (l := [tA, tI]) ic rfl nb rfl (n.at_ (Mt Mh))) g9) (fun k0 k8 j4 j8 n a4 af f8 => ?_)))
        have d := n.has.tY a4 (Dr (Kb (Db (Sr (Qb Qz) (Kb Sn)))))
        refine ⟨d, (Xg 35 rfl rfl (cB j) d (jf bZ rfl f8) (Xg 36 rfl rfl (cB j) d (jm rfl rfl rfl) (X 37 rfl d (gQ (cB j) rfl) ?_)))⟩
        obtain rfl := sj z
        refine jv kr (a6 _ _ ⟨j4, _, a4, (n.gy (Dr St)), e5, O, rfl⟩)
       refine Xn 33 rfl rfl (cB j) d (Xn 34 rfl rfl (cB j) d (Xn 35 rfl rfl (cB j) d (Xn 36 rfl rfl (cB j) d (X 37 rfl d (gP (cB j) rfl) ?_))))
       obtain rfl := sj z
       refine jv kr (a6 _ _ ⟨T, _, (gZ.refl _), (n.gy St), e5, O, rfl⟩)
      refine bC B (fun k B => ?_) (fun k B => ?_)
      ·refine Xg 28 rfl rfl (cB k) d (gF L) (bS B fun k6 h0 B => xT 29 rfl rfl (cB k) (Eg n call20 (u1 a0 ([tA, tI]) _ _ (Sl.lit (enc := gv) (l := [tA, tI]) ic rfl nb rfl (n.at_ (Mt Mh))) h0) (fun k1 n => ?_)))
       have d := n.has.gy (Kb (Db (Sr (Qb Qz) (Kb Sn))))
       refine ⟨d, (Xg 30 rfl rfl (cB k) d (jm rfl rfl rfl) (X 31 rfl d (gQ (cB k) rfl) ?_))⟩
       obtain rfl := sj B
       refine jv kr (a7 _ _ ⟨_, (n.gy St), e4, L, rfl⟩)
      refine Xn 28 rfl rfl (cB k) d (Xn 29 rfl rfl (cB k) d (Xn 30 rfl rfl (cB k) d (X 31 rfl d (gP (cB k) rfl) ?_)))
      obtain rfl := sj B
      refine jv kr (a7 _ _ ⟨_, (n.gy St), e4, L, rfl⟩)
     refine bC J (fun y J => ?_) (fun y J => ?_)
     ·refine Xg 24 rfl rfl (cB y) d (gF i0) (Xg 25 rfl rfl (cB y) d (jm rfl rfl rfl) (X 26 rfl d (gQ (cB y) rfl) ?_))
      obtain rfl := sj J
      refine jv kr (a8 _ _ ⟨_, (n.gy St), e2, e3, rfl⟩)
     refine Xn 24 rfl rfl (cB y) d (Xn 25 rfl rfl (cB y) d (X 26 rfl d (gP (cB y) rfl) ?_))
     obtain rfl := sj J
     refine jv kr (a8 _ _ ⟨_, (n.gy St), e2, e3, rfl⟩)
    refine bC K (fun I K => ?_) (fun I K => ?_)
    ·refine Xg 21 rfl rfl (cB I) d (gF h8) (X 22 rfl d (gQ (cB I) rfl) ?_)
     obtain rfl := sj K
     refine jv kr (a9 _ _ ⟨_, (n.gy St), d9, e0, e1, rfl⟩)
    refine Xn 21 rfl rfl (cB I) d (X 22 rfl d (gP (cB I) rfl) ?_)
    obtain rfl := sj K
    refine jv kr (a9 _ _ ⟨_, (n.gy St), d9, e0, e1, rfl⟩)
   refine bC M (fun g M => ?_) (fun g M => ?_)
   ·refine Xg 15 rfl rfl (cB g) d (gE tu h6) (pJ 16 rfl rfl (cB g) d (fun _ s => gA rfl (gK s Mh (gw x.1.gr) rfl au ag)) (pJ 17 rfl rfl (cB g) d (fun _ s => gA h5 (gK s (Mt (Ma Mh)) (gw K6) rfl au ag)) (Xg 18 rfl rfl (cB g) d (qU rfl rfl (ms dT) (oV (mI _ x.1.gr K6))) (X 19 rfl d (gQ (cB g) rfl) ?_))))
    obtain rfl := sj M
    refine jv kr (b0 _ _ ⟨_, (n.gy St), d5, d6, d7, d8, rfl⟩)
   refine Xn 15 rfl rfl (cB g) d (Xn 16 rfl rfl (cB g) d (Xn 17 rfl rfl (cB g) d (Xn 18 rfl rfl (cB g) d (X 19 rfl d (gP (cB g) rfl) ?_))))
   obtain rfl := sj M
   refine jv kr (b0 _ _ ⟨_, (n.gy St), d5, d6, d7, d8, rfl⟩)
  refine bC N (fun H N => ?_) (fun H N => ?_)
  ·refine Xg 12 rfl rfl (cB H) d (gF h3) (X 13 rfl d (gQ (cB H) rfl) ?_)
   obtain rfl := sj N
   refine jv kr (b2 _ _ ⟨_, (n.gy St), c9, d0, d1, d2, d3, d4, rfl⟩)
  refine Xn 12 rfl rfl (cB H) d (X 13 rfl d (gP (cB H) rfl) ?_)
  obtain rfl := sj N
  refine jv kr (b2 _ _ ⟨_, (n.gy St), c9, d0, d1, d2, d3, d4, rfl⟩)
 refine bC D (fun a D => ?_) (fun a D => ?_)
 ·refine Xg 4 rfl rfl (cB a) d (gF rfl) (bS D fun f6 A D => A2 5 rfl kr (.inr ⟨3, true, 34, rfl, rfl, by decide, (cB a)⟩) rfl dc (fun _ _ h => h) d (iW (i := 1) (x0 := f6) cI bJ rfl rfl P (jk A) (iF A)) (fun k3 g7 => pJ 6 rfl rfl (cB a) d (fun _ s => gA rfl (kH s (fun p hq => (Mt (Ml hq))) P pu g7 (iF A) ef bJ)) (pJ 7 rfl rfl (cB a) d (fun _ s => gA rfl (gK s (Mt (Ma Mh)) (gw K6) rfl au ag)) (Xg 8 rfl rfl (cB a) d (kO (v := (.agg (gH (⟨K6, 1, 1, 1⟩ : gD)).toArray)) (yP rfl rfl rfl rfl) (jH cN cz (EF _ cz) kr)) (Xg 9 rfl rfl (cB a) d (qU rfl rfl (ms eqGuardType30) (oV (AW _ f6 (⟨K6, 1, 1, 1⟩ : gD)))) (X 10 rfl d (gQ (cB a) rfl) ?_))))))
  obtain rfl := sj D
  refine jv kr (b4 _ _ ⟨_, (n.gy (Kb (Sb (Pr Pz) (Sb (Pr Pz) St)))), rfl, rfl, rfl, rfl, rfl, rfl, rfl, rfl⟩)
 refine Xn 4 rfl rfl (cB a) d (Xn 5 rfl rfl (cB a) d (Xn 6 rfl rfl (cB a) d (Xn 7 rfl rfl (cB a) d (Xn 8 rfl rfl (cB a) d (Xn 9 rfl rfl (cB a) d (X 10 rfl d (gP (cB a) rfl) ?_))))))
 obtain rfl := sj D
 refine jv kr (b4 _ _ ⟨_, (n.gy (Kb (Sb (Pr Pz) (Sb (Pr Pz) St)))), rfl, rfl, rfl, rfl, rfl, rfl, rfl, rfl⟩)
theorem yz (k : Value) (u : List gu) (r : Int) (w : World) (j : Sl (Pl gv) 9 (hp w) k u) (hm : rB u = some r) :
  iA true pg0 11 [k] w (.int .i64 r) := by
 refine cG 54 func11 rfl (fun b => sg (Wa (lr (Wa (lS (Wm ?_))))))
 refine V (lB aj rfl j) (Wm (ln (iL (fun i E W => ∃ g t, (E 8 = .int .i64 (i : Nat) ∧ E 7 = .int .i64 (u.length : Nat)) ∧ ST true ia w W (hp w) t ∧ E 3 = (.int .i64 g) ∧ E 6 = k ∧ lc (u.drop i) g = some r) u.length j.len ⟨0, _, ⟨rfl, rfl⟩, (b.gy St), rfl, rfl, hm⟩ dc dc dc (fun _ _ _ h => by obtain ⟨_, _, l, _⟩ := h; exact l) ?_ ?_)))
 ·rintro I E W z ⟨g, t, ⟨d, m⟩, b, x, y, c⟩
  obtain ⟨a, J, G, D, H⟩ := iB z
  rw [G] at c
  refine bg (VQ (jL (enc := gv) (i := (I : Int)) (x0 := a) aj ae y d j (ay _) D) (fun Q B => V (gA rfl (lI b.has B aN ae)) (VE (iZ b aT (fun K N b => VO (ib (.agg (gv a).toArray) ((gv a).toArray) b rfl rfl ae (jF a) nb rfl (fun M b => ln (gJ (Wh x (Wf jT (Wf jY (VB b Mh rfl rfl aF (V (kG aP rfl) ?_)))))))))))))
  refine Wi rfl (Wf jT (Wf ov (VB b Mh rfl rfl aF (V (kG aP rfl) (Wi rfl (Wf mB (VB b Mh rfl rfl aF (V (kG aP rfl) (Wi rfl (Wf iM (Wf jY (VB b Mh rfl rfl aF (V (kG aP rfl) (Wi rfl ?_))))))))))))))
  refine Wf iM (Wf ov (VB b Mh rfl rfl aF (V (kG aP rfl) (Wi rfl (Wf kD (Wf jY (VB b Mh rfl rfl aF (V (kG aP rfl) (Wi rfl (Wf kD (Wf ov (VB b Mh rfl rfl aF (V (kG aP rfl) (Wi rfl ?_))))))))))))))
  refine Wf ma (VB b Mh rfl rfl aF (V (kG aP rfl) (Wi rfl (Wi rfl (Wa (gT (im (gI ?_))))))))
  replace b := b.gy (Db St)
  exact ⟨d, (wi0 .i64 (g + (wi0 .i64 ((wi0 .i64 ((wi0 .i64 ((wi0 .i64 ((wi0 .i64 ((wi0 .i64 ((wi0 .i64 ((wi0 .i64 (20 + (a.Head.gG.size : Int))) + (a.Head.hX.size : Int))) + (a.gU.size : Int))) + (a.B.gG.size : Int))) + (a.B.hX.size : Int))) + (a.C.gG.size : Int))) + (a.C.hX.size : Int))) + (a.gY.size : Int))))), _, ⟨rfl, m⟩, (b.gy St), rfl, y, (by rw [H]; exact c)⟩
 rintro E W ⟨g, t, ⟨d, m⟩, b, x, y, c⟩
 rw [aI] at c
 exact gI (sg (Wh x (Wa (lt (rQ c b)))))
theorem oI (M : ByteArray) (r : Bool) (w : World) (hm : lO M = some r) :
  iA true pg0 138 [(.string M)] w (.bool r) := by
 refine cG 49 func138 rfl (fun b => sg (Wa (lS (Wm (V (mr rfl rfl rfl) (Wm (LJ hm (fun c6 E W => ∃ L3, ST true ia w W (hp w) L3 ∧ E 0 = (.string M) ∧ E 11 = (.bool c6)) 4 ?_ (fun c6 K a5 => ?_))))))))
 ·rintro x2 E W ⟨L3, b, o, e6⟩ f6
  refine Wh e6 (LJ f6 (fun c5 E W => ∃ d2, ST true ia w W (hp w) d2 ∧ E 0 = (.string M) ∧ E 16 = (.bool c5)) 4 ?_ (fun c5 x a4 => ?_))
  ·rintro g3 E W ⟨d2, b, n, f3⟩ e9
   refine Wh f3 (LJ e9 (fun c4 E W => ∃ d3, ST true ia w W (hp w) d3 ∧ E 0 = (.string M) ∧ E 21 = (.bool c4)) 4 ?_ (fun c4 u a3 => ?_))
   ·rintro g4 E W ⟨d3, b, f4, f5⟩ Q
    refine ln (CI Q f5 (fun e8 Q => ?_) (fun e8 Q => ?_))
    ·refine sg (Wa (lt (iw ?_)))
     obtain rfl := sj Q
     exact rP b
    refine kS (Wa (ln (jl (mc (fun m E W => ∃ y v, ST true ia w W (hp w) v ∧ E 0 = (.string M) ∧ E 3 = (.int .i64 y) ∧ kZ M m y = some r) jg ⟨0, _, (b.gy St), f4, rfl, Q⟩ ?_))))
    rintro m E W ⟨y, v, b, T, U, c⟩
    cases m with
    | zero => rw [kZ] at c; cases c
    | succ f0 =>
     refine gO (sg (Wh U (Wh T (V (kG aP rfl) (Wi rfl (ln (CI c rfl (fun c7 c => ?_) (fun c7 c => ?_))))))))
     ·refine kn (gO (bg (Wh T (Wh U (bS c fun d a9 c => V (rS (i := y) aP rfl rfl (qZ a9) (tO a9)) (Wa (lr ?_)))))))
      refine Wm (Wi rfl (Wm (LJ c (fun c3 E W => ∃ A, ST true ia w W (hp w) A ∧ E 0 = (.string M) ∧ E 3 = (.int .i64 y) ∧ E 4 = (.int .u8 (d.toNat : Int)) ∧ E 36 = (.bool c3)) 3 ?_ (fun c3 J a2 => ?_))))
      ·rintro f1 E W ⟨A, b, h, l, N, d4⟩ c9
       refine Wh d4 (LJ c9 (fun c1 E W => ∃ L, ST true ia w W (hp w) L ∧ E 0 = (.string M) ∧ E 3 = (.int .i64 y) ∧ E 4 = (.int .u8 (d.toNat : Int)) ∧ E 44 = (.bool c1)) 7 ?_ (fun c1 H Z => ?_))
       ·rintro g0 E W ⟨L, b, R, b9, d5, d6⟩ d0
        refine Wh d6 (LJ d0 (fun c0 E W => ∃ O, ST true ia w W (hp w) O ∧ E 0 = (.string M) ∧ E 3 = (.int .i64 y) ∧ E 48 = (.bool c0)) 3 ?_ (fun c0 G Y => ?_))
        ·rintro g1 E W ⟨O, b, d7, d8, d9⟩ D
         refine ln (CI D d9 (fun c8 D => ?_) (fun c8 D => ?_))
         ·refine sg (Wa (lt (ko (iw (iw (ko (iw ?_)))))))
          obtain rfl := sj D
          exact rP b
         exact iv (im (gI (gJ (Wh d8 (Wi rfl (Wa (ln ⟨f0, bl _, (wi0 .i64 (y + 1)), _, (b.gy St), d7, rfl, D⟩)))))))
        refine bC G (fun k G => ?_) (fun k G => ?_)
        ·refine ug k (gF d5) (ug k (jm rfl rfl rfl) (V (gQ (cB k) rfl) ?_))
         obtain rfl := sj G
         exact Y _ _ ⟨_, (b.gy St), R, b9, rfl⟩
        refine un k (un k (V (gP (cB k) rfl) ?_))
        obtain rfl := sj G
        exact Y _ _ ⟨_, (b.gy St), R, b9, rfl⟩
       refine bC H (fun a H => ?_) (fun a H => ?_)
       ·refine ug a (gF N) (ug a (jm rfl rfl rfl) (ug a (gF rfl) (LJ H (fun c2 E W => ∃ P, ST true ia w W (hp w) P ∧ E 0 = (.string M) ∧ E 3 = (.int .i64 y) ∧ E 4 = (.int .u8 (d.toNat : Int)) ∧ E 37 = (.bool f1) ∧ E 43 = (.bool c2)) 3 ?_ (fun c2 I p => ?_))))
        ·rintro g2 E W ⟨P, b, e0, e1, e2, e3, e4⟩ d1
         refine V (gQ (e3.trans (cB a)) e4) ?_
         obtain rfl := sj d1
         exact Z _ _ ⟨_, (b.gy St), e0, e1, e2, rfl⟩
        refine bC I (fun t I => ?_) (fun t I => ?_)
        ·refine un t (un t (ug a (gQ (cB t) rfl) ?_))
         obtain rfl := sj I
         exact p _ _ ⟨_, (b.gy St), h, l, N, rfl, rfl⟩
        refine ug t (gF N) (ug t (jm rfl rfl rfl) (ug a (gP (cB t) rfl) ?_))
        obtain rfl := sj I
        exact p _ _ ⟨_, (b.gy St), h, l, N, rfl, rfl⟩
       refine un a (un a (un a (Vu rfl rfl (Vu rfl rfl (un a (V (gP (cB a) rfl) ?_))))))
       obtain rfl := sj H
       exact Z _ _ ⟨_, (b.gy St), h, l, N, rfl⟩
      refine bC J (fun j J => ?_) (fun j J => ?_)
      ·refine un j (un j (V (gQ (cB j) rfl) ?_))
       obtain rfl := sj J
       exact a2 _ _ ⟨_, (b.gy St), T, U, rfl, rfl⟩
      refine ug j (gF rfl) (ug j (jm rfl rfl rfl) (V (gP (cB j) rfl) ?_))
      obtain rfl := sj J
      exact a2 _ _ ⟨_, (b.gy St), T, U, rfl, rfl⟩
     exact ot (ns (ns (sb (gI (sg (Wa (lt (rQ c b))))))))
   refine bC u (fun g u => ?_) (fun g u => ?_)
   ·refine un g (un g (un g (V (gQ (cB g) rfl) ?_)))
    obtain rfl := sj u
    exact a3 _ _ ⟨_, (b.gy St), n, rfl⟩
   refine ug g (gF n) (bS u fun f7 q u => ug g (rS (i := 0) aP rfl rfl (qZ q) (tO q)) (ug g (jm rfl rfl rfl) (V (gP (cB g) rfl) ?_)))
   obtain rfl := sj u
   exact a3 _ _ ⟨_, (b.gy St), n, rfl⟩
  refine bC x (fun B x => ?_) (fun B x => ?_)
  ·refine un B (un B (un B (V (gQ (cB B) rfl) ?_)))
   obtain rfl := sj x
   exact a4 _ _ ⟨_, (b.gy St), o, rfl⟩
  refine ug B (gF o) (bS x fun f8 s x => ug B (rS (i := 0) aP rfl rfl (qZ s) (tO s)) (ug B (jm rfl rfl rfl) (V (gP (cB B) rfl) ?_)))
  obtain rfl := sj x
  exact a4 _ _ ⟨_, (b.gy St), o, rfl⟩
 refine bC K (fun z K => ?_) (fun z K => ?_)
 ·refine un z (un z (un z (V (gQ (cB z) rfl) ?_)))
  obtain rfl := sj K
  exact a5 _ _ ⟨_, (b.gy St), rfl, rfl⟩
 refine ug z (gF rfl) (ug z (kG aP rfl) (ug z (jm rfl rfl rfl) (V (gP (cB z) rfl) ?_)))
 obtain rfl := sj K
 exact a5 _ _ ⟨_, (b.gy St), rfl, rfl⟩
theorem rC (i : gr) (r : Bool) (w : World) (hm : mH i = some r) :
  iA true pg0 88 [(.agg (gw i).toArray)] w (.bool r) := by
 refine cG 11 func88 rfl (fun b => sg (VE (iO b rfl (fun H J b => Wa (lr (Wf jY (VB b Mh rfl rfl aF (bS hm fun K y hm => VE (Eg b call138 (oI i.gG _ _  y) (fun I b => Wm (LJ hm (fun k E W => ∃ j, ST true ia w W (hp w) j ∧ E 2 = (.bool false) ∧ E 10 = (.bool k)) 4 ?_ (fun k a g => ?_))))))))))))
 ·rintro G E W ⟨j, b, B, x⟩ t
  exact Wg x (lt (rQ t b))
 refine bC a (fun c a => ?_) (fun c a => ?_)
 ·refine ug c (gE ov rfl) (ug c (gA rfl (gN b.has Mh rfl aF)) (bS a fun D u a => oK c (Eg b call138 (oI i.hX _ _  u) (fun z b => V (gQ (cB c) rfl) ?_))))
  obtain rfl := sj a
  exact g _ _ ⟨_, (b.gy (Db St)), rfl, rfl⟩
 refine un c (un c (un c (V (gP (cB c) rfl) ?_)))
 obtain rfl := sj a
 exact g _ _ ⟨_, (b.gy (Db St)), rfl, rfl⟩
theorem zP (t u : gr) (r : Bool) (w : World) (hm : nl t u = some r) :
  iA true pg0 107 [(.agg (gw t).toArray), (.agg (gw u).toArray)] w (.bool r) := by
 refine cG 24 func107 rfl (fun b => sg (VE (iO b rfl (fun T Y b => VE (iO b rfl (fun U Z b => Wa (lr (Wf jY (VB b (Mt Mh) rfl rfl aF (Wf jY (VB b Mh rfl rfl aF (V (mr rfl rfl rfl) ?_))))))))))))
 refine Wm (LJ hm (fun z E W => ∃ x, ST true ia w W (hp w) x ∧ E 4 = (.bool false) ∧ E 23 = (.bool z)) 13 ?_ (fun z g j => ?_))
 ·rintro N E W ⟨x, b, M, H⟩ D
  exact Wg H (lt (rQ D b))
 refine bC g (fun a g => ?_) (fun a g => ?_)
 ·refine un a (un a (un a (un a (un a (un a (Vu rfl rfl (Vu rfl rfl (Vu rfl rfl (Vu rfl rfl (Vu rfl rfl (un a (V (gQ (cB a) rfl) ?_))))))))))))
  obtain rfl := sj g
  exact j _ _ ⟨_, (b.gy (Db (Db St))), rfl, rfl⟩
 refine ug a (gE jY rfl) (ug a (gA rfl (gN b.has (Mt Mh) rfl aF)) (ug a (gE jY rfl) (ug a (gA rfl (gN b.has Mh rfl aF)) (ug a (mr rfl rfl rfl) (ug a (gF rfl) (LJ g (fun B E W => ∃ y, ST true ia w W (hp w) y ∧ E 4 = (.bool false) ∧ E 10 = (.bool (kw t.gG u.gG)) ∧ E 22 = (.bool B)) 6 ?_ (fun B i k => ?_)))))))
 ·rintro Q E W ⟨y, b, I, J, K⟩ G
  refine V (gP (J.trans (cB a)) K) ?_
  obtain rfl := sj G
  exact j _ _ ⟨_, (b.gy St), I, rfl⟩
 refine bC i (fun c i => ?_) (fun c i => ?_)
 ·refine ug c (gE ov rfl) (ug c (gA rfl (gN b.has (Mt Mh) rfl aF)) (ug c (gE ov rfl) (ug c (gA rfl (gN b.has Mh rfl aF)) (ug c (mr rfl rfl rfl) (ug a (gQ (cB c) rfl) ?_)))))
  obtain rfl := sj i
  exact k _ _ ⟨_, (b.gy (Db (Db St))), rfl, rfl, rfl⟩
 refine un c (un c (un c (un c (un c (ug a (gP (cB c) rfl) ?_)))))
 obtain rfl := sj i
 exact k _ _ ⟨_, (b.gy (Db (Db St))), rfl, rfl, rfl⟩
theorem ur (g : gu) (r : Bool) (w : World) (hm : nw g = some r) :
  iA true pg0 68 [(.agg (gv g).toArray)] w (.bool r) := by
 refine cG 93 func68 rfl (fun b => sg (VE (iO b rfl (fun W2 M b => Wa (lr (VE (iZ b cw (fun W4 h b => lS ?_))))))))
 refine Wf jT (VA b (Mt Mh) (gw g.Head) au ag (bS hm fun r5 h1 hm => VE (Eg b call88 (rC g.Head _ _  h1) (fun W7 b => V (nY rfl) (ln (CI hm rfl (fun g9 hm => ?_) (fun g9 hm => ?_)))))))
 ·refine sg (Wa (ln ?_))
  replace b := b.gy (Db (Db St))
  refine iq (iw ?_)
  obtain rfl := sj hm
  exact rP b
 refine kS (Wf jN (VB b (Mt Mh) rfl rfl bI (Wi rfl (ln (CI hm rfl (fun h0 hm => ?_) (fun h0 hm => ?_))))))
 ·refine sg (Wf mB (VB b (Mt Mh) rfl rfl aF (bS hm fun i3 f6 hm => VE (Eg b call138 (oI g.gU _ _  f6) (fun i0 b => Wm (LJ hm (fun e0 E W => ∃ c7, ST true ia w W (hp w) ((h, Ol (gw K0) 28) :: ((M, Ol (gv g) 108) :: c7)) ∧ E 1 = (.pointer (some ⟨M, 0, none⟩)) ∧ E 2 = (.bool false) ∧ E 3 = (.pointer (some ⟨h, 0, none⟩)) ∧ E 19 = (.bool e0)) 5 ?_ (fun e0 T o => ?_)))))))
  ·rintro i5 E W ⟨c7, b, l, d5, f8, f9⟩ e9
   refine Wh f9 (LJ e9 (fun d9 E W => ∃ c8, ST true ia w W (hp w) ((M, Ol (gv g) 108) :: c8) ∧ E 1 = (.pointer (some ⟨M, 0, none⟩)) ∧ E 2 = (.bool false) ∧ E 25 = (.bool d9)) 5 ?_ (fun d9 Q a5 => ?_))
   ·rintro i6 E W ⟨c8, b, g0, d6, g1⟩ f0
    refine Wh g1 (LJ f0 (fun d8 E W => ∃ c9, ST true ia w W (hp w) c9 ∧ E 2 = (.bool false) ∧ E 30 = (.bool d8)) 4 ?_ (fun d8 N a4 => ?_))
    ·rintro i7 E W ⟨c9, b, i2, g2⟩ f1
     refine Wg g2 (lt (iw ?_))
     obtain rfl := sj f1
     exact rP b
    refine bC N (fun x N => ?_) (fun x N => ?_)
    ·refine ug x (gE ma g0) (ug x (gA rfl (gN b.has Mh rfl aF)) (ug x (mr rfl rfl rfl) (V (gQ (cB x) rfl) ?_)))
     obtain rfl := sj N
     exact a4 _ _ ⟨_, (b.gy (Db St)), d6, rfl⟩
    refine un x (un x (un x (V (gP (cB x) rfl) ?_)))
    obtain rfl := sj N
    exact a4 _ _ ⟨_, (b.gy (Db St)), d6, rfl⟩
   refine bC Q (fun k Q => ?_) (fun k Q => ?_)
   ·refine ug k (gE kD l) (ug k (gA rfl (gK b.has (Mt Mh) (gw g.C) rfl au ag)) (ug k (gA f8 (gK b.has Mh (gw K0) rfl au ag)) (ug k (qU rfl rfl (ms dT) (oV (mI _ g.C K0))) (V (gQ (cB k) rfl) ?_))))
    obtain rfl := sj Q
    exact a5 _ _ ⟨_, (b.gy (Db St)), l, d5, rfl⟩
   refine un k (un k (un k (un k (V (gP (cB k) rfl) ?_))))
   obtain rfl := sj Q
   exact a5 _ _ ⟨_, (b.gy (Db St)), l, d5, rfl⟩
  refine bC T (fun j T => ?_) (fun j T => ?_)
  ·refine ug j (gE iM rfl) (ug j (gA rfl (gK b.has (Mt Mh) (gw g.B) rfl au ag)) (ug j (gA rfl (gK b.has Mh (gw K0) rfl au ag)) (ug j (qU rfl rfl (ms dT) (oV (mI _ g.B K0))) (V (gQ (cB j) rfl) ?_))))
   obtain rfl := sj T
   exact o _ _ ⟨_, (b.gy St), rfl, rfl, rfl, rfl⟩
  refine un j (un j (un j (un j (V (gP (cB j) rfl) ?_))))
  obtain rfl := sj T
  exact o _ _ ⟨_, (b.gy St), rfl, rfl, rfl, rfl⟩
 let a0 := ((gv g).toArray : Array Value)
 let d : Value := (.pointer (some ⟨M, 0, none⟩))
 refine kS (Wf mB (VB b (Mt Mh) rfl rfl aF (V (mr rfl rfl rfl) (Wm (LJ hm (fun R E W => ∃ d0, ST true ia w W (hp w) ((h, Ol (gw K0) 28) :: ((M, Obj.cells a0 108 (0, 0)) :: d0)) ∧ E 1 = d ∧ E 3 = (.pointer (some ⟨h, 0, none⟩)) ∧ E 39 = (.bool R)) 5 ?_ (fun R I a3 => ?_))))))
 ·rintro i8 E W ⟨d0, b, u, d7, g3⟩ i
  refine ln (CI i g3 (fun e6 i => ?_) (fun e6 i => ?_))
  ·refine sg (Wa (ln ?_))
   replace b := b.gy (Db (Db St))
   refine iq (iw ?_)
   obtain rfl := sj i
   exact rP b
  refine kS (V (gE jN u) (VB b (Mt Mh) rfl rfl bI (Wi rfl (ln (CI i rfl (fun e7 i => ?_) (fun e7 i => ?_))))))
  ·refine sg (V (gE kD u) (VA b (Mt Mh) (gw g.C) au ag (V (gA d7 (gK b.has Mh (gw K0) rfl au ag)) (V (qU rfl rfl (ms dT) (oV (mI _ g.C K0))) (Wm (LJ i (fun e1 E W => ∃ d1, ST true ia w W (hp w) d1 ∧ E 51 = (.bool e1)) 4 ?_ (fun e1 U p => ?_)))))))
   ·rintro i9 E W ⟨d1, b, g4⟩ f2
    refine Wg g4 (lt (iw ?_))
    obtain rfl := sj f2
    exact rP b
   refine bC U (fun y U => ?_) (fun y U => ?_)
   ·refine ug y (gE ma u) (ug y (gA rfl (gN b.has (Mt Mh) rfl aF)) (ug y (mr rfl rfl rfl) (V (gQ (cB y) rfl) ?_)))
    obtain rfl := sj U
    exact p _ _ ⟨_, (b.gy (Db (Db St))), rfl⟩
   refine un y (un y (un y (V (gP (cB y) rfl) ?_)))
   obtain rfl := sj U
   exact p _ _ ⟨_, (b.gy (Db (Db St))), rfl⟩
  refine kS (V (gE jN u) (VB b (Mt Mh) rfl rfl bI (Wi rfl (ln (CI i rfl (fun e8 i => ?_) (fun e8 i => ?_))))))
  ·refine sg (V (gE kD u) (VA b (Mt Mh) (gw g.C) au ag (V (gA d7 (gK b.has Mh (gw K0) rfl au ag)) (V (qU rfl rfl (ms dT) (oV (mI _ g.C K0))) (Wm (LJ i (fun e3 E W => ∃ d2, ST true ia w W (hp w) ((M, Obj.cells a0 108 (0, 0)) :: d2) ∧ E 1 = d ∧ E 67 = (.bool e3)) 8 ?_ (fun e3 Y a9 => ?_)))))))
   ·rintro j0 E W ⟨d2, b, g5, g6⟩ f3
    refine Wh g6 (LJ f3 (fun e2 E W => ∃ d3, ST true ia w W (hp w) d3 ∧ E 72 = (.bool e2)) 4 ?_ (fun e2 J q => ?_))
    ·rintro j3 E W ⟨d3, b, g7⟩ f4
     refine Wg g7 (lt (iw ?_))
     obtain rfl := sj f4
     exact rP b
    refine bC J (fun z J => ?_) (fun z J => ?_)
    ·refine ug z (gE ma g5) (ug z (gA rfl (gN b.has Mh rfl aF)) (bS J fun i4 f7 J => oK z (Eg b call138 (oI g.gY _ _  f7) (fun i1 b => V (gQ (cB z) rfl) ?_))))
     obtain rfl := sj J
     exact q _ _ ⟨_, (b.gy (Db St)), rfl⟩
    refine un z (un z (un z (V (gP (cB z) rfl) ?_)))
    obtain rfl := sj J
    exact q _ _ ⟨_, (b.gy (Db St)), rfl⟩
   refine bC Y (fun a Y => ?_) (fun a Y => ?_)
   ·refine ug a (gE iM u) (ug a (gE jY rfl) (ug a (gA rfl (gN b.has (Mt Mh) rfl aF)) (ug a (gE jT u) (ug a (gE jY rfl) (ug a (gA rfl (gN b.has (Mt Mh) rfl aF)) (ug a (mr rfl rfl rfl) (V (gQ (cB a) rfl) ?_)))))))
    obtain rfl := sj Y
    exact a9 _ _ ⟨_, (b.gy (Db St)), u, rfl⟩
   refine un a (un a (un a (un a (un a (un a (un a (V (gP (cB a) rfl) ?_)))))))
   obtain rfl := sj Y
   exact a9 _ _ ⟨_, (b.gy (Db St)), u, rfl⟩
  refine kn ?_
  replace b := b.gy (Db St)
  refine sg (V (gE jN u) (VB b Mh rfl rfl bI (Wi rfl (Wm (LJ i (fun P E W => ∃ d4, ST true ia w W (hp w) ((M, Obj.cells a0 108 (0, 0)) :: d4) ∧ E 1 = d ∧ E 80 = (.bool P)) 4 ?_ (fun P K a2 => ?_))))))
  ·rintro j4 E W ⟨d4, b, m, g8⟩ f5
   refine Wh g8 (LJ f5 (fun O E W => ∃ s, ST true ia w W (hp w) ((M, Obj.cells a0 108 (0, 0)) :: s) ∧ E 1 = d ∧ E 85 = (.bool O)) 4 ?_ (fun O H n => ?_))
   ·rintro h8 E W ⟨s, b, A, e4⟩ c2
    refine Wh e4 (LJ c2 (fun L E W => ∃ v, ST true ia w W (hp w) v ∧ E 92 = (.bool L)) 6 ?_ (fun L G Z => ?_))
    ·rintro h9 E W ⟨v, b, e5⟩ c3
     exact Wg e5 (lt (rQ c3 b))
    refine bC G (fun c G => ?_) (fun c G => ?_)
    ·refine ug c (gE iM A) (ug c (gA rfl (gK b.has Mh (gw g.B) rfl au ag)) (ug c (gE kD A) (ug c (gA rfl (gK b.has Mh (gw g.C) rfl au ag)) (bS G fun h5 c4 G => oK c (Eg b call107 (zP g.B g.C _ _  c4) (fun h2 b => V (gQ (cB c) rfl) ?_))))))
     obtain rfl := sj G
     exact Z _ _ ⟨_, (b.gy (Db St)), rfl⟩
    refine un c (un c (un c (un c (un c (V (gP (cB c) rfl) ?_)))))
    obtain rfl := sj G
    exact Z _ _ ⟨_, (b.gy (Db St)), rfl⟩
   refine bC H (fun D H => ?_) (fun D H => ?_)
   ·refine ug D (gE kD m) (ug D (gA rfl (gK b.has Mh (gw g.C) rfl au ag)) (bS H fun h6 c5 H => oK D (Eg b call88 (rC g.C _ _  c5) (fun h3 b => V (gQ (cB D) rfl) ?_))))
    obtain rfl := sj H
    exact n _ _ ⟨_, (b.gy St), m, rfl⟩
   refine un D (un D (un D (V (gP (cB D) rfl) ?_)))
   obtain rfl := sj H
   exact n _ _ ⟨_, (b.gy St), m, rfl⟩
  refine bC K (fun B K => ?_) (fun B K => ?_)
  ·refine ug B (gE ma u) (ug B (gA rfl (gN b.has Mh rfl aF)) (ug B (mr rfl rfl rfl) (V (gQ (cB B) rfl) ?_)))
   obtain rfl := sj K
   exact a2 _ _ ⟨_, (b.gy St), u, rfl⟩
  refine un B (un B (un B (V (gP (cB B) rfl) ?_)))
  obtain rfl := sj K
  exact a2 _ _ ⟨_, (b.gy St), u, rfl⟩
 refine bC I (fun t I => ?_) (fun t I => ?_)
 ·refine un t (un t (un t (un t (V (gQ (cB t) rfl) ?_))))
  obtain rfl := sj I
  exact a3 _ _ ⟨_, (b.gy St), rfl, rfl, rfl⟩
 refine ug t (gE iM rfl) (ug t (gA rfl (gK b.has (Mt Mh) (gw g.B) rfl au ag)) (bS I fun h7 c6 I => oK t (Eg b call88 (rC g.B _ _  c6) (fun h4 b => ug t (nY rfl) (V (gP (cB t) rfl) ?_)))))
 obtain rfl := sj I
 exact a3 _ _ ⟨_, (b.gy St), rfl, rfl, rfl⟩
theorem tL (x : Int) (r : ByteArray) (w : World) (hm : ox x = some r) :
  iA true pg0 87 [(.int .i64 x)] w (.string r) := by
 refine cG 22 func87 rfl (fun d => sg (Wa (lr (Wa (ln (gO (jl (mc (fun m E W => ∃ c j t, ST true ia w W (hp w) t ∧ E 0 = (.int .i64 c) ∧ E 3 = (.string j) ∧ mO m c j = some r) jg ⟨x, zS, _, (d.gy St), rfl, rfl, hm⟩ ?_))))))))
 rintro m E W ⟨c, j, t, d, i, u, g⟩
 let N := (Int.tmod c 128)
 cases m with
 | zero => rw [mO] at g; cases g
 | succ D =>
  refine gO (sg (Wh i (Wi rfl (ln (CI g rfl (fun y g => ?_) (fun y g => ?_))))))
  ·refine kn (bg (Wh u (Wh i (V (Bv (k := .i64) (a := c) (b := 128) (v := (.int .i64 N)) rfl rfl dc rfl) (Wi rfl (V (sR (k' := .i64) (a := (wi0 .i64 (128 + N))) dD dE rfl) (VE (ig (cs := [(.int .u8 (IntKind.u8.wrap (wi0 .i64 (128 + N))))].toArray) d (lk rfl) (kz bD sizeOf5 gb) (fun H J d => V (Ap bD dE aP rfl (Sl.lit (enc := (iV .u8)) (l := [(IntKind.u8.wrap (wi0 .i64 (128 + N)))]) (fun _ => rfl) rfl nb rfl (d.at_ Mh))) (bS g fun G z g => V (rJ rfl rfl z) (Wa ?_)))))))))))
   refine ln ?_
   replace d := d.gy (Db St)
   exact gJ (Wh i (V (Bv (k := .i64) (a := c) (b := 128) (v := (.int .i64 (wi0 .i64 (Int.tdiv c 128)))) rfl rfl dc rfl) (Wa (gT (im (gI ⟨D, bl _, (wi0 .i64 (Int.tdiv c 128)), G, _, (d.gy St), rfl, rfl, g⟩))))))
  refine ot (ns (ns (sb (gI (sg (Wh u (Wh i (V (sR (k' := .i64) (a := c) dD dE rfl) (VE (ig (cs := [(.int .u8 (IntKind.u8.wrap c))].toArray) d (lk rfl) (kz bD sizeOf5 gb) (fun I K d => V (Ap bD dE aP rfl (Sl.lit (enc := (iV .u8)) (l := [(IntKind.u8.wrap c)]) (fun _ => rfl) rfl nb rfl (d.at_ Mh))) (bS g fun M B g => V (rJ rfl rfl B) (Wa (ln ?_))))))))))))))
  exact iq (rQ g d)
theorem qI (a r : ByteArray) (w : World) (hm : nh a = some r) :
  iA true pg0 154 [(.string a)] w (.string r) := by
 refine cG 8 func154 rfl (fun b => sg (Wa (lr (Wm (V (kG aP rfl) (bS hm fun j c hm => VE (Eg b call87 (tL (a.size : Int) _ _  c) (fun i b => Wm (bS hm fun k g hm => V (rJ rfl rfl g) ?_)))))))))
 exact Wa (lt (rQ hm b))
theorem ru (a : gr) (r : ByteArray) (w : World) (hm : ny a = some r) :
  iA true pg0 89 [(.agg (gw a).toArray)] w (.string r) := by
 refine cG 10 func89 rfl (fun b => sg (VE (iO b rfl (fun y z b => Wa (ln (gO ?_))))))
 replace b := b.drew
 have d := b.has.gy (Kb Sn)
 refine iI d ij (X 0 rfl d (gE jY rfl) (XH 1 rfl d (fun _ h => gA rfl (gN h Mh rfl aF)) (X 3 rfl d (gE ov rfl) (XH 4 rfl d (fun _ h => gA rfl (gN h Mh rfl aF)) (bS hm fun t c hm => XE 2 rfl (Eg b call154 (qI a.gG _ _  c) (fun j b => ?_)))))))
 have d := b.has.gy (Kb Sn)
 refine ⟨d, (bS hm fun u g hm => XE 5 rfl (Eg b call154 (qI a.hX _ _  g) (fun k b => ?_)))⟩
 have d := b.has.gy (Kb Sn)
 refine ⟨d, (bS hm fun x i hm => X 6 rfl d (rJ rfl rfl i) (X 7 rfl d (jU rfl) (iU kr (gI ?_))))⟩
 exact iq (rQ hm b)
theorem yx (g : gu) (r : ByteArray) (w : World) (hm : rA g = some r) :
  iA true pg0 155 [(.agg (gv g).toArray)] w (.string r) := by
 refine cG 41 func155 rfl (fun b => sg (VE (iO b rfl (fun W2 l b => Wa (ln (gO ?_))))))
 replace b := b.drew
 have d := b.has.gy (Kb Sn)
 refine iI d ij (X 0 rfl d (gE jN rfl) (XH 1 rfl d (fun _ h => gA rfl (gN h Mh rfl bI)) (X 3 rfl d (gE jT rfl) (XH 4 rfl d (fun _ h => gA rfl (gK h Mh (gw g.Head) rfl au ag)) (bS hm fun a9 H hm => XE 2 rfl (Eg b call87 (tL g.Kind _ _  H) (fun a3 b => ?_)))))))
 have d := b.has.gy (Kb Sn)
 refine ⟨d, (bS hm fun p I hm => XE 5 rfl (Eg b call89 (ru g.Head _ _  I) (fun a4 b => ?_)))⟩
 have d := b.has.gy (Kb Sn)
 refine ⟨d, (bS hm fun L Q hm => X 6 rfl d (rJ rfl rfl Q) (X 7 rfl d (jU rfl) (iU kr (gI (gO (sg (Wf jN (VB b Mh rfl rfl bI (Wi rfl (ln (CI hm rfl (fun y hm => ?_) (fun y hm => ?_))))))))))))⟩
 ·refine sg (Wm (Wf mB (VB b Mh rfl rfl aF (bS hm fun q J hm => VE (Eg b call154 (qI g.gU _ _  J) (fun a5 b => bS hm fun O T hm => V (rJ rfl rfl T) (Wa (ln ?_))))))))
  replace b := b.gy (Db St)
  refine iq (iw ?_)
  obtain rfl := sj hm
  exact rP b
 refine kg (Wm (Wf iM (VA b Mh (gw g.B) au ag (bS hm fun s K hm => VE (Eg b call89 (ru g.B _ _  K) (fun m b => bS hm fun P U hm => V (rJ rfl rfl U) (Wa (ln (gO ?_)))))))))
 refine CJ hm (fun x E W => ∃ i, ST true ia w W (hp w) ((l, Ol (gv g) 108) :: i) ∧ E 1 = (.pointer (some ⟨l, 0, none⟩)) ∧ E 3 = (.string x)) (fun x c => ?_) ?_
 ·refine sg (Wf jN (VB b Mh rfl rfl bI (Wi rfl (ln (CI c rfl (fun B c => ?_) (fun B c => ?_))))))
  ·refine gJ (Wm (Wf ma (VB b Mh rfl rfl aF (bS c fun A N c => VE (Eg b call154 (qI g.gY _ _  N) (fun o b => bS c fun c0 Z c => V (rJ rfl rfl Z) (Wa (ln ?_))))))))
   obtain rfl := sj c
   exact ⟨_, (b.gy St), rfl, rfl⟩
  refine kn ?_
  obtain rfl := sj c
  exact ⟨_, (b.gy St), rfl, rfl⟩
 rintro c1 E W ⟨i, b, k, t⟩ D
 refine gO (CJ D (fun u E W => ∃ j, ST true ia w W (hp w) j ∧ E 3 = (.string u)) (fun u a => ?_) ?_)
 ·refine sg (V (gE jN k) (VB b Mh rfl rfl bI (Wi rfl (ln (CI a rfl (fun z a => ?_) (fun z a => ?_))))))
  ·refine gJ (Wh t (V (gE kD k) (VA b Mh (gw g.C) au ag (bS a fun v M a => VE (Eg b call89 (ru g.C _ _  M) (fun n b => bS a fun R Y a => V (rJ rfl rfl Y) (Wa (ln ?_))))))))
   obtain rfl := sj a
   exact ⟨_, (b.gy (Db St)), rfl⟩
  refine kn ?_
  obtain rfl := sj a
  exact ⟨_, (b.gy (Db St)), t⟩
 rintro c2 E W ⟨j, b, a2⟩ G
 exact sg (Wh a2 (Wa (lt (rQ G b))))
theorem uu (a : gu) (r : ByteArray) (w : World) (hm : oP a = some r) :
  iA true pg0 139 [(.agg (gv a).toArray)] w (.string r) := by
 refine cG 8 func139 rfl (fun b => sg (VE (iO b rfl (fun j u b => Wa (lS (VA b Mh (gv a) aN ae (bS hm fun x g hm => VE (Eg b call68 (ur a _ _  g) (fun k b => V (nY rfl) (gT ?_))))))))))
 refine gI (CI hm rfl (fun c hm => ?_) (fun c hm => ?_))
 ·refine sg (Wa (ln ?_))
  replace b := b.gy (Db St)
  refine iq (iw ?_)
  obtain rfl := sj hm
  exact rP b
 refine kg (VA b Mh (gv a) aN ae (bS hm fun y i hm => VE (Eg b call155 (yx a _ _  i) (fun t b => Wa (ln ?_)))))
 exact iq (rQ hm b)
theorem sL (a c : gu) (r : Int) (w : World) (hm : mC a c = some r) :
  iA true pg0 69 [(.agg (gv a).toArray), (.agg (gv c).toArray)] w (.int .i64 r) := by
 refine cG 17 func69 rfl (fun b => sg (VE (iO b rfl (fun u z b => VE (iO b rfl (fun x B b => Wa (lr (VA b (Mt Mh) (gv a) aN ae (bS hm fun D j hm => VE (Eg b call139 (uu a _ _  j) (fun y b => Wa (gT ?_))))))))))))
 refine gI ?_
 replace b := b.gy (Kb (Db St))
 refine sg (VA b Mh (gv c) aN ae (bS hm fun G k hm => VE (Eg b call139 (uu c _ _  k) (fun t b => Wa (ln ?_)))))
 replace b := b.gy (Db St)
 refine gO (sg (Wm (Wm (V (mr rfl rfl rfl) (ln (CI hm rfl (fun g hm => ?_) (fun g hm => ?_)))))))
 ·refine sg (Wa (lt (iw ?_)))
  obtain rfl := sj hm
  exact rP b
 refine kS (Wm (Wm (V (mr rfl rfl rfl) (ln (CI hm rfl (fun i hm => ?_) (fun i hm => ?_))))))
 ·refine sg (Wa (lt (iw ?_)))
  obtain rfl := sj hm
  exact rP b
 exact kg (Wa (lt (rQ hm b)))
theorem zX (D : Value) (a0 r : List gu) (w : World) (e2 : Sl (Pl gv) 9 (hp w) D a0) (hm : nR a0 = some r) :
  iS true pg0 23 [D] w 108 gv 9 r := by
 refine qH 51 func23 rfl (fun d => sg (Wa (lr (Wa (ln (ou (jl (mc (fun m E W => ∃ x a3 u c4, ST true ia w W (hp w) (u ++ c4) ∧ E 0 = D ∧ E 3 = x ∧ gM 108 gv 9 x a3 u ∧ mY a0 m a3 = some r) jg ⟨(.slice none 0 0), ([]), [], _, (d.gy St), rfl, rfl, (gM.nil _ _ _), hm⟩ ?_))))))))
 rintro m E W ⟨x, a3, u, c4, d, d0, g1, J, a5⟩
 cases m with
 | zero => rw [mY] at a5; cases a5
 | succ j0 =>
  refine bg (VE (iZ d aT (fun j7 t d => lr (Wa (lS (Wh d0 ?_))))))
  let c2 : Value := (.pointer (some ⟨t, 0, none⟩))
  refine V (lB aj rfl e2) (Wm (ln (CJ a5 (fun a9 E W => ∃ c5, ST true ia w W (hp w) ((t, Ol (gv a9.2) 108) :: (u ++ c5)) ∧ E 0 = D ∧ E 3 = x ∧ E 4 = c2 ∧ E 5 = (.bool a9.1)) (fun a9 e8 => ?_) ?_)))
  ·refine iL (fun i E W => ∃ G y b1, (E 10 = .int .i64 (i : Nat) ∧ E 9 = .int .i64 (a0.length : Nat)) ∧ ST true ia w W (hp w) ((t, Ol (gv y) 108) :: (u ++ b1)) ∧ E 0 = D ∧ E 3 = x ∧ E 4 = c2 ∧ E 5 = (.bool G) ∧ E 8 = D ∧ mi a3 (a0.drop i) G y = some a9) a0.length e2.len ⟨false, K9, _, ⟨rfl, rfl⟩, (d.gy St), d0, g1, rfl, rfl, rfl, e8⟩ dc dc dc (fun _ _ _ h => by obtain ⟨_, _, _, ab, _⟩ := h; exact ab) ?_ ?_
   ·rintro a2 E W e7 ⟨G, y, b1, ⟨q, O⟩, d, U, M, Y, Z, o, z⟩
    let j2 := ((gv y).toArray : Array Value)
    obtain ⟨c, j6, f8, f7, c3⟩ := iB e7
    let j1 := ((gv c).toArray : Array Value)
    rw [f8] at z
    refine bg (VQ (jL (enc := gv) (i := (a2 : Int)) (x0 := c) aj ae o q e2 (ay _) f7) (fun k6 f2 => V (gA rfl (lI d.has f2 aN ae)) (VE (iZ d aT (fun k0 K d => VO (ib (.agg (gv c).toArray) ((gv c).toArray) d rfl rfl ae (jF c) nb rfl (fun k1 d => ln (gO ?_))))))))
    let l6 : Value := (.int .i64 (a2 : Int))
    let l5 : Value := (.int .i64 (a0.length : Int))
    let P : Value := (.pointer (some ⟨K, 0, none⟩))
    replace d := d.drew
    have b := d.has.gy (Kb (Kb (Kr Sn)))
    refine iI b ij (XH 0 rfl b (fun _ n => gA rfl (gK n Mh (gv c) rfl aN ae)) (bS z fun j3 f4 z => XE 1 rfl (Eg d call68 (ur c _ _  f4) (fun k2 d => ?_))))
    have b := d.has.gy (Kb (Kb (Kr Sn)))
    refine ⟨b, (X 2 rfl b (gF rfl) (PJ z (fun d9 E W => ∃ c6, ST true ia w W (hp w) ((K, Obj.cells j1 108 (0, 0)) :: ((t, Obj.cells j2 108 (0, 0)) :: (u ++ c6))) ∧ E 0 = D ∧ E 3 = x ∧ E 4 = c2 ∧ E 5 = (.bool G) ∧ E 7 = P ∧ E 8 = D ∧ E 9 = l5 ∧ E 10 = l6 ∧ E 31 = (.bool d9)) (bm 28 262143) 10 ?_ (fun d9 T c0 => ?_)))⟩
    ·rintro j5 E W ⟨c6, d, b2, b3, s, A, L, b4, b5, b6, g5⟩ e9
     have b := d.has.gy (Kb (Kb (Kr Sn)))
     refine X 18 rfl b (gF g5) (PJ e9 (fun d7 E W => ∃ c7, ST true ia w W (hp w) ((K, Obj.cells j1 108 (0, 0)) :: ((t, Obj.cells j2 108 (0, 0)) :: (u ++ c7))) ∧ E 0 = D ∧ E 3 = x ∧ E 4 = c2 ∧ E 5 = (.bool G) ∧ E 7 = P ∧ E 8 = D ∧ E 9 = l5 ∧ E 10 = l6 ∧ E 41 = (.bool d7)) (bm 28 268435455) 0 ?_ (fun d7 Q b8 => ?_))
     ·rintro l1 E W ⟨c7, d, d2, d3, b7, g6, g7, d4, d5, d6, g8⟩ N
      refine iU kr (gI (CI N g8 (fun e6 N => ?_) (fun e6 N => ?_)))
      ·refine sg (V (gA g7 (gK d.has Mh (gv c) rfl aN ae)) ?_)
       replace d := d.perm (Nb (Pb Pz) Nz)
       refine VO (ib (.agg (gv c).toArray) ((gv c).toArray) d b7 rfl ae (jF c) nb rfl (fun k3 d => ln ?_))
       replace d := d.gy (Kb (Db St))
       exact gJ (Wa (gT (im (gI ⟨d6, true, c, _, ⟨rfl, d5⟩, (d.gy St), d2, d3, b7, rfl, d4, (by rw [c3]; exact N)⟩))))
      refine iv (im (gI ?_))
      replace d := d.gy (Db St)
      exact ⟨d6, G, y, _, ⟨rfl, d5⟩, (d.gy St), d2, d3, b7, g6, d4, (by rw [c3]; exact N)⟩
     refine bC Q (fun j Q => ?_) (fun j Q => ?_)
     ·refine Xg 19 rfl rfl (cB j) b (gF A) (Xg 20 rfl rfl (cB j) b (nY rfl) (Xg 21 rfl rfl (cB j) b (gF rfl) (PJ Q (fun d8 E W => ∃ c8, ST true ia w W (hp w) ((K, Obj.cells j1 108 (0, 0)) :: ((t, Obj.cells j2 108 (0, 0)) :: (u ++ c8))) ∧ E 0 = D ∧ E 3 = x ∧ E 4 = c2 ∧ E 5 = (.bool G) ∧ E 7 = P ∧ E 8 = D ∧ E 9 = l5 ∧ E 10 = l6 ∧ E 32 = (.bool j5) ∧ E 40 = (.bool d8)) (bm 28 134217727) 1 ?_ (fun d8 I b9 => ?_))))
      ·rintro l2 E W ⟨c8, d, g9, h0, h1, h2, h3, h4, h5, h6, h7, h8⟩ f0
       have b := d.has.gy (Kb (Kb (Kr Sn)))
       refine X 27 rfl b (gQ (h7.trans (cB j)) h8) ?_
       obtain rfl := sj f0
       refine jv kr (b8 _ _ ⟨_, (d.gy St), g9, h0, h1, h2, h3, h4, h5, h6, rfl⟩)
      refine bC I (fun k I => ?_) (fun k I => ?_)
      ·refine Xn 22 rfl rfl (cB k) b (Xn 23 rfl rfl (cB k) b (Xn 24 rfl rfl (cB k) b (Xn 25 rfl rfl (cB k) b (Xg 26 rfl rfl (cB j) b (gQ (cB k) rfl) ?_))))
       obtain rfl := sj I
       refine jv kr (b9 _ _ ⟨_, (d.gy St), b2, b3, s, A, L, b4, b5, b6, rfl, rfl⟩)
      refine pJ 22 rfl rfl (cB k) b (fun _ n => gA L (gK n Mh (gv c) rfl aN ae)) (pJ 23 rfl rfl (cB k) b (fun _ n => gA s (gK n (Mt Mh) (gv y) rfl aN ae)) (bS I fun k8 f5 I => xT 24 rfl rfl (cB k) (Eg d call69 (sL c y _ _  f5) (fun k4 d => ?_))))
      have b := d.has.gy (Kb (Kb (Kr Sn)))
      refine ⟨b, (Xg 25 rfl rfl (cB k) b (jm rfl rfl rfl) (Xg 26 rfl rfl (cB j) b (gP (cB k) rfl) ?_))⟩
      obtain rfl := sj I
      refine jv kr (b9 _ _ ⟨_, (d.gy St), b2, b3, s, A, L, b4, b5, b6, rfl, rfl⟩)
     refine Xn 19 rfl rfl (cB j) b (Xn 20 rfl rfl (cB j) b (Xn 21 rfl rfl (cB j) b (Xu 22 rfl rfl rfl b (Xu 23 rfl rfl rfl b (Xu 24 rfl rfl rfl b (Xu 25 rfl rfl rfl b (Xn 26 rfl rfl (cB j) b (X 27 rfl b (gP (cB j) rfl) ?_))))))))
     obtain rfl := sj Q
     refine jv kr (b8 _ _ ⟨_, (d.gy St), b2, b3, s, A, L, b4, b5, b6, rfl⟩)
    refine bC T (fun g T => ?_) (fun g T => ?_)
    ·refine Xg 3 rfl rfl (cB g) b (gF M) (Xg 4 rfl rfl (cB g) b (jf aj rfl J) (Xg 5 rfl rfl (cB g) b (jm rfl rfl rfl) (Xg 6 rfl rfl (cB g) b (gF rfl) (PJ T (fun e0 E W => ∃ c9, ST true ia w W (hp w) ((K, Obj.cells j1 108 (0, 0)) :: ((t, Obj.cells j2 108 (0, 0)) :: (u ++ c9))) ∧ E 0 = D ∧ E 3 = x ∧ E 4 = c2 ∧ E 5 = (.bool G) ∧ E 7 = P ∧ E 8 = D ∧ E 9 = l5 ∧ E 10 = l6 ∧ E 16 = (.bool j3) ∧ E 30 = (.bool e0)) (bm 28 131071) 11 ?_ (fun e0 B c1 => ?_)))))
     ·rintro l3 E W ⟨c9, d, h9, i0, i1, i2, i3, i4, i5, i6, i7, i8⟩ f1
      have b := d.has.gy (Kb (Kb (Kr Sn)))
      refine X 17 rfl b (gQ (i7.trans (cB g)) i8) ?_
      obtain rfl := sj f1
      refine jv kr (c0 _ _ ⟨_, (d.gy St), h9, i0, i1, i2, i3, i4, i5, i6, rfl⟩)
     refine bC B (fun a B => ?_) (fun a B => ?_)
     ·refine Xn 7 rfl rfl (cB a) b (Xn 8 rfl rfl (cB a) b (Xn 9 rfl rfl (cB a) b (Xn 10 rfl rfl (cB a) b (Xn 11 rfl rfl (cB a) b (Xn 12 rfl rfl (cB a) b (Xn 13 rfl rfl (cB a) b (Xn 14 rfl rfl (cB a) b (Xn 15 rfl rfl (cB a) b (Xg 16 rfl rfl (cB g) b (gQ (cB a) rfl) ?_)))))))))
      obtain rfl := sj B
      refine jv kr (c1 _ _ ⟨_, (d.gy St), U, M, Y, Z, rfl, o, O, q, rfl, rfl⟩)
     refine Xg 7 rfl rfl (cB a) b (gF M) (Xg 8 rfl rfl (cB a) b (gF M) (Xg 9 rfl rfl (cB a) b (jf aj rfl J) (Xg 10 rfl rfl (cB a) b (jm rfl rfl rfl) (bS B fun e1 b0 B => A2 11 rfl kr (.inr ⟨6, false, 20, rfl, rfl, by decide, (cB a)⟩) rfl dc (fun _ _ h => h) b (iW (i := (wi0 .i64 ((a3.length : Int) - 1))) (x0 := e1) aj ae rfl rfl J (jk b0) (iF b0)) (fun k7 f3 => pJ 12 rfl rfl (cB a) b (fun _ n => gA rfl (kH n (fun p hq => (Mt (Mt (Ml hq)))) J ic f3 (iF b0) aN ae)) (pJ 13 rfl rfl (cB a) b (fun _ n => gA rfl (gK n Mh (gv c) rfl aN ae)) (bS B fun k9 f6 B => xT 14 rfl rfl (cB a) (Eg d call69 (sL e1 c _ _  f6) (fun k5 d => ?_)))))))))
     have b := d.has.gy (Kb (Kb (Kr Sn)))
     refine ⟨b, (Xg 15 rfl rfl (cB a) b (jm rfl rfl rfl) (Xg 16 rfl rfl (cB g) b (gP (cB a) rfl) ?_))⟩
     obtain rfl := sj B
     refine jv kr (c1 _ _ ⟨_, (d.gy St), U, M, Y, Z, rfl, o, O, q, rfl, rfl⟩)
    refine Xn 3 rfl rfl (cB g) b (Xn 4 rfl rfl (cB g) b (Xn 5 rfl rfl (cB g) b (Xn 6 rfl rfl (cB g) b (Xu 7 rfl rfl rfl b (Xu 8 rfl rfl rfl b (Xu 9 rfl rfl rfl b (Xu 10 rfl rfl rfl b (Xu 11 rfl rfl rfl b (Xu 12 rfl rfl rfl b (Xu 13 rfl rfl rfl b (Xu 14 rfl rfl rfl b (Xu 15 rfl rfl rfl b (Xn 16 rfl rfl (cB g) b (X 17 rfl b (gP (cB g) rfl) ?_))))))))))))))
    obtain rfl := sj T
    refine jv kr (c0 _ _ ⟨_, (d.gy St), U, M, Y, Z, rfl, o, O, q, rfl⟩)
   rintro E W ⟨G, y, b1, ⟨q, O⟩, d, U, M, Y, Z, o, z⟩
   rw [aI] at z
   refine gI ?_
   obtain rfl := sj z
   exact ⟨_, (d.gy St), U, M, Y, Z⟩
  rintro ⟨l0, a4⟩ E W ⟨c5, d, g2, d1, g3, g4⟩ H
  refine gO (sg (Wh g4 (V (nY rfl) (ln (CI H rfl (fun e4 H => ?_) (fun e4 H => ?_))))))
  ·refine sg (Wh d1 (Wa (ln ?_)))
   replace d := d.gy (Db St)
   refine iq (iw (ko (iw (ko (iw ?_)))))
   obtain rfl := sj H
   exact iC (v := x) rfl rfl ⟨_, u, rfl, d.kp (fun p hq => (Ml hq)) J.nd, J⟩
  refine kn (gJ (Wh d1 (V (gA g3 (gK d.has Mh (gv a4) rfl aN ae)) (VE (ig (cs := (gv a4).toArray) d (lk rfl) (kz aj ae aT) (fun j8 g0 d => ?_))))))
  replace d := d.perm (Nr (Qb (Qb Qz)) Nz)
  refine bS H fun i9 e5 H => VE (jJ (enc := gv) (v := x) (vs := (.slice (some ⟨g0, 0, none⟩) 1 1)) (R := u) d ic dc jF aj kq.1 kq.2.1 rfl kq.2.2.1 kq.2.2.2 rfl rfl J (Sl.lit (enc := gv) (l := [a4]) ic rfl nb rfl (d.at_ (Ma Mh))) e5 (fun j9 j4 f9 d e3 => Wa (gT (im (gI ?_)))))
  replace d := d.gy (Kr (Db (Db St)))
  exact ⟨j0, bl _, j4, i9, f9, _, (d.gy St), g2, rfl, e3, H⟩
end Go.Proofs.YtbnbdigcbldfhaaGreat
