/- a part of a proof of KeysCheck -/
import Derived.Test.YtcafmokjkjcomaaGreatKCMb
import Derived.Test.YtcafmokjkjcomaaGreatRtZcb
import Derived.Test.YtcafmokjkjcomaaGreatProg
set_option linter.all false
namespace Go.Proofs.YtcafmokjkjcomaaGreat
open Go.IntKind renaming wrap → wi0
open Go.Proofs.Tryz renaming prog → pg0
open Go.RowKit
set_option maxRecDepth 10000
open Tryz
def az := @underlying36
def aA := @sizeOf35
def aD := @underlying41
def aH := @underlying9
def aP := @sizeOf33
def aT := @isAgg35
def aY := @underlying5
def aZ := @isAgg9
def bh := @sizeOf38
def bp := @isAgg33
def bt := @underlying38
def bx := @underlying35
def bz := @zeroValue35
def bA := @zeroValue38
def bG := @underlying22
def bH := @underlying39
def bT := @isAgg36
def bX := @sizeOf72
def cr := @zeroValue72
def cx := @underlying72
def cy := @isAgg38
def cD := @underlying33
def cJ := @sizeOf5
def cP := @underlying23
def cT := @zeroValue5
def cX := @call54
def da := @underlying125
def dh := @sizeOf9
def dn := @isAgg3
def dp := @underlying3
def dq := @sizeOf36
def dv := @underlying54
def dE := @underlying56
def dP := @underlying100
def dQ := @eqGuardType35
def ez := @underlying117
def eA := @eqGuardType33
def eK := @underlying76
def eL := @underlying65
def eO := @call83
def eV := @zeroValue33
abbrev K0 : fE := ⟨zS, zS⟩
abbrev K1 : ByteArray := ⟨#[97]⟩
abbrev K2 : ByteArray := ⟨#[114]⟩
abbrev K3 : ByteArray := ⟨#[100]⟩
abbrev K4 : ByteArray := ⟨#[98]⟩
abbrev K5 : fE := ⟨K1, K2⟩
abbrev K6 : eY := ⟨0, K0, zS, K0, K0, zS⟩
abbrev K7 : eY := ⟨1, K5, K3, K0, K0, zS⟩
abbrev C1 (d : Int) (g h i j k n o p : ByteArray) (q : Option Addr) (a c : Nat) : List Value := [(.int .i64 d), (.string g), (.string h), (.string i), (.string j), (.string k), (.string n), (.string o), (.string p), (.slice q a c)]
abbrev C2 : List Value := [(.int .i64 0), (.string (K0.eZ)), (.string (K0.fg)), (.string zS), (.string (K0.eZ)), (.string (K0.fg)), (.string (K0.eZ)), (.string (K0.fg)), (.string zS), (.slice none 0 0)]
abbrev C3 : List Value := [(.int .i64 1), (.string (K5.eZ)), (.string (K5.fg)), (.string K3), (.string (K0.eZ)), (.string (K0.fg)), (.string (K0.eZ)), (.string (K0.fg)), (.string zS), (.slice none 0 0)]
abbrev C4 (a : Nat) : List Value := [(.string K1), (.slice (some ⟨a, 0, none⟩) 1 1)]
theorem gl : Tryz.prog.follows .mixedOrders = true := by rfl
theorem jc : Tryz.prog.info? 5 = some Tryz.t5 ∧ Tryz.t5.zero = some (.int .u8 0) ∧ Tryz.t5.size = 1 ∧ Tryz.t5.bytes = 1 := ⟨by kernel_rfl, by kernel_rfl, by kernel_rfl, by kernel_rfl⟩
theorem pX : Tryz.prog.info? 9 = some Tryz.t9 ∧ Tryz.t9.zero = some (.string ⟨#[]⟩) ∧ Tryz.t9.size = 1 ∧ Tryz.t9.bytes = 16 := ⟨by kernel_rfl, by kernel_rfl, by kernel_rfl, by kernel_rfl⟩
theorem kk : Tryz.prog.info? 35 = some Tryz.t35 ∧ Tryz.t35.zero = some (.agg #[(.int .i64 0), (.string ⟨#[]⟩), (.string ⟨#[]⟩), (.string ⟨#[]⟩), (.string ⟨#[]⟩), (.string ⟨#[]⟩), (.string ⟨#[]⟩), (.string ⟨#[]⟩), (.string ⟨#[]⟩)]) ∧ Tryz.t35.size = 9 ∧ Tryz.t35.bytes = 136 := ⟨by kernel_rfl, by kernel_rfl, by kernel_rfl, by kernel_rfl⟩
theorem je : ij pg0 33 0 0 := gF cD rfl dh (by decide) rfl
theorem mX : ij pg0 33 1 1 := gF cD rfl dh (by decide) rfl
theorem zh : (Tryz.prog.fieldsOf 33).toList = (match Tryz.prog.underlying 33 with | some (.struct a) => a.toList | _ => []) := by rw [cD]; simp [Program.fieldsOf, cD]
theorem nD (d : Nat) (x y : fE) (W : World) : (Op.equalIn (d + 2) 33 (.agg (fD x).toArray) (.agg (fD y).toArray)).run pg0 W = .ok (im x y) W := by
 rw [run_equalIn_struct W (d + 1) 33 _ _ (by kernel_rfl) Tryz.stoodInHeld33, zh, cD]
 exact (jr (by decide) (lJ aZ rfl) (lJ aZ rfl) (An aH _ _ _ _) (jr (by decide) (lJ aZ rfl) (lJ aZ rfl) (An aH _ _ _ _) (rI _ _ _)))
theorem Bt : ∀ a, Tryz.prog.underlying 33 = some (.struct a) → ∀ w, (a.mapM (fun (f : Field) => do pure (f.offset, ← sizeOf f.type)) : Sem (Array (Nat × Nat))).run pg0 w = .ok #[(0, 1), (1, 1)] w := by
 intro a h w
 rw [cD] at h
 cases h
 kernel_rfl
theorem kM : ij pg0 35 0 0 := gF bx rfl sizeOf3 (by decide) rfl
theorem mB : ij pg0 35 1 1 := gF bx rfl aP (by decide) rfl
theorem nQ : ij pg0 35 2 3 := gF bx rfl dh (by decide) rfl
theorem iz : ij pg0 35 3 4 := gF bx rfl aP (by decide) rfl
theorem lu : ij pg0 35 4 6 := gF bx rfl aP (by decide) rfl
theorem ng : ij pg0 35 5 8 := gF bx rfl dh (by decide) rfl
theorem ze : (Tryz.prog.fieldsOf 35).toList = (match Tryz.prog.underlying 35 with | some (.struct a) => a.toList | _ => []) := by rw [bx]; simp [Program.fieldsOf, bx]
theorem pH (d : Nat) (x y : eY) (W : World) : (Op.equalIn (d + 3) 35 (.agg (fa x).toArray) (.agg (fa y).toArray)).run pg0 W = .ok (jq x y) W := by
 rw [run_equalIn_struct W (d + 2) 35 _ _ (by kernel_rfl) Tryz.stoodInHeld35, ze, bx]
 exact (jr (by decide) (lJ dn rfl) (lJ dn rfl) (CE dp _ _ _ _) (jr (by decide) (oB bp aP rfl) (oB bp aP rfl) (nD _ x.Head y.Head W) (jr (by decide) (lJ aZ rfl) (lJ aZ rfl) (An aH _ _ _ _) (jr (by decide) (oB bp aP rfl) (oB bp aP rfl) (nD _ x.B y.B W) (jr (by decide) (oB bp aP rfl) (oB bp aP rfl) (nD _ x.C y.C W) (jr (by decide) (lJ aZ rfl) (lJ aZ rfl) (An aH _ _ _ _) (rI _ _ _)))))))
theorem xX : ∀ a, Tryz.prog.underlying 35 = some (.struct a) → ∀ w, (a.mapM (fun (f : Field) => do pure (f.offset, ← sizeOf f.type)) : Sem (Array (Nat × Nat))).run pg0 w = .ok #[(0, 1), (1, 2), (3, 1), (4, 2), (6, 2), (8, 1)] w := by
 intro a h w
 rw [bx] at h
 cases h
 kernel_rfl
theorem nP : ij pg0 72 0 0 := gF cx rfl dh (by decide) rfl
theorem pJ : ij pg0 72 1 1 := gF cx rfl dq (by decide) rfl
theorem yg : ∀ a, Tryz.prog.underlying 72 = some (.struct a) → ∀ w, (a.mapM (fun (f : Field) => do pure (f.offset, ← sizeOf f.type)) : Sem (Array (Nat × Nat))).run pg0 w = .ok #[(0, 1), (1, 1)] w := by
 intro a h w
 rw [cx] at h
 cases h
 kernel_rfl
theorem lY : ij pg0 38 0 0 := gF bt rfl aA (by decide) rfl
theorem oW : ij pg0 38 1 9 := gF bt rfl dq (by decide) rfl
theorem rr : ∀ a, Tryz.prog.underlying 38 = some (.struct a) → ∀ w, (a.mapM (fun (f : Field) => do pure (f.offset, ← sizeOf f.type)) : Sem (Array (Nat × Nat))).run pg0 w = .ok #[(0, 9), (9, 1)] w := by
 intro a h w
 rw [bt] at h
 cases h
 kernel_rfl
theorem tH : ij pg0 76 0 0 := gF eK rfl sizeOf74 (by decide) rfl
theorem Cq : ∀ a, Tryz.prog.underlying 76 = some (.struct a) → ∀ w, (a.mapM (fun (f : Field) => do pure (f.offset, ← sizeOf f.type)) : Sem (Array (Nat × Nat))).run pg0 w = .ok #[(0, 1)] w := by
 intro a h w
 rw [eK] at h
 cases h
 kernel_rfl
theorem ot : ij pg0 56 0 0 := gF dE rfl dq (by decide) rfl
theorem Bi : ∀ a, Tryz.prog.underlying 56 = some (.struct a) → ∀ w, (a.mapM (fun (f : Field) => do pure (f.offset, ← sizeOf f.type)) : Sem (Array (Nat × Nat))).run pg0 w = .ok #[(0, 1)] w := by
 intro a h w
 rw [dE] at h
 cases h
 kernel_rfl
theorem nq : ij pg0 100 0 0 := gF dP rfl dq (by decide) rfl
theorem uf : ij pg0 100 1 1 := gF dP rfl sizeOf4 (by decide) rfl
theorem B0 : ∀ a, Tryz.prog.underlying 100 = some (.struct a) → ∀ w, (a.mapM (fun (f : Field) => do pure (f.offset, ← sizeOf f.type)) : Sem (Array (Nat × Nat))).run pg0 w = .ok #[(0, 1), (1, 1)] w := by
 intro a h w
 rw [dP] at h
 cases h
 kernel_rfl
theorem Ax : ij pg0 125 0 0 := gF da rfl sizeOf65 (by decide) rfl
theorem Az : ij pg0 125 1 1 := gF da rfl sizeOf27 (by decide) rfl
theorem B5 : ∀ a, Tryz.prog.underlying 125 = some (.struct a) → ∀ w, (a.mapM (fun (f : Field) => do pure (f.offset, ← sizeOf f.type)) : Sem (Array (Nat × Nat))).run pg0 w = .ok #[(0, 1), (1, 1)] w := by
 intro a h w
 rw [da] at h
 cases h
 kernel_rfl
def ie : jS Key := fun μ ys x => ∃ (v0 : Value), ys = [.string x.fu, v0] ∧ Sl (Pl (fl .u8)) 1 μ v0 x.Key
theorem ie.out {μ : fz} {ys : List Value} {x : Key} (h : ie μ ys x) : ∃ (v0 : Value), ys = [.string x.fu, v0] ∧ Sl (Pl (fl .u8)) 1 μ v0 x.Key := h
theorem ie.mk {μ : fz} {ys : List Value} {x : Key} (h : ∃ (v0 : Value), ys = [.string x.fu, v0] ∧ Sl (Pl (fl .u8)) 1 μ v0 x.Key) : ie μ ys x := h
theorem ma : Deep ie 2 where
 mono := by rintro _ _ _ _ c ⟨v0, rfl, a⟩; exact ⟨v0, rfl, a.mono (Pl.mono _) c⟩
 len := by rintro _ _ _ ⟨v0, rfl, a⟩; rfl
 one := by
  rintro _ _ _ ⟨v0, rfl, a⟩
  intro u hu; simp only [aC, bk, cI] at hu; rcases hu with rfl | rfl
  ·rfl
  ·exact a.sr
def ic : jS fA := fun μ ys x => ∃ (v0 : Value), ys = [.int .i64 x.eY.Kind, .string x.eY.Head.eZ, .string x.eY.Head.fg, .string x.eY.fu, .string x.eY.B.eZ, .string x.eY.B.fg, .string x.eY.C.eZ, .string x.eY.C.fg, .string x.eY.fB, v0] ∧ Sl (Pl (fl .u8)) 1 μ v0 x.Tag
theorem ic.out {μ : fz} {ys : List Value} {x : fA} (h : ic μ ys x) : ∃ (v0 : Value), ys = [.int .i64 x.eY.Kind, .string x.eY.Head.eZ, .string x.eY.Head.fg, .string x.eY.fu, .string x.eY.B.eZ, .string x.eY.B.fg, .string x.eY.C.eZ, .string x.eY.C.fg, .string x.eY.fB, v0] ∧ Sl (Pl (fl .u8)) 1 μ v0 x.Tag := h
theorem ic.mk {μ : fz} {ys : List Value} {x : fA} (h : ∃ (v0 : Value), ys = [.int .i64 x.eY.Kind, .string x.eY.Head.eZ, .string x.eY.Head.fg, .string x.eY.fu, .string x.eY.B.eZ, .string x.eY.B.fg, .string x.eY.C.eZ, .string x.eY.C.fg, .string x.eY.fB, v0] ∧ Sl (Pl (fl .u8)) 1 μ v0 x.Tag) : ic μ ys x := h
theorem oy : Deep ic 10 where
 mono := by rintro _ _ _ _ c ⟨v0, rfl, a⟩; exact ⟨v0, rfl, a.mono (Pl.mono _) c⟩
 len := by rintro _ _ _ ⟨v0, rfl, a⟩; rfl
 one := by
  rintro _ _ _ ⟨v0, rfl, a⟩
  intro u hu; simp only [aC, bk, cI] at hu; rcases hu with rfl | rfl | rfl | rfl | rfl | rfl | rfl | rfl | rfl | rfl
  ·rfl
  ·rfl
  ·rfl
  ·rfl
  ·rfl
  ·rfl
  ·rfl
  ·rfl
  ·rfl
  ·exact a.sr
def gn : jS fW := fun μ ys x => ∃ (v0 : Value), ys = [v0] ∧ jU Value.string (fL 5 (fl .u8) 1) μ v0 x.m
theorem gn.out {μ : fz} {ys : List Value} {x : fW} (h : gn μ ys x) : ∃ (v0 : Value), ys = [v0] ∧ jU Value.string (fL 5 (fl .u8) 1) μ v0 x.m := h
theorem gn.mk {μ : fz} {ys : List Value} {x : fW} (h : ∃ (v0 : Value), ys = [v0] ∧ jU Value.string (fL 5 (fl .u8) 1) μ v0 x.m) : gn μ ys x := h
theorem gx : Deep gn 1 where
 mono := by rintro _ _ _ _ c ⟨v0, rfl, a⟩; exact ⟨v0, rfl, a.mono  c⟩
 len := by rintro _ _ _ ⟨v0, rfl, a⟩; rfl
 one := by
  rintro _ _ _ ⟨v0, rfl, a⟩
  intro u hu; simp only [aC, bk, cI] at hu; rcases hu with rfl
  ·exact a.sr
theorem A7 : na pg0 9 Value.string fP := na.string aH
theorem A5 (w : World) (s : ByteArray) (c : Int) : (callFunc 100 [Value.string s, .int .u8 c].toArray).run pg0 w = .ok (.value (.int .i64 (nn s c))) w := tQ func100 (by kernel_rfl) (by kernel_rfl) (by kernel_rfl) (by kernel_rfl) s c w
theorem nI (a : ByteArray) (c r : Int) (w : World) (hm : ir a c = some r) :
  fQ true pg0 89 [(.string a), (.int .u8 c)] w (.int .i64 r) := by
 exact cG 8 func89 rfl (fun d => sg (Wa (lr (Wm (Wm (VE (xu (args := [(.string a), (.int .u8 c)]) (v := .int .i64 (nn a c)) rfl (by exact kc rfl rfl) (A5 _ a c) (Wa (lt (rQ hm d))))))))))
theorem ov (a : ByteArray) (c r : Int) (w : World) (hm : jA a c = some r) :
  fQ true pg0 57 [(.string a), (.int .u8 c)] w (.int .i64 r) := by
 refine cG 8 func57 rfl (fun d => sg (Wa (lr (Wm (Wm (bS hm fun j g hm => VE (Eg d call89 (nI a c _ _  g) (fun i d => Wa (ln ?_)))))))))
 exact ga (rQ hm d)
theorem wE (I : ByteArray) (r : Bool) (w : World) (hm : qj I = some r) :
  fQ true pg0 58 [(.string I)] w (.bool r) := by
 refine cG 16 func58 rfl (fun d => sg (Wa (lS (Wm (bS hm fun H J hm => VE (rN d aH az aY rfl J (fun W3 N T d M q j Y => V (gv az rfl j) (Wm (fK ?_)))))))))
 refine fq (gP (fun i E W => ∃ c, (E 8 = .int .i64 (i : Nat) ∧ E 7 = .int .i64 (H.length : Nat)) ∧ ST true fO w W T c ∧ E 6 = N ∧ lR (H.drop i) = some r) H.length j.len ⟨_, ⟨rfl, rfl⟩, (d.fc St), rfl, hm⟩ dc dc dc (fun _ _ _ h => by obtain ⟨_, o, _⟩ := h; exact o) ?_ ?_)
 ·rintro K E W u ⟨c, ⟨n, p⟩, d, g, a⟩
  obtain ⟨k, Q, D, B, G⟩ := gC u
  rw [D] at a
  refine bg (VQ (kf (enc := (fl .u8)) (i := (K : Int)) (x0 := k) az cJ g n j (aQ _) B) (fun Z x => V (fh rfl (ki d.has (y := (.int .u8 k)) x isAgg5)) (Wa (lr (Wm (bS a fun s z a => VE (Eg d call57 (ov (⟨#[97, 98, 99, 100, 101, 102, 103, 104, 105, 106, 107, 108, 109, 110, 111, 112, 113, 114, 115, 116, 117, 118, 119, 120, 121, 122, 48, 49, 50, 51, 52, 53, 54, 55, 56, 57, 45]⟩ : ByteArray) k _ _  z) (fun U d => Wi rfl (fK ?_)))))))))
  refine fq (CI a rfl (fun t a => ?_) (fun t a => ?_))
  ·refine sg (Wa (lt (gU (fN (gU (fN ?_))))))
   obtain rfl := sj a
   exact rP d
  exact gp (gk (fq ⟨n, _, ⟨rfl, p⟩, (d.fc St), g, (by rw [G]; exact a)⟩))
 rintro E W ⟨c, ⟨n, p⟩, d, g, a⟩
 rw [aU] at a
 exact fq (sg (Wa (lt (rQ a d))))
theorem kG (z : ByteArray) (r : Bool) (w : World) (hm : iR z = some r) :
  fQ true pg0 31 [(.string z)] w (.bool r) := by
 refine cG 21 func31 rfl (fun d => sg (Wa (lr (Wm (V (iL aH rfl) (Wi rfl (Wm (LJ hm (fun K E W => ∃ Y, ST true fO w W (hp w) Y ∧ E 0 = (.string z) ∧ E 2 = (.bool false) ∧ E 10 = (.bool K)) 4 ?_ (fun K t y => ?_)))))))))
 ·rintro x2 E W ⟨Y, d, M, h, o⟩ a5
  refine Wh o (LJ a5 (fun J E W => ∃ D, ST true fO w W (hp w) D ∧ E 0 = (.string z) ∧ E 2 = (.bool false) ∧ E 16 = (.bool J)) 5 ?_ (fun J a x => ?_))
  ·rintro A E W ⟨D, d, n, H, a2⟩ N
   refine Wh a2 (LJ N (fun I E W => ∃ G, ST true fO w W (hp w) G ∧ E 2 = (.bool false) ∧ E 20 = (.bool I)) 3 ?_ (fun I j u => ?_))
   ·rintro F E W ⟨G, d, a9, a3⟩ Q
    exact Wg a3 (lt (rQ Q d))
   refine bC j (fun g j => ?_) (fun g j => ?_)
   ·refine ug g (fi n) (bS j fun s T j => me g (Eg d call58 (wE z _ _  T) (fun p d => V (fy (cB g) rfl) ?_)))
    obtain rfl := sj j
    exact u _ _ ⟨_, (d.fc St), H, rfl⟩
   refine un g (un g (V (fx (cB g) rfl) ?_))
   obtain rfl := sj j
   exact u _ _ ⟨_, (d.fc St), H, rfl⟩
  refine bC a (fun c a => ?_) (fun c a => ?_)
  ·refine ug c (fi M) (bS a fun Z B a => ug c (om (i := 0) aH rfl rfl (nw B) (pA B)) (bS a fun v U a => me c (Eg d call57 (ov (⟨#[97, 98, 99, 100, 101, 102, 103, 104, 105, 106, 107, 108, 109, 110, 111, 112, 113, 114, 115, 116, 117, 118, 119, 120, 121, 122]⟩ : ByteArray) (Z.toNat : Int) _ _  U) (fun q d => ug c (fY rfl rfl rfl) (V (fy (cB c) rfl) ?_)))))
   obtain rfl := sj a
   exact x _ _ ⟨_, (d.fc St), M, h, rfl⟩
  refine un c (un c (un c (un c (V (fx (cB c) rfl) ?_))))
  obtain rfl := sj a
  exact x _ _ ⟨_, (d.fc St), M, h, rfl⟩
 refine bC t (fun k t => ?_) (fun k t => ?_)
 ·refine ug k (fi rfl) (ug k (iL aH rfl) (ug k (fY rfl rfl rfl) (V (fy (cB k) rfl) ?_)))
  obtain rfl := sj t
  exact y _ _ ⟨_, (d.fc St), rfl, rfl, rfl⟩
 refine un k (un k (un k (V (fx (cB k) rfl) ?_)))
 obtain rfl := sj t
 exact y _ _ ⟨_, (d.fc St), rfl, rfl, rfl⟩
theorem ny (g : Value) (i r : List Int) (w : World) (a : Sl (Pl (fl .u8)) 1 (hp w) g i) (hm : gV i = some r) :
  gw true pg0 32 [g] w 5 (fl .u8) 1 r := by
 unfold gV at hm
 refine qM 8 func32 rfl (fun d => sg (Wa (lS (Wm ?_))))
 obtain ⟨y, B, rfl⟩ := a.form
 refine V (uy az rfl rfl) (ln ?_)
 rcases y with _ | z
 ·have u := a.isNil
  replace hm : some [] = some r := by rw [u] at hm; simpa [kY, maxLen] using hm
  refine pj (rfl) (sg (Wa (lt (fN ?_))))
  obtain rfl := sj hm
  exact gb (v := (.slice none 0 0)) rfl rfl ⟨_, [], rfl, d.iY (fun p h => by cases h) (by simp), fL.nil _ _ _⟩
 ·refine ky (rfl) (kg (VE (fS (cs := #[]) d nZ (mF [] az cJ cT dc rfl (by simp) rfl rfl) (fun G k d => Wm (bS hm fun H t hm => VE (kI (enc := (fl .u8)) (v := (.slice (some ⟨k, 0, none⟩) 0 0)) (vs := (.slice (some z) i.length B)) (R := [(k, Ob #[] 5)]) d (fun _ => rfl) dc (ur _) az jc.1 jc.2.1 rfl jc.2.2.1 jc.2.2.2 rfl rfl (fL.lit (l := []) (enc := (fl .u8)) rfl dc rfl rfl) (a.mono (Pl.mono _) d.fH) t (fun D x j d c => Wa (lt ?_))))))))
  obtain rfl := sj hm
  exact gb (v := x) rfl rfl ⟨_, j, rfl, d.iY (fun p h => (Ml h)) c.nd, c⟩
theorem pr (T : Value) (a0 : List Key) (r : ((Option fW) × Int)) (w : World) {μ0 : fz} (h0 : kV μ0 [] w) (a3 : Sl ie 2 μ0 T a0) (hm : nj a0 = some r) :
  gY true pg0 7 [T] w μ0 [] (fun v L1 μ1 => ∃ y1, v = (.tuple #[y1, (.int .i64 (r.2))]) ∧ L1 = [] ∧ lI gn μ1 y1 r.1) := by
 refine Af h0 57 func7 rfl (fun d => sg (Wa (Wa (lr (VE (xz (P := pg0) Value.string (fL 5 (fl .u8) 1) d (fun W1 v4 R2 d d0 => ?_)))))))
 obtain ⟨Z, rfl⟩ := d0.form
 refine V (gX (v := (.agg #[(.map (some Z))])) (iD rfl) (gr zeroValue76 eK (Cq _ eK) kr)) (VE (hZ d rfl (fun W7 s d => Wa (lS (Wm (V (gv bG rfl a3) (Wm (ln (gP (fun i E W => ∃ I D y a1, (E 14 = .int .i64 (i : Nat) ∧ E 13 = .int .i64 (a0.length : Nat)) ∧ fw μ0 y ∧ Lo (keys []) w μ0 y ∧ ST true (keys []) w W y ((s, Ob #[(.map (some Z))] 76) :: (D ++ a1)) ∧ E 4 = (.pointer (some ⟨s, 0, none⟩)) ∧ E 12 = T ∧ oJ Value.string (fL 5 (fl .u8) 1) (.map (some Z)) I D ∧ lj (a0.drop i) I = some r) a0.length a3.len ⟨([]), R2, μ0, _, ⟨rfl, rfl⟩, (fw.refl _), Lo.refl, (d.fc St), rfl, rfl, d0, hm⟩ dc dc dc (fun _ _ _ h => by obtain ⟨_, _, _, _, aa, _⟩ := h; exact aa) ?_ ?_)))))))))
 ·rintro b1 E W c0 ⟨I, D, y, a1, ⟨O, eN⟩, t, p, d, G, M, Q, a⟩
  obtain ⟨j, e4, c8, c7, c9⟩ := gC c0
  rw [c8] at a
  refine bg (VQ (lK (i := (b1 : Int)) (x0 := j) ie.out bG bX M O (a3.mono ma.mono t) (aQ _) c7) (fun f5 ⟨_, ⟨f7, rfl, B⟩, c1⟩ => V (fh rfl (iX d.has c1 isAgg72 bX)) (VE (gq d cr (fun e9 a7 d => ?_)))))
  obtain ⟨J, K, rfl⟩ := B.form
  let a2 : Value := (.slice J j.Key.length K)
  refine VO (fM (.agg #[(.string j.fu), a2]) (#[(.string j.fu), a2]) d rfl rfl bX oc nb rfl (fun f0 d => ln (fC ?_)))
  replace d := d.drew
  have n := d.has.fc (Kb (Kb (Kr Sn)))
  refine gy n gl (X 0 rfl n (fi G) (X 1 rfl n (mh rfl) (X 2 rfl n (fj tH rfl) (XH 3 rfl n (fun _ q => fh rfl (fF q (Mt Mh) rfl isAgg74)) (X 4 rfl n (fj nP rfl) (XH 5 rfl n (fun _ q => fh rfl (fF q Mh rfl aZ)) ?_))))))
  obtain ⟨e3, N⟩ := Q
  obtain ⟨e7, e1, e2⟩ := iN.rowAt gJ.1 N j.fu
  refine XH 6 rfl n (fun _ q => qF (k := j.fu) (z := (.slice none 0 0)) A7 underlying74 zeroValue36 rfl rfl N (fun b o hq => q.2 b o (Mt (Mt (Ml hq))))) (X 7 rfl n (fi rfl) (X 8 rfl n (iZ rfl rfl) (X 9 rfl n (iZ rfl rfl) (X 10 rfl n (gf rfl) (X 11 rfl n (gf rfl) (iq kr (fq (fC (bg (Wf nP (VB d Mh rfl rfl aZ (bS a fun f6 c4 a => ?_))))))))))))
  refine VE (Eg d call31 (kG j.fu _ _  c4) (fun f1 d => V (jv rfl) (Wa (ln (CI a rfl (fun b5 a => ?_) (fun b5 a => ?_))))))
  ·refine sg (Wa (Wa (ln ?_)))
   replace d := d.fc (Db (Db (Dr St)))
   refine ga (gU (fN (gU (fN (gU (fN ?_))))))
   obtain rfl := sj a
   exact mR (v := (.pointer none)) (u := (.int .i64 30)) rfl rfl rfl ⟨_, _, _, rfl, (d.gA Sn), t, p, (ST.fJ d (gm.mem Sn)), (.pointer none), rfl, rfl, lI.nil⟩
  refine sg (Wf pJ (VB d Mh rfl rfl bT (V (gv az rfl B) (Wi rfl (Wm (LJ a (fun b2 E W => ∃ a6, ST true (keys []) w W y ((a7, Ob #[(.string j.fu), a2] 72) :: ((s, Ob #[(.map (some Z))] 76) :: (D ++ a6))) ∧ E 4 = (.pointer (some ⟨s, 0, none⟩)) ∧ E 6 = (.pointer (some ⟨a7, 0, none⟩)) ∧ E 8 = (.bool ((iy fP I j.fu).isSome)) ∧ E 12 = T ∧ E 13 = (.int .i64 (a0.length : Int)) ∧ E 14 = (.int .i64 (b1 : Int)) ∧ E 43 = (.bool b2)) 5 ?_ (fun b2 x Y => ?_)))))))
  ·rintro f9 E W ⟨a6, d, a8, a9, d2, d3, d4, d5, d6⟩ c
   refine Wg d6 (ln (CI c rfl (fun b7 c => ?_) (fun b7 c => ?_)))
   ·refine sg (Wa (Wa (ln ?_)))
    replace d := d.fc (Db (Db (Dr St)))
    refine ga (gU (fN (gU (fN (gU (fN ?_))))))
    obtain rfl := sj c
    exact mR (v := (.pointer none)) (u := (.int .i64 21)) rfl rfl rfl ⟨_, _, _, rfl, (d.gA Sn), t, p, (ST.fJ d (gm.mem Sn)), (.pointer none), rfl, rfl, lI.nil⟩
   refine sg (Wh d2 (Wa (ln (CI c rfl (fun b9 c => ?_) (fun b9 c => ?_)))))
   ·refine sg (Wa (Wa (ln ?_)))
    replace d := d.fc (Db (Db (Dr St)))
    refine ga (gU (fN (gU (fN (gU (fN ?_))))))
    obtain rfl := sj c
    exact mR (v := (.pointer none)) (u := (.int .i64 41)) rfl rfl rfl ⟨_, _, _, rfl, (d.gA Sn), t, p, (ST.fJ d (gm.mem Sn)), (.pointer none), rfl, rfl, lI.nil⟩
   refine gp (gk (fq ?_))
   replace d := d.drew
   have n := d.has.fc (Kb (Kb Sn))
   refine gy n gl (X 0 rfl n (fi a8) (X 1 rfl n (mh rfl) (X 2 rfl n (fj tH rfl) (XH 3 rfl n (fun _ q => fh rfl (fF q (Mt Mh) rfl isAgg74)) (X 4 rfl n (fj nP a9) (XH 5 rfl n (fun _ q => fh rfl (fF q Mh rfl aZ)) (X 6 rfl n (fj pJ a9) (XH 7 rfl n (fun _ q => fh rfl (fF q Mh rfl bT)) (bS c fun d8 c5 c => XE 8 rfl (mg d call32 (ny a2 j.Key _ _ (B.mono (Pl.mono _) d.fH) c5) (fun f2 f8 d9 e8 d H A b3 => ?_)))))))))))
   have n := d.has.oZ H (Dr (Kb (Kb Sn)))
   refine ⟨n, ?_⟩
   replace d := d.perm (Nr (Qr (Qb (Qb Qz))) Nz)
   refine bS c fun d7 c6 c => XO 9 rfl (zc (k := j.fu) (z := d8)  A7 underlying74 d N rfl rfl rfl b3 c6 (fun f3 d1 d b4 => ?_))
   have n := d.has.oZ H (Dr (Kb (Kb Sn)))
   refine ⟨n, (iq kr (gk (fq ?_)))⟩
   replace d := d.fc (Kr (Db St))
   exact ⟨d5, d7, d1, d9, _, ⟨rfl, d4⟩, (t.trans H), (p.trans A), (d.fc (Sb (Pr Pz) St)), a8, d3, b4.e, (by rw [c9]; exact c)⟩
  refine bC x (fun g x => ?_) (fun g x => ?_)
  ·refine un g (un g (un g (un g (V (fy (cB g) rfl) ?_))))
   obtain rfl := sj x
   exact Y _ _ ⟨_, (d.fc St), G, rfl, rfl, M, eN, O, rfl⟩
  refine ug g (fj pJ rfl) (ug g (fh rfl (fF d.has Mh rfl bT)) (ug g (gv az rfl B) (ug g (fY rfl rfl rfl) (V (fx (cB g) rfl) ?_))))
  obtain rfl := sj x
  exact Y _ _ ⟨_, (d.fc St), G, rfl, rfl, M, eN, O, rfl⟩
 rintro E W ⟨I, D, y, a1, ⟨O, eN⟩, t, p, d, G, M, Q, a⟩
 rw [aU] at a
 refine fq (sg (Wh G (Wa (Wa (lt ?_)))))
 obtain rfl := sj a
 refine mR (v := (.pointer (some ⟨s, 0, none⟩))) (u := (.int .i64 0)) rfl rfl rfl ?_
 replace d := d.perm (Nr (Qb Qz) Nz)
 obtain ⟨g1, d, b0, F, c2⟩ := ST.tq d
 obtain ⟨g2, d, U, L, c3⟩ := ST.tq (R := [(s, Ob #[(.map (some Z))] 76)]) d
 exact ⟨_, _, _, rfl, (d.gA Sn), ((t.trans b0).trans U), ((p.trans F).trans L), (ST.fJ d (gm.mem Sn)), (.pointer (some ⟨s, 0, none⟩)), rfl, rfl, (lI.some (At.of (c3 _ _ (.head _)) _ rfl) (gn.mk ⟨(.map (some Z)), rfl, ((Q.at c2).mono U)⟩))⟩
theorem lX (i : fE) (r : Bool) (w : World) (hm : jf i = some r) :
  fQ true pg0 80 [(.agg (fD i).toArray)] w (.bool r) := by
 refine cG 11 func80 rfl (fun d => sg (VE (hZ d rfl (fun H J d => Wa (lr (Wf je (VB d Mh rfl rfl aZ (bS hm fun K y hm => VE (Eg d call31 (kG i.eZ _ _  y) (fun I d => Wm (LJ hm (fun k E W => ∃ j, ST true fO w W (hp w) j ∧ E 2 = (.bool false) ∧ E 10 = (.bool k)) 4 ?_ (fun k a g => ?_))))))))))))
 ·rintro G E W ⟨j, d, B, x⟩ t
  exact Wg x (lt (rQ t d))
 refine bC a (fun c a => ?_) (fun c a => ?_)
 ·refine ug c (fj mX rfl) (ug c (fh rfl (fF d.has Mh rfl aZ)) (bS a fun D u a => me c (Eg d call31 (kG i.fg _ _  u) (fun z d => V (fy (cB c) rfl) ?_))))
  obtain rfl := sj a
  exact g _ _ ⟨_, (d.fc (Db St)), rfl, rfl⟩
 refine un c (un c (un c (V (fx (cB c) rfl) ?_)))
 obtain rfl := sj a
 exact g _ _ ⟨_, (d.fc (Db St)), rfl, rfl⟩
theorem Bx (w : World) (a b : ByteArray) : (callFunc 131 [Value.string a, .string b].toArray).run pg0 w = .ok (.value (.int .i64 (lC a b))) w := zd func131 (by kernel_rfl) (by kernel_rfl) (by kernel_rfl) (by kernel_rfl) a b w
theorem nE (a c : ByteArray) (r : Int) (w : World) (hm : iW a c = some r) :
  fQ true pg0 121 [(.string a), (.string c)] w (.int .i64 r) := by
 exact cG 8 func121 rfl (fun d => sg (Wa (lr (Wm (Wm (VE (xu (args := [(.string a), (.string c)]) (v := .int .i64 (lC a c)) rfl (by exact kc rfl rfl) (Bx _ a c) (Wa (lt (rQ hm d))))))))))
theorem pf (a c : ByteArray) (r : Int) (w : World) (hm : lO a c = some r) :
  fQ true pg0 98 [(.string a), (.string c)] w (.int .i64 r) := by
 refine cG 8 func98 rfl (fun d => sg (Wa (lr (Wm (Wm (bS hm fun j g hm => VE (Eg d call121 (nE a c _ _  g) (fun i d => Wa (ln ?_)))))))))
 exact ga (rQ hm d)
theorem vI (g : Value) (t : List Int) (r : Int) (w : World) (c : Sl (Pl (fl .i64)) 1 (hp w) g t) (hm : pB t = some r) :
  fQ true pg0 97 [g] w (.int .i64 r) := by
 refine cG 18 func97 rfl (fun d => sg (Wa (lr (Wa (lS (Wm ?_))))))
 refine V (gv underlying160 rfl c) (Wm (ln (gP (fun i E W => ∃ k, (E 8 = .int .i64 (i : Nat) ∧ E 7 = .int .i64 (t.length : Nat)) ∧ ST true fO w W (hp w) k ∧ E 3 = (.int .i64 0) ∧ E 6 = g ∧ mK (t.drop i) = some r) t.length c.len ⟨_, ⟨rfl, rfl⟩, (d.fc St), rfl, rfl, hm⟩ dc dc dc (fun _ _ _ h => by obtain ⟨_, o, _⟩ := h; exact o) ?_ ?_)))
 ·rintro J E W B ⟨k, ⟨n, p⟩, d, j, u, a⟩
  obtain ⟨x, K, H, G, I⟩ := gC B
  rw [H] at a
  refine bg (VQ (kf (enc := (fl .i64)) (i := (J : Int)) (x0 := x) underlying160 sizeOf3 u n c (aQ _) G) (fun M D => V (fh rfl (ki d.has (y := (.int .i64 x)) D dn)) (Wa (lr (Wm (Wh j (Wi rfl (ln ?_))))))))
  refine CI a rfl (fun z a => ?_) (fun z a => ?_)
  ·refine sg (Wm (Wa (lt (gU (fN (gU (fN ?_)))))))
   obtain rfl := sj a
   exact rP d
  exact gp (gk (fq ⟨n, _, ⟨rfl, p⟩, (d.fc St), j, u, (by rw [I]; exact a)⟩))
 rintro E W ⟨k, ⟨n, p⟩, d, j, u, a⟩
 rw [aU] at a
 exact fq (sg (Wh j (Wa (lt (rQ a d)))))
theorem tS (g i : fE) (r : Int) (w : World) (hm : ni g i = some r) :
  fQ true pg0 81 [(.agg (fD g).toArray), (.agg (fD i).toArray)] w (.int .i64 r) := by
 refine cG 17 func81 rfl (fun d => sg (VE (hZ d rfl (fun G I d => VE (hZ d rfl (fun H J d => Wa (ln (fC ?_))))))))
 replace d := d.drew
 have h := d.has.fc (Kb (Kb Sn))
 refine gy h gl (X 0 rfl h (fj je rfl) (XH 1 rfl h (fun _ n => fh rfl (fF n (Mt Mh) rfl aZ)) (X 2 rfl h (fj je rfl) (XH 3 rfl h (fun _ n => fh rfl (fF n Mh rfl aZ)) (X 5 rfl h (fj mX rfl) (XH 6 rfl h (fun _ n => fh rfl (fF n (Mt Mh) rfl aZ)) (X 7 rfl h (fj mX rfl) (XH 8 rfl h (fun _ n => fh rfl (fF n Mh rfl aZ)) (bS hm fun a j hm => XE 4 rfl (Eg d call98 (pf g.eZ i.eZ _ _  j) (fun x d => ?_)))))))))))
 have h := d.has.fc (Kb (Kb Sn))
 refine ⟨h, (bS hm fun c k hm => XE 9 rfl (Eg d call98 (pf g.fg i.fg _ _  k) (fun y d => ?_)))⟩
 have h := d.has.fc (Kb (Kb Sn))
 refine ⟨h, (XE 10 rfl (fS (cs := #[(.int .i64 a), (.int .i64 c)]) d (lU rfl rfl) (kR underlying160 sizeOf3 zeroValue3) (fun z u d => ?_)))⟩
 have h := d.has.fc (Db (Kb (Kb Sn)))
 refine ⟨h, (bS hm fun D t hm => XE 11 rfl (Eg d call97 (vI (.slice (some ⟨u, 0, none⟩) 2 2) ([a, c]) _ _ (Sl.lit (enc := (fl .i64)) (l := [a, c]) (fun _ => rfl) rfl nb rfl (d.at_ Mh)) t) (fun B d => ?_)))⟩
 have h := d.has.fc (Db (Kb (Kb Sn)))
 refine ⟨h, (X 12 rfl h (gf rfl) (iq kr (fq ?_)))⟩
 exact ga (rQ hm d)
set_option maxHeartbeats 4000000 in
theorem mV (a : eY) (r : Bool) (w : World) (hm : jh a = some r) :
  fQ true pg0 48 [(.agg (fa a).toArray)] w (.bool r) := by
 let m9 := (⟨a.Kind, a.Head, zS, a.B, a.C, zS⟩ : eY)
 let m8 := (⟨a.Kind, a.Head, zS, a.B, K0, a.fB⟩ : eY)
 let m7 : Value := (.agg (fD a.B).toArray)
 let j2 := ((fa (⟨a.Kind, a.Head, zS, a.B, K0, zS⟩ : eY)).toArray)
 let s := (⟨a.Kind, a.Head, zS, K0, K0, zS⟩ : eY)
 refine cG 98 func48 rfl (fun d => sg (VE (hZ d rfl (fun W2 N d => Wa (lr (Wf kM (VB d Mh rfl rfl dn (Wf mB (VA d Mh (fD a.Head) bp aP (V (gX (v := (.agg (fa s).toArray)) (lU rfl rfl) (gr bz bx (xX _ bx) kr)) (VE (gq d bz (fun W4 B d => ?_)))))))))))))
 refine VO (fM (.agg (fa s).toArray) ((fa s).toArray) d rfl rfl aA (iH s) nb rfl (fun W5 d => lr (Wf mB (VA d (Mt Mh) (fD a.Head) bp aP (bS hm fun q j0 hm => VE (Eg d call80 (lX a.Head _ _  j0) (fun W8 d => Wa (ln (fC (tE hm (fun L E W => ∃ b6, ST true fO w W (hp w) ((B, Ol (fa L.2) 35) :: ((N, Ol (fa a) 35) :: b6)) ∧ E 1 = (.pointer (some ⟨N, 0, none⟩)) ∧ E 3 = (.pointer (some ⟨B, 0, none⟩)) ∧ E 4 = (.bool L.1)) (fun L g Z => ?_) ?_))))))))))
 ·let j1 := ((fa m9).toArray : Array Value)
  let b8 := ((fa m8).toArray : Array Value)
  let p : Value := (.pointer (some ⟨B, 0, none⟩))
  let o : Value := (.pointer (some ⟨N, 0, none⟩))
  let a0 := ((fa a).toArray : Array Value)
  refine sg (Wf kM (VB d (Mt Mh) rfl rfl dn (ln (bg (Wi rfl (Wa (ln (CI g rfl (fun e5 g => ?_) (fun e5 g => ?_)))))))))
  ·replace d := d.drew
   have h := d.has.fc (Db (Kb Sn))
   refine gy h gl (X 0 rfl h (fj nQ rfl) (XH 1 rfl h (fun _ n => fh rfl (fF n Mh rfl aZ)) (X 2 rfl h (fi rfl) (X 3 rfl h (fi rfl) (X 8 rfl h (fj nQ rfl) (PJ g (fun d6 E W => ∃ b9, ST true fO w W (hp w) ((B, Ol (fa s) 35) :: ((N, Obj.cells a0 35 (0, 0)) :: b9)) ∧ E 1 = o ∧ E 3 = p ∧ E 4 = (.bool q) ∧ E 18 = (.string a.fu) ∧ E 24 = (.bool d6) ∧ E 25 = (.pointer (some ⟨B, 3, none⟩))) (bm 11 511) 2 ?_ (fun d6 D a2 => ?_)))))))
   ·rintro l9 E W ⟨b9, d, h0, h1, k6, h2, h3, h4⟩ f1
    refine XO 9 rfl (fM (.string a.fu) ((fa (⟨a.Kind, a.Head, a.fu, K0, K0, zS⟩ : eY)).toArray) d h4 h2 dh (tY a.fu) nb rfl (fun j3 d => ?_))
    have h := d.has.fc (Db (Kb Sn))
    refine ⟨h, (X 10 rfl h (gf h3) (iq kr (gk (fq ?_))))⟩
    obtain rfl := sj f1
    exact ⟨_, rfl, _, (d.fc St), h0, h1, rfl⟩
   refine bC D (fun k D => ?_) (fun k D => ?_)
   ·refine Xg 4 rfl rfl (cB k) h (fj nQ rfl) (pS 5 rfl rfl (cB k) h (fun _ n => fh rfl (fF n Mh rfl aZ)) (bS D fun l0 f9 D => rf 6 rfl rfl (cB k) (Eg d call31 (kG a.fu _ _  f9) (fun j4 d => ?_))))
    have h := d.has.fc (Db (Kb Sn))
    refine ⟨h, (X 7 rfl h (fy (cB k) rfl) ?_)⟩
    obtain rfl := sj D
    refine ju kr (a2 _ _ ⟨_, (d.fc St), rfl, rfl, rfl, rfl, rfl, rfl⟩)
   refine Xn 4 rfl rfl (cB k) h (Xn 5 rfl rfl (cB k) h (Xn 6 rfl rfl (cB k) h (X 7 rfl h (fx (cB k) rfl) ?_)))
   obtain rfl := sj D
   refine ju kr (a2 _ _ ⟨_, (d.fc St), rfl, rfl, rfl, rfl, rfl, rfl⟩)
  refine sg (Wi rfl (Wa (ln (CI g rfl (fun e6 g => ?_) (fun e6 g => ?_)))))
  ·replace d := d.drew
   have h := d.has.fc (Db (Kb Sn))
   refine gy h gl (X 0 rfl h (fj iz rfl) (XH 1 rfl h (fun _ n => fh rfl (ft n Mh (fD a.B) rfl bp aP)) (X 2 rfl h (fi rfl) (X 3 rfl h (fi rfl) (X 8 rfl h (fj iz rfl) (PJ g (fun d7 E W => ∃ c0, ST true fO w W (hp w) ((B, Ol (fa s) 35) :: ((N, Obj.cells a0 35 (0, 0)) :: c0)) ∧ E 1 = o ∧ E 3 = p ∧ E 4 = (.bool q) ∧ E 29 = m7 ∧ E 35 = (.bool d7) ∧ E 36 = (.pointer (some ⟨B, 4, none⟩))) (bm 11 511) 2 ?_ (fun d7 G a3 => ?_)))))))
   ·rintro m0 E W ⟨c0, d, h5, h6, k7, h7, h8, h9⟩ f2
    refine XO 9 rfl (fM m7 j2 d h9 h7 aP (mE a.B) nb rfl (fun j5 d => ?_))
    have h := d.has.fc (Db (Kb Sn))
    refine ⟨h, (X 10 rfl h (gf h8) (iq kr (gk (fq ?_))))⟩
    obtain rfl := sj f2
    exact ⟨_, rfl, _, (d.fc St), h5, h6, rfl⟩
   refine bC G (fun t G => ?_) (fun t G => ?_)
   ·refine Xg 4 rfl rfl (cB t) h (fj iz rfl) (pS 5 rfl rfl (cB t) h (fun _ n => fh rfl (ft n Mh (fD a.B) rfl bp aP)) (bS G fun l1 g0 G => rf 6 rfl rfl (cB t) (Eg d call80 (lX a.B _ _  g0) (fun j6 d => ?_))))
    have h := d.has.fc (Db (Kb Sn))
    refine ⟨h, (X 7 rfl h (fy (cB t) rfl) ?_)⟩
    obtain rfl := sj G
    refine ju kr (a3 _ _ ⟨_, (d.fc St), rfl, rfl, rfl, rfl, rfl, rfl⟩)
   refine Xn 4 rfl rfl (cB t) h (Xn 5 rfl rfl (cB t) h (Xn 6 rfl rfl (cB t) h (X 7 rfl h (fx (cB t) rfl) ?_)))
   obtain rfl := sj G
   refine ju kr (a3 _ _ ⟨_, (d.fc St), rfl, rfl, rfl, rfl, rfl, rfl⟩)
  refine sg (Wi rfl (Wa (ln (CI g rfl (fun e7 g => ?_) (fun e7 g => ?_)))))
  ·refine fC ?_
   replace d := d.drew
   have h := d.has.fc (Db (Kb Sn))
   refine gy h gl (X 0 rfl h (fj iz rfl) (XH 1 rfl h (fun _ n => fh rfl (ft n Mh (fD a.B) rfl bp aP)) (X 2 rfl h (fj ng rfl) (XH 3 rfl h (fun _ n => fh rfl (fF n Mh rfl aZ)) (X 4 rfl h (fj iz rfl) (XO 5 rfl (fM m7 j2 d rfl rfl aP (mE a.B) nb rfl (fun j7 d => ?_))))))))
   have h := d.has.fc (Db (Kb Sn))
   refine ⟨h, (X 6 rfl h (fj ng rfl) (XO 7 rfl (fM (.string a.fB) ((fa m8).toArray) d rfl rfl dh (tY a.fB) nb rfl (fun j8 d => ?_))))⟩
   have h := d.has.fc (Db (Kb Sn))
   refine ⟨h, (iq kr (fq (fm (Wm (Wm (LJ g (fun e0 E W => ∃ c1, ST true fO w W (hp w) ((B, Obj.cells b8 35 (0, 0)) :: ((N, Obj.cells a0 35 (0, 0)) :: c1)) ∧ E 1 = o ∧ E 3 = p ∧ E 4 = (.bool q) ∧ E 50 = (.bool e0)) 4 ?_ (fun e0 I P => ?_)))))))⟩
   ·rintro m1 E W ⟨c1, d, U, c7, c8, i0⟩ f3
    refine Wh i0 (LJ f3 (fun d9 E W => ∃ c2, ST true fO w W (hp w) ((B, Obj.cells b8 35 (0, 0)) :: ((N, Obj.cells a0 35 (0, 0)) :: c2)) ∧ E 1 = o ∧ E 3 = p ∧ E 4 = (.bool q) ∧ E 59 = (.bool d9)) 8 ?_ (fun d9 T a5 => ?_))
    ·rintro m2 E W ⟨c2, d, A, c9, d0, i1⟩ f4
     refine Wh i1 (LJ f4 (fun d8 E W => ∃ c3, ST true fO w W (hp w) ((B, Obj.cells b8 35 (0, 0)) :: ((N, Obj.cells a0 35 (0, 0)) :: c3)) ∧ E 1 = o ∧ E 3 = p ∧ E 4 = (.bool q) ∧ E 64 = (.bool d8)) 4 ?_ (fun d8 H a4 => ?_))
     ·rintro m3 E W ⟨c3, d, i2, i3, k8, i4⟩ f5
      refine Wg i4 (fK (gk (fq ?_)))
      obtain rfl := sj f5
      exact ⟨_, rfl, _, (d.fc St), i2, i3, rfl⟩
     refine bC H (fun x H => ?_) (fun x H => ?_)
     ·refine ug x (fj ng A) (ug x (fh rfl (fF d.has (Mt Mh) rfl aZ)) (bS H fun l2 g1 H => me x (Eg d call31 (kG a.fB _ _  g1) (fun j9 d => V (fy (cB x) rfl) ?_))))
      obtain rfl := sj H
      exact a4 _ _ ⟨_, (d.fc St), A, c9, d0, rfl⟩
     refine un x (un x (un x (V (fx (cB x) rfl) ?_)))
     obtain rfl := sj H
     exact a4 _ _ ⟨_, (d.fc St), A, c9, d0, rfl⟩
    refine bC T (fun c T => ?_) (fun c T => ?_)
    ·refine ug c (fj iz U) (ug c (fj je rfl) (ug c (fh rfl (fF d.has (Mt Mh) rfl aZ)) (ug c (fj mB U) (ug c (fj je rfl) (ug c (fh rfl (fF d.has (Mt Mh) rfl aZ)) (ug c (jb rfl rfl rfl) (V (fy (cB c) rfl) ?_)))))))
     obtain rfl := sj T
     exact a5 _ _ ⟨_, (d.fc St), U, c7, c8, rfl⟩
    refine un c (un c (un c (un c (un c (un c (un c (V (fx (cB c) rfl) ?_)))))))
    obtain rfl := sj T
    exact a5 _ _ ⟨_, (d.fc St), U, c7, c8, rfl⟩
   refine bC I (fun u I => ?_) (fun u I => ?_)
   ·refine ug u (fj iz rfl) (ug u (fh rfl (ft d.has (Mt Mh) (fD a.B) rfl bp aP)) (bS I fun l3 g2 I => me u (Eg d call80 (lX a.B _ _  g2) (fun k0 d => V (fy (cB u) rfl) ?_))))
    obtain rfl := sj I
    exact P _ _ ⟨_, (d.fc St), rfl, rfl, rfl, rfl⟩
   refine un u (un u (un u (V (fx (cB u) rfl) ?_)))
   obtain rfl := sj I
   exact P _ _ ⟨_, (d.fc St), rfl, rfl, rfl, rfl⟩
  refine sg (Wi rfl (Wa (ln (CI g rfl (fun e8 g => ?_) (fun e8 g => ?_)))))
  ·refine fC ?_
   replace d := d.drew
   have h := d.has.fc (Db (Kb Sn))
   refine gy h gl (X 0 rfl h (fj iz rfl) (XH 1 rfl h (fun _ n => fh rfl (ft n Mh (fD a.B) rfl bp aP)) (X 2 rfl h (fj lu rfl) (XH 3 rfl h (fun _ n => fh rfl (ft n Mh (fD a.C) rfl bp aP)) (X 4 rfl h (fj iz rfl) (XO 5 rfl (fM m7 j2 d rfl rfl aP (mE a.B) nb rfl (fun k1 d => ?_))))))))
   have h := d.has.fc (Db (Kb Sn))
   refine ⟨h, (X 6 rfl h (fj lu rfl) (XO 7 rfl (fM (.agg (fD a.C).toArray) ((fa m9).toArray) d rfl rfl aP (mE a.C) nb rfl (fun k2 d => ?_))))⟩
   have h := d.has.fc (Db (Kb Sn))
   refine ⟨h, (iq kr (fq (fm (Wm (Wm (LJ g (fun e3 E W => ∃ c4, ST true fO w W (hp w) ((B, Obj.cells j1 35 (0, 0)) :: ((N, Obj.cells a0 35 (0, 0)) :: c4)) ∧ E 1 = o ∧ E 3 = p ∧ E 4 = (.bool q) ∧ E 78 = (.bool e3)) 4 ?_ (fun e3 M a9 => ?_)))))))⟩
   ·rintro m4 E W ⟨c4, d, F, d1, d2, i5⟩ f6
    refine Wh i5 (LJ f6 (fun e2 E W => ∃ c5, ST true fO w W (hp w) ((B, Obj.cells j1 35 (0, 0)) :: ((N, Obj.cells a0 35 (0, 0)) :: c5)) ∧ E 1 = o ∧ E 3 = p ∧ E 4 = (.bool q) ∧ E 83 = (.bool e2)) 4 ?_ (fun e2 K a8 => ?_))
    ·rintro m5 E W ⟨c5, d, Y, d3, d4, i6⟩ f7
     refine Wh i6 (LJ f7 (fun e1 E W => ∃ c6, ST true fO w W (hp w) ((B, Obj.cells j1 35 (0, 0)) :: ((N, Obj.cells a0 35 (0, 0)) :: c6)) ∧ E 1 = o ∧ E 3 = p ∧ E 4 = (.bool q) ∧ E 91 = (.bool e1)) 7 ?_ (fun e1 J R => ?_))
     ·rintro m6 E W ⟨c6, d, i7, i8, k9, i9⟩ f8
      refine Wg i9 (fK (gk (fq ?_)))
      obtain rfl := sj f8
      exact ⟨_, rfl, _, (d.fc St), i7, i8, rfl⟩
     refine bC J (fun i J => ?_) (fun i J => ?_)
     ·refine ug i (fj iz Y) (ug i (fh rfl (ft d.has (Mt Mh) (fD a.B) rfl bp aP)) (ug i (fj lu Y) (ug i (fh rfl (ft d.has (Mt Mh) (fD a.C) rfl bp aP)) (bS J fun l4 g3 J => me i (Eg d call81 (tS a.B a.C _ _  g3) (fun k3 d => ug i (fY rfl rfl rfl) (V (fy (cB i) rfl) ?_)))))))
      obtain rfl := sj J
      exact R _ _ ⟨_, (d.fc St), Y, d3, d4, rfl⟩
     refine un i (un i (un i (un i (un i (un i (V (fx (cB i) rfl) ?_))))))
     obtain rfl := sj J
     exact R _ _ ⟨_, (d.fc St), Y, d3, d4, rfl⟩
    refine bC K (fun z K => ?_) (fun z K => ?_)
    ·refine ug z (fj lu F) (ug z (fh rfl (ft d.has (Mt Mh) (fD a.C) rfl bp aP)) (bS K fun l5 g4 K => me z (Eg d call80 (lX a.C _ _  g4) (fun k4 d => V (fy (cB z) rfl) ?_))))
     obtain rfl := sj K
     exact a8 _ _ ⟨_, (d.fc St), F, d1, d2, rfl⟩
    refine un z (un z (un z (V (fx (cB z) rfl) ?_)))
    obtain rfl := sj K
    exact a8 _ _ ⟨_, (d.fc St), F, d1, d2, rfl⟩
   refine bC M (fun y M => ?_) (fun y M => ?_)
   ·refine ug y (fj iz rfl) (ug y (fh rfl (ft d.has (Mt Mh) (fD a.B) rfl bp aP)) (bS M fun l6 g5 M => me y (Eg d call80 (lX a.B _ _  g5) (fun k5 d => V (fy (cB y) rfl) ?_))))
    obtain rfl := sj M
    exact a9 _ _ ⟨_, (d.fc St), rfl, rfl, rfl, rfl⟩
   refine un y (un y (un y (V (fx (cB y) rfl) ?_)))
   obtain rfl := sj M
   exact a9 _ _ ⟨_, (d.fc St), rfl, rfl, rfl, rfl⟩
  refine sg (Wa (ln ?_))
  replace d := d.fc (Db (Db St))
  refine ga (gU (fN ?_))
  obtain rfl := sj g
  replace Z : some false = some r := Z
  obtain rfl := sj Z
  exact rP d
 rintro ⟨l7, e4⟩ E W ⟨b6, d, g6, g7, g8⟩ e9
 refine sg (Wh g8 (Wm (LJ e9 (fun d5 E W => ∃ b7, ST true fO w W (hp w) b7 ∧ E 97 = (.bool d5)) 4 ?_ (fun d5 Q O => ?_))))
 ·rintro l8 E W ⟨b7, d, g9⟩ f0
  exact Wg g9 (lt (rQ f0 d))
 refine bC Q (fun j Q => ?_) (fun j Q => ?_)
 ·refine ug j (fh g7 (ft d.has Mh (fa e4) rfl aT aA)) (ug j (fh g6 (ft d.has (Mt Mh) (fa a) rfl aT aA)) (ug j (qW rfl rfl (lp dQ) (oA (pH _ e4 a))) (V (fy (cB j) rfl) ?_)))
  obtain rfl := sj Q
  exact O _ _ ⟨_, (d.fc (Db (Db St))), rfl⟩
 refine un j (un j (un j (V (fx (cB j) rfl) ?_)))
 obtain rfl := sj Q
 exact O _ _ ⟨_, (d.fc (Db (Db St))), rfl⟩
theorem oQ (t : Value) (K : Option fW) (a : eY) (r : ((List Int) × Int)) (w : World) {J : fz} (Y : kV J [] w) (c : lI gn J t K) (hm : jO K a = some r) :
  gY true pg0 34 [t, (.agg (fa a).toArray)] w J [] (fun v U Z => ∃ T, v = (.tuple #[T, (.int .i64 (r.2))]) ∧ U = [] ∧ Sl (Pl (fl .u8)) 1 Z T (r.1)) := by
 refine Af Y 29 func34 rfl (fun d => sg (VE (hZ d rfl (fun W2 s d => Wa (Wa (ln (fC (bg (Wm (V (qT underlying26 c rfl rfl) (Wa ?_)))))))))))
 refine ln (CI hm rfl (fun M hm => ?_) (fun M hm => ?_))
 ·refine sg (Wa (Wa (ln ?_)))
  replace d := d.fc (Db St)
  refine ga (gU (fN ?_))
  obtain rfl := sj hm
  exact mR (v := (.slice none 0 0)) (u := (.int .i64 1)) rfl rfl rfl ⟨_, _, _, rfl, (d.gA Sn), (fw.refl _), Lo.refl, (ST.fJ d (gm.mem Sn)), (.slice none 0 0), rfl, rfl, (Sl.nil _ _ _)⟩
 refine sg (VA d Mh (fa a) aT aA (bS hm fun A Q hm => VE (Eg d call48 (mV a _ _  Q) (fun W6 d => V (jv rfl) (Wa (ln (CI hm rfl (fun N hm => ?_) (fun N hm => ?_))))))))
 ·refine sg (Wa (Wa (ln ?_)))
  replace d := d.fc (Db St)
  refine ga (gU (fN ?_))
  obtain rfl := sj hm
  exact mR (v := (.slice none 0 0)) (u := (.int .i64 11)) rfl rfl rfl ⟨_, _, _, rfl, (d.gA Sn), (fw.refl _), Lo.refl, (ST.fJ d (gm.mem Sn)), (.slice none 0 0), rfl, rfl, (Sl.nil _ _ _)⟩
 refine gp (gk (fq (fC ?_)))
 replace d := d.drew
 have h := d.has.fc (Kb Sn)
 refine gy h gl (X 0 rfl h (fi rfl) (bS hm fun a5 I hm => XQ 1 rfl h (re gn.out c I rfl) (fun a3 ⟨_, ⟨x, rfl, H⟩, D⟩ => XQ 2 rfl h (qg [x] tH rfl D rfl) (fun a4 G => XH 3 rfl h (fun _ p => fh rfl (ki p (y := x) G isAgg74)) (X 4 rfl h (fj mB rfl) (X 5 rfl h (fj je rfl) (XH 6 rfl h (fun _ p => fh rfl (fF p Mh rfl aZ)) ?_)))))))
 obtain ⟨j, a2, g, i⟩ := H
 refine XH 7 rfl h (fun _ p => qF (k := a.Head.eZ) (z := (.slice none 0 0)) A7 underlying74 zeroValue36 rfl rfl g (fun b o q => p.1 b o (i b o q))) (X 8 rfl h (fi rfl) (X 9 rfl h (iZ rfl rfl) (X 10 rfl h (iZ rfl rfl) (X 11 rfl h (gf rfl) (X 12 rfl h (gf rfl) (iq kr (fq ?_)))))))
 replace d := d.fc (Db St)
 refine fC (sg (Wm (V (jv rfl) (ln (CI hm rfl (fun B hm => ?_) (fun B hm => ?_))))))
 ·refine sg (Wa (Wa (lt (fN ?_))))
  obtain rfl := sj hm
  exact mR (v := (.slice none 0 0)) (u := (.int .i64 21)) rfl rfl rfl ⟨_, _, _, rfl, (d.gA Sn), (fw.refl _), Lo.refl, (ST.fJ d (gm.mem Sn)), (.slice none 0 0), rfl, rfl, (Sl.nil _ _ _)⟩
 refine kg (Wm (Wa (Wa (lt ?_))))
 obtain rfl := sj hm
 exact mR (v := (mj fP j a.Head.eZ (.slice none 0 0))) (u := (.int .i64 0)) rfl rfl rfl ⟨_, _, _, rfl, (d.gA Sn), (fw.refl _), Lo.refl, (ST.fJ d (gm.mem Sn)), (mj fP j a.Head.eZ (.slice none 0 0)), rfl, rfl, (iN.Ct (enc := (fl .u8)) (n := 1) (fun _ => rfl) gJ.1 g a.Head.eZ i)⟩
theorem ow (t : Nat) (j : Value) (G : List Int) (i : LO) (h : Int) (r : (Bool × (List Int))) (w : World) {μ0 : fz} (s : kV μ0 ((t, Ob #[j] 56) :: (i ++ [])) w) (y : fL 5 (fl .u8) 1 j G i) (hm : jy G h = some r) :
  gN true pg0 61 [(.pointer (some ⟨t, 0, none⟩)), (.int .i64 h)] w ((t, Ob #[j] 56) :: (i ++ [])) (fun v L1 W' => ∃ n S2, v = (.bool (r.1)) ∧ L1 = ((t, Ob #[n] 56) :: (S2 ++ [])) ∧ fL 5 (fl .u8) 1 n r.2 S2) := by
 refine uz s 38 func61 rfl (fun d => sg (Wa (lS (Wm (V (kx dv rfl rfl) (Wm (Vg rfl rfl (fi rfl) (Vg rfl rfl (fY rfl rfl rfl) (V (fx rfl rfl) ?_)))))))))
 refine ln (CI hm rfl (fun a9 hm => ?_) (fun a9 hm => ?_))
 ·refine sg (Wa (lt (fN ?_)))
  obtain rfl := sj hm
  exact gb (v := (.bool false)) rfl rfl ⟨_, _, rfl, (d.gA (Kb (Kr Sn))), j, i, rfl, rfl, y⟩
 refine kn (fC (iM (lm (fun m E W => ∃ c z U u a0, ST true (keys ((t, Ob #[j] 56) :: (i ++ []))) w W μ0 ((t, Ob #[z] 56) :: (u ++ a0)) ∧ E 0 = (.pointer (some ⟨t, 0, none⟩)) ∧ E 1 = (.int .i64 c) ∧ fL 5 (fl .u8) 1 z U u ∧ iO m c U = some r) ib ⟨h, j, G, i, _, (d.fc St), rfl, rfl, y, hm⟩ ?_)))
 rintro m E W ⟨c, z, U, u, a0, d, x, K, T, g⟩
 cases m with
 | zero => rw [iO] at g; cases g
 | succ q =>
  refine fC (sg (Wh K (Wi rfl (ln (CI g rfl (fun o g => ?_) (fun o g => ?_))))))
  ·refine kn (fC (iM (fm (Wh x (Wh x (Wn (Wf ot (VB d Mh rfl rfl bT (Wh K (V (jW (k' := .i64) (a := c) dp aY rfl) (V (su (k := .u8) (a := (IntKind.u8.wrap c)) (b := 128) (v := (.int .u8 (IntKind.u8.wrap (BitVec.ofInt (IntKind.bits .u8) (IntKind.u8.wrap c) ||| BitVec.ofInt (IntKind.bits .u8) 128).toNat))) rfl rfl dc rfl) (VE (fS (cs := [(.int .u8 (IntKind.u8.wrap (BitVec.ofInt (IntKind.bits .u8) (IntKind.u8.wrap c) ||| BitVec.ofInt (IntKind.bits .u8) 128).toNat))].toArray) d (iD rfl) (kR az cJ cT) (fun c3 p d => ?_))))))))))))))
   replace d := d.perm (Nr (Qb (Qb Qz)) Nz)
   refine bS g fun Q Y g => VE (kI (enc := (fl .u8)) (v := z) (vs := (.slice (some ⟨p, 0, none⟩) 1 1)) (R := u) d (fun _ => rfl) dc (ur _) az jc.1 jc.2.1 rfl jc.2.2.1 jc.2.2.2 rfl rfl T (Sl.lit (enc := (fl .u8)) (l := [(IntKind.u8.wrap (BitVec.ofInt (IntKind.bits .u8) (IntKind.u8.wrap c) ||| BitVec.ofInt (IntKind.bits .u8) 128).toNat)]) (fun _ => rfl) rfl nb rfl (d.at_ (Ma Mh))) Y (fun A c1 a2 d M => Wn (Wf ot ?_)))
   obtain ⟨B, H, rfl⟩ := M.form
   replace d := d.perm (Nb (Pr (Pb Pz)) Nz)
   refine VO (fM (.slice B Q.length H) (#[(.slice B Q.length H)]) d rfl rfl dq oc nb rfl (fun F d => fK (gk (fq ?_))))
   replace d := d.fc (Kb (Kr (Db St)))
   exact fm (Wh K (V (Ah (a := c) (b := 7) rfl rfl dc) (Wa (ln ⟨q, bE _, (Int.fdiv c (2 ^ min (Int.toNat 7) (IntKind.bits .i64))), (.slice B Q.length H), Q, a2, _, (d.fc St), x, rfl, M, g⟩))))
  refine mC (lW (lW (qm (fq (sg (Wh x (Wh x (Wn (Wf ot (VB d Mh rfl rfl bT (Wh K (V (jW (k' := .i64) (a := c) dp aY rfl) (VE (fS (cs := [(.int .u8 (IntKind.u8.wrap c))].toArray) d (iD rfl) (kR az cJ cT) (fun L a5 d => ?_)))))))))))))))
  replace d := d.perm (Nr (Qb (Qb Qz)) Nz)
  refine bS g fun J Z g => VE (kI (enc := (fl .u8)) (v := z) (vs := (.slice (some ⟨a5, 0, none⟩) 1 1)) (R := u) d (fun _ => rfl) dc (ur _) az jc.1 jc.2.1 rfl jc.2.2.1 jc.2.2.2 rfl rfl T (Sl.lit (enc := (fl .u8)) (l := [(IntKind.u8.wrap c)]) (fun _ => rfl) rfl nb rfl (d.at_ (Ma Mh))) Z (fun O c2 a3 d N => Wn (Wf ot ?_)))
  obtain ⟨D, I, rfl⟩ := N.form
  replace d := d.perm (Nb (Pr (Pb Pz)) Nz)
  refine VO (fM (.slice D J.length I) (#[(.slice D J.length I)]) d rfl rfl dq oc nb rfl (fun P d => ln ?_))
  replace d := d.fc (Kb (Kr (Db St)))
  refine sg (Wa (lt ?_))
  obtain rfl := sj g
  exact gb (v := (.bool true)) rfl rfl ⟨_, _, rfl, (d.gA (Kb (Kr Sn))), (.slice D J.length I), a3, rfl, rfl, N⟩
theorem ph (g : Nat) (c : Value) (j : List Int) (a : LO) (u : Value) (D : List Int) (r : (Bool × (List Int))) (w : World) {Z : fz} (n : kV Z ((g, Ob #[c] 56) :: (a ++ [])) w) (i : fL 5 (fl .u8) 1 c j a) (k : Sl (Pl (fl .u8)) 1 Z u D) (hm : kp j D = some r) :
  gN true pg0 50 [(.pointer (some ⟨g, 0, none⟩)), u] w ((g, Ob #[c] 56) :: (a ++ [])) (fun v L1 W' => ∃ U M, v = (.bool (r.1)) ∧ L1 = ((g, Ob #[U] 56) :: (M ++ [])) ∧ fL 5 (fl .u8) 1 U r.2 M) := by
 refine uz n 25 func50 rfl (fun d => sg (Wa (lS (Wm (V (kx dv rfl rfl) (Wm (Vg rfl rfl (fi rfl) (Vg rfl rfl (gv az rfl k) (Vg rfl rfl (fY rfl rfl rfl) ?_)))))))))
 refine V (fx rfl rfl) (ln (CI hm rfl (fun Q hm => ?_) (fun Q hm => ?_)))
 ·refine sg (Wa (lt (fN ?_)))
  obtain rfl := sj hm
  exact gb (v := (.bool false)) rfl rfl ⟨_, _, rfl, (d.gA (Kb (Kr Sn))), c, a, rfl, rfl, i⟩
 refine kg (Wm (Wm (V (gv az rfl k) (bS hm fun A T hm => ?_))))
 refine VE (eM d (Cb Pz (Cr Qz Cn)) call61 (fun o _ => (ow g c j a (D.length : Int) _ _ o i T)) ?_)
 rintro _ E q a3 d H p h ⟨Y, K, t, rfl, I⟩
 obtain rfl := t.symm
 replace d := d.perm (Tb (Tr Tn))
 refine lr (Wm (Wm (Wn (Wf ot (VB d Mh rfl rfl bT (Wm ?_))))))
 replace d := d.perm (Nr (Qb Qz) Nz)
 refine bS hm fun B G hm => VE (kI (enc := (fl .u8)) (v := Y) (vs := u) (R := K) d (fun _ => rfl) dc (ur _) az jc.1 jc.2.1 rfl jc.2.2.1 jc.2.2.2 rfl rfl I (k.mono (Pl.mono _) (H.trans d.fH)) G (fun a4 s J d z => Wn (Wf ot ?_)))
 obtain ⟨x, y, rfl⟩ := z.form
 replace d := d.perm (Nb (Pr Pz) Nz)
 refine VO (fM (.slice x B.length y) (#[(.slice x B.length y)]) d rfl rfl dq oc nb rfl (fun a5 d => lr (Wa (lt ?_))))
 obtain rfl := sj hm
 exact gb (v := (.bool true)) rfl rfl ⟨_, _, rfl, (d.gA (Kb (Kr Sn))), (.slice x B.length y), J, rfl, rfl, z⟩
theorem nX (j : Nat) (c : Value) (t : List Int) (a : LO) (J : ByteArray) (r : (Bool × (List Int))) (w : World) {Z : fz} (K : kV Z ((j, Ob #[c] 56) :: (a ++ [])) w) (k : fL 5 (fl .u8) 1 c t a) (hm : kJ t J = some r) :
  gN true pg0 63 [(.pointer (some ⟨j, 0, none⟩)), (.string J)] w ((j, Ob #[c] 56) :: (a ++ [])) (fun v L1 W' => ∃ q S2, v = (.bool (r.1)) ∧ L1 = ((j, Ob #[q] 56) :: (S2 ++ [])) ∧ fL 5 (fl .u8) 1 q r.2 S2) := by
 refine uz K 17 func63 rfl (fun d => sg (Wa (lr (Wm (V (qX dv rfl rfl) (Wm (Vg rfl rfl (fi rfl) (bS hm fun r1 a4 hm => sE rfl rfl (Eg d call31 (kG J _ _  a4) (fun W3 d => V (fy rfl rfl) ?_))))))))))
 refine Wm (LJ hm (fun B E W => ∃ z x D I, fw Z D ∧ ST true (keys ((j, Ob #[c] 56) :: (a ++ []))) w W D ((j, Ob #[z] 56) :: (x ++ I)) ∧ E 4 = (.bool false) ∧ E 16 = (.bool B.1) ∧ fL 5 (fl .u8) 1 z B.2 x) 5 ?_ (fun B g y => ?_))
 ·rintro ⟨A, c0⟩ E W ⟨z, x, D, I, O, d, b9, a3, T⟩ M
  refine Wg a3 (lt ?_)
  obtain rfl := sj M
  exact gb (v := (.bool A)) rfl rfl ⟨_, _, rfl, (d.gA (Kb (Kr Sn))), z, x, rfl, rfl, T⟩
 refine bC g (fun i g => ?_) (fun i g => ?_)
 ·refine ug i (fi rfl) (ug i (fi rfl) (bS g fun a5 N g => me i (rN d aH az aY rfl N (fun b6 s c3 d G o U P => bS g fun c1 Q g => ?_))))
  refine me i (eM d (Cb Pz (Cr Qz Cn)) call50 (fun L n => (ph j c t a s a5 _ _ L k (U.mono (Pl.mono _) n) Q)) ?_)
  rintro _ c2 F R d H p h ⟨a9, a2, u, rfl, Y⟩
  obtain rfl := u.symm
  replace d := d.perm (Tb (Tr Tn))
  refine V (fy (cB i) rfl) ?_
  obtain rfl := sj g
  exact y _ _ ⟨a9, a2, F, _, (G.trans H), (d.fc St), rfl, rfl, Y⟩
 refine un i (un i (un i (un i (V (fx (cB i) rfl) ?_))))
 obtain rfl := sj g
 exact y _ _ ⟨c, a, Z, _, (fw.refl _), (d.fc St), rfl, rfl, k⟩
theorem mU (c : Nat) (i : Value) (D : List Int) (a : LO) (x : fE) (r : (Bool × (List Int))) (w : World) {μ0 : fz} (h0 : kV μ0 ((c, Ob #[i] 56) :: (a ++ [])) w) (y : fL 5 (fl .u8) 1 i D a) (hm : jd D x = some r) :
  gN true pg0 62 [(.pointer (some ⟨c, 0, none⟩)), (.agg (fD x).toArray)] w ((c, Ob #[i] 56) :: (a ++ [])) (fun v L1 W' => ∃ A S2, v = (.bool (r.1)) ∧ L1 = ((c, Ob #[A] 56) :: (S2 ++ [])) ∧ fL 5 (fl .u8) 1 A r.2 S2) := by
 let o := ((c, Ob #[i] 56) :: (a ++ []))
 refine uz h0 23 func62 rfl (fun d => sg (VE (hZ d rfl (fun W2 p d => Wa (lr (Wm (V (qX dv rfl rfl) (Wm (Vg rfl rfl (fh rfl (ft d.has Mh (fD x) rfl bp aP)) (bS hm fun r3 c4 hm => sE rfl rfl (Eg d call80 (lX x _ _  c4) (fun W5 d => ?_))))))))))))
 refine V (fy rfl rfl) (Wm (LJ hm (fun T E W => ∃ z u B a0, fw μ0 B ∧ ST true (keys o) w W B ((p, Ol (fD x) 33) :: ((c, Ob #[z] 56) :: (u ++ a0))) ∧ E 0 = (.pointer (some ⟨c, 0, none⟩)) ∧ E 3 = (.pointer (some ⟨p, 0, none⟩)) ∧ E 4 = (.bool false) ∧ E 16 = (.bool T.1) ∧ fL 5 (fl .u8) 1 z T.2 u) 5 ?_ (fun T t K => ?_)))
 ·rintro ⟨e6, c5⟩ E W ⟨z, u, B, a0, d2, d, c0, c1, a3, c2, N⟩ F
  refine Wh c2 (LJ F (fun Q E W => ∃ M I U a2, fw B U ∧ ST true (keys o) w W U ((c, Ob #[M] 56) :: (I ++ a2)) ∧ E 4 = (.bool false) ∧ E 22 = (.bool Q.1) ∧ fL 5 (fl .u8) 1 M Q.2 I) 5 ?_ (fun Q k J => ?_))
  ·rintro ⟨c6, e1⟩ E W ⟨M, I, U, a2, d3, d, e0, c3, P⟩ L
   refine Wg c3 (lt ?_)
   obtain rfl := sj L
   exact gb (v := (.bool c6)) rfl rfl ⟨_, _, rfl, (d.gA (Kb (Kr Sn))), M, I, rfl, rfl, P⟩
  refine bC k (fun g k => ?_) (fun g k => ?_)
  ·refine ug g (fi c0) (ug g (fj mX c1) (ug g (fh rfl (fF d.has Mh rfl aZ)) (bS k fun e2 O k => ?_)))
   refine me g (eM d (Cb (Pb Pz) (Cr (Qb Qz) Cn)) call63 (fun n _ => (nX c z c5 u x.fg _ _ n N O)) ?_)
   rintro _ e4 d0 d6 d Y q h ⟨c8, b6, G, rfl, R⟩
   obtain rfl := G.symm
   replace d := d.perm (Tb (Tr Tn))
   refine V (fy (cB g) rfl) ?_
   obtain rfl := sj k
   exact J _ _ ⟨c8, b6, d0, _, Y, (d.fc (Kb (Kr (Db St)))), a3, rfl, R⟩
  refine un g (un g (un g (un g (V (fx (cB g) rfl) ?_))))
  obtain rfl := sj k
  exact J _ _ ⟨z, u, B, _, (fw.refl _), (d.fc (Db St)), a3, rfl, N⟩
 refine bC t (fun j t => ?_) (fun j t => ?_)
 ·refine ug j (fi rfl) (ug j (fj je rfl) (ug j (fh rfl (fF d.has Mh rfl aZ)) (bS t fun e3 a9 t => ?_)))
  refine me j (eM d (Cb (Pb Pz) (Cr (Qb Qz) Cn)) call63 (fun n _ => (nX c i D a x.eZ _ _ n y a9)) ?_)
  rintro _ e5 d1 d7 d Z s h ⟨c9, b7, H, rfl, b3⟩
  obtain rfl := H.symm
  replace d := d.perm (Tb (Tr Tn))
  refine V (fy (cB j) rfl) ?_
  obtain rfl := sj t
  exact K _ _ ⟨c9, b7, d1, _, Z, (d.fc (Sb (Pb (Pr Pz)) St)), rfl, rfl, rfl, rfl, b3⟩
 refine un j (un j (un j (un j (V (fx (cB j) rfl) ?_))))
 obtain rfl := sj t
 exact K _ _ ⟨i, a, μ0, _, (fw.refl _), (d.fc St), rfl, rfl, rfl, rfl, y⟩
theorem pI (g : Nat) (a : Value) (c r : List Int) (w : World) (j : Sl (Pl (fl .u8)) 1 (hp w) a c) (k : At (hp w) (.pointer (some ⟨g, 0, none⟩)) [a]) (hm : jD c = some r) :
  gw true pg0 23 [(.pointer (some ⟨g, 0, none⟩))] w 5 (fl .u8) 1 r := by
 refine qM 10 func23 rfl (fun d => sg (Wa (lS (Wm (V (kx dv rfl rfl) (ln (ky rfl (gp ?_))))))))
 refine fq (sg (Wm (Wn (VQ (qg [a] ot rfl k rfl) (fun G u => V (fh rfl (ki d.has (y := a) u bT)) (bS hm fun H x hm => VE (mg d call32 (ny a c _ _ (j.mono (Pl.mono _) d.fH) x) (fun D z I t d B h i => Wa (lt ?_)))))))))
 obtain rfl := sj hm
 exact gb (v := z) rfl rfl ⟨_, t, rfl, d.iY (fun p n => (Ml n)) i.nd, i⟩
theorem nc (c : eY) (r : List Int) (w : World) (hm : jg c = some r) :
  gw true pg0 36 [(.agg (fa c).toArray)] w 5 (fl .u8) 1 r := by
 refine qM 53 func36 rfl (fun d => sg (VE (hZ d rfl (fun W2 b1 d => Wa (lS (VA d Mh (fa c) aT aA (bS hm fun r3 g3 hm => VE (Eg d call48 (mV c _ _  g3) (fun W5 d => V (jv rfl) (fK ?_))))))))))
 refine fq (CI hm rfl (fun g0 hm => ?_) (fun g0 hm => ?_))
 ·refine sg (Wa (ln ?_))
  replace d := d.fc (Db St)
  refine ga (fN ?_)
  obtain rfl := sj hm
  exact gb (v := (.slice none 0 0)) rfl rfl ⟨_, [], rfl, d.iY (fun p q => by cases q) (by simp), fL.nil _ _ _⟩
 refine kg (V (gX (v := (.agg #[(.slice none 0 0)])) nZ (gr zeroValue56 dE (Bi _ dE) kr)) (VE (hZ d rfl (fun W8 g d => Wa (lr (Wm (Wf kM (VB d (Mt Mh) rfl rfl dn (bS hm fun r9 e2 hm => ?_)))))))))
 refine VE (eM d (Cb Pz (C0 Cn)) call61 (fun n _ => (ow g (.slice none 0 0) ([]) [] c.Kind _ _ n (fL.nil _ _ _) e2)) ?_)
 rintro _ k1 k3 j7 d g5 a6 h ⟨g4, f9, I, rfl, e4⟩
 obtain rfl := I.symm
 replace d := d.perm (Tb (Tr Tn))
 refine lr (Wm (Wf mB (VA d (Mt (Ma Mh)) (fD c.Head) bp aP (bS hm fun N e3 hm => ?_))))
 refine VE (eM d (Cb Pz (Cr Qz Cn)) call62 (fun n _ => (mU g g4 r9.2 f9 c.Head _ _ n e4 e3)) ?_)
 rintro _ k2 d1 j8 d g6 a7 h ⟨G, D, J, rfl, i⟩
 obtain rfl := J.symm
 replace d := d.perm (Tb (Tr Tn))
 refine ln (fC (CJ hm (fun a3 E W => ∃ B H K Q, fw d1 K ∧ ST true fO w W K ((g, Ob #[B] 56) :: (H ++ Q)) ∧ E 3 = (.pointer (some ⟨g, 0, none⟩)) ∧ fL 5 (fl .u8) 1 B a3 H) (fun a3 a => ?_) ?_))
 ·refine sg (Wf kM (VB d (Mt (Ma Mh)) rfl rfl dn (ln (bg (Wi rfl (Wa (ln (CI a rfl (fun b0 a => ?_) (fun b0 a => ?_)))))))))
  ·refine fm (Wm (Wf nQ (VB d (Mt (Ma Mh)) rfl rfl aZ (bS a fun i1 b6 a => ?_))))
   refine VE (eM d (Cb Pz (Cr Qz Cn)) call63 (fun n _ => (nX g G N.2 D c.fu _ _ n i b6)) ?_)
   rintro _ i6 f5 g7 d T A h ⟨e9, d3, k, rfl, c5⟩
   obtain rfl := k.symm
   replace d := d.perm (Tb (Tr Tn))
   refine fK (gk (fq ?_))
   obtain rfl := sj a
   exact ⟨e9, d3, f5, _, T, (d.fc (Kb (Kr (Db St)))), rfl, c5⟩
  refine sg (Wi rfl (Wa (ln (CI a rfl (fun b2 a => ?_) (fun b2 a => ?_)))))
  ·refine fm (Wm (Wf iz (VA d (Mt (Ma Mh)) (fD c.B) bp aP (bS a fun i2 b9 a => ?_))))
   refine VE (eM d (Cb Pz (Cr Qz Cn)) call62 (fun n _ => (mU g G N.2 D c.B _ _ n i b9)) ?_)
   rintro _ i7 f6 g8 d U F h ⟨f0, d4, t, rfl, c6⟩
   obtain rfl := t.symm
   replace d := d.perm (Tb (Tr Tn))
   refine fK (gk (fq ?_))
   obtain rfl := sj a
   exact ⟨f0, d4, f6, _, U, (d.fc (Kb (Kr (Db St)))), rfl, c6⟩
  refine sg (Wi rfl (Wa (ln (CI a rfl (fun b3 a => ?_) (fun b3 a => ?_)))))
  ·refine sg (Wm (Wf iz (VA d (Mt (Ma Mh)) (fD c.B) bp aP (bS a fun e6 c0 a => ?_))))
   refine VE (eM d (Cb Pz (Cr Qz Cn)) call62 (fun n _ => (mU g G N.2 D c.B _ _ n i c0)) ?_)
   rintro _ i8 j5 g9 d Y L h ⟨f1, d5, u, rfl, c7⟩
   obtain rfl := u.symm
   replace d := d.perm (Tb (Tr Tn))
   refine ln (fm (Wm (Wf ng (VB d (Mt (Ma Mh)) rfl rfl aZ (bS a fun i3 c1 a => ?_)))))
   refine VE (eM d (Cb Pz (Cr Qz Cn)) call63 (fun n _ => (nX g f1 e6.2 d5 c.fB _ _ n c7 c1)) ?_)
   rintro _ i9 f7 h0 d Z O h ⟨f2, d6, x, rfl, c8⟩
   obtain rfl := x.symm
   replace d := d.perm (Tb (Tr Tn))
   refine fK (gk (fq ?_))
   obtain rfl := sj a
   exact ⟨f2, d6, f7, _, (Y.trans Z), (d.fc (Kb (Kr (Db St)))), rfl, c8⟩
  refine sg (Wi rfl (Wa (ln (CI a rfl (fun b4 a => ?_) (fun b4 a => ?_)))))
  ·refine sg (Wm (Wf iz (VA d (Mt (Ma Mh)) (fD c.B) bp aP (bS a fun e7 c2 a => ?_))))
   refine VE (eM d (Cb Pz (Cr Qz Cn)) call62 (fun n _ => (mU g G N.2 D c.B _ _ n i c2)) ?_)
   rintro _ j0 j6 h1 d a1 P h ⟨f3, d7, y, rfl, c9⟩
   obtain rfl := y.symm
   replace d := d.perm (Tb (Tr Tn))
   refine ln (fm (Wm (Wf lu (VA d (Mt (Ma Mh)) (fD c.C) bp aP (bS a fun i4 c3 a => ?_)))))
   refine VE (eM d (Cb Pz (Cr Qz Cn)) call62 (fun n _ => (mU g f3 e7.2 d7 c.C _ _ n c9 c3)) ?_)
   rintro _ j3 f8 h2 d a2 R h ⟨f4, d8, z, rfl, d0⟩
   obtain rfl := z.symm
   replace d := d.perm (Tb (Tr Tn))
   refine fK (gk (fq ?_))
   obtain rfl := sj a
   exact ⟨f4, d8, f8, _, (a1.trans a2), (d.fc (Kb (Kr (Db St)))), rfl, d0⟩
  refine gp (gk (fq ?_))
  obtain rfl := sj a
  exact ⟨G, D, d1, _, (fw.refl _), (d.fc (Kb (Kr (Db St)))), rfl, i⟩
 rintro e5 E W ⟨B, H, K, Q, g1, d, d9, c4⟩ j
 refine sg (Wh d9 (bS j fun i0 b5 j => VE (mg d call23 (pI g B e5 _ _ (c4.sl (fun _ => rfl) (fun b o q => d.at_ (Mt (Ml q)))) (At.of (d.at_ Mh) _ rfl) b5) (fun h3 e8 j4 d2 d g2 s M => Wa (ln ?_)))))
 replace d := d.fc (Kr (Db (Dr St)))
 refine ga ?_
 obtain rfl := sj j
 exact gb (v := e8) rfl rfl ⟨_, d2, rfl, d.iY (fun p q => (Ml q)) M.nd, M⟩
theorem sC (j : Value) (t : List Int) (r : Bool) (w : World) (i : Sl (Pl (fl .u8)) 1 (hp w) j t) (hm : jK t = some r) :
  fQ true pg0 59 [j] w (.bool r) := by
 refine cG 11 func59 rfl (fun d => sg (Wa (lr (Wm (V (gv az rfl i) (Wi rfl (Wm (LJ hm (fun x E W => ∃ k, ST true fO w W (hp w) k ∧ E 2 = (.bool false) ∧ E 10 = (.bool x)) 4 ?_ (fun x c g => ?_)))))))))
 ·rintro B E W ⟨k, d, z, y⟩ u
  exact Wg y (lt (rQ u d))
 refine bC c (fun a c => ?_) (fun a c => ?_)
 ·refine ug a (fi rfl) (ug a (gv az rfl i) (ug a (fY rfl rfl rfl) (V (fy (cB a) rfl) ?_)))
  obtain rfl := sj c
  exact g _ _ ⟨_, (d.fc St), rfl, rfl⟩
 refine un a (un a (un a (V (fx (cB a) rfl) ?_)))
 obtain rfl := sj c
 exact g _ _ ⟨_, (d.fc St), rfl, rfl⟩
theorem yn (u : Value) (H : List (List Int)) (r : Int) (w : World) (U : Sl (wg (fl .u8) 1) 1 (hp w) u H) (hm : rH H = some r) :
  fQ true pg0 73 [u] w (.int .u64 r) := by
 refine cG 28 func73 rfl (fun d => sg (Wa (lr (Wa (lS (Wm ?_))))))
 refine V (gv underlying139 rfl U) (Wm (ln (gP (fun i E W => ∃ x D, (E 10 = .int .i64 (i : Nat) ∧ E 9 = .int .i64 (H.length : Nat)) ∧ ST true fO w W (hp w) D ∧ E 3 = (.int .u64 x) ∧ E 8 = u ∧ mW (H.drop i) x = some r) H.length U.len ⟨14695981039346656037, _, ⟨rfl, rfl⟩, (d.fc St), rfl, rfl, hm⟩ dc dc dc (fun _ _ _ h => by obtain ⟨_, _, o, _⟩ := h; exact o) ?_ ?_)))
 ·rintro Y E W a3 ⟨x, D, ⟨n, p⟩, d, I, J, c⟩
  obtain ⟨B, c2, L, a9, O⟩ := gC a3
  rw [L] at c
  refine bg (VQ (zf (enc := (fl .u8)) (k2 := 1) (i := (Y : Int)) (x0 := B) underlying139 dq J n U (aQ _) a9) (fun c4 ⟨a2, A, z⟩ => V (fh rfl (ki d.has (y := a2) A bT)) (Wa (lr (Wm (V (gv az rfl z) (Wm (ln ?_))))))))
  refine sk (CJ c (fun Z E W => ∃ q, ST true fO w W (hp w) q ∧ E 3 = (.int .u64 Z) ∧ E 8 = u ∧ E 9 = (.int .i64 (H.length : Int)) ∧ E 10 = (.int .i64 (Y : Int))) (fun Z s => ?_) ?_)
  ·refine gP (fun i E W => ∃ j G, (E 16 = .int .i64 (i : Nat) ∧ E 15 = .int .i64 (B.length : Nat)) ∧ ST true fO w W (hp w) G ∧ E 3 = (.int .u64 j) ∧ E 8 = u ∧ E 9 = (.int .i64 (H.length : Int)) ∧ E 10 = (.int .i64 (Y : Int)) ∧ E 14 = a2 ∧ mS (B.drop i) j = some Z) B.length z.len ⟨x, _, ⟨rfl, rfl⟩, (d.fc St), I, J, p, n, rfl, s⟩ dc dc dc (fun _ _ _ h => by obtain ⟨_, _, o, _⟩ := h; exact o) ?_ ?_
   ·rintro c0 E W a4 ⟨j, G, ⟨n, p⟩, d, K, M, N, Q, T, g⟩
    obtain ⟨t, c3, R, P, b4⟩ := gC a4
    rw [R] at g
    refine bg (VQ (kf (enc := (fl .u8)) (i := (c0 : Int)) (x0 := t) az cJ T n z (aQ _) P) (fun c5 F => V (fh rfl (ki d.has (y := (.int .u8 t)) F isAgg5)) (Wa (ln (fm (Wh K (Wm (V (jW (k' := .u8) (a := t) aY ez rfl) (V (wh (k := .u64) (a := j) (b := (IntKind.u64.wrap t)) (v := (.int .u64 (IntKind.u64.wrap (BitVec.ofInt (IntKind.bits .u64) j ^^^ BitVec.ofInt (IntKind.bits .u64) (IntKind.u64.wrap t)).toNat))) rfl rfl rfl) (Wi rfl (Wa ?_)))))))))))
    exact fK (gk (fq ⟨n, (IntKind.u64.wrap ((IntKind.u64.wrap (BitVec.ofInt (IntKind.bits .u64) j ^^^ BitVec.ofInt (IntKind.bits .u64) (IntKind.u64.wrap t)).toNat) * 1099511628211)), _, ⟨rfl, p⟩, (d.fc St), rfl, M, N, Q, T, (by rw [b4]; exact g)⟩))
   rintro E W ⟨j, G, ⟨n, p⟩, d, K, M, N, Q, T, g⟩
   rw [aU] at g
   refine fq ?_
   obtain rfl := sj g
   exact ⟨_, (d.fc St), K, M, N, Q⟩
  rintro c1 E W ⟨q, d, b5, b6, b7, b9⟩ a5
  exact gk (fq ⟨b9, c1, _, ⟨rfl, b7⟩, (d.fc St), b5, b6, (by rw [O]; exact a5)⟩)
 rintro E W ⟨x, D, ⟨n, p⟩, d, I, J, c⟩
 rw [aU] at c
 exact fq (sg (Wh I (Wa (lt (rQ c d)))))
theorem tg (Q : Value) (g : List Int) (a2 : Value) (H r : List Int) (w : World) (j : Sl (Pl (fl .u8)) 1 (hp w) Q g) (Y : Sl (Pl (fl .u8)) 1 (hp w) a2 H) (hm : nO g H = some r) :
  gw true pg0 40 [Q, a2] w 5 (fl .u8) 1 r := by
 let a3 := (g.length : Int)
 refine qM 37 func40 rfl (fun d => sg (Wa (lS (Wm (bS hm fun r1 c0 hm => VE (Eg d call59 (sC Q g _ _ (j.mono (Pl.mono _) d.fH) c0) (fun W3 d => V (jv rfl) (ln ?_))))))))
 refine CI hm rfl (fun b9 hm => ?_) (fun b9 hm => ?_)
 ·refine sg (Wa (lt (fN ?_)))
  obtain rfl := sj hm
  exact gb (v := (.slice none 0 0)) rfl rfl ⟨_, [], rfl, d.iY (fun p s => by cases s) (by simp), fL.nil _ _ _⟩
 refine kg (Wm (V (gv az rfl j) (V (jW (k' := .i64) (a := (g.length : Int)) dp aY rfl) (VE (fS (cs := [(.int .u8 (IntKind.u8.wrap a3))].toArray) d (iD rfl) (kR az cJ cT) (fun W6 A d => Wm (Wm (Wm ?_))))))))
 obtain ⟨D, I, rfl⟩ := j.form
 let n : Value := (.slice D g.length I)
 obtain ⟨A9, T, rfl⟩ := Y.form
 refine VE (fS (cs := #[(.slice (some ⟨A, 0, none⟩) 1 1), n, (.slice A9 H.length T), n]) d (AX rfl rfl rfl rfl) (kR underlying139 dq zeroValue36) (fun c5 b7 d => bS hm fun x b1 hm => VE (Eg d call73 (yn (.slice (some ⟨b7, 0, none⟩) 4 4) ([[(IntKind.u8.wrap a3)], g, H, g]) _ _ (wg.lit (l := [[(IntKind.u8.wrap a3)], g, H, g]) (vs := [(.slice (some ⟨A, 0, none⟩) 1 1), n, (.slice A9 H.length T), n]) rfl nb (d.at_ Mh) (.cons (Sl.lit (enc := (fl .u8)) (l := [(IntKind.u8.wrap a3)]) (fun _ => rfl) rfl nb rfl (d.at_ (Mt Mh))) (.cons (j.mono (Pl.mono _) d.fH) (.cons (Y.mono (Pl.mono _) d.fH) (.cons (j.mono (Pl.mono _) d.fH) .nil))))) b1) (fun c6 d => Wa (ln ?_)))))
 replace d := d.fc (Db (Db St))
 refine sg (bS hm fun U a9 hm => VE (wA (enc := (fl .u8)) (z := 0) d (fun _ => rfl) dc az jc.1 jc.2.1 jc.2.2.1 jc.2.2.2 rfl rfl rfl a9 (fun c7 Z b6 d N => Wa (lS (Wm (V (ke az rfl N) (Wm (ln ?_))))))))
 refine gP (fun i E W => ∃ J G K, (E 23 = .int .i64 (i : Nat) ∧ E 22 = .int .i64 (U.length : Nat)) ∧ ST true fO w W (hp w) (G ++ K) ∧ E 5 = (.int .u64 x) ∧ E 6 = Z ∧ fL 5 (fl .u8) 1 Z J G ∧ kj x (U.drop i) i J = some r) U.length N.len ⟨U, b6, _, ⟨rfl, rfl⟩, (d.fc St), rfl, rfl, N, hm⟩ dc dc dc (fun _ _ _ h => by obtain ⟨_, _, _, q, _⟩ := h; exact q) ?_ ?_
 ·rintro t E W R ⟨J, G, K, ⟨o, F⟩, d, M, y, k, c⟩
  let a0 := (wi0 .i64 (8 * (wi0 .i64 (7 - (t : Int)))))
  obtain ⟨c9, c4, b2, c2, b3⟩ := gC R
  rw [b2] at c
  refine bg (Wh o (Wa (ln (fm (Wh y (Wm (Wh M (Wm (Wi rfl (Wi rfl (bS c fun _ L c => ?_)))))))))))
  exact V (Ah (a := x) (b := a0) rfl rfl (Bc L)) (V (jW (k' := .u64) (a := (Int.fdiv x (2 ^ min (Int.toNat a0) (IntKind.bits .u64)))) ez aY rfl) (bS c fun b4 B c => VQ (lE (i := (t : Int)) (x0 := b4) az cJ rfl rfl k (iA B) (gK B)) (fun c3 O => VO (qQ (u := (.int .u8 (IntKind.u8.wrap (Int.fdiv x (2 ^ min (Int.toNat a0) (IntKind.bits .u64)))))) (x1 := (IntKind.u8.wrap (Int.fdiv x (2 ^ min (Int.toNat a0) (IntKind.bits .u64)))))  d k (fun _ => rfl) (ur _) rfl rfl rfl O (gK B) cJ (fun c1 P d a5 => fK (gk (fq ⟨o, (J.set (Int.toNat (t : Int)) (IntKind.u8.wrap (Int.fdiv x (2 ^ min (Int.toNat a0) (IntKind.bits .u64))))), P, _, ⟨rfl, F⟩, (d.fc St), M, y, a5, (by rw [b3]; exact c)⟩)))))))
 rintro E W ⟨J, G, K, ⟨o, F⟩, d, M, y, k, c⟩
 rw [aU] at c
 refine fq (sg (Wh y (Wa (lt ?_))))
 obtain rfl := sj c
 exact gb (v := Z) rfl rfl ⟨_, G, rfl, d.iY (fun p s => (Ml s)) k.nd, k⟩
theorem nT (u : Value) (B : Option fW) (a : eY) (r : (fA × Int)) (w : World) {Q : fz} (F : kV Q [] w) (H : lI gn Q u B) (hm : iu B a = some r) :
  gY true pg0 12 [u, (.agg (fa a).toArray)] w Q [] (fun v L1 μ1 => ∃ E, v = (.tuple #[(.agg #[(.int .i64 (((r.1).eY).Kind)), (.string ((((r.1).eY).Head).eZ)), (.string ((((r.1).eY).Head).fg)), (.string (((r.1).eY).fu)), (.string ((((r.1).eY).B).eZ)), (.string ((((r.1).eY).B).fg)), (.string ((((r.1).eY).C).eZ)), (.string ((((r.1).eY).C).fg)), (.string (((r.1).eY).fB)), E]), (.int .i64 (r.2))]) ∧ L1 = [] ∧ Sl (Pl (fl .u8)) 1 μ1 E ((r.1).Tag)) := by
 refine Af F 24 func12 rfl (fun d => sg (VE (hZ d rfl (fun W2 W d => VE (gq d bA (fun W4 b3 d => Wa (lr (Wm (VA d (Mt Mh) (fa a) aT aA (bS hm fun U T hm => ?_))))))))))
 refine VE (eD d (bW _) call34 (fun L => (oQ u B a _ _ L (H.mono gx (fw.refl _)) T)) ?_ (L0 := []))
 rintro _ b9 P a9 d y n ⟨a3, t, rfl, N⟩
 obtain rfl := t.symm
 refine Wm (Wx rfl (Wx rfl (Wa (Wa (lS (Wm (Wi rfl (ln (CI hm rfl (fun I hm => ?_) (fun I hm => ?_))))))))))
 ·refine sg (V (gX (v := (.agg C2.toArray)) nZ (gr bA bt (rr _ bt) kr)) (Wm (VO (fM (.agg C2.toArray) (C2.toArray) d rfl rfl bh oc nb rfl (fun b4 d => Wa (ln ?_))))))
  replace d := d.fc (Kb (Db St))
  refine ga (fN ?_)
  obtain rfl := sj hm
  exact sh (v0 := (.agg C2.toArray)) (v1 := (.int .i64 U.2)) rfl rfl (ft d.has Mh C2 rfl cy bh) rfl ⟨_, _, _, rfl, (d.gA Sn), y, n, (ST.fJ d (gm.mem Sn)), (.slice none 0 0), rfl, rfl, (Sl.nil _ _ _)⟩
 refine kn (fC ?_)
 replace d := d.drew
 have h := d.has.fc (Db (Kb Sn))
 refine gy h gl (XH 0 rfl h (fun _ A => fh rfl (ft A Mh (fa a) rfl aT aA)) (X 1 rfl h (fi rfl) (XH 2 rfl h (fun _ A => fh rfl (ft A Mh (fa a) rfl aT aA)) (bS hm fun Y J hm => XE 3 rfl (mg d call36 (nc a _ _  J) (fun b5 Z c1 R d c p G => ?_))))))
 have h := d.has.oZ c (Dr (Db (Kb Sn)))
 refine ⟨h, (bS hm fun j K hm => XE 4 rfl (mg d call40 (tg a3 U.1 Z Y _ _ (N.mono (Pl.mono _) (c.trans d.fH)) (G.sl (fun _ => rfl) (fun b o O => d.at_ (Ml O))) K) (fun b6 c0 c2 b2 d k q x => ?_)))⟩
 have h := d.has.oZ (c.trans k) (Dr (Dr (Db (Kb Sn))))
 refine ⟨h, ?_⟩
 obtain ⟨g, i, rfl⟩ := x.form
 let D := (C1 a.Kind a.Head.eZ a.Head.fg a.fu a.B.eZ a.B.fg a.C.eZ a.C.fg a.fB g j.length i)
 refine X 5 rfl h (gX (v := (.agg D.toArray)) (lU rfl rfl) (gr bA bt (rr _ bt) kr)) ?_
 replace d := d.perm (Nb (Pr (Pr Pz)) Nz)
 refine XO 6 rfl (fM (.agg D.toArray) (D.toArray) d rfl rfl bh oc nb rfl (fun b7 d => ?_))
 have h := d.has.oZ (c.trans k) (Db (Dr (Dr (Kb Sn))))
 refine ⟨h, (X 7 rfl h (gf rfl) (iq kr (fq ?_)))⟩
 replace d := d.fc (Kb (Kr (Dr (Db St))))
 refine ga ?_
 obtain rfl := sj hm
 refine sh (v0 := (.agg D.toArray)) (v1 := (.int .i64 0)) rfl rfl (ft d.has Mh D rfl cy bh) rfl ?_
 replace d := d.perm (Nr (Qb Qz) Nz)
 obtain ⟨c3, d, z, s, M⟩ := ST.vU d x (fun _ => rfl)
 exact ⟨_, _, _, rfl, (d.gA Sn), (((y.trans c).trans k).trans z), (((n.trans p).trans q).trans s), (ST.fJ d (gm.mem Sn)), (.slice g j.length i), rfl, rfl, M⟩
theorem tb (g : Nat) (c : Value) (j : List Int) (a : LO) (i : Value) (D : List Int) (r : (Bool × (List Int))) (w : World) {I : fz} (M : kV I ((g, Ob #[c] 56) :: (a ++ [])) w) (k : fL 5 (fl .u8) 1 c j a) (y : Sl (Pl (fl .u8)) 1 I i D) (hm : nH j D = some r) :
  gN true pg0 49 [(.pointer (some ⟨g, 0, none⟩)), i] w ((g, Ob #[c] 56) :: (a ++ [])) (fun v J W' => ∃ H B, v = (.bool (r.1)) ∧ J = ((g, Ob #[H] 56) :: (B ++ [])) ∧ fL 5 (fl .u8) 1 H r.2 B) := by
 refine uz M 16 func49 rfl (fun d => sg (Wa (lS (Wm (V (kx dv rfl rfl) (ln (ky rfl (gp ?_))))))))
 refine fq (sg (Wm (Wm (Wn (Wf ot (VB d Mh rfl rfl bT (Wm ?_)))))))
 replace d := d.perm (Nr (Qb Qz) Nz)
 refine bS hm fun z G hm => VE (kI (enc := (fl .u8)) (v := c) (vs := i) (R := a) d (fun _ => rfl) dc (ur _) az jc.1 jc.2.1 rfl jc.2.2.1 jc.2.2.2 rfl rfl k (y.mono (Pl.mono _) d.fH) G (fun N T K d t => Wn (Wf ot ?_)))
 obtain ⟨u, x, rfl⟩ := t.form
 replace d := d.perm (Nb (Pr Pz) Nz)
 refine VO (fM (.slice u z.length x) (#[(.slice u z.length x)]) d rfl rfl dq oc nb rfl (fun Q d => lr (Wa (lt ?_))))
 obtain rfl := sj hm
 exact gb (v := (.bool true)) rfl rfl ⟨_, _, rfl, (d.gA (Kb (Kr Sn))), (.slice u z.length x), K, rfl, rfl, t⟩
theorem vt (i : Nat) (g : Value) (D : List Int) (c : LO) (a : fA) (z : Value) (r : (Bool × (List Int))) (w : World) {μ0 : fz} (h0 : kV μ0 ((i, Ob #[g] 56) :: (c ++ [])) w) (B : fL 5 (fl .u8) 1 g D c) (u : Sl (Pl (fl .u8)) 1 μ0 z a.Tag) (hm : nR D a = some r) :
  gN true pg0 22 [(.pointer (some ⟨i, 0, none⟩)), (.agg #[(.int .i64 a.eY.Kind), (.string a.eY.Head.eZ), (.string a.eY.Head.fg), (.string a.eY.fu), (.string a.eY.B.eZ), (.string a.eY.B.fg), (.string a.eY.C.eZ), (.string a.eY.C.fg), (.string a.eY.fB), z])] w ((i, Ob #[g] 56) :: (c ++ [])) (fun v L1 W' => ∃ y1 S2, v = (.bool (r.1)) ∧ L1 = ((i, Ob #[y1] 56) :: (S2 ++ [])) ∧ fL 5 (fl .u8) 1 y1 r.2 S2) := by
 let q := ((i, Ob #[g] 56) :: (c ++ []))
 refine uz h0 30 func22 rfl (fun d => sg ?_)
 obtain ⟨A1, c2, rfl⟩ := u.form
 refine VE (hZ d rfl (fun W4 L d => Wa (lS (Wm (V (kx dv rfl rfl) (Wm (Vg rfl rfl (fj lY rfl) (Vg rfl rfl (fh rfl (ft d.has Mh (fa a.eY) rfl aT aA)) (bS hm fun r5 d0 hm => sE rfl rfl (Eg d call48 (mV a.eY _ _  d0) (fun W7 d => Vg rfl rfl (jv rfl) ?_)))))))))))
 refine V (fx rfl rfl) (Wm (LJ hm (fun s E W => ∃ a0, ST true (keys q) w W μ0 ((L, Ol (C1 a.eY.Kind a.eY.Head.eZ a.eY.Head.fg a.eY.fu a.eY.B.eZ a.eY.B.fg a.eY.C.eZ a.eY.C.fg a.eY.fB A1 a.Tag.length c2) 38) :: ((i, Ob #[g] 56) :: (c ++ a0))) ∧ E 0 = (.pointer (some ⟨i, 0, none⟩)) ∧ E 3 = (.pointer (some ⟨L, 0, none⟩)) ∧ E 18 = (.bool s)) 5 ?_ (fun s y K => ?_)))
 ·rintro x9 E W ⟨a0, d, a4, a5, c8⟩ k
  refine ln (CI k c8 (fun b5 k => ?_) (fun b5 k => ?_))
  ·refine sg (Wa (ln ?_))
   replace d := d.fc (Db St)
   refine ga (fN ?_)
   obtain rfl := sj k
   exact gb (v := (.bool false)) rfl rfl ⟨_, _, rfl, (d.gA (Kb (Kr Sn))), g, c, rfl, rfl, B⟩
  refine kg (Wh a4 (V (fj lY a5) (VA d Mh (fa a.eY) aT aA (bS k fun d1 b7 k => VE (mg d call36 (nc a.eY _ _  b7) (fun e4 d3 f1 e3 d U O b4 => bS k fun d2 b9 k => ?_))))))
  refine VE (Ao d (Cb (Pr (Pb Pz)) (Cr (Qr (Qb Qz)) Cn)) call49 (fun hH hN n p => (tb i g D c d3 d1 _ _ ⟨hH, hN, fw.refl _⟩ B (b4.sl (fun _ => rfl) (fun b o hq => p b o (Ml hq))) b9)) (fun e5 e9 F e1 d Y P h b1 => ?_))
  obtain ⟨A, a3, G, rfl, N⟩ := b1
  replace G := G.symm; subst G
  replace d := d.perm (Tb (Tr Tn))
  refine Wm (LJ k (fun Q E W => ∃ M I T a2, fw F T ∧ ST true (keys q) w W T ((i, Ob #[M] 56) :: (I ++ a2)) ∧ E 29 = (.bool Q.1) ∧ fL 5 (fl .u8) 1 M Q.2 I) 5 ?_ (fun Q x J => ?_))
  ·rintro ⟨d4, e7⟩ E W ⟨M, I, T, a2, d8, d, c9, c1⟩ b6
   refine Wg c9 (lt ?_)
   obtain rfl := sj b6
   exact gb (v := (.bool d4)) rfl rfl ⟨_, _, rfl, (d.gA (Kb (Kr Sn))), M, I, rfl, rfl, c1⟩
  refine bC x (fun j x => ?_) (fun j x => ?_)
  ·refine ug j (fi a4) (ug j (fj oW a5) (ug j (fh rfl (fF d.has (Mt (Ma (Ma Mh))) rfl bT)) (bS x fun e8 c0 x => ?_)))
   refine me j (eM d (Cb Pz (Cr Qz Cn)) call50 (fun hh n => (ph i A d2.2 a3 (.slice A1 a.Tag.length c2) a.Tag _ _ hh N (u.mono (Pl.mono _) ((U.trans Y).trans n)) c0)) ?_)
   rintro _ f0 d7 e2 d Z R h ⟨d6, c6, H, rfl, c3⟩
   obtain rfl := H.symm
   replace d := d.perm (Tb (Tr Tn))
   refine V (fy (cB j) rfl) ?_
   obtain rfl := sj x
   exact J _ _ ⟨d6, c6, d7, _, Z, (d.fc (Kb (Kr (Dr (Db St))))), rfl, c3⟩
  refine un j (un j (un j (un j (V (fx (cB j) rfl) ?_))))
  obtain rfl := sj x
  exact J _ _ ⟨A, a3, F, _, (fw.refl _), (d.fc (Kb (Kr (Dr (Db St))))), rfl, N⟩
 refine bC y (fun t y => ?_) (fun t y => ?_)
 ·refine un t (un t (un t (un t (V (fy (cB t) rfl) ?_))))
  obtain rfl := sj y
  exact K _ _ ⟨_, (d.fc St), rfl, rfl, rfl⟩
 refine ug t (fj oW rfl) (ug t (fh rfl (fF d.has Mh rfl bT)) (ug t (gv az rfl u) (ug t (fY rfl rfl rfl) (V (fx (cB t) rfl) ?_))))
 obtain rfl := sj y
 exact K _ _ ⟨_, (d.fc St), rfl, rfl, rfl⟩
theorem rj {dd : Bool} {F : Nat → Prop} {w W : World} {μ : fz} {L : LO} (p x : Nat) (D J : Value) (c y : Int) (u : FrameMode) (o : ST dd F w W μ ((p, .cells #[D, J] 100 (0, 0)) :: (x, .cells #[.int .i64 c] 27 (0, 0)) :: L)) (hu : (u = .returning ∧ y = c) ∨ u = .panicking [{ v := mI 125 p y, recovered := false }]) :
  CallsD pg0 51 #[.pointer (some ⟨p, 0, none⟩), .pointer (some ⟨x, 0, none⟩)] u W fun e I W' => e = .returned (.tuple #[]) ∧ settle I = .returning ∧ ST dd F w W' μ ((p, .cells #[D, .bool true] 100 (0, 0)) :: (x, .cells #[.int .i64 y] 27 (0, 0)) :: L) := by
 refine callsD_of_wpS func51 rfl fun s G z => BI (n := 31) (fm (Wm (Wn (Wf uf (VO (pv [] (.bool true) #[D, .bool true] o rfl rfl sizeOf4 oc (aO 2) rfl (fun g o => fK ⟨rfl, fun a t => wpS_seq ?_⟩))))))) (wj (args := [.pointer (some ⟨p, 0, none⟩), .pointer (some ⟨x, 0, none⟩)]) Tryz.ntmps51 nb)
 rcases hu with ⟨rfl, rfl⟩ | rfl
 ·refine sA (n := 31) (d := 10) (d2 := 4) (v := .nilIface) (cs' := { s with mode := .returning } :: G) dc dc rfl rfl rfl rfl (fun _ => rfl) (fun E h => gf h) (.inr ⟨?_, rfl, ?_⟩) t (fun a t => ?_)
  ·simp only [recoverD, z]
  ·rw [← z]
  exact xi (u := .returning) Tryz.results51 (fC (sg (Wm (V (AA underlying20 rfl rfl) (ln (pj rfl (ga (fN ⟨.inr rfl, rfl, rfl, o⟩)))))))) t
 refine sA (n := 31) (d := 10) (d2 := 4) (v := mI 125 p y) (cs' := { s with mode := .panicking [{ v := mI 125 p y, recovered := true }] } :: G) dc dc rfl rfl rfl rfl (fun _ => rfl) (fun E h => gf h) (.inl ?_) t (fun a t => ?_)
 ·simp only [recoverD, z]
 refine xi (u := .panicking [{ v := mI 125 p y, recovered := true }]) Tryz.results51 (fC (sg (Wm (V (A0 underlying20 rfl rfl) (ln (ky rfl (kg (Wm (V (xT da (by intro q h; cases h) rfl) ?_))))))))) t
 refine Wm (Wx rfl (Wx rfl (VE (gq o zeroValue125 (fun i K o => VO (pv [] (.agg #[.pointer (some ⟨p, 0, none⟩), .int .i64 y]) #[.pointer (some ⟨p, 0, none⟩), .int .i64 y] o rfl rfl sizeOf125 oc (aO 2) rfl (fun j o => Wa (lS (Wm (V (jv rfl) (Wm (Vg rfl rfl (fj Ax rfl) ?_))))))))))))
 refine Vg rfl rfl (fh rfl (fF o.has Mh rfl isAgg65)) (Vg rfl rfl (fi rfl) (Vg rfl rfl (wJ eL sizeOf100 rfl rfl) (V (fx rfl rfl) (ln (ky rfl (kn (fm (Wm (Wf Az (VB o Mh rfl rfl isAgg27 (Wn (VO (pv [_, _] (.int .i64 y) #[.int .i64 y] o rfl rfl sizeOf27 oc (aO 1) rfl (fun k o => ?_))))))))))))))
 exact fK ⟨.inl rfl, rfl, rfl, ST.drop (A := []) o⟩
theorem wv {S : Type} (fk : Nat) (a : Array Value) (N : Value) (T b : List Int) (s : Int ⊕ S) (rd : S → List Int) (w : World) {Q : fz} {j : LO} (h0 : kV Q j w) (hb : Sl (Pl (fl .u8)) 1 Q N T) (Y : gV T = some b) (K : S → LO → fz → Prop) (X : Int → LO → fz → Prop) (H : ∀ args w, (callFunc fk args).run pg0 w = .ok (.enter fk args) w) (hf : ∀ (w' : World) (μ' : fz) (F : Nat) (G : Value), kV μ' ((F, Obj.cells #[G, .bool false] 100 (0, 0)) :: j) w' → fw Q μ' → Sl (Pl (fl .u8)) 1 μ' G b →
   fG true pg0 fk (.pointer (some ⟨F, 0, none⟩) :: a.toList) w' μ' ((F, Obj.cells #[G, .bool false] 100 (0, 0)) :: j) s (fun r v B u => ∃ y z L', B = (F, Obj.cells #[y, z] 100 (0, 0)) :: L' ∧ Sl (Pl (fl .u8)) 1 u y (rd r) ∧ K r L' u)
    (fun x c B u => ∃ y z L', c = [{ v := mI 125 F x, recovered := false }] ∧ B = (F, Obj.cells #[y, z] 100 (0, 0)) :: L' ∧ X x L' u)) :
  gY true pg0 24 [N, .func (.func fk) #[] a] w Q j (fun v B u => v = .int .i64 (tp rd s) ∧ zV K X s B u) := by
 refine yl ?_
 have o := ST.mA (dd := true) h0
 refine vW (n := 22) func24 rfl rfl nb (xp (fm (VE (gq o zeroValue27 (fun W1 O o => fK ⟨rfl, (xp (fm (Wm (VE (mg o call32 (ny N T _ _ (hb.mono (Pl.mono _) o.fH) Y) (fun W2 v2 a8 R2 o g W U => ?_))))))⟩)))))
 obtain ⟨aa, o, i, a1, J⟩ := ST.vU o U (fun _ => rfl)
 obtain ⟨A, c, rfl⟩ := J.form
 refine V (gX (v := (.agg #[.slice A b.length c, .bool false])) (iD rfl) (gr zeroValue100 dP (B0 _ dP) kr)) (VE (hZ o rfl (fun W3 F o => Wa (fK ⟨rfl, (BC (ye (B1 (.inl rfl) rfl dc (fi rfl) (yv (d := ⟨.fn (.func 51) #[], #[.pointer (some ⟨F, 0, none⟩), .pointer (some ⟨O, 0, none⟩)]⟩) (.inl rfl) rfl (yW (args := [.pointer (some ⟨F, 0, none⟩), .pointer (some ⟨O, 0, none⟩)]) rfl (by exact kc rfl rfl)) (fq (pt (pt (ou (oG (.inl rfl) rfl dc (fi rfl) (oG (.inl rfl) rfl dc (wB underlying67 rfl rfl) (qC ?_)))))))))))⟩))))
 refine fq (wq rfl (ou (oG (.inl rfl) rfl dc (fi rfl) (oG (.inl rfl) rfl dc (fi rfl) ?_))))
 have hP : List.Perm ((F, Obj.cells (.agg #[.slice A b.length c, .bool false] : Value).cells 100 (0, 0)) :: (O, Obj.cells (Value.int IntKind.i64 0).cells 27 (0, 0)) :: j) (((F, Obj.cells #[.slice A b.length c, .bool false] 100 (0, 0)) :: j) ++ [(O, Obj.cells (Value.int IntKind.i64 0).cells 27 (0, 0))]) := List.Perm.cons _ (dJ (l₁ := [_]))
 have hB : ∀ {M : LO} {p q : Nat × Obj}, ((p :: M) ++ [q]).Perm (p :: q :: M) := List.Perm.cons _ (dJ (l₂ := [_]))
 rcases s with x | r
 ·refine BZ (.inl rfl) (gW (args := [(.pointer (some ⟨F, 0, none⟩))]) (caps := a) _ _ o hP rfl H (by exact kU rfl) (fun hH hN R a7 => fG.l (hf _ _ F _ ⟨hH, hN, R⟩ (g.trans i) J)) (fun W4 cc Z L4 o D P hX => ?_))
  obtain ⟨y, z, L', rfl, rfl, hX⟩ := hX
  replace o := o.perm hB
  intro E' a6
  refine gS (vH (by simp) call51 (rj _ _ _ _ 0 x _ o (.inr rfl)) (fun I o => mZ (v := .int .i64 x) rfl (a6 4) (fF o.has (.tail _ (.head _)) rfl isAgg27) ?_))
  have o := ST.drop (A := []) (ST.drop (A := []) o)
  exact ⟨_, _, _, rfl, o.AV, (g.trans i).trans D, (W.trans a1).trans P, o.fJ (fun _ h => h), rfl, hX⟩
 refine Cd (.inl rfl) rfl dc (vY (args := [(.pointer (some ⟨F, 0, none⟩))]) (caps := a) _ _ o hP rfl H (by exact kU rfl) (fun hH hN R a7 => fG.r (hf _ _ F _ ⟨hH, hN, R⟩ (g.trans i) J)) (fun W4 v4 Z L4 o D P hK => ?_))
 obtain ⟨y, z, L', rfl, hy, hK⟩ := hK
 replace o := o.perm hB
 refine qC (fq (pt (pt (ou (oG (.inl rfl) rfl dc (fi rfl) (oG (.inl rfl) rfl dc (mh rfl) (oG (.inl rfl) rfl dc (fj nq rfl) (oG (.inl rfl) rfl dc (fh rfl (fF o.has (.head _) rfl bT)) (oG (.inl rfl) rfl dc (gv az rfl hy) (oG (.inl rfl) rfl dc (fY rfl rfl rfl) (qC (fq ?_))))))))))))
 have L : ∀ (k : Int) (E : Nat → Value) (I : World), E 4 = .pointer (some ⟨O, 0, none⟩) → k = (if (rd r).length > 0 then 13 else 0) → ST true (keys j) w I Z ((F, Obj.cells #[y, z] 100 (0, 0)) :: (O, Obj.cells #[.int .i64 k] 27 (0, 0)) :: L') → ∀ tmps : Array Value, (∀ t, tmps.getD t undef = E t) → Leaves pg0 Tryz.f24 tmps (Ai true w Q j (fun v B u => v = .int .i64 (tp rd (.inr r)) ∧ zV K X (.inr r) B u)) [⟨.fn (.func 51) #[], #[.pointer (some ⟨F, 0, none⟩), .pointer (some ⟨O, 0, none⟩)]⟩] .returning I := fun k E I h4 hk o => by
  refine vH (by simp) call51 (rj _ _ _ _ k k _ o (.inl ⟨rfl, rfl⟩)) (fun W6 o => mZ (v := .int .i64 k) rfl h4 (fF o.has (.tail _ (.head _)) rfl isAgg27) ?_)
  have o := ST.drop (A := []) (ST.drop (A := []) o)
  exact ⟨_, _, _, rfl, o.AV, (g.trans i).trans D, (W.trans a1).trans P, o.fJ (fun _ h => h), by rw [hk, tp], hK⟩
 refine yX (b := decide (((rd r).length : Int) > 0)) rfl (fun hq => ?_) (fun hq => ?_)
 ·exact pt (ou (yL (.inl rfl) rfl (pv [_] (.int .i64 13) #[.int .i64 13] o rfl rfl sizeOf27 oc (aO 1) rfl (fun I o => qC (fq (xc (fN (L 13 _ _ rfl (by rw [aF (by simpa using hq)]) o))))))))
 exact zg (fq (pt (ou (yL (.inl rfl) rfl (pv [_] (.int .i64 0) #[.int .i64 0] o rfl rfl sizeOf27 oc (aO 1) rfl (fun I o => qC (fq (xc (L 0 _ _ rfl (by rw [aG (by simpa using hq)]) o)))))))))
theorem pg (i : Nat) (c : Value) (g : List Int) (a r : Bool) (w : World) (k : Sl (Pl (fl .u8)) 1 (hp w) c g) (j : At (hp w) (.pointer (some ⟨i, 0, none⟩)) [c, (.bool a)]) (hm : km g a = some r) :
  fQ true pg0 85 [(.pointer (some ⟨i, 0, none⟩))] w (.bool r) := by
 refine cG 11 func85 rfl (fun d => sg (Wa (lr (Wm (V (kx eL rfl rfl) (Wm (Vg rfl rfl (fi rfl) (Vg rfl rfl (mh rfl) (Ch rfl rfl (qg [(.bool a)] uf rfl j rfl) (fun u t => Vg rfl rfl (fh rfl (ki d.has (y := (.bool a)) t isAgg4)) ?_))))))))))
 exact V (fx rfl rfl) (Wa (lt (rQ hm d)))
theorem fI (a : Nat) (t : fp) (g : Value) (B : Int) (s : (Int ⊕ Unit)) (w : World) {D : fz} (T : kV D ((a, Ob #[g, (.bool t.gi)] 100) :: []) w) (I : Sl (Pl (fl .u8)) 1 D g t.b) (hm : fT t B = some s) :
  fG true pg0 54 [(.pointer (some ⟨a, 0, none⟩)), (.int .i64 B)] w D ((a, Ob #[g, (.bool t.gi)] 100) :: []) s (fun r v G U => v = (.tuple #[]) ∧ G = ((a, Ob #[g, (.bool t.gi)] 100) :: [])) (fun x c G U => ∃ y z, c = [{ v := mI 125 a x, recovered := false }] ∧ G = ((a, Ob #[y, z] 100) :: [])) := by
 have d := ST.mA (dd := true) T
 refine ji (n := 21) func54 rfl rfl nb (sg (Wm (V (qX eL rfl rfl) (Wm (Vg rfl rfl (fi rfl) (Vg rfl rfl (mh rfl) (Vg rfl rfl (fj uf rfl) (Vg rfl rfl (fh rfl (fF d.has Mh rfl isAgg4)) (Vg rfl rfl (jv rfl) (V (fy rfl rfl) (Wm (LJ hm (fun K E W => ∃ H, ST true (keys ((a, Ob #[g, (.bool t.gi)] 100) :: [])) w W D ((a, Ob #[g, (.bool t.gi)] 100) :: H) ∧ E 0 = (.pointer (some ⟨a, 0, none⟩)) ∧ E 1 = (.int .i64 B) ∧ E 16 = (.bool K)) 3 ?_ (fun K j u => ?_)))))))))))))
 ·rintro Y E W ⟨H, d, M, N, Q⟩ k
  refine ln (CI k Q (fun J k => ?_) (fun J k => ?_))
  ·refine fm (Wh M (Wh N (V (gX (v := (.agg #[(.pointer (some ⟨a, 0, none⟩)), (.int .i64 B)])) (lU rfl rfl) (gr zeroValue125 da (B5 _ da) kr)) (V (AR da (by intro q h; cases h) rfl) (jF (.inl rfl) (Av rfl (iI ?_)))))))
   obtain rfl := sj k
   exact gj.li ⟨_, _, _, rfl, (d.gA (Kb Sn)), (fw.refl _), Lo.refl, (ST.fJ d (gm.mem (Kb Sn))), ⟨_, _, rfl, rfl⟩⟩
  refine gp (xo (za ?_))
  obtain rfl := sj k
  exact yR rfl (gj.ri ⟨_, _, _, rfl, (d.gA (Kb Sn)), (fw.refl _), Lo.refl, (ST.fJ d (gm.mem (Kb Sn))), rfl, rfl⟩)
 refine bC j (fun i j => ?_) (fun i j => ?_)
 ·refine ug i (fi rfl) (ug i (fY rfl rfl rfl) (V (fy (cB i) rfl) ?_))
  obtain rfl := sj j
  exact u _ _ ⟨_, (d.fc St), rfl, rfl, rfl⟩
 refine un i (un i (V (fx (cB i) rfl) ?_))
 obtain rfl := sj j
 exact u _ _ ⟨_, (d.fc St), rfl, rfl, rfl⟩
theorem nN (a : Nat) (j : fp) (g : Value) (a1 : Int) (s : (Int ⊕ (Int × fp))) (w : World) {μ0 : fz} (h0 : kV μ0 ((a, Ob #[g, (.bool j.gi)] 100) :: []) w) (k : Sl (Pl (fl .u8)) 1 μ0 g j.b) (hm : kw j a1 = some s) :
  fG true pg0 99 [(.pointer (some ⟨a, 0, none⟩)), (.int .i64 a1)] w μ0 ((a, Ob #[g, (.bool j.gi)] 100) :: []) s (fun r v L1 μ1 => ∃ y1, v = (.int .u8 (r.1)) ∧ L1 = ((a, Ob #[y1, (.bool ((r.2).gi))] 100) :: []) ∧ Sl (Pl (fl .u8)) 1 μ1 y1 ((r.2).b)) (fun x c L1 μ1 => ∃ y z, c = [{ v := mI 125 a x, recovered := false }] ∧ L1 = ((a, Ob #[y, z] 100) :: [])) := by
 let c8 := (⟨(j.b.drop (Int.toNat 1)), j.gi⟩ : fp)
 let c7 := (#[g, (.bool j.gi)] : Array Value)
 let b8 : Value := (.pointer (some ⟨a, 0, none⟩))
 let a0 := ((a, Obj.cells c7 100 (0, 0)) :: [])
 have d := ST.mA (dd := true) h0
 refine ji (n := 41) func99 rfl rfl nb (sg (Wa (ln (fC (tE hm (fun g0 E W => ∃ Y d7, fw μ0 Y ∧ Lo (keys a0) w μ0 Y ∧ ST true (keys a0) w W Y ((a, Obj.cells c7 100 (0, 0)) :: d7) ∧ E 0 = b8 ∧ E 1 = (.int .i64 a1)) (fun g0 B a2 => ?_) ?_)))))
 ·refine sg (Wm (Wi rfl (ln (CI B rfl (fun d3 B => ?_) (fun d3 B => ?_)))))
  ·refine fm (Wm (bS B fun g1 b5 B => ?_))
   rcases g1 with f6 | h4
   ·have F := d.size
    refine jF (.inl rfl) (gW (args := [b8, (.int .i64 11)]) (caps := #[]) _ _ d (Cb Pz Cn) rfl cX (by exact kc rfl rfl) (fun hH hN A ad => (fG.l (fI a j g 11 _ _ ⟨hH, hN, A⟩ (k.mono (Pl.mono _) (fw.refl _)) b5))) (fun e7 g9 c6 e4 d T p aa => ?_))
    obtain ⟨i1, i4, d6, rfl⟩ := aa
    replace d := d.perm (Tb Tn)
    refine gS (iI ?_)
    obtain rfl := sj B
    replace a2 : some (Sum.inl f6) = some s := a2
    obtain rfl := sj a2
    exact gj.li ⟨_, _, _, rfl, (d.gA (Kb Sn)), T, p, (ST.fJ d (gm.mem (Kb Sn))), ⟨_, _, d6, rfl⟩⟩
   have F := d.size
   refine VE (eD d (Cb Pz Cn) cX (fun hh => (fG.r (fI a j g 11 _ _ hh (k.mono (Pl.mono _) (fw.refl _)) b5))) ?_)
   rintro e7 h7 c6 e4 d T p ⟨a6, rfl⟩
   obtain rfl := a6.symm
   replace d := d.perm (Tb Tn)
   refine ln ?_
   obtain rfl := sj B
   exact ⟨_, rfl, c6, _, T, p, (d.fc St), rfl, rfl⟩
  refine kn ?_
  obtain rfl := sj B
  exact ⟨_, rfl, μ0, _, (fw.refl _), Lo.refl, (d.fc St), rfl, rfl⟩
 rintro ⟨⟩ E W ⟨Y, d7, G, q, d, b1, e0⟩ f0
 refine fC (tE f0 (fun f8 E W => ∃ I d8, fw Y I ∧ Lo (keys a0) w Y I ∧ ST true (keys a0) w W I ((a, Obj.cells c7 100 (0, 0)) :: d8) ∧ E 0 = b8 ∧ E 1 = (.int .i64 a1)) (fun f8 u Z => ?_) ?_)
 ·refine sg (Wh b1 (Wn (Wf nq (VB d Mh rfl rfl bT (V (gv az rfl k) (Wi rfl (ln (CI u rfl (fun d2 u => ?_) (fun d2 u => ?_)))))))))
  ·refine fm (Wh b1 (bS u fun f9 b4 u => ?_))
   rcases f9 with f5 | h3
   ·have F := d.size
    refine jF (.inl rfl) (gW (args := [b8, (.int .i64 10)]) (caps := #[]) _ _ d (Cb Pz Cn) rfl cX (by exact kc rfl rfl) (fun hH hN A ad => (fG.l (fI a j g 10 _ _ ⟨hH, hN, A⟩ (k.mono (Pl.mono _) G) b4))) (fun e6 g8 c5 e3 d Q o R => ?_))
    obtain ⟨i0, i3, d5, rfl⟩ := R
    replace d := d.perm (Tb Tn)
    refine gS (iI ?_)
    obtain rfl := sj u
    replace Z : some (Sum.inl f5) = some s := Z
    obtain rfl := sj Z
    exact gj.li ⟨_, _, _, rfl, (d.gA (Kb Sn)), (G.trans Q), (q.trans o), (ST.fJ d (gm.mem (Kb Sn))), ⟨_, _, d5, rfl⟩⟩
   have F := d.size
   refine VE (eD d (Cb Pz Cn) cX (fun hh => (fG.r (fI a j g 10 _ _ hh (k.mono (Pl.mono _) G) b4))) ?_)
   rintro e6 h6 c5 e3 d Q o ⟨a5, rfl⟩
   obtain rfl := a5.symm
   replace d := d.perm (Tb Tn)
   refine ln ?_
   obtain rfl := sj u
   exact ⟨_, rfl, c5, _, Q, o, (d.fc St), b1, e0⟩
  refine kn ?_
  obtain rfl := sj u
  exact ⟨_, rfl, Y, _, (fw.refl _), Lo.refl, (d.fc St), b1, e0⟩
 rintro ⟨⟩ E W ⟨I, d8, J, L, d, a7, g2⟩ U
 refine sg (Wh a7 (Wn (Wf nq (VB d Mh rfl rfl bT (bS U fun a9 c2 U => VQ (kf (enc := (fl .u8)) (i := 0) (x0 := a9) az cJ rfl rfl (k.mono (Pl.mono _) (G.trans J)) (iA c2) (gK c2)) (fun i6 f3 => V (fh rfl (ki d.has (y := (.int .u8 a9)) f3 isAgg5)) (Wa (lr (Wh a7 ?_)))))))))
 refine Wh a7 (Wn (Wf nq (VB d Mh rfl rfl bT (bS U fun _ c1 U => VQ (sF (i := 1) az cJ rfl rfl (k.mono (Pl.mono _) (G.trans J)) (pp c1) (pn c1)) (fun i7 a3 => Wn (Wf nq ?_))))))
 obtain ⟨K, M, rfl⟩ := a3.1.form
 let O : Value := (.slice K (j.b.drop (Int.toNat 1)).length M)
 refine VO (fM O (#[O, (.bool j.gi)]) d rfl rfl dq oc nb rfl (fun i5 d => ln (fC (tE U (fun g4 E W => ∃ b6 d9, fw I b6 ∧ Lo (keys a0) w I b6 ∧ ST true (keys a0) w W b6 ((a, Ob #[O, (.bool j.gi)] 100) :: d9) ∧ E 5 = (.int .u8 a9)) (fun g4 f2 b0 => ?_) ?_))))
 ·refine sg (Wm (Wi rfl (Wm (LJ f2 (fun c3 E W => ∃ b9, ST true (keys a0) w W I ((a, Ob #[O, (.bool j.gi)] 100) :: b9) ∧ E 0 = b8 ∧ E 5 = (.int .u8 a9) ∧ E 37 = (.bool c3)) 3 ?_ (fun c3 H a8 => ?_)))))
  ·rintro h8 E W ⟨b9, d, e8, c0, e9⟩ t
   refine ln (CI t e9 (fun d1 t => ?_) (fun d1 t => ?_))
   ·refine fm (Wh e8 (bS t fun f7 b3 t => ?_))
    rcases f7 with f4 | h2
    ·have F := d.size
     refine jF (.inl rfl) (gW (args := [b8, (.int .i64 11)]) (caps := #[]) _ _ d (Cb Pz Cn) rfl cX (by exact kc rfl rfl) (fun hH hN A ad => (fG.l (fI a c8 O 11 _ _ ⟨hH, hN, A⟩ (a3.1.mono (Pl.mono _) (fw.refl _)) b3))) (fun e5 g7 c4 e2 d N h P => ?_))
     obtain ⟨h9, i2, d4, rfl⟩ := P
     replace d := d.perm (Tb Tn)
     refine gS (iI ?_)
     obtain rfl := sj t
     replace b0 : some (Sum.inl f4) = some s := b0
     obtain rfl := sj b0
     exact gj.li ⟨_, _, _, rfl, (d.gA (Kb Sn)), ((G.trans J).trans N), ((q.trans L).trans h), (ST.fJ d (gm.mem (Kb Sn))), ⟨_, _, d4, rfl⟩⟩
    have F := d.size
    refine VE (eD d (Cb Pz Cn) cX (fun hh => (fG.r (fI a c8 O 11 _ _ hh (a3.1.mono (Pl.mono _) (fw.refl _)) b3))) ?_)
    rintro e5 h5 c4 e2 d N h ⟨a4, rfl⟩
    obtain rfl := a4.symm
    replace d := d.perm (Tb Tn)
    refine ln ?_
    obtain rfl := sj t
    exact ⟨_, rfl, c4, _, N, h, (d.fc St), c0⟩
   refine kn ?_
   obtain rfl := sj t
   exact ⟨_, rfl, I, _, (fw.refl _), Lo.refl, (d.fc St), c0⟩
  refine bC H (fun D H => ?_) (fun D H => ?_)
  ·refine ug D (fi g2) (ug D (fY rfl rfl rfl) (V (fy (cB D) rfl) ?_))
   obtain rfl := sj H
   exact a8 _ _ ⟨_, (d.fc St), a7, rfl, rfl⟩
  refine un D (un D (V (fx (cB D) rfl) ?_))
  obtain rfl := sj H
  exact a8 _ _ ⟨_, (d.fc St), a7, rfl, rfl⟩
 rintro ⟨⟩ E W ⟨b6, d9, b2, ab, d, g3⟩ f1
 refine sg (Wh g3 (Wa (lt (lc ?_))))
 obtain rfl := sj f1
 exact gb (v := (.int .u8 a9)) rfl rfl (gj.ri ⟨_, _, _, rfl, (d.gA (Kb Sn)), ((G.trans J).trans b2), ((q.trans L).trans ab), (ST.fJ d (gm.mem (Kb Sn))), O, rfl, rfl, (a3.1.mono (Pl.mono _) b2)⟩)
theorem jL (g : Nat) (I : fp) (j : Value) (P : Int) (s : (Int ⊕ (Int × fp))) (w : World) {μ0 : fz} (h0 : kV μ0 ((g, Ob #[j, (.bool I.gi)] 100) :: []) w) (K : Sl (Pl (fl .u8)) 1 μ0 j I.b) (hm : iS I P = some s) :
  fG true pg0 82 [(.pointer (some ⟨g, 0, none⟩)), (.int .i64 P)] w μ0 ((g, Ob #[j, (.bool I.gi)] 100) :: []) s (fun r v L1 μ1 => ∃ y1, v = (.int .i64 (r.1)) ∧ L1 = ((g, Ob #[y1, (.bool ((r.2).gi))] 100) :: []) ∧ Sl (Pl (fl .u8)) 1 μ1 y1 ((r.2).b)) (fun x c L1 μ1 => ∃ y z, c = [{ v := mI 125 g x, recovered := false }] ∧ L1 = ((g, Ob #[y, z] 100) :: [])) := by
 let b7 : Value := (.pointer (some ⟨g, 0, none⟩))
 let R := ((g, Ob #[j, (.bool I.gi)] 100) :: [])
 have d := ST.mA (dd := true) h0
 refine ji (n := 31) func82 rfl rfl nb (sg (Wa (lS (Wm (bS hm fun r1 e0 hm => VE (Eg d call85 (pg g j I.b I.gi _ _ (K.mono (Pl.mono _) d.fH) (At.of (d.at_ Mh) _ rfl) e0) (fun W3 d => ln (CI hm rfl (fun d9 hm => ?_) (fun d9 hm => ?_)))))))))
 ·refine sg (Wa (lt (fN (lc ?_))))
  obtain rfl := sj hm
  exact gb (v := (.int .i64 0)) rfl rfl (gj.ri ⟨_, _, _, rfl, (d.gA (Kb Sn)), (fw.refl _), Lo.refl, (ST.fJ d (gm.mem (Kb Sn))), j, rfl, rfl, K⟩)
 refine kg (Wa (lS (Wa (ln (iM (lm (fun m E W => ∃ G u Q N T Y b3, fw μ0 Y ∧ Lo (keys R) w μ0 Y ∧ ST true (keys R) w W Y ((g, Ob #[Q, (.bool T)] 100) :: b3) ∧ E 0 = b7 ∧ E 1 = (.int .i64 P) ∧ E 5 = (.int .i64 G) ∧ E 6 = (.int .i64 u) ∧ Sl (Pl (fl .u8)) 1 Y Q N ∧ gB P m G u N T = some s) ib ⟨0, 0, j, I.b, I.gi, μ0, _, (fw.refl _), Lo.refl, (d.fc St), rfl, rfl, rfl, rfl, K, hm⟩ ?_))))))
 rintro m E W ⟨G, u, Q, N, T, Y, b3, H, o, d, a7, b5, d2, a8, b1, i⟩
 cases m with
 | zero => rw [gB] at i; cases i
 | succ d4 =>
  refine fC (bg (Wh a7 (Wh a8 (bS i fun d8 a9 i => ?_))))
  rcases d8 with e6 | t
  ·have O := d.size
   refine jF (.inl rfl) (gW (args := [b7, (.int .i64 u)]) (caps := #[]) _ _ d (Cb Pz Cn) rfl call99 (by exact kc rfl rfl) (fun hH hN L aa => (fG.l (nN g (⟨N, T⟩ : fp) Q u _ _ ⟨hH, hN, L⟩ (b1.mono (Pl.mono _) (fw.refl _)) a9))) (fun d0 e3 Z c8 d D h q => ?_))
   obtain ⟨f0, f2, c3, rfl⟩ := q
   replace d := d.perm (Tb Tn)
   refine gS (oN (gS (gS (oN (gS (iI ?_))))))
   obtain rfl := sj i
   exact gj.li ⟨_, _, _, rfl, (d.gA (Kb Sn)), (H.trans D), (o.trans h), (ST.fJ d (gm.mem (Kb Sn))), ⟨_, _, c3, rfl⟩⟩
  have O := d.size
  refine VE (eD d (Cb Pz Cn) call99 (fun hh => (fG.r (nN g (⟨N, T⟩ : fp) Q u _ _ hh (b1.mono (Pl.mono _) (fw.refl _)) a9))) ?_)
  rintro d0 e8 Z c8 d D h ⟨U, a3, rfl, J⟩
  obtain rfl := a3.symm
  replace d := d.perm (Tb Tn)
  refine Wa (lr (Wh d2 (Wm (V (su (k := .u8) (a := t.1) (b := 127) (v := (.int .u8 (IntKind.u8.wrap (BitVec.ofInt (IntKind.bits .u8) t.1 &&& BitVec.ofInt (IntKind.bits .u8) 127).toNat))) rfl rfl dc rfl) (V (jW (k' := .u8) (a := (IntKind.u8.wrap (BitVec.ofInt (IntKind.bits .u8) t.1 &&& BitVec.ofInt (IntKind.bits .u8) 127).toNat)) aY dp rfl) (Wh a8 (Wi rfl (bS i fun _ c5 i => V (BK (a := (wi0 .i64 (IntKind.u8.wrap (BitVec.ofInt (IntKind.bits .u8) t.1 &&& BitVec.ofInt (IntKind.bits .u8) 127).toNat))) (b := (wi0 .i64 (7 * u))) rfl rfl (Bc c5)) (V (wh (k := .i64) (a := G) (b := (wi0 .i64 ((wi0 .i64 (IntKind.u8.wrap (BitVec.ofInt (IntKind.bits .u8) t.1 &&& BitVec.ofInt (IntKind.bits .u8) 127).toNat)) * 2 ^ min (Int.toNat (wi0 .i64 (7 * u))) (IntKind.bits .i64)))) (v := (.int .i64 (wi0 .i64 (BitVec.ofInt (IntKind.bits .i64) G ||| BitVec.ofInt (IntKind.bits .i64) (wi0 .i64 ((wi0 .i64 (IntKind.u8.wrap (BitVec.ofInt (IntKind.bits .u8) t.1 &&& BitVec.ofInt (IntKind.bits .u8) 127).toNat)) * 2 ^ min (Int.toNat (wi0 .i64 (7 * u))) (IntKind.bits .i64)))).toNat))) rfl rfl rfl) (Wa ?_))))))))))
  let a0 := (wi0 .i64 (BitVec.ofInt (IntKind.bits .i64) G ||| BitVec.ofInt (IntKind.bits .i64) (wi0 .i64 ((wi0 .i64 (IntKind.u8.wrap (BitVec.ofInt (IntKind.bits .u8) t.1 &&& BitVec.ofInt (IntKind.bits .u8) 127).toNat)) * 2 ^ min (Int.toNat (wi0 .i64 (7 * u))) (IntKind.bits .i64)))).toNat)
  refine lr (Wm (Wi rfl (ln (CI i rfl (fun c1 i => ?_) (fun c1 i => ?_)))))
  ·refine mC (Cu (by simp) (lW (lW (qm (fq (fC (tE i (fun d6 E W => ∃ a5 b4, fw Z a5 ∧ Lo (keys R) w Z a5 ∧ ST true (keys R) w W a5 ((g, Ob #[U, (.bool ((t.2).gi))] 100) :: b4) ∧ E 5 = (.int .i64 a0)) (fun d6 B a2 => ?_) ?_)))))))
   ·refine sg (Wm (Wh b5 (Wi rfl (ln (CI B rfl (fun c2 B => ?_) (fun c2 B => ?_))))))
    ·refine fm (Wh a7 (bS B fun d7 b0 B => ?_))
     rcases d7 with d5 | e7
     ·have O := d.size
      refine jF (.inl rfl) (gW (args := [b7, (.int .i64 12)]) (caps := #[]) _ _ d (Cb Pz Cn) rfl cX (by exact kc rfl rfl) (fun hH hN L aa => (fG.l (fI g t.2 U 12 _ _ ⟨hH, hN, L⟩ (J.mono (Pl.mono _) (fw.refl _)) b0))) (fun d1 e4 b6 c9 d M p A => ?_))
      obtain ⟨f1, f3, c4, rfl⟩ := A
      replace d := d.perm (Tb Tn)
      refine gS (iI ?_)
      obtain rfl := sj B
      replace a2 : some (Sum.inl d5) = some s := a2
      obtain rfl := sj a2
      exact gj.li ⟨_, _, _, rfl, (d.gA (Kb Sn)), ((H.trans D).trans M), ((o.trans h).trans p), (ST.fJ d (gm.mem (Kb Sn))), ⟨_, _, c4, rfl⟩⟩
     have O := d.size
     refine VE (eD d (Cb Pz Cn) cX (fun hh => (fG.r (fI g t.2 U 12 _ _ hh (J.mono (Pl.mono _) (fw.refl _)) b0))) ?_)
     rintro d1 e9 b6 c9 d M p ⟨a4, rfl⟩
     obtain rfl := a4.symm
     replace d := d.perm (Tb Tn)
     refine ln ?_
     obtain rfl := sj B
     exact ⟨_, rfl, b6, _, M, p, (d.fc St), rfl⟩
    refine kn ?_
    obtain rfl := sj B
    exact ⟨_, rfl, Z, _, (fw.refl _), Lo.refl, (d.fc St), rfl⟩
   rintro ⟨⟩ E W ⟨a5, b4, a6, F, d, d3⟩ c6
   refine sg (Wh d3 (Wa (lt (lc ?_))))
   obtain rfl := sj c6
   exact gb (v := (.int .i64 a0)) rfl rfl (gj.ri ⟨_, _, _, rfl, (d.gA (Kb Sn)), ((H.trans D).trans a6), ((o.trans h).trans F), (ST.fJ d (gm.mem (Kb Sn))), U, rfl, rfl, (J.mono (Pl.mono _) a6)⟩)
  exact gp (gk (fq (fm (Wh a8 (Wi rfl (Wa (ln ⟨d4, bE _, a0, (wi0 .i64 (u + 1)), U, ((t.2).b), ((t.2).gi), Z, _, (H.trans D), (o.trans h), (d.fc St), a7, b5, rfl, rfl, J, i⟩)))))))
theorem ku (a : Nat) (J : fp) (k : Value) (a1 : Int) (s : (Int ⊕ ((List Int) × fp))) (w : World) {μ0 : fz} (h0 : kV μ0 ((a, Ob #[k, (.bool J.gi)] 100) :: []) w) (D : Sl (Pl (fl .u8)) 1 μ0 k J.b) (hm : jm J a1 = some s) :
  fG true pg0 53 [(.pointer (some ⟨a, 0, none⟩)), (.int .i64 a1)] w μ0 ((a, Ob #[k, (.bool J.gi)] 100) :: []) s (fun r v L1 μ1 => ∃ y1 y3, v = y1 ∧ L1 = ((a, Ob #[y3, (.bool ((r.2).gi))] 100) :: []) ∧ Sl (Pl (fl .u8)) 1 μ1 y1 (r.1) ∧ Sl (Pl (fl .u8)) 1 μ1 y3 ((r.2).b)) (fun x c L1 μ1 => ∃ y z, c = [{ v := mI 125 a x, recovered := false }] ∧ L1 = ((a, Ob #[y, z] 100) :: [])) := by
 let b6 := ((a, Ob #[k, (.bool J.gi)] 100) :: [])
 let b2 : Value := (.pointer (some ⟨a, 0, none⟩))
 have d := ST.mA (dd := true) h0
 refine ji (n := 44) func53 rfl rfl nb (sg (Wa (lS (Wm (bS hm fun r1 e6 hm => VE (Eg d call85 (pg a k J.b J.gi _ _ (D.mono (Pl.mono _) d.fH) (At.of (d.at_ Mh) _ rfl) e6) (fun W3 d => ln (CI hm rfl (fun e5 hm => ?_) (fun e5 hm => ?_)))))))))
 ·refine sg (Wa (lt (fN (lc ?_))))
  obtain rfl := sj hm
  exact gb (v := (.slice none 0 0)) rfl rfl (gj.ri ⟨_, _, _, rfl, (d.gA (Kb Sn)), (fw.refl _), Lo.refl, (ST.fJ d (gm.mem (Kb Sn))), (.slice none 0 0), k, rfl, rfl, (Sl.nil _ _ _), D⟩)
 refine kg (Wm (bS hm fun d9 c0 hm => ?_))
 rcases d9 with g5 | t
 ·have A := d.size
  refine jF (.inl rfl) (gW (args := [b2, (.int .i64 9223372036854775807)]) (caps := #[]) _ _ d (Cb Pz Cn) rfl call82 (by exact kc rfl rfl) (fun hH P q ae => (fG.l (jL a J k 9223372036854775807 _ _ ⟨hH, P, q⟩ (D.mono (Pl.mono _) (fw.refl _)) c0))) (fun W7 g4 F e2 d I h R => ?_))
  obtain ⟨h2, h3, d1, rfl⟩ := R
  replace d := d.perm (Tb Tn)
  refine gS (iI ?_)
  obtain rfl := sj hm
  exact gj.li ⟨_, _, _, rfl, (d.gA (Kb Sn)), I, h, (ST.fJ d (gm.mem (Kb Sn))), ⟨_, _, d1, rfl⟩⟩
 have A := d.size
 refine VE (eD d (Cb Pz Cn) call82 (fun hh => (fG.r (jL a J k 9223372036854775807 _ _ hh (D.mono (Pl.mono _) (fw.refl _)) c0))) ?_)
 rintro W7 g8 F e2 d I h ⟨T, U, rfl, B⟩
 obtain rfl := U.symm
 replace d := d.perm (Tb Tn)
 refine Wa (ln (fC (tE hm (fun e7 E W => ∃ a3 b7, fw F a3 ∧ Lo (keys b6) w F a3 ∧ ST true (keys b6) w W a3 ((a, Ob #[T, (.bool ((t.2).gi))] 100) :: b7) ∧ E 0 = b2 ∧ E 5 = (.int .i64 t.1)) (fun e7 g G => ?_) ?_)))
 ·refine bg (Wm (Wm (Wi rfl (Wa (ln (CI g rfl (fun d0 g => ?_) (fun d0 g => ?_)))))))
  ·refine fm (Wm (bS g fun d7 a9 g => ?_))
   rcases d7 with d5 | g7
   ·have A := d.size
    refine jF (.inl rfl) (gW (args := [b2, (.int .i64 12)]) (caps := #[]) _ _ d (Cb Pz Cn) rfl cX (by exact kc rfl rfl) (fun hH P q ae => (fG.l (fI a t.2 T 12 _ _ ⟨hH, P, q⟩ (B.mono (Pl.mono _) (fw.refl _)) a9))) (fun e3 f2 c2 c4 d M p L => ?_))
    obtain ⟨f7, f9, b4, rfl⟩ := L
    replace d := d.perm (Tb Tn)
    refine oN (gS (iI ?_))
    obtain rfl := sj g
    replace G : some (Sum.inl d5) = some s := G
    obtain rfl := sj G
    exact gj.li ⟨_, _, _, rfl, (d.gA (Kb Sn)), (I.trans M), (h.trans p), (ST.fJ d (gm.mem (Kb Sn))), ⟨_, _, b4, rfl⟩⟩
   have A := d.size
   refine VE (eD d (Cb Pz Cn) cX (fun hh => (fG.r (fI a t.2 T 12 _ _ hh (B.mono (Pl.mono _) (fw.refl _)) a9))) ?_)
   rintro e3 h1 c2 c4 d M p ⟨N, rfl⟩
   obtain rfl := N.symm
   replace d := d.perm (Tb Tn)
   refine fK (gk (fq ?_))
   obtain rfl := sj g
   exact ⟨_, rfl, c2, _, M, p, (d.fc St), rfl, rfl⟩
  refine sg (Wm (Wm (Wn (Wf nq (VB d Mh rfl rfl bT (V (gv az rfl B) (Wi rfl (Wa (ln (CI g rfl (fun b3 g => ?_) (fun b3 g => ?_)))))))))))
  ·refine fm (Wm (bS g fun d8 a2 g => ?_))
   rcases d8 with d6 | f5
   ·have A := d.size
    refine jF (.inl rfl) (gW (args := [b2, (.int .i64 10)]) (caps := #[]) _ _ d (Cb Pz Cn) rfl cX (by exact kc rfl rfl) (fun hH P q ae => (fG.l (fI a t.2 T 10 _ _ ⟨hH, P, q⟩ (B.mono (Pl.mono _) (fw.refl _)) a2))) (fun c6 f3 b1 c5 d H o O => ?_))
    obtain ⟨f8, g0, b5, rfl⟩ := O
    replace d := d.perm (Tb Tn)
    refine oN (gS (iI ?_))
    obtain rfl := sj g
    replace G : some (Sum.inl d6) = some s := G
    obtain rfl := sj G
    exact gj.li ⟨_, _, _, rfl, (d.gA (Kb Sn)), (I.trans H), (h.trans o), (ST.fJ d (gm.mem (Kb Sn))), ⟨_, _, b5, rfl⟩⟩
   have A := d.size
   refine VE (eD d (Cb Pz Cn) cX (fun hh => (fG.r (fI a t.2 T 10 _ _ hh (B.mono (Pl.mono _) (fw.refl _)) a2))) ?_)
   rintro c6 f6 b1 c5 d H o ⟨Q, rfl⟩
   obtain rfl := Q.symm
   replace d := d.perm (Tb Tn)
   refine fK (gk (fq ?_))
   obtain rfl := sj g
   exact ⟨_, rfl, b1, _, H, o, (d.fc St), rfl, rfl⟩
  refine gp (gk (fq ?_))
  obtain rfl := sj g
  exact ⟨_, rfl, F, _, (fw.refl _), Lo.refl, (d.fc St), rfl, rfl⟩
 rintro ⟨⟩ E W ⟨a3, b7, K, aa, d, a6, b9⟩ u
 refine sg (Wh a6 (Wn (Wf nq (VB d Mh rfl rfl bT (Wh b9 (bS u fun _ a7 u => VQ (tw (j := t.1) az cJ rfl rfl (B.mono (Pl.mono _) K) (pp a7) (pn a7)) (fun e8 d3 => bS u fun g6 d2 u => VE (mg d call32 (ny e8 (((t.2).b).take (Int.toNat t.1)) _ _ (d3.1.mono (Pl.mono _) d.fH) d2) (fun g2 c1 h4 g1 d Y ab c9 => Wa (ln (fC ?_)))))))))))
 refine fm (Wh a6 (Wh a6 (Wn (Wf nq (VB d (Ma Mh) rfl rfl bT (Wh b9 (bS u fun _ a8 u => VQ (sF (i := t.1) az cJ rfl rfl (B.mono (Pl.mono _) (K.trans Y)) (pp a8) (pn a8)) (fun g9 b0 => Wn (Wf nq ?_)))))))))
 obtain ⟨a4, a5, rfl⟩ := b0.1.form
 let a0 : Value := (.slice a4 (((t.2).b).drop (Int.toNat t.1)).length a5)
 replace d := d.perm (Nb (Pr Pz) Nz)
 refine VO (fM a0 (#[a0, (.bool ((t.2).gi))]) d rfl rfl dq oc nb rfl (fun g3 d => lr (Wm (Wa (lt (lc ?_))))))
 obtain rfl := sj u
 refine gb (v := c1) rfl rfl ?_
 replace d := d.perm (Nr (Qb Qz) Nz)
 obtain ⟨h5, d, Z, ad, d4⟩ := ST.vU d c9 (fun _ => rfl)
 exact gj.ri ⟨_, _, _, rfl, (d.gA (Kb Sn)), (((I.trans K).trans Y).trans Z), (((h.trans aa).trans ab).trans ad), (ST.fJ d (gm.mem (Kb Sn))), c1, a0, rfl, rfl, d4, (b0.1.mono (Pl.mono _) Z)⟩
theorem jT (a : Nat) (G : fp) (g : Value) (s : (Int ⊕ (ByteArray × fp))) (w : World) {Z : fz} (h0 : kV Z ((a, Ob #[g, (.bool G.gi)] 100) :: []) w) (t : Sl (Pl (fl .u8)) 1 Z g G.b) (hm : kT G = some s) :
  fG true pg0 84 [(.pointer (some ⟨a, 0, none⟩))] w Z ((a, Ob #[g, (.bool G.gi)] 100) :: []) s (fun r v K μ1 => ∃ P, v = (.string (r.1)) ∧ K = ((a, Ob #[P, (.bool ((r.2).gi))] 100) :: []) ∧ Sl (Pl (fl .u8)) 1 μ1 P ((r.2).b)) (fun x c K μ1 => ∃ y z, c = [{ v := mI 125 a x, recovered := false }] ∧ K = ((a, Ob #[y, z] 100) :: [])) := by
 have d := ST.mA (dd := true) h0
 refine ji (n := 15) func84 rfl rfl nb (sg (Wa (lS (Wm (V (kx eL rfl rfl) (ln (ky rfl (gp ?_))))))))
 refine fq (sg (Wm (bS hm fun a5 J hm => ?_)))
 rcases a5 with b6 | I
 ·have q := d.size
  refine jF (.inl rfl) (gW (args := [(.pointer (some ⟨a, 0, none⟩)), (.int .i64 16)]) (caps := #[]) _ _ d (Cb Pz Cn) rfl call53 (by exact kc rfl rfl) (fun hH F p M => (fG.l (ku a G g 16 _ _ ⟨hH, F, p⟩ (t.mono (Pl.mono _) (fw.refl _)) J))) (fun W3 b4 O L9 d j o A => ?_))
  obtain ⟨c3, c5, Q, rfl⟩ := A
  replace d := d.perm (Tb Tn)
  refine gS (iI ?_)
  obtain rfl := sj hm
  exact gj.li ⟨_, _, _, rfl, (d.gA (Kb Sn)), j, o, (ST.fJ d (gm.mem (Kb Sn))), ⟨_, _, Q, rfl⟩⟩
 have q := d.size
 refine VE (eD d (Cb Pz Cn) call53 (fun L => (fG.r (ku a G g 16 _ _ L (t.mono (Pl.mono _) (fw.refl _)) J))) ?_)
 rintro W3 v7 O L9 d j o ⟨c2, D, u, rfl, Y, k⟩
 obtain rfl := u.symm
 replace d := d.perm (Tb Tn)
 refine V (kA az aY aH rfl (Y.mono (Pl.mono _) d.fH)) (Wa (lS (Wm (bS hm fun b9 U hm => VE (Eg d call31 (kG (kF I.1) _ _  U) (fun b3 d => V (jv rfl) (ln (CI hm rfl (fun N hm => ?_) (fun N hm => ?_)))))))))
 ·refine sg (Wm (bS hm fun a4 H hm => ?_))
  rcases a4 with b7 | c0
  ·have q := d.size
   refine jF (.inl rfl) (gW (args := [(.pointer (some ⟨a, 0, none⟩)), (.int .i64 30)]) (caps := #[]) _ _ d (Cb Pz Cn) rfl cX (by exact kc rfl rfl) (fun hH F p M => (fG.l (fI a I.2 D 30 _ _ ⟨hH, F, p⟩ (k.mono (Pl.mono _) (fw.refl _)) H))) (fun a2 b5 W R d i h E => ?_))
   obtain ⟨c4, c6, T, rfl⟩ := E
   replace d := d.perm (Tb Tn)
   refine gS (gS (iI ?_))
   obtain rfl := sj hm
   exact gj.li ⟨_, _, _, rfl, (d.gA (Kb Sn)), (j.trans i), (o.trans h), (ST.fJ d (gm.mem (Kb Sn))), ⟨_, _, T, rfl⟩⟩
  have q := d.size
  refine VE (eD d (Cb Pz Cn) cX (fun L => (fG.r (fI a I.2 D 30 _ _ L (k.mono (Pl.mono _) (fw.refl _)) H))) ?_)
  rintro a2 c1 W R d i h ⟨B, rfl⟩
  obtain rfl := B.symm
  replace d := d.perm (Tb Tn)
  refine lr (Wa (lt (fN (lc ?_))))
  obtain rfl := sj hm
  exact gb (v := (.string zS)) rfl rfl (gj.ri ⟨_, _, _, rfl, (d.gA (Kb Sn)), (j.trans i), (o.trans h), (ST.fJ d (gm.mem (Kb Sn))), D, rfl, rfl, (k.mono (Pl.mono _) i)⟩)
 refine kg (Wm (Wa (lt (lc ?_))))
 obtain rfl := sj hm
 exact gb (v := (.string (kF I.1))) rfl rfl (gj.ri ⟨_, _, _, rfl, (d.gA (Kb Sn)), j, o, (ST.fJ d (gm.mem (Kb Sn))), D, rfl, rfl, k⟩)
theorem iP (a : Nat) (G : fp) (g : Value) (s : (Int ⊕ (fE × fp))) (w : World) {Z : fz} (h0 : kV Z ((a, Ob #[g, (.bool G.gi)] 100) :: []) w) (u : Sl (Pl (fl .u8)) 1 Z g G.b) (hm : jV G = some s) :
  fG true pg0 83 [(.pointer (some ⟨a, 0, none⟩))] w Z ((a, Ob #[g, (.bool G.gi)] 100) :: []) s (fun r v M μ1 => ∃ R, v = (.agg (fD (r.1)).toArray) ∧ M = ((a, Ob #[R, (.bool ((r.2).gi))] 100) :: []) ∧ Sl (Pl (fl .u8)) 1 μ1 R ((r.2).b)) (fun x c M μ1 => ∃ y z, c = [{ v := mI 125 a x, recovered := false }] ∧ M = ((a, Ob #[y, z] 100) :: [])) := by
 have d := ST.mA (dd := true) h0
 refine ji (n := 10) func83 rfl rfl nb (sg (VE (gq d eV (fun W2 b1 d => lr (Wm (bS hm fun a5 J hm => ?_))))))
 rcases a5 with b7 | t
 ·have q := d.size
  refine jF (.inl rfl) (gW (args := [(.pointer (some ⟨a, 0, none⟩))]) (caps := #[]) _ _ d (Cb (Pb Pz) Cn) rfl call84 (by exact kU rfl) (fun hH F p O => (fG.l (jT a G g _ _ ⟨hH, F, p⟩ (u.mono (Pl.mono _) (fw.refl _)) J))) (fun W5 b5 P W d k o A => ?_))
  obtain ⟨c1, c3, T, rfl⟩ := A
  replace d := d.perm (Tb Tn)
  refine gS (iI ?_)
  obtain rfl := sj hm
  exact gj.li ⟨_, _, _, rfl, (d.gA (Kb Sn)), k, o, (ST.fJ d (gm.mem (Kb Sn))), ⟨_, _, T, rfl⟩⟩
 have q := d.size
 refine VE (eD d (Cb (Pb Pz) Cn) call84 (fun L => (fG.r (jT a G g _ _ L (u.mono (Pl.mono _) (fw.refl _)) J))) ?_)
 rintro W5 v9 P W d k o ⟨K, B, rfl, I⟩
 obtain rfl := B.symm
 replace d := d.perm (Tb Tn)
 refine Wa (lr (Wm (Wm (bS hm fun a4 H hm => ?_))))
 rcases a4 with b9 | i
 ·have q := d.size
  refine jF (.inl rfl) (gW (args := [(.pointer (some ⟨a, 0, none⟩))]) (caps := #[]) _ _ d (Cb Pz Cn) rfl call84 (by exact kU rfl) (fun hH F p O => (fG.l (jT a t.2 K _ _ ⟨hH, F, p⟩ (I.mono (Pl.mono _) (fw.refl _)) H))) (fun a3 b6 a9 a2 d j h E => ?_))
  obtain ⟨c2, c4, U, rfl⟩ := E
  replace d := d.perm (Tb Tn)
  refine gS (iI ?_)
  obtain rfl := sj hm
  exact gj.li ⟨_, _, _, rfl, (d.gA (Kb Sn)), (k.trans j), (o.trans h), (ST.fJ d (gm.mem (Kb Sn))), ⟨_, _, U, rfl⟩⟩
 have q := d.size
 refine VE (eD d (Cb Pz Cn) call84 (fun L => (fG.r (jT a t.2 K _ _ L (I.mono (Pl.mono _) (fw.refl _)) H))) ?_)
 rintro a3 c0 a9 a2 d j h ⟨a7, D, rfl, Y⟩
 obtain rfl := D.symm
 replace d := d.perm (Tb Tn)
 let N := (⟨t.1, i.1⟩ : fE)
 let Q : Value := (.agg (fD N).toArray)
 refine V (gX (v := Q) (lU rfl rfl) (gr eV cD (Bt _ cD) kr)) ?_
 replace d := d.perm (Nb (Pb Pz) Nz)
 refine VO (fM Q ((fD N).toArray) d rfl rfl aP (mE N) nb rfl (fun b4 d => lt (lc ?_)))
 obtain rfl := sj hm
 exact mZ (v := Q) rfl rfl (ft d.has Mh (fD N) rfl bp aP) (gj.ri ⟨_, _, _, rfl, (d.gA (Db (Kb Sn))), (k.trans j), (o.trans h), (ST.fJ d (gm.mem (Db (Kb Sn)))), a7, rfl, rfl, Y⟩)
set_option maxHeartbeats 4000000 in
theorem rG (a : Nat) (a0 : fp) (j : Value) (s : (Int ⊕ (eY × fp))) (w : World) {μ0 : fz} (h0 : kV μ0 ((a, Ob #[j, (.bool a0.gi)] 100) :: []) w) (d1 : Sl (Pl (fl .u8)) 1 μ0 j a0.b) (hm : nY a0 = some s) :
  fG true pg0 52 [(.pointer (some ⟨a, 0, none⟩))] w μ0 ((a, Ob #[j, (.bool a0.gi)] 100) :: []) s (fun r v L1 μ1 => ∃ y1, v = (.agg (fa (r.1)).toArray) ∧ L1 = ((a, Ob #[y1, (.bool ((r.2).gi))] 100) :: []) ∧ Sl (Pl (fl .u8)) 1 μ1 y1 ((r.2).b)) (fun x c L1 μ1 => ∃ y z, c = [{ v := mI 125 a x, recovered := false }] ∧ L1 = ((a, Ob #[y, z] 100) :: [])) := by
 let h2 : Value := (.agg (fa K6).toArray)
 let g9 := ((fa K6).toArray : Array Value)
 let b8 := ((a, Ob #[j, (.bool a0.gi)] 100) :: [])
 let a5 : Value := (.pointer (some ⟨a, 0, none⟩))
 have d := ST.mA (dd := true) h0
 refine ji (n := 55) func52 rfl rfl nb (sg (VE (gq d bz (fun W2 b1 d => lr (Wm (bS hm fun o3 k2 hm => ?_))))))
 let h1 : Value := (.pointer (some ⟨b1, 0, none⟩))
 rcases o3 with v1 | J
 ·have o := d.size
  refine jF (.inl rfl) (gW (args := [a5, (.int .i64 9223372036854775807)]) (caps := #[]) _ _ d (Cb (Pb Pz) Cn) rfl call82 (by exact kc rfl rfl) (fun hH F h R => (fG.l (jL a a0 j 9223372036854775807 _ _ ⟨hH, F, h⟩ (d1.mono (Pl.mono _) (fw.refl _)) k2))) (fun W5 u9 ai p2 d u A au => ?_))
  obtain ⟨v4, v6, m4, rfl⟩ := au
  replace d := d.perm (Tb Tn)
  refine gS (iI ?_)
  obtain rfl := sj hm
  exact gj.li ⟨_, _, _, rfl, (d.gA (Kb Sn)), u, A, (ST.fJ d (gm.mem (Kb Sn))), ⟨_, _, m4, rfl⟩⟩
 have o := d.size
 refine VE (eD d (Cb (Pb Pz) Cn) call82 (fun L => (fG.r (jL a a0 j 9223372036854775807 _ _ L (d1.mono (Pl.mono _) (fw.refl _)) k2))) ?_)
 rintro W5 v9 ai p2 d u A ⟨b5, d4, rfl, c8⟩
 let h3 := (#[b5, (.bool ((J.2).gi))] : Array Value)
 obtain rfl := d4.symm
 replace d := d.perm (Tb Tn)
 let f2 := (⟨J.1, K0, zS, K0, K0, zS⟩ : eY)
 refine V (gX (v := (.agg (fa f2).toArray)) (iD rfl) (gr bz bx (xX _ bx) kr)) (VE (gq d bz (fun u6 b4 d => VO (fM (.agg (fa f2).toArray) ((fa f2).toArray) d rfl rfl aA (iH f2) nb rfl (fun u7 d => ln (fC (tE hm (fun o1 E W => ∃ f0 k1, fw ai f0 ∧ Lo (keys b8) w ai f0 ∧ ST true (keys b8) w W f0 ((b4, Ol (fa f2) 35) :: ((a, Obj.cells h3 100 (0, 0)) :: ((b1, Obj.cells g9 35 (0, 0)) :: k1))) ∧ E 0 = a5 ∧ E 2 = h1 ∧ E 3 = (.pointer (some ⟨b4, 0, none⟩))) (fun o1 j5 b7 => ?_) ?_)))))))
 ·refine sg (Wf kM (VB d Mh rfl rfl dn (Wi rfl (Wm (LJ j5 (fun g0 E W => ∃ f4, ST true (keys b8) w W ai ((b4, Ol (fa f2) 35) :: ((a, Obj.cells h3 100 (0, 0)) :: ((b1, Obj.cells g9 35 (0, 0)) :: f4))) ∧ E 0 = a5 ∧ E 2 = h1 ∧ E 3 = (.pointer (some ⟨b4, 0, none⟩)) ∧ E 14 = (.bool g0)) 4 ?_ (fun g0 Z d2 => ?_))))))
  ·rintro s9 E W ⟨f4, d, d3, f6, f7, m1⟩ H
   refine ln (CI H m1 (fun i4 H => ?_) (fun i4 H => ?_))
   ·refine fm (Wh d3 (bS H fun o2 e7 H => ?_))
    rcases o2 with n2 | s0
    ·have o := d.size
     refine jF (.inl rfl) (gW (args := [a5, (.int .i64 11)]) (caps := #[]) _ _ d (Cb (Pb Pz) Cn) rfl cX (by exact kc rfl rfl) (fun hH F h R => (fG.l (fI a J.2 b5 11 _ _ ⟨hH, F, h⟩ (c8.mono (Pl.mono _) (fw.refl _)) e7))) (fun l9 r5 g8 l1 d b2 ah ar => ?_))
     obtain ⟨t7, u5, j4, rfl⟩ := ar
     replace d := d.perm (Tb Tn)
     refine gS (iI ?_)
     obtain rfl := sj H
     replace b7 : some (Sum.inl n2) = some s := b7
     obtain rfl := sj b7
     exact gj.li ⟨_, _, _, rfl, (d.gA (Kb Sn)), (u.trans b2), (A.trans ah), (ST.fJ d (gm.mem (Kb Sn))), ⟨_, _, j4, rfl⟩⟩
    have o := d.size
    refine VE (eD d (Cb (Pb Pz) Cn) cX (fun L => (fG.r (fI a J.2 b5 11 _ _ L (c8.mono (Pl.mono _) (fw.refl _)) e7))) ?_)
    rintro l9 s8 g8 l1 d b2 ah ⟨c7, rfl⟩
    obtain rfl := c7.symm
    replace d := d.perm (Tb Tn)
    refine ln ?_
    obtain rfl := sj H
    exact ⟨_, rfl, g8, _, b2, ah, (d.fc (Sb (Pb Pz) St)), d3, f6, f7⟩
   refine kn ?_
   obtain rfl := sj H
   exact ⟨_, rfl, ai, _, (fw.refl _), Lo.refl, (d.fc St), d3, f6, f7⟩
  refine bC Z (fun G Z => ?_) (fun G Z => ?_)
  ·refine un G (un G (un G (V (fy (cB G) rfl) ?_)))
   obtain rfl := sj Z
   exact d2 _ _ ⟨_, (d.fc St), rfl, rfl, rfl, rfl⟩
  refine ug G (fj kM rfl) (ug G (fh rfl (fF d.has Mh rfl dn)) (ug G (fY rfl rfl rfl) (V (fx (cB G) rfl) ?_)))
  obtain rfl := sj Z
  exact d2 _ _ ⟨_, (d.fc St), rfl, rfl, rfl, rfl⟩
 rintro ⟨⟩ E W ⟨f0, k1, k, q, d, M, d0, I⟩ b9
 refine sg (Wh M (bS b9 fun o0 f8 b9 => ?_))
 rcases o0 with v2 | D
 ·have o := d.size
  refine jF (.inl rfl) (gW (args := [a5]) (caps := #[]) _ _ d (Cb (Pb Pz) Cn) rfl eO (by exact kU rfl) (fun hH F h R => (fG.l (iP a J.2 b5 _ _ ⟨hH, F, h⟩ (c8.mono (Pl.mono _) k) f8))) (fun p4 v0 f1 p3 d t p av => ?_))
  obtain ⟨v5, v7, m5, rfl⟩ := av
  replace d := d.perm (Tb Tn)
  refine gS (iI ?_)
  obtain rfl := sj b9
  exact gj.li ⟨_, _, _, rfl, (d.gA (Kb Sn)), ((u.trans k).trans t), ((A.trans q).trans p), (ST.fJ d (gm.mem (Kb Sn))), ⟨_, _, m5, rfl⟩⟩
 have o := d.size
 refine VE (eD d (Cb (Pb Pz) Cn) eO (fun L => (fG.r (iP a J.2 b5 _ _ L (c8.mono (Pl.mono _) k) f8))) ?_)
 rintro p4 v3 f1 p3 d t p ⟨a1, d5, rfl, K⟩
 obtain rfl := d5.symm
 replace d := d.perm (Tb Tn)
 refine V (fj mB I) ?_
 replace d := d.perm (Nb (Pb Pz) Nz)
 refine VO (fM (.agg (fD D.1).toArray) ((fa (⟨J.1, D.1, zS, K0, K0, zS⟩ : eY)).toArray) d rfl rfl aP (mE D.1) nb rfl (fun u8 d => ln (fC (tE b9 (fun c9 E W => ∃ Q b3 f3, fw f1 b3 ∧ Lo (keys b8) w f1 b3 ∧ ST true (keys b8) w W b3 ((b4, Ol (fa c9.1) 35) :: ((a, Ob #[Q, (.bool c9.2.2)] 100) :: ((b1, Obj.cells g9 35 (0, 0)) :: f3))) ∧ E 0 = a5 ∧ E 2 = h1 ∧ E 3 = (.pointer (some ⟨b4, 0, none⟩)) ∧ Sl (Pl (fl .u8)) 1 b3 Q c9.2.1) (fun c9 g i => ?_) ?_))))
 ·refine sg (V (fj kM I) (VB d Mh rfl rfl dn (ln (bg (Wi rfl (Wa (ln (CI g rfl (fun i0 g => ?_) (fun i0 g => ?_)))))))))
  ·refine fm (Wh M (bS g fun n4 e1 g => ?_))
   rcases n4 with m6 | d6
   ·have o := d.size
    refine jF (.inl rfl) (gW (args := [a5]) (caps := #[]) _ _ d (Cb (Pb Pz) Cn) rfl call84 (by exact kU rfl) (fun hH F h R => (fG.l (jT a D.2 a1 _ _ ⟨hH, F, h⟩ (K.mono (Pl.mono _) (fw.refl _)) e1))) (fun l3 q8 g4 k5 d a7 ad ak => ?_))
    obtain ⟨t1, t9, i6, rfl⟩ := ak
    replace d := d.perm (Tb Tn)
    refine oN (gS (iI ?_))
    obtain rfl := sj g
    replace i : some (Sum.inl m6) = some s := i
    obtain rfl := sj i
    exact gj.li ⟨_, _, _, rfl, (d.gA (Kb Sn)), (((u.trans k).trans t).trans a7), (((A.trans q).trans p).trans ad), (ST.fJ d (gm.mem (Kb Sn))), ⟨_, _, i6, rfl⟩⟩
   have o := d.size
   refine VE (eD d (Cb (Pb Pz) Cn) call84 (fun L => (fG.r (jT a D.2 a1 _ _ L (K.mono (Pl.mono _) (fw.refl _)) e1))) ?_)
   rintro l3 s2 g4 k5 d a7 ad ⟨o4, c1, rfl, j7⟩
   obtain rfl := c1.symm
   replace d := d.perm (Tb Tn)
   refine V (fj nQ I) ?_
   replace d := d.perm (Nb (Pb Pz) Nz)
   refine VO (fM (.string d6.1) ((fa (⟨J.1, D.1, d6.1, K0, K0, zS⟩ : eY)).toArray) d rfl rfl dh (tY d6.1) nb rfl (fun q0 d => fK (gk (fq ?_))))
   obtain rfl := sj g
   exact ⟨_, rfl, o4, g4, _, a7, ad, (d.fc St), M, d0, I, j7⟩
  refine sg (Wi rfl (Wa (ln (CI g rfl (fun i1 g => ?_) (fun i1 g => ?_)))))
  ·refine fm (Wh M (bS g fun n5 e2 g => ?_))
   rcases n5 with m7 | d7
   ·have o := d.size
    refine jF (.inl rfl) (gW (args := [a5]) (caps := #[]) _ _ d (Cb (Pb Pz) Cn) rfl eO (by exact kU rfl) (fun hH F h R => (fG.l (iP a D.2 a1 _ _ ⟨hH, F, h⟩ (K.mono (Pl.mono _) (fw.refl _)) e2))) (fun l4 q9 g5 k6 d a8 ae al => ?_))
    obtain ⟨t2, u0, i7, rfl⟩ := al
    replace d := d.perm (Tb Tn)
    refine oN (gS (iI ?_))
    obtain rfl := sj g
    replace i : some (Sum.inl m7) = some s := i
    obtain rfl := sj i
    exact gj.li ⟨_, _, _, rfl, (d.gA (Kb Sn)), (((u.trans k).trans t).trans a8), (((A.trans q).trans p).trans ae), (ST.fJ d (gm.mem (Kb Sn))), ⟨_, _, i7, rfl⟩⟩
   have o := d.size
   refine VE (eD d (Cb (Pb Pz) Cn) eO (fun L => (fG.r (iP a D.2 a1 _ _ L (K.mono (Pl.mono _) (fw.refl _)) e2))) ?_)
   rintro l4 s3 g5 k6 d a8 ae ⟨o5, c2, rfl, j8⟩
   obtain rfl := c2.symm
   replace d := d.perm (Tb Tn)
   refine V (fj iz I) ?_
   replace d := d.perm (Nb (Pb Pz) Nz)
   refine VO (fM (.agg (fD d7.1).toArray) ((fa (⟨J.1, D.1, zS, d7.1, K0, zS⟩ : eY)).toArray) d rfl rfl aP (mE d7.1) nb rfl (fun q1 d => fK (gk (fq ?_))))
   obtain rfl := sj g
   exact ⟨_, rfl, o5, g5, _, a8, ae, (d.fc St), M, d0, I, j8⟩
  refine sg (Wi rfl (Wa (ln (CI g rfl (fun i2 g => ?_) (fun i2 g => ?_)))))
  ·refine sg (Wh M (bS g fun n7 e3 g => ?_))
   rcases n7 with m8 | a2
   ·have o := d.size
    refine jF (.inl rfl) (gW (args := [a5]) (caps := #[]) _ _ d (Cb (Pb Pz) Cn) rfl eO (by exact kU rfl) (fun hH F h R => (fG.l (iP a D.2 a1 _ _ ⟨hH, F, h⟩ (K.mono (Pl.mono _) (fw.refl _)) e3))) (fun l5 r0 p0 k7 d U O an => ?_))
    obtain ⟨t3, u1, i8, rfl⟩ := an
    replace d := d.perm (Tb Tn)
    refine gS (oN (gS (iI ?_)))
    obtain rfl := sj g
    replace i : some (Sum.inl m8) = some s := i
    obtain rfl := sj i
    exact gj.li ⟨_, _, _, rfl, (d.gA (Kb Sn)), (((u.trans k).trans t).trans U), (((A.trans q).trans p).trans O), (ST.fJ d (gm.mem (Kb Sn))), ⟨_, _, i8, rfl⟩⟩
   have o := d.size
   refine VE (eD d (Cb (Pb Pz) Cn) eO (fun L => (fG.r (iP a D.2 a1 _ _ L (K.mono (Pl.mono _) (fw.refl _)) e3))) ?_)
   rintro l5 s4 p0 k7 d U O ⟨g2, c3, rfl, e8⟩
   obtain rfl := c3.symm
   replace d := d.perm (Tb Tn)
   refine V (fj iz I) ?_
   replace d := d.perm (Nb (Pb Pz) Nz)
   refine VO (fM (.agg (fD a2.1).toArray) ((fa (⟨J.1, D.1, zS, a2.1, K0, zS⟩ : eY)).toArray) d rfl rfl aP (mE a2.1) nb rfl (fun q2 d => ln (fm (Wh M (bS g fun n6 e4 g => ?_)))))
   rcases n6 with m9 | d8
   ·have o := d.size
    refine jF (.inl rfl) (gW (args := [a5]) (caps := #[]) _ _ d (Cb (Pb Pz) Cn) rfl call84 (by exact kU rfl) (fun hH F h R => (fG.l (jT a a2.2 g2 _ _ ⟨hH, F, h⟩ (e8.mono (Pl.mono _) (fw.refl _)) e4))) (fun l6 r1 g6 k8 d a9 af ao => ?_))
    obtain ⟨t4, u2, i9, rfl⟩ := ao
    replace d := d.perm (Tb Tn)
    refine oN (gS (iI ?_))
    obtain rfl := sj g
    replace i : some (Sum.inl m9) = some s := i
    obtain rfl := sj i
    exact gj.li ⟨_, _, _, rfl, (d.gA (Kb Sn)), ((((u.trans k).trans t).trans U).trans a9), ((((A.trans q).trans p).trans O).trans af), (ST.fJ d (gm.mem (Kb Sn))), ⟨_, _, i9, rfl⟩⟩
   have o := d.size
   refine VE (eD d (Cb (Pb Pz) Cn) call84 (fun L => (fG.r (jT a a2.2 g2 _ _ L (e8.mono (Pl.mono _) (fw.refl _)) e4))) ?_)
   rintro l6 s5 g6 k8 d a9 af ⟨o6, c4, rfl, j9⟩
   obtain rfl := c4.symm
   replace d := d.perm (Tb Tn)
   refine V (fj ng I) ?_
   replace d := d.perm (Nb (Pb Pz) Nz)
   refine VO (fM (.string d8.1) ((fa (⟨J.1, D.1, zS, a2.1, K0, d8.1⟩ : eY)).toArray) d rfl rfl dh (tY d8.1) nb rfl (fun q3 d => fK (gk (fq ?_))))
   obtain rfl := sj g
   exact ⟨_, rfl, o6, g6, _, (U.trans a9), (O.trans af), (d.fc St), M, d0, I, j9⟩
  refine sg (Wi rfl (Wa (ln (CI g rfl (fun i3 g => ?_) (fun i3 g => ?_)))))
  ·refine sg (Wh M (bS g fun n9 e5 g => ?_))
   rcases n9 with n0 | a3
   ·have o := d.size
    refine jF (.inl rfl) (gW (args := [a5]) (caps := #[]) _ _ d (Cb (Pb Pz) Cn) rfl eO (by exact kU rfl) (fun hH F h R => (fG.l (iP a D.2 a1 _ _ ⟨hH, F, h⟩ (K.mono (Pl.mono _) (fw.refl _)) e5))) (fun l7 r2 p1 k9 d Y P ap => ?_))
    obtain ⟨t5, u3, j0, rfl⟩ := ap
    replace d := d.perm (Tb Tn)
    refine gS (oN (gS (iI ?_)))
    obtain rfl := sj g
    replace i : some (Sum.inl n0) = some s := i
    obtain rfl := sj i
    exact gj.li ⟨_, _, _, rfl, (d.gA (Kb Sn)), (((u.trans k).trans t).trans Y), (((A.trans q).trans p).trans P), (ST.fJ d (gm.mem (Kb Sn))), ⟨_, _, j0, rfl⟩⟩
   have o := d.size
   refine VE (eD d (Cb (Pb Pz) Cn) eO (fun L => (fG.r (iP a D.2 a1 _ _ L (K.mono (Pl.mono _) (fw.refl _)) e5))) ?_)
   rintro l7 s6 p1 k9 d Y P ⟨g3, c5, rfl, e9⟩
   obtain rfl := c5.symm
   replace d := d.perm (Tb Tn)
   refine V (fj iz I) ?_
   replace d := d.perm (Nb (Pb Pz) Nz)
   refine VO (fM (.agg (fD a3.1).toArray) ((fa (⟨J.1, D.1, zS, a3.1, K0, zS⟩ : eY)).toArray) d rfl rfl aP (mE a3.1) nb rfl (fun q4 d => ln (fm (Wh M (bS g fun n8 e6 g => ?_)))))
   rcases n8 with n1 | d9
   ·have o := d.size
    refine jF (.inl rfl) (gW (args := [a5]) (caps := #[]) _ _ d (Cb (Pb Pz) Cn) rfl eO (by exact kU rfl) (fun hH F h R => (fG.l (iP a a3.2 g3 _ _ ⟨hH, F, h⟩ (e9.mono (Pl.mono _) (fw.refl _)) e6))) (fun l8 r4 g7 l0 d b0 ag aq => ?_))
    obtain ⟨t6, u4, j3, rfl⟩ := aq
    replace d := d.perm (Tb Tn)
    refine oN (gS (iI ?_))
    obtain rfl := sj g
    replace i : some (Sum.inl n1) = some s := i
    obtain rfl := sj i
    exact gj.li ⟨_, _, _, rfl, (d.gA (Kb Sn)), ((((u.trans k).trans t).trans Y).trans b0), ((((A.trans q).trans p).trans P).trans ag), (ST.fJ d (gm.mem (Kb Sn))), ⟨_, _, j3, rfl⟩⟩
   have o := d.size
   refine VE (eD d (Cb (Pb Pz) Cn) eO (fun L => (fG.r (iP a a3.2 g3 _ _ L (e9.mono (Pl.mono _) (fw.refl _)) e6))) ?_)
   rintro l8 s7 g7 l0 d b0 ag ⟨o7, c6, rfl, k0⟩
   obtain rfl := c6.symm
   replace d := d.perm (Tb Tn)
   refine V (fj lu I) ?_
   replace d := d.perm (Nb (Pb Pz) Nz)
   refine VO (fM (.agg (fD d9.1).toArray) ((fa (⟨J.1, D.1, zS, a3.1, d9.1, zS⟩ : eY)).toArray) d rfl rfl aP (mE d9.1) nb rfl (fun q5 d => fK (gk (fq ?_))))
   obtain rfl := sj g
   exact ⟨_, rfl, o7, g7, _, (Y.trans b0), (P.trans ag), (d.fc St), M, d0, I, k0⟩
  refine gp (gk (fq ?_))
  obtain rfl := sj g
  exact ⟨_, rfl, a1, f1, _, (fw.refl _), Lo.refl, (d.fc St), M, d0, I, K⟩
 rintro ⟨N, f9, g1⟩ E W ⟨Q, b3, f3, a6, aa, d, m0, b6, f5, a4⟩ B
 refine fC (sg (V (fh f5 (ft d.has Mh (fa N) rfl aT aA)) (bS B fun r8 j6 B => VE (Eg d call48 (mV N _ _  j6) (fun p7 d => V (jv rfl) (ln (CI B rfl (fun h9 B => ?_) (fun h9 B => ?_))))))))
 ·refine sg (Wh m0 (bS B fun n3 e0 B => ?_))
  rcases n3 with r7 | r9
  ·have o := d.size
   refine jF (.inl rfl) (gW (args := [a5, (.int .i64 11)]) (caps := #[]) _ _ d (Cb (Pb Pz) Cn) rfl cX (by exact kc rfl rfl) (fun hH F h R => (fG.l (fI a (⟨f9, g1⟩ : fp) Q 11 _ _ ⟨hH, F, h⟩ (a4.mono (Pl.mono _) (fw.refl _)) e0))) (fun l2 q7 o9 k4 d T ab aj => ?_))
   obtain ⟨t0, t8, i5, rfl⟩ := aj
   replace d := d.perm (Tb Tn)
   refine gS (gS (iI ?_))
   obtain rfl := sj B
   exact gj.li ⟨_, _, _, rfl, (d.gA (Kb Sn)), ((((u.trans k).trans t).trans a6).trans T), ((((A.trans q).trans p).trans aa).trans ab), (ST.fJ d (gm.mem (Kb Sn))), ⟨_, _, i5, rfl⟩⟩
  have o := d.size
  refine VE (eD d (Cb (Pb Pz) Cn) cX (fun L => (fG.r (fI a (⟨f9, g1⟩ : fp) Q 11 _ _ L (a4.mono (Pl.mono _) (fw.refl _)) e0))) ?_)
  rintro l2 s1 o9 k4 d T ab ⟨c0, rfl⟩
  obtain rfl := c0.symm
  replace d := d.perm (Tb Tn)
  refine ln ?_
  replace d := d.fc (Kb (Db St))
  refine sg (V (gX (v := h2) nZ (gr bz bx (xX _ bx) kr)) ?_)
  replace d := d.perm (Nb (Pb Pz) Nz)
  refine VO (fM h2 ((fa K6).toArray) d b6 rfl aA (iH K6) nb rfl (fun p8 d => lt (fN (lc ?_))))
  obtain rfl := sj B
  exact mZ (v := h2) rfl b6 (ft d.has Mh (fa K6) rfl aT aA) (gj.ri ⟨_, _, _, rfl, (d.gA (Db (Kb Sn))), ((((u.trans k).trans t).trans a6).trans T), ((((A.trans q).trans p).trans aa).trans ab), (ST.fJ d (gm.mem (Db (Kb Sn)))), Q, rfl, rfl, (a4.mono (Pl.mono _) T)⟩)
 refine kg (V (fh f5 (ft d.has Mh (fa N) rfl aT aA)) ?_)
 replace d := d.perm (Nb (Pb (Pb Pz)) Nz)
 refine VO (fM (.agg (fa N).toArray) ((fa N).toArray) d b6 rfl aA (iH N) nb rfl (fun p9 d => ln ?_))
 replace d := d.fc (Kb (Db St))
 refine ga (lc ?_)
 obtain rfl := sj B
 exact mZ (v := (.agg (fa N).toArray)) rfl b6 (ft d.has Mh (fa N) rfl aT aA) (gj.ri ⟨_, _, _, rfl, (d.gA (Db (Kb Sn))), (((u.trans k).trans t).trans a6), (((A.trans q).trans p).trans aa), (ST.fJ d (gm.mem (Db (Kb Sn)))), Q, rfl, rfl, a4⟩)
theorem rV (g : Nat) (Q : fp) (i : Value) (s : (Int ⊕ (fA × fp))) (w : World) {μ0 : fz} (h0 : kV μ0 ((g, Ob #[i, (.bool Q.gi)] 100) :: []) w) (H : Sl (Pl (fl .u8)) 1 μ0 i Q.b) (hm : mT Q = some s) :
  fG true pg0 26 [(.pointer (some ⟨g, 0, none⟩))] w μ0 ((g, Ob #[i, (.bool Q.gi)] 100) :: []) s (fun r v L1 μ1 => ∃ y1 y3, v = (.agg #[(.int .i64 (((r.1).eY).Kind)), (.string ((((r.1).eY).Head).eZ)), (.string ((((r.1).eY).Head).fg)), (.string (((r.1).eY).fu)), (.string ((((r.1).eY).B).eZ)), (.string ((((r.1).eY).B).fg)), (.string ((((r.1).eY).C).eZ)), (.string ((((r.1).eY).C).fg)), (.string (((r.1).eY).fB)), y1]) ∧ L1 = ((g, Ob #[y3, (.bool ((r.2).gi))] 100) :: []) ∧ Sl (Pl (fl .u8)) 1 μ1 y1 ((r.1).Tag) ∧ Sl (Pl (fl .u8)) 1 μ1 y3 ((r.2).b)) (fun x c L1 μ1 => ∃ y z, c = [{ v := mI 125 g x, recovered := false }] ∧ L1 = ((g, Ob #[y, z] 100) :: [])) := by
 let a2 : Value := (.pointer (some ⟨g, 0, none⟩))
 have d := ST.mA (dd := true) h0
 refine ji (n := 18) func26 rfl rfl nb (sg (VE (gq d bA (fun W2 b1 d => lr (Wm (bS hm fun c1 Z hm => ?_))))))
 rcases c1 with d7 | a
 ·have A := d.size
  refine jF (.inl rfl) (gW (args := [a2]) (caps := #[]) _ _ d (Cb (Pb Pz) Cn) rfl call52 (by exact kU rfl) (fun hH E q R => (fG.l (rG g Q i _ _ ⟨hH, E, q⟩ (H.mono (Pl.mono _) (fw.refl _)) Z))) (fun W5 d4 W b3 d t o F => ?_))
  obtain ⟨e3, e7, a7, rfl⟩ := F
  replace d := d.perm (Tb Tn)
  refine gS (iI ?_)
  obtain rfl := sj hm
  exact gj.li ⟨_, _, _, rfl, (d.gA (Kb Sn)), t, o, (ST.fJ d (gm.mem (Kb Sn))), ⟨_, _, a7, rfl⟩⟩
 have A := d.size
 refine VE (eD d (Cb (Pb Pz) Cn) call52 (fun P => (fG.r (rG g Q i _ _ P (H.mono (Pl.mono _) (fw.refl _)) Z))) ?_)
 rintro W5 v9 W b3 d t o ⟨a1, I, rfl, Y⟩
 obtain rfl := I.symm
 replace d := d.perm (Tb Tn)
 refine VE (gq d bz (fun c9 d3 d => VO (fM (.agg (fa a.1).toArray) ((fa a.1).toArray) d rfl rfl aA (iH a.1) nb rfl (fun d0 d => lr (Wm (bS hm fun c0 T hm => ?_))))))
 rcases c0 with d8 | k
 ·have A := d.size
  refine jF (.inl rfl) (gW (args := [a2, (.int .i64 8)]) (caps := #[]) _ _ d (Cb (Pb Pz) Cn) rfl call53 (by exact kc rfl rfl) (fun hH E q R => (fG.l (ku g a.2 a1 8 _ _ ⟨hH, E, q⟩ (Y.mono (Pl.mono _) (fw.refl _)) T))) (fun b6 d5 c4 b4 d j h L => ?_))
  obtain ⟨e5, e8, a8, rfl⟩ := L
  replace d := d.perm (Tb Tn)
  refine gS (iI ?_)
  obtain rfl := sj hm
  exact gj.li ⟨_, _, _, rfl, (d.gA (Kb Sn)), (t.trans j), (o.trans h), (ST.fJ d (gm.mem (Kb Sn))), ⟨_, _, a8, rfl⟩⟩
 have A := d.size
 refine VE (eD d (Cb (Pb Pz) Cn) call53 (fun P => (fG.r (ku g a.2 a1 8 _ _ P (Y.mono (Pl.mono _) (fw.refl _)) T))) ?_)
 rintro b6 e1 c4 b4 d j h ⟨e4, N, J, rfl, M, G⟩
 obtain rfl := J.symm
 replace d := d.perm (Tb Tn)
 refine Wa (lS (Wm (V (gv az rfl M) (Wi rfl (ln (CI hm rfl (fun a6 hm => ?_) (fun a6 hm => ?_)))))))
 ·refine sg (Wm (bS hm fun b9 U hm => ?_))
  rcases b9 with d9 | e0
  ·have A := d.size
   refine jF (.inl rfl) (gW (args := [a2, (.int .i64 11)]) (caps := #[]) _ _ d (Cb Pz Cn) rfl cX (by exact kc rfl rfl) (fun hH E q R => (fG.l (fI g k.2 N 11 _ _ ⟨hH, E, q⟩ (G.mono (Pl.mono _) (fw.refl _)) U))) (fun b7 d6 c5 b5 d u p O => ?_))
   obtain ⟨e6, e9, a9, rfl⟩ := O
   replace d := d.perm (Tb Tn)
   refine gS (gS (iI ?_))
   obtain rfl := sj hm
   exact gj.li ⟨_, _, _, rfl, (d.gA (Kb Sn)), ((t.trans j).trans u), ((o.trans h).trans p), (ST.fJ d (gm.mem (Kb Sn))), ⟨_, _, a9, rfl⟩⟩
  have A := d.size
  refine VE (eD d (Cb Pz Cn) cX (fun P => (fG.r (fI g k.2 N 11 _ _ P (G.mono (Pl.mono _) (fw.refl _)) U))) ?_)
  rintro b7 e2 c5 b5 d u p ⟨K, rfl⟩
  obtain rfl := K.symm
  replace d := d.perm (Tb Tn)
  refine ln ?_
  replace d := d.fc (Kb (Db St))
  refine sg (V (gX (v := (.agg C2.toArray)) nZ (gr bA bt (rr _ bt) kr)) ?_)
  replace d := d.perm (Nb (Pb Pz) Nz)
  refine VO (fM (.agg C2.toArray) (C2.toArray) d rfl rfl bh oc nb rfl (fun d1 d => lt (fN (lc ?_))))
  obtain rfl := sj hm
  exact mZ (v := (.agg C2.toArray)) rfl rfl (ft d.has Mh C2 rfl cy bh) (gj.ri ⟨_, _, _, rfl, (d.gA (Db (Kb Sn))), ((t.trans j).trans u), ((o.trans h).trans p), (ST.fJ d (gm.mem (Db (Kb Sn)))), (.slice none 0 0), N, rfl, rfl, (Sl.nil _ _ _), (G.mono (Pl.mono _) u)⟩)
 refine kg (VA d (Mt Mh) (fa a.1) aT aA (Wm ?_))
 obtain ⟨B, D, rfl⟩ := M.form
 let a0 := (C1 a.1.Kind a.1.Head.eZ a.1.Head.fg a.1.fu a.1.B.eZ a.1.B.fg a.1.C.eZ a.1.C.fg a.1.fB B k.1.length D)
 refine V (gX (v := (.agg a0.toArray)) (lU rfl rfl) (gr bA bt (rr _ bt) kr)) ?_
 replace d := d.perm (Nb (Pb (Pb Pz)) Nz)
 refine VO (fM (.agg a0.toArray) (a0.toArray) d rfl rfl bh oc nb rfl (fun d2 d => ln ?_))
 replace d := d.fc (Kb (Kb (Db St)))
 refine ga (lc ?_)
 obtain rfl := sj hm
 exact mZ (v := (.agg a0.toArray)) rfl rfl (ft d.has Mh a0 rfl cy bh) (gj.ri ⟨_, _, _, rfl, (d.gA (Db (Kb Sn))), (t.trans j), (o.trans h), (ST.fJ d (gm.mem (Db (Kb Sn)))), (.slice B k.1.length D), N, rfl, rfl, M, G⟩)
theorem rF (i : Nat) (G : fp) (k : Value) (t : Nat) (a : fA) (j : Value) (s : (Int ⊕ (fp × fA))) (w : World) {K : fz} (R : kV K ((i, Ob #[k, (.bool G.gi)] 100) :: ((t, Ob #[(.int .i64 a.eY.Kind), (.string a.eY.Head.eZ), (.string a.eY.Head.fg), (.string a.eY.fu), (.string a.eY.B.eZ), (.string a.eY.B.fg), (.string a.eY.C.eZ), (.string a.eY.C.fg), (.string a.eY.fB), j] 38) :: [])) w) (u : Sl (Pl (fl .u8)) 1 K k G.b) (Q : Sl (Pl (fl .u8)) 1 K j a.Tag) (hm : oT G a = some s) :
  fG true pg0 29 [(.pointer (some ⟨i, 0, none⟩)), (.pointer (some ⟨t, 0, none⟩))] w K ((i, Ob #[k, (.bool G.gi)] 100) :: ((t, Ob #[(.int .i64 a.eY.Kind), (.string a.eY.Head.eZ), (.string a.eY.Head.fg), (.string a.eY.fu), (.string a.eY.B.eZ), (.string a.eY.B.fg), (.string a.eY.C.eZ), (.string a.eY.C.fg), (.string a.eY.fB), j] 38) :: [])) s (fun r v N Y => ∃ L O, v = (.tuple #[]) ∧ N = ((i, Ob #[L, (.bool ((r.1).gi))] 100) :: ((t, Ob #[(.int .i64 (((r.2).eY).Kind)), (.string ((((r.2).eY).Head).eZ)), (.string ((((r.2).eY).Head).fg)), (.string (((r.2).eY).fu)), (.string ((((r.2).eY).B).eZ)), (.string ((((r.2).eY).B).fg)), (.string ((((r.2).eY).C).eZ)), (.string ((((r.2).eY).C).fg)), (.string (((r.2).eY).fB)), O] 38) :: [])) ∧ Sl (Pl (fl .u8)) 1 Y L ((r.1).b) ∧ Sl (Pl (fl .u8)) 1 Y O ((r.2).Tag)) (fun x c N Y => ∃ y z, c = [{ v := mI 125 i x, recovered := false }] ∧ N = ((i, Ob #[y, z] 100) :: ((t, Ob #[(.int .i64 a.eY.Kind), (.string a.eY.Head.eZ), (.string a.eY.Head.fg), (.string a.eY.fu), (.string a.eY.B.eZ), (.string a.eY.B.fg), (.string a.eY.C.eZ), (.string a.eY.C.fg), (.string a.eY.fB), j] 38) :: []))) := by
 have d := ST.mA (dd := true) R
 refine ji (n := 5) func29 rfl rfl nb (fm (Wm (bS hm fun P M hm => ?_)))
 rcases P with b1 | g
 ·have E := d.size
  refine jF (.inl rfl) (gW (args := [(.pointer (some ⟨i, 0, none⟩))]) (caps := #[]) _ _ d (Cb Pz Cn) rfl call26 (by exact kU rfl) (fun hH q o A => (fG.l (rV i G k _ _ ⟨hH, q, o⟩ (u.mono (Pl.mono _) (fw.refl _)) M))) (fun W3 W F L9 d B h p => ?_))
  obtain ⟨b3, b4, T, rfl⟩ := p
  replace d := d.perm (Tb Tn)
  refine iI ?_
  obtain rfl := sj hm
  exact gj.li ⟨_, _, _, rfl, (d.gA (Kb (Kb Sn))), B, h, (ST.fJ d (gm.mem (Kb (Kb Sn)))), ⟨_, _, T, rfl⟩⟩
 have E := d.size
 refine VE (vC d (Cb Pz Cn) call26 (fun hH q o A => (fG.r (rV i G k _ _ ⟨hH, q, o⟩ (u.mono (Pl.mono _) (fw.refl _)) M))) (fun W3 v7 F L9 d B h Z => ?_))
 obtain ⟨b2, a3, D, rfl, J, U⟩ := Z
 replace D := D.symm; subst D
 replace d := d.perm (Tb Tn)
 obtain ⟨H, I, rfl⟩ := J.form
 let a0 : Value := (.slice H ((g.1).Tag).length I)
 replace d := d.perm (Nb (Pb Pz) Nz)
 let a2 := (((g.1).eY).Head)
 refine VO (fM (.agg #[(.int .i64 (((g.1).eY).Kind)), (.string (a2.eZ)), (.string (a2.fg)), (.string (((g.1).eY).fu)), (.string ((((g.1).eY).B).eZ)), (.string ((((g.1).eY).B).fg)), (.string ((((g.1).eY).C).eZ)), (.string ((((g.1).eY).C).fg)), (.string (((g.1).eY).fB)), a0]) (#[(.int .i64 (((g.1).eY).Kind)), (.string (a2.eZ)), (.string (a2.fg)), (.string (((g.1).eY).fu)), (.string ((((g.1).eY).B).eZ)), (.string ((((g.1).eY).B).fg)), (.string ((((g.1).eY).C).eZ)), (.string ((((g.1).eY).C).fg)), (.string (((g.1).eY).fB)), a0]) d rfl rfl bh oc nb rfl (fun a9 d => fK (xo (za ?_))))
 obtain rfl := sj hm
 exact yR rfl (gj.ri ⟨_, _, _, rfl, (d.gA (Sb (Pb Pz) (Kb Sn))), B, h, (ST.fJ d (gm.mem (Sb (Pb Pz) (Kb Sn)))), a3, a0, rfl, rfl, U, J⟩)
theorem pM (u : Value) (H : List Int) (i : Nat) (a : fA) (g : Value) (r : (Int × fA)) (w : World) {G : fz} (D : kV G ((i, Ob #[(.int .i64 a.eY.Kind), (.string a.eY.Head.eZ), (.string a.eY.Head.fg), (.string a.eY.fu), (.string a.eY.B.eZ), (.string a.eY.B.fg), (.string a.eY.C.eZ), (.string a.eY.C.fg), (.string a.eY.fB), g] 38) :: []) w) (I : Sl (Pl (fl .u8)) 1 G u H) (j : Sl (Pl (fl .u8)) 1 G g a.Tag) (hm : kZ H a = some r) :
  gY true pg0 24 [u, (.func (.func 29) #[] #[(.pointer (some ⟨i, 0, none⟩))])] w G ((i, Ob #[(.int .i64 a.eY.Kind), (.string a.eY.Head.eZ), (.string a.eY.Head.fg), (.string a.eY.fu), (.string a.eY.B.eZ), (.string a.eY.B.fg), (.string a.eY.C.eZ), (.string a.eY.C.fg), (.string a.eY.fB), g] 38) :: []) (fun v t B => ∃ k, v = (.int .i64 (r.1)) ∧ t = ((i, Ob #[(.int .i64 (((r.2).eY).Kind)), (.string ((((r.2).eY).Head).eZ)), (.string ((((r.2).eY).Head).fg)), (.string (((r.2).eY).fu)), (.string ((((r.2).eY).B).eZ)), (.string ((((r.2).eY).B).fg)), (.string ((((r.2).eY).C).eZ)), (.string ((((r.2).eY).C).fg)), (.string (((r.2).eY).fB)), k] 38) :: []) ∧ Sl (Pl (fl .u8)) 1 B k ((r.2).Tag)) := by
 refine bS hm fun l h hm => bS hm fun s n hm => ?_
 obtain rfl := sj hm
 refine gY.mono (wv 29 #[(.pointer (some ⟨i, 0, none⟩))] u H l s (fun r => (r.1).b) w D I h (fun r t B => ∃ k, t = ((i, Ob #[(.int .i64 (((r.2).eY).Kind)), (.string ((((r.2).eY).Head).eZ)), (.string ((((r.2).eY).Head).fg)), (.string (((r.2).eY).fu)), (.string ((((r.2).eY).B).eZ)), (.string ((((r.2).eY).B).fg)), (.string ((((r.2).eY).C).eZ)), (.string ((((r.2).eY).C).fg)), (.string (((r.2).eY).fB)), k] 38) :: []) ∧ Sl (Pl (fl .u8)) 1 B k ((r.2).Tag)) (fun x t B => t = ((i, Ob #[(.int .i64 a.eY.Kind), (.string a.eY.Head.eZ), (.string a.eY.Head.fg), (.string a.eY.fu), (.string a.eY.B.eZ), (.string a.eY.B.fg), (.string a.eY.C.eZ), (.string a.eY.C.fg), (.string a.eY.fB), g] 38) :: [])) call29 (fun L μ' F o K hle q => fG.mono (rF F (⟨l, false⟩ : fp) o i a g s L K q (j.mono (Pl.mono _) hle) n) ?_ ?_)) ?_
 ·rintro r v t B ⟨O, k, M, d, J, D⟩; exact ⟨_, _, _, d, J, k, rfl, D⟩
 ·rintro x c t B ⟨y, z, A, d⟩; exact ⟨y, z, _, A, d, rfl⟩
 rintro v t B E ⟨rfl, p⟩
 cases s with
 | inl x => exact ⟨g, rfl, p, (j.mono (Pl.mono _) E)⟩
 | inr r => obtain ⟨k, d, D⟩ := p; exact ⟨k, rfl, d, D⟩
theorem uV (a : Value) (j : List Int) (c : Value) (k : List Int) (r : Bool) (w : World) (g : Sl (Pl (fl .u8)) 1 (hp w) a j) (i : Sl (Pl (fl .u8)) 1 (hp w) c k) (hm : nA j k = some r) :
  fQ true pg0 60 [a, c] w (.bool r) := by
 refine cG 10 func60 rfl (fun d => sg (Wa (lr (Wm (V (kA az aY aH rfl (g.mono (Pl.mono _) d.fH)) (Wm (V (kA az aY aH rfl (i.mono (Pl.mono _) d.fH)) (V (jb rfl rfl rfl) (Wa (fK ?_))))))))))
 exact fq (ga (rQ hm d))
theorem yf (g : Value) (y : List Int) (i : Value) (D : List Int) (j : Value) (G : List Int) (r : Bool) (w : World) (u : Sl (Pl (fl .u8)) 1 (hp w) g y) (I : Sl (Pl (fl .u8)) 1 (hp w) i D) (J : Sl (Pl (fl .u8)) 1 (hp w) j G) (hm : nk y D G = some r) :
  fQ true pg0 35 [g, i, j] w (.bool r) := by
 refine cG 16 func35 rfl (fun d => sg (Wa (lr (Wm (bS hm fun v T hm => VE (Eg d call59 (sC g y _ _ (u.mono (Pl.mono _) d.fH) T) (fun W3 d => Wm (LJ hm (fun B E W => ∃ x z, fw (hp w) x ∧ ST true fO w W x z ∧ E 6 = (.bool false) ∧ E 15 = (.bool B)) 6 ?_ (fun B c t => ?_)))))))))
 ·rintro a9 E W ⟨x, z, a3, d, q, Q⟩ K
  exact Wg Q (lt (rQ K d))
 refine bC c (fun a c => ?_) (fun a c => ?_)
 ·refine ug a (fi rfl) (ug a (fi rfl) (bS c fun U M c => me a (mg d call40 (tg g y i D _ _ (u.mono (Pl.mono _) d.fH) (I.mono (Pl.mono _) d.fH) M) (fun a5 Y Z a4 d k h H => ug a (fi rfl) (bS c fun s N c => me a (Eg d call60 (uV Y U j G _ _ (H.sl (fun _ => rfl) (fun b o n => d.at_ (Ml n))) (J.mono (Pl.mono _) (k.trans d.fH)) N) (fun p d => V (fy (cB a) rfl) ?_)))))))
  obtain rfl := sj c
  exact t _ _ ⟨Z, _, k, (d.fc (Dr St)), rfl, rfl⟩
 refine un a (un a (un a (un a (un a (V (fx (cB a) rfl) ?_)))))
 obtain rfl := sj c
 exact t _ _ ⟨(hp w), _, (fw.refl _), (d.fc St), rfl, rfl⟩
theorem ja (y : Value) (N : Option fW) (c : fA) (t : Value) (r : Int) (w : World) (Z : lI gn (hp w) y N) (k : Sl (Pl (fl .u8)) 1 (hp w) t c.Tag) (hm : gd N c = some r) :
  fQ true pg0 9 [y, (.agg #[(.int .i64 c.eY.Kind), (.string c.eY.Head.eZ), (.string c.eY.Head.fg), (.string c.eY.fu), (.string c.eY.B.eZ), (.string c.eY.B.fg), (.string c.eY.C.eZ), (.string c.eY.C.fg), (.string c.eY.fB), t])] w (.int .i64 r) := by
 refine cG 27 func9 rfl (fun h => sg ?_)
 obtain ⟨M, Q, rfl⟩ := k.form
 refine VE (hZ h rfl (fun W4 L h => Wa (lr (Wm (Wf lY (VA h Mh (fa c.eY) aT aA (bS hm fun v F hm => ?_)))))))
 refine VE (eD h (bW _) call34 (fun O => (oQ y N c.eY _ _ O (Z.mono gx (fw.refl _)) F)) ?_ (L0 := []))
 rintro _ c0 n b9 h a2 s ⟨a9, x, rfl, a3⟩
 obtain rfl := x.symm
 refine Wm (Wx rfl (Wx rfl (Wa (Wa (ln (fC (fC ?_)))))))
 replace h := h.drew
 have d := h.has.fc (Kb Sn)
 refine gy d gl (X 0 rfl d (fi rfl) (X 1 rfl d (fY rfl rfl rfl) (X 2 rfl d (fi rfl) (PJ hm (fun G E W => ∃ z B, fw n z ∧ ST true fO w W z ((L, Ol (C1 c.eY.Kind c.eY.Head.eZ c.eY.Head.fg c.eY.fu c.eY.B.eZ c.eY.B.fg c.eY.C.eZ c.eY.C.fg c.eY.fB M c.Tag.length Q) 38) :: B) ∧ E 6 = (.int .i64 v.2) ∧ E 25 = (.bool G)) (bm 12 4095) 0 ?_ (fun G g u => ?_)))))
 ·rintro b7 E W ⟨z, B, D, h, T, U⟩ j
  refine iq kr (fq ?_)
  replace h := h.fc (Db St)
  refine CI j U (fun I j => ?_) (fun I j => ?_)
  ·refine sg (Wa (lt (fN ?_)))
   obtain rfl := sj j
   exact rP h
  exact kg (Wh T (Wa (lt (rQ j h))))
 refine bC g (fun a g => ?_) (fun a g => ?_)
 ·refine Xg 3 rfl rfl (cB a) d (fi rfl) (Xg 4 rfl rfl (cB a) d (fj lY rfl) (pS 5 rfl rfl (cB a) d (fun _ p => fh rfl (ft p Mh (fa c.eY) rfl aT aA)) (Xg 7 rfl rfl (cB a) d (fj oW rfl) (pS 8 rfl rfl (cB a) d (fun _ p => fh rfl (fF p Mh rfl bT)) (bS g fun a4 J g => rf 6 rfl rfl (cB a) (mg h call36 (nc c.eY _ _  J) (fun Y a5 A R h i q H => ?_)))))))
  have d := h.has.oZ i (Dr (Kb Sn))
  refine ⟨d, (bS g fun b6 K g => rf 9 rfl rfl (cB a) (Eg h call35 (yf a9 v.1 a5 a4 (.slice M c.Tag.length Q) c.Tag _ _ (a3.mono (Pl.mono _) (i.trans h.fH)) (H.sl (fun _ => rfl) (fun b o P => h.at_ (Ml P))) (k.mono (Pl.mono _) ((a2.trans i).trans h.fH)) K) (fun b4 h => ?_)))⟩
  have d := h.has.oZ i (Dr (Kb Sn))
  refine ⟨d, (Xg 10 rfl rfl (cB a) d (jv rfl) (X 11 rfl d (fy (cB a) rfl) ?_))⟩
  obtain rfl := sj g
  refine ju kr (u _ _ ⟨A, _, i, (h.fc (Dr St)), rfl, rfl⟩)
 refine Xn 3 rfl rfl (cB a) d (Xn 4 rfl rfl (cB a) d (Xn 5 rfl rfl (cB a) d (Xn 6 rfl rfl (cB a) d (Xn 7 rfl rfl (cB a) d (Xn 8 rfl rfl (cB a) d (Xn 9 rfl rfl (cB a) d (Xn 10 rfl rfl (cB a) d (X 11 rfl d (fx (cB a) rfl) ?_))))))))
 obtain rfl := sj g
 refine ju kr (u _ _ ⟨n, _, (fw.refl _), (h.fc St), rfl, rfl⟩)
theorem mc (a : Value) (g : List (ByteArray × (List Int))) (r : Unit) (w : World) (c : jU Value.string (fL 5 (fl .u8) 1) (hp w) a g) (hm : ia g = some r) :
  gN true pg0 38 [a] w [] (fun v k W' => ∃ i, v = (.func (.func 66) #[] #[(.pointer (some ⟨i, 0, none⟩))]) ∧ k = ((i, Ob #[a] 74) :: [])) := by
 refine qM 4 func38 rfl (fun d => sg ?_)
 obtain ⟨t, rfl⟩ := c.form
 refine VE (hZ d rfl (fun u j d => Wa (lr (V (sH (by exact kU rfl) rfl) (Wa (lt ?_))))))
 obtain rfl := sj hm
 exact gb (v := (.func (.func 66) #[] #[(.pointer (some ⟨j, 0, none⟩))])) rfl rfl ⟨_, _, rfl, (d.CH (Kb Sn)), j, rfl, rfl⟩
theorem uT {β : Type} {vf : β → Value} {l : List (ByteArray × β)} {b : Nat} {a : Value} {W : World} {r : List ByteArray} (c : W.heap[b]? = some (.cells #[a] 74 (0, 0))) (hm : mJ Value.string vf (hp W) a l) (hk : oF l = some r) : gw false pg0 37 [.func (.func 66) #[] #[.pointer (some ⟨b, 0, none⟩)]] W 9 jt 1 r := wu (P := pg0) A8 Bn BT rfl aH call66 call65 c hm hk
theorem ud {γ : Type} {Q : Value → γ → List (Nat × Obj) → Prop} {l : List (ByteArray × γ)} {b : Nat} {a : Value} {W : World} {r : List ByteArray} (g : W.heap[b]? = some (.cells #[a] 74 (0, 0))) (hm : jU Value.string Q (hp W) a l) (hk : oF l = some r) : gw false pg0 37 [.func (.func 66) #[] #[.pointer (some ⟨b, 0, none⟩)]] W 9 jt 1 r := by
 obtain ⟨h, c, d⟩ := hm.Cs
 exact uT g d ((yG c).trans hk)
theorem lP (i : Value) (D : Option fW) (r : List ByteArray) (w : World) (g : lI gn (hp w) i D) (hm : gH D = some r) :
  gw false pg0 10 [i] w 9 jt 1 r := by
 refine qM 11 func10 rfl (fun d => sg (Wa (lS (Wm (V (qT underlying26 g rfl rfl) (ln (CI hm rfl (fun G hm => ?_) (fun G hm => ?_))))))))
 ·refine sg (Wa (lt (fN ?_)))
  obtain rfl := sj hm
  exact gb (v := (.slice none 0 0)) rfl rfl ⟨_, [], rfl, d.iY (fun p h => by cases h) (by simp), fL.nil _ _ _⟩
 refine kg (Wm (bS hm fun N J hm => VQ (re gn.out g J rfl) (fun E ⟨_, ⟨z, rfl, k⟩, H⟩ => VQ (qg [z] tH rfl H rfl) (fun F I => V (fh rfl (ki d.has (y := z) I isAgg74)) (bS hm fun Z u hm => ?_)))))
 refine VE (Ao d (bW _) call38 (fun _ _ _ _ => gN.gM (mc z N.m _ _ (k.mono d.fH) u)) (fun T a2 a3 Q d j q n t => ?_) (L0 := []))
 obtain ⟨Y, a, rfl⟩ := t
 replace a := a.symm; subst a
 replace d := d.perm (Tb Tn)
 refine bS hm fun A x hm => VE (mg d call37 (ud (d.has.2 _ _ Mh) (k.mono (fun b o h => d.has.1 b o (j b o h))) x) (fun U K a4 B d M s c => Wa (ln ?_)))
 replace d := d.fc (Kr (Db St))
 refine ga ?_
 obtain rfl := sj hm
 exact gb (v := K) rfl rfl ⟨_, B, rfl, d.iY (fun p h => (Ml h)) c.nd, c⟩
theorem rq (g : Value) (i r : List eY) (w : World) (a : Sl (Pl fa) 9 (hp w) g i) (hm : jw i = some r) :
  gw true pg0 68 [g] w 35 fa 9 r := by
 unfold jw at hm
 refine qM 8 func68 rfl (fun d => sg (Wa (lS (Wm ?_))))
 obtain ⟨y, B, rfl⟩ := a.form
 refine V (uy aD rfl rfl) (ln ?_)
 rcases y with _ | z
 ·have u := a.isNil
  replace hm : some [] = some r := by rw [u] at hm; simpa [kY, maxLen] using hm
  refine pj (rfl) (sg (Wa (lt (fN ?_))))
  obtain rfl := sj hm
  exact gb (v := (.slice none 0 0)) rfl rfl ⟨_, [], rfl, d.iY (fun p h => by cases h) (by simp), fL.nil _ _ _⟩
 ·refine ky (rfl) (kg (VE (fS (cs := #[]) d nZ (mF [] aD aA bz dc rfl (by simp) rfl rfl) (fun G k d => Wm (bS hm fun H t hm => VE (kI (enc := fa) (v := (.slice (some ⟨k, 0, none⟩) 0 0)) (vs := (.slice (some z) i.length B)) (R := [(k, Ob #[] 35)]) d gD dc iH aD kk.1 kk.2.1 rfl kk.2.2.1 kk.2.2.2 rfl rfl (fL.lit (l := []) (enc := fa) rfl dc rfl rfl) (a.mono (Pl.mono _) d.fH) t (fun D x j d c => Wa (lt ?_))))))))
  obtain rfl := sj hm
  exact gb (v := x) rfl rfl ⟨_, j, rfl, d.iY (fun p h => (Ml h)) c.nd, c⟩
theorem pN (g : Value) (t : List eY) (j : Value) (B : eY → Option Bool) (r : Int) (w : World) (c : Sl (Pl fa) 9 (hp w) g t) (D : ry pg0 j (hp w) (fun (x : eY) => [(.agg (fa x).toArray)]) (fun (r : Bool) => (.bool r)) B) (hm : kX t B = some r) :
  fQ false pg0 93 [g, j] w (.int .i64 r) := by
 refine cG 19 func93 rfl (fun d => sg (Wa (lS (Wm (V (gv aD rfl c) (Wm (ln (gP (fun i E W => ∃ k, (E 8 = .int .i64 (i : Nat) ∧ E 7 = .int .i64 (t.length : Nat)) ∧ ST false fO w W (hp w) k ∧ E 0 = g ∧ E 1 = j ∧ iv B (t.drop i) i = some r) t.length c.len ⟨_, ⟨rfl, rfl⟩, (d.fc St), rfl, rfl, hm⟩ dc dc dc (fun _ _ _ h => by obtain ⟨_, o, _⟩ := h; exact o) ?_ ?_))))))))
 ·rintro Q E W H ⟨k, ⟨n, p⟩, d, u, y, a⟩
  obtain ⟨z, T, M, K, N⟩ := gC H
  rw [M] at a
  refine bg (Wh n (Wa (lr (Wh y (Wh u (Wm (VQ (kf (enc := fa) (i := (Q : Int)) (x0 := z) aD aA rfl rfl c (aQ _) K) (fun Y I => V (fh rfl (iX d.has I aT aA)) (bS a fun Z J a => ?_)))))))))
  refine VE (BD z d D (fw.refl _) rfl (kU rfl) J (fun U d => ln (CI a rfl (fun G a => ?_) (fun G a => ?_))))
  ·refine sg (Wm (Wa (lt (gU (fN (gU (fN ?_)))))))
   obtain rfl := sj a
   exact rP d
  exact gp (gk (fq ⟨n, _, ⟨rfl, p⟩, (d.fc St), u, y, (by rw [N]; exact a)⟩))
 rintro E W ⟨k, ⟨n, p⟩, d, u, y, a⟩
 rw [aU] at a
 exact fq (sg (Wa (lt (rQ a d))))
theorem pG (j : Value) (a0 : List eY) (t : LO) (H : Value) (f1 : eY → Option Bool) (r : List eY) (w : World) {μ0 : fz} (h0 : kV μ0 (t ++ []) w) (T : fL 35 fa 9 j a0 t) (a4 : ry pg0 H μ0 (fun (x : eY) => [(.agg (fa x).toArray)]) (fun (r : Bool) => (.bool r)) f1) (hm : jk a0 f1 = some r) :
  gN false pg0 67 [j, H] w (t ++ []) (fun v L1 W' => ∃ s S2, v = s ∧ L1 = (S2 ++ []) ∧ fL 35 fa 9 s r S2) := by
 refine uz h0 42 func67 rfl (fun d => sg (Wa (lr (Wm (Wm (bS hm fun q d3 hm => VE (Eg d call93 (pN j a0 H f1 _ _ (T.sl gD (fun b o h => d.at_ (Ml h))) (a4.mono d.fH) d3) (fun W3 d => Wa (ln ?_)))))))))
 refine fC (sg (Wm (Wi rfl (ln (CI hm rfl (fun d2 hm => ?_) (fun d2 hm => ?_))))))
 ·refine sg (Wm (Wa (lt (fN ?_))))
  obtain rfl := sj hm
  exact gb (v := j) rfl rfl ⟨_, _, rfl, (d.gA (Kr Sn)), j, t, rfl, rfl, T⟩
 refine kS (Wm (Wi rfl (Wa (ln (iM (lm (fun m E W => ∃ U I B D a2, ST false (keys (t ++ [])) w W μ0 (I ++ a2) ∧ E 0 = j ∧ E 1 = H ∧ E 5 = (.int .i64 B) ∧ E 6 = (.int .i64 D) ∧ fL 35 fa 9 j U I ∧ gG f1 m U B D = some r) ib ⟨a0, t, q, (wi0 .i64 (q + 1)), _, (d.fc St), rfl, rfl, rfl, rfl, T, hm⟩ ?_))))))
 rintro m E W ⟨U, I, B, D, a2, d, y, Q, G, K, g, a⟩
 cases m with
 | zero => rw [gG] at a; cases a
 | succ c8 =>
  refine fC (sg (Wh K (Wh y (V (ke aD rfl g) (Wi rfl (ln (CI a rfl (fun F a => ?_) (fun F a => ?_))))))))
  ·refine kn (fC (CJ a (fun Y E W => ∃ J a3, ST false (keys (t ++ [])) w W μ0 (J ++ a3) ∧ E 0 = j ∧ E 1 = H ∧ E 5 = (.int .i64 Y.2) ∧ E 6 = (.int .i64 D) ∧ fL 35 fa 9 j Y.1 J) (fun Y c => ?_) ?_))
   ·refine bg (Wh y (Wh K (bS c fun k M c => VQ (lE (i := D) (x0 := k) aD aA rfl rfl g (iA M) (gK M)) (fun e4 P => V (fh rfl (nF d.has (fun p h => (Ml h)) g gD P (gK M) aT aA)) (VE (gq d bz (fun d7 e2 d => VO (fM (.agg (fa k).toArray) ((fa k).toArray) d rfl rfl aA (iH k) nb rfl (fun d8 d => lr (Wh Q ?_))))))))))
    refine VA d Mh (fa k) aT aA (bS c fun e6 b5 c => VE (BD k d a4 (fw.refl _) rfl (kU rfl) b5 (fun d9 d => V (jv rfl) (ln (CI c rfl (fun L c => ?_) (fun L c => ?_))))))
    ·refine sg (Wh y (Wh G (VA d Mh (fa k) aT aA (bS c fun d0 N c => VQ (lE (i := B) (x0 := d0) aD aA rfl rfl g (iA N) (gK N)) (fun e5 R => ?_)))))
     replace d := d.perm (Nr (Qb Qz) Nz)
     refine VO (qQ (u := (.agg (fa k).toArray)) (x1 := k)  d g gD iH rfl rfl rfl R (gK N) aA (fun e0 c1 d A => ln ?_))
     replace d := d.fc (Kr (Db St))
     refine fm (Wh G (Wi rfl (Wa (fK (gk (fq ?_))))))
     obtain rfl := sj c
     exact ⟨c1, _, (d.fc St), y, Q, rfl, K, A⟩
    refine gp (gk (fq ?_))
    obtain rfl := sj c
    exact ⟨I, _, (d.fc (Db St)), y, Q, G, K, g⟩
   rintro ⟨c7, c9⟩ E W ⟨J, a3, d, c3, c4, c5, c6, b6⟩ O
   exact fm (Wh c6 (Wi rfl (Wa (ln ⟨c8, bE _, c7, J, c9, (wi0 .i64 (D + 1)), _, (d.fc St), c3, c4, c5, rfl, b6, O⟩))))
  refine mC (lW (lW (qm (fq (sg (Wh y (Wh G (bS a fun _ Z a => VQ (qp (i := B) aD aA rfl rfl g (pp Z) (pn Z)) (fun e7 b7 => VO (sI (z := K6)  d g gD iH aD bz b7 rfl rfl (fun e1 c2 d a9 => lr (Wh y ?_))))))))))))
  refine Wh G (bS a fun _ n a => VQ (uE (i := B) aD aA rfl rfl a9 gD (pp n) (pn n)) (fun a5 b9 => Wa (lt ?_)))
  obtain rfl := sj a
  exact gb (v := a5) rfl rfl ⟨_, _, rfl, (d.gA (Kr Sn)), a5, c2, rfl, rfl, b9⟩
theorem uQ (a : eY) (r : Bool) (w : World) (hm : nB a = some r) :
  fQ true pg0 69 [(.agg (fa a).toArray)] w (.bool r) := by
 refine cG 6 func69 rfl (fun d => sg (VE (hZ d rfl (fun g j d => Wa (lr (VA d Mh (fa a) aT aA (bS hm fun k c hm => VE (Eg d call48 (mV a _ _  c) (fun i d => V (jv rfl) (Wa (fK ?_)))))))))))
 refine fq ?_
 exact ga (rQ hm d)
theorem yj (c : Value) (k : List eY) (a : LO) (g : Value) (t : (eY × eY) → Option Int) (r : List eY) (w : World) {y : fz} (u : kV y (a ++ []) w) (i : fL 35 fa 9 c k a) (j : vv pg0 g y (fun (x : (eY × eY)) => [(.agg (fa x.1).toArray), (.agg (fa x.2).toArray)]) (fun (r : Int) => (.int .i64 r)) t) (hm : pR t k = some r) :
  gN true pg0 70 [c, g] w (a ++ []) (fun v z W' => ∃ S, v = (.tuple #[]) ∧ z = (S ++ []) ∧ fL 35 fa 9 c r S) := wP (P := pg0) (ρ := zW) BQ 9 aT aA fa gD iH u.H u.S i j hm
theorem Bq (w : World) {c d : Value} {a b : List Int} (h1 : Sl (Pl (fl .u8)) 1 (hp w) c a) (g : Sl (Pl (fl .u8)) 1 (hp w) d b) : (callFunc 120 [c, d].toArray).run pg0 w = .ok (.value (.int .i64 (oR a b))) w := zu func120 (by kernel_rfl) (by kernel_rfl) (by kernel_rfl) (by kernel_rfl) h1 g
theorem tG (a : Value) (g : List Int) (c : Value) (i : List Int) (r : Int) (w : World) (j : Sl (Pl (fl .u8)) 1 (hp w) a g) (k : Sl (Pl (fl .u8)) 1 (hp w) c i) (hm : qf g i = some r) :
  fQ true pg0 95 [a, c] w (.int .i64 r) := by
 exact cG 8 func95 rfl (fun d => sg (Wa (lr (Wm (Wm (VE (xu (args := [a, c]) (v := .int .i64 (oR g i)) rfl (by exact kc rfl rfl) (Bq _ (j.mono (Pl.mono _) d.fH) (k.mono (Pl.mono _) d.fH)) (Wa (lt (rQ hm d))))))))))
theorem ue (g i : eY) (r : Int) (w : World) (hm : kD g i = some r) :
  fQ true pg0 71 [(.agg (fa g).toArray), (.agg (fa i).toArray)] w (.int .i64 r) := by
 refine cG 10 func71 rfl (fun d => sg (VE (hZ d rfl (fun T Y d => VE (hZ d rfl (fun U Z d => Wa (ln (fC ?_))))))))
 replace d := d.drew
 have h := d.has.fc (Kb (Kb Sn))
 refine gy h gl (XH 0 rfl h (fun _ n => fh rfl (ft n (Mt Mh) (fa g) rfl aT aA)) (XH 2 rfl h (fun _ n => fh rfl (ft n Mh (fa i) rfl aT aA)) (bS hm fun y t hm => XE 1 rfl (mg d call36 (nc g _ _  t) (fun I B N G d a q j => ?_)))))
 have h := d.has.oZ a (Dr (Kb (Kb Sn)))
 refine ⟨h, (bS hm fun z u hm => XE 3 rfl (mg d call36 (nc i _ _  u) (fun J D Q H d c s k => ?_)))⟩
 have h := d.has.oZ (a.trans c) (Dr (Dr (Kb (Kb Sn))))
 refine ⟨h, (bS hm fun M x hm => XE 4 rfl (Eg d call95 (tG B y D z _ _ (j.sl (fun _ => rfl) (fun b o p => d.at_ (Ma (Ml p)))) (k.sl (fun _ => rfl) (fun b o p => d.at_ (Ml p))) x) (fun K d => ?_)))⟩
 have h := d.has.oZ (a.trans c) (Dr (Dr (Kb (Kb Sn))))
 refine ⟨h, (X 5 rfl h (gf rfl) (iq kr (fq ?_)))⟩
 exact ga (rQ hm d)
theorem qK (j : Value) (a0 : List eY) (x : LO) (r : List eY) (w : World) {μ0 : fz} (h0 : kV μ0 (x ++ []) w) (B : fL 35 fa 9 j a0 x) (hm : kd a0 = some r) :
  gN true pg0 72 [j] w (x ++ []) (fun v L1 W' => ∃ y1 S2, v = y1 ∧ L1 = (S2 ++ []) ∧ fL 35 fa 9 y1 r S2) := by
 refine uz h0 61 func72 rfl (fun d => sg (Wa (lS (Wm (V (ke aD rfl B) (Wi rfl (ln (CI hm rfl (fun g0 hm => ?_) (fun g0 hm => ?_)))))))))
 ·refine sg (Wm (Wa (lt (fN ?_))))
  obtain rfl := sj hm
  exact gb (v := j) rfl rfl ⟨_, _, rfl, (d.gA (Kr Sn)), j, x, rfl, rfl, B⟩
 refine kS (Wa (ln (iM (lm (fun m E W => ∃ t b4, ST true (keys (x ++ [])) w W μ0 (x ++ b4) ∧ E 0 = j ∧ E 3 = (.int .i64 t) ∧ hU a0 m t = some r) ib ⟨1, _, (d.fc St), rfl, rfl, hm⟩ ?_))))
 rintro m E W ⟨t, b4, d, D, H, a⟩
 cases m with
 | zero => rw [hU] at a; cases a
 | succ f5 =>
  refine fC (sg (Wh H (Wh D (V (ke aD rfl B) (Wi rfl (ln (CI a rfl (fun d0 a => ?_) (fun d0 a => ?_))))))))
  ·refine kn (fC (iM (fC ?_)))
   replace d := d.drew
   have h := d.has.fc (Kr Sn)
   refine gy h gl (X 0 rfl h (fi D) (X 1 rfl h (fi H) (bS a fun c3 Z a => XQ 2 rfl h (lE (i := t) (x0 := c3) aD aA rfl rfl B (iA Z) (gK Z)) (fun g5 d6 => XH 3 rfl h (fun _ o => fh rfl (nF o (fun p n => (Ml n)) B gD d6 (gK Z) aT aA)) (X 4 rfl h (fi D) (X 5 rfl h (fi H) (X 6 rfl h (fY rfl rfl rfl) (bS a fun c4 q a => XQ 7 rfl h (lE (i := (wi0 .i64 (t - 1))) (x0 := c4) aD aA rfl rfl B (iA q) (gK q)) (fun g6 d7 => XH 8 rfl h (fun _ o => fh rfl (nF o (fun p n => (Ml n)) B gD d7 (gK q) aT aA)) (X 9 rfl h (qW rfl rfl (lp dQ) (oA (pH _ c3 c4))) (iq kr (fq ?_))))))))))))
   refine CI a rfl (fun d1 a => ?_) (fun d1 a => ?_)
   ·refine sg (Wh D (Wh H (bS a fun _ L a => VQ (qp (i := t) aD aA rfl rfl B (pp L) (pn L)) (fun c1 M => Wa (lS (Wa (ln ?_)))))))
    refine CJ a (fun U E W => ∃ s b5, ST true (keys (x ++ [])) w W μ0 (s ++ b5) ∧ E 0 = j ∧ E 3 = (.int .i64 U.2) ∧ fL 35 fa 9 j U.1 s) (fun U d4 => ?_) ?_
    ·refine iM (lm (fun m E W => ∃ A K Y y b6, ST true (keys (x ++ [])) w W μ0 (K ++ b6) ∧ E 0 = j ∧ E 3 = (.int .i64 Y) ∧ E 4 = c1 ∧ E 5 = (.int .i64 y) ∧ fL 35 fa 9 j A K ∧ gZ t m A Y y = some U) ib ⟨a0, x, t, 1, _, (d.fc St), D, H, rfl, rfl, B, d4⟩ ?_)
     rintro m E W ⟨A, K, Y, y, b6, d, Q, T, I, J, g, k⟩
     cases m with
     | zero => rw [gZ] at k; cases k
     | succ f6 =>
      refine fC (sg (Wh J (Wh I (V (yC aD rfl M g) (Wi rfl (ln (CI k rfl (fun d2 k => ?_) (fun d2 k => ?_))))))))
      ·refine kn (fC (CJ k (fun F E W => ∃ N b7, ST true (keys (x ++ [])) w W μ0 (N ++ b7) ∧ E 0 = j ∧ E 3 = (.int .i64 F.2) ∧ E 4 = c1 ∧ E 5 = (.int .i64 y) ∧ fL 35 fa 9 j F.1 N) (fun F c => ?_) ?_))
       ·refine iM (fC ?_)
        replace d := d.drew
        have h := d.has.fc (Kr Sn)
        refine gy h gl (X 0 rfl h (fi I) (X 1 rfl h (fi J) (bS c fun c6 a2 c => XQ 2 rfl h (qw (i := y) (x0 := c6) aD aA rfl rfl g M (iA a2) (gK a2)) (fun g7 d8 => XH 3 rfl h (fun _ o => fh rfl (nF o (fun p n => (Ml n)) g gD d8 (qU (gK a2)) aT aA)) (X 4 rfl h (fi I) (X 5 rfl h (fi J) (X 6 rfl h (fY rfl rfl rfl) (bS c fun c7 a3 c => XQ 7 rfl h (qw (i := (wi0 .i64 (y - 1))) (x0 := c7) aD aA rfl rfl g M (iA a3) (gK a3)) (fun g8 d9 => XH 8 rfl h (fun _ o => fh rfl (nF o (fun p n => (Ml n)) g gD d9 (qU (gK a3)) aT aA)) (X 9 rfl h (Al rfl rfl (lp dQ) (xb (pH _ c6 c7))) (iq kr (fq ?_))))))))))))
        refine CI c rfl (fun d3 c => ?_) (fun d3 c => ?_)
        ·refine sg (Wh Q (Wh T (Wh I (Wh J (bS c fun a9 a4 c => VQ (qw (i := y) (x0 := a9) aD aA rfl rfl g M (iA a4) (gK a4)) (fun g9 e0 => V (fh rfl (nF d.has (fun p n => (Ml n)) g gD e0 (qU (gK a4)) aT aA)) (bS c fun f8 a5 c => VQ (lE (i := Y) (x0 := f8) aD aA rfl rfl g (iA a5) (gK a5)) (fun h1 e1 => VO (qQ (u := (.agg (fa a9).toArray)) (x1 := a9)  d g gD iH rfl rfl rfl e1 (gK a5) aA (fun g3 e8 d c9 => ln (fm ?_)))))))))))
         refine Wh T (Wi rfl (Wa (fK (gk (fq ?_)))))
         obtain rfl := sj c
         exact ⟨e8, _, (d.fc St), Q, rfl, I, J, c9⟩
        refine gp (gk (fq ?_))
        obtain rfl := sj c
        exact ⟨K, _, (d.fc St), Q, T, I, J, g⟩
       rintro ⟨f4, f7⟩ E W ⟨N, b7, d, f0, f1, f2, f3, e4⟩ d5
       exact fm (Wh f3 (Wi rfl (Wa (ln ⟨f6, bE _, f4, N, f7, (wi0 .i64 (y + 1)), _, (d.fc St), f0, f1, f2, rfl, e4, d5⟩))))
      refine mC (lW (lW (qm (fq ?_))))
      obtain rfl := sj k
      exact ⟨K, _, (d.fc St), Q, T, g⟩
    rintro ⟨g4, c5⟩ E W ⟨s, b5, d, b9, c0, R⟩ G
    refine sg (Wh b9 (Wh c0 (bS G fun _ O G => VQ (qp (i := c5) aD aA rfl rfl R (pp O) (pn O)) (fun h2 e2 => VO (sI (z := K6)  d R gD iH aD bz e2 rfl rfl (fun g2 e7 d c8 => lr (Wh b9 (Wh c0 (bS G fun _ P G => VQ (uE (i := c5) aD aA rfl rfl c8 gD (pp P) (pn P)) (fun c2 e3 => ?_))))))))))
    refine Wa (lt (gU (fN (fN (gU (fN ?_))))))
    obtain rfl := sj G
    exact gb (v := c2) rfl rfl ⟨_, _, rfl, (d.gA (Kr Sn)), c2, e7, rfl, rfl, e3⟩
   exact gp (gk (fq (fm (Wh H (Wi rfl (Wa (ln ⟨f5, bE _, (wi0 .i64 (t + 1)), _, (d.fc St), D, rfl, a⟩)))))))
  refine mC (lW (lW (qm (fq (sg (Wh D (Wa (lt ?_))))))))
  obtain rfl := sj a
  exact gb (v := j) rfl rfl ⟨_, _, rfl, (d.gA (Kr Sn)), j, x, rfl, rfl, B⟩
theorem xM (i : Value) (t r : List eY) (w : World) (B : Sl (Pl fa) 9 (hp w) i t) (hm : oh t = some r) :
  gw false pg0 39 [i] w 35 fa 9 r := by
 refine qM 11 func39 rfl (fun d => sg (Wa (lr (Wm (bS hm fun A T hm => VE (mg d call68 (gw.gM (rq i t _ _ (B.mono (Pl.mono _) d.fH) T)) (fun W3 E F R8 d a5 u Q => bS hm fun U D hm => ?_)))))))
 refine VE (eM d (Cr Qz Cn) call67 (fun n _ => (pG E A R8 (.func (.func 69) #[] #[]) (fun (x : eY) => nB x) _ _ n Q ⟨69, #[], #[], rfl, call69, fun W x r z hm => (uQ x r W  hm).gM⟩ D)) ?_)
 rintro _ b5 b9 O d L o h ⟨k, K, a, rfl, I⟩
 obtain rfl := a.symm
 replace d := d.perm (Tr Tn)
 refine Wa (lr (Wm (bS hm fun Y G hm => ?_)))
 refine VE (eM d (Cr Qz Cn) call70 (fun n _ => gN.gM (yj k U K (.func (.func 71) #[] #[]) (fun (x : (eY × eY)) => kD x.1 x.2) _ _ n I ⟨71, #[], rfl, call71, fun W x r z hm => ue x.1 x.2 r W  hm⟩ G)) ?_)
 rintro _ b6 c0 a9 d a2 q h ⟨M, c, rfl, J⟩
 obtain rfl := c.symm
 replace d := d.perm (Tr Tn)
 refine lr (Wm (bS hm fun R H hm => ?_))
 refine VE (eM d (Cr Qz Cn) call72 (fun n _ => gN.gM (qK k Y M _ _ n J H)) ?_)
 rintro _ b7 c1 P d a3 s h ⟨Z, N, g, rfl, j⟩
 obtain rfl := g.symm
 replace d := d.perm (Tr Tn)
 refine Wa (lt ?_)
 obtain rfl := sj hm
 exact gb (v := Z) rfl rfl ⟨_, N, rfl, d.iY (fun p y => (Ml y)) j.nd, j⟩
theorem mq (D : Value) (Q : Option fW) (I : Value) (M : List fA) (r : List eY) (w : World) (O : lI gn (hp w) D Q) (H : Sl ic 10 (hp w) I M) (hm : iJ Q M = some r) :
  gw false pg0 11 [D, I] w 35 fa 9 r := by
 refine qM 26 func11 rfl (fun d => sg (Wa (lr (Wa (lS (Wm ?_))))))
 refine V (gv cP rfl H) (Wm (ln (gP (fun i E W => ∃ g k j G, (E 10 = .int .i64 (i : Nat) ∧ E 9 = .int .i64 (M.length : Nat)) ∧ ST false fO w W (hp w) (j ++ G) ∧ E 0 = D ∧ E 5 = g ∧ E 8 = I ∧ fL 35 fa 9 g k j ∧ fZ Q (M.drop i) k = some r) M.length H.len ⟨(.slice none 0 0), ([]), [], _, ⟨rfl, rfl⟩, (d.fc St), rfl, rfl, rfl, (fL.nil _ _ _), hm⟩ dc dc dc (fun _ _ _ h => by obtain ⟨_, _, _, _, q, _⟩ := h; exact q) ?_ ?_)))
 ·rintro b5 E W P ⟨g, k, j, G, ⟨n, s⟩, d, y, z, B, t, c⟩
  obtain ⟨a, c8, b0, a9, N⟩ := gC P
  rw [b0] at c
  refine bg (VQ (lK (i := (b5 : Int)) (x0 := a) ic.out cP bh B n H (aQ _) a9) (fun c4 ⟨_, ⟨c7, rfl, K⟩, Z⟩ => V (fh rfl (iX d.has Z cy bh)) (VE (gq d bA (fun b6 c3 d => ?_)))))
  obtain ⟨u, x, rfl⟩ := K.form
  let a0 := (C1 a.eY.Kind a.eY.Head.eZ a.eY.Head.fg a.eY.fu a.eY.B.eZ a.eY.B.fg a.eY.C.eZ a.eY.C.fg a.eY.fB u a.Tag.length x)
  refine VO (fM (.agg a0.toArray) (a0.toArray) d rfl rfl bh oc nb rfl (fun b7 d => lr (Wh y (VA d Mh a0 cy bh (bS c fun c5 a2 c => VE (Eg d call9 (fQ.gM (ja D Q a (.slice u a.Tag.length x) _ _ (O.mono gx d.fH) (K.mono (Pl.mono _) d.fH) a2)) (fun b9 d => Wi rfl (ln (CI c rfl (fun U c => ?_) (fun U c => ?_))))))))))
  ·refine fm (Wh z (Wf lY (VA d Mh (fa a.eY) aT aA (VE (fS (cs := (fa a.eY).toArray) d (iD rfl) (kR aD aA bz) (fun c0 L d => ?_))))))
   replace d := d.perm (Nr (Qb (Qb Qz)) Nz)
   refine bS c fun b1 Y c => VE (kI (enc := fa) (v := g) (vs := (.slice (some ⟨L, 0, none⟩) 1 1)) (R := j) d gD dc iH aD kk.1 kk.2.1 rfl kk.2.2.1 kk.2.2.2 rfl rfl t (Sl.lit (enc := fa) (l := [a.eY]) gD rfl nb rfl (d.at_ (Ma Mh))) Y (fun c1 b2 a4 d T => Wa (fK (gk (fq ?_)))))
   replace d := d.fc (Kr (Db (Db St)))
   exact ⟨n, b2, b1, a4, _, ⟨rfl, s⟩, (d.fc St), y, rfl, B, T, (by rw [N]; exact c)⟩
  refine gp (gk (fq ?_))
  replace d := d.fc (Db St)
  exact ⟨n, g, k, j, _, ⟨rfl, s⟩, (d.fc St), y, z, B, t, (by rw [N]; exact c)⟩
 rintro E W ⟨g, k, j, G, ⟨n, s⟩, d, y, z, B, t, c⟩
 rw [aU] at c
 refine fq (sg (Wh z (bS c fun c6 a3 c => VE (mg d call39 (xM g k _ _ (t.sl gD (fun b o F => d.at_ (Ml F))) a3) (fun c2 b3 c9 a5 d b4 A J => Wa (ln ?_))))))
 replace d := d.fc (Kr (Dr St))
 refine ga ?_
 obtain rfl := sj c
 exact gb (v := b3) rfl rfl ⟨_, a5, rfl, d.iY (fun p F => (Ml F)) J.nd, J⟩
theorem rR (c : fA) (t : Value) (g : fA) (u : Value) (r : Bool) (w : World) (i : Sl (Pl (fl .u8)) 1 (hp w) t c.Tag) (j : Sl (Pl (fl .u8)) 1 (hp w) u g.Tag) (hm : nf c g = some r) :
  fQ true pg0 14 [(.agg #[(.int .i64 c.eY.Kind), (.string c.eY.Head.eZ), (.string c.eY.Head.fg), (.string c.eY.fu), (.string c.eY.B.eZ), (.string c.eY.B.fg), (.string c.eY.C.eZ), (.string c.eY.C.fg), (.string c.eY.fB), t]), (.agg #[(.int .i64 g.eY.Kind), (.string g.eY.Head.eZ), (.string g.eY.Head.fg), (.string g.eY.fu), (.string g.eY.B.eZ), (.string g.eY.B.fg), (.string g.eY.C.eZ), (.string g.eY.C.fg), (.string g.eY.fB), u])] w (.bool r) := by
 refine cG 19 func14 rfl (fun d => sg ?_)
 obtain ⟨G, I, rfl⟩ := i.form
 refine VE (hZ d rfl (fun N T d => ?_))
 obtain ⟨H, J, rfl⟩ := j.form
 refine VE (hZ d rfl (fun Q U d => Wa (lr (Wf lY (VA d (Mt Mh) (fa c.eY) aT aA (Wf lY (VA d Mh (fa g.eY) aT aA (V (qW rfl rfl (lp dQ) (oA (pH _ c.eY g.eY))) (Wm (LJ hm (fun z E W => ∃ y, ST true fO w W (hp w) y ∧ E 4 = (.bool false) ∧ E 18 = (.bool z)) 8 ?_ (fun z k x => ?_)))))))))))
 ·rintro M E W ⟨y, d, K, D⟩ B
  exact Wg D (lt (rQ B d))
 refine bC k (fun a k => ?_) (fun a k => ?_)
 ·refine ug a (fj oW rfl) (ug a (fh rfl (fF d.has (Mt Mh) rfl bT)) (ug a (kA az aY aH rfl (i.mono (Pl.mono _) d.fH)) (ug a (fj oW rfl) (ug a (fh rfl (fF d.has Mh rfl bT)) (ug a (kA az aY aH rfl (j.mono (Pl.mono _) d.fH)) (ug a (jb rfl rfl rfl) (V (fy (cB a) rfl) ?_)))))))
  obtain rfl := sj k
  exact x _ _ ⟨_, (d.fc (Db (Db St))), rfl, rfl⟩
 refine un a (un a (un a (un a (un a (un a (un a (V (fx (cB a) rfl) ?_)))))))
 obtain rfl := sj k
 exact x _ _ ⟨_, (d.fc (Db (Db St))), rfl, rfl⟩
set_option maxHeartbeats 4000000 in
theorem uO (r : Bool) (w : World) (hm : lo  = some r) :
  fQ false pg0 5 [] w (.bool r) := by
 have d := ST.start (dd := false) w
 unfold lo at hm
 refine cF 112 func5 rfl (fC (fm (V (gf rfl) (fK (fq (fC (fm (VE (fS (qs := #[(0, (.int .u8 107))]) (cs := [(.int .u8 107)].toArray) d (iD rfl) (mF [(.int .u8 107)] az cJ cT (by decide) rfl (by intro v q; simp only [aC, bk, cI] at q; rcases q with rfl <;> rfl) rfl rfl) (fun W2 O d => ?_))))))))))
 have ad : Fr w.heap.size (.slice (some ⟨O, 0, none⟩) 1 1) := Fr.box d Mh
 refine VE (px (l := [107]) d az aY rfl rfl rfl (by decide) (fun W3 eg d w0 eb t2 => V (gX (qs := #[(0, (.string K1)), (1, (.slice (some ⟨O, 0, none⟩) 1 1))]) (v := (.agg (C4 O).toArray)) (lU rfl rfl) (gr cr cx (yg _ cx) (by kernel_rfl))) (VE (fS (qs := #[(0, (.int .u8 108))]) (cs := [(.int .u8 108)].toArray) d (iD rfl) (mF [(.int .u8 108)] az cJ cT (by decide) rfl (by intro v q; simp only [aC, bk, cI] at q; rcases q with rfl <;> rfl) rfl rfl) (fun y8 P d => ?_)))))
 have v5 : Fr w.heap.size (.slice (some ⟨P, 0, none⟩) 1 1) := Fr.box d Mh
 refine VE (px (l := [108]) d az aY rfl rfl rfl (by decide) (fun y9 al d n1 cb s2 => V (gX (qs := #[(0, (.string K4)), (1, (.slice (some ⟨P, 0, none⟩) 1 1))]) (v := (.agg #[(.string K4), (.slice (some ⟨P, 0, none⟩) 1 1)])) (lU rfl rfl) (gr cr cx (yg _ cx) (by kernel_rfl))) (VE (fS (qs := #[(0, (.agg (C4 O).toArray)), (1, (.agg #[(.string K4), (.slice (some ⟨P, 0, none⟩) 1 1)]))]) (cs := #[(.string K1), (.slice (some ⟨O, 0, none⟩) 1 1), (.string K4), (.slice (some ⟨P, 0, none⟩) 1 1)]) d (lU rfl rfl) (mF [(.agg (C4 O).toArray), (.agg #[(.string K4), (.slice (some ⟨P, 0, none⟩) 1 1)])] bG bX cr (by decide) rfl (by intro v q; simp only [aC, bk, cI] at q; rcases q with rfl | rfl <;> rfl) rfl rfl) (fun z0 g5 d => ?_)))))
 have v6 : Fr w.heap.size (.slice (some ⟨g5, 0, none⟩) 2 2) := Fr.box d Mh
 obtain ⟨am, d, t5, cc, s3⟩ := ST.zN (B := [(g5, Obj.cells (#[(.string K1), (.slice (some ⟨O, 0, none⟩) 1 1), (.string K4), (.slice (some ⟨P, 0, none⟩) 1 1)] : Array Value) 72 (0, 0))]) ma d (kq.lit ma (l := [(⟨K1, [107]⟩ : Key), (⟨K4, [108]⟩ : Key)]) (.cons (ys := C4 O) (ie.mk ⟨(.slice (some ⟨O, 0, none⟩) 1 1), rfl, (t2.mono (Pl.mono _) n1)⟩) (.cons (ys := [(.string K4), (.slice (some ⟨P, 0, none⟩) 1 1)]) (ie.mk ⟨(.slice (some ⟨P, 0, none⟩) 1 1), rfl, s2⟩) .nil)) rfl nb rfl)
 refine bS hm fun f3 r8 hm => ?_
 have F := d.size
 refine VE (vC d (bW _) call7 (fun hH s n A => gY.gM (pr (.slice (some ⟨g5, 0, none⟩) 2 2) ([(⟨K1, [107]⟩ : Key), (⟨K4, [108]⟩ : Key)]) _ _ ⟨hH, s, n⟩ (s3.mono ma.mono (fw.refl _)) r8)) (fun z1 af an y4 d t6 cf r4 => ?_) (L0 := []))
 obtain ⟨L, e9, rfl, d0⟩ := r4
 replace e9 := e9.symm; subst e9
 replace d := d.perm Tn
 refine V (fi rfl) (V (iZ rfl rfl) (V (iZ rfl rfl) (V (gf rfl) (V (gf rfl) (fK (fq (fC (fm (V (gX (qs := #[(0, (.string K1))]) (v := (.agg #[(.string K1), (.slice none 0 0)])) (iD rfl) (gr cr cx (yg _ cx) (by kernel_rfl))) (VE (fS (qs := #[(0, (.agg #[(.string K1), (.slice none 0 0)]))]) (cs := #[(.string K1), (.slice none 0 0)]) d (iD rfl) (mF [(.agg #[(.string K1), (.slice none 0 0)])] bG bX cr (by decide) rfl (by intro v q; simp only [aC, bk, cI] at q; rcases q with rfl <;> rfl) rfl rfl) (fun z2 g6 d => ?_))))))))))))
 have v7 : Fr w.heap.size (.slice (some ⟨g6, 0, none⟩) 1 1) := Fr.box d Mh
 obtain ⟨ao, d, c1, ch, s4⟩ := ST.zN (B := [(g6, Obj.cells (#[(.string K1), (.slice none 0 0)] : Array Value) 72 (0, 0))]) ma d (kq.lit ma (l := [(⟨K1, []⟩ : Key)]) (.cons (ys := [(.string K1), (.slice none 0 0)]) (ie.mk ⟨(.slice none 0 0), rfl, (Sl.nil _ _ _)⟩) .nil) rfl nb rfl)
 refine bS hm fun ae r9 hm => ?_
 have F := d.size
 refine VE (vC d (bW _) call7 (fun hH s n A => gY.gM (pr (.slice (some ⟨g6, 0, none⟩) 1 1) ([(⟨K1, []⟩ : Key)]) _ _ ⟨hH, s, n⟩ (s4.mono ma.mono (fw.refl _)) r9)) (fun z3 ag ap y5 d c2 cp r5 => ?_) (L0 := []))
 obtain ⟨aj, f0, rfl, w1⟩ := r5
 replace f0 := f0.symm; subst f0
 replace d := d.perm Tn
 refine V (fi rfl) (V (iZ rfl rfl) (V (iZ rfl rfl) (V (gf rfl) (V (gf rfl) (fK (fq (fC (fm (V (gX (qs := #[(0, (.string K1)), (1, (.string K2))]) (v := (.agg (fD K5).toArray)) (lU rfl rfl) (gr eV cD (Bt _ cD) (by kernel_rfl))) (V (gX (qs := #[(0, (.int .i64 1)), (1, (.agg (fD K5).toArray)), (2, (.string K3))]) (v := (.agg (fa K7).toArray)) (BH rfl rfl rfl) (gr bz bx (xX _ bx) (by kernel_rfl))) (VE (gq d bz (fun z4 a4 d => VO (fM (.agg (fa K7).toArray) ((fa K7).toArray) d rfl rfl aA (iH K7) nb rfl (fun z5 d => fK (fq ?_))))))))))))))))
 refine fC (fm (V (fi rfl) (V (fh rfl (ft d.has Mh (fa K7) rfl aT aA)) (bS hm fun a s0 hm => ?_))))
 have F := d.size
 refine VE (vC d (bW _) call12 (fun hH s n A => gY.gM (nT L f3.1 K7 _ _ ⟨hH, s, n⟩ (d0.mono gx (c1.trans c2)) s0)) (fun z6 ah aq y6 d c6 cS r6 => ?_) (L0 := []))
 obtain ⟨ak, f1, rfl, a7⟩ := r6
 replace f1 := f1.symm; subst f1
 replace d := d.perm Tn
 refine V (fi rfl) (V (iZ rfl rfl) (V (iZ rfl rfl) (VE (gq d bA (fun z7 z d => ?_)))))
 obtain ⟨j, k, rfl⟩ := a7.form
 refine VO (fM (.agg #[(.int .i64 (((a.1).eY).Kind)), (.string ((((a.1).eY).Head).eZ)), (.string ((((a.1).eY).Head).fg)), (.string (((a.1).eY).fu)), (.string ((((a.1).eY).B).eZ)), (.string ((((a.1).eY).B).fg)), (.string ((((a.1).eY).C).eZ)), (.string ((((a.1).eY).C).fg)), (.string (((a.1).eY).fB)), (.slice j ((a.1).Tag).length k)]) (#[(.int .i64 (((a.1).eY).Kind)), (.string ((((a.1).eY).Head).eZ)), (.string ((((a.1).eY).Head).fg)), (.string (((a.1).eY).fu)), (.string ((((a.1).eY).B).eZ)), (.string ((((a.1).eY).B).fg)), (.string ((((a.1).eY).C).eZ)), (.string ((((a.1).eY).C).fg)), (.string (((a.1).eY).fB)), (.slice j ((a.1).Tag).length k)]) d rfl rfl bh (by simp [Value.cells, Value.oneCell']) nb rfl (fun z8 d => V (gf rfl) (fK (fq (fC (fm (VE (fS (qs := #[(0, (.int .u8 109))]) (cs := [(.int .u8 109)].toArray) d (iD rfl) (mF [(.int .u8 109)] az cJ cT (by decide) rfl (by intro v q; simp only [aC, bk, cI] at q; rcases q with rfl <;> rfl) rfl rfl) (fun z9 a9 d => ?_)))))))))
 have v8 : Fr w.heap.size (.slice (some ⟨a9, 0, none⟩) 1 1) := Fr.box d Mh
 refine VE (px (l := [109]) d az aY rfl rfl rfl (by decide) (fun aa ar d M dk s5 => V (gX (qs := #[(0, (.string K1)), (1, (.slice (some ⟨a9, 0, none⟩) 1 1))]) (v := (.agg (C4 a9).toArray)) (lU rfl rfl) (gr cr cx (yg _ cx) (by kernel_rfl))) (VE (fS (qs := #[(0, (.agg (C4 a9).toArray))]) (cs := (C4 a9).toArray) d (iD rfl) (mF [(.agg (C4 a9).toArray)] bG bX cr (by decide) rfl (by intro v q; simp only [aC, bk, cI] at q; rcases q with rfl <;> rfl) rfl rfl) (fun ab g7 d => ?_)))))
 have v9 : Fr w.heap.size (.slice (some ⟨g7, 0, none⟩) 1 1) := Fr.box d Mh
 obtain ⟨au, d, N, ds, s6⟩ := ST.zN (B := [(g7, Obj.cells ((C4 a9).toArray : Array Value) 72 (0, 0))]) ma d (kq.lit ma (l := [(⟨K1, [109]⟩ : Key)]) (.cons (ys := C4 a9) (ie.mk ⟨(.slice (some ⟨a9, 0, none⟩) 1 1), rfl, s5⟩) .nil) rfl nb rfl)
 refine bS hm fun t3 s1 hm => ?_
 have F := d.size
 refine VE (vC d (bW _) call7 (fun hH s n A => gY.gM (pr (.slice (some ⟨g7, 0, none⟩) 1 1) ([(⟨K1, [109]⟩ : Key)]) _ _ ⟨hH, s, n⟩ (s6.mono ma.mono (fw.refl _)) s1)) (fun ac ai av y7 d Q ea r7 => ?_) (L0 := []))
 obtain ⟨e2, c7, rfl, p1⟩ := r7
 replace c7 := c7.symm; subst c7
 replace d := d.perm Tn
 refine V (fi rfl) (V (iZ rfl rfl) (V (iZ rfl rfl) (V (gf rfl) (V (gf rfl) (fK (fq (fC (fm (V (gX (qs := #[]) (v := (.agg #[(.slice none 0 0)])) nZ (gr zeroValue56 dE (Bi _ dE) (by kernel_rfl))) (VE (hZ (v := (.agg #[(.slice none 0 0)])) d rfl (fun u3 g4 d => V (gf rfl) (fK (fq (fC ?_)))))))))))))))
 refine fm (V (fi rfl) (V (fh rfl (ft d.has (Mt Mh) [(.int .i64 (((a.1).eY).Kind)), (.string ((((a.1).eY).Head).eZ)), (.string ((((a.1).eY).Head).fg)), (.string (((a.1).eY).fu)), (.string ((((a.1).eY).B).eZ)), (.string ((((a.1).eY).B).fg)), (.string ((((a.1).eY).C).eZ)), (.string ((((a.1).eY).C).fg)), (.string (((a.1).eY).fB)), (.slice j ((a.1).Tag).length k)] rfl cy bh)) (bS hm fun a5 o2 hm => ?_)))
 have F := d.size
 refine VE (Ao d (Cb Pz (C0 Cn)) call22 (fun hH s n A => gN.gM (vt g4 (.slice none 0 0) ([]) [] (⟨(a.1).eY, (a.1).Tag⟩ : fA) (.slice j ((a.1).Tag).length k) _ _ ⟨hH, s, fw.refl _⟩ (fL.nil _ _ _) (a7.mono (Pl.mono _) (((M.trans N).trans Q).trans n)) o2)) (fun u4 w7 y1 t7 d D aE ca m7 => ?_))
 obtain ⟨s9, u2, c8, rfl, p2⟩ := m7
 replace c8 := c8.symm; subst c8
 replace d := d.perm (Tb (Tr Tn))
 refine V (gf rfl) (fK (fq (fC (fm (VE (gq d bA (fun u5 i d => fK (fq (fC (fm (V (fi rfl) (bS hm fun s7 o3 hm => VE (mg d call23 (gw.gM (pI g4 s9 a5.2 _ _ (p2.sl (fun _ => rfl) (fun b o hq => d.at_ (Mt (Mt (Ml hq))))) (At.of (d.at_ (Mt Mh)) _ rfl) o3)) (fun u6 s8 y2 t9 d G ba f2 => V (sH (by exact kU rfl) rfl) ?_))))))))))))))
 have t4 := f2.Bp d (fun p hq => (Ml hq))
 obtain ⟨y3, d, H, bb, p0⟩ := ST.vU d f2 (fun _ => rfl)
 refine bS hm fun c o4 hm => ?_
 have F := d.size
 refine VE (vC d (Cb Pz Cn) call24 (fun hH s n A => gY.gM (pM s8 s7 i (⟨K6, []⟩ : fA) (.slice none 0 0) _ _ ⟨hH, s, n⟩ (p0.mono (Pl.mono _) (fw.refl _)) (Sl.nil _ _ _) o4)) (fun u7 w8 a8 t8 d I bs m8 => ?_))
 obtain ⟨K, c9, rfl, p3⟩ := m8
 replace c9 := c9.symm; subst c9
 replace d := d.perm (Tb Tn)
 refine V (gf rfl) (fK (fq ?_))
 replace d := d.fc (Kb (Db (Dr St)))
 refine fC (fm (V (fi rfl) (V (fY rfl rfl rfl) (V (fi rfl) (LJ hm (fun m6 E W => ∃  (f4 : List (Nat × Obj)), ST false fO w W a8 ((i, Obj.cells (#[(.int .i64 (((c.2).eY).Kind)), (.string ((((c.2).eY).Head).eZ)), (.string ((((c.2).eY).Head).fg)), (.string (((c.2).eY).fu)), (.string ((((c.2).eY).B).eZ)), (.string ((((c.2).eY).B).fg)), (.string ((((c.2).eY).C).eZ)), (.string ((((c.2).eY).C).fg)), (.string (((c.2).eY).fB)), K] : Array Value) 38 (0, 0)) :: ((z, Obj.cells (#[(.int .i64 (((a.1).eY).Kind)), (.string ((((a.1).eY).Head).eZ)), (.string ((((a.1).eY).Head).fg)), (.string (((a.1).eY).fu)), (.string ((((a.1).eY).B).eZ)), (.string ((((a.1).eY).B).fg)), (.string ((((a.1).eY).C).eZ)), (.string ((((a.1).eY).C).fg)), (.string (((a.1).eY).fB)), (.slice j ((a.1).Tag).length k)] : Array Value) 38 (0, 0)) :: ((a4, Obj.cells ((fa K7).toArray : Array Value) 35 (0, 0)) :: f4))) ∧ E 0 = (.bool false) ∧ E 1 = L ∧ E 5 = (.pointer (some ⟨a4, 0, none⟩)) ∧ E 6 = (.pointer (some ⟨z, 0, none⟩)) ∧ E 7 = (.int .i64 a.2) ∧ E 8 = e2 ∧ E 11 = (.bool a5.1) ∧ E 12 = (.pointer (some ⟨i, 0, none⟩)) ∧ E 13 = (.int .i64 c.1) ∧ E 61 = (.bool m6)) 3 ?_ (fun m6 b7 e1 => ?_))))))
 ·rintro x1 E W ⟨f4, d, g8, g9, h0, h1, p6, h2, h3, h4, h5, p7⟩ n2
  refine V (fi p7) (LJ n2 (fun m5 E W => ∃  (f5 : List (Nat × Obj)), ST false fO w W a8 ((i, Obj.cells (#[(.int .i64 (((c.2).eY).Kind)), (.string ((((c.2).eY).Head).eZ)), (.string ((((c.2).eY).Head).fg)), (.string (((c.2).eY).fu)), (.string ((((c.2).eY).B).eZ)), (.string ((((c.2).eY).B).fg)), (.string ((((c.2).eY).C).eZ)), (.string ((((c.2).eY).C).fg)), (.string (((c.2).eY).fB)), K] : Array Value) 38 (0, 0)) :: ((z, Obj.cells (#[(.int .i64 (((a.1).eY).Kind)), (.string ((((a.1).eY).Head).eZ)), (.string ((((a.1).eY).Head).fg)), (.string (((a.1).eY).fu)), (.string ((((a.1).eY).B).eZ)), (.string ((((a.1).eY).B).fg)), (.string ((((a.1).eY).C).eZ)), (.string ((((a.1).eY).C).fg)), (.string (((a.1).eY).fB)), (.slice j ((a.1).Tag).length k)] : Array Value) 38 (0, 0)) :: ((a4, Obj.cells ((fa K7).toArray : Array Value) 35 (0, 0)) :: f5))) ∧ E 0 = (.bool false) ∧ E 1 = L ∧ E 5 = (.pointer (some ⟨a4, 0, none⟩)) ∧ E 6 = (.pointer (some ⟨z, 0, none⟩)) ∧ E 8 = e2 ∧ E 11 = (.bool a5.1) ∧ E 12 = (.pointer (some ⟨i, 0, none⟩)) ∧ E 13 = (.int .i64 c.1) ∧ E 65 = (.bool m5)) 3 ?_ (fun m5 b6 e0 => ?_))
  ·rintro x2 E W ⟨f5, d, h6, h7, h8, e3, h9, i0, i1, i2, p8⟩ n3
   refine V (fi p8) (LJ n3 (fun m4 E W => ∃  (f6 : List (Nat × Obj)), ST false fO w W a8 ((i, Obj.cells (#[(.int .i64 (((c.2).eY).Kind)), (.string ((((c.2).eY).Head).eZ)), (.string ((((c.2).eY).Head).fg)), (.string (((c.2).eY).fu)), (.string ((((c.2).eY).B).eZ)), (.string ((((c.2).eY).B).fg)), (.string ((((c.2).eY).C).eZ)), (.string ((((c.2).eY).C).fg)), (.string (((c.2).eY).fB)), K] : Array Value) 38 (0, 0)) :: ((z, Obj.cells (#[(.int .i64 (((a.1).eY).Kind)), (.string ((((a.1).eY).Head).eZ)), (.string ((((a.1).eY).Head).fg)), (.string (((a.1).eY).fu)), (.string ((((a.1).eY).B).eZ)), (.string ((((a.1).eY).B).fg)), (.string ((((a.1).eY).C).eZ)), (.string ((((a.1).eY).C).fg)), (.string (((a.1).eY).fB)), (.slice j ((a.1).Tag).length k)] : Array Value) 38 (0, 0)) :: ((a4, Obj.cells ((fa K7).toArray : Array Value) 35 (0, 0)) :: f6))) ∧ E 0 = (.bool false) ∧ E 1 = L ∧ E 5 = (.pointer (some ⟨a4, 0, none⟩)) ∧ E 6 = (.pointer (some ⟨z, 0, none⟩)) ∧ E 8 = e2 ∧ E 11 = (.bool a5.1) ∧ E 12 = (.pointer (some ⟨i, 0, none⟩)) ∧ E 13 = (.int .i64 c.1) ∧ E 71 = (.bool m4)) 5 ?_ (fun m4 b5 d9 => ?_))
   ·rintro x3 E W ⟨f6, d, i3, e4, i4, e5, i5, i6, i7, i8, p9⟩ n4
    refine V (fi p9) (LJ n4 (fun m3 E W => ∃  (f7 : List (Nat × Obj)), ST false fO w W a8 ((i, Obj.cells (#[(.int .i64 (((c.2).eY).Kind)), (.string ((((c.2).eY).Head).eZ)), (.string ((((c.2).eY).Head).fg)), (.string (((c.2).eY).fu)), (.string ((((c.2).eY).B).eZ)), (.string ((((c.2).eY).B).fg)), (.string ((((c.2).eY).C).eZ)), (.string ((((c.2).eY).C).fg)), (.string (((c.2).eY).fB)), K] : Array Value) 38 (0, 0)) :: ((z, Obj.cells (#[(.int .i64 (((a.1).eY).Kind)), (.string ((((a.1).eY).Head).eZ)), (.string ((((a.1).eY).Head).fg)), (.string (((a.1).eY).fu)), (.string ((((a.1).eY).B).eZ)), (.string ((((a.1).eY).B).fg)), (.string ((((a.1).eY).C).eZ)), (.string ((((a.1).eY).C).fg)), (.string (((a.1).eY).fB)), (.slice j ((a.1).Tag).length k)] : Array Value) 38 (0, 0)) :: ((a4, Obj.cells ((fa K7).toArray : Array Value) 35 (0, 0)) :: f7))) ∧ E 0 = (.bool false) ∧ E 1 = L ∧ E 5 = (.pointer (some ⟨a4, 0, none⟩)) ∧ E 6 = (.pointer (some ⟨z, 0, none⟩)) ∧ E 8 = e2 ∧ E 11 = (.bool a5.1) ∧ E 12 = (.pointer (some ⟨i, 0, none⟩)) ∧ E 13 = (.int .i64 c.1) ∧ E 77 = (.bool m3)) 5 ?_ (fun m3 a3 d8 => ?_))
    ·rintro x4 E W ⟨f7, d, i9, j0, j3, e6, q0, j4, j5, j6, q1⟩ n5
     refine V (fi q1) (LJ n5 (fun m2 E W => ∃  (f8 : List (Nat × Obj)), ST false fO w W a8 ((i, Obj.cells (#[(.int .i64 (((c.2).eY).Kind)), (.string ((((c.2).eY).Head).eZ)), (.string ((((c.2).eY).Head).fg)), (.string (((c.2).eY).fu)), (.string ((((c.2).eY).B).eZ)), (.string ((((c.2).eY).B).fg)), (.string ((((c.2).eY).C).eZ)), (.string ((((c.2).eY).C).fg)), (.string (((c.2).eY).fB)), K] : Array Value) 38 (0, 0)) :: ((z, Obj.cells (#[(.int .i64 (((a.1).eY).Kind)), (.string ((((a.1).eY).Head).eZ)), (.string ((((a.1).eY).Head).fg)), (.string (((a.1).eY).fu)), (.string ((((a.1).eY).B).eZ)), (.string ((((a.1).eY).B).fg)), (.string ((((a.1).eY).C).eZ)), (.string ((((a.1).eY).C).fg)), (.string (((a.1).eY).fB)), (.slice j ((a.1).Tag).length k)] : Array Value) 38 (0, 0)) :: ((a4, Obj.cells ((fa K7).toArray : Array Value) 35 (0, 0)) :: f8))) ∧ E 0 = (.bool false) ∧ E 1 = L ∧ E 5 = (.pointer (some ⟨a4, 0, none⟩)) ∧ E 6 = (.pointer (some ⟨z, 0, none⟩)) ∧ E 11 = (.bool a5.1) ∧ E 12 = (.pointer (some ⟨i, 0, none⟩)) ∧ E 13 = (.int .i64 c.1) ∧ E 83 = (.bool m2)) 5 ?_ (fun m2 a2 d7 => ?_))
     ·rintro x5 E W ⟨f8, d, j7, e7, j8, j9, k0, k1, k2, q2⟩ n6
      refine V (fi q2) (LJ n6 (fun m1 E W => ∃  (c3 : fz) (f9 : List (Nat × Obj)), fw a8 c3 ∧ ST false fO w W c3 ((i, Obj.cells (#[(.int .i64 (((c.2).eY).Kind)), (.string ((((c.2).eY).Head).eZ)), (.string ((((c.2).eY).Head).fg)), (.string (((c.2).eY).fu)), (.string ((((c.2).eY).B).eZ)), (.string ((((c.2).eY).B).fg)), (.string ((((c.2).eY).C).eZ)), (.string ((((c.2).eY).C).fg)), (.string (((c.2).eY).fB)), K] : Array Value) 38 (0, 0)) :: ((z, Obj.cells (#[(.int .i64 (((a.1).eY).Kind)), (.string ((((a.1).eY).Head).eZ)), (.string ((((a.1).eY).Head).fg)), (.string (((a.1).eY).fu)), (.string ((((a.1).eY).B).eZ)), (.string ((((a.1).eY).B).fg)), (.string ((((a.1).eY).C).eZ)), (.string ((((a.1).eY).C).fg)), (.string (((a.1).eY).fB)), (.slice j ((a.1).Tag).length k)] : Array Value) 38 (0, 0)) :: ((a4, Obj.cells ((fa K7).toArray : Array Value) 35 (0, 0)) :: f9))) ∧ E 0 = (.bool false) ∧ E 1 = L ∧ E 5 = (.pointer (some ⟨a4, 0, none⟩)) ∧ E 6 = (.pointer (some ⟨z, 0, none⟩)) ∧ E 11 = (.bool a5.1) ∧ E 12 = (.pointer (some ⟨i, 0, none⟩)) ∧ E 13 = (.int .i64 c.1) ∧ E 89 = (.bool m1)) 5 ?_ (fun m1 R d6 => ?_))
      ·rintro x6 E W ⟨c3, f9, b2, d, k3, q3, q4, e8, k4, k5, k6, q5⟩ n7
       refine V (fi q5) (LJ n7 (fun m0 E W => ∃  (c0 : fz) (g0 : List (Nat × Obj)), fw c3 c0 ∧ ST false fO w W c0 ((i, Obj.cells (#[(.int .i64 (((c.2).eY).Kind)), (.string ((((c.2).eY).Head).eZ)), (.string ((((c.2).eY).Head).fg)), (.string (((c.2).eY).fu)), (.string ((((c.2).eY).B).eZ)), (.string ((((c.2).eY).B).fg)), (.string ((((c.2).eY).C).eZ)), (.string ((((c.2).eY).C).fg)), (.string (((c.2).eY).fB)), K] : Array Value) 38 (0, 0)) :: ((z, Obj.cells (#[(.int .i64 (((a.1).eY).Kind)), (.string ((((a.1).eY).Head).eZ)), (.string ((((a.1).eY).Head).fg)), (.string (((a.1).eY).fu)), (.string ((((a.1).eY).B).eZ)), (.string ((((a.1).eY).B).fg)), (.string ((((a.1).eY).C).eZ)), (.string ((((a.1).eY).C).fg)), (.string (((a.1).eY).fB)), (.slice j ((a.1).Tag).length k)] : Array Value) 38 (0, 0)) :: g0)) ∧ E 0 = (.bool false) ∧ E 6 = (.pointer (some ⟨z, 0, none⟩)) ∧ E 11 = (.bool a5.1) ∧ E 12 = (.pointer (some ⟨i, 0, none⟩)) ∧ E 13 = (.int .i64 c.1) ∧ E 99 = (.bool m0)) 9 ?_ (fun m0 a0 d5 => ?_))
       ·rintro x7 E W ⟨c0, g0, d1, d, k7, k8, q6, k9, l0, q7⟩ n8
        refine V (fi q7) (LJ n8 (fun l9 E W => ∃  (g1 : List (Nat × Obj)), ST false fO w W c0 ((i, Obj.cells (#[(.int .i64 (((c.2).eY).Kind)), (.string ((((c.2).eY).Head).eZ)), (.string ((((c.2).eY).Head).fg)), (.string (((c.2).eY).fu)), (.string ((((c.2).eY).B).eZ)), (.string ((((c.2).eY).B).fg)), (.string ((((c.2).eY).C).eZ)), (.string ((((c.2).eY).C).fg)), (.string (((c.2).eY).fB)), K] : Array Value) 38 (0, 0)) :: ((z, Obj.cells (#[(.int .i64 (((a.1).eY).Kind)), (.string ((((a.1).eY).Head).eZ)), (.string ((((a.1).eY).Head).fg)), (.string (((a.1).eY).fu)), (.string ((((a.1).eY).B).eZ)), (.string ((((a.1).eY).B).fg)), (.string ((((a.1).eY).C).eZ)), (.string ((((a.1).eY).C).fg)), (.string (((a.1).eY).fB)), (.slice j ((a.1).Tag).length k)] : Array Value) 38 (0, 0)) :: g1)) ∧ E 0 = (.bool false) ∧ E 6 = (.pointer (some ⟨z, 0, none⟩)) ∧ E 12 = (.pointer (some ⟨i, 0, none⟩)) ∧ E 13 = (.int .i64 c.1) ∧ E 102 = (.bool l9)) 2 ?_ (fun l9 b4 d4 => ?_))
        ·rintro x8 E W ⟨g1, d, l1, l2, l3, q8, q9⟩ n9
         refine V (fi q9) (LJ n9 (fun l8 E W => ∃  (g2 : List (Nat × Obj)), ST false fO w W c0 ((i, Obj.cells (#[(.int .i64 (((c.2).eY).Kind)), (.string ((((c.2).eY).Head).eZ)), (.string ((((c.2).eY).Head).fg)), (.string (((c.2).eY).fu)), (.string ((((c.2).eY).B).eZ)), (.string ((((c.2).eY).B).fg)), (.string ((((c.2).eY).C).eZ)), (.string ((((c.2).eY).C).fg)), (.string (((c.2).eY).fB)), K] : Array Value) 38 (0, 0)) :: ((z, Obj.cells (#[(.int .i64 (((a.1).eY).Kind)), (.string ((((a.1).eY).Head).eZ)), (.string ((((a.1).eY).Head).fg)), (.string (((a.1).eY).fu)), (.string ((((a.1).eY).B).eZ)), (.string ((((a.1).eY).B).fg)), (.string ((((a.1).eY).C).eZ)), (.string ((((a.1).eY).C).fg)), (.string (((a.1).eY).fB)), (.slice j ((a.1).Tag).length k)] : Array Value) 38 (0, 0)) :: g2)) ∧ E 0 = (.bool false) ∧ E 6 = (.pointer (some ⟨z, 0, none⟩)) ∧ E 12 = (.pointer (some ⟨i, 0, none⟩)) ∧ E 106 = (.bool l8)) 3 ?_ (fun l8 b3 d3 => ?_))
         ·rintro x9 E W ⟨g2, d, l4, r0, r1, r2⟩ o0
          refine V (fi r2) (LJ o0 (fun l7 E W => ∃  (g3 : List (Nat × Obj)), ST false fO w W c0 g3 ∧ E 0 = (.bool false) ∧ E 111 = (.bool l7)) 4 ?_ (fun l7 Z d2 => ?_))
          ·rintro y0 E W ⟨g3, d, v4, r3⟩ o1
           refine V (gf r3) (fK (fq (ga ?_)))
           have h := sj o1; subst h
           exact rP d
          refine bC Z (fun J Z => ?_) (fun J Z => ?_)
          ·refine Vg rfl (cB J) (fh r1 (ft d.has Mh [(.int .i64 (((c.2).eY).Kind)), (.string ((((c.2).eY).Head).eZ)), (.string ((((c.2).eY).Head).fg)), (.string (((c.2).eY).fu)), (.string ((((c.2).eY).B).eZ)), (.string ((((c.2).eY).B).fg)), (.string ((((c.2).eY).C).eZ)), (.string ((((c.2).eY).C).fg)), (.string (((c.2).eY).fB)), K] rfl cy bh)) (Vg rfl (cB J) (fh r0 (ft d.has (Mt Mh) [(.int .i64 (((a.1).eY).Kind)), (.string ((((a.1).eY).Head).eZ)), (.string ((((a.1).eY).Head).fg)), (.string (((a.1).eY).fu)), (.string ((((a.1).eY).B).eZ)), (.string ((((a.1).eY).B).fg)), (.string ((((a.1).eY).C).eZ)), (.string ((((a.1).eY).C).fg)), (.string (((a.1).eY).fB)), (.slice j ((a.1).Tag).length k)] rfl cy bh)) (bS Z fun w2 o5 Z => sE rfl (cB J) (Eg d call14 (fQ.gM (rR c.2 K (⟨(a.1).eY, (a.1).Tag⟩ : fA) (.slice j ((a.1).Tag).length k) _ _ (p3.mono (Pl.mono _) ((b2.trans d1).trans d.fH)) (a7.mono (Pl.mono _) (((((((((M.trans N).trans Q).trans D).trans G).trans H).trans I).trans b2).trans d1).trans d.fH)) o5)) (fun u8 d => V (fy (cB J) rfl) ?_))))
           have h := sj Z; subst h
           exact d2 _ _ ⟨_, (d.fc (Db (Db St))), l4, rfl⟩
          refine Vn rfl (cB J) (Vn rfl (cB J) (Vn rfl (cB J) (V (fx (cB J) rfl) ?_)))
          have h := sj Z; subst h
          exact d2 _ _ ⟨_, (d.fc (Db (Db St))), l4, rfl⟩
         refine bC b3 (fun Y b3 => ?_) (fun Y b3 => ?_)
         ·refine Vg rfl (cB Y) (fi q8) (Vg rfl (cB Y) (fY rfl rfl rfl) (V (fy (cB Y) rfl) ?_))
          have h := sj b3; subst h
          exact d3 _ _ ⟨_, (d.fc St), l1, l2, l3, rfl⟩
         refine Vn rfl (cB Y) (Vn rfl (cB Y) (V (fx (cB Y) rfl) ?_))
         have h := sj b3; subst h
         exact d3 _ _ ⟨_, (d.fc St), l1, l2, l3, rfl⟩
        refine bC b4 (fun b0 b4 => ?_) (fun b0 b4 => ?_)
        ·refine Vg rfl (cB b0) (fi q6) (V (fy (cB b0) rfl) ?_)
         have h := sj b4; subst h
         exact d4 _ _ ⟨_, (d.fc St), k7, k8, k9, l0, rfl⟩
        refine Vn rfl (cB b0) (V (fx (cB b0) rfl) ?_)
        have h := sj b4; subst h
        exact d4 _ _ ⟨_, (d.fc St), k7, k8, k9, l0, rfl⟩
       refine bC a0 (fun g a0 => ?_) (fun g a0 => ?_)
       ·refine Vg rfl (cB g) (fi q3) (Vg rfl (cB g) (fh e8 (ft d.has (Mt Mh) [(.int .i64 (((a.1).eY).Kind)), (.string ((((a.1).eY).Head).eZ)), (.string ((((a.1).eY).Head).fg)), (.string (((a.1).eY).fu)), (.string ((((a.1).eY).B).eZ)), (.string ((((a.1).eY).B).fg)), (.string ((((a.1).eY).C).eZ)), (.string ((((a.1).eY).C).fg)), (.string (((a.1).eY).fB)), (.slice j ((a.1).Tag).length k)] rfl cy bh)) (Vg rfl (cB g) (fh q4 (ft d.has (Mt (Mt Mh)) (fa K7) rfl aT aA)) (Vg rfl (cB g) (gX (qs := #[(0, (.agg (fa K7).toArray))]) (v := (.agg C3.toArray)) (iD rfl) (gr bA bt (rr _ bt) (by kernel_rfl))) (sE rfl (cB g) (fS (qs := #[(0, (.agg #[(.int .i64 (((a.1).eY).Kind)), (.string ((((a.1).eY).Head).eZ)), (.string ((((a.1).eY).Head).fg)), (.string (((a.1).eY).fu)), (.string ((((a.1).eY).B).eZ)), (.string ((((a.1).eY).B).fg)), (.string ((((a.1).eY).C).eZ)), (.string ((((a.1).eY).C).fg)), (.string (((a.1).eY).fB)), (.slice j ((a.1).Tag).length k)])), (1, (.agg C3.toArray))]) (cs := #[(.int .i64 (((a.1).eY).Kind)), (.string ((((a.1).eY).Head).eZ)), (.string ((((a.1).eY).Head).fg)), (.string (((a.1).eY).fu)), (.string ((((a.1).eY).B).eZ)), (.string ((((a.1).eY).B).fg)), (.string ((((a.1).eY).C).eZ)), (.string ((((a.1).eY).C).fg)), (.string (((a.1).eY).fB)), (.slice j ((a.1).Tag).length k), (.int .i64 1), (.string (K5.eZ)), (.string (K5.fg)), (.string K3), (.string (K0.eZ)), (.string (K0.fg)), (.string (K0.eZ)), (.string (K0.fg)), (.string zS), (.slice none 0 0)]) d (lU rfl rfl) (mF [(.agg #[(.int .i64 (((a.1).eY).Kind)), (.string ((((a.1).eY).Head).eZ)), (.string ((((a.1).eY).Head).fg)), (.string (((a.1).eY).fu)), (.string ((((a.1).eY).B).eZ)), (.string ((((a.1).eY).B).fg)), (.string ((((a.1).eY).C).eZ)), (.string ((((a.1).eY).C).fg)), (.string (((a.1).eY).fB)), (.slice j ((a.1).Tag).length k)]), (.agg C3.toArray)] cP bh bA (by decide) rfl (by intro v q; simp only [aC, bk, cI] at q; rcases q with rfl | rfl <;> rfl) rfl rfl) (fun u9 p5 d => bS a0 fun w3 o6 a0 => sE rfl (cB g) (mg d call11 (mq L f3.1 (.slice (some ⟨p5, 0, none⟩) 2 2) ([(⟨(a.1).eY, (a.1).Tag⟩ : fA), (⟨K7, []⟩ : fA)]) _ _ (d0.mono gx (((((((((((c1.trans c2).trans c6).trans M).trans N).trans Q).trans D).trans G).trans H).trans I).trans b2).trans d.fH)) ((kq.lit oy (l := [(⟨(a.1).eY, (a.1).Tag⟩ : fA), (⟨K7, []⟩ : fA)]) (.cons (ys := [(.int .i64 (((a.1).eY).Kind)), (.string ((((a.1).eY).Head).eZ)), (.string ((((a.1).eY).Head).fg)), (.string (((a.1).eY).fu)), (.string ((((a.1).eY).B).eZ)), (.string ((((a.1).eY).B).fg)), (.string ((((a.1).eY).C).eZ)), (.string ((((a.1).eY).C).fg)), (.string (((a.1).eY).fB)), (.slice j ((a.1).Tag).length k)]) (ic.mk ⟨(.slice j ((a.1).Tag).length k), rfl, (a7.mono (Pl.mono _) (((((((M.trans N).trans Q).trans D).trans G).trans H).trans I).trans b2))⟩) (.cons (ys := C3) (ic.mk ⟨(.slice none 0 0), rfl, (Sl.nil _ _ _)⟩) .nil)) rfl nb rfl).sl oy d.fH (fun b o hq => (by rw [bc] at hq; cases hq; exact d.at_ Mh))) o6) (fun v0 w9 t0 u0 d l5 c4 m9 => Vg rfl (cB g) (ke aD rfl m9) (Vg rfl (cB g) (fY rfl rfl rfl) (V (fy (cB g) rfl) ?_))))))))))
        have h := sj a0; subst h
        exact d5 _ _ ⟨t0, _, l5, (d.fc (Dr (Db (Kb (Kb (Db St)))))), k3, e8, k4, k5, k6, rfl⟩
       refine Vn rfl (cB g) (Vn rfl (cB g) (Vn rfl (cB g) (Vn rfl (cB g) (Vn rfl (cB g) (Vn rfl (cB g) (Vn rfl (cB g) (Vn rfl (cB g) (V (fx (cB g) rfl) ?_))))))))
       have h := sj a0; subst h
       exact d5 _ _ ⟨c3, _, (fw.refl _), (d.fc (Kb (Kb (Db St)))), k3, e8, k4, k5, k6, rfl⟩
      refine bC R (fun y R => ?_) (fun y R => ?_)
      ·refine Vg rfl (cB y) (fi e7) (bS R fun w4 o7 R => sE rfl (cB y) (mg d call10 (lP L f3.1 _ _ (d0.mono gx ((((((((((c1.trans c2).trans c6).trans M).trans N).trans Q).trans D).trans G).trans H).trans I).trans d.fH)) o7) (fun v1 x0 t1 u1 d l6 c5 n0 => Vg rfl (cB y) (ke bH rfl n0) (Vg rfl (cB y) (fY rfl rfl rfl) (V (fy (cB y) rfl) ?_)))))
       have h := sj R; subst h
       exact d6 _ _ ⟨t1, _, l6, (d.fc (Dr St)), j7, e7, j8, j9, k0, k1, k2, rfl⟩
      refine Vn rfl (cB y) (Vn rfl (cB y) (Vn rfl (cB y) (Vn rfl (cB y) (V (fx (cB y) rfl) ?_))))
      have h := sj R; subst h
      exact d6 _ _ ⟨a8, _, (fw.refl _), (d.fc St), j7, e7, j8, j9, k0, k1, k2, rfl⟩
     refine bC a2 (fun x a2 => ?_) (fun x a2 => ?_)
     ·refine Vg rfl (cB x) (fi q0) (Vg rfl (cB x) (fh e6 (ft d.has (Mt Mh) [(.int .i64 (((a.1).eY).Kind)), (.string ((((a.1).eY).Head).eZ)), (.string ((((a.1).eY).Head).fg)), (.string (((a.1).eY).fu)), (.string ((((a.1).eY).B).eZ)), (.string ((((a.1).eY).B).fg)), (.string ((((a.1).eY).C).eZ)), (.string ((((a.1).eY).C).fg)), (.string (((a.1).eY).fB)), (.slice j ((a.1).Tag).length k)] rfl cy bh)) (bS a2 fun w5 o8 a2 => sE rfl (cB x) (Eg d call9 (fQ.gM (ja e2 t3.1 (⟨(a.1).eY, (a.1).Tag⟩ : fA) (.slice j ((a.1).Tag).length k) _ _ (p1.mono gx ((((D.trans G).trans H).trans I).trans d.fH)) (a7.mono (Pl.mono _) (((((((M.trans N).trans Q).trans D).trans G).trans H).trans I).trans d.fH)) o8)) (fun v2 d => Vg rfl (cB x) (fY rfl rfl rfl) (V (fy (cB x) rfl) ?_)))))
      have h := sj a2; subst h
      exact d7 _ _ ⟨_, (d.fc St), i9, j0, j3, e6, j4, j5, j6, rfl⟩
     refine Vn rfl (cB x) (Vn rfl (cB x) (Vn rfl (cB x) (Vn rfl (cB x) (V (fx (cB x) rfl) ?_))))
     have h := sj a2; subst h
     exact d7 _ _ ⟨_, (d.fc St), i9, j0, j3, e6, j4, j5, j6, rfl⟩
    refine bC a3 (fun u a3 => ?_) (fun u a3 => ?_)
    ·refine Vg rfl (cB u) (fi e4) (Vg rfl (cB u) (fh e5 (ft d.has (Mt Mh) [(.int .i64 (((a.1).eY).Kind)), (.string ((((a.1).eY).Head).eZ)), (.string ((((a.1).eY).Head).fg)), (.string (((a.1).eY).fu)), (.string ((((a.1).eY).B).eZ)), (.string ((((a.1).eY).B).fg)), (.string ((((a.1).eY).C).eZ)), (.string ((((a.1).eY).C).fg)), (.string (((a.1).eY).fB)), (.slice j ((a.1).Tag).length k)] rfl cy bh)) (bS a3 fun w6 o9 a3 => sE rfl (cB u) (Eg d call9 (fQ.gM (ja L f3.1 (⟨(a.1).eY, (a.1).Tag⟩ : fA) (.slice j ((a.1).Tag).length k) _ _ (d0.mono gx ((((((((((c1.trans c2).trans c6).trans M).trans N).trans Q).trans D).trans G).trans H).trans I).trans d.fH)) (a7.mono (Pl.mono _) (((((((M.trans N).trans Q).trans D).trans G).trans H).trans I).trans d.fH)) o9)) (fun v3 d => Vg rfl (cB u) (fY rfl rfl rfl) (V (fy (cB u) rfl) ?_)))))
     have h := sj a3; subst h
     exact d8 _ _ ⟨_, (d.fc St), i3, e4, i4, e5, i5, i6, i7, i8, rfl⟩
    refine Vn rfl (cB u) (Vn rfl (cB u) (Vn rfl (cB u) (Vn rfl (cB u) (V (fx (cB u) rfl) ?_))))
    have h := sj a3; subst h
    exact d8 _ _ ⟨_, (d.fc St), i3, e4, i4, e5, i5, i6, i7, i8, rfl⟩
   refine bC b5 (fun t b5 => ?_) (fun t b5 => ?_)
   ·refine Vg rfl (cB t) (fj oW e3) (Vg rfl (cB t) (fh rfl (fF d.has (Mt Mh) rfl bT)) (Vg rfl (cB t) (gv az rfl a7) (Vg rfl (cB t) (fY rfl rfl rfl) (V (fy (cB t) rfl) ?_))))
    have h := sj b5; subst h
    exact d9 _ _ ⟨_, (d.fc St), h6, h7, h8, e3, h9, i0, i1, i2, rfl⟩
   refine Vn rfl (cB t) (Vn rfl (cB t) (Vn rfl (cB t) (Vn rfl (cB t) (V (fx (cB t) rfl) ?_))))
   have h := sj b5; subst h
   exact d9 _ _ ⟨_, (d.fc St), h6, h7, h8, e3, h9, i0, i1, i2, rfl⟩
  refine bC b6 (fun U b6 => ?_) (fun U b6 => ?_)
  ·refine Vg rfl (cB U) (fi p6) (Vg rfl (cB U) (fY rfl rfl rfl) (V (fy (cB U) rfl) ?_))
   have h := sj b6; subst h
   exact e0 _ _ ⟨_, (d.fc St), g8, g9, h0, h1, h2, h3, h4, h5, rfl⟩
  refine Vn rfl (cB U) (Vn rfl (cB U) (V (fx (cB U) rfl) ?_))
  have h := sj b6; subst h
  exact e0 _ _ ⟨_, (d.fc St), g8, g9, h0, h1, h2, h3, h4, h5, rfl⟩
 refine bC b7 (fun T b7 => ?_) (fun T b7 => ?_)
 ·refine Vg rfl (cB T) (fi rfl) (Vg rfl (cB T) (fY rfl rfl rfl) (V (fy (cB T) rfl) ?_))
  have h := sj b7; subst h
  exact e1 _ _ ⟨_, (d.fc St), rfl, rfl, rfl, rfl, rfl, rfl, rfl, rfl, rfl, rfl⟩
 refine Vn rfl (cB T) (Vn rfl (cB T) (V (fx (cB T) rfl) ?_))
 have h := sj b7; subst h
 exact e1 _ _ ⟨_, (d.fc St), rfl, rfl, rfl, rfl, rfl, rfl, rfl, rfl, rfl, rfl⟩
theorem uX (k : Value) (u : List eY) (r : Int) (w : World) (j : Sl (Pl fa) 9 (hp w) k u) (hm : pa u = some r) :
  fQ true pg0 30 [k] w (.int .i64 r) := by
 refine cG 54 func30 rfl (fun d => sg (Wa (lr (Wa (lS (Wm ?_))))))
 refine V (gv aD rfl j) (Wm (ln (gP (fun i E W => ∃ g t, (E 8 = .int .i64 (i : Nat) ∧ E 7 = .int .i64 (u.length : Nat)) ∧ ST true fO w W (hp w) t ∧ E 3 = (.int .i64 g) ∧ E 6 = k ∧ kK (u.drop i) g = some r) u.length j.len ⟨0, _, ⟨rfl, rfl⟩, (d.fc St), rfl, rfl, hm⟩ dc dc dc (fun _ _ _ h => by obtain ⟨_, _, o, _⟩ := h; exact o) ?_ ?_)))
 ·rintro I E W z ⟨g, t, ⟨n, p⟩, d, x, y, c⟩
  obtain ⟨a, J, G, D, H⟩ := gC z
  rw [G] at c
  refine bg (VQ (kf (enc := fa) (i := (I : Int)) (x0 := a) aD aA y n j (aQ _) D) (fun Q B => V (fh rfl (iX d.has B aT aA)) (VE (gq d bz (fun K N d => VO (fM (.agg (fa a).toArray) ((fa a).toArray) d rfl rfl aA (iH a) nb rfl (fun M d => ln (fm (Wh x (Wf mB (Wf je (VB d Mh rfl rfl aZ (V (iL aH rfl) ?_)))))))))))))
  refine Wi rfl (Wf mB (Wf mX (VB d Mh rfl rfl aZ (V (iL aH rfl) (Wi rfl (Wf nQ (VB d Mh rfl rfl aZ (V (iL aH rfl) (Wi rfl (Wf iz (Wf je (VB d Mh rfl rfl aZ (V (iL aH rfl) (Wi rfl ?_))))))))))))))
  refine Wf iz (Wf mX (VB d Mh rfl rfl aZ (V (iL aH rfl) (Wi rfl (Wf lu (Wf je (VB d Mh rfl rfl aZ (V (iL aH rfl) (Wi rfl (Wf lu (Wf mX (VB d Mh rfl rfl aZ (V (iL aH rfl) (Wi rfl ?_))))))))))))))
  refine Wf ng (VB d Mh rfl rfl aZ (V (iL aH rfl) (Wi rfl (Wi rfl (Wa (fK (gk (fq ?_))))))))
  replace d := d.fc (Db St)
  exact ⟨n, (wi0 .i64 (g + (wi0 .i64 ((wi0 .i64 ((wi0 .i64 ((wi0 .i64 ((wi0 .i64 ((wi0 .i64 ((wi0 .i64 ((wi0 .i64 (20 + (a.Head.eZ.size : Int))) + (a.Head.fg.size : Int))) + (a.fu.size : Int))) + (a.B.eZ.size : Int))) + (a.B.fg.size : Int))) + (a.C.eZ.size : Int))) + (a.C.fg.size : Int))) + (a.fB.size : Int))))), _, ⟨rfl, p⟩, (d.fc St), rfl, y, (by rw [H]; exact c)⟩
 rintro E W ⟨g, t, ⟨n, p⟩, d, x, y, c⟩
 rw [aU] at c
 exact fq (sg (Wh x (Wa (lt (rQ c d)))))
theorem uN (H : Value) (Q : List Key) (u : Value) (J : List fA) (r : Int) (w : World) (B : Sl ie 2 (hp w) H Q) (D : Sl ic 10 (hp w) u J) (hm : pe Q J = some r) :
  fQ true pg0 6 [H, u] w (.int .i64 r) := by
 refine cG 45 func6 rfl (fun d => sg (Wa (lr (Wa (lS (Wm ?_))))))
 refine V (gv bG rfl B) (Wm (ln (gP (fun i E W => ∃ t N, (E 12 = .int .i64 (i : Nat) ∧ E 11 = .int .i64 (Q.length : Nat)) ∧ ST true fO w W (hp w) N ∧ E 1 = u ∧ E 5 = (.int .i64 t) ∧ E 10 = H ∧ jC J (Q.drop i) t = some r) Q.length B.len ⟨0, _, ⟨rfl, rfl⟩, (d.fc St), rfl, rfl, rfl, hm⟩ dc dc dc (fun _ _ _ h => by obtain ⟨_, _, p, _⟩ := h; exact p) ?_ ?_)))
 ·rintro c3 E W b5 ⟨t, N, ⟨o, q⟩, d, U, Y, Z, g⟩
  obtain ⟨k, d4, b9, b7, c0⟩ := gC b5
  rw [b9] at g
  refine bg (VQ (lK (i := (c3 : Int)) (x0 := k) ie.out bG bX Z o B (aQ _) b7) (fun d8 ⟨_, ⟨d9, rfl, a2⟩, b6⟩ => V (fh rfl (iX d.has b6 isAgg72 bX)) (VE (gq d cr (fun d5 d7 d => ?_)))))
  obtain ⟨v, A, rfl⟩ := a2.form
  refine VO (fM (.agg #[(.string k.fu), (.slice v k.Key.length A)]) (#[(.string k.fu), (.slice v k.Key.length A)]) d rfl rfl bX oc nb rfl (fun d6 d => ln (fm (Wh Y (Wf nP (VB d Mh rfl rfl aZ (V (iL aH rfl) (Wi rfl (Wf pJ (VB d Mh rfl rfl bT (V (gv az rfl a2) (Wi rfl (Wi rfl (Wa ?_))))))))))))))
  refine fK (gk (fq ?_))
  replace d := d.fc (Db St)
  exact ⟨o, (wi0 .i64 (t + (wi0 .i64 ((wi0 .i64 (10 + (k.fu.size : Int))) + (k.Key.length : Int))))), _, ⟨rfl, q⟩, (d.fc St), U, rfl, Z, (by rw [c0]; exact g)⟩
 rintro E W ⟨t, N, ⟨o, q⟩, d, U, Y, Z, g⟩
 rw [aU] at g
 refine fq (fC (sg (Wh U (V (gv cP rfl D) (Wm (ln (CJ g (fun G E W => ∃ M, ST true fO w W (hp w) M ∧ E 5 = (.int .i64 G)) (fun G a5 => ?_) ?_)))))))
 ·refine gP (fun i E W => ∃ j x, (E 29 = .int .i64 (i : Nat) ∧ E 28 = .int .i64 (J.length : Nat)) ∧ ST true fO w W (hp w) x ∧ E 5 = (.int .i64 j) ∧ E 27 = u ∧ kP (J.drop i) j = some G) J.length D.len ⟨t, _, ⟨rfl, rfl⟩, (d.fc St), Y, rfl, a5⟩ dc dc dc (fun _ _ _ h => by obtain ⟨_, _, p, _⟩ := h; exact p) ?_ ?_
  ·rintro c1 E W a3 ⟨j, x, ⟨o, q⟩, d, y, z, c⟩
   obtain ⟨a, c4, a9, O, P⟩ := gC a3
   rw [a9] at c
   refine bg (VQ (lK (i := (c1 : Int)) (x0 := a) ic.out cP bh z o D (aQ _) O) (fun d0 ⟨_, ⟨d1, rfl, I⟩, F⟩ => V (fh rfl (iX d.has F cy bh)) (VE (gq d bA (fun c5 c9 d => ?_)))))
   obtain ⟨K, T, rfl⟩ := I.form
   let a0 := (C1 a.eY.Kind a.eY.Head.eZ a.eY.Head.fg a.eY.fu a.eY.B.eZ a.eY.B.fg a.eY.C.eZ a.eY.C.fg a.eY.fB K a.Tag.length T)
   refine VO (fM (.agg a0.toArray) (a0.toArray) d rfl rfl bh oc nb rfl (fun c6 d => ln ?_))
   replace d := d.drew
   have n := d.has.fc (Kb Sn)
   refine gy n gl (X 0 rfl n (fi y) (X 1 rfl n (fj lY rfl) (XH 2 rfl n (fun _ s => fh rfl (ft s Mh (fa a.eY) rfl aT aA)) (X 5 rfl n (fj oW rfl) (XH 6 rfl n (fun _ s => fh rfl (fF s Mh rfl bT)) (X 7 rfl n (gv az rfl I) (XE 3 rfl (fS (cs := (fa a.eY).toArray) d (iD rfl) (kR aD aA bz) (fun c7 R d => ?_)))))))))
   have n := d.has.fc (Db (Kb Sn))
   refine ⟨n, (bS c fun c2 L c => XE 4 rfl (Eg d call30 (uX (.slice (some ⟨R, 0, none⟩) 1 1) ([a.eY]) _ _ (Sl.lit (enc := fa) (l := [a.eY]) gD rfl nb rfl (d.at_ Mh)) L) (fun c8 d => ?_)))⟩
   have n := d.has.fc (Db (Kb Sn))
   refine ⟨n, (X 8 rfl n (fY rfl rfl rfl) (X 9 rfl n (fY rfl rfl rfl) (X 10 rfl n (gf rfl) (iq kr (gk (fq ?_))))))⟩
   replace d := d.fc (Db (Db St))
   exact ⟨o, (wi0 .i64 (j + (wi0 .i64 (c2 + (a.Tag.length : Int))))), _, ⟨rfl, q⟩, (d.fc St), rfl, z, (by rw [P]; exact c)⟩
  rintro E W ⟨j, x, ⟨o, q⟩, d, y, z, c⟩
  rw [aU] at c
  refine fq ?_
  obtain rfl := sj c
  exact ⟨_, (d.fc St), y⟩
 rintro d3 E W ⟨M, d, b4⟩ a4
 exact sg (Wh b4 (Wa (lt (rQ a4 d))))
theorem lb (M : ByteArray) (r : Bool) (w : World) (hm : iU M = some r) :
  fQ true pg0 33 [(.string M)] w (.bool r) := by
 refine cG 49 func33 rfl (fun d => sg (Wa (lS (Wm (V (jb rfl rfl rfl) (Wm (LJ hm (fun c7 E W => ∃ L3, ST true fO w W (hp w) L3 ∧ E 0 = (.string M) ∧ E 11 = (.bool c7)) 4 ?_ (fun c7 K a5 => ?_))))))))
 ·rintro x2 E W ⟨L3, d, q, e6⟩ f7
  refine Wh e6 (LJ f7 (fun c6 E W => ∃ d3, ST true fO w W (hp w) d3 ∧ E 0 = (.string M) ∧ E 16 = (.bool c6)) 4 ?_ (fun c6 x a4 => ?_))
  ·rintro g4 E W ⟨d3, d, p, f4⟩ f0
   refine Wh f4 (LJ f0 (fun c5 E W => ∃ d4, ST true fO w W (hp w) d4 ∧ E 0 = (.string M) ∧ E 21 = (.bool c5)) 4 ?_ (fun c5 u a3 => ?_))
   ·rintro g5 E W ⟨d4, d, f5, f6⟩ Q
    refine ln (CI Q f6 (fun e9 Q => ?_) (fun e9 Q => ?_))
    ·refine sg (Wa (lt (fN ?_)))
     obtain rfl := sj Q
     exact rP d
    refine kS (Wa (ln (iM (lm (fun m E W => ∃ y F, ST true fO w W (hp w) F ∧ E 0 = (.string M) ∧ E 3 = (.int .i64 y) ∧ iV M m y = some r) ib ⟨0, _, (d.fc St), f5, rfl, Q⟩ ?_))))
    rintro m E W ⟨y, F, d, T, U, c⟩
    cases m with
    | zero => rw [iV] at c; cases c
    | succ f1 =>
     refine fC (sg (Wh U (Wh T (V (iL aH rfl) (Wi rfl (ln (CI c rfl (fun c8 c => ?_) (fun c8 c => ?_))))))))
     ·refine kn (fC (bg (Wh T (Wh U (bS c fun h a9 c => V (om (i := y) aH rfl rfl (nw a9) (pA a9)) (Wa (lr ?_)))))))
      refine Wm (Wi rfl (Wm (LJ c (fun c4 E W => ∃ L, ST true fO w W (hp w) L ∧ E 0 = (.string M) ∧ E 3 = (.int .i64 y) ∧ E 4 = (.int .u8 (h.toNat : Int)) ∧ E 36 = (.bool c4)) 3 ?_ (fun c4 J a2 => ?_))))
      ·rintro f2 E W ⟨L, d, n, o, N, d5⟩ d0
       refine Wh d5 (LJ d0 (fun c2 E W => ∃ O, ST true fO w W (hp w) O ∧ E 0 = (.string M) ∧ E 3 = (.int .i64 y) ∧ E 4 = (.int .u8 (h.toNat : Int)) ∧ E 44 = (.bool c2)) 7 ?_ (fun c2 H Z => ?_))
       ·rintro g1 E W ⟨O, d, b9, c0, d6, d7⟩ d1
        refine Wh d7 (LJ d1 (fun c1 E W => ∃ P, ST true fO w W (hp w) P ∧ E 0 = (.string M) ∧ E 3 = (.int .i64 y) ∧ E 48 = (.bool c1)) 3 ?_ (fun c1 G Y => ?_))
        ·rintro g2 E W ⟨P, d, d8, d9, e0⟩ D
         refine ln (CI D e0 (fun c9 D => ?_) (fun c9 D => ?_))
         ·refine sg (Wa (lt (gU (fN (fN (gU (fN ?_)))))))
          obtain rfl := sj D
          exact rP d
         exact gp (gk (fq (fm (Wh d9 (Wi rfl (Wa (ln ⟨f1, bE _, (wi0 .i64 (y + 1)), _, (d.fc St), d8, rfl, D⟩)))))))
        refine bC G (fun k G => ?_) (fun k G => ?_)
        ·refine ug k (fi d6) (ug k (fY rfl rfl rfl) (V (fy (cB k) rfl) ?_))
         obtain rfl := sj G
         exact Y _ _ ⟨_, (d.fc St), b9, c0, rfl⟩
        refine un k (un k (V (fx (cB k) rfl) ?_))
        obtain rfl := sj G
        exact Y _ _ ⟨_, (d.fc St), b9, c0, rfl⟩
       refine bC H (fun a H => ?_) (fun a H => ?_)
       ·refine ug a (fi N) (ug a (fY rfl rfl rfl) (ug a (fi rfl) (LJ H (fun c3 E W => ∃ R, ST true fO w W (hp w) R ∧ E 0 = (.string M) ∧ E 3 = (.int .i64 y) ∧ E 4 = (.int .u8 (h.toNat : Int)) ∧ E 37 = (.bool f2) ∧ E 43 = (.bool c3)) 3 ?_ (fun c3 I s => ?_))))
        ·rintro g3 E W ⟨R, d, e1, e2, e3, e4, e7⟩ d2
         refine V (fy (e4.trans (cB a)) e7) ?_
         obtain rfl := sj d2
         exact Z _ _ ⟨_, (d.fc St), e1, e2, e3, rfl⟩
        refine bC I (fun t I => ?_) (fun t I => ?_)
        ·refine un t (un t (ug a (fy (cB t) rfl) ?_))
         obtain rfl := sj I
         exact s _ _ ⟨_, (d.fc St), n, o, N, rfl, rfl⟩
        refine ug t (fi N) (ug t (fY rfl rfl rfl) (ug a (fx (cB t) rfl) ?_))
        obtain rfl := sj I
        exact s _ _ ⟨_, (d.fc St), n, o, N, rfl, rfl⟩
       refine un a (un a (un a (Vu rfl rfl (Vu rfl rfl (un a (V (fx (cB a) rfl) ?_))))))
       obtain rfl := sj H
       exact Z _ _ ⟨_, (d.fc St), n, o, N, rfl⟩
      refine bC J (fun j J => ?_) (fun j J => ?_)
      ·refine un j (un j (V (fy (cB j) rfl) ?_))
       obtain rfl := sj J
       exact a2 _ _ ⟨_, (d.fc St), T, U, rfl, rfl⟩
      refine ug j (fi rfl) (ug j (fY rfl rfl rfl) (V (fx (cB j) rfl) ?_))
      obtain rfl := sj J
      exact a2 _ _ ⟨_, (d.fc St), T, U, rfl, rfl⟩
     exact mC (lW (lW (qm (fq (sg (Wa (lt (rQ c d))))))))
   refine bC u (fun g u => ?_) (fun g u => ?_)
   ·refine un g (un g (un g (V (fy (cB g) rfl) ?_)))
    obtain rfl := sj u
    exact a3 _ _ ⟨_, (d.fc St), p, rfl⟩
   refine ug g (fi p) (bS u fun f8 v u => ug g (om (i := 0) aH rfl rfl (nw v) (pA v)) (ug g (fY rfl rfl rfl) (V (fx (cB g) rfl) ?_)))
   obtain rfl := sj u
   exact a3 _ _ ⟨_, (d.fc St), p, rfl⟩
  refine bC x (fun B x => ?_) (fun B x => ?_)
  ·refine un B (un B (un B (V (fy (cB B) rfl) ?_)))
   obtain rfl := sj x
   exact a4 _ _ ⟨_, (d.fc St), q, rfl⟩
  refine ug B (fi q) (bS x fun f9 A x => ug B (om (i := 0) aH rfl rfl (nw A) (pA A)) (ug B (fY rfl rfl rfl) (V (fx (cB B) rfl) ?_)))
  obtain rfl := sj x
  exact a4 _ _ ⟨_, (d.fc St), q, rfl⟩
 refine bC K (fun z K => ?_) (fun z K => ?_)
 ·refine un z (un z (un z (V (fy (cB z) rfl) ?_)))
  obtain rfl := sj K
  exact a5 _ _ ⟨_, (d.fc St), rfl, rfl⟩
 refine ug z (fi rfl) (ug z (iL aH rfl) (ug z (fY rfl rfl rfl) (V (fx (cB z) rfl) ?_)))
 obtain rfl := sj K
 exact a5 _ _ ⟨_, (d.fc St), rfl, rfl⟩
theorem wx (t : Value) (z : List Key) (r : Int) (w : World) (J : Sl ie 2 (hp w) t z) (hm : qv z = some r) :
  fQ true pg0 8 [t] w (.int .i64 r) := by
 let f9 : Value := (.int .i64 (z.length : Int))
 refine cG 43 func8 rfl (fun d => sg (Wa (lS (Wm (V (gv bG rfl J) (Wm (ln (gP (fun i E W => ∃ T, (E 9 = .int .i64 (i : Nat) ∧ E 8 = .int .i64 (z.length : Nat)) ∧ ST true fO w W (hp w) T ∧ E 0 = t ∧ E 7 = t ∧ kC z (z.drop i) i = some r) z.length J.len ⟨_, ⟨rfl, rfl⟩, (d.fc St), rfl, rfl, hm⟩ dc dc dc (fun _ _ _ h => by obtain ⟨_, o, _⟩ := h; exact o) ?_ ?_))))))))
 ·rintro x E W b7 ⟨T, ⟨n, p⟩, d, Y, I, a⟩
  let f7 : Value := (.int .i64 (x : Int))
  let b8 := (z.take (Int.toNat (x : Int)))
  obtain ⟨k, e4, c7, c6, c8⟩ := gC b7
  rw [c7] at a
  refine bg (Wh n (VQ (lK (i := (x : Int)) (x0 := k) ie.out bG bX I n J (aQ _) c6) (fun f2 ⟨_, ⟨f5, rfl, M⟩, c2⟩ => V (fh rfl (iX d.has c2 isAgg72 bX)) (VE (gq d cr (fun e6 G d => Wa ?_))))))
  obtain ⟨D, H, rfl⟩ := M.form
  let a0 : Value := (.slice D k.Key.length H)
  refine VO (fM (.agg #[(.string k.fu), a0]) (#[(.string k.fu), a0]) d rfl rfl bX oc nb rfl (fun e7 d => lS (Wf nP (VB d Mh rfl rfl aZ (bS a fun f4 c4 a => VE (Eg d call33 (lb k.fu _ _  c4) (fun e8 d => V (jv rfl) (ln (CI a rfl (fun R a => ?_) (fun R a => ?_))))))))))
  ·refine sg (Wa (ln ?_))
   replace d := d.fc (Db St)
   refine ga (fN (gU (fN (gU (fN ?_)))))
   obtain rfl := sj a
   exact rP d
  refine kS (Wf pJ (VB d Mh rfl rfl bT (V (gv az rfl M) (Wi rfl (Wm (LJ a (fun P E W => ∃ A, ST true fO w W (hp w) ((G, Ob #[(.string k.fu), a0] 72) :: A) ∧ E 0 = t ∧ E 3 = f7 ∧ E 4 = (.pointer (some ⟨G, 0, none⟩)) ∧ E 7 = t ∧ E 8 = f9 ∧ E 9 = f7 ∧ E 27 = (.bool P)) 5 ?_ (fun P y Q => ?_)))))))
  ·rintro f8 E W ⟨A, d, L, d2, d3, d4, d5, d6, d7⟩ u
   refine ln (CI u d7 (fun b5 u => ?_) (fun b5 u => ?_))
   ·refine sg (Wa (ln ?_))
    replace d := d.fc (Db St)
    refine ga (fN (gU (fN (gU (fN ?_)))))
    obtain rfl := sj u
    exact rP d
   refine kg (Wh L (Wh d2 (bS u fun _ s u => VQ (tw (j := (x : Int)) bG bX rfl rfl J (pp s) (pn s)) (fun e3 N => V (gv bG rfl N.1) (Wm (ln (sk (tE u (fun O E W => ∃ a9, ST true fO w W (hp w) a9 ∧ E 0 = t ∧ E 7 = t ∧ E 8 = f9 ∧ E 9 = f7) (fun O c1 K => ?_) ?_))))))))
   ·refine gP (fun i E W => ∃ U, (E 32 = .int .i64 (i : Nat) ∧ E 31 = .int .i64 (b8.length : Nat)) ∧ ST true fO w W (hp w) ((G, Ob #[(.string k.fu), a0] 72) :: U) ∧ E 0 = t ∧ E 4 = (.pointer (some ⟨G, 0, none⟩)) ∧ E 7 = t ∧ E 8 = f9 ∧ E 9 = f7 ∧ E 30 = e3 ∧ lV k (b8.drop i) = some O) b8.length N.1.len ⟨_, ⟨rfl, rfl⟩, (d.fc St), L, d3, d4, d5, d6, rfl, c1⟩ dc dc dc (fun _ _ _ h => by obtain ⟨_, o, _⟩ := h; exact o) ?_ ?_
    ·rintro e2 E W b9 ⟨U, ⟨n, p⟩, d, Z, q, a2, a3, a4, a5, g⟩
     obtain ⟨B, e5, d0, c9, d1⟩ := gC b9
     rw [d0] at g
     refine bg (VQ (lK (i := (e2 : Int)) (x0 := B) ie.out bG bX a5 n N.1 (aQ _) c9) (fun f3 ⟨_, ⟨f6, rfl, c5⟩, c3⟩ => V (fh rfl (iX d.has c3 isAgg72 bX)) (VE (gq d cr (fun e9 f1 d => ?_)))))
     obtain ⟨v, F, rfl⟩ := c5.form
     refine VO (fM (.agg #[(.string B.fu), (.slice v B.Key.length F)]) (#[(.string B.fu), (.slice v B.Key.length F)]) d rfl rfl bX oc nb rfl (fun f0 d => lr (Wf nP (VB d Mh rfl rfl aZ (V (fj nP q) (VB d (Mt Mh) rfl rfl aZ (V (jb rfl rfl rfl) (ln ?_))))))))
     replace d := d.fc (Db St)
     refine CI g rfl (fun b6 g => ?_) (fun b6 g => ?_)
     ·refine sg (Wa (ln ?_))
      replace d := d.fc (Db St)
      refine ga (gU (fN (gU (fN (gU (fN (gU (fN ?_))))))))
      obtain rfl := sj g
      replace K : some 41 = some r := K
      obtain rfl := sj K
      exact rP d
     exact gp (gk (fq ⟨n, _, ⟨rfl, p⟩, (d.fc St), Z, q, a2, a3, a4, a5, (by rw [d1]; exact g)⟩))
    rintro E W ⟨U, ⟨n, p⟩, d, Z, q, a2, a3, a4, a5, g⟩
    rw [aU] at g
    refine fq ?_
    obtain rfl := sj g
    exact ⟨_, rfl, _, (d.fc (Db St)), Z, a2, a3, a4⟩
   rintro ⟨⟩ E W ⟨a9, d, d8, d9, e0, e1⟩ c0
   exact gk (fq ⟨e1, _, ⟨rfl, e0⟩, (d.fc St), d8, d9, (by rw [c8]; exact c0)⟩)
  refine bC y (fun c y => ?_) (fun c y => ?_)
  ·refine un c (un c (un c (un c (V (fy (cB c) rfl) ?_))))
   obtain rfl := sj y
   exact Q _ _ ⟨_, (d.fc St), Y, rfl, rfl, I, p, n, rfl⟩
  refine ug c (fj pJ rfl) (ug c (fh rfl (fF d.has Mh rfl bT)) (ug c (gv az rfl M) (ug c (fY rfl rfl rfl) (V (fx (cB c) rfl) ?_))))
  obtain rfl := sj y
  exact Q _ _ ⟨_, (d.fc St), Y, rfl, rfl, I, p, n, rfl⟩
 rintro E W ⟨T, ⟨n, p⟩, d, Y, I, a⟩
 rw [aU] at a
 exact fq (sg (Wa (lt (rQ a d))))
theorem pd (i : fE) (r : Bool) (w : World) (hm : la i = some r) :
  fQ true pg0 78 [(.agg (fD i).toArray)] w (.bool r) := by
 refine cG 11 func78 rfl (fun d => sg (VE (hZ d rfl (fun H J d => Wa (lr (Wf je (VB d Mh rfl rfl aZ (bS hm fun K y hm => VE (Eg d call33 (lb i.eZ _ _  y) (fun I d => Wm (LJ hm (fun k E W => ∃ j, ST true fO w W (hp w) j ∧ E 2 = (.bool false) ∧ E 10 = (.bool k)) 4 ?_ (fun k a g => ?_))))))))))))
 ·rintro G E W ⟨j, d, B, x⟩ t
  exact Wg x (lt (rQ t d))
 refine bC a (fun c a => ?_) (fun c a => ?_)
 ·refine ug c (fj mX rfl) (ug c (fh rfl (fF d.has Mh rfl aZ)) (bS a fun D u a => me c (Eg d call33 (lb i.fg _ _  u) (fun z d => V (fy (cB c) rfl) ?_))))
  obtain rfl := sj a
  exact g _ _ ⟨_, (d.fc (Db St)), rfl, rfl⟩
 refine un c (un c (un c (V (fx (cB c) rfl) ?_)))
 obtain rfl := sj a
 exact g _ _ ⟨_, (d.fc (Db St)), rfl, rfl⟩
theorem wk (t u : fE) (r : Bool) (w : World) (hm : og t u = some r) :
  fQ true pg0 79 [(.agg (fD t).toArray), (.agg (fD u).toArray)] w (.bool r) := by
 refine cG 24 func79 rfl (fun d => sg (VE (hZ d rfl (fun T Y d => VE (hZ d rfl (fun U Z d => Wa (lr (Wf je (VB d (Mt Mh) rfl rfl aZ (Wf je (VB d Mh rfl rfl aZ (V (jb rfl rfl rfl) ?_))))))))))))
 refine Wm (LJ hm (fun z E W => ∃ x, ST true fO w W (hp w) x ∧ E 4 = (.bool false) ∧ E 23 = (.bool z)) 13 ?_ (fun z g j => ?_))
 ·rintro N E W ⟨x, d, M, H⟩ D
  exact Wg H (lt (rQ D d))
 refine bC g (fun a g => ?_) (fun a g => ?_)
 ·refine un a (un a (un a (un a (un a (un a (Vu rfl rfl (Vu rfl rfl (Vu rfl rfl (Vu rfl rfl (Vu rfl rfl (un a (V (fy (cB a) rfl) ?_))))))))))))
  obtain rfl := sj g
  exact j _ _ ⟨_, (d.fc (Db (Db St))), rfl, rfl⟩
 refine ug a (fj je rfl) (ug a (fh rfl (fF d.has (Mt Mh) rfl aZ)) (ug a (fj je rfl) (ug a (fh rfl (fF d.has Mh rfl aZ)) (ug a (jb rfl rfl rfl) (ug a (fi rfl) (LJ g (fun B E W => ∃ y, ST true fO w W (hp w) y ∧ E 4 = (.bool false) ∧ E 10 = (.bool (jl t.eZ u.eZ)) ∧ E 22 = (.bool B)) 6 ?_ (fun B i k => ?_)))))))
 ·rintro Q E W ⟨y, d, I, J, K⟩ G
  refine V (fx (J.trans (cB a)) K) ?_
  obtain rfl := sj G
  exact j _ _ ⟨_, (d.fc St), I, rfl⟩
 refine bC i (fun c i => ?_) (fun c i => ?_)
 ·refine ug c (fj mX rfl) (ug c (fh rfl (fF d.has (Mt Mh) rfl aZ)) (ug c (fj mX rfl) (ug c (fh rfl (fF d.has Mh rfl aZ)) (ug c (jb rfl rfl rfl) (ug a (fy (cB c) rfl) ?_)))))
  obtain rfl := sj i
  exact k _ _ ⟨_, (d.fc (Db (Db St))), rfl, rfl, rfl⟩
 refine un c (un c (un c (un c (un c (ug a (fx (cB c) rfl) ?_)))))
 obtain rfl := sj i
 exact k _ _ ⟨_, (d.fc (Db (Db St))), rfl, rfl, rfl⟩
theorem pc (g : eY) (r : Bool) (w : World) (hm : lg g = some r) :
  fQ true pg0 46 [(.agg (fa g).toArray)] w (.bool r) := by
 refine cG 93 func46 rfl (fun d => sg (VE (hZ d rfl (fun W2 M d => Wa (lr (VE (gq d eV (fun W4 n d => lS ?_))))))))
 refine Wf mB (VA d (Mt Mh) (fD g.Head) bp aP (bS hm fun r5 h2 hm => VE (Eg d call78 (pd g.Head _ _  h2) (fun W7 d => V (jv rfl) (ln (CI hm rfl (fun h0 hm => ?_) (fun h0 hm => ?_)))))))
 ·refine sg (Wa (ln ?_))
  replace d := d.fc (Db (Db St))
  refine ga (fN ?_)
  obtain rfl := sj hm
  exact rP d
 refine kS (Wf kM (VB d (Mt Mh) rfl rfl dn (Wi rfl (ln (CI hm rfl (fun h1 hm => ?_) (fun h1 hm => ?_))))))
 ·refine sg (Wf nQ (VB d (Mt Mh) rfl rfl aZ (bS hm fun i4 f7 hm => VE (Eg d call33 (lb g.fu _ _  f7) (fun i1 d => Wm (LJ hm (fun e1 E W => ∃ c8, ST true fO w W (hp w) ((n, Ol (fD K0) 33) :: ((M, Ol (fa g) 35) :: c8)) ∧ E 1 = (.pointer (some ⟨M, 0, none⟩)) ∧ E 2 = (.bool false) ∧ E 3 = (.pointer (some ⟨n, 0, none⟩)) ∧ E 19 = (.bool e1)) 5 ?_ (fun e1 T s => ?_)))))))
  ·rintro i6 E W ⟨c8, d, o, d6, f9, g0⟩ f0
   refine Wh g0 (LJ f0 (fun e0 E W => ∃ c9, ST true fO w W (hp w) ((M, Ol (fa g) 35) :: c9) ∧ E 1 = (.pointer (some ⟨M, 0, none⟩)) ∧ E 2 = (.bool false) ∧ E 25 = (.bool e0)) 5 ?_ (fun e0 Q a5 => ?_))
   ·rintro i7 E W ⟨c9, d, g1, d7, g2⟩ f1
    refine Wh g2 (LJ f1 (fun d9 E W => ∃ d0, ST true fO w W (hp w) d0 ∧ E 2 = (.bool false) ∧ E 30 = (.bool d9)) 4 ?_ (fun d9 N a4 => ?_))
    ·rintro i8 E W ⟨d0, d, i3, g3⟩ f2
     refine Wg g3 (lt (fN ?_))
     obtain rfl := sj f2
     exact rP d
    refine bC N (fun x N => ?_) (fun x N => ?_)
    ·refine ug x (fj ng g1) (ug x (fh rfl (fF d.has Mh rfl aZ)) (ug x (jb rfl rfl rfl) (V (fy (cB x) rfl) ?_)))
     obtain rfl := sj N
     exact a4 _ _ ⟨_, (d.fc (Db St)), d7, rfl⟩
    refine un x (un x (un x (V (fx (cB x) rfl) ?_)))
    obtain rfl := sj N
    exact a4 _ _ ⟨_, (d.fc (Db St)), d7, rfl⟩
   refine bC Q (fun k Q => ?_) (fun k Q => ?_)
   ·refine ug k (fj lu o) (ug k (fh rfl (ft d.has (Mt Mh) (fD g.C) rfl bp aP)) (ug k (fh f9 (ft d.has Mh (fD K0) rfl bp aP)) (ug k (qW rfl rfl (lp eA) (oA (nD _ g.C K0))) (V (fy (cB k) rfl) ?_))))
    obtain rfl := sj Q
    exact a5 _ _ ⟨_, (d.fc (Db St)), o, d6, rfl⟩
   refine un k (un k (un k (un k (V (fx (cB k) rfl) ?_))))
   obtain rfl := sj Q
   exact a5 _ _ ⟨_, (d.fc (Db St)), o, d6, rfl⟩
  refine bC T (fun j T => ?_) (fun j T => ?_)
  ·refine ug j (fj iz rfl) (ug j (fh rfl (ft d.has (Mt Mh) (fD g.B) rfl bp aP)) (ug j (fh rfl (ft d.has Mh (fD K0) rfl bp aP)) (ug j (qW rfl rfl (lp eA) (oA (nD _ g.B K0))) (V (fy (cB j) rfl) ?_))))
   obtain rfl := sj T
   exact s _ _ ⟨_, (d.fc St), rfl, rfl, rfl, rfl⟩
  refine un j (un j (un j (un j (V (fx (cB j) rfl) ?_))))
  obtain rfl := sj T
  exact s _ _ ⟨_, (d.fc St), rfl, rfl, rfl, rfl⟩
 let a0 := ((fa g).toArray : Array Value)
 let h : Value := (.pointer (some ⟨M, 0, none⟩))
 refine kS (Wf nQ (VB d (Mt Mh) rfl rfl aZ (V (jb rfl rfl rfl) (Wm (LJ hm (fun c1 E W => ∃ d1, ST true fO w W (hp w) ((n, Ol (fD K0) 33) :: ((M, Obj.cells a0 35 (0, 0)) :: d1)) ∧ E 1 = h ∧ E 3 = (.pointer (some ⟨n, 0, none⟩)) ∧ E 39 = (.bool c1)) 5 ?_ (fun c1 I a3 => ?_))))))
 ·rintro i9 E W ⟨d1, d, u, d8, g4⟩ i
  refine ln (CI i g4 (fun e7 i => ?_) (fun e7 i => ?_))
  ·refine sg (Wa (ln ?_))
   replace d := d.fc (Db (Db St))
   refine ga (fN ?_)
   obtain rfl := sj i
   exact rP d
  refine kS (V (fj kM u) (VB d (Mt Mh) rfl rfl dn (Wi rfl (ln (CI i rfl (fun e8 i => ?_) (fun e8 i => ?_))))))
  ·refine sg (V (fj lu u) (VA d (Mt Mh) (fD g.C) bp aP (V (fh d8 (ft d.has Mh (fD K0) rfl bp aP)) (V (qW rfl rfl (lp eA) (oA (nD _ g.C K0))) (Wm (LJ i (fun e2 E W => ∃ d2, ST true fO w W (hp w) d2 ∧ E 51 = (.bool e2)) 4 ?_ (fun e2 U v => ?_)))))))
   ·rintro j0 E W ⟨d2, d, g5⟩ f3
    refine Wg g5 (lt (fN ?_))
    obtain rfl := sj f3
    exact rP d
   refine bC U (fun y U => ?_) (fun y U => ?_)
   ·refine ug y (fj ng u) (ug y (fh rfl (fF d.has (Mt Mh) rfl aZ)) (ug y (jb rfl rfl rfl) (V (fy (cB y) rfl) ?_)))
    obtain rfl := sj U
    exact v _ _ ⟨_, (d.fc (Db (Db St))), rfl⟩
   refine un y (un y (un y (V (fx (cB y) rfl) ?_)))
   obtain rfl := sj U
   exact v _ _ ⟨_, (d.fc (Db (Db St))), rfl⟩
  refine kS (V (fj kM u) (VB d (Mt Mh) rfl rfl dn (Wi rfl (ln (CI i rfl (fun e9 i => ?_) (fun e9 i => ?_))))))
  ·refine sg (V (fj lu u) (VA d (Mt Mh) (fD g.C) bp aP (V (fh d8 (ft d.has Mh (fD K0) rfl bp aP)) (V (qW rfl rfl (lp eA) (oA (nD _ g.C K0))) (Wm (LJ i (fun e4 E W => ∃ d3, ST true fO w W (hp w) ((M, Obj.cells a0 35 (0, 0)) :: d3) ∧ E 1 = h ∧ E 67 = (.bool e4)) 8 ?_ (fun e4 Y a9 => ?_)))))))
   ·rintro j3 E W ⟨d3, d, g6, g7⟩ f4
    refine Wh g7 (LJ f4 (fun e3 E W => ∃ d4, ST true fO w W (hp w) d4 ∧ E 72 = (.bool e3)) 4 ?_ (fun e3 J A => ?_))
    ·rintro j4 E W ⟨d4, d, g8⟩ f5
     refine Wg g8 (lt (fN ?_))
     obtain rfl := sj f5
     exact rP d
    refine bC J (fun z J => ?_) (fun z J => ?_)
    ·refine ug z (fj ng g6) (ug z (fh rfl (fF d.has Mh rfl aZ)) (bS J fun i5 f8 J => me z (Eg d call33 (lb g.fB _ _  f8) (fun i2 d => V (fy (cB z) rfl) ?_))))
     obtain rfl := sj J
     exact A _ _ ⟨_, (d.fc (Db St)), rfl⟩
    refine un z (un z (un z (V (fx (cB z) rfl) ?_)))
    obtain rfl := sj J
    exact A _ _ ⟨_, (d.fc (Db St)), rfl⟩
   refine bC Y (fun a Y => ?_) (fun a Y => ?_)
   ·refine ug a (fj iz u) (ug a (fj je rfl) (ug a (fh rfl (fF d.has (Mt Mh) rfl aZ)) (ug a (fj mB u) (ug a (fj je rfl) (ug a (fh rfl (fF d.has (Mt Mh) rfl aZ)) (ug a (jb rfl rfl rfl) (V (fy (cB a) rfl) ?_)))))))
    obtain rfl := sj Y
    exact a9 _ _ ⟨_, (d.fc (Db St)), u, rfl⟩
   refine un a (un a (un a (un a (un a (un a (un a (V (fx (cB a) rfl) ?_)))))))
   obtain rfl := sj Y
   exact a9 _ _ ⟨_, (d.fc (Db St)), u, rfl⟩
  refine kn ?_
  replace d := d.fc (Db St)
  refine sg (V (fj kM u) (VB d Mh rfl rfl dn (Wi rfl (Wm (LJ i (fun c0 E W => ∃ d5, ST true fO w W (hp w) ((M, Obj.cells a0 35 (0, 0)) :: d5) ∧ E 1 = h ∧ E 80 = (.bool c0)) 4 ?_ (fun c0 K a2 => ?_))))))
  ·rintro j5 E W ⟨d5, d, p, g9⟩ f6
   refine Wh g9 (LJ f6 (fun R E W => ∃ F, ST true fO w W (hp w) ((M, Obj.cells a0 35 (0, 0)) :: F) ∧ E 1 = h ∧ E 85 = (.bool R)) 4 ?_ (fun R H q => ?_))
   ·rintro h9 E W ⟨F, d, O, e5⟩ c3
    refine Wh e5 (LJ c3 (fun P E W => ∃ L, ST true fO w W (hp w) L ∧ E 92 = (.bool P)) 6 ?_ (fun P G Z => ?_))
    ·rintro i0 E W ⟨L, d, e6⟩ c4
     exact Wg e6 (lt (rQ c4 d))
    refine bC G (fun c G => ?_) (fun c G => ?_)
    ·refine ug c (fj iz O) (ug c (fh rfl (ft d.has Mh (fD g.B) rfl bp aP)) (ug c (fj lu O) (ug c (fh rfl (ft d.has Mh (fD g.C) rfl bp aP)) (bS G fun h6 c5 G => me c (Eg d call79 (wk g.B g.C _ _  c5) (fun h3 d => V (fy (cB c) rfl) ?_))))))
     obtain rfl := sj G
     exact Z _ _ ⟨_, (d.fc (Db St)), rfl⟩
    refine un c (un c (un c (un c (un c (V (fx (cB c) rfl) ?_)))))
    obtain rfl := sj G
    exact Z _ _ ⟨_, (d.fc (Db St)), rfl⟩
   refine bC H (fun D H => ?_) (fun D H => ?_)
   ·refine ug D (fj lu p) (ug D (fh rfl (ft d.has Mh (fD g.C) rfl bp aP)) (bS H fun h7 c6 H => me D (Eg d call78 (pd g.C _ _  c6) (fun h4 d => V (fy (cB D) rfl) ?_))))
    obtain rfl := sj H
    exact q _ _ ⟨_, (d.fc St), p, rfl⟩
   refine un D (un D (un D (V (fx (cB D) rfl) ?_)))
   obtain rfl := sj H
   exact q _ _ ⟨_, (d.fc St), p, rfl⟩
  refine bC K (fun B K => ?_) (fun B K => ?_)
  ·refine ug B (fj ng u) (ug B (fh rfl (fF d.has Mh rfl aZ)) (ug B (jb rfl rfl rfl) (V (fy (cB B) rfl) ?_)))
   obtain rfl := sj K
   exact a2 _ _ ⟨_, (d.fc St), u, rfl⟩
  refine un B (un B (un B (V (fx (cB B) rfl) ?_)))
  obtain rfl := sj K
  exact a2 _ _ ⟨_, (d.fc St), u, rfl⟩
 refine bC I (fun t I => ?_) (fun t I => ?_)
 ·refine un t (un t (un t (un t (V (fy (cB t) rfl) ?_))))
  obtain rfl := sj I
  exact a3 _ _ ⟨_, (d.fc St), rfl, rfl, rfl⟩
 refine ug t (fj iz rfl) (ug t (fh rfl (ft d.has (Mt Mh) (fD g.B) rfl bp aP)) (bS I fun h8 c7 I => me t (Eg d call78 (pd g.B _ _  c7) (fun h5 d => ug t (jv rfl) (V (fx (cB t) rfl) ?_)))))
 obtain rfl := sj I
 exact a3 _ _ ⟨_, (d.fc St), rfl, rfl, rfl⟩
theorem sB (k : Value) (x : List Key) (g : eY) (r : (ByteArray × Int)) (w : World) (j : Sl ie 2 (hp w) k x) (hm : nu x g = some r) :
  fQ true pg0 41 [k, (.agg (fa g).toArray)] w (.tuple #[(.string r.1), (.int .i64 r.2)]) := by
 refine cG 27 func41 rfl (fun d => sg (VE (hZ d rfl (fun W2 Q d => Wa (Wa (lS (VA d Mh (fa g) aT aA (bS hm fun s U hm => VE (Eg d call46 (pc g _ _  U) (fun W5 d => V (jv rfl) ?_))))))))))
 refine ln (CI hm rfl (fun T hm => ?_) (fun T hm => ?_))
 ·refine sg (Wa (Wa (ln ?_)))
  replace d := d.fc (Db St)
  refine ga (fN ?_)
  obtain rfl := sj hm
  exact mR (v := (.string zS)) (u := (.int .i64 11)) rfl rfl rfl ⟨rfl, d.ex⟩
 refine kS (Wm (V (gv bG rfl j) (Wm (ln (gP (fun i E W => ∃ t, (E 13 = .int .i64 (i : Nat) ∧ E 12 = .int .i64 (x.length : Nat)) ∧ ST true fO w W (hp w) ((Q, Ol (fa g) 35) :: t) ∧ E 3 = (.pointer (some ⟨Q, 0, none⟩)) ∧ E 11 = k ∧ lQ g (x.drop i) = some r) x.length j.len ⟨_, ⟨rfl, rfl⟩, (d.fc St), rfl, rfl, hm⟩ dc dc dc (fun _ _ _ h => by obtain ⟨_, o, _⟩ := h; exact o) ?_ ?_)))))
 ·rintro Y E W I ⟨t, ⟨n, p⟩, d, y, z, a⟩
  obtain ⟨c, Z, M, K, N⟩ := gC I
  rw [M] at a
  refine bg (VQ (lK (i := (Y : Int)) (x0 := c) ie.out bG bX z n j (aQ _) K) (fun a5 ⟨_, ⟨q, rfl, B⟩, J⟩ => V (fh rfl (iX d.has J isAgg72 bX)) (VE (gq d cr (fun a2 a4 d => ?_)))))
  obtain ⟨D, G, rfl⟩ := B.form
  refine VO (fM (.agg #[(.string c.fu), (.slice D c.Key.length G)]) (#[(.string c.fu), (.slice D c.Key.length G)]) d rfl rfl bX oc nb rfl (fun a3 d => lr (Wf nP (VB d Mh rfl rfl aZ (V (fj mB y) (Wf je (VB d (Mt Mh) rfl rfl aZ (V (jb rfl rfl rfl) (ln (CI a rfl (fun H a => ?_) (fun H a => ?_)))))))))))
  ·refine sg (Wf pJ (VB d Mh rfl rfl bT (V (kA az aY aH rfl (B.mono (Pl.mono _) d.fH)) (Wa (Wa (ln ?_))))))
   replace d := d.fc (Db (Db St))
   refine ga (gU (fN (gU (fN ?_))))
   obtain rfl := sj a
   exact mR (v := (.string (kF c.Key))) (u := (.int .i64 0)) rfl rfl rfl ⟨rfl, d.ex⟩
  refine gp (gk (fq ?_))
  replace d := d.fc (Db St)
  exact ⟨n, _, ⟨rfl, p⟩, (d.fc St), y, z, (by rw [N]; exact a)⟩
 rintro E W ⟨t, ⟨n, p⟩, d, y, z, a⟩
 rw [aU] at a
 refine fq ?_
 replace d := d.fc (Db St)
 refine sg (Wa (Wa (lt ?_)))
 obtain rfl := sj a
 exact mR (v := (.string zS)) (u := (.int .i64 21)) rfl rfl rfl ⟨rfl, d.ex⟩
theorem qN (x : Int) (r : ByteArray) (w : World) (hm : lZ x = some r) :
  fQ true pg0 75 [(.int .i64 x)] w (.string r) := by
 refine cG 22 func75 rfl (fun d => sg (Wa (lr (Wa (ln (fC (iM (lm (fun m E W => ∃ c j t, ST true fO w W (hp w) t ∧ E 0 = (.int .i64 c) ∧ E 3 = (.string j) ∧ ko m c j = some r) ib ⟨x, zS, _, (d.fc St), rfl, rfl, hm⟩ ?_))))))))
 rintro m E W ⟨c, j, t, d, i, u, g⟩
 let N := (Int.tmod c 128)
 cases m with
 | zero => rw [ko] at g; cases g
 | succ D =>
  refine fC (sg (Wh i (Wi rfl (ln (CI g rfl (fun y g => ?_) (fun y g => ?_))))))
  ·refine kn (bg (Wh u (Wh i (V (su (k := .i64) (a := c) (b := 128) (v := (.int .i64 N)) rfl rfl dc rfl) (Wi rfl (V (jW (k' := .i64) (a := (wi0 .i64 (128 + N))) dp aY rfl) (VE (fS (cs := [(.int .u8 (IntKind.u8.wrap (wi0 .i64 (128 + N))))].toArray) d (iD rfl) (kR az cJ cT) (fun H J d => V (kA az aY aH rfl (Sl.lit (enc := (fl .u8)) (l := [(IntKind.u8.wrap (wi0 .i64 (128 + N)))]) (fun _ => rfl) rfl nb rfl (d.at_ Mh))) (bS g fun G z g => V (nh rfl rfl z) (Wa ?_)))))))))))
   refine ln ?_
   replace d := d.fc (Db St)
   exact fm (Wh i (V (su (k := .i64) (a := c) (b := 128) (v := (.int .i64 (wi0 .i64 (Int.tdiv c 128)))) rfl rfl dc rfl) (Wa (fK (gk (fq ⟨D, bE _, (wi0 .i64 (Int.tdiv c 128)), G, _, (d.fc St), rfl, rfl, g⟩))))))
  refine mC (lW (lW (qm (fq (sg (Wh u (Wh i (V (jW (k' := .i64) (a := c) dp aY rfl) (VE (fS (cs := [(.int .u8 (IntKind.u8.wrap c))].toArray) d (iD rfl) (kR az cJ cT) (fun I K d => V (kA az aY aH rfl (Sl.lit (enc := (fl .u8)) (l := [(IntKind.u8.wrap c)]) (fun _ => rfl) rfl nb rfl (d.at_ Mh))) (bS g fun M B g => V (nh rfl rfl B) (Wa (ln ?_))))))))))))))
  exact ga (rQ g d)
theorem oq (a r : ByteArray) (w : World) (hm : kL a = some r) :
  fQ true pg0 47 [(.string a)] w (.string r) := by
 refine cG 8 func47 rfl (fun d => sg (Wa (lr (Wm (V (iL aH rfl) (bS hm fun j c hm => VE (Eg d call75 (qN (a.size : Int) _ _  c) (fun i d => Wm (bS hm fun k g hm => V (nh rfl rfl g) ?_)))))))))
 exact Wa (lt (rQ hm d))
theorem oY (a : fE) (r : ByteArray) (w : World) (hm : lh a = some r) :
  fQ true pg0 76 [(.agg (fD a).toArray)] w (.string r) := by
 refine cG 10 func76 rfl (fun d => sg (VE (hZ d rfl (fun y z d => Wa (ln (fC ?_))))))
 replace d := d.drew
 have h := d.has.fc (Kb Sn)
 refine gy h gl (X 0 rfl h (fj je rfl) (XH 1 rfl h (fun _ n => fh rfl (fF n Mh rfl aZ)) (X 3 rfl h (fj mX rfl) (XH 4 rfl h (fun _ n => fh rfl (fF n Mh rfl aZ)) (bS hm fun t c hm => XE 2 rfl (Eg d call47 (oq a.eZ _ _  c) (fun j d => ?_)))))))
 have h := d.has.fc (Kb Sn)
 refine ⟨h, (bS hm fun u g hm => XE 5 rfl (Eg d call47 (oq a.fg _ _  g) (fun k d => ?_)))⟩
 have h := d.has.fc (Kb Sn)
 refine ⟨h, (bS hm fun x i hm => X 6 rfl h (nh rfl rfl i) (X 7 rfl h (gf rfl) (iq kr (fq ?_))))⟩
 exact ga (rQ hm d)
theorem nC (g : eY) (r : ByteArray) (w : World) (hm : kh g = some r) :
  fQ true pg0 43 [(.agg (fa g).toArray)] w (.string r) := by
 refine cG 41 func43 rfl (fun d => sg (VE (hZ d rfl (fun W2 o d => Wa (ln (fC ?_))))))
 replace d := d.drew
 have h := d.has.fc (Kb Sn)
 refine gy h gl (X 0 rfl h (fj kM rfl) (XH 1 rfl h (fun _ n => fh rfl (fF n Mh rfl dn)) (X 3 rfl h (fj mB rfl) (XH 4 rfl h (fun _ n => fh rfl (ft n Mh (fD g.Head) rfl bp aP)) (bS hm fun a9 H hm => XE 2 rfl (Eg d call75 (qN g.Kind _ _  H) (fun a3 d => ?_)))))))
 have h := d.has.fc (Kb Sn)
 refine ⟨h, (bS hm fun v I hm => XE 5 rfl (Eg d call76 (oY g.Head _ _  I) (fun a4 d => ?_)))⟩
 have h := d.has.fc (Kb Sn)
 refine ⟨h, (bS hm fun P Q hm => X 6 rfl h (nh rfl rfl Q) (X 7 rfl h (gf rfl) (iq kr (fq (fC (sg (Wf kM (VB d Mh rfl rfl dn (Wi rfl (ln (CI hm rfl (fun y hm => ?_) (fun y hm => ?_))))))))))))⟩
 ·refine sg (Wm (Wf nQ (VB d Mh rfl rfl aZ (bS hm fun A J hm => VE (Eg d call47 (oq g.fu _ _  J) (fun a5 d => bS hm fun R T hm => V (nh rfl rfl T) (Wa (ln ?_))))))))
  replace d := d.fc (Db St)
  refine ga (fN ?_)
  obtain rfl := sj hm
  exact rP d
 refine kg (Wm (Wf iz (VA d Mh (fD g.B) bp aP (bS hm fun F K hm => VE (Eg d call76 (oY g.B _ _  K) (fun p d => bS hm fun b9 U hm => V (nh rfl rfl U) (Wa (ln (fC ?_)))))))))
 refine CJ hm (fun x E W => ∃ i, ST true fO w W (hp w) ((o, Ol (fa g) 35) :: i) ∧ E 1 = (.pointer (some ⟨o, 0, none⟩)) ∧ E 3 = (.string x)) (fun x c => ?_) ?_
 ·refine sg (Wf kM (VB d Mh rfl rfl dn (Wi rfl (ln (CI c rfl (fun B c => ?_) (fun B c => ?_))))))
  ·refine fm (Wm (Wf ng (VB d Mh rfl rfl aZ (bS c fun O N c => VE (Eg d call47 (oq g.fB _ _  N) (fun s d => bS c fun c1 Z c => V (nh rfl rfl Z) (Wa (ln ?_))))))))
   obtain rfl := sj c
   exact ⟨_, (d.fc St), rfl, rfl⟩
  refine kn ?_
  obtain rfl := sj c
  exact ⟨_, (d.fc St), rfl, rfl⟩
 rintro c2 E W ⟨i, d, k, t⟩ D
 refine fC (CJ D (fun u E W => ∃ j, ST true fO w W (hp w) j ∧ E 3 = (.string u)) (fun u a => ?_) ?_)
 ·refine sg (V (fj kM k) (VB d Mh rfl rfl dn (Wi rfl (ln (CI a rfl (fun z a => ?_) (fun z a => ?_))))))
  ·refine fm (Wh t (V (fj lu k) (VA d Mh (fD g.C) bp aP (bS a fun L M a => VE (Eg d call76 (oY g.C _ _  M) (fun q d => bS a fun c0 Y a => V (nh rfl rfl Y) (Wa (ln ?_))))))))
   obtain rfl := sj a
   exact ⟨_, (d.fc (Db St)), rfl⟩
  refine kn ?_
  obtain rfl := sj a
  exact ⟨_, (d.fc (Db St)), t⟩
 rintro c3 E W ⟨j, d, a2⟩ G
 exact sg (Wh a2 (Wa (lt (rQ G d))))
theorem wD (z : ByteArray) (r : Int) (w : World) (hm : oL z = some r) :
  fQ true pg0 74 [(.string z)] w (.int .u64 r) := by
 refine cG 20 func74 rfl (fun d => sg (Wa (lr (Wa (lS (Wa ?_))))))
 refine ln (iM (lm (fun m E W => ∃ g j B, ST true fO w W (hp w) B ∧ E 0 = (.string z) ∧ E 3 = (.int .u64 g) ∧ E 4 = (.int .i64 j) ∧ jG z m g j = some r) ib ⟨14695981039346656037, 0, _, (d.fc St), rfl, rfl, rfl, hm⟩ ?_))
 rintro m E W ⟨g, j, B, d, u, D, x, c⟩
 cases m with
 | zero => rw [jG] at c; cases c
 | succ H =>
  refine fC (sg (Wh x (Wh u (V (iL aH rfl) (Wi rfl (ln (CI c rfl (fun G c => ?_) (fun G c => ?_))))))))
  ·refine kn (fC (bg (Wh D (Wh u (Wh x (bS c fun t y c => V (om (i := j) aH rfl rfl (nw y) (pA y)) (V (jW (k' := .u8) (a := (t.toNat : Int)) aY ez rfl) (V (wh (k := .u64) (a := g) (b := (IntKind.u64.wrap (t.toNat : Int))) (v := (.int .u64 (IntKind.u64.wrap (BitVec.ofInt (IntKind.bits .u64) g ^^^ BitVec.ofInt (IntKind.bits .u64) (IntKind.u64.wrap (t.toNat : Int))).toNat))) rfl rfl rfl) (Wa (fK ?_))))))))))
   exact fq (fm (Wm (Wi rfl (Wa (fK (gk (fq (fm (Wh x (Wi rfl (Wa (ln ⟨H, bE _, (IntKind.u64.wrap ((IntKind.u64.wrap (BitVec.ofInt (IntKind.bits .u64) g ^^^ BitVec.ofInt (IntKind.bits .u64) (IntKind.u64.wrap (t.toNat : Int))).toNat) * 1099511628211)), (wi0 .i64 (j + 1)), _, (d.fc St), u, rfl, rfl, c⟩))))))))))))
  exact mC (lW (lW (qm (fq (sg (Wh D (Wa (lt (rQ c d)))))))))
theorem nS (i H r : ByteArray) (w : World) (hm : mN i H = some r) :
  fQ true pg0 42 [(.string i), (.string H)] w (.string r) := by
 refine cG 34 func42 rfl (fun d => sg (Wa (lr (Wm (V (iL aH rfl) (V (jW (k' := .i64) (a := (i.size : Int)) dp aY rfl) (VE (fS (cs := [(.int .u8 (IntKind.u8.wrap (i.size : Int)))].toArray) d (iD rfl) (kR az cJ cT) (fun W2 h d => V (kA az aY aH rfl (Sl.lit (enc := (fl .u8)) (l := [(IntKind.u8.wrap (i.size : Int))]) (fun _ => rfl) rfl nb rfl (d.at_ Mh))) (Wm (bS hm fun n I hm => ?_)))))))))))
 refine V (nh rfl rfl I) (Wm (bS hm fun o J hm => V (nh rfl rfl J) (Wm (bS hm fun T K hm => V (nh rfl rfl K) (bS hm fun Q D hm => VE (Eg d call74 (wD T _ _  D) (fun U d => Wa (ln ?_))))))))
 replace d := d.fc (Db St)
 refine sg (Wa (lS (Wa (ln (iM (lm (fun m E W => ∃ g t j u, ST true fO w W (hp w) u ∧ E 5 = (.int .u64 g) ∧ E 6 = (.string t) ∧ E 7 = (.int .i64 j) ∧ iB m g t j = some r) ib ⟨Q, zS, 0, _, (d.fc St), rfl, rfl, rfl, hm⟩ ?_))))))
 rintro m E W ⟨g, t, j, u, d, x, y, z, c⟩
 cases m with
 | zero => rw [iB] at c; cases c
 | succ M =>
  refine fC (sg (Wh z (Wi rfl (ln (CI c rfl (fun B c => ?_) (fun B c => ?_))))))
  ·refine kn (fC (bg (Wh x (V (su (k := .u64) (a := g) (b := 256) (v := (.int .u64 (Int.tmod g 256))) rfl rfl dc rfl) (V (jW (k' := .u64) (a := (Int.tmod g 256)) ez aY rfl) (VE (fS (cs := [(.int .u8 (IntKind.u8.wrap (Int.tmod g 256)))].toArray) d (iD rfl) (kR az cJ cT) (fun Y Z d => V (kA az aY aH rfl (Sl.lit (enc := (fl .u8)) (l := [(IntKind.u8.wrap (Int.tmod g 256))]) (fun _ => rfl) rfl nb rfl (d.at_ Mh))) (Wh y (bS c fun N G c => V (nh rfl rfl G) (Wa ?_)))))))))))
   refine ln ?_
   replace d := d.fc (Db St)
   exact fm (Wh x (V (su (k := .u64) (a := g) (b := 256) (v := (.int .u64 (IntKind.u64.wrap (Int.tdiv g 256)))) rfl rfl dc rfl) (Wa (fK (gk (fq (fm (Wh z (Wi rfl (Wa (ln ⟨M, bE _, (IntKind.u64.wrap (Int.tdiv g 256)), N, (wi0 .i64 (j + 1)), _, (d.fc St), rfl, rfl, rfl, c⟩)))))))))))
  exact mC (lW (lW (qm (fq (sg (Wh y (Wa (lt (rQ c d)))))))))
theorem vw (k : Value) (u : List Key) (a : eY) (r : (fA × Int)) (w : World) {D : fz} (N : kV D [] w) (x : Sl ie 2 D k u) (hm : nV u a = some r) :
  gY true pg0 13 [k, (.agg (fa a).toArray)] w D [] (fun v M Y => ∃ K, v = (.tuple #[(.agg #[(.int .i64 (((r.1).eY).Kind)), (.string ((((r.1).eY).Head).eZ)), (.string ((((r.1).eY).Head).fg)), (.string (((r.1).eY).fu)), (.string ((((r.1).eY).B).eZ)), (.string ((((r.1).eY).B).fg)), (.string ((((r.1).eY).C).eZ)), (.string ((((r.1).eY).C).fg)), (.string (((r.1).eY).fB)), K]), (.int .i64 (r.2))]) ∧ M = [] ∧ Sl (Pl (fl .u8)) 1 Y K ((r.1).Tag)) := by
 refine Af N 25 func13 rfl (fun d => sg (VE (hZ d rfl (fun W2 s d => VE (gq d bA (fun W4 A d => Wa (lr (Wm (VA d (Mt Mh) (fa a) aT aA (bS hm fun J H hm => VE (Eg d call41 (sB k u a _ _ (x.mono ma.mono d.fH) H) (fun W7 d => Wm ?_))))))))))))
 refine Wx rfl (Wx rfl (Wa (Wa (lS (Wm (Wi rfl (ln (CI hm rfl (fun G hm => ?_) (fun G hm => ?_)))))))))
 ·refine sg (V (gX (v := (.agg C2.toArray)) nZ (gr bA bt (rr _ bt) kr)) (Wm (VO (fM (.agg C2.toArray) (C2.toArray) d rfl rfl bh oc nb rfl (fun W9 d => Wa (ln ?_))))))
  replace d := d.fc (Kb (Db St))
  refine ga (fN ?_)
  obtain rfl := sj hm
  exact sh (v0 := (.agg C2.toArray)) (v1 := (.int .i64 J.2)) rfl rfl (ft d.has Mh C2 rfl cy bh) rfl ⟨_, _, _, rfl, (d.gA Sn), (fw.refl _), Lo.refl, (ST.fJ d (gm.mem Sn)), (.slice none 0 0), rfl, rfl, (Sl.nil _ _ _)⟩
 refine kn (fC ?_)
 replace d := d.drew
 have h := d.has.fc (Db (Kb Sn))
 refine gy h gl (XH 0 rfl h (fun _ o => fh rfl (ft o Mh (fa a) rfl aT aA)) (X 1 rfl h (fi rfl) (XH 2 rfl h (fun _ o => fh rfl (ft o Mh (fa a) rfl aT aA)) (bS hm fun I y hm => XE 3 rfl (Eg d call43 (nC a _ _  y) (fun Z d => ?_))))))
 have h := d.has.fc (Db (Kb Sn))
 refine ⟨h, (bS hm fun a5 z hm => XE 4 rfl (Eg d call42 (nS J.1 I _ _  z) (fun a2 d => ?_)))⟩
 have h := d.has.fc (Db (Kb Sn))
 refine ⟨h, (bS hm fun i B hm => XE 5 rfl (rN d aH az aY rfl B (fun a3 p q d j n t Q => ?_)))⟩
 have h := d.has.oZ j (Db (Kb Sn))
 refine ⟨h, ?_⟩
 obtain ⟨c, g, rfl⟩ := t.form
 let T := (C1 a.Kind a.Head.eZ a.Head.fg a.fu a.B.eZ a.B.fg a.C.eZ a.C.fg a.fB c i.length g)
 refine X 6 rfl h (gX (v := (.agg T.toArray)) (lU rfl rfl) (gr bA bt (rr _ bt) kr)) (XO 7 rfl (fM (.agg T.toArray) (T.toArray) d rfl rfl bh oc nb rfl (fun a4 d => ?_)))
 have h := d.has.oZ j (Db (Kb Sn))
 refine ⟨h, (X 8 rfl h (gf rfl) (iq kr (fq ?_)))⟩
 replace d := d.fc (Kb (Db St))
 refine ga ?_
 obtain rfl := sj hm
 exact sh (v0 := (.agg T.toArray)) (v1 := (.int .i64 0)) rfl rfl (ft d.has Mh T rfl cy bh) rfl ⟨_, _, _, rfl, (d.gA Sn), j, n, (ST.fJ d (gm.mem Sn)), (.slice c i.length g), rfl, rfl, t⟩
theorem rl (u : Value) (J : List Key) (c : fA) (t : Value) (r : Int) (w : World) (K : Sl ie 2 (hp w) u J) (i : Sl (Pl (fl .u8)) 1 (hp w) t c.Tag) (hm : mw J c = some r) :
  fQ true pg0 15 [u, (.agg #[(.int .i64 c.eY.Kind), (.string c.eY.Head.eZ), (.string c.eY.Head.fg), (.string c.eY.fu), (.string c.eY.B.eZ), (.string c.eY.B.fg), (.string c.eY.C.eZ), (.string c.eY.C.fg), (.string c.eY.fB), t])] w (.int .i64 r) := by
 refine cG 28 func15 rfl (fun h => sg ?_)
 obtain ⟨T, U, rfl⟩ := i.form
 refine VE (hZ h rfl (fun W4 o h => Wa (lr (Wm (Wf lY (VA h Mh (fa c.eY) aT aA (bS hm fun x a2 hm => VE (Eg h call41 (sB u J c.eY _ _ (K.mono ma.mono h.fH) a2) (fun W7 h => Wm (Wx rfl (Wx rfl (Wa ?_))))))))))))
 refine Wa (ln (fC (fC ?_)))
 replace h := h.drew
 have d := h.has.fc (Kb Sn)
 refine gy d gl (X 0 rfl d (fi rfl) (X 1 rfl d (fY rfl rfl rfl) (X 2 rfl d (fi rfl) (PJ hm (fun I E W => ∃ H, ST true fO w W (hp w) ((o, Ol (C1 c.eY.Kind c.eY.Head.eZ c.eY.Head.fg c.eY.fu c.eY.B.eZ c.eY.B.fg c.eY.C.eZ c.eY.C.fg c.eY.fB T c.Tag.length U) 38) :: H) ∧ E 6 = (.int .i64 x.2) ∧ E 26 = (.bool I)) (bm 13 8191) 0 ?_ (fun I g j => ?_)))))
 ·rintro A E W ⟨H, h, Y, Z⟩ k
  refine iq kr (fq ?_)
  replace h := h.fc (Db St)
  refine CI k Z (fun M k => ?_) (fun M k => ?_)
  ·refine sg (Wa (lt (fN ?_)))
   obtain rfl := sj k
   exact rP h
  exact kg (Wh Y (Wa (lt (rQ k h))))
 refine bC g (fun a g => ?_) (fun a g => ?_)
 ·refine Xg 3 rfl rfl (cB a) d (fi rfl) (Xg 4 rfl rfl (cB a) d (fj lY rfl) (pS 5 rfl rfl (cB a) d (fun _ n => fh rfl (ft n Mh (fa c.eY) rfl aT aA)) (Xg 8 rfl rfl (cB a) d (fj oW rfl) (pS 9 rfl rfl (cB a) d (fun _ n => fh rfl (fF n Mh rfl bT)) (yV 6 10 rfl rfl kr (.inr ⟨2, true, 16, rfl, rfl, by decide, (cB a)⟩) (.inr ⟨2, true, 16, rfl, rfl, by decide, (cB a)⟩) rfl rfl dc dc ?_ ?_)))))
  ·refine bS g fun y N g => uq (args := [(.agg (fa c.eY).toArray)]) h rfl call43 (by exact kU rfl) (nC c.eY _ _  N) (fun s h => ?_)
   have d := h.has.fc (Kb Sn)
   refine ⟨d, (yV 7 10 rfl rfl kr (.inr ⟨2, true, 16, rfl, rfl, by decide, (cB a)⟩) (.inr ⟨2, true, 16, rfl, rfl, by decide, (cB a)⟩) rfl rfl dc dc ?_ ?_)⟩
   ·refine bS g fun v z g => uq (args := [(.string x.1), (.string y)]) h rfl call42 (by exact kc rfl rfl) (nS x.1 y _ _  z) (fun a3 h => ?_)
    have d := h.has.fc (Kb Sn)
    refine ⟨d, (zK 10 rfl kr (.inr ⟨2, true, 16, rfl, rfl, by decide, (cB a)⟩) rfl dc (.inl ⟨_, _, kA az aY aH rfl (i.mono (Pl.mono _) h.fH), ⟨d, (Xg 11 rfl rfl (cB a) d (jb rfl rfl rfl) (X 12 rfl d (fy (cB a) rfl) ?_))⟩⟩))⟩
    obtain rfl := sj g
    refine ju kr (j _ _ ⟨_, (h.fc St), rfl, rfl⟩)
   ·refine .inl ⟨_, _, kA az aY aH rfl (i.mono (Pl.mono _) h.fH), ⟨d, (bS g fun q B g => rf 7 rfl rfl (cB a) (Eg h call42 (nS x.1 y _ _  B) (fun a4 h => ?_)))⟩⟩
    have d := h.has.fc (Kb Sn)
    refine ⟨d, (Xg 11 rfl rfl (cB a) d (jb rfl rfl rfl) (X 12 rfl d (fy (cB a) rfl) ?_))⟩
    obtain rfl := sj g
    refine ju kr (j _ _ ⟨_, (h.fc St), rfl, rfl⟩)
  ·refine .inl ⟨_, _, kA az aY aH rfl (i.mono (Pl.mono _) h.fH), ⟨d, (bS g fun Q D g => rf 6 rfl rfl (cB a) (Eg h call43 (nC c.eY _ _  D) (fun a5 h => ?_)))⟩⟩
   have d := h.has.fc (Kb Sn)
   refine ⟨d, (bS g fun a9 G g => rf 7 rfl rfl (cB a) (Eg h call42 (nS x.1 Q _ _  G) (fun p h => ?_)))⟩
   have d := h.has.fc (Kb Sn)
   refine ⟨d, (Xg 11 rfl rfl (cB a) d (jb rfl rfl rfl) (X 12 rfl d (fy (cB a) rfl) ?_))⟩
   obtain rfl := sj g
   refine ju kr (j _ _ ⟨_, (h.fc St), rfl, rfl⟩)
 refine Xn 3 rfl rfl (cB a) d (Xn 4 rfl rfl (cB a) d (Xn 5 rfl rfl (cB a) d (Xn 6 rfl rfl (cB a) d (Xn 7 rfl rfl (cB a) d (Xn 8 rfl rfl (cB a) d (Xn 9 rfl rfl (cB a) d (Xn 10 rfl rfl (cB a) d (Xn 11 rfl rfl (cB a) d (X 12 rfl d (fx (cB a) rfl) ?_)))))))))
 obtain rfl := sj g
 refine ju kr (j _ _ ⟨_, (h.fc St), rfl, rfl⟩)
theorem wN (x : Value) (a0 r : List ByteArray) (w : World) (c0 : Sl (Pl jt) 1 (hp w) x a0) (hm : oH a0 = some r) :
  gw true pg0 44 [x] w 9 jt 1 r := by
 refine qM 48 func44 rfl (fun d => sg (Wa (lr (Wa (ln (sk (iM (lm (fun m E W => ∃ u a2 j c1, ST true fO w W (hp w) (j ++ c1) ∧ E 0 = x ∧ E 3 = u ∧ fL 9 jt 1 u a2 j ∧ kE a0 m a2 = some r) ib ⟨(.slice none 0 0), ([]), [], _, (d.fc St), rfl, rfl, (fL.nil _ _ _), hm⟩ ?_))))))))
 rintro m E W ⟨u, a2, j, c1, d, c7, f6, G, Z⟩
 cases m with
 | zero => rw [kE] at Z; cases Z
 | succ i1 =>
  refine bg (Wa (lS (Wh c7 (V (gv bH rfl c0) (Wm (ln (CJ Z (fun b7 E W => ∃ c2, ST true fO w W (hp w) (j ++ c2) ∧ E 0 = x ∧ E 3 = u ∧ E 4 = (.string b7)) (fun b7 e5 => ?_) ?_)))))))
  ·refine gP (fun i E W => ∃ z s, (E 9 = .int .i64 (i : Nat) ∧ E 8 = .int .i64 (a0.length : Nat)) ∧ ST true fO w W (hp w) (j ++ s) ∧ E 0 = x ∧ E 3 = u ∧ E 4 = (.string z) ∧ E 7 = x ∧ jE a2 (a0.drop i) z = some b7) a0.length c0.len ⟨zS, _, ⟨rfl, rfl⟩, (d.fc St), c7, f6, rfl, rfl, e5⟩ dc dc dc (fun _ _ _ h => by obtain ⟨_, _, a6, _⟩ := h; exact a6) ?_ ?_
   ·rintro n E W e4 ⟨z, s, ⟨o, q⟩, d, Q, H, T, U, t⟩
    obtain ⟨I, i5, f3, f2, b9⟩ := gC e4
    rw [f3] at t
    refine bg (VQ (kf (enc := jt) (i := (n : Int)) (x0 := I) bH dh U o c0 (aQ _) f2) (fun i9 e9 => V (fh rfl (ki d.has (y := (.string I)) e9 aZ)) (Wa (lr (Wm (bS t fun i2 f1 t => VE (Eg d call33 (lb I _ _  f1) (fun i8 d => Wm (LJ t (fun d7 E W => ∃ c3, ST true fO w W (hp w) (j ++ c3) ∧ E 0 = x ∧ E 3 = u ∧ E 4 = (.string z) ∧ E 6 = (.string I) ∧ E 7 = x ∧ E 8 = (.int .i64 (a0.length : Int)) ∧ E 9 = (.int .i64 (n : Int)) ∧ E 29 = (.bool d7)) 14 ?_ (fun d7 N a9 => ?_))))))))))
    ·rintro i4 E W ⟨c3, d, A, F, Y, a3, L, O, P, f8⟩ e6
     refine Wh f8 (LJ e6 (fun d5 E W => ∃ c4, ST true fO w W (hp w) (j ++ c4) ∧ E 0 = x ∧ E 3 = u ∧ E 4 = (.string z) ∧ E 6 = (.string I) ∧ E 7 = x ∧ E 8 = (.int .i64 (a0.length : Int)) ∧ E 9 = (.int .i64 (n : Int)) ∧ E 38 = (.bool d5)) 8 ?_ (fun d5 K a7 => ?_))
     ·rintro j3 E W ⟨c4, d, d0, d1, f9, g0, d2, d3, d4, g1⟩ J
      refine ln (CI J g1 (fun e3 J => ?_) (fun e3 J => ?_))
      ·exact fm (Wh g0 (Wa (fK (gk (fq ⟨d4, I, _, ⟨rfl, d3⟩, (d.fc St), d0, d1, rfl, d2, (by rw [b9]; exact J)⟩)))))
      exact gp (gk (fq ⟨d4, z, _, ⟨rfl, d3⟩, (d.fc St), d0, d1, f9, d2, (by rw [b9]; exact J)⟩))
     refine bC K (fun g K => ?_) (fun g K => ?_)
     ·refine ug g (fi Y) (ug g (jb rfl rfl rfl) (ug g (fi rfl) (LJ K (fun d6 E W => ∃ c5, ST true fO w W (hp w) (j ++ c5) ∧ E 0 = x ∧ E 3 = u ∧ E 4 = (.string z) ∧ E 6 = (.string I) ∧ E 7 = x ∧ E 8 = (.int .i64 (a0.length : Int)) ∧ E 9 = (.int .i64 (n : Int)) ∧ E 30 = (.bool i4) ∧ E 37 = (.bool d6)) 4 ?_ (fun d6 M a8 => ?_))))
      ·rintro j4 E W ⟨c5, d, g2, g3, g4, g5, g6, g7, g8, g9, h0⟩ e7
       refine V (fy (g9.trans (cB g)) h0) ?_
       obtain rfl := sj e7
       exact a7 _ _ ⟨_, (d.fc St), g2, g3, g4, g5, g6, g7, g8, rfl⟩
      refine bC M (fun k M => ?_) (fun k M => ?_)
      ·refine un k (un k (un k (ug g (fy (cB k) rfl) ?_)))
       obtain rfl := sj M
       exact a8 _ _ ⟨_, (d.fc St), A, F, Y, a3, L, O, P, rfl, rfl⟩
      refine ug k (fi a3) (ug k (fi Y) (ug k (jb rfl rfl rfl) (ug g (fx (cB k) rfl) ?_)))
      obtain rfl := sj M
      exact a8 _ _ ⟨_, (d.fc St), A, F, Y, a3, L, O, P, rfl, rfl⟩
     refine un g (un g (un g (Vu rfl rfl (Vu rfl rfl (Vu rfl rfl (un g (V (fx (cB g) rfl) ?_)))))))
     obtain rfl := sj K
     exact a7 _ _ ⟨_, (d.fc St), A, F, Y, a3, L, O, P, rfl⟩
    refine bC N (fun c N => ?_) (fun c N => ?_)
    ·refine ug c (fi H) (ug c (ke bH rfl G) (ug c (fY rfl rfl rfl) (ug c (fi rfl) (LJ N (fun d8 E W => ∃ c6, ST true fO w W (hp w) (j ++ c6) ∧ E 0 = x ∧ E 3 = u ∧ E 4 = (.string z) ∧ E 6 = (.string I) ∧ E 7 = x ∧ E 8 = (.int .i64 (a0.length : Int)) ∧ E 9 = (.int .i64 (n : Int)) ∧ E 15 = (.bool i2) ∧ E 28 = (.bool d8)) 9 ?_ (fun d8 D b0 => ?_)))))
     ·rintro j5 E W ⟨c6, d, h1, h2, h3, h4, h5, h6, h7, h8, h9⟩ e8
      refine V (fy (h8.trans (cB c)) h9) ?_
      obtain rfl := sj e8
      exact a9 _ _ ⟨_, (d.fc St), h1, h2, h3, h4, h5, h6, h7, rfl⟩
     refine bC D (fun a D => ?_) (fun a D => ?_)
     ·refine un a (un a (un a (un a (un a (un a (un a (un a (ug c (fy (cB a) rfl) ?_))))))))
      obtain rfl := sj D
      exact b0 _ _ ⟨_, (d.fc St), Q, H, T, rfl, U, q, o, rfl, rfl⟩
     refine ug a (fi rfl) (ug a (fi H) (ug a (fi H) (ug a (ke bH rfl G) (ug a (fY rfl rfl rfl) (bS D fun d9 a5 D => CC a (lE (i := (wi0 .i64 ((a2.length : Int) - 1))) (x0 := d9) bH dh rfl rfl G (iA a5) (gK a5)) (fun j0 f0 => ug a (fh rfl (zi d.has (fun p hq => (Ml hq)) G (fun _ => rfl) f0 (gK a5) (y := (.string d9)) rfl aZ)) (ug a (jb rfl rfl rfl) (ug c (fx (cB a) rfl) ?_))))))))
     obtain rfl := sj D
     exact b0 _ _ ⟨_, (d.fc St), Q, H, T, rfl, U, q, o, rfl, rfl⟩
    refine un c (un c (un c (un c (Vu rfl rfl (Vu rfl rfl (Vu rfl rfl (Vu rfl rfl (Vu rfl rfl (Vu rfl rfl (Vu rfl rfl (Vu rfl rfl (un c (V (fx (cB c) rfl) ?_)))))))))))))
    obtain rfl := sj N
    exact a9 _ _ ⟨_, (d.fc St), Q, H, T, rfl, U, q, o, rfl⟩
   rintro E W ⟨z, s, ⟨o, q⟩, d, Q, H, T, U, t⟩
   rw [aU] at t
   refine fq ?_
   obtain rfl := sj t
   exact ⟨_, (d.fc St), Q, H, T⟩
  rintro a4 E W ⟨c2, d, f7, c8, c9⟩ B
  refine fC (sg (Wh c9 (V (jb rfl rfl rfl) (ln (CI B rfl (fun e1 B => ?_) (fun e1 B => ?_))))))
  ·refine sg (Wh c8 (Wa (lt (fN (gU (fN (gU (fN ?_))))))))
   obtain rfl := sj B
   exact gb (v := u) rfl rfl ⟨_, j, rfl, d.iY (fun p hq => (Ml hq)) G.nd, G⟩
  refine kn (fm (Wh c8 (Wh c9 (VE (fS (cs := [(.string a4)].toArray) d (iD rfl) (kR bH dh zeroValue9) (fun i6 f5 d => ?_))))))
  replace d := d.perm (Nr (Qb Qz) Nz)
  refine bS B fun i0 e2 B => VE (kI (enc := jt) (v := u) (vs := (.slice (some ⟨f5, 0, none⟩) 1 1)) (R := j) d (fun _ => rfl) dc tY bH pX.1 pX.2.1 rfl pX.2.2.1 pX.2.2.2 rfl rfl G (Sl.lit (enc := jt) (l := [a4]) (fun _ => rfl) rfl nb rfl (d.at_ (Ma Mh))) e2 (fun i7 i3 f4 d e0 => Wa (fK (gk (fq ?_)))))
  replace d := d.fc (Kr (Db St))
  exact ⟨i1, bE _, i3, i0, f4, _, (d.fc St), f7, rfl, e0, B⟩
end Go.Proofs.YtcafmokjkjcomaaGreat
