/- a part of a proof of KeysGet -/
import Derived.Test.YtcafmokjkjcomaaGreatKGMc
import Derived.Test.YtcafmokjkjcomaaGreatRtZcc
import Derived.Test.YtcafmokjkjcomaaGreatProg
set_option linter.all false
namespace Go.Proofs.YtcafmokjkjcomaaGreat
open Go.IntKind renaming wrap → wi0
open Go.Proofs.Tryz renaming prog → pg0
open Go.RowKit
set_option maxRecDepth 10000
open Tryz
def az := @underlying36
def aD := @sizeOf35
def aG := @underlying9
def aJ := @sizeOf33
def aP := @underlying41
def aW := @isAgg9
def bd := @underlying5
def bf := @sizeOf38
def bj := @underlying35
def bk := @isAgg33
def bl := @isAgg35
def br := @zeroValue35
def bu := @underlying38
def bA := @zeroValue38
def bO := @underlying33
def bP := @isAgg3
def bW := @isAgg36
def cn := @isAgg38
def cv := @underlying72
def cP := @sizeOf5
def cR := @zeroValue72
def cT := @underlying56
def cU := @underlying54
def cV := @call54
def cZ := @underlying125
def dl := @underlying3
def dm := @sizeOf36
def dn := @zeroValue5
def dr := @sizeOf9
def dt := @sizeOf3
def du := @underlying22
def dC := @zeroValue33
def dF := @underlying23
def dN := @underlying100
def dP := @sizeOf72
def dZ := @underlying63
def ey := @eqGuardType35
def ez := @eqGuardType33
def eH := @underlying76
def eJ := @underlying65
def eK := @call83
abbrev K0 : fu := ⟨zS, zS⟩
abbrev K1 : ByteArray := ⟨#[97]⟩
abbrev K2 : ByteArray := ⟨#[114]⟩
abbrev K3 : ByteArray := ⟨#[100]⟩
abbrev K4 : ByteArray := ⟨#[98]⟩
abbrev K5 : fu := ⟨K1, K2⟩
abbrev K6 : eX := ⟨0, K0, zS, K0, K0, zS⟩
abbrev K7 : eX := ⟨1, K5, K3, K0, K0, zS⟩
abbrev C1 (d : Int) (g h i j k n o p : ByteArray) (q : Option Addr) (a c : Nat) : List Value := [(.int .i64 d), (.string g), (.string h), (.string i), (.string j), (.string k), (.string n), (.string o), (.string p), (.slice q a c)]
abbrev C2 : List Value := [(.int .i64 0), (.string (K0.eY)), (.string (K0.eZ)), (.string zS), (.string (K0.eY)), (.string (K0.eZ)), (.string (K0.eY)), (.string (K0.eZ)), (.string zS), (.slice none 0 0)]
abbrev C3 : List Value := [(.int .i64 1), (.string (K5.eY)), (.string (K5.eZ)), (.string K3), (.string (K0.eY)), (.string (K0.eZ)), (.string (K0.eY)), (.string (K0.eZ)), (.string zS), (.slice none 0 0)]
abbrev C4 (a : Nat) : List Value := [(.string K1), (.slice (some ⟨a, 0, none⟩) 1 1)]
theorem gE : Tryz.prog.follows .mixedOrders = true := by rfl
theorem iY : Tryz.prog.info? 5 = some Tryz.t5 ∧ Tryz.t5.zero = some (.int .u8 0) ∧ Tryz.t5.size = 1 ∧ Tryz.t5.bytes = 1 := ⟨by kernel_rfl, by kernel_rfl, by kernel_rfl, by kernel_rfl⟩
theorem oT : Tryz.prog.info? 35 = some Tryz.t35 ∧ Tryz.t35.zero = some (.agg #[(.int .i64 0), (.string ⟨#[]⟩), (.string ⟨#[]⟩), (.string ⟨#[]⟩), (.string ⟨#[]⟩), (.string ⟨#[]⟩), (.string ⟨#[]⟩), (.string ⟨#[]⟩), (.string ⟨#[]⟩)]) ∧ Tryz.t35.size = 9 ∧ Tryz.t35.bytes = 136 := ⟨by kernel_rfl, by kernel_rfl, by kernel_rfl, by kernel_rfl⟩
theorem jt : gQ pg0 33 0 0 := gr bO rfl dr (by decide) rfl
theorem mM : gQ pg0 33 1 1 := gr bO rfl dr (by decide) rfl
theorem zb : (Tryz.prog.fieldsOf 33).toList = (match Tryz.prog.underlying 33 with | some (.struct a) => a.toList | _ => []) := by rw [bO]; simp [Program.fieldsOf, bO]
theorem ny (d : Nat) (x y : fu) (W : World) : (Op.equalIn (d + 2) 33 (.agg (fC x).toArray) (.agg (fC y).toArray)).run pg0 W = .ok (ie x y) W := by
 rw [run_equalIn_struct W (d + 1) 33 _ _ (by kernel_rfl) Tryz.stoodInHeld33, zb, bO]
 exact (jl (by decide) (lA aW rfl) (lA aW rfl) (Ai aG _ _ _ _) (jl (by decide) (lA aW rfl) (lA aW rfl) (Ai aG _ _ _ _) (rD _ _ _)))
theorem xG : ∀ a, Tryz.prog.underlying 33 = some (.struct a) → ∀ w, (a.mapM (fun (f : Field) => do pure (f.offset, ← sizeOf f.type)) : Sem (Array (Nat × Nat))).run pg0 w = .ok #[(0, 1), (1, 1)] w := by
 intro a h w
 rw [bO] at h
 cases h
 kernel_rfl
theorem iX : gQ pg0 35 0 0 := gr bj rfl dt (by decide) rfl
theorem mn : gQ pg0 35 1 1 := gr bj rfl aJ (by decide) rfl
theorem nj : gQ pg0 35 2 3 := gr bj rfl dr (by decide) rfl
theorem im : gQ pg0 35 3 4 := gr bj rfl aJ (by decide) rfl
theorem kF : gQ pg0 35 4 6 := gr bj rfl aJ (by decide) rfl
theorem mo : gQ pg0 35 5 8 := gr bj rfl dr (by decide) rfl
theorem yX : (Tryz.prog.fieldsOf 35).toList = (match Tryz.prog.underlying 35 with | some (.struct a) => a.toList | _ => []) := by rw [bj]; simp [Program.fieldsOf, bj]
theorem qM (d : Nat) (x y : eX) (W : World) : (Op.equalIn (d + 3) 35 (.agg (fa x).toArray) (.agg (fa y).toArray)).run pg0 W = .ok (jF x y) W := by
 rw [run_equalIn_struct W (d + 2) 35 _ _ (by kernel_rfl) Tryz.stoodInHeld35, yX, bj]
 exact (jl (by decide) (lA bP rfl) (lA bP rfl) (CB dl _ _ _ _) (jl (by decide) (oB bk aJ rfl) (oB bk aJ rfl) (ny _ x.Head y.Head W) (jl (by decide) (lA aW rfl) (lA aW rfl) (Ai aG _ _ _ _) (jl (by decide) (oB bk aJ rfl) (oB bk aJ rfl) (ny _ x.B y.B W) (jl (by decide) (oB bk aJ rfl) (oB bk aJ rfl) (ny _ x.C y.C W) (jl (by decide) (lA aW rfl) (lA aW rfl) (Ai aG _ _ _ _) (rD _ _ _)))))))
theorem uo : ∀ a, Tryz.prog.underlying 35 = some (.struct a) → ∀ w, (a.mapM (fun (f : Field) => do pure (f.offset, ← sizeOf f.type)) : Sem (Array (Nat × Nat))).run pg0 w = .ok #[(0, 1), (1, 2), (3, 1), (4, 2), (6, 2), (8, 1)] w := by
 intro a h w
 rw [bj] at h
 cases h
 kernel_rfl
theorem nN : gQ pg0 63 0 0 := gr dZ rfl dr (by decide) rfl
theorem iD : gQ pg0 63 1 1 := gr dZ rfl dt (by decide) rfl
theorem Ci : ∀ a, Tryz.prog.underlying 63 = some (.struct a) → ∀ w, (a.mapM (fun (f : Field) => do pure (f.offset, ← sizeOf f.type)) : Sem (Array (Nat × Nat))).run pg0 w = .ok #[(0, 1), (1, 1)] w := by
 intro a h w
 rw [dZ] at h
 cases h
 kernel_rfl
theorem tj : gQ pg0 72 0 0 := gr cv rfl dr (by decide) rfl
theorem tG : gQ pg0 72 1 1 := gr cv rfl dm (by decide) rfl
theorem ya : ∀ a, Tryz.prog.underlying 72 = some (.struct a) → ∀ w, (a.mapM (fun (f : Field) => do pure (f.offset, ← sizeOf f.type)) : Sem (Array (Nat × Nat))).run pg0 w = .ok #[(0, 1), (1, 1)] w := by
 intro a h w
 rw [cv] at h
 cases h
 kernel_rfl
theorem nn : gQ pg0 38 0 0 := gr bu rfl aD (by decide) rfl
theorem nY : gQ pg0 38 1 9 := gr bu rfl dm (by decide) rfl
theorem sD : ∀ a, Tryz.prog.underlying 38 = some (.struct a) → ∀ w, (a.mapM (fun (f : Field) => do pure (f.offset, ← sizeOf f.type)) : Sem (Array (Nat × Nat))).run pg0 w = .ok #[(0, 9), (9, 1)] w := by
 intro a h w
 rw [bu] at h
 cases h
 kernel_rfl
theorem tz : gQ pg0 76 0 0 := gr eH rfl sizeOf74 (by decide) rfl
theorem Cm : ∀ a, Tryz.prog.underlying 76 = some (.struct a) → ∀ w, (a.mapM (fun (f : Field) => do pure (f.offset, ← sizeOf f.type)) : Sem (Array (Nat × Nat))).run pg0 w = .ok #[(0, 1)] w := by
 intro a h w
 rw [eH] at h
 cases h
 kernel_rfl
theorem ol : gQ pg0 56 0 0 := gr cT rfl dm (by decide) rfl
theorem zj : ∀ a, Tryz.prog.underlying 56 = some (.struct a) → ∀ w, (a.mapM (fun (f : Field) => do pure (f.offset, ← sizeOf f.type)) : Sem (Array (Nat × Nat))).run pg0 w = .ok #[(0, 1)] w := by
 intro a h w
 rw [cT] at h
 cases h
 kernel_rfl
theorem ng : gQ pg0 100 0 0 := gr dN rfl dm (by decide) rfl
theorem ud : gQ pg0 100 1 1 := gr dN rfl sizeOf4 (by decide) rfl
theorem BU : ∀ a, Tryz.prog.underlying 100 = some (.struct a) → ∀ w, (a.mapM (fun (f : Field) => do pure (f.offset, ← sizeOf f.type)) : Sem (Array (Nat × Nat))).run pg0 w = .ok #[(0, 1), (1, 1)] w := by
 intro a h w
 rw [dN] at h
 cases h
 kernel_rfl
theorem Ar : gQ pg0 125 0 0 := gr cZ rfl sizeOf65 (by decide) rfl
theorem Au : gQ pg0 125 1 1 := gr cZ rfl sizeOf27 (by decide) rfl
theorem B0 : ∀ a, Tryz.prog.underlying 125 = some (.struct a) → ∀ w, (a.mapM (fun (f : Field) => do pure (f.offset, ← sizeOf f.type)) : Sem (Array (Nat × Nat))).run pg0 w = .ok #[(0, 1), (1, 1)] w := by
 intro a h w
 rw [cZ] at h
 cases h
 kernel_rfl
def lF : jT Key := fun μ ys x => ∃ (v0 : Value), ys = [.string x.fD, v0] ∧ Sl (Pl (fl .u8)) 1 μ v0 x.Key
theorem lF.out {μ : fz} {ys : List Value} {x : Key} (h : lF μ ys x) : ∃ (v0 : Value), ys = [.string x.fD, v0] ∧ Sl (Pl (fl .u8)) 1 μ v0 x.Key := h
theorem lF.mk {μ : fz} {ys : List Value} {x : Key} (h : ∃ (v0 : Value), ys = [.string x.fD, v0] ∧ Sl (Pl (fl .u8)) 1 μ v0 x.Key) : lF μ ys x := h
theorem qe : Deep lF 2 where
 mono := by rintro _ _ _ _ c ⟨v0, rfl, a⟩; exact ⟨v0, rfl, a.mono (Pl.mono _) c⟩
 len := by rintro _ _ _ ⟨v0, rfl, a⟩; rfl
 one := by
  rintro _ _ _ ⟨v0, rfl, a⟩
  intro u hu; simp only [aF, bi, cC] at hu; rcases hu with rfl | rfl
  ·rfl
  ·exact a.se
def jk : jT ft := fun μ ys x => ∃ (v0 : Value), ys = [.int .i64 x.eX.Kind, .string x.eX.Head.eY, .string x.eX.Head.eZ, .string x.eX.fD, .string x.eX.B.eY, .string x.eX.B.eZ, .string x.eX.C.eY, .string x.eX.C.eZ, .string x.eX.fw, v0] ∧ Sl (Pl (fl .u8)) 1 μ v0 x.Tag
theorem jk.out {μ : fz} {ys : List Value} {x : ft} (h : jk μ ys x) : ∃ (v0 : Value), ys = [.int .i64 x.eX.Kind, .string x.eX.Head.eY, .string x.eX.Head.eZ, .string x.eX.fD, .string x.eX.B.eY, .string x.eX.B.eZ, .string x.eX.C.eY, .string x.eX.C.eZ, .string x.eX.fw, v0] ∧ Sl (Pl (fl .u8)) 1 μ v0 x.Tag := h
theorem jk.mk {μ : fz} {ys : List Value} {x : ft} (h : ∃ (v0 : Value), ys = [.int .i64 x.eX.Kind, .string x.eX.Head.eY, .string x.eX.Head.eZ, .string x.eX.fD, .string x.eX.B.eY, .string x.eX.B.eZ, .string x.eX.C.eY, .string x.eX.C.eZ, .string x.eX.fw, v0] ∧ Sl (Pl (fl .u8)) 1 μ v0 x.Tag) : jk μ ys x := h
theorem rV : Deep jk 10 where
 mono := by rintro _ _ _ _ c ⟨v0, rfl, a⟩; exact ⟨v0, rfl, a.mono (Pl.mono _) c⟩
 len := by rintro _ _ _ ⟨v0, rfl, a⟩; rfl
 one := by
  rintro _ _ _ ⟨v0, rfl, a⟩
  intro u hu; simp only [aF, bi, cC] at hu; rcases hu with rfl | rfl | rfl | rfl | rfl | rfl | rfl | rfl | rfl | rfl
  ·rfl
  ·rfl
  ·rfl
  ·rfl
  ·rfl
  ·rfl
  ·rfl
  ·rfl
  ·rfl
  ·exact a.se
def gp : jT gf := fun μ ys x => ∃ (v0 : Value), ys = [v0] ∧ jV Value.string (fN 5 (fl .u8) 1) μ v0 x.m
theorem gp.out {μ : fz} {ys : List Value} {x : gf} (h : gp μ ys x) : ∃ (v0 : Value), ys = [v0] ∧ jV Value.string (fN 5 (fl .u8) 1) μ v0 x.m := h
theorem gp.mk {μ : fz} {ys : List Value} {x : gf} (h : ∃ (v0 : Value), ys = [v0] ∧ jV Value.string (fN 5 (fl .u8) 1) μ v0 x.m) : gp μ ys x := h
theorem jm : Deep gp 1 where
 mono := by rintro _ _ _ _ c ⟨v0, rfl, a⟩; exact ⟨v0, rfl, a.mono  c⟩
 len := by rintro _ _ _ ⟨v0, rfl, a⟩; rfl
 one := by
  rintro _ _ _ ⟨v0, rfl, a⟩
  intro u hu; simp only [aF, bi, cC] at hu; rcases hu with rfl
  ·exact a.se
theorem A5 : mN pg0 9 Value.string fU := mN.string aG
theorem A3 (w : World) (s : ByteArray) (c : Int) : (callFunc 100 [Value.string s, .int .u8 c].toArray).run pg0 w = .ok (.value (.int .i64 (nf s c))) w := tM func100 (by kernel_rfl) (by kernel_rfl) (by kernel_rfl) (by kernel_rfl) s c w
theorem nE (a : ByteArray) (c r : Int) (w : World) (hm : ij a c = some r) :
  fV true pg0 89 [(.string a), (.int .u8 c)] w (.int .i64 r) := by
 exact cG 8 func89 rfl (fun d => sg (Wa (lr (Wm (Wm (VE (xo (args := [(.string a), (.int .u8 c)]) (v := .int .i64 (nf a c)) rfl (by exact kx rfl rfl) (A3 _ a c) (Wa (lt (rQ hm d))))))))))
theorem ot (a : ByteArray) (c r : Int) (w : World) (hm : jx a c = some r) :
  fV true pg0 57 [(.string a), (.int .u8 c)] w (.int .i64 r) := by
 refine cG 8 func57 rfl (fun d => sg (Wa (lr (Wm (Wm (bS hm fun j g hm => VE (Eg d call89 (nE a c _ _  g) (fun i d => Wa (ln ?_)))))))))
 exact gd (rQ hm d)
theorem wG (I : ByteArray) (r : Bool) (w : World) (hm : pU I = some r) :
  fV true pg0 58 [(.string I)] w (.bool r) := by
 refine cG 16 func58 rfl (fun d => sg (Wa (lS (Wm (bS hm fun H J hm => VE (rH d aG az bd rfl J (fun W3 N T d M q j Y => V (iB az rfl j) (Wm (fL ?_)))))))))
 refine fB (kI (fun i E W => ∃ c, (E 8 = .int .i64 (i : Nat) ∧ E 7 = .int .i64 (H.length : Nat)) ∧ ST true ga w W T c ∧ E 6 = N ∧ lE (H.drop i) = some r) H.length j.len ⟨_, ⟨rfl, rfl⟩, (d.fe St), rfl, hm⟩ dc dc dc (fun _ _ _ h => by obtain ⟨_, o, _⟩ := h; exact o) ?_ ?_)
 ·rintro K E W u ⟨c, ⟨n, p⟩, d, g, a⟩
  obtain ⟨k, Q, D, B, G⟩ := jS u
  rw [D] at a
  refine bg (VQ (ox (enc := (fl .u8)) (i := (K : Int)) (x0 := k) az cP g n j (bB _) B) (fun Z x => V (fj rfl (kh d.has (y := (.int .u8 k)) x isAgg5)) (Wa (lr (Wm (bS a fun s z a => VE (Eg d call57 (ot (⟨#[97, 98, 99, 100, 101, 102, 103, 104, 105, 106, 107, 108, 109, 110, 111, 112, 113, 114, 115, 116, 117, 118, 119, 120, 121, 122, 48, 49, 50, 51, 52, 53, 54, 55, 56, 57, 45]⟩ : ByteArray) k _ _  z) (fun U d => Wi rfl (fL ?_)))))))))
  refine fB (CI a rfl (fun t a => ?_) (fun t a => ?_))
  ·refine sg (Wa (lt (jr (fP (jr (fP ?_))))))
   obtain rfl := sj a
   exact rP d
  exact gA (gL (fB ⟨n, _, ⟨rfl, p⟩, (d.fe St), g, (by rw [G]; exact a)⟩))
 rintro E W ⟨c, ⟨n, p⟩, d, g, a⟩
 rw [bE] at a
 exact fB (sg (Wa (lt (rQ a d))))
theorem kE (z : ByteArray) (r : Bool) (w : World) (hm : iL z = some r) :
  fV true pg0 31 [(.string z)] w (.bool r) := by
 refine cG 21 func31 rfl (fun d => sg (Wa (lr (Wm (V (iF aG rfl) (Wi rfl (Wm (LJ hm (fun K E W => ∃ Y, ST true ga w W (hp w) Y ∧ E 0 = (.string z) ∧ E 2 = (.bool false) ∧ E 10 = (.bool K)) 4 ?_ (fun K t y => ?_)))))))))
 ·rintro x2 E W ⟨Y, d, M, h, o⟩ a5
  refine Wh o (LJ a5 (fun J E W => ∃ D, ST true ga w W (hp w) D ∧ E 0 = (.string z) ∧ E 2 = (.bool false) ∧ E 16 = (.bool J)) 5 ?_ (fun J a x => ?_))
  ·rintro A E W ⟨D, d, n, H, a2⟩ N
   refine Wh a2 (LJ N (fun I E W => ∃ G, ST true ga w W (hp w) G ∧ E 2 = (.bool false) ∧ E 20 = (.bool I)) 3 ?_ (fun I j u => ?_))
   ·rintro F E W ⟨G, d, a9, a3⟩ Q
    exact Wg a3 (lt (rQ Q d))
   refine bC j (fun g j => ?_) (fun g j => ?_)
   ·refine ug g (fp n) (bS j fun s T j => mD g (Eg d call58 (wG z _ _  T) (fun p d => V (fF (cB g) rfl) ?_)))
    obtain rfl := sj j
    exact u _ _ ⟨_, (d.fe St), H, rfl⟩
   refine un g (un g (V (fE (cB g) rfl) ?_))
   obtain rfl := sj j
   exact u _ _ ⟨_, (d.fe St), H, rfl⟩
  refine bC a (fun c a => ?_) (fun c a => ?_)
  ·refine ug c (fp M) (bS a fun Z B a => ug c (oh (i := 0) aG rfl rfl (np B) (pu B)) (bS a fun v U a => mD c (Eg d call57 (ot (⟨#[97, 98, 99, 100, 101, 102, 103, 104, 105, 106, 107, 108, 109, 110, 111, 112, 113, 114, 115, 116, 117, 118, 119, 120, 121, 122]⟩ : ByteArray) (Z.toNat : Int) _ _  U) (fun q d => ug c (gl rfl rfl rfl) (V (fF (cB c) rfl) ?_)))))
   obtain rfl := sj a
   exact x _ _ ⟨_, (d.fe St), M, h, rfl⟩
  refine un c (un c (un c (un c (V (fE (cB c) rfl) ?_))))
  obtain rfl := sj a
  exact x _ _ ⟨_, (d.fe St), M, h, rfl⟩
 refine bC t (fun k t => ?_) (fun k t => ?_)
 ·refine ug k (fp rfl) (ug k (iF aG rfl) (ug k (gl rfl rfl rfl) (V (fF (cB k) rfl) ?_)))
  obtain rfl := sj t
  exact y _ _ ⟨_, (d.fe St), rfl, rfl, rfl⟩
 refine un k (un k (un k (V (fE (cB k) rfl) ?_)))
 obtain rfl := sj t
 exact y _ _ ⟨_, (d.fe St), rfl, rfl, rfl⟩
theorem ns (g : Value) (i r : List Int) (w : World) (a : Sl (Pl (fl .u8)) 1 (hp w) g i) (hm : gN i = some r) :
  gY true pg0 32 [g] w 5 (fl .u8) 1 r := by
 unfold gN at hm
 refine tK 8 func32 rfl (fun d => sg (Wa (lS (Wm ?_))))
 obtain ⟨y, B, rfl⟩ := a.form
 refine V (uw az rfl rfl) (ln ?_)
 rcases y with _ | z
 ·have u := a.isNil
  replace hm : some [] = some r := by rw [u] at hm; simpa [lV, maxLen] using hm
  refine nM (rfl) (sg (Wa (lt (fP ?_))))
  obtain rfl := sj hm
  exact fR (v := (.slice none 0 0)) rfl rfl ⟨_, [], rfl, d.kB (fun p h => by cases h) (by simp), fN.nil _ _ _⟩
 ·refine kz (rfl) (kg (VE (gk (cs := #[]) d mI (mr [] az cP dn dc rfl (by simp) rfl rfl) (fun G k d => Wm (bS hm fun H t hm => VE (nA (enc := (fl .u8)) (v := (.slice (some ⟨k, 0, none⟩) 0 0)) (vs := (.slice (some z) i.length B)) (R := [(k, Ob #[] 5)]) d (fun _ => rfl) dc (nh _) az iY.1 iY.2.1 rfl iY.2.2.1 iY.2.2.2 rfl rfl (fN.lit (l := []) (enc := (fl .u8)) rfl dc rfl rfl) (a.mono (Pl.mono _) d.fO) t (fun D x j d c => Wa (lt ?_))))))))
  obtain rfl := sj hm
  exact fR (v := x) rfl rfl ⟨_, j, rfl, d.kB (fun p h => (Ml h)) c.nd, c⟩
theorem qR (T : Value) (a0 : List Key) (r : ((Option gf) × Int)) (w : World) {μ0 : fz} (h0 : ju μ0 [] w) (a3 : Sl lF 2 μ0 T a0) (hm : nQ a0 = some r) :
  gV true pg0 7 [T] w μ0 [] (fun v L1 μ1 => ∃ y1, v = (.tuple #[y1, (.int .i64 (r.2))]) ∧ L1 = [] ∧ lz gp μ1 y1 r.1) := by
 refine Ac h0 57 func7 rfl (fun d => sg (Wa (Wa (lr (VE (xu (P := pg0) Value.string (fN 5 (fl .u8) 1) d (fun W1 v4 R2 d d0 => ?_)))))))
 obtain ⟨Z, rfl⟩ := d0.form
 refine V (gw (v := (.agg #[(.map (some Z))])) (iU rfl) (fZ zeroValue76 eH (Cm _ eH) kr)) (VE (hZ d rfl (fun W7 s d => Wa (lS (Wm (V (iB du rfl a3) (Wm (ln (kI (fun i E W => ∃ I D y a1, (E 14 = .int .i64 (i : Nat) ∧ E 13 = .int .i64 (a0.length : Nat)) ∧ fA μ0 y ∧ Lo (keys []) w μ0 y ∧ ST true (keys []) w W y ((s, Ob #[(.map (some Z))] 76) :: (D ++ a1)) ∧ E 4 = (.pointer (some ⟨s, 0, none⟩)) ∧ E 12 = T ∧ oI Value.string (fN 5 (fl .u8) 1) (.map (some Z)) I D ∧ kY (a0.drop i) I = some r) a0.length a3.len ⟨([]), R2, μ0, _, ⟨rfl, rfl⟩, (fA.refl _), Lo.refl, (d.fe St), rfl, rfl, d0, hm⟩ dc dc dc (fun _ _ _ h => by obtain ⟨_, _, _, _, aa, _⟩ := h; exact aa) ?_ ?_)))))))))
 ·rintro b1 E W c0 ⟨I, D, y, a1, ⟨O, eN⟩, t, p, d, G, M, Q, a⟩
  obtain ⟨j, e4, c8, c7, c9⟩ := jS c0
  rw [c8] at a
  refine bg (VQ (qP (i := (b1 : Int)) (x0 := j) lF.out du dP M O (a3.mono qe.mono t) (bB _) c7) (fun f5 ⟨_, ⟨f7, rfl, B⟩, c1⟩ => V (fj rfl (oC d.has c1 isAgg72 dP)) (VE (gH d cR (fun e9 a7 d => ?_)))))
  obtain ⟨J, K, rfl⟩ := B.form
  let a2 : Value := (.slice J j.Key.length K)
  refine VO (fH (.agg #[(.string j.fD), a2]) (#[(.string j.fD), a2]) d rfl rfl dP oc nb rfl (fun f0 d => ln (fq ?_)))
  replace d := d.drew
  have n := d.has.fe (Kb (Kb (Kr Sn)))
  refine gX n gE (X 0 rfl n (fp G) (X 1 rfl n (ig rfl) (X 2 rfl n (fh tz rfl) (XH 3 rfl n (fun _ q => fj rfl (fG q (Mt Mh) rfl isAgg74)) (X 4 rfl n (fh tj rfl) (XH 5 rfl n (fun _ q => fj rfl (fG q Mh rfl aW)) ?_))))))
  obtain ⟨e3, N⟩ := Q
  obtain ⟨e7, e1, e2⟩ := iG.rowAt gz.1 N j.fD
  refine XH 6 rfl n (fun _ q => ql (k := j.fD) (z := (.slice none 0 0)) A5 underlying74 zeroValue36 rfl rfl N (fun b o hq => q.2 b o (Mt (Mt (Ml hq))))) (X 7 rfl n (fp rfl) (X 8 rfl n (iV rfl rfl) (X 9 rfl n (iV rfl rfl) (X 10 rfl n (fT rfl) (X 11 rfl n (fT rfl) (iH kr (fB (fq (bg (Wf tj (VB d Mh rfl rfl aW (bS a fun f6 c4 a => ?_))))))))))))
  refine VE (Eg d call31 (kE j.fD _ _  c4) (fun f1 d => V (kN rfl) (Wa (ln (CI a rfl (fun b5 a => ?_) (fun b5 a => ?_))))))
  ·refine sg (Wa (Wa (ln ?_)))
   replace d := d.fe (Db (Db (Dr St)))
   refine gd (jr (fP (jr (fP (jr (fP ?_))))))
   obtain rfl := sj a
   exact oS (v := (.pointer none)) (u := (.int .i64 30)) rfl rfl rfl ⟨_, _, _, rfl, (d.gb Sn), t, p, (ST.fK d (gm.mem Sn)), (.pointer none), rfl, rfl, lz.nil⟩
  refine sg (Wf tG (VB d Mh rfl rfl bW (V (iB az rfl B) (Wi rfl (Wm (LJ a (fun b2 E W => ∃ a6, ST true (keys []) w W y ((a7, Ob #[(.string j.fD), a2] 72) :: ((s, Ob #[(.map (some Z))] 76) :: (D ++ a6))) ∧ E 4 = (.pointer (some ⟨s, 0, none⟩)) ∧ E 6 = (.pointer (some ⟨a7, 0, none⟩)) ∧ E 8 = (.bool ((iu fU I j.fD).isSome)) ∧ E 12 = T ∧ E 13 = (.int .i64 (a0.length : Int)) ∧ E 14 = (.int .i64 (b1 : Int)) ∧ E 43 = (.bool b2)) 5 ?_ (fun b2 x Y => ?_)))))))
  ·rintro f9 E W ⟨a6, d, a8, a9, d2, d3, d4, d5, d6⟩ c
   refine Wg d6 (ln (CI c rfl (fun b7 c => ?_) (fun b7 c => ?_)))
   ·refine sg (Wa (Wa (ln ?_)))
    replace d := d.fe (Db (Db (Dr St)))
    refine gd (jr (fP (jr (fP (jr (fP ?_))))))
    obtain rfl := sj c
    exact oS (v := (.pointer none)) (u := (.int .i64 21)) rfl rfl rfl ⟨_, _, _, rfl, (d.gb Sn), t, p, (ST.fK d (gm.mem Sn)), (.pointer none), rfl, rfl, lz.nil⟩
   refine sg (Wh d2 (Wa (ln (CI c rfl (fun b9 c => ?_) (fun b9 c => ?_)))))
   ·refine sg (Wa (Wa (ln ?_)))
    replace d := d.fe (Db (Db (Dr St)))
    refine gd (jr (fP (jr (fP (jr (fP ?_))))))
    obtain rfl := sj c
    exact oS (v := (.pointer none)) (u := (.int .i64 41)) rfl rfl rfl ⟨_, _, _, rfl, (d.gb Sn), t, p, (ST.fK d (gm.mem Sn)), (.pointer none), rfl, rfl, lz.nil⟩
   refine gA (gL (fB ?_))
   replace d := d.drew
   have n := d.has.fe (Kb (Kb Sn))
   refine gX n gE (X 0 rfl n (fp a8) (X 1 rfl n (ig rfl) (X 2 rfl n (fh tz rfl) (XH 3 rfl n (fun _ q => fj rfl (fG q (Mt Mh) rfl isAgg74)) (X 4 rfl n (fh tj a9) (XH 5 rfl n (fun _ q => fj rfl (fG q Mh rfl aW)) (X 6 rfl n (fh tG a9) (XH 7 rfl n (fun _ q => fj rfl (fG q Mh rfl bW)) (bS c fun d8 c5 c => XE 8 rfl (nX d call32 (ns a2 j.Key _ _ (B.mono (Pl.mono _) d.fO) c5) (fun f2 f8 d9 e8 d H A b3 => ?_)))))))))))
   have n := d.has.nB H (Dr (Kb (Kb Sn)))
   refine ⟨n, ?_⟩
   replace d := d.perm (Nr (Qr (Qb (Qb Qz))) Nz)
   refine bS c fun d7 c6 c => XO 9 rfl (yV (k := j.fD) (z := d8)  A5 underlying74 d N rfl rfl rfl b3 c6 (fun f3 d1 d b4 => ?_))
   have n := d.has.nB H (Dr (Kb (Kb Sn)))
   refine ⟨n, (iH kr (gL (fB ?_)))⟩
   replace d := d.fe (Kr (Db St))
   exact ⟨d5, d7, d1, d9, _, ⟨rfl, d4⟩, (t.trans H), (p.trans A), (d.fe (Sb (Pr Pz) St)), a8, d3, b4.e, (by rw [c9]; exact c)⟩
  refine bC x (fun g x => ?_) (fun g x => ?_)
  ·refine un g (un g (un g (un g (V (fF (cB g) rfl) ?_))))
   obtain rfl := sj x
   exact Y _ _ ⟨_, (d.fe St), G, rfl, rfl, M, eN, O, rfl⟩
  refine ug g (fh tG rfl) (ug g (fj rfl (fG d.has Mh rfl bW)) (ug g (iB az rfl B) (ug g (gl rfl rfl rfl) (V (fE (cB g) rfl) ?_))))
  obtain rfl := sj x
  exact Y _ _ ⟨_, (d.fe St), G, rfl, rfl, M, eN, O, rfl⟩
 rintro E W ⟨I, D, y, a1, ⟨O, eN⟩, t, p, d, G, M, Q, a⟩
 rw [bE] at a
 refine fB (sg (Wh G (Wa (Wa (lt ?_)))))
 obtain rfl := sj a
 refine oS (v := (.pointer (some ⟨s, 0, none⟩))) (u := (.int .i64 0)) rfl rfl rfl ?_
 replace d := d.perm (Nr (Qb Qz) Nz)
 obtain ⟨g1, d, b0, F, c2⟩ := ST.tf d
 obtain ⟨g2, d, U, L, c3⟩ := ST.tf (R := [(s, Ob #[(.map (some Z))] 76)]) d
 exact ⟨_, _, _, rfl, (d.gb Sn), ((t.trans b0).trans U), ((p.trans F).trans L), (ST.fK d (gm.mem Sn)), (.pointer (some ⟨s, 0, none⟩)), rfl, rfl, (lz.some (At.of (c3 _ _ (.head _)) _ rfl) (gp.mk ⟨(.map (some Z)), rfl, ((Q.at c2).mono U)⟩))⟩
theorem lK (i : fu) (r : Bool) (w : World) (hm : ja i = some r) :
  fV true pg0 80 [(.agg (fC i).toArray)] w (.bool r) := by
 refine cG 11 func80 rfl (fun d => sg (VE (hZ d rfl (fun H J d => Wa (lr (Wf jt (VB d Mh rfl rfl aW (bS hm fun K y hm => VE (Eg d call31 (kE i.eY _ _  y) (fun I d => Wm (LJ hm (fun k E W => ∃ j, ST true ga w W (hp w) j ∧ E 2 = (.bool false) ∧ E 10 = (.bool k)) 4 ?_ (fun k a g => ?_))))))))))))
 ·rintro G E W ⟨j, d, B, x⟩ t
  exact Wg x (lt (rQ t d))
 refine bC a (fun c a => ?_) (fun c a => ?_)
 ·refine ug c (fh mM rfl) (ug c (fj rfl (fG d.has Mh rfl aW)) (bS a fun D u a => mD c (Eg d call31 (kE i.eZ _ _  u) (fun z d => V (fF (cB c) rfl) ?_))))
  obtain rfl := sj a
  exact g _ _ ⟨_, (d.fe (Db St)), rfl, rfl⟩
 refine un c (un c (un c (V (fE (cB c) rfl) ?_)))
 obtain rfl := sj a
 exact g _ _ ⟨_, (d.fe (Db St)), rfl, rfl⟩
theorem Bp (w : World) (a b : ByteArray) : (callFunc 131 [Value.string a, .string b].toArray).run pg0 w = .ok (.value (.int .i64 (lj a b))) w := yW func131 (by kernel_rfl) (by kernel_rfl) (by kernel_rfl) (by kernel_rfl) a b w
theorem nz (a c : ByteArray) (r : Int) (w : World) (hm : iT a c = some r) :
  fV true pg0 121 [(.string a), (.string c)] w (.int .i64 r) := by
 exact cG 8 func121 rfl (fun d => sg (Wa (lr (Wm (Wm (VE (xo (args := [(.string a), (.string c)]) (v := .int .i64 (lj a c)) rfl (by exact kx rfl rfl) (Bp _ a c) (Wa (lt (rQ hm d))))))))))
theorem pd (a c : ByteArray) (r : Int) (w : World) (hm : lC a c = some r) :
  fV true pg0 98 [(.string a), (.string c)] w (.int .i64 r) := by
 refine cG 8 func98 rfl (fun d => sg (Wa (lr (Wm (Wm (bS hm fun j g hm => VE (Eg d call121 (nz a c _ _  g) (fun i d => Wa (ln ?_)))))))))
 exact gd (rQ hm d)
theorem vJ (g : Value) (t : List Int) (r : Int) (w : World) (c : Sl (Pl (fl .i64)) 1 (hp w) g t) (hm : pv t = some r) :
  fV true pg0 97 [g] w (.int .i64 r) := by
 refine cG 18 func97 rfl (fun d => sg (Wa (lr (Wa (lS (Wm ?_))))))
 refine V (iB underlying160 rfl c) (Wm (ln (kI (fun i E W => ∃ k, (E 8 = .int .i64 (i : Nat) ∧ E 7 = .int .i64 (t.length : Nat)) ∧ ST true ga w W (hp w) k ∧ E 3 = (.int .i64 0) ∧ E 6 = g ∧ mA (t.drop i) = some r) t.length c.len ⟨_, ⟨rfl, rfl⟩, (d.fe St), rfl, rfl, hm⟩ dc dc dc (fun _ _ _ h => by obtain ⟨_, o, _⟩ := h; exact o) ?_ ?_)))
 ·rintro J E W B ⟨k, ⟨n, p⟩, d, j, u, a⟩
  obtain ⟨x, K, H, G, I⟩ := jS B
  rw [H] at a
  refine bg (VQ (ox (enc := (fl .i64)) (i := (J : Int)) (x0 := x) underlying160 dt u n c (bB _) G) (fun M D => V (fj rfl (kh d.has (y := (.int .i64 x)) D bP)) (Wa (lr (Wm (Wh j (Wi rfl (ln ?_))))))))
  refine CI a rfl (fun z a => ?_) (fun z a => ?_)
  ·refine sg (Wm (Wa (lt (jr (fP (jr (fP ?_)))))))
   obtain rfl := sj a
   exact rP d
  exact gA (gL (fB ⟨n, _, ⟨rfl, p⟩, (d.fe St), j, u, (by rw [I]; exact a)⟩))
 rintro E W ⟨k, ⟨n, p⟩, d, j, u, a⟩
 rw [bE] at a
 exact fB (sg (Wh j (Wa (lt (rQ a d)))))
theorem tP (g i : fu) (r : Int) (w : World) (hm : mU g i = some r) :
  fV true pg0 81 [(.agg (fC g).toArray), (.agg (fC i).toArray)] w (.int .i64 r) := by
 refine cG 17 func81 rfl (fun d => sg (VE (hZ d rfl (fun G I d => VE (hZ d rfl (fun H J d => Wa (ln (fq ?_))))))))
 replace d := d.drew
 have h := d.has.fe (Kb (Kb Sn))
 refine gX h gE (X 0 rfl h (fh jt rfl) (XH 1 rfl h (fun _ n => fj rfl (fG n (Mt Mh) rfl aW)) (X 2 rfl h (fh jt rfl) (XH 3 rfl h (fun _ n => fj rfl (fG n Mh rfl aW)) (X 5 rfl h (fh mM rfl) (XH 6 rfl h (fun _ n => fj rfl (fG n (Mt Mh) rfl aW)) (X 7 rfl h (fh mM rfl) (XH 8 rfl h (fun _ n => fj rfl (fG n Mh rfl aW)) (bS hm fun a j hm => XE 4 rfl (Eg d call98 (pd g.eY i.eY _ _  j) (fun x d => ?_)))))))))))
 have h := d.has.fe (Kb (Kb Sn))
 refine ⟨h, (bS hm fun c k hm => XE 9 rfl (Eg d call98 (pd g.eZ i.eZ _ _  k) (fun y d => ?_)))⟩
 have h := d.has.fe (Kb (Kb Sn))
 refine ⟨h, (XE 10 rfl (gk (cs := #[(.int .i64 a), (.int .i64 c)]) d (lf rfl rfl) (nq underlying160 dt zeroValue3) (fun z u d => ?_)))⟩
 have h := d.has.fe (Db (Kb (Kb Sn)))
 refine ⟨h, (bS hm fun D t hm => XE 11 rfl (Eg d call97 (vJ (.slice (some ⟨u, 0, none⟩) 2 2) ([a, c]) _ _ (Sl.lit (enc := (fl .i64)) (l := [a, c]) (fun _ => rfl) rfl nb rfl (d.at_ Mh)) t) (fun B d => ?_)))⟩
 have h := d.has.fe (Db (Kb (Kb Sn)))
 refine ⟨h, (X 12 rfl h (fT rfl) (iH kr (fB ?_)))⟩
 exact gd (rQ hm d)
set_option maxHeartbeats 4000000 in
theorem mK (a : eX) (r : Bool) (w : World) (hm : jc a = some r) :
  fV true pg0 48 [(.agg (fa a).toArray)] w (.bool r) := by
 let m9 := (⟨a.Kind, a.Head, zS, a.B, a.C, zS⟩ : eX)
 let m8 := (⟨a.Kind, a.Head, zS, a.B, K0, a.fw⟩ : eX)
 let m7 : Value := (.agg (fC a.B).toArray)
 let j2 := ((fa (⟨a.Kind, a.Head, zS, a.B, K0, zS⟩ : eX)).toArray)
 let s := (⟨a.Kind, a.Head, zS, K0, K0, zS⟩ : eX)
 refine cG 98 func48 rfl (fun d => sg (VE (hZ d rfl (fun W2 N d => Wa (lr (Wf iX (VB d Mh rfl rfl bP (Wf mn (VA d Mh (fC a.Head) bk aJ (V (gw (v := (.agg (fa s).toArray)) (lf rfl rfl) (fZ br bj (uo _ bj) kr)) (VE (gH d br (fun W4 B d => ?_)))))))))))))
 refine VO (fH (.agg (fa s).toArray) ((fa s).toArray) d rfl rfl aD (iA s) nb rfl (fun W5 d => lr (Wf mn (VA d (Mt Mh) (fC a.Head) bk aJ (bS hm fun q j0 hm => VE (Eg d call80 (lK a.Head _ _  j0) (fun W8 d => Wa (ln (fq (uz hm (fun L E W => ∃ b6, ST true ga w W (hp w) ((B, Ol (fa L.2) 35) :: ((N, Ol (fa a) 35) :: b6)) ∧ E 1 = (.pointer (some ⟨N, 0, none⟩)) ∧ E 3 = (.pointer (some ⟨B, 0, none⟩)) ∧ E 4 = (.bool L.1)) (fun L g Z => ?_) ?_))))))))))
 ·let j1 := ((fa m9).toArray : Array Value)
  let b8 := ((fa m8).toArray : Array Value)
  let p : Value := (.pointer (some ⟨B, 0, none⟩))
  let o : Value := (.pointer (some ⟨N, 0, none⟩))
  let a0 := ((fa a).toArray : Array Value)
  refine sg (Wf iX (VB d (Mt Mh) rfl rfl bP (ln (bg (Wi rfl (Wa (ln (CI g rfl (fun e5 g => ?_) (fun e5 g => ?_)))))))))
  ·replace d := d.drew
   have h := d.has.fe (Db (Kb Sn))
   refine gX h gE (X 0 rfl h (fh nj rfl) (XH 1 rfl h (fun _ n => fj rfl (fG n Mh rfl aW)) (X 2 rfl h (fp rfl) (X 3 rfl h (fp rfl) (X 8 rfl h (fh nj rfl) (PJ g (fun d6 E W => ∃ b9, ST true ga w W (hp w) ((B, Ol (fa s) 35) :: ((N, Obj.cells a0 35 (0, 0)) :: b9)) ∧ E 1 = o ∧ E 3 = p ∧ E 4 = (.bool q) ∧ E 18 = (.string a.fD) ∧ E 24 = (.bool d6) ∧ E 25 = (.pointer (some ⟨B, 3, none⟩))) (bm 11 511) 2 ?_ (fun d6 D a2 => ?_)))))))
   ·rintro l9 E W ⟨b9, d, h0, h1, k6, h2, h3, h4⟩ f1
    refine XO 9 rfl (fH (.string a.fD) ((fa (⟨a.Kind, a.Head, a.fD, K0, K0, zS⟩ : eX)).toArray) d h4 h2 dr (rr a.fD) nb rfl (fun j3 d => ?_))
    have h := d.has.fe (Db (Kb Sn))
    refine ⟨h, (X 10 rfl h (fT h3) (iH kr (gL (fB ?_))))⟩
    obtain rfl := sj f1
    exact ⟨_, rfl, _, (d.fe St), h0, h1, rfl⟩
   refine bC D (fun k D => ?_) (fun k D => ?_)
   ·refine Xg 4 rfl rfl (cB k) h (fh nj rfl) (yA 5 rfl rfl (cB k) h (fun _ n => fj rfl (fG n Mh rfl aW)) (bS D fun l0 f9 D => wX 6 rfl rfl (cB k) (Eg d call31 (kE a.fD _ _  f9) (fun j4 d => ?_))))
    have h := d.has.fe (Db (Kb Sn))
    refine ⟨h, (X 7 rfl h (fF (cB k) rfl) ?_)⟩
    obtain rfl := sj D
    refine nw kr (a2 _ _ ⟨_, (d.fe St), rfl, rfl, rfl, rfl, rfl, rfl⟩)
   refine Xn 4 rfl rfl (cB k) h (Xn 5 rfl rfl (cB k) h (Xn 6 rfl rfl (cB k) h (X 7 rfl h (fE (cB k) rfl) ?_)))
   obtain rfl := sj D
   refine nw kr (a2 _ _ ⟨_, (d.fe St), rfl, rfl, rfl, rfl, rfl, rfl⟩)
  refine sg (Wi rfl (Wa (ln (CI g rfl (fun e6 g => ?_) (fun e6 g => ?_)))))
  ·replace d := d.drew
   have h := d.has.fe (Db (Kb Sn))
   refine gX h gE (X 0 rfl h (fh im rfl) (XH 1 rfl h (fun _ n => fj rfl (fy n Mh (fC a.B) rfl bk aJ)) (X 2 rfl h (fp rfl) (X 3 rfl h (fp rfl) (X 8 rfl h (fh im rfl) (PJ g (fun d7 E W => ∃ c0, ST true ga w W (hp w) ((B, Ol (fa s) 35) :: ((N, Obj.cells a0 35 (0, 0)) :: c0)) ∧ E 1 = o ∧ E 3 = p ∧ E 4 = (.bool q) ∧ E 29 = m7 ∧ E 35 = (.bool d7) ∧ E 36 = (.pointer (some ⟨B, 4, none⟩))) (bm 11 511) 2 ?_ (fun d7 G a3 => ?_)))))))
   ·rintro m0 E W ⟨c0, d, h5, h6, k7, h7, h8, h9⟩ f2
    refine XO 9 rfl (fH m7 j2 d h9 h7 aJ (jD a.B) nb rfl (fun j5 d => ?_))
    have h := d.has.fe (Db (Kb Sn))
    refine ⟨h, (X 10 rfl h (fT h8) (iH kr (gL (fB ?_))))⟩
    obtain rfl := sj f2
    exact ⟨_, rfl, _, (d.fe St), h5, h6, rfl⟩
   refine bC G (fun t G => ?_) (fun t G => ?_)
   ·refine Xg 4 rfl rfl (cB t) h (fh im rfl) (yA 5 rfl rfl (cB t) h (fun _ n => fj rfl (fy n Mh (fC a.B) rfl bk aJ)) (bS G fun l1 g0 G => wX 6 rfl rfl (cB t) (Eg d call80 (lK a.B _ _  g0) (fun j6 d => ?_))))
    have h := d.has.fe (Db (Kb Sn))
    refine ⟨h, (X 7 rfl h (fF (cB t) rfl) ?_)⟩
    obtain rfl := sj G
    refine nw kr (a3 _ _ ⟨_, (d.fe St), rfl, rfl, rfl, rfl, rfl, rfl⟩)
   refine Xn 4 rfl rfl (cB t) h (Xn 5 rfl rfl (cB t) h (Xn 6 rfl rfl (cB t) h (X 7 rfl h (fE (cB t) rfl) ?_)))
   obtain rfl := sj G
   refine nw kr (a3 _ _ ⟨_, (d.fe St), rfl, rfl, rfl, rfl, rfl, rfl⟩)
  refine sg (Wi rfl (Wa (ln (CI g rfl (fun e7 g => ?_) (fun e7 g => ?_)))))
  ·refine fq ?_
   replace d := d.drew
   have h := d.has.fe (Db (Kb Sn))
   refine gX h gE (X 0 rfl h (fh im rfl) (XH 1 rfl h (fun _ n => fj rfl (fy n Mh (fC a.B) rfl bk aJ)) (X 2 rfl h (fh mo rfl) (XH 3 rfl h (fun _ n => fj rfl (fG n Mh rfl aW)) (X 4 rfl h (fh im rfl) (XO 5 rfl (fH m7 j2 d rfl rfl aJ (jD a.B) nb rfl (fun j7 d => ?_))))))))
   have h := d.has.fe (Db (Kb Sn))
   refine ⟨h, (X 6 rfl h (fh mo rfl) (XO 7 rfl (fH (.string a.fw) ((fa m8).toArray) d rfl rfl dr (rr a.fw) nb rfl (fun j8 d => ?_))))⟩
   have h := d.has.fe (Db (Kb Sn))
   refine ⟨h, (iH kr (fB (fi (Wm (Wm (LJ g (fun e0 E W => ∃ c1, ST true ga w W (hp w) ((B, Obj.cells b8 35 (0, 0)) :: ((N, Obj.cells a0 35 (0, 0)) :: c1)) ∧ E 1 = o ∧ E 3 = p ∧ E 4 = (.bool q) ∧ E 50 = (.bool e0)) 4 ?_ (fun e0 I P => ?_)))))))⟩
   ·rintro m1 E W ⟨c1, d, U, c7, c8, i0⟩ f3
    refine Wh i0 (LJ f3 (fun d9 E W => ∃ c2, ST true ga w W (hp w) ((B, Obj.cells b8 35 (0, 0)) :: ((N, Obj.cells a0 35 (0, 0)) :: c2)) ∧ E 1 = o ∧ E 3 = p ∧ E 4 = (.bool q) ∧ E 59 = (.bool d9)) 8 ?_ (fun d9 T a5 => ?_))
    ·rintro m2 E W ⟨c2, d, A, c9, d0, i1⟩ f4
     refine Wh i1 (LJ f4 (fun d8 E W => ∃ c3, ST true ga w W (hp w) ((B, Obj.cells b8 35 (0, 0)) :: ((N, Obj.cells a0 35 (0, 0)) :: c3)) ∧ E 1 = o ∧ E 3 = p ∧ E 4 = (.bool q) ∧ E 64 = (.bool d8)) 4 ?_ (fun d8 H a4 => ?_))
     ·rintro m3 E W ⟨c3, d, i2, i3, k8, i4⟩ f5
      refine Wg i4 (fL (gL (fB ?_)))
      obtain rfl := sj f5
      exact ⟨_, rfl, _, (d.fe St), i2, i3, rfl⟩
     refine bC H (fun x H => ?_) (fun x H => ?_)
     ·refine ug x (fh mo A) (ug x (fj rfl (fG d.has (Mt Mh) rfl aW)) (bS H fun l2 g1 H => mD x (Eg d call31 (kE a.fw _ _  g1) (fun j9 d => V (fF (cB x) rfl) ?_))))
      obtain rfl := sj H
      exact a4 _ _ ⟨_, (d.fe St), A, c9, d0, rfl⟩
     refine un x (un x (un x (V (fE (cB x) rfl) ?_)))
     obtain rfl := sj H
     exact a4 _ _ ⟨_, (d.fe St), A, c9, d0, rfl⟩
    refine bC T (fun c T => ?_) (fun c T => ?_)
    ·refine ug c (fh im U) (ug c (fh jt rfl) (ug c (fj rfl (fG d.has (Mt Mh) rfl aW)) (ug c (fh mn U) (ug c (fh jt rfl) (ug c (fj rfl (fG d.has (Mt Mh) rfl aW)) (ug c (lZ rfl rfl rfl) (V (fF (cB c) rfl) ?_)))))))
     obtain rfl := sj T
     exact a5 _ _ ⟨_, (d.fe St), U, c7, c8, rfl⟩
    refine un c (un c (un c (un c (un c (un c (un c (V (fE (cB c) rfl) ?_)))))))
    obtain rfl := sj T
    exact a5 _ _ ⟨_, (d.fe St), U, c7, c8, rfl⟩
   refine bC I (fun u I => ?_) (fun u I => ?_)
   ·refine ug u (fh im rfl) (ug u (fj rfl (fy d.has (Mt Mh) (fC a.B) rfl bk aJ)) (bS I fun l3 g2 I => mD u (Eg d call80 (lK a.B _ _  g2) (fun k0 d => V (fF (cB u) rfl) ?_))))
    obtain rfl := sj I
    exact P _ _ ⟨_, (d.fe St), rfl, rfl, rfl, rfl⟩
   refine un u (un u (un u (V (fE (cB u) rfl) ?_)))
   obtain rfl := sj I
   exact P _ _ ⟨_, (d.fe St), rfl, rfl, rfl, rfl⟩
  refine sg (Wi rfl (Wa (ln (CI g rfl (fun e8 g => ?_) (fun e8 g => ?_)))))
  ·refine fq ?_
   replace d := d.drew
   have h := d.has.fe (Db (Kb Sn))
   refine gX h gE (X 0 rfl h (fh im rfl) (XH 1 rfl h (fun _ n => fj rfl (fy n Mh (fC a.B) rfl bk aJ)) (X 2 rfl h (fh kF rfl) (XH 3 rfl h (fun _ n => fj rfl (fy n Mh (fC a.C) rfl bk aJ)) (X 4 rfl h (fh im rfl) (XO 5 rfl (fH m7 j2 d rfl rfl aJ (jD a.B) nb rfl (fun k1 d => ?_))))))))
   have h := d.has.fe (Db (Kb Sn))
   refine ⟨h, (X 6 rfl h (fh kF rfl) (XO 7 rfl (fH (.agg (fC a.C).toArray) ((fa m9).toArray) d rfl rfl aJ (jD a.C) nb rfl (fun k2 d => ?_))))⟩
   have h := d.has.fe (Db (Kb Sn))
   refine ⟨h, (iH kr (fB (fi (Wm (Wm (LJ g (fun e3 E W => ∃ c4, ST true ga w W (hp w) ((B, Obj.cells j1 35 (0, 0)) :: ((N, Obj.cells a0 35 (0, 0)) :: c4)) ∧ E 1 = o ∧ E 3 = p ∧ E 4 = (.bool q) ∧ E 78 = (.bool e3)) 4 ?_ (fun e3 M a9 => ?_)))))))⟩
   ·rintro m4 E W ⟨c4, d, F, d1, d2, i5⟩ f6
    refine Wh i5 (LJ f6 (fun e2 E W => ∃ c5, ST true ga w W (hp w) ((B, Obj.cells j1 35 (0, 0)) :: ((N, Obj.cells a0 35 (0, 0)) :: c5)) ∧ E 1 = o ∧ E 3 = p ∧ E 4 = (.bool q) ∧ E 83 = (.bool e2)) 4 ?_ (fun e2 K a8 => ?_))
    ·rintro m5 E W ⟨c5, d, Y, d3, d4, i6⟩ f7
     refine Wh i6 (LJ f7 (fun e1 E W => ∃ c6, ST true ga w W (hp w) ((B, Obj.cells j1 35 (0, 0)) :: ((N, Obj.cells a0 35 (0, 0)) :: c6)) ∧ E 1 = o ∧ E 3 = p ∧ E 4 = (.bool q) ∧ E 91 = (.bool e1)) 7 ?_ (fun e1 J R => ?_))
     ·rintro m6 E W ⟨c6, d, i7, i8, k9, i9⟩ f8
      refine Wg i9 (fL (gL (fB ?_)))
      obtain rfl := sj f8
      exact ⟨_, rfl, _, (d.fe St), i7, i8, rfl⟩
     refine bC J (fun i J => ?_) (fun i J => ?_)
     ·refine ug i (fh im Y) (ug i (fj rfl (fy d.has (Mt Mh) (fC a.B) rfl bk aJ)) (ug i (fh kF Y) (ug i (fj rfl (fy d.has (Mt Mh) (fC a.C) rfl bk aJ)) (bS J fun l4 g3 J => mD i (Eg d call81 (tP a.B a.C _ _  g3) (fun k3 d => ug i (gl rfl rfl rfl) (V (fF (cB i) rfl) ?_)))))))
      obtain rfl := sj J
      exact R _ _ ⟨_, (d.fe St), Y, d3, d4, rfl⟩
     refine un i (un i (un i (un i (un i (un i (V (fE (cB i) rfl) ?_))))))
     obtain rfl := sj J
     exact R _ _ ⟨_, (d.fe St), Y, d3, d4, rfl⟩
    refine bC K (fun z K => ?_) (fun z K => ?_)
    ·refine ug z (fh kF F) (ug z (fj rfl (fy d.has (Mt Mh) (fC a.C) rfl bk aJ)) (bS K fun l5 g4 K => mD z (Eg d call80 (lK a.C _ _  g4) (fun k4 d => V (fF (cB z) rfl) ?_))))
     obtain rfl := sj K
     exact a8 _ _ ⟨_, (d.fe St), F, d1, d2, rfl⟩
    refine un z (un z (un z (V (fE (cB z) rfl) ?_)))
    obtain rfl := sj K
    exact a8 _ _ ⟨_, (d.fe St), F, d1, d2, rfl⟩
   refine bC M (fun y M => ?_) (fun y M => ?_)
   ·refine ug y (fh im rfl) (ug y (fj rfl (fy d.has (Mt Mh) (fC a.B) rfl bk aJ)) (bS M fun l6 g5 M => mD y (Eg d call80 (lK a.B _ _  g5) (fun k5 d => V (fF (cB y) rfl) ?_))))
    obtain rfl := sj M
    exact a9 _ _ ⟨_, (d.fe St), rfl, rfl, rfl, rfl⟩
   refine un y (un y (un y (V (fE (cB y) rfl) ?_)))
   obtain rfl := sj M
   exact a9 _ _ ⟨_, (d.fe St), rfl, rfl, rfl, rfl⟩
  refine sg (Wa (ln ?_))
  replace d := d.fe (Db (Db St))
  refine gd (jr (fP ?_))
  obtain rfl := sj g
  replace Z : some false = some r := Z
  obtain rfl := sj Z
  exact rP d
 rintro ⟨l7, e4⟩ E W ⟨b6, d, g6, g7, g8⟩ e9
 refine sg (Wh g8 (Wm (LJ e9 (fun d5 E W => ∃ b7, ST true ga w W (hp w) b7 ∧ E 97 = (.bool d5)) 4 ?_ (fun d5 Q O => ?_))))
 ·rintro l8 E W ⟨b7, d, g9⟩ f0
  exact Wg g9 (lt (rQ f0 d))
 refine bC Q (fun j Q => ?_) (fun j Q => ?_)
 ·refine ug j (fj g7 (fy d.has Mh (fa e4) rfl bl aD)) (ug j (fj g6 (fy d.has (Mt Mh) (fa a) rfl bl aD)) (ug j (qK rfl rfl (lQ ey) (oz (qM _ e4 a))) (V (fF (cB j) rfl) ?_)))
  obtain rfl := sj Q
  exact O _ _ ⟨_, (d.fe (Db (Db St))), rfl⟩
 refine un j (un j (un j (V (fE (cB j) rfl) ?_)))
 obtain rfl := sj Q
 exact O _ _ ⟨_, (d.fe (Db (Db St))), rfl⟩
theorem oL (t : Value) (K : Option gf) (a : eX) (r : ((List Int) × Int)) (w : World) {J : fz} (Y : ju J [] w) (c : lz gp J t K) (hm : jO K a = some r) :
  gV true pg0 34 [t, (.agg (fa a).toArray)] w J [] (fun v U Z => ∃ T, v = (.tuple #[T, (.int .i64 (r.2))]) ∧ U = [] ∧ Sl (Pl (fl .u8)) 1 Z T (r.1)) := by
 refine Ac Y 29 func34 rfl (fun d => sg (VE (hZ d rfl (fun W2 s d => Wa (Wa (ln (fq (bg (Wm (V (tk underlying26 c rfl rfl) (Wa ?_)))))))))))
 refine ln (CI hm rfl (fun M hm => ?_) (fun M hm => ?_))
 ·refine sg (Wa (Wa (ln ?_)))
  replace d := d.fe (Db St)
  refine gd (jr (fP ?_))
  obtain rfl := sj hm
  exact oS (v := (.slice none 0 0)) (u := (.int .i64 1)) rfl rfl rfl ⟨_, _, _, rfl, (d.gb Sn), (fA.refl _), Lo.refl, (ST.fK d (gm.mem Sn)), (.slice none 0 0), rfl, rfl, (Sl.nil _ _ _)⟩
 refine sg (VA d Mh (fa a) bl aD (bS hm fun A Q hm => VE (Eg d call48 (mK a _ _  Q) (fun W6 d => V (kN rfl) (Wa (ln (CI hm rfl (fun N hm => ?_) (fun N hm => ?_))))))))
 ·refine sg (Wa (Wa (ln ?_)))
  replace d := d.fe (Db St)
  refine gd (jr (fP ?_))
  obtain rfl := sj hm
  exact oS (v := (.slice none 0 0)) (u := (.int .i64 11)) rfl rfl rfl ⟨_, _, _, rfl, (d.gb Sn), (fA.refl _), Lo.refl, (ST.fK d (gm.mem Sn)), (.slice none 0 0), rfl, rfl, (Sl.nil _ _ _)⟩
 refine gA (gL (fB (fq ?_)))
 replace d := d.drew
 have h := d.has.fe (Kb Sn)
 refine gX h gE (X 0 rfl h (fp rfl) (bS hm fun a5 I hm => XQ 1 rfl h (qW gp.out c I rfl) (fun a3 ⟨_, ⟨x, rfl, H⟩, D⟩ => XQ 2 rfl h (mP [x] tz rfl D rfl) (fun a4 G => XH 3 rfl h (fun _ p => fj rfl (kh p (y := x) G isAgg74)) (X 4 rfl h (fh mn rfl) (X 5 rfl h (fh jt rfl) (XH 6 rfl h (fun _ p => fj rfl (fG p Mh rfl aW)) ?_)))))))
 obtain ⟨j, a2, g, i⟩ := H
 refine XH 7 rfl h (fun _ p => ql (k := a.Head.eY) (z := (.slice none 0 0)) A5 underlying74 zeroValue36 rfl rfl g (fun b o q => p.1 b o (i b o q))) (X 8 rfl h (fp rfl) (X 9 rfl h (iV rfl rfl) (X 10 rfl h (iV rfl rfl) (X 11 rfl h (fT rfl) (X 12 rfl h (fT rfl) (iH kr (fB ?_)))))))
 replace d := d.fe (Db St)
 refine fq (sg (Wm (V (kN rfl) (ln (CI hm rfl (fun B hm => ?_) (fun B hm => ?_))))))
 ·refine sg (Wa (Wa (lt (fP ?_))))
  obtain rfl := sj hm
  exact oS (v := (.slice none 0 0)) (u := (.int .i64 21)) rfl rfl rfl ⟨_, _, _, rfl, (d.gb Sn), (fA.refl _), Lo.refl, (ST.fK d (gm.mem Sn)), (.slice none 0 0), rfl, rfl, (Sl.nil _ _ _)⟩
 refine kg (Wm (Wa (Wa (lt ?_))))
 obtain rfl := sj hm
 exact oS (v := (lU fU j a.Head.eY (.slice none 0 0))) (u := (.int .i64 0)) rfl rfl rfl ⟨_, _, _, rfl, (d.gb Sn), (fA.refl _), Lo.refl, (ST.fK d (gm.mem Sn)), (lU fU j a.Head.eY (.slice none 0 0)), rfl, rfl, (iG.Cs (enc := (fl .u8)) (n := 1) (fun _ => rfl) gz.1 g a.Head.eY i)⟩
theorem ou (t : Nat) (j : Value) (G : List Int) (i : LO) (h : Int) (r : (Bool × (List Int))) (w : World) {μ0 : fz} (s : ju μ0 ((t, Ob #[j] 56) :: (i ++ [])) w) (y : fN 5 (fl .u8) 1 j G i) (hm : jw G h = some r) :
  gq true pg0 61 [(.pointer (some ⟨t, 0, none⟩)), (.int .i64 h)] w ((t, Ob #[j] 56) :: (i ++ [])) (fun v L1 W' => ∃ n S2, v = (.bool (r.1)) ∧ L1 = ((t, Ob #[n] 56) :: (S2 ++ [])) ∧ fN 5 (fl .u8) 1 n r.2 S2) := by
 refine qV s 38 func61 rfl (fun d => sg (Wa (lS (Wm (V (jL cU rfl rfl) (Wm (Vg rfl rfl (fp rfl) (Vg rfl rfl (gl rfl rfl rfl) (V (fE rfl rfl) ?_)))))))))
 refine ln (CI hm rfl (fun a9 hm => ?_) (fun a9 hm => ?_))
 ·refine sg (Wa (lt (fP ?_)))
  obtain rfl := sj hm
  exact fR (v := (.bool false)) rfl rfl ⟨_, _, rfl, (d.gb (Kb (Kr Sn))), j, i, rfl, rfl, y⟩
 refine kn (fq (jd (nc (fun m E W => ∃ c z U u a0, ST true (keys ((t, Ob #[j] 56) :: (i ++ []))) w W μ0 ((t, Ob #[z] 56) :: (u ++ a0)) ∧ E 0 = (.pointer (some ⟨t, 0, none⟩)) ∧ E 1 = (.int .i64 c) ∧ fN 5 (fl .u8) 1 z U u ∧ iI m c U = some r) iv ⟨h, j, G, i, _, (d.fe St), rfl, rfl, y, hm⟩ ?_)))
 rintro m E W ⟨c, z, U, u, a0, d, x, K, T, g⟩
 cases m with
 | zero => rw [iI] at g; cases g
 | succ q =>
  refine fq (sg (Wh K (Wi rfl (ln (CI g rfl (fun o g => ?_) (fun o g => ?_))))))
  ·refine kn (fq (jd (fi (Wh x (Wh x (Wn (Wf ol (VB d Mh rfl rfl bW (Wh K (V (lx (k' := .i64) (a := c) dl bd rfl) (V (tJ (k := .u8) (a := (IntKind.u8.wrap c)) (b := 128) (v := (.int .u8 (IntKind.u8.wrap (BitVec.ofInt (IntKind.bits .u8) (IntKind.u8.wrap c) ||| BitVec.ofInt (IntKind.bits .u8) 128).toNat))) rfl rfl dc rfl) (VE (gk (cs := [(.int .u8 (IntKind.u8.wrap (BitVec.ofInt (IntKind.bits .u8) (IntKind.u8.wrap c) ||| BitVec.ofInt (IntKind.bits .u8) 128).toNat))].toArray) d (iU rfl) (nq az cP dn) (fun c3 p d => ?_))))))))))))))
   replace d := d.perm (Nr (Qb (Qb Qz)) Nz)
   refine bS g fun Q Y g => VE (nA (enc := (fl .u8)) (v := z) (vs := (.slice (some ⟨p, 0, none⟩) 1 1)) (R := u) d (fun _ => rfl) dc (nh _) az iY.1 iY.2.1 rfl iY.2.2.1 iY.2.2.2 rfl rfl T (Sl.lit (enc := (fl .u8)) (l := [(IntKind.u8.wrap (BitVec.ofInt (IntKind.bits .u8) (IntKind.u8.wrap c) ||| BitVec.ofInt (IntKind.bits .u8) 128).toNat)]) (fun _ => rfl) rfl nb rfl (d.at_ (Ma Mh))) Y (fun A c1 a2 d M => Wn (Wf ol ?_)))
   obtain ⟨B, H, rfl⟩ := M.form
   replace d := d.perm (Nb (Pr (Pb Pz)) Nz)
   refine VO (fH (.slice B Q.length H) (#[(.slice B Q.length H)]) d rfl rfl dm oc nb rfl (fun F d => fL (gL (fB ?_))))
   replace d := d.fe (Kb (Kr (Db St)))
   exact fi (Wh K (V (Ad (a := c) (b := 7) rfl rfl dc) (Wa (ln ⟨q, bY _, (Int.fdiv c (2 ^ min (Int.toNat 7) (IntKind.bits .i64))), (.slice B Q.length H), Q, a2, _, (d.fe St), x, rfl, M, g⟩))))
  refine mZ (lY (lY (qF (fB (sg (Wh x (Wh x (Wn (Wf ol (VB d Mh rfl rfl bW (Wh K (V (lx (k' := .i64) (a := c) dl bd rfl) (VE (gk (cs := [(.int .u8 (IntKind.u8.wrap c))].toArray) d (iU rfl) (nq az cP dn) (fun L a5 d => ?_)))))))))))))))
  replace d := d.perm (Nr (Qb (Qb Qz)) Nz)
  refine bS g fun J Z g => VE (nA (enc := (fl .u8)) (v := z) (vs := (.slice (some ⟨a5, 0, none⟩) 1 1)) (R := u) d (fun _ => rfl) dc (nh _) az iY.1 iY.2.1 rfl iY.2.2.1 iY.2.2.2 rfl rfl T (Sl.lit (enc := (fl .u8)) (l := [(IntKind.u8.wrap c)]) (fun _ => rfl) rfl nb rfl (d.at_ (Ma Mh))) Z (fun O c2 a3 d N => Wn (Wf ol ?_)))
  obtain ⟨D, I, rfl⟩ := N.form
  replace d := d.perm (Nb (Pr (Pb Pz)) Nz)
  refine VO (fH (.slice D J.length I) (#[(.slice D J.length I)]) d rfl rfl dm oc nb rfl (fun P d => ln ?_))
  replace d := d.fe (Kb (Kr (Db St)))
  refine sg (Wa (lt ?_))
  obtain rfl := sj g
  exact fR (v := (.bool true)) rfl rfl ⟨_, _, rfl, (d.gb (Kb (Kr Sn))), (.slice D J.length I), a3, rfl, rfl, N⟩
theorem pf (g : Nat) (c : Value) (j : List Int) (a : LO) (u : Value) (D : List Int) (r : (Bool × (List Int))) (w : World) {Z : fz} (n : ju Z ((g, Ob #[c] 56) :: (a ++ [])) w) (i : fN 5 (fl .u8) 1 c j a) (k : Sl (Pl (fl .u8)) 1 Z u D) (hm : ko j D = some r) :
  gq true pg0 50 [(.pointer (some ⟨g, 0, none⟩)), u] w ((g, Ob #[c] 56) :: (a ++ [])) (fun v L1 W' => ∃ U M, v = (.bool (r.1)) ∧ L1 = ((g, Ob #[U] 56) :: (M ++ [])) ∧ fN 5 (fl .u8) 1 U r.2 M) := by
 refine qV n 25 func50 rfl (fun d => sg (Wa (lS (Wm (V (jL cU rfl rfl) (Wm (Vg rfl rfl (fp rfl) (Vg rfl rfl (iB az rfl k) (Vg rfl rfl (gl rfl rfl rfl) ?_)))))))))
 refine V (fE rfl rfl) (ln (CI hm rfl (fun Q hm => ?_) (fun Q hm => ?_)))
 ·refine sg (Wa (lt (fP ?_)))
  obtain rfl := sj hm
  exact fR (v := (.bool false)) rfl rfl ⟨_, _, rfl, (d.gb (Kb (Kr Sn))), c, a, rfl, rfl, i⟩
 refine kg (Wm (Wm (V (iB az rfl k) (bS hm fun A T hm => ?_))))
 refine VE (eM d (Cb Pz (Cr Qz Cn)) call61 (fun o _ => (ou g c j a (D.length : Int) _ _ o i T)) ?_)
 rintro _ v8 q a3 d H p h ⟨Y, K, t, rfl, I⟩
 obtain rfl := t.symm
 replace d := d.perm (Tb (Tr Tn))
 refine lr (Wm (Wm (Wn (Wf ol (VB d Mh rfl rfl bW (Wm ?_))))))
 replace d := d.perm (Nr (Qb Qz) Nz)
 refine bS hm fun B G hm => VE (nA (enc := (fl .u8)) (v := Y) (vs := u) (R := K) d (fun _ => rfl) dc (nh _) az iY.1 iY.2.1 rfl iY.2.2.1 iY.2.2.2 rfl rfl I (k.mono (Pl.mono _) (H.trans d.fO)) G (fun a4 s J d z => Wn (Wf ol ?_)))
 obtain ⟨x, y, rfl⟩ := z.form
 replace d := d.perm (Nb (Pr Pz) Nz)
 refine VO (fH (.slice x B.length y) (#[(.slice x B.length y)]) d rfl rfl dm oc nb rfl (fun a5 d => lr (Wa (lt ?_))))
 obtain rfl := sj hm
 exact fR (v := (.bool true)) rfl rfl ⟨_, _, rfl, (d.gb (Kb (Kr Sn))), (.slice x B.length y), J, rfl, rfl, z⟩
theorem nT (j : Nat) (c : Value) (t : List Int) (a : LO) (J : ByteArray) (r : (Bool × (List Int))) (w : World) {Z : fz} (K : ju Z ((j, Ob #[c] 56) :: (a ++ [])) w) (k : fN 5 (fl .u8) 1 c t a) (hm : kH t J = some r) :
  gq true pg0 63 [(.pointer (some ⟨j, 0, none⟩)), (.string J)] w ((j, Ob #[c] 56) :: (a ++ [])) (fun v L1 W' => ∃ q S2, v = (.bool (r.1)) ∧ L1 = ((j, Ob #[q] 56) :: (S2 ++ [])) ∧ fN 5 (fl .u8) 1 q r.2 S2) := by
 refine qV K 17 func63 rfl (fun d => sg (Wa (lr (Wm (V (qN cU rfl rfl) (Wm (Vg rfl rfl (fp rfl) (bS hm fun r1 a4 hm => sv rfl rfl (Eg d call31 (kE J _ _  a4) (fun W3 d => V (fF rfl rfl) ?_))))))))))
 refine Wm (LJ hm (fun B E W => ∃ z x D I, fA Z D ∧ ST true (keys ((j, Ob #[c] 56) :: (a ++ []))) w W D ((j, Ob #[z] 56) :: (x ++ I)) ∧ E 4 = (.bool false) ∧ E 16 = (.bool B.1) ∧ fN 5 (fl .u8) 1 z B.2 x) 5 ?_ (fun B g y => ?_))
 ·rintro ⟨A, c0⟩ E W ⟨z, x, D, I, O, d, b9, a3, T⟩ M
  refine Wg a3 (lt ?_)
  obtain rfl := sj M
  exact fR (v := (.bool A)) rfl rfl ⟨_, _, rfl, (d.gb (Kb (Kr Sn))), z, x, rfl, rfl, T⟩
 refine bC g (fun i g => ?_) (fun i g => ?_)
 ·refine ug i (fp rfl) (ug i (fp rfl) (bS g fun a5 N g => mD i (rH d aG az bd rfl N (fun b6 s c3 d G o U P => bS g fun c1 Q g => ?_))))
  refine mD i (eM d (Cb Pz (Cr Qz Cn)) call50 (fun L n => (pf j c t a s a5 _ _ L k (U.mono (Pl.mono _) n) Q)) ?_)
  rintro _ c2 F R d H p h ⟨a9, a2, u, rfl, Y⟩
  obtain rfl := u.symm
  replace d := d.perm (Tb (Tr Tn))
  refine V (fF (cB i) rfl) ?_
  obtain rfl := sj g
  exact y _ _ ⟨a9, a2, F, _, (G.trans H), (d.fe St), rfl, rfl, Y⟩
 refine un i (un i (un i (un i (V (fE (cB i) rfl) ?_))))
 obtain rfl := sj g
 exact y _ _ ⟨c, a, Z, _, (fA.refl _), (d.fe St), rfl, rfl, k⟩
theorem mJ (c : Nat) (i : Value) (D : List Int) (a : LO) (x : fu) (r : (Bool × (List Int))) (w : World) {μ0 : fz} (h0 : ju μ0 ((c, Ob #[i] 56) :: (a ++ [])) w) (y : fN 5 (fl .u8) 1 i D a) (hm : iZ D x = some r) :
  gq true pg0 62 [(.pointer (some ⟨c, 0, none⟩)), (.agg (fC x).toArray)] w ((c, Ob #[i] 56) :: (a ++ [])) (fun v L1 W' => ∃ A S2, v = (.bool (r.1)) ∧ L1 = ((c, Ob #[A] 56) :: (S2 ++ [])) ∧ fN 5 (fl .u8) 1 A r.2 S2) := by
 let o := ((c, Ob #[i] 56) :: (a ++ []))
 refine qV h0 23 func62 rfl (fun d => sg (VE (hZ d rfl (fun W2 p d => Wa (lr (Wm (V (qN cU rfl rfl) (Wm (Vg rfl rfl (fj rfl (fy d.has Mh (fC x) rfl bk aJ)) (bS hm fun r3 c4 hm => sv rfl rfl (Eg d call80 (lK x _ _  c4) (fun W5 d => ?_))))))))))))
 refine V (fF rfl rfl) (Wm (LJ hm (fun T E W => ∃ z u B a0, fA μ0 B ∧ ST true (keys o) w W B ((p, Ol (fC x) 33) :: ((c, Ob #[z] 56) :: (u ++ a0))) ∧ E 0 = (.pointer (some ⟨c, 0, none⟩)) ∧ E 3 = (.pointer (some ⟨p, 0, none⟩)) ∧ E 4 = (.bool false) ∧ E 16 = (.bool T.1) ∧ fN 5 (fl .u8) 1 z T.2 u) 5 ?_ (fun T t K => ?_)))
 ·rintro ⟨e6, c5⟩ E W ⟨z, u, B, a0, d2, d, c0, c1, a3, c2, N⟩ F
  refine Wh c2 (LJ F (fun Q E W => ∃ M I U a2, fA B U ∧ ST true (keys o) w W U ((c, Ob #[M] 56) :: (I ++ a2)) ∧ E 4 = (.bool false) ∧ E 22 = (.bool Q.1) ∧ fN 5 (fl .u8) 1 M Q.2 I) 5 ?_ (fun Q k J => ?_))
  ·rintro ⟨c6, e1⟩ E W ⟨M, I, U, a2, d3, d, e0, c3, P⟩ L
   refine Wg c3 (lt ?_)
   obtain rfl := sj L
   exact fR (v := (.bool c6)) rfl rfl ⟨_, _, rfl, (d.gb (Kb (Kr Sn))), M, I, rfl, rfl, P⟩
  refine bC k (fun g k => ?_) (fun g k => ?_)
  ·refine ug g (fp c0) (ug g (fh mM c1) (ug g (fj rfl (fG d.has Mh rfl aW)) (bS k fun e2 O k => ?_)))
   refine mD g (eM d (Cb (Pb Pz) (Cr (Qb Qz) Cn)) call63 (fun n _ => (nT c z c5 u x.eZ _ _ n N O)) ?_)
   rintro _ e4 d0 d6 d Y q h ⟨c8, b6, G, rfl, R⟩
   obtain rfl := G.symm
   replace d := d.perm (Tb (Tr Tn))
   refine V (fF (cB g) rfl) ?_
   obtain rfl := sj k
   exact J _ _ ⟨c8, b6, d0, _, Y, (d.fe (Kb (Kr (Db St)))), a3, rfl, R⟩
  refine un g (un g (un g (un g (V (fE (cB g) rfl) ?_))))
  obtain rfl := sj k
  exact J _ _ ⟨z, u, B, _, (fA.refl _), (d.fe (Db St)), a3, rfl, N⟩
 refine bC t (fun j t => ?_) (fun j t => ?_)
 ·refine ug j (fp rfl) (ug j (fh jt rfl) (ug j (fj rfl (fG d.has Mh rfl aW)) (bS t fun e3 a9 t => ?_)))
  refine mD j (eM d (Cb (Pb Pz) (Cr (Qb Qz) Cn)) call63 (fun n _ => (nT c i D a x.eY _ _ n y a9)) ?_)
  rintro _ e5 d1 d7 d Z s h ⟨c9, b7, H, rfl, b3⟩
  obtain rfl := H.symm
  replace d := d.perm (Tb (Tr Tn))
  refine V (fF (cB j) rfl) ?_
  obtain rfl := sj t
  exact K _ _ ⟨c9, b7, d1, _, Z, (d.fe (Sb (Pb (Pr Pz)) St)), rfl, rfl, rfl, rfl, b3⟩
 refine un j (un j (un j (un j (V (fE (cB j) rfl) ?_))))
 obtain rfl := sj t
 exact K _ _ ⟨i, a, μ0, _, (fA.refl _), (d.fe St), rfl, rfl, rfl, rfl, y⟩
theorem nG (g : Nat) (a : Value) (c r : List Int) (w : World) (j : Sl (Pl (fl .u8)) 1 (hp w) a c) (k : At (hp w) (.pointer (some ⟨g, 0, none⟩)) [a]) (hm : iy c = some r) :
  gY true pg0 23 [(.pointer (some ⟨g, 0, none⟩))] w 5 (fl .u8) 1 r := by
 refine tK 10 func23 rfl (fun d => sg (Wa (lS (Wm (V (jL cU rfl rfl) (ln (kz rfl (gA ?_))))))))
 refine fB (sg (Wm (Wn (VQ (mP [a] ol rfl k rfl) (fun G u => V (fj rfl (kh d.has (y := a) u bW)) (bS hm fun H x hm => VE (nX d call32 (ns a c _ _ (j.mono (Pl.mono _) d.fO) x) (fun D z I t d B h i => Wa (lt ?_)))))))))
 obtain rfl := sj hm
 exact fR (v := z) rfl rfl ⟨_, t, rfl, d.kB (fun p n => (Ml n)) i.nd, i⟩
theorem mO (c : eX) (r : List Int) (w : World) (hm : jb c = some r) :
  gY true pg0 36 [(.agg (fa c).toArray)] w 5 (fl .u8) 1 r := by
 refine tK 53 func36 rfl (fun d => sg (VE (hZ d rfl (fun W2 b1 d => Wa (lS (VA d Mh (fa c) bl aD (bS hm fun r3 g3 hm => VE (Eg d call48 (mK c _ _  g3) (fun W5 d => V (kN rfl) (fL ?_))))))))))
 refine fB (CI hm rfl (fun g0 hm => ?_) (fun g0 hm => ?_))
 ·refine sg (Wa (ln ?_))
  replace d := d.fe (Db St)
  refine gd (fP ?_)
  obtain rfl := sj hm
  exact fR (v := (.slice none 0 0)) rfl rfl ⟨_, [], rfl, d.kB (fun p q => by cases q) (by simp), fN.nil _ _ _⟩
 refine kg (V (gw (v := (.agg #[(.slice none 0 0)])) mI (fZ zeroValue56 cT (zj _ cT) kr)) (VE (hZ d rfl (fun W8 g d => Wa (lr (Wm (Wf iX (VB d (Mt Mh) rfl rfl bP (bS hm fun r9 e2 hm => ?_)))))))))
 refine VE (eM d (Cb Pz (C0 Cn)) call61 (fun n _ => (ou g (.slice none 0 0) ([]) [] c.Kind _ _ n (fN.nil _ _ _) e2)) ?_)
 rintro _ k1 k3 j7 d g5 a6 h ⟨g4, f9, I, rfl, e4⟩
 obtain rfl := I.symm
 replace d := d.perm (Tb (Tr Tn))
 refine lr (Wm (Wf mn (VA d (Mt (Ma Mh)) (fC c.Head) bk aJ (bS hm fun N e3 hm => ?_))))
 refine VE (eM d (Cb Pz (Cr Qz Cn)) call62 (fun n _ => (mJ g g4 r9.2 f9 c.Head _ _ n e4 e3)) ?_)
 rintro _ k2 d1 j8 d g6 a7 h ⟨G, D, J, rfl, i⟩
 obtain rfl := J.symm
 replace d := d.perm (Tb (Tr Tn))
 refine ln (fq (CJ hm (fun a3 E W => ∃ B H K Q, fA d1 K ∧ ST true ga w W K ((g, Ob #[B] 56) :: (H ++ Q)) ∧ E 3 = (.pointer (some ⟨g, 0, none⟩)) ∧ fN 5 (fl .u8) 1 B a3 H) (fun a3 a => ?_) ?_))
 ·refine sg (Wf iX (VB d (Mt (Ma Mh)) rfl rfl bP (ln (bg (Wi rfl (Wa (ln (CI a rfl (fun b0 a => ?_) (fun b0 a => ?_)))))))))
  ·refine fi (Wm (Wf nj (VB d (Mt (Ma Mh)) rfl rfl aW (bS a fun i1 b6 a => ?_))))
   refine VE (eM d (Cb Pz (Cr Qz Cn)) call63 (fun n _ => (nT g G N.2 D c.fD _ _ n i b6)) ?_)
   rintro _ i6 f5 g7 d T A h ⟨e9, d3, k, rfl, c5⟩
   obtain rfl := k.symm
   replace d := d.perm (Tb (Tr Tn))
   refine fL (gL (fB ?_))
   obtain rfl := sj a
   exact ⟨e9, d3, f5, _, T, (d.fe (Kb (Kr (Db St)))), rfl, c5⟩
  refine sg (Wi rfl (Wa (ln (CI a rfl (fun b2 a => ?_) (fun b2 a => ?_)))))
  ·refine fi (Wm (Wf im (VA d (Mt (Ma Mh)) (fC c.B) bk aJ (bS a fun i2 b9 a => ?_))))
   refine VE (eM d (Cb Pz (Cr Qz Cn)) call62 (fun n _ => (mJ g G N.2 D c.B _ _ n i b9)) ?_)
   rintro _ i7 f6 g8 d U F h ⟨f0, d4, t, rfl, c6⟩
   obtain rfl := t.symm
   replace d := d.perm (Tb (Tr Tn))
   refine fL (gL (fB ?_))
   obtain rfl := sj a
   exact ⟨f0, d4, f6, _, U, (d.fe (Kb (Kr (Db St)))), rfl, c6⟩
  refine sg (Wi rfl (Wa (ln (CI a rfl (fun b3 a => ?_) (fun b3 a => ?_)))))
  ·refine sg (Wm (Wf im (VA d (Mt (Ma Mh)) (fC c.B) bk aJ (bS a fun e6 c0 a => ?_))))
   refine VE (eM d (Cb Pz (Cr Qz Cn)) call62 (fun n _ => (mJ g G N.2 D c.B _ _ n i c0)) ?_)
   rintro _ i8 j5 g9 d Y L h ⟨f1, d5, u, rfl, c7⟩
   obtain rfl := u.symm
   replace d := d.perm (Tb (Tr Tn))
   refine ln (fi (Wm (Wf mo (VB d (Mt (Ma Mh)) rfl rfl aW (bS a fun i3 c1 a => ?_)))))
   refine VE (eM d (Cb Pz (Cr Qz Cn)) call63 (fun n _ => (nT g f1 e6.2 d5 c.fw _ _ n c7 c1)) ?_)
   rintro _ i9 f7 h0 d Z O h ⟨f2, d6, x, rfl, c8⟩
   obtain rfl := x.symm
   replace d := d.perm (Tb (Tr Tn))
   refine fL (gL (fB ?_))
   obtain rfl := sj a
   exact ⟨f2, d6, f7, _, (Y.trans Z), (d.fe (Kb (Kr (Db St)))), rfl, c8⟩
  refine sg (Wi rfl (Wa (ln (CI a rfl (fun b4 a => ?_) (fun b4 a => ?_)))))
  ·refine sg (Wm (Wf im (VA d (Mt (Ma Mh)) (fC c.B) bk aJ (bS a fun e7 c2 a => ?_))))
   refine VE (eM d (Cb Pz (Cr Qz Cn)) call62 (fun n _ => (mJ g G N.2 D c.B _ _ n i c2)) ?_)
   rintro _ j0 j6 h1 d a1 P h ⟨f3, d7, y, rfl, c9⟩
   obtain rfl := y.symm
   replace d := d.perm (Tb (Tr Tn))
   refine ln (fi (Wm (Wf kF (VA d (Mt (Ma Mh)) (fC c.C) bk aJ (bS a fun i4 c3 a => ?_)))))
   refine VE (eM d (Cb Pz (Cr Qz Cn)) call62 (fun n _ => (mJ g f3 e7.2 d7 c.C _ _ n c9 c3)) ?_)
   rintro _ j3 f8 h2 d a2 R h ⟨f4, d8, z, rfl, d0⟩
   obtain rfl := z.symm
   replace d := d.perm (Tb (Tr Tn))
   refine fL (gL (fB ?_))
   obtain rfl := sj a
   exact ⟨f4, d8, f8, _, (a1.trans a2), (d.fe (Kb (Kr (Db St)))), rfl, d0⟩
  refine gA (gL (fB ?_))
  obtain rfl := sj a
  exact ⟨G, D, d1, _, (fA.refl _), (d.fe (Kb (Kr (Db St)))), rfl, i⟩
 rintro e5 E W ⟨B, H, K, Q, g1, d, d9, c4⟩ j
 refine sg (Wh d9 (bS j fun i0 b5 j => VE (nX d call23 (nG g B e5 _ _ (c4.sl (fun _ => rfl) (fun b o q => d.at_ (Mt (Ml q)))) (At.of (d.at_ Mh) _ rfl) b5) (fun h3 e8 j4 d2 d g2 s M => Wa (ln ?_)))))
 replace d := d.fe (Kr (Db (Dr St)))
 refine gd ?_
 obtain rfl := sj j
 exact fR (v := e8) rfl rfl ⟨_, d2, rfl, d.kB (fun p q => (Ml q)) M.nd, M⟩
theorem sr (j : Value) (t : List Int) (r : Bool) (w : World) (i : Sl (Pl (fl .u8)) 1 (hp w) j t) (hm : jH t = some r) :
  fV true pg0 59 [j] w (.bool r) := by
 refine cG 11 func59 rfl (fun d => sg (Wa (lr (Wm (V (iB az rfl i) (Wi rfl (Wm (LJ hm (fun x E W => ∃ k, ST true ga w W (hp w) k ∧ E 2 = (.bool false) ∧ E 10 = (.bool x)) 4 ?_ (fun x c g => ?_)))))))))
 ·rintro B E W ⟨k, d, z, y⟩ u
  exact Wg y (lt (rQ u d))
 refine bC c (fun a c => ?_) (fun a c => ?_)
 ·refine ug a (fp rfl) (ug a (iB az rfl i) (ug a (gl rfl rfl rfl) (V (fF (cB a) rfl) ?_)))
  obtain rfl := sj c
  exact g _ _ ⟨_, (d.fe St), rfl, rfl⟩
 refine un a (un a (un a (V (fE (cB a) rfl) ?_)))
 obtain rfl := sj c
 exact g _ _ ⟨_, (d.fe St), rfl, rfl⟩
theorem yl (u : Value) (H : List (List Int)) (r : Int) (w : World) (U : Sl (wk (fl .u8) 1) 1 (hp w) u H) (hm : rC H = some r) :
  fV true pg0 73 [u] w (.int .u64 r) := by
 refine cG 28 func73 rfl (fun d => sg (Wa (lr (Wa (lS (Wm ?_))))))
 refine V (iB underlying139 rfl U) (Wm (ln (kI (fun i E W => ∃ x D, (E 10 = .int .i64 (i : Nat) ∧ E 9 = .int .i64 (H.length : Nat)) ∧ ST true ga w W (hp w) D ∧ E 3 = (.int .u64 x) ∧ E 8 = u ∧ mL (H.drop i) x = some r) H.length U.len ⟨14695981039346656037, _, ⟨rfl, rfl⟩, (d.fe St), rfl, rfl, hm⟩ dc dc dc (fun _ _ _ h => by obtain ⟨_, _, o, _⟩ := h; exact o) ?_ ?_)))
 ·rintro Y E W a3 ⟨x, D, ⟨n, p⟩, d, I, J, c⟩
  obtain ⟨B, c2, L, a9, O⟩ := jS a3
  rw [L] at c
  refine bg (VQ (yY (enc := (fl .u8)) (k2 := 1) (i := (Y : Int)) (x0 := B) underlying139 dm J n U (bB _) a9) (fun c4 ⟨a2, A, z⟩ => V (fj rfl (kh d.has (y := a2) A bW)) (Wa (lr (Wm (V (iB az rfl z) (Wm (ln ?_))))))))
  refine AG (CJ c (fun Z E W => ∃ q, ST true ga w W (hp w) q ∧ E 3 = (.int .u64 Z) ∧ E 8 = u ∧ E 9 = (.int .i64 (H.length : Int)) ∧ E 10 = (.int .i64 (Y : Int))) (fun Z s => ?_) ?_)
  ·refine kI (fun i E W => ∃ j G, (E 16 = .int .i64 (i : Nat) ∧ E 15 = .int .i64 (B.length : Nat)) ∧ ST true ga w W (hp w) G ∧ E 3 = (.int .u64 j) ∧ E 8 = u ∧ E 9 = (.int .i64 (H.length : Int)) ∧ E 10 = (.int .i64 (Y : Int)) ∧ E 14 = a2 ∧ mG (B.drop i) j = some Z) B.length z.len ⟨x, _, ⟨rfl, rfl⟩, (d.fe St), I, J, p, n, rfl, s⟩ dc dc dc (fun _ _ _ h => by obtain ⟨_, _, o, _⟩ := h; exact o) ?_ ?_
   ·rintro c0 E W a4 ⟨j, G, ⟨n, p⟩, d, K, M, N, Q, T, g⟩
    obtain ⟨t, c3, R, P, b4⟩ := jS a4
    rw [R] at g
    refine bg (VQ (ox (enc := (fl .u8)) (i := (c0 : Int)) (x0 := t) az cP T n z (bB _) P) (fun c5 F => V (fj rfl (kh d.has (y := (.int .u8 t)) F isAgg5)) (Wa (ln (fi (Wh K (Wm (V (lx (k' := .u8) (a := t) bd underlying117 rfl) (V (yS (k := .u64) (a := j) (b := (IntKind.u64.wrap t)) (v := (.int .u64 (IntKind.u64.wrap (BitVec.ofInt (IntKind.bits .u64) j ^^^ BitVec.ofInt (IntKind.bits .u64) (IntKind.u64.wrap t)).toNat))) rfl rfl rfl) (Wi rfl (Wa ?_)))))))))))
    exact fL (gL (fB ⟨n, (IntKind.u64.wrap ((IntKind.u64.wrap (BitVec.ofInt (IntKind.bits .u64) j ^^^ BitVec.ofInt (IntKind.bits .u64) (IntKind.u64.wrap t)).toNat) * 1099511628211)), _, ⟨rfl, p⟩, (d.fe St), rfl, M, N, Q, T, (by rw [b4]; exact g)⟩))
   rintro E W ⟨j, G, ⟨n, p⟩, d, K, M, N, Q, T, g⟩
   rw [bE] at g
   refine fB ?_
   obtain rfl := sj g
   exact ⟨_, (d.fe St), K, M, N, Q⟩
  rintro c1 E W ⟨q, d, b5, b6, b7, b9⟩ a5
  exact gL (fB ⟨b9, c1, _, ⟨rfl, b7⟩, (d.fe St), b5, b6, (by rw [O]; exact a5)⟩)
 rintro E W ⟨x, D, ⟨n, p⟩, d, I, J, c⟩
 rw [bE] at c
 exact fB (sg (Wh I (Wa (lt (rQ c d)))))
theorem sY (Q : Value) (g : List Int) (a2 : Value) (H r : List Int) (w : World) (j : Sl (Pl (fl .u8)) 1 (hp w) Q g) (Y : Sl (Pl (fl .u8)) 1 (hp w) a2 H) (hm : nO g H = some r) :
  gY true pg0 40 [Q, a2] w 5 (fl .u8) 1 r := by
 let a3 := (g.length : Int)
 refine tK 37 func40 rfl (fun d => sg (Wa (lS (Wm (bS hm fun r1 c0 hm => VE (Eg d call59 (sr Q g _ _ (j.mono (Pl.mono _) d.fO) c0) (fun W3 d => V (kN rfl) (ln ?_))))))))
 refine CI hm rfl (fun b9 hm => ?_) (fun b9 hm => ?_)
 ·refine sg (Wa (lt (fP ?_)))
  obtain rfl := sj hm
  exact fR (v := (.slice none 0 0)) rfl rfl ⟨_, [], rfl, d.kB (fun p s => by cases s) (by simp), fN.nil _ _ _⟩
 refine kg (Wm (V (iB az rfl j) (V (lx (k' := .i64) (a := (g.length : Int)) dl bd rfl) (VE (gk (cs := [(.int .u8 (IntKind.u8.wrap a3))].toArray) d (iU rfl) (nq az cP dn) (fun W6 A d => Wm (Wm (Wm ?_))))))))
 obtain ⟨D, I, rfl⟩ := j.form
 let n : Value := (.slice D g.length I)
 obtain ⟨A9, T, rfl⟩ := Y.form
 refine VE (gk (cs := #[(.slice (some ⟨A, 0, none⟩) 1 1), n, (.slice A9 H.length T), n]) d (AV rfl rfl rfl rfl) (nq underlying139 dm zeroValue36) (fun c5 b7 d => bS hm fun x b1 hm => VE (Eg d call73 (yl (.slice (some ⟨b7, 0, none⟩) 4 4) ([[(IntKind.u8.wrap a3)], g, H, g]) _ _ (wk.lit (l := [[(IntKind.u8.wrap a3)], g, H, g]) (vs := [(.slice (some ⟨A, 0, none⟩) 1 1), n, (.slice A9 H.length T), n]) rfl nb (d.at_ Mh) (.cons (Sl.lit (enc := (fl .u8)) (l := [(IntKind.u8.wrap a3)]) (fun _ => rfl) rfl nb rfl (d.at_ (Mt Mh))) (.cons (j.mono (Pl.mono _) d.fO) (.cons (Y.mono (Pl.mono _) d.fO) (.cons (j.mono (Pl.mono _) d.fO) .nil))))) b1) (fun c6 d => Wa (ln ?_)))))
 replace d := d.fe (Db (Db St))
 refine sg (bS hm fun U a9 hm => VE (wD (enc := (fl .u8)) (z := 0) d (fun _ => rfl) dc az iY.1 iY.2.1 iY.2.2.1 iY.2.2.2 rfl rfl rfl a9 (fun c7 Z b6 d N => Wa (lS (Wm (V (ow az rfl N) (Wm (ln ?_))))))))
 refine kI (fun i E W => ∃ J G K, (E 23 = .int .i64 (i : Nat) ∧ E 22 = .int .i64 (U.length : Nat)) ∧ ST true ga w W (hp w) (G ++ K) ∧ E 5 = (.int .u64 x) ∧ E 6 = Z ∧ fN 5 (fl .u8) 1 Z J G ∧ ki x (U.drop i) i J = some r) U.length N.len ⟨U, b6, _, ⟨rfl, rfl⟩, (d.fe St), rfl, rfl, N, hm⟩ dc dc dc (fun _ _ _ h => by obtain ⟨_, _, _, q, _⟩ := h; exact q) ?_ ?_
 ·rintro t E W R ⟨J, G, K, ⟨o, F⟩, d, M, y, k, c⟩
  let a0 := (wi0 .i64 (8 * (wi0 .i64 (7 - (t : Int)))))
  obtain ⟨c9, c4, b2, c2, b3⟩ := jS R
  rw [b2] at c
  refine bg (Wh o (Wa (ln (fi (Wh y (Wm (Wh M (Wm (Wi rfl (Wi rfl (bS c fun _ L c => ?_)))))))))))
  exact V (Ad (a := x) (b := a0) rfl rfl (Bb L)) (V (lx (k' := .u64) (a := (Int.fdiv x (2 ^ min (Int.toNat a0) (IntKind.bits .u64)))) underlying117 bd rfl) (bS c fun b4 B c => VQ (na (i := (t : Int)) (x0 := b4) az cP rfl rfl k (jI B) (iz B)) (fun c3 O => VO (qx (u := (.int .u8 (IntKind.u8.wrap (Int.fdiv x (2 ^ min (Int.toNat a0) (IntKind.bits .u64)))))) (x1 := (IntKind.u8.wrap (Int.fdiv x (2 ^ min (Int.toNat a0) (IntKind.bits .u64)))))  d k (fun _ => rfl) (nh _) rfl rfl rfl O (iz B) cP (fun c1 P d a5 => fL (gL (fB ⟨o, (J.set (Int.toNat (t : Int)) (IntKind.u8.wrap (Int.fdiv x (2 ^ min (Int.toNat a0) (IntKind.bits .u64))))), P, _, ⟨rfl, F⟩, (d.fe St), M, y, a5, (by rw [b3]; exact c)⟩)))))))
 rintro E W ⟨J, G, K, ⟨o, F⟩, d, M, y, k, c⟩
 rw [bE] at c
 refine fB (sg (Wh y (Wa (lt ?_))))
 obtain rfl := sj c
 exact fR (v := Z) rfl rfl ⟨_, G, rfl, d.kB (fun p s => (Ml s)) k.nd, k⟩
theorem qH (u : Value) (B : Option gf) (a : eX) (r : (ft × Int)) (w : World) {Q : fz} (L : ju Q [] w) (H : lz gp Q u B) (hm : kw B a = some r) :
  gV true pg0 12 [u, (.agg (fa a).toArray)] w Q [] (fun v L1 μ1 => ∃ F, v = (.tuple #[(.agg #[(.int .i64 (((r.1).eX).Kind)), (.string ((((r.1).eX).Head).eY)), (.string ((((r.1).eX).Head).eZ)), (.string (((r.1).eX).fD)), (.string ((((r.1).eX).B).eY)), (.string ((((r.1).eX).B).eZ)), (.string ((((r.1).eX).C).eY)), (.string ((((r.1).eX).C).eZ)), (.string (((r.1).eX).fw)), F]), (.int .i64 (r.2))]) ∧ L1 = [] ∧ Sl (Pl (fl .u8)) 1 μ1 F ((r.1).Tag)) := by
 refine Ac L 24 func12 rfl (fun d => sg (VE (hZ d rfl (fun W2 b1 d => VE (gH d bA (fun W4 b3 d => Wa (lr (Wm (VA d (Mt Mh) (fa a) bl aD (bS hm fun U T hm => ?_))))))))))
 refine VE (eD d (cD _) call34 (fun O => (oL u B a _ _ O (H.mono jm (fA.refl _)) T)) ?_ (L0 := []))
 rintro _ b9 R a9 d y n ⟨a3, t, rfl, N⟩
 obtain rfl := t.symm
 refine Wm (Wx rfl (Wx rfl (Wa (Wa (lS (Wm (Wi rfl (ln (CI hm rfl (fun I hm => ?_) (fun I hm => ?_))))))))))
 ·refine sg (V (gw (v := (.agg C2.toArray)) mI (fZ bA bu (sD _ bu) kr)) (Wm (VO (fH (.agg C2.toArray) (C2.toArray) d rfl rfl bf oc nb rfl (fun b4 d => Wa (ln ?_))))))
  replace d := d.fe (Kb (Db St))
  refine gd (fP ?_)
  obtain rfl := sj hm
  exact wY (v0 := (.agg C2.toArray)) (v1 := (.int .i64 U.2)) rfl rfl (fy d.has Mh C2 rfl cn bf) rfl ⟨_, _, _, rfl, (d.gb Sn), y, n, (ST.fK d (gm.mem Sn)), (.slice none 0 0), rfl, rfl, (Sl.nil _ _ _)⟩
 refine kn (fq ?_)
 replace d := d.drew
 have h := d.has.fe (Db (Kb Sn))
 refine gX h gE (XH 0 rfl h (fun _ A => fj rfl (fy A Mh (fa a) rfl bl aD)) (X 1 rfl h (fp rfl) (XH 2 rfl h (fun _ A => fj rfl (fy A Mh (fa a) rfl bl aD)) (bS hm fun Y J hm => XE 3 rfl (nX d call36 (mO a _ _  J) (fun b5 Z c1 W d c p G => ?_))))))
 have h := d.has.nB c (Dr (Db (Kb Sn)))
 refine ⟨h, (bS hm fun j K hm => XE 4 rfl (nX d call40 (sY a3 U.1 Z Y _ _ (N.mono (Pl.mono _) (c.trans d.fO)) (G.sl (fun _ => rfl) (fun b o P => d.at_ (Ml P))) K) (fun b6 c0 c2 b2 d k q x => ?_)))⟩
 have h := d.has.nB (c.trans k) (Dr (Dr (Db (Kb Sn))))
 refine ⟨h, ?_⟩
 obtain ⟨g, i, rfl⟩ := x.form
 let D := (C1 a.Kind a.Head.eY a.Head.eZ a.fD a.B.eY a.B.eZ a.C.eY a.C.eZ a.fw g j.length i)
 refine X 5 rfl h (gw (v := (.agg D.toArray)) (lf rfl rfl) (fZ bA bu (sD _ bu) kr)) ?_
 replace d := d.perm (Nb (Pr (Pr Pz)) Nz)
 refine XO 6 rfl (fH (.agg D.toArray) (D.toArray) d rfl rfl bf oc nb rfl (fun b7 d => ?_))
 have h := d.has.nB (c.trans k) (Db (Dr (Dr (Kb Sn))))
 refine ⟨h, (X 7 rfl h (fT rfl) (iH kr (fB ?_)))⟩
 replace d := d.fe (Kb (Kr (Dr (Db St))))
 refine gd ?_
 obtain rfl := sj hm
 refine wY (v0 := (.agg D.toArray)) (v1 := (.int .i64 0)) rfl rfl (fy d.has Mh D rfl cn bf) rfl ?_
 replace d := d.perm (Nr (Qb Qz) Nz)
 obtain ⟨c3, d, z, s, M⟩ := ST.vY d x (fun _ => rfl)
 exact ⟨_, _, _, rfl, (d.gb Sn), (((y.trans c).trans k).trans z), (((n.trans p).trans q).trans s), (ST.fK d (gm.mem Sn)), (.slice g j.length i), rfl, rfl, M⟩
theorem sV (g : Nat) (c : Value) (j : List Int) (a : LO) (i : Value) (D : List Int) (r : (Bool × (List Int))) (w : World) {I : fz} (M : ju I ((g, Ob #[c] 56) :: (a ++ [])) w) (k : fN 5 (fl .u8) 1 c j a) (y : Sl (Pl (fl .u8)) 1 I i D) (hm : nD j D = some r) :
  gq true pg0 49 [(.pointer (some ⟨g, 0, none⟩)), i] w ((g, Ob #[c] 56) :: (a ++ [])) (fun v J W' => ∃ H B, v = (.bool (r.1)) ∧ J = ((g, Ob #[H] 56) :: (B ++ [])) ∧ fN 5 (fl .u8) 1 H r.2 B) := by
 refine qV M 16 func49 rfl (fun d => sg (Wa (lS (Wm (V (jL cU rfl rfl) (ln (kz rfl (gA ?_))))))))
 refine fB (sg (Wm (Wm (Wn (Wf ol (VB d Mh rfl rfl bW (Wm ?_)))))))
 replace d := d.perm (Nr (Qb Qz) Nz)
 refine bS hm fun z G hm => VE (nA (enc := (fl .u8)) (v := c) (vs := i) (R := a) d (fun _ => rfl) dc (nh _) az iY.1 iY.2.1 rfl iY.2.2.1 iY.2.2.2 rfl rfl k (y.mono (Pl.mono _) d.fO) G (fun N T K d t => Wn (Wf ol ?_)))
 obtain ⟨u, x, rfl⟩ := t.form
 replace d := d.perm (Nb (Pr Pz) Nz)
 refine VO (fH (.slice u z.length x) (#[(.slice u z.length x)]) d rfl rfl dm oc nb rfl (fun Q d => lr (Wa (lt ?_))))
 obtain rfl := sj hm
 exact fR (v := (.bool true)) rfl rfl ⟨_, _, rfl, (d.gb (Kb (Kr Sn))), (.slice u z.length x), K, rfl, rfl, t⟩
theorem rp (i : Nat) (g : Value) (D : List Int) (c : LO) (a : ft) (z : Value) (r : (Bool × (List Int))) (w : World) {μ0 : fz} (h0 : ju μ0 ((i, Ob #[g] 56) :: (c ++ [])) w) (B : fN 5 (fl .u8) 1 g D c) (u : Sl (Pl (fl .u8)) 1 μ0 z a.Tag) (hm : mF D a = some r) :
  gq true pg0 22 [(.pointer (some ⟨i, 0, none⟩)), (.agg #[(.int .i64 a.eX.Kind), (.string a.eX.Head.eY), (.string a.eX.Head.eZ), (.string a.eX.fD), (.string a.eX.B.eY), (.string a.eX.B.eZ), (.string a.eX.C.eY), (.string a.eX.C.eZ), (.string a.eX.fw), z])] w ((i, Ob #[g] 56) :: (c ++ [])) (fun v L1 W' => ∃ y1 S2, v = (.bool (r.1)) ∧ L1 = ((i, Ob #[y1] 56) :: (S2 ++ [])) ∧ fN 5 (fl .u8) 1 y1 r.2 S2) := by
 let q := ((i, Ob #[g] 56) :: (c ++ []))
 refine qV h0 30 func22 rfl (fun d => sg ?_)
 obtain ⟨A1, c2, rfl⟩ := u.form
 refine VE (hZ d rfl (fun W4 L d => Wa (lS (Wm (V (jL cU rfl rfl) (Wm (Vg rfl rfl (fh nn rfl) (Vg rfl rfl (fj rfl (fy d.has Mh (fa a.eX) rfl bl aD)) (bS hm fun r5 d0 hm => sv rfl rfl (Eg d call48 (mK a.eX _ _  d0) (fun W7 d => Vg rfl rfl (kN rfl) ?_)))))))))))
 refine V (fE rfl rfl) (Wm (LJ hm (fun s E W => ∃ a0, ST true (keys q) w W μ0 ((L, Ol (C1 a.eX.Kind a.eX.Head.eY a.eX.Head.eZ a.eX.fD a.eX.B.eY a.eX.B.eZ a.eX.C.eY a.eX.C.eZ a.eX.fw A1 a.Tag.length c2) 38) :: ((i, Ob #[g] 56) :: (c ++ a0))) ∧ E 0 = (.pointer (some ⟨i, 0, none⟩)) ∧ E 3 = (.pointer (some ⟨L, 0, none⟩)) ∧ E 18 = (.bool s)) 5 ?_ (fun s y K => ?_)))
 ·rintro x9 E W ⟨a0, d, a4, a5, c8⟩ k
  refine ln (CI k c8 (fun b5 k => ?_) (fun b5 k => ?_))
  ·refine sg (Wa (ln ?_))
   replace d := d.fe (Db St)
   refine gd (fP ?_)
   obtain rfl := sj k
   exact fR (v := (.bool false)) rfl rfl ⟨_, _, rfl, (d.gb (Kb (Kr Sn))), g, c, rfl, rfl, B⟩
  refine kg (Wh a4 (V (fh nn a5) (VA d Mh (fa a.eX) bl aD (bS k fun d1 b7 k => VE (nX d call36 (mO a.eX _ _  b7) (fun e4 d3 f1 e3 d U O b4 => bS k fun d2 b9 k => ?_))))))
  refine VE (yR d (Cb (Pr (Pb Pz)) (Cr (Qr (Qb Qz)) Cn)) call49 (fun hH hN n p => (sV i g D c d3 d1 _ _ ⟨hH, hN, fA.refl _⟩ B (b4.sl (fun _ => rfl) (fun b o hq => p b o (Ml hq))) b9)) (fun e5 e9 F e1 d Y P h b1 => ?_))
  obtain ⟨A, a3, G, rfl, N⟩ := b1
  replace G := G.symm; subst G
  replace d := d.perm (Tb (Tr Tn))
  refine Wm (LJ k (fun Q E W => ∃ M I T a2, fA F T ∧ ST true (keys q) w W T ((i, Ob #[M] 56) :: (I ++ a2)) ∧ E 29 = (.bool Q.1) ∧ fN 5 (fl .u8) 1 M Q.2 I) 5 ?_ (fun Q x J => ?_))
  ·rintro ⟨d4, e7⟩ E W ⟨M, I, T, a2, d8, d, c9, c1⟩ b6
   refine Wg c9 (lt ?_)
   obtain rfl := sj b6
   exact fR (v := (.bool d4)) rfl rfl ⟨_, _, rfl, (d.gb (Kb (Kr Sn))), M, I, rfl, rfl, c1⟩
  refine bC x (fun j x => ?_) (fun j x => ?_)
  ·refine ug j (fp a4) (ug j (fh nY a5) (ug j (fj rfl (fG d.has (Mt (Ma (Ma Mh))) rfl bW)) (bS x fun e8 c0 x => ?_)))
   refine mD j (eM d (Cb Pz (Cr Qz Cn)) call50 (fun hh n => (pf i A d2.2 a3 (.slice A1 a.Tag.length c2) a.Tag _ _ hh N (u.mono (Pl.mono _) ((U.trans Y).trans n)) c0)) ?_)
   rintro _ f0 d7 e2 d Z R h ⟨d6, c6, H, rfl, c3⟩
   obtain rfl := H.symm
   replace d := d.perm (Tb (Tr Tn))
   refine V (fF (cB j) rfl) ?_
   obtain rfl := sj x
   exact J _ _ ⟨d6, c6, d7, _, Z, (d.fe (Kb (Kr (Dr (Db St))))), rfl, c3⟩
  refine un j (un j (un j (un j (V (fE (cB j) rfl) ?_))))
  obtain rfl := sj x
  exact J _ _ ⟨A, a3, F, _, (fA.refl _), (d.fe (Kb (Kr (Dr (Db St))))), rfl, N⟩
 refine bC y (fun t y => ?_) (fun t y => ?_)
 ·refine un t (un t (un t (un t (V (fF (cB t) rfl) ?_))))
  obtain rfl := sj y
  exact K _ _ ⟨_, (d.fe St), rfl, rfl, rfl⟩
 refine ug t (fh nY rfl) (ug t (fj rfl (fG d.has Mh rfl bW)) (ug t (iB az rfl u) (ug t (gl rfl rfl rfl) (V (fE (cB t) rfl) ?_))))
 obtain rfl := sj y
 exact K _ _ ⟨_, (d.fe St), rfl, rfl, rfl⟩
theorem qZ {dd : Bool} {F : Nat → Prop} {w W : World} {μ : fz} {L : LO} (p t : Nat) (z I : Value) (c y : Int) (u : FrameMode) (o : ST dd F w W μ ((p, .cells #[z, I] 100 (0, 0)) :: (t, .cells #[.int .i64 c] 27 (0, 0)) :: L)) (hu : (u = .returning ∧ y = c) ∨ u = .panicking [{ v := lW 125 p y, recovered := false }]) :
  CallsD pg0 51 #[.pointer (some ⟨p, 0, none⟩), .pointer (some ⟨t, 0, none⟩)] u W fun e G W' => e = .returned (.tuple #[]) ∧ settle G = .returning ∧ ST dd F w W' μ ((p, .cells #[z, .bool true] 100 (0, 0)) :: (t, .cells #[.int .i64 y] 27 (0, 0)) :: L) := by
 refine callsD_of_wpS func51 rfl fun s D x => BE (n := 31) (fi (Wm (Wn (Wf ud (VO (pn [] (.bool true) #[z, .bool true] o rfl rfl sizeOf4 oc (aQ 2) rfl (fun g o => fL ⟨rfl, fun a ha => wpS_seq ?_⟩))))))) (wv (args := [.pointer (some ⟨p, 0, none⟩), .pointer (some ⟨t, 0, none⟩)]) Tryz.ntmps51 nb)
 rcases hu with ⟨rfl, rfl⟩ | rfl
 ·refine sq (n := 31) (d := 10) (d2 := 4) (v := .nilIface) (cs' := { s with mode := .returning } :: D) dc dc rfl rfl rfl rfl (fun _ => rfl) (fun E h => fT h) (.inr ⟨?_, rfl, ?_⟩) ha (fun a ha => ?_)
  ·simp only [recoverD, x]
  ·rw [← x]
  exact xe (u := .returning) Tryz.results51 (fq (sg (Wm (V (Aw underlying20 rfl rfl) (ln (nM rfl (gd (fP ⟨.inr rfl, rfl, rfl, o⟩)))))))) ha
 refine sq (n := 31) (d := 10) (d2 := 4) (v := lW 125 p y) (cs' := { s with mode := .panicking [{ v := lW 125 p y, recovered := true }] } :: D) dc dc rfl rfl rfl rfl (fun _ => rfl) (fun E h => fT h) (.inl ?_) ha (fun a ha => ?_)
 ·simp only [recoverD, x]
 refine xe (u := .panicking [{ v := lW 125 p y, recovered := true }]) Tryz.results51 (fq (sg (Wm (V (AY underlying20 rfl rfl) (ln (kz rfl (kg (Wm (V (xO cZ (by intro q h; cases h) rfl) ?_))))))))) ha
 refine Wm (Wx rfl (Wx rfl (VE (gH o zeroValue125 (fun i J o => VO (pn [] (.agg #[.pointer (some ⟨p, 0, none⟩), .int .i64 y]) #[.pointer (some ⟨p, 0, none⟩), .int .i64 y] o rfl rfl sizeOf125 oc (aQ 2) rfl (fun j o => Wa (lS (Wm (V (kN rfl) (Wm (Vg rfl rfl (fh Ar rfl) ?_))))))))))))
 refine Vg rfl rfl (fj rfl (fG o.has Mh rfl isAgg65)) (Vg rfl rfl (fp rfl) (Vg rfl rfl (wK eJ sizeOf100 rfl rfl) (V (fE rfl rfl) (ln (kz rfl (kn (fi (Wm (Wf Au (VB o Mh rfl rfl isAgg27 (Wn (VO (pn [_, _] (.int .i64 y) #[.int .i64 y] o rfl rfl sizeOf27 oc (aQ 1) rfl (fun k o => ?_))))))))))))))
 exact fL ⟨.inl rfl, rfl, rfl, ST.drop (A := []) o⟩
theorem sn {S : Type} (fk : Nat) (a : Array Value) (N : Value) (T b : List Int) (s : Int ⊕ S) (rd : S → List Int) (w : World) {Q : fz} {j : LO} (h0 : ju Q j w) (hb : Sl (Pl (fl .u8)) 1 Q N T) (Y : gN T = some b) (K : S → LO → fz → Prop) (X : Int → LO → fz → Prop) (H : ∀ args w, (callFunc fk args).run pg0 w = .ok (.enter fk args) w) (hf : ∀ (w' : World) (μ' : fz) (F : Nat) (G : Value), ju μ' ((F, Obj.cells #[G, .bool false] 100 (0, 0)) :: j) w' → fA Q μ' → Sl (Pl (fl .u8)) 1 μ' G b →
   fI true pg0 fk (.pointer (some ⟨F, 0, none⟩) :: a.toList) w' μ' ((F, Obj.cells #[G, .bool false] 100 (0, 0)) :: j) s (fun r v B u => ∃ y z L', B = (F, Obj.cells #[y, z] 100 (0, 0)) :: L' ∧ Sl (Pl (fl .u8)) 1 u y (rd r) ∧ K r L' u)
    (fun x c B u => ∃ y z L', c = [{ v := lW 125 F x, recovered := false }] ∧ B = (F, Obj.cells #[y, z] 100 (0, 0)) :: L' ∧ X x L' u)) :
  gV true pg0 24 [N, .func (.func fk) #[] a] w Q j (fun v B u => v = .int .i64 (rU rd s) ∧ zP K X s B u) := by
 refine yj ?_
 have o := ST.lq (dd := true) h0
 refine wc (n := 22) func24 rfl rfl nb (xi (fi (VE (gH o zeroValue27 (fun W1 O o => fL ⟨rfl, (xi (fi (Wm (VE (nX o call32 (ns N T _ _ (hb.mono (Pl.mono _) o.fO) Y) (fun W2 v2 a8 R2 o g W U => ?_))))))⟩)))))
 obtain ⟨aa, o, i, a1, J⟩ := ST.vY o U (fun _ => rfl)
 obtain ⟨A, c, rfl⟩ := J.form
 refine V (gw (v := (.agg #[.slice A b.length c, .bool false])) (iU rfl) (fZ zeroValue100 dN (BU _ dN) kr)) (VE (hZ o rfl (fun W3 F o => Wa (fL ⟨rfl, (Bv (xY (BV (.inl rfl) rfl dc (fp rfl) (yr (d := ⟨.fn (.func 51) #[], #[.pointer (some ⟨F, 0, none⟩), .pointer (some ⟨O, 0, none⟩)]⟩) (.inl rfl) rfl (yN (args := [.pointer (some ⟨F, 0, none⟩), .pointer (some ⟨O, 0, none⟩)]) rfl (by exact kx rfl rfl)) (fB (pk (pk (om (oG (.inl rfl) rfl dc (fp rfl) (oG (.inl rfl) rfl dc (wE underlying67 rfl rfl) (qi ?_)))))))))))⟩))))
 refine fB (wz rfl (om (oG (.inl rfl) rfl dc (fp rfl) (oG (.inl rfl) rfl dc (fp rfl) ?_))))
 have hP : List.Perm ((F, Obj.cells (.agg #[.slice A b.length c, .bool false] : Value).cells 100 (0, 0)) :: (O, Obj.cells (Value.int IntKind.i64 0).cells 27 (0, 0)) :: j) (((F, Obj.cells #[.slice A b.length c, .bool false] 100 (0, 0)) :: j) ++ [(O, Obj.cells (Value.int IntKind.i64 0).cells 27 (0, 0))]) := List.Perm.cons _ (dH (l₁ := [_]))
 have hB : ∀ {M : LO} {p q : Nat × Obj}, ((p :: M) ++ [q]).Perm (p :: q :: M) := List.Perm.cons _ (dH (l₂ := [_]))
 rcases s with x | r
 ·refine BT (.inl rfl) (gU (args := [(.pointer (some ⟨F, 0, none⟩))]) (caps := a) _ _ o hP rfl H (by exact jY rfl) (fun hH hN R a7 => fI.l (hf _ _ F _ ⟨hH, hN, R⟩ (g.trans i) J)) (fun W4 cc Z L4 o D P hX => ?_))
  obtain ⟨y, z, L', rfl, rfl, hX⟩ := hX
  replace o := o.perm hB
  intro E' a6
  refine gS (vI (by simp) call51 (qZ _ _ _ _ 0 x _ o (.inr rfl)) (fun I o => iW (v := .int .i64 x) rfl (a6 4) (fG o.has (.tail _ (.head _)) rfl isAgg27) ?_))
  have o := ST.drop (A := []) (ST.drop (A := []) o)
  exact ⟨_, _, _, rfl, o.AT, (g.trans i).trans D, (W.trans a1).trans P, o.fK (fun _ h => h), rfl, hX⟩
 refine B6 (.inl rfl) rfl dc (wi (args := [(.pointer (some ⟨F, 0, none⟩))]) (caps := a) _ _ o hP rfl H (by exact jY rfl) (fun hH hN R a7 => fI.r (hf _ _ F _ ⟨hH, hN, R⟩ (g.trans i) J)) (fun W4 v4 Z L4 o D P hK => ?_))
 obtain ⟨y, z, L', rfl, hy, hK⟩ := hK
 replace o := o.perm hB
 refine qi (fB (pk (pk (om (oG (.inl rfl) rfl dc (fp rfl) (oG (.inl rfl) rfl dc (ig rfl) (oG (.inl rfl) rfl dc (fh ng rfl) (oG (.inl rfl) rfl dc (fj rfl (fG o.has (.head _) rfl bW)) (oG (.inl rfl) rfl dc (iB az rfl hy) (oG (.inl rfl) rfl dc (gl rfl rfl rfl) (qi (fB ?_))))))))))))
 have L : ∀ (k : Int) (E : Nat → Value) (I : World), E 4 = .pointer (some ⟨O, 0, none⟩) → k = (if (rd r).length > 0 then 13 else 0) → ST true (keys j) w I Z ((F, Obj.cells #[y, z] 100 (0, 0)) :: (O, Obj.cells #[.int .i64 k] 27 (0, 0)) :: L') → ∀ tmps : Array Value, (∀ t, tmps.getD t undef = E t) → Leaves pg0 Tryz.f24 tmps (Ae true w Q j (fun v B u => v = .int .i64 (rU rd (.inr r)) ∧ zP K X (.inr r) B u)) [⟨.fn (.func 51) #[], #[.pointer (some ⟨F, 0, none⟩), .pointer (some ⟨O, 0, none⟩)]⟩] .returning I := fun k E I h4 hk o => by
  refine vI (by simp) call51 (qZ _ _ _ _ k k _ o (.inl ⟨rfl, rfl⟩)) (fun W6 o => iW (v := .int .i64 k) rfl h4 (fG o.has (.tail _ (.head _)) rfl isAgg27) ?_)
  have o := ST.drop (A := []) (ST.drop (A := []) o)
  exact ⟨_, _, _, rfl, o.AT, (g.trans i).trans D, (W.trans a1).trans P, o.fK (fun _ h => h), by rw [hk, rU], hK⟩
 refine yP (b := decide (((rd r).length : Int) > 0)) rfl (fun hq => ?_) (fun hq => ?_)
 ·exact pk (om (yG (.inl rfl) rfl (pn [_] (.int .i64 13) #[.int .i64 13] o rfl rfl sizeOf27 oc (aQ 1) rfl (fun I o => qi (fB (wZ (fP (L 13 _ _ rfl (by rw [aB (by simpa using hq)]) o))))))))
 exact za (fB (pk (om (yG (.inl rfl) rfl (pn [_] (.int .i64 0) #[.int .i64 0] o rfl rfl sizeOf27 oc (aQ 1) rfl (fun I o => qi (fB (wZ (L 0 _ _ rfl (by rw [aA (by simpa using hq)]) o)))))))))
theorem pe (i : Nat) (c : Value) (g : List Int) (a r : Bool) (w : World) (k : Sl (Pl (fl .u8)) 1 (hp w) c g) (j : At (hp w) (.pointer (some ⟨i, 0, none⟩)) [c, (.bool a)]) (hm : kl g a = some r) :
  fV true pg0 85 [(.pointer (some ⟨i, 0, none⟩))] w (.bool r) := by
 refine cG 11 func85 rfl (fun d => sg (Wa (lr (Wm (V (jL eJ rfl rfl) (Wm (Vg rfl rfl (fp rfl) (Vg rfl rfl (ig rfl) (Cc rfl rfl (mP [(.bool a)] ud rfl j rfl) (fun u t => Vg rfl rfl (fj rfl (kh d.has (y := (.bool a)) t isAgg4)) ?_))))))))))
 exact V (fE rfl rfl) (Wa (lt (rQ hm d)))
theorem fJ (a : Nat) (t : fm) (g : Value) (B : Int) (s : (Int ⊕ Unit)) (w : World) {D : fz} (T : ju D ((a, Ob #[g, (.bool t.gh)] 100) :: []) w) (I : Sl (Pl (fl .u8)) 1 D g t.b) (hm : fS t B = some s) :
  fI true pg0 54 [(.pointer (some ⟨a, 0, none⟩)), (.int .i64 B)] w D ((a, Ob #[g, (.bool t.gh)] 100) :: []) s (fun r v G U => v = (.tuple #[]) ∧ G = ((a, Ob #[g, (.bool t.gh)] 100) :: [])) (fun x c G U => ∃ y z, c = [{ v := lW 125 a x, recovered := false }] ∧ G = ((a, Ob #[y, z] 100) :: [])) := by
 have d := ST.lq (dd := true) T
 refine iN (n := 21) func54 rfl rfl nb (sg (Wm (V (qN eJ rfl rfl) (Wm (Vg rfl rfl (fp rfl) (Vg rfl rfl (ig rfl) (Vg rfl rfl (fh ud rfl) (Vg rfl rfl (fj rfl (fG d.has Mh rfl isAgg4)) (Vg rfl rfl (kN rfl) (V (fF rfl rfl) (Wm (LJ hm (fun K E W => ∃ H, ST true (keys ((a, Ob #[g, (.bool t.gh)] 100) :: [])) w W D ((a, Ob #[g, (.bool t.gh)] 100) :: H) ∧ E 0 = (.pointer (some ⟨a, 0, none⟩)) ∧ E 1 = (.int .i64 B) ∧ E 16 = (.bool K)) 3 ?_ (fun K j u => ?_)))))))))))))
 ·rintro Y E W ⟨H, d, M, N, Q⟩ k
  refine ln (CI k Q (fun J k => ?_) (fun J k => ?_))
  ·refine fi (Wh M (Wh N (V (gw (v := (.agg #[(.pointer (some ⟨a, 0, none⟩)), (.int .i64 B)])) (lf rfl rfl) (fZ zeroValue125 cZ (B0 _ cZ) kr)) (V (AQ cZ (by intro q h; cases h) rfl) (jq (.inl rfl) (An rfl (iw ?_)))))))
   obtain rfl := sj k
   exact gi.li ⟨_, _, _, rfl, (d.gb (Kb Sn)), (fA.refl _), Lo.refl, (ST.fK d (gm.mem (Kb Sn))), ⟨_, _, rfl, rfl⟩⟩
  refine gA (um (wm ?_))
  obtain rfl := sj k
  exact we rfl (gi.ri ⟨_, _, _, rfl, (d.gb (Kb Sn)), (fA.refl _), Lo.refl, (ST.fK d (gm.mem (Kb Sn))), rfl, rfl⟩)
 refine bC j (fun i j => ?_) (fun i j => ?_)
 ·refine ug i (fp rfl) (ug i (gl rfl rfl rfl) (V (fF (cB i) rfl) ?_))
  obtain rfl := sj j
  exact u _ _ ⟨_, (d.fe St), rfl, rfl, rfl⟩
 refine un i (un i (V (fE (cB i) rfl) ?_))
 obtain rfl := sj j
 exact u _ _ ⟨_, (d.fe St), rfl, rfl, rfl⟩
theorem nL (a : Nat) (j : fm) (g : Value) (a1 : Int) (s : (Int ⊕ (Int × fm))) (w : World) {μ0 : fz} (h0 : ju μ0 ((a, Ob #[g, (.bool j.gh)] 100) :: []) w) (k : Sl (Pl (fl .u8)) 1 μ0 g j.b) (hm : kv j a1 = some s) :
  fI true pg0 99 [(.pointer (some ⟨a, 0, none⟩)), (.int .i64 a1)] w μ0 ((a, Ob #[g, (.bool j.gh)] 100) :: []) s (fun r v L1 μ1 => ∃ y1, v = (.int .u8 (r.1)) ∧ L1 = ((a, Ob #[y1, (.bool ((r.2).gh))] 100) :: []) ∧ Sl (Pl (fl .u8)) 1 μ1 y1 ((r.2).b)) (fun x c L1 μ1 => ∃ y z, c = [{ v := lW 125 a x, recovered := false }] ∧ L1 = ((a, Ob #[y, z] 100) :: [])) := by
 let c8 := (⟨(j.b.drop (Int.toNat 1)), j.gh⟩ : fm)
 let c7 := (#[g, (.bool j.gh)] : Array Value)
 let b8 : Value := (.pointer (some ⟨a, 0, none⟩))
 let a0 := ((a, Obj.cells c7 100 (0, 0)) :: [])
 have d := ST.lq (dd := true) h0
 refine iN (n := 41) func99 rfl rfl nb (sg (Wa (ln (fq (uz hm (fun g0 E W => ∃ Y d7, fA μ0 Y ∧ Lo (keys a0) w μ0 Y ∧ ST true (keys a0) w W Y ((a, Obj.cells c7 100 (0, 0)) :: d7) ∧ E 0 = b8 ∧ E 1 = (.int .i64 a1)) (fun g0 B a2 => ?_) ?_)))))
 ·refine sg (Wm (Wi rfl (ln (CI B rfl (fun d3 B => ?_) (fun d3 B => ?_)))))
  ·refine fi (Wm (bS B fun g1 b5 B => ?_))
   rcases g1 with f6 | h4
   ·have F := d.size
    refine jq (.inl rfl) (gU (args := [b8, (.int .i64 11)]) (caps := #[]) _ _ d (Cb Pz Cn) rfl cV (by exact kx rfl rfl) (fun hH hN A ad => (fI.l (fJ a j g 11 _ _ ⟨hH, hN, A⟩ (k.mono (Pl.mono _) (fA.refl _)) b5))) (fun e7 g9 c6 e4 d T p aa => ?_))
    obtain ⟨i1, i4, d6, rfl⟩ := aa
    replace d := d.perm (Tb Tn)
    refine gS (iw ?_)
    obtain rfl := sj B
    replace a2 : some (Sum.inl f6) = some s := a2
    obtain rfl := sj a2
    exact gi.li ⟨_, _, _, rfl, (d.gb (Kb Sn)), T, p, (ST.fK d (gm.mem (Kb Sn))), ⟨_, _, d6, rfl⟩⟩
   have F := d.size
   refine VE (eD d (Cb Pz Cn) cV (fun hh => (fI.r (fJ a j g 11 _ _ hh (k.mono (Pl.mono _) (fA.refl _)) b5))) ?_)
   rintro e7 h7 c6 e4 d T p ⟨a6, rfl⟩
   obtain rfl := a6.symm
   replace d := d.perm (Tb Tn)
   refine ln ?_
   obtain rfl := sj B
   exact ⟨_, rfl, c6, _, T, p, (d.fe St), rfl, rfl⟩
  refine kn ?_
  obtain rfl := sj B
  exact ⟨_, rfl, μ0, _, (fA.refl _), Lo.refl, (d.fe St), rfl, rfl⟩
 rintro ⟨⟩ E W ⟨Y, d7, G, q, d, b1, e0⟩ f0
 refine fq (uz f0 (fun f8 E W => ∃ I d8, fA Y I ∧ Lo (keys a0) w Y I ∧ ST true (keys a0) w W I ((a, Obj.cells c7 100 (0, 0)) :: d8) ∧ E 0 = b8 ∧ E 1 = (.int .i64 a1)) (fun f8 u Z => ?_) ?_)
 ·refine sg (Wh b1 (Wn (Wf ng (VB d Mh rfl rfl bW (V (iB az rfl k) (Wi rfl (ln (CI u rfl (fun d2 u => ?_) (fun d2 u => ?_)))))))))
  ·refine fi (Wh b1 (bS u fun f9 b4 u => ?_))
   rcases f9 with f5 | h3
   ·have F := d.size
    refine jq (.inl rfl) (gU (args := [b8, (.int .i64 10)]) (caps := #[]) _ _ d (Cb Pz Cn) rfl cV (by exact kx rfl rfl) (fun hH hN A ad => (fI.l (fJ a j g 10 _ _ ⟨hH, hN, A⟩ (k.mono (Pl.mono _) G) b4))) (fun e6 g8 c5 e3 d Q o R => ?_))
    obtain ⟨i0, i3, d5, rfl⟩ := R
    replace d := d.perm (Tb Tn)
    refine gS (iw ?_)
    obtain rfl := sj u
    replace Z : some (Sum.inl f5) = some s := Z
    obtain rfl := sj Z
    exact gi.li ⟨_, _, _, rfl, (d.gb (Kb Sn)), (G.trans Q), (q.trans o), (ST.fK d (gm.mem (Kb Sn))), ⟨_, _, d5, rfl⟩⟩
   have F := d.size
   refine VE (eD d (Cb Pz Cn) cV (fun hh => (fI.r (fJ a j g 10 _ _ hh (k.mono (Pl.mono _) G) b4))) ?_)
   rintro e6 h6 c5 e3 d Q o ⟨a5, rfl⟩
   obtain rfl := a5.symm
   replace d := d.perm (Tb Tn)
   refine ln ?_
   obtain rfl := sj u
   exact ⟨_, rfl, c5, _, Q, o, (d.fe St), b1, e0⟩
  refine kn ?_
  obtain rfl := sj u
  exact ⟨_, rfl, Y, _, (fA.refl _), Lo.refl, (d.fe St), b1, e0⟩
 rintro ⟨⟩ E W ⟨I, d8, J, L, d, a7, g2⟩ U
 refine sg (Wh a7 (Wn (Wf ng (VB d Mh rfl rfl bW (bS U fun a9 c2 U => VQ (ox (enc := (fl .u8)) (i := 0) (x0 := a9) az cP rfl rfl (k.mono (Pl.mono _) (G.trans J)) (jI c2) (iz c2)) (fun i6 f3 => V (fj rfl (kh d.has (y := (.int .u8 a9)) f3 isAgg5)) (Wa (lr (Wh a7 ?_)))))))))
 refine Wh a7 (Wn (Wf ng (VB d Mh rfl rfl bW (bS U fun _ c1 U => VQ (sy (i := 1) az cP rfl rfl (k.mono (Pl.mono _) (G.trans J)) (pS c1) (pK c1)) (fun i7 a3 => Wn (Wf ng ?_))))))
 obtain ⟨K, M, rfl⟩ := a3.1.form
 let O : Value := (.slice K (j.b.drop (Int.toNat 1)).length M)
 refine VO (fH O (#[O, (.bool j.gh)]) d rfl rfl dm oc nb rfl (fun i5 d => ln (fq (uz U (fun g4 E W => ∃ b6 d9, fA I b6 ∧ Lo (keys a0) w I b6 ∧ ST true (keys a0) w W b6 ((a, Ob #[O, (.bool j.gh)] 100) :: d9) ∧ E 5 = (.int .u8 a9)) (fun g4 f2 b0 => ?_) ?_))))
 ·refine sg (Wm (Wi rfl (Wm (LJ f2 (fun c3 E W => ∃ b9, ST true (keys a0) w W I ((a, Ob #[O, (.bool j.gh)] 100) :: b9) ∧ E 0 = b8 ∧ E 5 = (.int .u8 a9) ∧ E 37 = (.bool c3)) 3 ?_ (fun c3 H a8 => ?_)))))
  ·rintro h8 E W ⟨b9, d, e8, c0, e9⟩ t
   refine ln (CI t e9 (fun d1 t => ?_) (fun d1 t => ?_))
   ·refine fi (Wh e8 (bS t fun f7 b3 t => ?_))
    rcases f7 with f4 | h2
    ·have F := d.size
     refine jq (.inl rfl) (gU (args := [b8, (.int .i64 11)]) (caps := #[]) _ _ d (Cb Pz Cn) rfl cV (by exact kx rfl rfl) (fun hH hN A ad => (fI.l (fJ a c8 O 11 _ _ ⟨hH, hN, A⟩ (a3.1.mono (Pl.mono _) (fA.refl _)) b3))) (fun e5 g7 c4 e2 d N h P => ?_))
     obtain ⟨h9, i2, d4, rfl⟩ := P
     replace d := d.perm (Tb Tn)
     refine gS (iw ?_)
     obtain rfl := sj t
     replace b0 : some (Sum.inl f4) = some s := b0
     obtain rfl := sj b0
     exact gi.li ⟨_, _, _, rfl, (d.gb (Kb Sn)), ((G.trans J).trans N), ((q.trans L).trans h), (ST.fK d (gm.mem (Kb Sn))), ⟨_, _, d4, rfl⟩⟩
    have F := d.size
    refine VE (eD d (Cb Pz Cn) cV (fun hh => (fI.r (fJ a c8 O 11 _ _ hh (a3.1.mono (Pl.mono _) (fA.refl _)) b3))) ?_)
    rintro e5 h5 c4 e2 d N h ⟨a4, rfl⟩
    obtain rfl := a4.symm
    replace d := d.perm (Tb Tn)
    refine ln ?_
    obtain rfl := sj t
    exact ⟨_, rfl, c4, _, N, h, (d.fe St), c0⟩
   refine kn ?_
   obtain rfl := sj t
   exact ⟨_, rfl, I, _, (fA.refl _), Lo.refl, (d.fe St), c0⟩
  refine bC H (fun D H => ?_) (fun D H => ?_)
  ·refine ug D (fp g2) (ug D (gl rfl rfl rfl) (V (fF (cB D) rfl) ?_))
   obtain rfl := sj H
   exact a8 _ _ ⟨_, (d.fe St), a7, rfl, rfl⟩
  refine un D (un D (V (fE (cB D) rfl) ?_))
  obtain rfl := sj H
  exact a8 _ _ ⟨_, (d.fe St), a7, rfl, rfl⟩
 rintro ⟨⟩ E W ⟨b6, d9, b2, ab, d, g3⟩ f1
 refine sg (Wh g3 (Wa (lt (kV ?_))))
 obtain rfl := sj f1
 exact fR (v := (.int .u8 a9)) rfl rfl (gi.ri ⟨_, _, _, rfl, (d.gb (Kb Sn)), ((G.trans J).trans b2), ((q.trans L).trans ab), (ST.fK d (gm.mem (Kb Sn))), O, rfl, rfl, (a3.1.mono (Pl.mono _) b2)⟩)
theorem jK (g : Nat) (I : fm) (j : Value) (P : Int) (s : (Int ⊕ (Int × fm))) (w : World) {μ0 : fz} (h0 : ju μ0 ((g, Ob #[j, (.bool I.gh)] 100) :: []) w) (K : Sl (Pl (fl .u8)) 1 μ0 j I.b) (hm : iM I P = some s) :
  fI true pg0 82 [(.pointer (some ⟨g, 0, none⟩)), (.int .i64 P)] w μ0 ((g, Ob #[j, (.bool I.gh)] 100) :: []) s (fun r v L1 μ1 => ∃ y1, v = (.int .i64 (r.1)) ∧ L1 = ((g, Ob #[y1, (.bool ((r.2).gh))] 100) :: []) ∧ Sl (Pl (fl .u8)) 1 μ1 y1 ((r.2).b)) (fun x c L1 μ1 => ∃ y z, c = [{ v := lW 125 g x, recovered := false }] ∧ L1 = ((g, Ob #[y, z] 100) :: [])) := by
 let b7 : Value := (.pointer (some ⟨g, 0, none⟩))
 let R := ((g, Ob #[j, (.bool I.gh)] 100) :: [])
 have d := ST.lq (dd := true) h0
 refine iN (n := 31) func82 rfl rfl nb (sg (Wa (lS (Wm (bS hm fun r1 e0 hm => VE (Eg d call85 (pe g j I.b I.gh _ _ (K.mono (Pl.mono _) d.fO) (At.of (d.at_ Mh) _ rfl) e0) (fun W3 d => ln (CI hm rfl (fun d9 hm => ?_) (fun d9 hm => ?_)))))))))
 ·refine sg (Wa (lt (fP (kV ?_))))
  obtain rfl := sj hm
  exact fR (v := (.int .i64 0)) rfl rfl (gi.ri ⟨_, _, _, rfl, (d.gb (Kb Sn)), (fA.refl _), Lo.refl, (ST.fK d (gm.mem (Kb Sn))), j, rfl, rfl, K⟩)
 refine kg (Wa (lS (Wa (ln (jd (nc (fun m E W => ∃ G u Q N T Y b3, fA μ0 Y ∧ Lo (keys R) w μ0 Y ∧ ST true (keys R) w W Y ((g, Ob #[Q, (.bool T)] 100) :: b3) ∧ E 0 = b7 ∧ E 1 = (.int .i64 P) ∧ E 5 = (.int .i64 G) ∧ E 6 = (.int .i64 u) ∧ Sl (Pl (fl .u8)) 1 Y Q N ∧ gy P m G u N T = some s) iv ⟨0, 0, j, I.b, I.gh, μ0, _, (fA.refl _), Lo.refl, (d.fe St), rfl, rfl, rfl, rfl, K, hm⟩ ?_))))))
 rintro m E W ⟨G, u, Q, N, T, Y, b3, H, o, d, a7, b5, d2, a8, b1, i⟩
 cases m with
 | zero => rw [gy] at i; cases i
 | succ d4 =>
  refine fq (bg (Wh a7 (Wh a8 (bS i fun d8 a9 i => ?_))))
  rcases d8 with e6 | t
  ·have O := d.size
   refine jq (.inl rfl) (gU (args := [b7, (.int .i64 u)]) (caps := #[]) _ _ d (Cb Pz Cn) rfl call99 (by exact kx rfl rfl) (fun hH hN L aa => (fI.l (nL g (⟨N, T⟩ : fm) Q u _ _ ⟨hH, hN, L⟩ (b1.mono (Pl.mono _) (fA.refl _)) a9))) (fun d0 e3 Z c8 d D h q => ?_))
   obtain ⟨f0, f2, c3, rfl⟩ := q
   replace d := d.perm (Tb Tn)
   refine gS (oK (gS (gS (oK (gS (iw ?_))))))
   obtain rfl := sj i
   exact gi.li ⟨_, _, _, rfl, (d.gb (Kb Sn)), (H.trans D), (o.trans h), (ST.fK d (gm.mem (Kb Sn))), ⟨_, _, c3, rfl⟩⟩
  have O := d.size
  refine VE (eD d (Cb Pz Cn) call99 (fun hh => (fI.r (nL g (⟨N, T⟩ : fm) Q u _ _ hh (b1.mono (Pl.mono _) (fA.refl _)) a9))) ?_)
  rintro d0 e8 Z c8 d D h ⟨U, a3, rfl, J⟩
  obtain rfl := a3.symm
  replace d := d.perm (Tb Tn)
  refine Wa (lr (Wh d2 (Wm (V (tJ (k := .u8) (a := t.1) (b := 127) (v := (.int .u8 (IntKind.u8.wrap (BitVec.ofInt (IntKind.bits .u8) t.1 &&& BitVec.ofInt (IntKind.bits .u8) 127).toNat))) rfl rfl dc rfl) (V (lx (k' := .u8) (a := (IntKind.u8.wrap (BitVec.ofInt (IntKind.bits .u8) t.1 &&& BitVec.ofInt (IntKind.bits .u8) 127).toNat)) bd dl rfl) (Wh a8 (Wi rfl (bS i fun _ c5 i => V (BG (a := (wi0 .i64 (IntKind.u8.wrap (BitVec.ofInt (IntKind.bits .u8) t.1 &&& BitVec.ofInt (IntKind.bits .u8) 127).toNat))) (b := (wi0 .i64 (7 * u))) rfl rfl (Bb c5)) (V (yS (k := .i64) (a := G) (b := (wi0 .i64 ((wi0 .i64 (IntKind.u8.wrap (BitVec.ofInt (IntKind.bits .u8) t.1 &&& BitVec.ofInt (IntKind.bits .u8) 127).toNat)) * 2 ^ min (Int.toNat (wi0 .i64 (7 * u))) (IntKind.bits .i64)))) (v := (.int .i64 (wi0 .i64 (BitVec.ofInt (IntKind.bits .i64) G ||| BitVec.ofInt (IntKind.bits .i64) (wi0 .i64 ((wi0 .i64 (IntKind.u8.wrap (BitVec.ofInt (IntKind.bits .u8) t.1 &&& BitVec.ofInt (IntKind.bits .u8) 127).toNat)) * 2 ^ min (Int.toNat (wi0 .i64 (7 * u))) (IntKind.bits .i64)))).toNat))) rfl rfl rfl) (Wa ?_))))))))))
  let a0 := (wi0 .i64 (BitVec.ofInt (IntKind.bits .i64) G ||| BitVec.ofInt (IntKind.bits .i64) (wi0 .i64 ((wi0 .i64 (IntKind.u8.wrap (BitVec.ofInt (IntKind.bits .u8) t.1 &&& BitVec.ofInt (IntKind.bits .u8) 127).toNat)) * 2 ^ min (Int.toNat (wi0 .i64 (7 * u))) (IntKind.bits .i64)))).toNat)
  refine lr (Wm (Wi rfl (ln (CI i rfl (fun c1 i => ?_) (fun c1 i => ?_)))))
  ·refine mZ (Bt (by simp) (lY (lY (qF (fB (fq (uz i (fun d6 E W => ∃ a5 b4, fA Z a5 ∧ Lo (keys R) w Z a5 ∧ ST true (keys R) w W a5 ((g, Ob #[U, (.bool ((t.2).gh))] 100) :: b4) ∧ E 5 = (.int .i64 a0)) (fun d6 B a2 => ?_) ?_)))))))
   ·refine sg (Wm (Wh b5 (Wi rfl (ln (CI B rfl (fun c2 B => ?_) (fun c2 B => ?_))))))
    ·refine fi (Wh a7 (bS B fun d7 b0 B => ?_))
     rcases d7 with d5 | e7
     ·have O := d.size
      refine jq (.inl rfl) (gU (args := [b7, (.int .i64 12)]) (caps := #[]) _ _ d (Cb Pz Cn) rfl cV (by exact kx rfl rfl) (fun hH hN L aa => (fI.l (fJ g t.2 U 12 _ _ ⟨hH, hN, L⟩ (J.mono (Pl.mono _) (fA.refl _)) b0))) (fun d1 e4 b6 c9 d M p A => ?_))
      obtain ⟨f1, f3, c4, rfl⟩ := A
      replace d := d.perm (Tb Tn)
      refine gS (iw ?_)
      obtain rfl := sj B
      replace a2 : some (Sum.inl d5) = some s := a2
      obtain rfl := sj a2
      exact gi.li ⟨_, _, _, rfl, (d.gb (Kb Sn)), ((H.trans D).trans M), ((o.trans h).trans p), (ST.fK d (gm.mem (Kb Sn))), ⟨_, _, c4, rfl⟩⟩
     have O := d.size
     refine VE (eD d (Cb Pz Cn) cV (fun hh => (fI.r (fJ g t.2 U 12 _ _ hh (J.mono (Pl.mono _) (fA.refl _)) b0))) ?_)
     rintro d1 e9 b6 c9 d M p ⟨a4, rfl⟩
     obtain rfl := a4.symm
     replace d := d.perm (Tb Tn)
     refine ln ?_
     obtain rfl := sj B
     exact ⟨_, rfl, b6, _, M, p, (d.fe St), rfl⟩
    refine kn ?_
    obtain rfl := sj B
    exact ⟨_, rfl, Z, _, (fA.refl _), Lo.refl, (d.fe St), rfl⟩
   rintro ⟨⟩ E W ⟨a5, b4, a6, F, d, d3⟩ c6
   refine sg (Wh d3 (Wa (lt (kV ?_))))
   obtain rfl := sj c6
   exact fR (v := (.int .i64 a0)) rfl rfl (gi.ri ⟨_, _, _, rfl, (d.gb (Kb Sn)), ((H.trans D).trans a6), ((o.trans h).trans F), (ST.fK d (gm.mem (Kb Sn))), U, rfl, rfl, (J.mono (Pl.mono _) a6)⟩)
  exact gA (gL (fB (fi (Wh a8 (Wi rfl (Wa (ln ⟨d4, bY _, a0, (wi0 .i64 (u + 1)), U, ((t.2).b), ((t.2).gh), Z, _, (H.trans D), (o.trans h), (d.fe St), a7, b5, rfl, rfl, J, i⟩)))))))
theorem kq (a : Nat) (J : fm) (k : Value) (a1 : Int) (s : (Int ⊕ ((List Int) × fm))) (w : World) {μ0 : fz} (h0 : ju μ0 ((a, Ob #[k, (.bool J.gh)] 100) :: []) w) (D : Sl (Pl (fl .u8)) 1 μ0 k J.b) (hm : jf J a1 = some s) :
  fI true pg0 53 [(.pointer (some ⟨a, 0, none⟩)), (.int .i64 a1)] w μ0 ((a, Ob #[k, (.bool J.gh)] 100) :: []) s (fun r v L1 μ1 => ∃ y1 y3, v = y1 ∧ L1 = ((a, Ob #[y3, (.bool ((r.2).gh))] 100) :: []) ∧ Sl (Pl (fl .u8)) 1 μ1 y1 (r.1) ∧ Sl (Pl (fl .u8)) 1 μ1 y3 ((r.2).b)) (fun x c L1 μ1 => ∃ y z, c = [{ v := lW 125 a x, recovered := false }] ∧ L1 = ((a, Ob #[y, z] 100) :: [])) := by
 let b6 := ((a, Ob #[k, (.bool J.gh)] 100) :: [])
 let b2 : Value := (.pointer (some ⟨a, 0, none⟩))
 have d := ST.lq (dd := true) h0
 refine iN (n := 44) func53 rfl rfl nb (sg (Wa (lS (Wm (bS hm fun r1 e6 hm => VE (Eg d call85 (pe a k J.b J.gh _ _ (D.mono (Pl.mono _) d.fO) (At.of (d.at_ Mh) _ rfl) e6) (fun W3 d => ln (CI hm rfl (fun e5 hm => ?_) (fun e5 hm => ?_)))))))))
 ·refine sg (Wa (lt (fP (kV ?_))))
  obtain rfl := sj hm
  exact fR (v := (.slice none 0 0)) rfl rfl (gi.ri ⟨_, _, _, rfl, (d.gb (Kb Sn)), (fA.refl _), Lo.refl, (ST.fK d (gm.mem (Kb Sn))), (.slice none 0 0), k, rfl, rfl, (Sl.nil _ _ _), D⟩)
 refine kg (Wm (bS hm fun d9 c0 hm => ?_))
 rcases d9 with g5 | t
 ·have A := d.size
  refine jq (.inl rfl) (gU (args := [b2, (.int .i64 9223372036854775807)]) (caps := #[]) _ _ d (Cb Pz Cn) rfl call82 (by exact kx rfl rfl) (fun hH P q ae => (fI.l (jK a J k 9223372036854775807 _ _ ⟨hH, P, q⟩ (D.mono (Pl.mono _) (fA.refl _)) c0))) (fun W7 g4 F e2 d I h R => ?_))
  obtain ⟨h2, h3, d1, rfl⟩ := R
  replace d := d.perm (Tb Tn)
  refine gS (iw ?_)
  obtain rfl := sj hm
  exact gi.li ⟨_, _, _, rfl, (d.gb (Kb Sn)), I, h, (ST.fK d (gm.mem (Kb Sn))), ⟨_, _, d1, rfl⟩⟩
 have A := d.size
 refine VE (eD d (Cb Pz Cn) call82 (fun hh => (fI.r (jK a J k 9223372036854775807 _ _ hh (D.mono (Pl.mono _) (fA.refl _)) c0))) ?_)
 rintro W7 g8 F e2 d I h ⟨T, U, rfl, B⟩
 obtain rfl := U.symm
 replace d := d.perm (Tb Tn)
 refine Wa (ln (fq (uz hm (fun e7 E W => ∃ a3 b7, fA F a3 ∧ Lo (keys b6) w F a3 ∧ ST true (keys b6) w W a3 ((a, Ob #[T, (.bool ((t.2).gh))] 100) :: b7) ∧ E 0 = b2 ∧ E 5 = (.int .i64 t.1)) (fun e7 g G => ?_) ?_)))
 ·refine bg (Wm (Wm (Wi rfl (Wa (ln (CI g rfl (fun d0 g => ?_) (fun d0 g => ?_)))))))
  ·refine fi (Wm (bS g fun d7 a9 g => ?_))
   rcases d7 with d5 | g7
   ·have A := d.size
    refine jq (.inl rfl) (gU (args := [b2, (.int .i64 12)]) (caps := #[]) _ _ d (Cb Pz Cn) rfl cV (by exact kx rfl rfl) (fun hH P q ae => (fI.l (fJ a t.2 T 12 _ _ ⟨hH, P, q⟩ (B.mono (Pl.mono _) (fA.refl _)) a9))) (fun e3 f2 c2 c4 d M p L => ?_))
    obtain ⟨f7, f9, b4, rfl⟩ := L
    replace d := d.perm (Tb Tn)
    refine oK (gS (iw ?_))
    obtain rfl := sj g
    replace G : some (Sum.inl d5) = some s := G
    obtain rfl := sj G
    exact gi.li ⟨_, _, _, rfl, (d.gb (Kb Sn)), (I.trans M), (h.trans p), (ST.fK d (gm.mem (Kb Sn))), ⟨_, _, b4, rfl⟩⟩
   have A := d.size
   refine VE (eD d (Cb Pz Cn) cV (fun hh => (fI.r (fJ a t.2 T 12 _ _ hh (B.mono (Pl.mono _) (fA.refl _)) a9))) ?_)
   rintro e3 h1 c2 c4 d M p ⟨N, rfl⟩
   obtain rfl := N.symm
   replace d := d.perm (Tb Tn)
   refine fL (gL (fB ?_))
   obtain rfl := sj g
   exact ⟨_, rfl, c2, _, M, p, (d.fe St), rfl, rfl⟩
  refine sg (Wm (Wm (Wn (Wf ng (VB d Mh rfl rfl bW (V (iB az rfl B) (Wi rfl (Wa (ln (CI g rfl (fun b3 g => ?_) (fun b3 g => ?_)))))))))))
  ·refine fi (Wm (bS g fun d8 a2 g => ?_))
   rcases d8 with d6 | f5
   ·have A := d.size
    refine jq (.inl rfl) (gU (args := [b2, (.int .i64 10)]) (caps := #[]) _ _ d (Cb Pz Cn) rfl cV (by exact kx rfl rfl) (fun hH P q ae => (fI.l (fJ a t.2 T 10 _ _ ⟨hH, P, q⟩ (B.mono (Pl.mono _) (fA.refl _)) a2))) (fun c6 f3 b1 c5 d H o O => ?_))
    obtain ⟨f8, g0, b5, rfl⟩ := O
    replace d := d.perm (Tb Tn)
    refine oK (gS (iw ?_))
    obtain rfl := sj g
    replace G : some (Sum.inl d6) = some s := G
    obtain rfl := sj G
    exact gi.li ⟨_, _, _, rfl, (d.gb (Kb Sn)), (I.trans H), (h.trans o), (ST.fK d (gm.mem (Kb Sn))), ⟨_, _, b5, rfl⟩⟩
   have A := d.size
   refine VE (eD d (Cb Pz Cn) cV (fun hh => (fI.r (fJ a t.2 T 10 _ _ hh (B.mono (Pl.mono _) (fA.refl _)) a2))) ?_)
   rintro c6 f6 b1 c5 d H o ⟨Q, rfl⟩
   obtain rfl := Q.symm
   replace d := d.perm (Tb Tn)
   refine fL (gL (fB ?_))
   obtain rfl := sj g
   exact ⟨_, rfl, b1, _, H, o, (d.fe St), rfl, rfl⟩
  refine gA (gL (fB ?_))
  obtain rfl := sj g
  exact ⟨_, rfl, F, _, (fA.refl _), Lo.refl, (d.fe St), rfl, rfl⟩
 rintro ⟨⟩ E W ⟨a3, b7, K, aa, d, a6, b9⟩ u
 refine sg (Wh a6 (Wn (Wf ng (VB d Mh rfl rfl bW (Wh b9 (bS u fun _ a7 u => VQ (xz (j := t.1) az cP rfl rfl (B.mono (Pl.mono _) K) (pS a7) (pK a7)) (fun e8 d3 => bS u fun g6 d2 u => VE (nX d call32 (ns e8 (((t.2).b).take (Int.toNat t.1)) _ _ (d3.1.mono (Pl.mono _) d.fO) d2) (fun g2 c1 h4 g1 d Y ab c9 => Wa (ln (fq ?_)))))))))))
 refine fi (Wh a6 (Wh a6 (Wn (Wf ng (VB d (Ma Mh) rfl rfl bW (Wh b9 (bS u fun _ a8 u => VQ (sy (i := t.1) az cP rfl rfl (B.mono (Pl.mono _) (K.trans Y)) (pS a8) (pK a8)) (fun g9 b0 => Wn (Wf ng ?_)))))))))
 obtain ⟨a4, a5, rfl⟩ := b0.1.form
 let a0 : Value := (.slice a4 (((t.2).b).drop (Int.toNat t.1)).length a5)
 replace d := d.perm (Nb (Pr Pz) Nz)
 refine VO (fH a0 (#[a0, (.bool ((t.2).gh))]) d rfl rfl dm oc nb rfl (fun g3 d => lr (Wm (Wa (lt (kV ?_))))))
 obtain rfl := sj u
 refine fR (v := c1) rfl rfl ?_
 replace d := d.perm (Nr (Qb Qz) Nz)
 obtain ⟨h5, d, Z, ad, d4⟩ := ST.vY d c9 (fun _ => rfl)
 exact gi.ri ⟨_, _, _, rfl, (d.gb (Kb Sn)), (((I.trans K).trans Y).trans Z), (((h.trans aa).trans ab).trans ad), (ST.fK d (gm.mem (Kb Sn))), c1, a0, rfl, rfl, d4, (b0.1.mono (Pl.mono _) Z)⟩
theorem jU (a : Nat) (G : fm) (g : Value) (s : (Int ⊕ (ByteArray × fm))) (w : World) {Z : fz} (h0 : ju Z ((a, Ob #[g, (.bool G.gh)] 100) :: []) w) (t : Sl (Pl (fl .u8)) 1 Z g G.b) (hm : kM G = some s) :
  fI true pg0 84 [(.pointer (some ⟨a, 0, none⟩))] w Z ((a, Ob #[g, (.bool G.gh)] 100) :: []) s (fun r v K μ1 => ∃ R, v = (.string (r.1)) ∧ K = ((a, Ob #[R, (.bool ((r.2).gh))] 100) :: []) ∧ Sl (Pl (fl .u8)) 1 μ1 R ((r.2).b)) (fun x c K μ1 => ∃ y z, c = [{ v := lW 125 a x, recovered := false }] ∧ K = ((a, Ob #[y, z] 100) :: [])) := by
 have d := ST.lq (dd := true) h0
 refine iN (n := 15) func84 rfl rfl nb (sg (Wa (lS (Wm (V (jL eJ rfl rfl) (ln (kz rfl (gA ?_))))))))
 refine fB (sg (Wm (bS hm fun a5 J hm => ?_)))
 rcases a5 with b6 | I
 ·have q := d.size
  refine jq (.inl rfl) (gU (args := [(.pointer (some ⟨a, 0, none⟩)), (.int .i64 16)]) (caps := #[]) _ _ d (Cb Pz Cn) rfl call53 (by exact kx rfl rfl) (fun hH L p O => (fI.l (kq a G g 16 _ _ ⟨hH, L, p⟩ (t.mono (Pl.mono _) (fA.refl _)) J))) (fun W3 b4 P L9 d j o A => ?_))
  obtain ⟨c3, c5, Q, rfl⟩ := A
  replace d := d.perm (Tb Tn)
  refine gS (iw ?_)
  obtain rfl := sj hm
  exact gi.li ⟨_, _, _, rfl, (d.gb (Kb Sn)), j, o, (ST.fK d (gm.mem (Kb Sn))), ⟨_, _, Q, rfl⟩⟩
 have q := d.size
 refine VE (eD d (Cb Pz Cn) call53 (fun M => (fI.r (kq a G g 16 _ _ M (t.mono (Pl.mono _) (fA.refl _)) J))) ?_)
 rintro W3 v7 P L9 d j o ⟨c2, D, u, rfl, Y, k⟩
 obtain rfl := u.symm
 replace d := d.perm (Tb Tn)
 refine V (lH az bd aG rfl (Y.mono (Pl.mono _) d.fO)) (Wa (lS (Wm (bS hm fun b9 U hm => VE (Eg d call31 (kE (jo I.1) _ _  U) (fun b3 d => V (kN rfl) (ln (CI hm rfl (fun N hm => ?_) (fun N hm => ?_)))))))))
 ·refine sg (Wm (bS hm fun a4 H hm => ?_))
  rcases a4 with b7 | c0
  ·have q := d.size
   refine jq (.inl rfl) (gU (args := [(.pointer (some ⟨a, 0, none⟩)), (.int .i64 30)]) (caps := #[]) _ _ d (Cb Pz Cn) rfl cV (by exact kx rfl rfl) (fun hH L p O => (fI.l (fJ a I.2 D 30 _ _ ⟨hH, L, p⟩ (k.mono (Pl.mono _) (fA.refl _)) H))) (fun a2 b5 a8 W d i h F => ?_))
   obtain ⟨c4, c6, T, rfl⟩ := F
   replace d := d.perm (Tb Tn)
   refine gS (gS (iw ?_))
   obtain rfl := sj hm
   exact gi.li ⟨_, _, _, rfl, (d.gb (Kb Sn)), (j.trans i), (o.trans h), (ST.fK d (gm.mem (Kb Sn))), ⟨_, _, T, rfl⟩⟩
  have q := d.size
  refine VE (eD d (Cb Pz Cn) cV (fun M => (fI.r (fJ a I.2 D 30 _ _ M (k.mono (Pl.mono _) (fA.refl _)) H))) ?_)
  rintro a2 c1 a8 W d i h ⟨B, rfl⟩
  obtain rfl := B.symm
  replace d := d.perm (Tb Tn)
  refine lr (Wa (lt (fP (kV ?_))))
  obtain rfl := sj hm
  exact fR (v := (.string zS)) rfl rfl (gi.ri ⟨_, _, _, rfl, (d.gb (Kb Sn)), (j.trans i), (o.trans h), (ST.fK d (gm.mem (Kb Sn))), D, rfl, rfl, (k.mono (Pl.mono _) i)⟩)
 refine kg (Wm (Wa (lt (kV ?_))))
 obtain rfl := sj hm
 exact fR (v := (.string (jo I.1))) rfl rfl (gi.ri ⟨_, _, _, rfl, (d.gb (Kb Sn)), j, o, (ST.fK d (gm.mem (Kb Sn))), D, rfl, rfl, k⟩)
theorem iJ (a : Nat) (G : fm) (g : Value) (s : (Int ⊕ (fu × fm))) (w : World) {Z : fz} (h0 : ju Z ((a, Ob #[g, (.bool G.gh)] 100) :: []) w) (u : Sl (Pl (fl .u8)) 1 Z g G.b) (hm : jW G = some s) :
  fI true pg0 83 [(.pointer (some ⟨a, 0, none⟩))] w Z ((a, Ob #[g, (.bool G.gh)] 100) :: []) s (fun r v M μ1 => ∃ W, v = (.agg (fC (r.1)).toArray) ∧ M = ((a, Ob #[W, (.bool ((r.2).gh))] 100) :: []) ∧ Sl (Pl (fl .u8)) 1 μ1 W ((r.2).b)) (fun x c M μ1 => ∃ y z, c = [{ v := lW 125 a x, recovered := false }] ∧ M = ((a, Ob #[y, z] 100) :: [])) := by
 have d := ST.lq (dd := true) h0
 refine iN (n := 10) func83 rfl rfl nb (sg (VE (gH d dC (fun W2 b1 d => lr (Wm (bS hm fun a5 J hm => ?_))))))
 rcases a5 with b7 | t
 ·have q := d.size
  refine jq (.inl rfl) (gU (args := [(.pointer (some ⟨a, 0, none⟩))]) (caps := #[]) _ _ d (Cb (Pb Pz) Cn) rfl call84 (by exact jY rfl) (fun hH L p P => (fI.l (jU a G g _ _ ⟨hH, L, p⟩ (u.mono (Pl.mono _) (fA.refl _)) J))) (fun W5 b5 R a1 d k o A => ?_))
  obtain ⟨c1, c3, T, rfl⟩ := A
  replace d := d.perm (Tb Tn)
  refine gS (iw ?_)
  obtain rfl := sj hm
  exact gi.li ⟨_, _, _, rfl, (d.gb (Kb Sn)), k, o, (ST.fK d (gm.mem (Kb Sn))), ⟨_, _, T, rfl⟩⟩
 have q := d.size
 refine VE (eD d (Cb (Pb Pz) Cn) call84 (fun O => (fI.r (jU a G g _ _ O (u.mono (Pl.mono _) (fA.refl _)) J))) ?_)
 rintro W5 v9 R a1 d k o ⟨K, B, rfl, I⟩
 obtain rfl := B.symm
 replace d := d.perm (Tb Tn)
 refine Wa (lr (Wm (Wm (bS hm fun a4 H hm => ?_))))
 rcases a4 with b9 | i
 ·have q := d.size
  refine jq (.inl rfl) (gU (args := [(.pointer (some ⟨a, 0, none⟩))]) (caps := #[]) _ _ d (Cb Pz Cn) rfl call84 (by exact jY rfl) (fun hH L p P => (fI.l (jU a t.2 K _ _ ⟨hH, L, p⟩ (I.mono (Pl.mono _) (fA.refl _)) H))) (fun a3 b6 a9 a2 d j h F => ?_))
  obtain ⟨c2, c4, U, rfl⟩ := F
  replace d := d.perm (Tb Tn)
  refine gS (iw ?_)
  obtain rfl := sj hm
  exact gi.li ⟨_, _, _, rfl, (d.gb (Kb Sn)), (k.trans j), (o.trans h), (ST.fK d (gm.mem (Kb Sn))), ⟨_, _, U, rfl⟩⟩
 have q := d.size
 refine VE (eD d (Cb Pz Cn) call84 (fun O => (fI.r (jU a t.2 K _ _ O (I.mono (Pl.mono _) (fA.refl _)) H))) ?_)
 rintro a3 c0 a9 a2 d j h ⟨a7, D, rfl, Y⟩
 obtain rfl := D.symm
 replace d := d.perm (Tb Tn)
 let N := (⟨t.1, i.1⟩ : fu)
 let Q : Value := (.agg (fC N).toArray)
 refine V (gw (v := Q) (lf rfl rfl) (fZ dC bO (xG _ bO) kr)) ?_
 replace d := d.perm (Nb (Pb Pz) Nz)
 refine VO (fH Q ((fC N).toArray) d rfl rfl aJ (jD N) nb rfl (fun b4 d => lt (kV ?_)))
 obtain rfl := sj hm
 exact iW (v := Q) rfl rfl (fy d.has Mh (fC N) rfl bk aJ) (gi.ri ⟨_, _, _, rfl, (d.gb (Db (Kb Sn))), (k.trans j), (o.trans h), (ST.fK d (gm.mem (Db (Kb Sn)))), a7, rfl, rfl, Y⟩)
set_option maxHeartbeats 4000000 in
theorem rA (a : Nat) (a0 : fm) (j : Value) (s : (Int ⊕ (eX × fm))) (w : World) {μ0 : fz} (h0 : ju μ0 ((a, Ob #[j, (.bool a0.gh)] 100) :: []) w) (d1 : Sl (Pl (fl .u8)) 1 μ0 j a0.b) (hm : nU a0 = some s) :
  fI true pg0 52 [(.pointer (some ⟨a, 0, none⟩))] w μ0 ((a, Ob #[j, (.bool a0.gh)] 100) :: []) s (fun r v L1 μ1 => ∃ y1, v = (.agg (fa (r.1)).toArray) ∧ L1 = ((a, Ob #[y1, (.bool ((r.2).gh))] 100) :: []) ∧ Sl (Pl (fl .u8)) 1 μ1 y1 ((r.2).b)) (fun x c L1 μ1 => ∃ y z, c = [{ v := lW 125 a x, recovered := false }] ∧ L1 = ((a, Ob #[y, z] 100) :: [])) := by
 let h2 : Value := (.agg (fa K6).toArray)
 let g9 := ((fa K6).toArray : Array Value)
 let b8 := ((a, Ob #[j, (.bool a0.gh)] 100) :: [])
 let a5 : Value := (.pointer (some ⟨a, 0, none⟩))
 have d := ST.lq (dd := true) h0
 refine iN (n := 55) func52 rfl rfl nb (sg (VE (gH d br (fun W2 b1 d => lr (Wm (bS hm fun o3 k2 hm => ?_))))))
 let h1 : Value := (.pointer (some ⟨b1, 0, none⟩))
 rcases o3 with v1 | J
 ·have o := d.size
  refine jq (.inl rfl) (gU (args := [a5, (.int .i64 9223372036854775807)]) (caps := #[]) _ _ d (Cb (Pb Pz) Cn) rfl call82 (by exact kx rfl rfl) (fun hH F h R => (fI.l (jK a a0 j 9223372036854775807 _ _ ⟨hH, F, h⟩ (d1.mono (Pl.mono _) (fA.refl _)) k2))) (fun W5 u9 ai p2 d u A au => ?_))
  obtain ⟨v4, v6, m4, rfl⟩ := au
  replace d := d.perm (Tb Tn)
  refine gS (iw ?_)
  obtain rfl := sj hm
  exact gi.li ⟨_, _, _, rfl, (d.gb (Kb Sn)), u, A, (ST.fK d (gm.mem (Kb Sn))), ⟨_, _, m4, rfl⟩⟩
 have o := d.size
 refine VE (eD d (Cb (Pb Pz) Cn) call82 (fun L => (fI.r (jK a a0 j 9223372036854775807 _ _ L (d1.mono (Pl.mono _) (fA.refl _)) k2))) ?_)
 rintro W5 v9 ai p2 d u A ⟨b5, d4, rfl, c8⟩
 let h3 := (#[b5, (.bool ((J.2).gh))] : Array Value)
 obtain rfl := d4.symm
 replace d := d.perm (Tb Tn)
 let f2 := (⟨J.1, K0, zS, K0, K0, zS⟩ : eX)
 refine V (gw (v := (.agg (fa f2).toArray)) (iU rfl) (fZ br bj (uo _ bj) kr)) (VE (gH d br (fun u6 b4 d => VO (fH (.agg (fa f2).toArray) ((fa f2).toArray) d rfl rfl aD (iA f2) nb rfl (fun u7 d => ln (fq (uz hm (fun o1 E W => ∃ f0 k1, fA ai f0 ∧ Lo (keys b8) w ai f0 ∧ ST true (keys b8) w W f0 ((b4, Ol (fa f2) 35) :: ((a, Obj.cells h3 100 (0, 0)) :: ((b1, Obj.cells g9 35 (0, 0)) :: k1))) ∧ E 0 = a5 ∧ E 2 = h1 ∧ E 3 = (.pointer (some ⟨b4, 0, none⟩))) (fun o1 j5 b7 => ?_) ?_)))))))
 ·refine sg (Wf iX (VB d Mh rfl rfl bP (Wi rfl (Wm (LJ j5 (fun g0 E W => ∃ f4, ST true (keys b8) w W ai ((b4, Ol (fa f2) 35) :: ((a, Obj.cells h3 100 (0, 0)) :: ((b1, Obj.cells g9 35 (0, 0)) :: f4))) ∧ E 0 = a5 ∧ E 2 = h1 ∧ E 3 = (.pointer (some ⟨b4, 0, none⟩)) ∧ E 14 = (.bool g0)) 4 ?_ (fun g0 Z d2 => ?_))))))
  ·rintro s9 E W ⟨f4, d, d3, f6, f7, m1⟩ H
   refine ln (CI H m1 (fun i4 H => ?_) (fun i4 H => ?_))
   ·refine fi (Wh d3 (bS H fun o2 e7 H => ?_))
    rcases o2 with n2 | s0
    ·have o := d.size
     refine jq (.inl rfl) (gU (args := [a5, (.int .i64 11)]) (caps := #[]) _ _ d (Cb (Pb Pz) Cn) rfl cV (by exact kx rfl rfl) (fun hH F h R => (fI.l (fJ a J.2 b5 11 _ _ ⟨hH, F, h⟩ (c8.mono (Pl.mono _) (fA.refl _)) e7))) (fun l9 r5 g8 l1 d b2 ah ar => ?_))
     obtain ⟨t7, u5, j4, rfl⟩ := ar
     replace d := d.perm (Tb Tn)
     refine gS (iw ?_)
     obtain rfl := sj H
     replace b7 : some (Sum.inl n2) = some s := b7
     obtain rfl := sj b7
     exact gi.li ⟨_, _, _, rfl, (d.gb (Kb Sn)), (u.trans b2), (A.trans ah), (ST.fK d (gm.mem (Kb Sn))), ⟨_, _, j4, rfl⟩⟩
    have o := d.size
    refine VE (eD d (Cb (Pb Pz) Cn) cV (fun L => (fI.r (fJ a J.2 b5 11 _ _ L (c8.mono (Pl.mono _) (fA.refl _)) e7))) ?_)
    rintro l9 s8 g8 l1 d b2 ah ⟨c7, rfl⟩
    obtain rfl := c7.symm
    replace d := d.perm (Tb Tn)
    refine ln ?_
    obtain rfl := sj H
    exact ⟨_, rfl, g8, _, b2, ah, (d.fe (Sb (Pb Pz) St)), d3, f6, f7⟩
   refine kn ?_
   obtain rfl := sj H
   exact ⟨_, rfl, ai, _, (fA.refl _), Lo.refl, (d.fe St), d3, f6, f7⟩
  refine bC Z (fun G Z => ?_) (fun G Z => ?_)
  ·refine un G (un G (un G (V (fF (cB G) rfl) ?_)))
   obtain rfl := sj Z
   exact d2 _ _ ⟨_, (d.fe St), rfl, rfl, rfl, rfl⟩
  refine ug G (fh iX rfl) (ug G (fj rfl (fG d.has Mh rfl bP)) (ug G (gl rfl rfl rfl) (V (fE (cB G) rfl) ?_)))
  obtain rfl := sj Z
  exact d2 _ _ ⟨_, (d.fe St), rfl, rfl, rfl, rfl⟩
 rintro ⟨⟩ E W ⟨f0, k1, k, q, d, M, d0, I⟩ b9
 refine sg (Wh M (bS b9 fun o0 f8 b9 => ?_))
 rcases o0 with v2 | D
 ·have o := d.size
  refine jq (.inl rfl) (gU (args := [a5]) (caps := #[]) _ _ d (Cb (Pb Pz) Cn) rfl eK (by exact jY rfl) (fun hH F h R => (fI.l (iJ a J.2 b5 _ _ ⟨hH, F, h⟩ (c8.mono (Pl.mono _) k) f8))) (fun p4 v0 f1 p3 d t p av => ?_))
  obtain ⟨v5, v7, m5, rfl⟩ := av
  replace d := d.perm (Tb Tn)
  refine gS (iw ?_)
  obtain rfl := sj b9
  exact gi.li ⟨_, _, _, rfl, (d.gb (Kb Sn)), ((u.trans k).trans t), ((A.trans q).trans p), (ST.fK d (gm.mem (Kb Sn))), ⟨_, _, m5, rfl⟩⟩
 have o := d.size
 refine VE (eD d (Cb (Pb Pz) Cn) eK (fun L => (fI.r (iJ a J.2 b5 _ _ L (c8.mono (Pl.mono _) k) f8))) ?_)
 rintro p4 v3 f1 p3 d t p ⟨a1, d5, rfl, K⟩
 obtain rfl := d5.symm
 replace d := d.perm (Tb Tn)
 refine V (fh mn I) ?_
 replace d := d.perm (Nb (Pb Pz) Nz)
 refine VO (fH (.agg (fC D.1).toArray) ((fa (⟨J.1, D.1, zS, K0, K0, zS⟩ : eX)).toArray) d rfl rfl aJ (jD D.1) nb rfl (fun u8 d => ln (fq (uz b9 (fun c9 E W => ∃ Q b3 f3, fA f1 b3 ∧ Lo (keys b8) w f1 b3 ∧ ST true (keys b8) w W b3 ((b4, Ol (fa c9.1) 35) :: ((a, Ob #[Q, (.bool c9.2.2)] 100) :: ((b1, Obj.cells g9 35 (0, 0)) :: f3))) ∧ E 0 = a5 ∧ E 2 = h1 ∧ E 3 = (.pointer (some ⟨b4, 0, none⟩)) ∧ Sl (Pl (fl .u8)) 1 b3 Q c9.2.1) (fun c9 g i => ?_) ?_))))
 ·refine sg (V (fh iX I) (VB d Mh rfl rfl bP (ln (bg (Wi rfl (Wa (ln (CI g rfl (fun i0 g => ?_) (fun i0 g => ?_)))))))))
  ·refine fi (Wh M (bS g fun n4 e1 g => ?_))
   rcases n4 with m6 | d6
   ·have o := d.size
    refine jq (.inl rfl) (gU (args := [a5]) (caps := #[]) _ _ d (Cb (Pb Pz) Cn) rfl call84 (by exact jY rfl) (fun hH F h R => (fI.l (jU a D.2 a1 _ _ ⟨hH, F, h⟩ (K.mono (Pl.mono _) (fA.refl _)) e1))) (fun l3 q8 g4 k5 d a7 ad ak => ?_))
    obtain ⟨t1, t9, i6, rfl⟩ := ak
    replace d := d.perm (Tb Tn)
    refine oK (gS (iw ?_))
    obtain rfl := sj g
    replace i : some (Sum.inl m6) = some s := i
    obtain rfl := sj i
    exact gi.li ⟨_, _, _, rfl, (d.gb (Kb Sn)), (((u.trans k).trans t).trans a7), (((A.trans q).trans p).trans ad), (ST.fK d (gm.mem (Kb Sn))), ⟨_, _, i6, rfl⟩⟩
   have o := d.size
   refine VE (eD d (Cb (Pb Pz) Cn) call84 (fun L => (fI.r (jU a D.2 a1 _ _ L (K.mono (Pl.mono _) (fA.refl _)) e1))) ?_)
   rintro l3 s2 g4 k5 d a7 ad ⟨o4, c1, rfl, j7⟩
   obtain rfl := c1.symm
   replace d := d.perm (Tb Tn)
   refine V (fh nj I) ?_
   replace d := d.perm (Nb (Pb Pz) Nz)
   refine VO (fH (.string d6.1) ((fa (⟨J.1, D.1, d6.1, K0, K0, zS⟩ : eX)).toArray) d rfl rfl dr (rr d6.1) nb rfl (fun q0 d => fL (gL (fB ?_))))
   obtain rfl := sj g
   exact ⟨_, rfl, o4, g4, _, a7, ad, (d.fe St), M, d0, I, j7⟩
  refine sg (Wi rfl (Wa (ln (CI g rfl (fun i1 g => ?_) (fun i1 g => ?_)))))
  ·refine fi (Wh M (bS g fun n5 e2 g => ?_))
   rcases n5 with m7 | d7
   ·have o := d.size
    refine jq (.inl rfl) (gU (args := [a5]) (caps := #[]) _ _ d (Cb (Pb Pz) Cn) rfl eK (by exact jY rfl) (fun hH F h R => (fI.l (iJ a D.2 a1 _ _ ⟨hH, F, h⟩ (K.mono (Pl.mono _) (fA.refl _)) e2))) (fun l4 q9 g5 k6 d a8 ae al => ?_))
    obtain ⟨t2, u0, i7, rfl⟩ := al
    replace d := d.perm (Tb Tn)
    refine oK (gS (iw ?_))
    obtain rfl := sj g
    replace i : some (Sum.inl m7) = some s := i
    obtain rfl := sj i
    exact gi.li ⟨_, _, _, rfl, (d.gb (Kb Sn)), (((u.trans k).trans t).trans a8), (((A.trans q).trans p).trans ae), (ST.fK d (gm.mem (Kb Sn))), ⟨_, _, i7, rfl⟩⟩
   have o := d.size
   refine VE (eD d (Cb (Pb Pz) Cn) eK (fun L => (fI.r (iJ a D.2 a1 _ _ L (K.mono (Pl.mono _) (fA.refl _)) e2))) ?_)
   rintro l4 s3 g5 k6 d a8 ae ⟨o5, c2, rfl, j8⟩
   obtain rfl := c2.symm
   replace d := d.perm (Tb Tn)
   refine V (fh im I) ?_
   replace d := d.perm (Nb (Pb Pz) Nz)
   refine VO (fH (.agg (fC d7.1).toArray) ((fa (⟨J.1, D.1, zS, d7.1, K0, zS⟩ : eX)).toArray) d rfl rfl aJ (jD d7.1) nb rfl (fun q1 d => fL (gL (fB ?_))))
   obtain rfl := sj g
   exact ⟨_, rfl, o5, g5, _, a8, ae, (d.fe St), M, d0, I, j8⟩
  refine sg (Wi rfl (Wa (ln (CI g rfl (fun i2 g => ?_) (fun i2 g => ?_)))))
  ·refine sg (Wh M (bS g fun n7 e3 g => ?_))
   rcases n7 with m8 | a2
   ·have o := d.size
    refine jq (.inl rfl) (gU (args := [a5]) (caps := #[]) _ _ d (Cb (Pb Pz) Cn) rfl eK (by exact jY rfl) (fun hH F h R => (fI.l (iJ a D.2 a1 _ _ ⟨hH, F, h⟩ (K.mono (Pl.mono _) (fA.refl _)) e3))) (fun l5 r0 p0 k7 d U O an => ?_))
    obtain ⟨t3, u1, i8, rfl⟩ := an
    replace d := d.perm (Tb Tn)
    refine gS (oK (gS (iw ?_)))
    obtain rfl := sj g
    replace i : some (Sum.inl m8) = some s := i
    obtain rfl := sj i
    exact gi.li ⟨_, _, _, rfl, (d.gb (Kb Sn)), (((u.trans k).trans t).trans U), (((A.trans q).trans p).trans O), (ST.fK d (gm.mem (Kb Sn))), ⟨_, _, i8, rfl⟩⟩
   have o := d.size
   refine VE (eD d (Cb (Pb Pz) Cn) eK (fun L => (fI.r (iJ a D.2 a1 _ _ L (K.mono (Pl.mono _) (fA.refl _)) e3))) ?_)
   rintro l5 s4 p0 k7 d U O ⟨g2, c3, rfl, e8⟩
   obtain rfl := c3.symm
   replace d := d.perm (Tb Tn)
   refine V (fh im I) ?_
   replace d := d.perm (Nb (Pb Pz) Nz)
   refine VO (fH (.agg (fC a2.1).toArray) ((fa (⟨J.1, D.1, zS, a2.1, K0, zS⟩ : eX)).toArray) d rfl rfl aJ (jD a2.1) nb rfl (fun q2 d => ln (fi (Wh M (bS g fun n6 e4 g => ?_)))))
   rcases n6 with m9 | d8
   ·have o := d.size
    refine jq (.inl rfl) (gU (args := [a5]) (caps := #[]) _ _ d (Cb (Pb Pz) Cn) rfl call84 (by exact jY rfl) (fun hH F h R => (fI.l (jU a a2.2 g2 _ _ ⟨hH, F, h⟩ (e8.mono (Pl.mono _) (fA.refl _)) e4))) (fun l6 r1 g6 k8 d a9 af ao => ?_))
    obtain ⟨t4, u2, i9, rfl⟩ := ao
    replace d := d.perm (Tb Tn)
    refine oK (gS (iw ?_))
    obtain rfl := sj g
    replace i : some (Sum.inl m9) = some s := i
    obtain rfl := sj i
    exact gi.li ⟨_, _, _, rfl, (d.gb (Kb Sn)), ((((u.trans k).trans t).trans U).trans a9), ((((A.trans q).trans p).trans O).trans af), (ST.fK d (gm.mem (Kb Sn))), ⟨_, _, i9, rfl⟩⟩
   have o := d.size
   refine VE (eD d (Cb (Pb Pz) Cn) call84 (fun L => (fI.r (jU a a2.2 g2 _ _ L (e8.mono (Pl.mono _) (fA.refl _)) e4))) ?_)
   rintro l6 s5 g6 k8 d a9 af ⟨o6, c4, rfl, j9⟩
   obtain rfl := c4.symm
   replace d := d.perm (Tb Tn)
   refine V (fh mo I) ?_
   replace d := d.perm (Nb (Pb Pz) Nz)
   refine VO (fH (.string d8.1) ((fa (⟨J.1, D.1, zS, a2.1, K0, d8.1⟩ : eX)).toArray) d rfl rfl dr (rr d8.1) nb rfl (fun q3 d => fL (gL (fB ?_))))
   obtain rfl := sj g
   exact ⟨_, rfl, o6, g6, _, (U.trans a9), (O.trans af), (d.fe St), M, d0, I, j9⟩
  refine sg (Wi rfl (Wa (ln (CI g rfl (fun i3 g => ?_) (fun i3 g => ?_)))))
  ·refine sg (Wh M (bS g fun n9 e5 g => ?_))
   rcases n9 with n0 | a3
   ·have o := d.size
    refine jq (.inl rfl) (gU (args := [a5]) (caps := #[]) _ _ d (Cb (Pb Pz) Cn) rfl eK (by exact jY rfl) (fun hH F h R => (fI.l (iJ a D.2 a1 _ _ ⟨hH, F, h⟩ (K.mono (Pl.mono _) (fA.refl _)) e5))) (fun l7 r2 p1 k9 d Y P ap => ?_))
    obtain ⟨t5, u3, j0, rfl⟩ := ap
    replace d := d.perm (Tb Tn)
    refine gS (oK (gS (iw ?_)))
    obtain rfl := sj g
    replace i : some (Sum.inl n0) = some s := i
    obtain rfl := sj i
    exact gi.li ⟨_, _, _, rfl, (d.gb (Kb Sn)), (((u.trans k).trans t).trans Y), (((A.trans q).trans p).trans P), (ST.fK d (gm.mem (Kb Sn))), ⟨_, _, j0, rfl⟩⟩
   have o := d.size
   refine VE (eD d (Cb (Pb Pz) Cn) eK (fun L => (fI.r (iJ a D.2 a1 _ _ L (K.mono (Pl.mono _) (fA.refl _)) e5))) ?_)
   rintro l7 s6 p1 k9 d Y P ⟨g3, c5, rfl, e9⟩
   obtain rfl := c5.symm
   replace d := d.perm (Tb Tn)
   refine V (fh im I) ?_
   replace d := d.perm (Nb (Pb Pz) Nz)
   refine VO (fH (.agg (fC a3.1).toArray) ((fa (⟨J.1, D.1, zS, a3.1, K0, zS⟩ : eX)).toArray) d rfl rfl aJ (jD a3.1) nb rfl (fun q4 d => ln (fi (Wh M (bS g fun n8 e6 g => ?_)))))
   rcases n8 with n1 | d9
   ·have o := d.size
    refine jq (.inl rfl) (gU (args := [a5]) (caps := #[]) _ _ d (Cb (Pb Pz) Cn) rfl eK (by exact jY rfl) (fun hH F h R => (fI.l (iJ a a3.2 g3 _ _ ⟨hH, F, h⟩ (e9.mono (Pl.mono _) (fA.refl _)) e6))) (fun l8 r4 g7 l0 d b0 ag aq => ?_))
    obtain ⟨t6, u4, j3, rfl⟩ := aq
    replace d := d.perm (Tb Tn)
    refine oK (gS (iw ?_))
    obtain rfl := sj g
    replace i : some (Sum.inl n1) = some s := i
    obtain rfl := sj i
    exact gi.li ⟨_, _, _, rfl, (d.gb (Kb Sn)), ((((u.trans k).trans t).trans Y).trans b0), ((((A.trans q).trans p).trans P).trans ag), (ST.fK d (gm.mem (Kb Sn))), ⟨_, _, j3, rfl⟩⟩
   have o := d.size
   refine VE (eD d (Cb (Pb Pz) Cn) eK (fun L => (fI.r (iJ a a3.2 g3 _ _ L (e9.mono (Pl.mono _) (fA.refl _)) e6))) ?_)
   rintro l8 s7 g7 l0 d b0 ag ⟨o7, c6, rfl, k0⟩
   obtain rfl := c6.symm
   replace d := d.perm (Tb Tn)
   refine V (fh kF I) ?_
   replace d := d.perm (Nb (Pb Pz) Nz)
   refine VO (fH (.agg (fC d9.1).toArray) ((fa (⟨J.1, D.1, zS, a3.1, d9.1, zS⟩ : eX)).toArray) d rfl rfl aJ (jD d9.1) nb rfl (fun q5 d => fL (gL (fB ?_))))
   obtain rfl := sj g
   exact ⟨_, rfl, o7, g7, _, (Y.trans b0), (P.trans ag), (d.fe St), M, d0, I, k0⟩
  refine gA (gL (fB ?_))
  obtain rfl := sj g
  exact ⟨_, rfl, a1, f1, _, (fA.refl _), Lo.refl, (d.fe St), M, d0, I, K⟩
 rintro ⟨N, f9, g1⟩ E W ⟨Q, b3, f3, a6, aa, d, m0, b6, f5, a4⟩ B
 refine fq (sg (V (fj f5 (fy d.has Mh (fa N) rfl bl aD)) (bS B fun r8 j6 B => VE (Eg d call48 (mK N _ _  j6) (fun p7 d => V (kN rfl) (ln (CI B rfl (fun h9 B => ?_) (fun h9 B => ?_))))))))
 ·refine sg (Wh m0 (bS B fun n3 e0 B => ?_))
  rcases n3 with r7 | r9
  ·have o := d.size
   refine jq (.inl rfl) (gU (args := [a5, (.int .i64 11)]) (caps := #[]) _ _ d (Cb (Pb Pz) Cn) rfl cV (by exact kx rfl rfl) (fun hH F h R => (fI.l (fJ a (⟨f9, g1⟩ : fm) Q 11 _ _ ⟨hH, F, h⟩ (a4.mono (Pl.mono _) (fA.refl _)) e0))) (fun l2 q7 o9 k4 d T ab aj => ?_))
   obtain ⟨t0, t8, i5, rfl⟩ := aj
   replace d := d.perm (Tb Tn)
   refine gS (gS (iw ?_))
   obtain rfl := sj B
   exact gi.li ⟨_, _, _, rfl, (d.gb (Kb Sn)), ((((u.trans k).trans t).trans a6).trans T), ((((A.trans q).trans p).trans aa).trans ab), (ST.fK d (gm.mem (Kb Sn))), ⟨_, _, i5, rfl⟩⟩
  have o := d.size
  refine VE (eD d (Cb (Pb Pz) Cn) cV (fun L => (fI.r (fJ a (⟨f9, g1⟩ : fm) Q 11 _ _ L (a4.mono (Pl.mono _) (fA.refl _)) e0))) ?_)
  rintro l2 s1 o9 k4 d T ab ⟨c0, rfl⟩
  obtain rfl := c0.symm
  replace d := d.perm (Tb Tn)
  refine ln ?_
  replace d := d.fe (Kb (Db St))
  refine sg (V (gw (v := h2) mI (fZ br bj (uo _ bj) kr)) ?_)
  replace d := d.perm (Nb (Pb Pz) Nz)
  refine VO (fH h2 ((fa K6).toArray) d b6 rfl aD (iA K6) nb rfl (fun p8 d => lt (fP (kV ?_))))
  obtain rfl := sj B
  exact iW (v := h2) rfl b6 (fy d.has Mh (fa K6) rfl bl aD) (gi.ri ⟨_, _, _, rfl, (d.gb (Db (Kb Sn))), ((((u.trans k).trans t).trans a6).trans T), ((((A.trans q).trans p).trans aa).trans ab), (ST.fK d (gm.mem (Db (Kb Sn)))), Q, rfl, rfl, (a4.mono (Pl.mono _) T)⟩)
 refine kg (V (fj f5 (fy d.has Mh (fa N) rfl bl aD)) ?_)
 replace d := d.perm (Nb (Pb (Pb Pz)) Nz)
 refine VO (fH (.agg (fa N).toArray) ((fa N).toArray) d b6 rfl aD (iA N) nb rfl (fun p9 d => ln ?_))
 replace d := d.fe (Kb (Db St))
 refine gd (kV ?_)
 obtain rfl := sj B
 exact iW (v := (.agg (fa N).toArray)) rfl b6 (fy d.has Mh (fa N) rfl bl aD) (gi.ri ⟨_, _, _, rfl, (d.gb (Db (Kb Sn))), (((u.trans k).trans t).trans a6), (((A.trans q).trans p).trans aa), (ST.fK d (gm.mem (Db (Kb Sn)))), Q, rfl, rfl, a4⟩)
theorem oe (g : Nat) (Q : fm) (i : Value) (s : (Int ⊕ (ft × fm))) (w : World) {μ0 : fz} (h0 : ju μ0 ((g, Ob #[i, (.bool Q.gh)] 100) :: []) w) (H : Sl (Pl (fl .u8)) 1 μ0 i Q.b) (hm : lL Q = some s) :
  fI true pg0 26 [(.pointer (some ⟨g, 0, none⟩))] w μ0 ((g, Ob #[i, (.bool Q.gh)] 100) :: []) s (fun r v L1 μ1 => ∃ y1 y3, v = (.agg #[(.int .i64 (((r.1).eX).Kind)), (.string ((((r.1).eX).Head).eY)), (.string ((((r.1).eX).Head).eZ)), (.string (((r.1).eX).fD)), (.string ((((r.1).eX).B).eY)), (.string ((((r.1).eX).B).eZ)), (.string ((((r.1).eX).C).eY)), (.string ((((r.1).eX).C).eZ)), (.string (((r.1).eX).fw)), y1]) ∧ L1 = ((g, Ob #[y3, (.bool ((r.2).gh))] 100) :: []) ∧ Sl (Pl (fl .u8)) 1 μ1 y1 ((r.1).Tag) ∧ Sl (Pl (fl .u8)) 1 μ1 y3 ((r.2).b)) (fun x c L1 μ1 => ∃ y z, c = [{ v := lW 125 g x, recovered := false }] ∧ L1 = ((g, Ob #[y, z] 100) :: [])) := by
 let a2 : Value := (.pointer (some ⟨g, 0, none⟩))
 have d := ST.lq (dd := true) h0
 refine iN (n := 18) func26 rfl rfl nb (sg (VE (gH d bA (fun W2 b1 d => lr (Wm (bS hm fun c1 Z hm => ?_))))))
 rcases c1 with d7 | a
 ·have A := d.size
  refine jq (.inl rfl) (gU (args := [a2]) (caps := #[]) _ _ d (Cb (Pb Pz) Cn) rfl call52 (by exact jY rfl) (fun hH F q W => (fI.l (rA g Q i _ _ ⟨hH, F, q⟩ (H.mono (Pl.mono _) (fA.refl _)) Z))) (fun W5 d4 aa b3 d t o L => ?_))
  obtain ⟨e3, e7, a7, rfl⟩ := L
  replace d := d.perm (Tb Tn)
  refine gS (iw ?_)
  obtain rfl := sj hm
  exact gi.li ⟨_, _, _, rfl, (d.gb (Kb Sn)), t, o, (ST.fK d (gm.mem (Kb Sn))), ⟨_, _, a7, rfl⟩⟩
 have A := d.size
 refine VE (eD d (Cb (Pb Pz) Cn) call52 (fun R => (fI.r (rA g Q i _ _ R (H.mono (Pl.mono _) (fA.refl _)) Z))) ?_)
 rintro W5 v9 aa b3 d t o ⟨a1, I, rfl, Y⟩
 obtain rfl := I.symm
 replace d := d.perm (Tb Tn)
 refine VE (gH d br (fun c9 d3 d => VO (fH (.agg (fa a.1).toArray) ((fa a.1).toArray) d rfl rfl aD (iA a.1) nb rfl (fun d0 d => lr (Wm (bS hm fun c0 T hm => ?_))))))
 rcases c0 with d8 | k
 ·have A := d.size
  refine jq (.inl rfl) (gU (args := [a2, (.int .i64 8)]) (caps := #[]) _ _ d (Cb (Pb Pz) Cn) rfl call53 (by exact kx rfl rfl) (fun hH F q W => (fI.l (kq g a.2 a1 8 _ _ ⟨hH, F, q⟩ (Y.mono (Pl.mono _) (fA.refl _)) T))) (fun b6 d5 c4 b4 d j h O => ?_))
  obtain ⟨e5, e8, a8, rfl⟩ := O
  replace d := d.perm (Tb Tn)
  refine gS (iw ?_)
  obtain rfl := sj hm
  exact gi.li ⟨_, _, _, rfl, (d.gb (Kb Sn)), (t.trans j), (o.trans h), (ST.fK d (gm.mem (Kb Sn))), ⟨_, _, a8, rfl⟩⟩
 have A := d.size
 refine VE (eD d (Cb (Pb Pz) Cn) call53 (fun R => (fI.r (kq g a.2 a1 8 _ _ R (Y.mono (Pl.mono _) (fA.refl _)) T))) ?_)
 rintro b6 e1 c4 b4 d j h ⟨e4, N, J, rfl, M, G⟩
 obtain rfl := J.symm
 replace d := d.perm (Tb Tn)
 refine Wa (lS (Wm (V (iB az rfl M) (Wi rfl (ln (CI hm rfl (fun a6 hm => ?_) (fun a6 hm => ?_)))))))
 ·refine sg (Wm (bS hm fun b9 U hm => ?_))
  rcases b9 with d9 | e0
  ·have A := d.size
   refine jq (.inl rfl) (gU (args := [a2, (.int .i64 11)]) (caps := #[]) _ _ d (Cb Pz Cn) rfl cV (by exact kx rfl rfl) (fun hH F q W => (fI.l (fJ g k.2 N 11 _ _ ⟨hH, F, q⟩ (G.mono (Pl.mono _) (fA.refl _)) U))) (fun b7 d6 c5 b5 d u p P => ?_))
   obtain ⟨e6, e9, a9, rfl⟩ := P
   replace d := d.perm (Tb Tn)
   refine gS (gS (iw ?_))
   obtain rfl := sj hm
   exact gi.li ⟨_, _, _, rfl, (d.gb (Kb Sn)), ((t.trans j).trans u), ((o.trans h).trans p), (ST.fK d (gm.mem (Kb Sn))), ⟨_, _, a9, rfl⟩⟩
  have A := d.size
  refine VE (eD d (Cb Pz Cn) cV (fun R => (fI.r (fJ g k.2 N 11 _ _ R (G.mono (Pl.mono _) (fA.refl _)) U))) ?_)
  rintro b7 e2 c5 b5 d u p ⟨K, rfl⟩
  obtain rfl := K.symm
  replace d := d.perm (Tb Tn)
  refine ln ?_
  replace d := d.fe (Kb (Db St))
  refine sg (V (gw (v := (.agg C2.toArray)) mI (fZ bA bu (sD _ bu) kr)) ?_)
  replace d := d.perm (Nb (Pb Pz) Nz)
  refine VO (fH (.agg C2.toArray) (C2.toArray) d rfl rfl bf oc nb rfl (fun d1 d => lt (fP (kV ?_))))
  obtain rfl := sj hm
  exact iW (v := (.agg C2.toArray)) rfl rfl (fy d.has Mh C2 rfl cn bf) (gi.ri ⟨_, _, _, rfl, (d.gb (Db (Kb Sn))), ((t.trans j).trans u), ((o.trans h).trans p), (ST.fK d (gm.mem (Db (Kb Sn)))), (.slice none 0 0), N, rfl, rfl, (Sl.nil _ _ _), (G.mono (Pl.mono _) u)⟩)
 refine kg (VA d (Mt Mh) (fa a.1) bl aD (Wm ?_))
 obtain ⟨B, D, rfl⟩ := M.form
 let a0 := (C1 a.1.Kind a.1.Head.eY a.1.Head.eZ a.1.fD a.1.B.eY a.1.B.eZ a.1.C.eY a.1.C.eZ a.1.fw B k.1.length D)
 refine V (gw (v := (.agg a0.toArray)) (lf rfl rfl) (fZ bA bu (sD _ bu) kr)) ?_
 replace d := d.perm (Nb (Pb (Pb Pz)) Nz)
 refine VO (fH (.agg a0.toArray) (a0.toArray) d rfl rfl bf oc nb rfl (fun d2 d => ln ?_))
 replace d := d.fe (Kb (Kb (Db St)))
 refine gd (kV ?_)
 obtain rfl := sj hm
 exact iW (v := (.agg a0.toArray)) rfl rfl (fy d.has Mh a0 rfl cn bf) (gi.ri ⟨_, _, _, rfl, (d.gb (Db (Kb Sn))), (t.trans j), (o.trans h), (ST.fK d (gm.mem (Db (Kb Sn)))), (.slice B k.1.length D), N, rfl, rfl, M, G⟩)
theorem rz (i : Nat) (G : fm) (k : Value) (t : Nat) (a : ft) (j : Value) (s : (Int ⊕ (fm × ft))) (w : World) {K : fz} (W : ju K ((i, Ob #[k, (.bool G.gh)] 100) :: ((t, Ob #[(.int .i64 a.eX.Kind), (.string a.eX.Head.eY), (.string a.eX.Head.eZ), (.string a.eX.fD), (.string a.eX.B.eY), (.string a.eX.B.eZ), (.string a.eX.C.eY), (.string a.eX.C.eZ), (.string a.eX.fw), j] 38) :: [])) w) (u : Sl (Pl (fl .u8)) 1 K k G.b) (Q : Sl (Pl (fl .u8)) 1 K j a.Tag) (hm : oQ G a = some s) :
  fI true pg0 29 [(.pointer (some ⟨i, 0, none⟩)), (.pointer (some ⟨t, 0, none⟩))] w K ((i, Ob #[k, (.bool G.gh)] 100) :: ((t, Ob #[(.int .i64 a.eX.Kind), (.string a.eX.Head.eY), (.string a.eX.Head.eZ), (.string a.eX.fD), (.string a.eX.B.eY), (.string a.eX.B.eZ), (.string a.eX.C.eY), (.string a.eX.C.eZ), (.string a.eX.fw), j] 38) :: [])) s (fun r v N Y => ∃ O P, v = (.tuple #[]) ∧ N = ((i, Ob #[O, (.bool ((r.1).gh))] 100) :: ((t, Ob #[(.int .i64 (((r.2).eX).Kind)), (.string ((((r.2).eX).Head).eY)), (.string ((((r.2).eX).Head).eZ)), (.string (((r.2).eX).fD)), (.string ((((r.2).eX).B).eY)), (.string ((((r.2).eX).B).eZ)), (.string ((((r.2).eX).C).eY)), (.string ((((r.2).eX).C).eZ)), (.string (((r.2).eX).fw)), P] 38) :: [])) ∧ Sl (Pl (fl .u8)) 1 Y O ((r.1).b) ∧ Sl (Pl (fl .u8)) 1 Y P ((r.2).Tag)) (fun x c N Y => ∃ y z, c = [{ v := lW 125 i x, recovered := false }] ∧ N = ((i, Ob #[y, z] 100) :: ((t, Ob #[(.int .i64 a.eX.Kind), (.string a.eX.Head.eY), (.string a.eX.Head.eZ), (.string a.eX.fD), (.string a.eX.B.eY), (.string a.eX.B.eZ), (.string a.eX.C.eY), (.string a.eX.C.eZ), (.string a.eX.fw), j] 38) :: []))) := by
 have d := ST.lq (dd := true) W
 refine iN (n := 5) func29 rfl rfl nb (fi (Wm (bS hm fun R M hm => ?_)))
 rcases R with b1 | g
 ·have F := d.size
  refine jq (.inl rfl) (gU (args := [(.pointer (some ⟨i, 0, none⟩))]) (caps := #[]) _ _ d (Cb Pz Cn) rfl call26 (by exact jY rfl) (fun hH q o A => (fI.l (oe i G k _ _ ⟨hH, q, o⟩ (u.mono (Pl.mono _) (fA.refl _)) M))) (fun W3 b0 L L9 d B h p => ?_))
  obtain ⟨b3, b4, T, rfl⟩ := p
  replace d := d.perm (Tb Tn)
  refine iw ?_
  obtain rfl := sj hm
  exact gi.li ⟨_, _, _, rfl, (d.gb (Kb (Kb Sn))), B, h, (ST.fK d (gm.mem (Kb (Kb Sn)))), ⟨_, _, T, rfl⟩⟩
 have F := d.size
 refine VE (vE d (Cb Pz Cn) call26 (fun hH q o A => (fI.r (oe i G k _ _ ⟨hH, q, o⟩ (u.mono (Pl.mono _) (fA.refl _)) M))) (fun W3 v7 L L9 d B h Z => ?_))
 obtain ⟨b2, a3, D, rfl, J, U⟩ := Z
 replace D := D.symm; subst D
 replace d := d.perm (Tb Tn)
 obtain ⟨H, I, rfl⟩ := J.form
 let a0 : Value := (.slice H ((g.1).Tag).length I)
 replace d := d.perm (Nb (Pb Pz) Nz)
 let a2 := (((g.1).eX).Head)
 refine VO (fH (.agg #[(.int .i64 (((g.1).eX).Kind)), (.string (a2.eY)), (.string (a2.eZ)), (.string (((g.1).eX).fD)), (.string ((((g.1).eX).B).eY)), (.string ((((g.1).eX).B).eZ)), (.string ((((g.1).eX).C).eY)), (.string ((((g.1).eX).C).eZ)), (.string (((g.1).eX).fw)), a0]) (#[(.int .i64 (((g.1).eX).Kind)), (.string (a2.eY)), (.string (a2.eZ)), (.string (((g.1).eX).fD)), (.string ((((g.1).eX).B).eY)), (.string ((((g.1).eX).B).eZ)), (.string ((((g.1).eX).C).eY)), (.string ((((g.1).eX).C).eZ)), (.string (((g.1).eX).fw)), a0]) d rfl rfl bf oc nb rfl (fun a9 d => fL (um (wm ?_))))
 obtain rfl := sj hm
 exact we rfl (gi.ri ⟨_, _, _, rfl, (d.gb (Sb (Pb Pz) (Kb Sn))), B, h, (ST.fK d (gm.mem (Sb (Pb Pz) (Kb Sn)))), a3, a0, rfl, rfl, U, J⟩)
theorem pB (u : Value) (H : List Int) (i : Nat) (a : ft) (g : Value) (r : (Int × ft)) (w : World) {G : fz} (D : ju G ((i, Ob #[(.int .i64 a.eX.Kind), (.string a.eX.Head.eY), (.string a.eX.Head.eZ), (.string a.eX.fD), (.string a.eX.B.eY), (.string a.eX.B.eZ), (.string a.eX.C.eY), (.string a.eX.C.eZ), (.string a.eX.fw), g] 38) :: []) w) (I : Sl (Pl (fl .u8)) 1 G u H) (j : Sl (Pl (fl .u8)) 1 G g a.Tag) (hm : kT H a = some r) :
  gV true pg0 24 [u, (.func (.func 29) #[] #[(.pointer (some ⟨i, 0, none⟩))])] w G ((i, Ob #[(.int .i64 a.eX.Kind), (.string a.eX.Head.eY), (.string a.eX.Head.eZ), (.string a.eX.fD), (.string a.eX.B.eY), (.string a.eX.B.eZ), (.string a.eX.C.eY), (.string a.eX.C.eZ), (.string a.eX.fw), g] 38) :: []) (fun v t B => ∃ k, v = (.int .i64 (r.1)) ∧ t = ((i, Ob #[(.int .i64 (((r.2).eX).Kind)), (.string ((((r.2).eX).Head).eY)), (.string ((((r.2).eX).Head).eZ)), (.string (((r.2).eX).fD)), (.string ((((r.2).eX).B).eY)), (.string ((((r.2).eX).B).eZ)), (.string ((((r.2).eX).C).eY)), (.string ((((r.2).eX).C).eZ)), (.string (((r.2).eX).fw)), k] 38) :: []) ∧ Sl (Pl (fl .u8)) 1 B k ((r.2).Tag)) := by
 refine bS hm fun l h hm => bS hm fun s n hm => ?_
 obtain rfl := sj hm
 refine gV.mono (sn 29 #[(.pointer (some ⟨i, 0, none⟩))] u H l s (fun r => (r.1).b) w D I h (fun r t B => ∃ k, t = ((i, Ob #[(.int .i64 (((r.2).eX).Kind)), (.string ((((r.2).eX).Head).eY)), (.string ((((r.2).eX).Head).eZ)), (.string (((r.2).eX).fD)), (.string ((((r.2).eX).B).eY)), (.string ((((r.2).eX).B).eZ)), (.string ((((r.2).eX).C).eY)), (.string ((((r.2).eX).C).eZ)), (.string (((r.2).eX).fw)), k] 38) :: []) ∧ Sl (Pl (fl .u8)) 1 B k ((r.2).Tag)) (fun x t B => t = ((i, Ob #[(.int .i64 a.eX.Kind), (.string a.eX.Head.eY), (.string a.eX.Head.eZ), (.string a.eX.fD), (.string a.eX.B.eY), (.string a.eX.B.eZ), (.string a.eX.C.eY), (.string a.eX.C.eZ), (.string a.eX.fw), g] 38) :: [])) call29 (fun M μ' L o K hle q => fI.mono (rz L (⟨l, false⟩ : fm) o i a g s M K q (j.mono (Pl.mono _) hle) n) ?_ ?_)) ?_
 ·rintro r v t B ⟨P, k, O, d, J, D⟩; exact ⟨_, _, _, d, J, k, rfl, D⟩
 ·rintro x c t B ⟨y, z, A, d⟩; exact ⟨y, z, _, A, d, rfl⟩
 rintro v t B F ⟨rfl, p⟩
 cases s with
 | inl x => exact ⟨g, rfl, p, (j.mono (Pl.mono _) F)⟩
 | inr r => obtain ⟨k, d, D⟩ := p; exact ⟨k, rfl, d, D⟩
theorem uS (a : Value) (j : List Int) (c : Value) (k : List Int) (r : Bool) (w : World) (g : Sl (Pl (fl .u8)) 1 (hp w) a j) (i : Sl (Pl (fl .u8)) 1 (hp w) c k) (hm : nu j k = some r) :
  fV true pg0 60 [a, c] w (.bool r) := by
 refine cG 10 func60 rfl (fun d => sg (Wa (lr (Wm (V (lH az bd aG rfl (g.mono (Pl.mono _) d.fO)) (Wm (V (lH az bd aG rfl (i.mono (Pl.mono _) d.fO)) (V (lZ rfl rfl rfl) (Wa (fL ?_))))))))))
 exact fB (gd (rQ hm d))
theorem xZ (g : Value) (y : List Int) (i : Value) (D : List Int) (j : Value) (G : List Int) (r : Bool) (w : World) (u : Sl (Pl (fl .u8)) 1 (hp w) g y) (I : Sl (Pl (fl .u8)) 1 (hp w) i D) (J : Sl (Pl (fl .u8)) 1 (hp w) j G) (hm : mY y D G = some r) :
  fV true pg0 35 [g, i, j] w (.bool r) := by
 refine cG 16 func35 rfl (fun d => sg (Wa (lr (Wm (bS hm fun v T hm => VE (Eg d call59 (sr g y _ _ (u.mono (Pl.mono _) d.fO) T) (fun W3 d => Wm (LJ hm (fun B E W => ∃ x z, fA (hp w) x ∧ ST true ga w W x z ∧ E 6 = (.bool false) ∧ E 15 = (.bool B)) 6 ?_ (fun B c t => ?_)))))))))
 ·rintro a9 E W ⟨x, z, a3, d, q, Q⟩ K
  exact Wg Q (lt (rQ K d))
 refine bC c (fun a c => ?_) (fun a c => ?_)
 ·refine ug a (fp rfl) (ug a (fp rfl) (bS c fun U M c => mD a (nX d call40 (sY g y i D _ _ (u.mono (Pl.mono _) d.fO) (I.mono (Pl.mono _) d.fO) M) (fun a5 Y Z a4 d k h H => ug a (fp rfl) (bS c fun s N c => mD a (Eg d call60 (uS Y U j G _ _ (H.sl (fun _ => rfl) (fun b o n => d.at_ (Ml n))) (J.mono (Pl.mono _) (k.trans d.fO)) N) (fun p d => V (fF (cB a) rfl) ?_)))))))
  obtain rfl := sj c
  exact t _ _ ⟨Z, _, k, (d.fe (Dr St)), rfl, rfl⟩
 refine un a (un a (un a (un a (un a (V (fE (cB a) rfl) ?_)))))
 obtain rfl := sj c
 exact t _ _ ⟨(hp w), _, (fA.refl _), (d.fe St), rfl, rfl⟩
theorem lM (y : Value) (N : Option gf) (c : ft) (t : Value) (r : Int) (w : World) (Z : lz gp (hp w) y N) (k : Sl (Pl (fl .u8)) 1 (hp w) t c.Tag) (hm : gF N c = some r) :
  fV true pg0 9 [y, (.agg #[(.int .i64 c.eX.Kind), (.string c.eX.Head.eY), (.string c.eX.Head.eZ), (.string c.eX.fD), (.string c.eX.B.eY), (.string c.eX.B.eZ), (.string c.eX.C.eY), (.string c.eX.C.eZ), (.string c.eX.fw), t])] w (.int .i64 r) := by
 refine cG 27 func9 rfl (fun h => sg ?_)
 obtain ⟨M, Q, rfl⟩ := k.form
 refine VE (hZ h rfl (fun W4 L h => Wa (lr (Wm (Wf nn (VA h Mh (fa c.eX) bl aD (bS hm fun v F hm => ?_)))))))
 refine VE (eD h (cD _) call34 (fun O => (oL y N c.eX _ _ O (Z.mono jm (fA.refl _)) F)) ?_ (L0 := []))
 rintro _ c0 n b9 h a2 s ⟨a9, x, rfl, a3⟩
 obtain rfl := x.symm
 refine Wm (Wx rfl (Wx rfl (Wa (Wa (ln (fq (fq ?_)))))))
 replace h := h.drew
 have d := h.has.fe (Kb Sn)
 refine gX d gE (X 0 rfl d (fp rfl) (X 1 rfl d (gl rfl rfl rfl) (X 2 rfl d (fp rfl) (PJ hm (fun G E W => ∃ z B, fA n z ∧ ST true ga w W z ((L, Ol (C1 c.eX.Kind c.eX.Head.eY c.eX.Head.eZ c.eX.fD c.eX.B.eY c.eX.B.eZ c.eX.C.eY c.eX.C.eZ c.eX.fw M c.Tag.length Q) 38) :: B) ∧ E 6 = (.int .i64 v.2) ∧ E 25 = (.bool G)) (bm 12 4095) 0 ?_ (fun G g u => ?_)))))
 ·rintro b7 E W ⟨z, B, D, h, T, U⟩ j
  refine iH kr (fB ?_)
  replace h := h.fe (Db St)
  refine CI j U (fun I j => ?_) (fun I j => ?_)
  ·refine sg (Wa (lt (fP ?_)))
   obtain rfl := sj j
   exact rP h
  exact kg (Wh T (Wa (lt (rQ j h))))
 refine bC g (fun a g => ?_) (fun a g => ?_)
 ·refine Xg 3 rfl rfl (cB a) d (fp rfl) (Xg 4 rfl rfl (cB a) d (fh nn rfl) (yA 5 rfl rfl (cB a) d (fun _ p => fj rfl (fy p Mh (fa c.eX) rfl bl aD)) (Xg 7 rfl rfl (cB a) d (fh nY rfl) (yA 8 rfl rfl (cB a) d (fun _ p => fj rfl (fG p Mh rfl bW)) (bS g fun a4 J g => wX 6 rfl rfl (cB a) (nX h call36 (mO c.eX _ _  J) (fun Y a5 A R h i q H => ?_)))))))
  have d := h.has.nB i (Dr (Kb Sn))
  refine ⟨d, (bS g fun b6 K g => wX 9 rfl rfl (cB a) (Eg h call35 (xZ a9 v.1 a5 a4 (.slice M c.Tag.length Q) c.Tag _ _ (a3.mono (Pl.mono _) (i.trans h.fO)) (H.sl (fun _ => rfl) (fun b o P => h.at_ (Ml P))) (k.mono (Pl.mono _) ((a2.trans i).trans h.fO)) K) (fun b4 h => ?_)))⟩
  have d := h.has.nB i (Dr (Kb Sn))
  refine ⟨d, (Xg 10 rfl rfl (cB a) d (kN rfl) (X 11 rfl d (fF (cB a) rfl) ?_))⟩
  obtain rfl := sj g
  refine nw kr (u _ _ ⟨A, _, i, (h.fe (Dr St)), rfl, rfl⟩)
 refine Xn 3 rfl rfl (cB a) d (Xn 4 rfl rfl (cB a) d (Xn 5 rfl rfl (cB a) d (Xn 6 rfl rfl (cB a) d (Xn 7 rfl rfl (cB a) d (Xn 8 rfl rfl (cB a) d (Xn 9 rfl rfl (cB a) d (Xn 10 rfl rfl (cB a) d (X 11 rfl d (fE (cB a) rfl) ?_))))))))
 obtain rfl := sj g
 refine nw kr (u _ _ ⟨n, _, (fA.refl _), (h.fe St), rfl, rfl⟩)
theorem lP (a : Value) (g : List (ByteArray × (List Int))) (r : Unit) (w : World) (c : jV Value.string (fN 5 (fl .u8) 1) (hp w) a g) (hm : ib g = some r) :
  gq true pg0 38 [a] w [] (fun v k W' => ∃ i, v = (.func (.func 66) #[] #[(.pointer (some ⟨i, 0, none⟩))]) ∧ k = ((i, Ob #[a] 74) :: [])) := by
 refine tK 4 func38 rfl (fun d => sg ?_)
 obtain ⟨t, rfl⟩ := c.form
 refine VE (hZ d rfl (fun u j d => Wa (lr (V (qb (by exact jY rfl) rfl) (Wa (lt ?_))))))
 obtain rfl := sj hm
 exact fR (v := (.func (.func 66) #[] #[(.pointer (some ⟨j, 0, none⟩))])) rfl rfl ⟨_, _, rfl, (d.CH (Kb Sn)), j, rfl, rfl⟩
theorem uQ {β : Type} {vf : β → Value} {l : List (ByteArray × β)} {b : Nat} {a : Value} {W : World} {r : List ByteArray} (c : W.heap[b]? = some (.cells #[a] 74 (0, 0))) (hm : my Value.string vf (hp W) a l) (hk : oF l = some r) : gY false pg0 37 [.func (.func 66) #[] #[.pointer (some ⟨b, 0, none⟩)]] W 9 pN 1 r := wA (P := pg0) A6 Bi BP rfl aG call66 call65 c hm hk
theorem ub {γ : Type} {Q : Value → γ → List (Nat × Obj) → Prop} {l : List (ByteArray × γ)} {b : Nat} {a : Value} {W : World} {r : List ByteArray} (g : W.heap[b]? = some (.cells #[a] 74 (0, 0))) (hm : jV Value.string Q (hp W) a l) (hk : oF l = some r) : gY false pg0 37 [.func (.func 66) #[] #[.pointer (some ⟨b, 0, none⟩)]] W 9 pN 1 r := by
 obtain ⟨h, c, d⟩ := hm.Cq
 exact uQ g d ((yB c).trans hk)
theorem qg (i : Value) (D : Option gf) (r : List ByteArray) (w : World) (g : lz gp (hp w) i D) (hm : kd D = some r) :
  gY false pg0 10 [i] w 9 pN 1 r := by
 refine tK 11 func10 rfl (fun d => sg (Wa (lS (Wm (V (tk underlying26 g rfl rfl) (ln (CI hm rfl (fun G hm => ?_) (fun G hm => ?_))))))))
 ·refine sg (Wa (lt (fP ?_)))
  obtain rfl := sj hm
  exact fR (v := (.slice none 0 0)) rfl rfl ⟨_, [], rfl, d.kB (fun p h => by cases h) (by simp), fN.nil _ _ _⟩
 refine kg (Wm (bS hm fun N J hm => VQ (qW gp.out g J rfl) (fun F ⟨_, ⟨z, rfl, k⟩, H⟩ => VQ (mP [z] tz rfl H rfl) (fun L I => V (fj rfl (kh d.has (y := z) I isAgg74)) (bS hm fun Z u hm => ?_)))))
 refine VE (yR d (cD _) call38 (fun _ _ _ _ => gq.gW (lP z N.m _ _ (k.mono d.fO) u)) (fun T a2 a3 Q d j q n t => ?_) (L0 := []))
 obtain ⟨Y, a, rfl⟩ := t
 replace a := a.symm; subst a
 replace d := d.perm (Tb Tn)
 refine bS hm fun A x hm => VE (nX d call37 (ub (d.has.2 _ _ Mh) (k.mono (fun b o h => d.has.1 b o (j b o h))) x) (fun U K a4 B d M s c => Wa (ln ?_)))
 replace d := d.fe (Kr (Db St))
 refine gd ?_
 obtain rfl := sj hm
 exact fR (v := K) rfl rfl ⟨_, B, rfl, d.kB (fun p h => (Ml h)) c.nd, c⟩
theorem rh (g : Value) (i r : List eX) (w : World) (a : Sl (Pl fa) 9 (hp w) g i) (hm : js i = some r) :
  gY true pg0 68 [g] w 35 fa 9 r := by
 unfold js at hm
 refine tK 8 func68 rfl (fun d => sg (Wa (lS (Wm ?_))))
 obtain ⟨y, B, rfl⟩ := a.form
 refine V (uw aP rfl rfl) (ln ?_)
 rcases y with _ | z
 ·have u := a.isNil
  replace hm : some [] = some r := by rw [u] at hm; simpa [lV, maxLen] using hm
  refine nM (rfl) (sg (Wa (lt (fP ?_))))
  obtain rfl := sj hm
  exact fR (v := (.slice none 0 0)) rfl rfl ⟨_, [], rfl, d.kB (fun p h => by cases h) (by simp), fN.nil _ _ _⟩
 ·refine kz (rfl) (kg (VE (gk (cs := #[]) d mI (mr [] aP aD br dc rfl (by simp) rfl rfl) (fun G k d => Wm (bS hm fun H t hm => VE (nA (enc := fa) (v := (.slice (some ⟨k, 0, none⟩) 0 0)) (vs := (.slice (some z) i.length B)) (R := [(k, Ob #[] 35)]) d iC dc iA aP oT.1 oT.2.1 rfl oT.2.2.1 oT.2.2.2 rfl rfl (fN.lit (l := []) (enc := fa) rfl dc rfl rfl) (a.mono (Pl.mono _) d.fO) t (fun D x j d c => Wa (lt ?_))))))))
  obtain rfl := sj hm
  exact fR (v := x) rfl rfl ⟨_, j, rfl, d.kB (fun p h => (Ml h)) c.nd, c⟩
theorem pC (g : Value) (t : List eX) (j : Value) (B : eX → Option Bool) (r : Int) (w : World) (c : Sl (Pl fa) 9 (hp w) g t) (D : rl pg0 j (hp w) (fun (x : eX) => [(.agg (fa x).toArray)]) (fun (r : Bool) => (.bool r)) B) (hm : kQ t B = some r) :
  fV false pg0 93 [g, j] w (.int .i64 r) := by
 refine cG 19 func93 rfl (fun d => sg (Wa (lS (Wm (V (iB aP rfl c) (Wm (ln (kI (fun i E W => ∃ k, (E 8 = .int .i64 (i : Nat) ∧ E 7 = .int .i64 (t.length : Nat)) ∧ ST false ga w W (hp w) k ∧ E 0 = g ∧ E 1 = j ∧ iq B (t.drop i) i = some r) t.length c.len ⟨_, ⟨rfl, rfl⟩, (d.fe St), rfl, rfl, hm⟩ dc dc dc (fun _ _ _ h => by obtain ⟨_, o, _⟩ := h; exact o) ?_ ?_))))))))
 ·rintro Q E W H ⟨k, ⟨n, p⟩, d, u, y, a⟩
  obtain ⟨z, T, M, K, N⟩ := jS H
  rw [M] at a
  refine bg (Wh n (Wa (lr (Wh y (Wh u (Wm (VQ (ox (enc := fa) (i := (Q : Int)) (x0 := z) aP aD rfl rfl c (bB _) K) (fun Y I => V (fj rfl (oC d.has I bl aD)) (bS a fun Z J a => ?_)))))))))
  refine VE (Bw z d D (fA.refl _) rfl (jY rfl) J (fun U d => ln (CI a rfl (fun G a => ?_) (fun G a => ?_))))
  ·refine sg (Wm (Wa (lt (jr (fP (jr (fP ?_)))))))
   obtain rfl := sj a
   exact rP d
  exact gA (gL (fB ⟨n, _, ⟨rfl, p⟩, (d.fe St), u, y, (by rw [N]; exact a)⟩))
 rintro E W ⟨k, ⟨n, p⟩, d, u, y, a⟩
 rw [bE] at a
 exact fB (sg (Wa (lt (rQ a d))))
theorem pz (j : Value) (a0 : List eX) (t : LO) (H : Value) (f1 : eX → Option Bool) (r : List eX) (w : World) {μ0 : fz} (h0 : ju μ0 (t ++ []) w) (T : fN 35 fa 9 j a0 t) (a4 : rl pg0 H μ0 (fun (x : eX) => [(.agg (fa x).toArray)]) (fun (r : Bool) => (.bool r)) f1) (hm : je a0 f1 = some r) :
  gq false pg0 67 [j, H] w (t ++ []) (fun v L1 W' => ∃ s S2, v = s ∧ L1 = (S2 ++ []) ∧ fN 35 fa 9 s r S2) := by
 refine qV h0 42 func67 rfl (fun d => sg (Wa (lr (Wm (Wm (bS hm fun q d3 hm => VE (Eg d call93 (pC j a0 H f1 _ _ (T.sl iC (fun b o h => d.at_ (Ml h))) (a4.mono d.fO) d3) (fun W3 d => Wa (ln ?_)))))))))
 refine fq (sg (Wm (Wi rfl (ln (CI hm rfl (fun d2 hm => ?_) (fun d2 hm => ?_))))))
 ·refine sg (Wm (Wa (lt (fP ?_))))
  obtain rfl := sj hm
  exact fR (v := j) rfl rfl ⟨_, _, rfl, (d.gb (Kr Sn)), j, t, rfl, rfl, T⟩
 refine kS (Wm (Wi rfl (Wa (ln (jd (nc (fun m E W => ∃ U I B D a2, ST false (keys (t ++ [])) w W μ0 (I ++ a2) ∧ E 0 = j ∧ E 1 = H ∧ E 5 = (.int .i64 B) ∧ E 6 = (.int .i64 D) ∧ fN 35 fa 9 j U I ∧ gG f1 m U B D = some r) iv ⟨a0, t, q, (wi0 .i64 (q + 1)), _, (d.fe St), rfl, rfl, rfl, rfl, T, hm⟩ ?_))))))
 rintro m E W ⟨U, I, B, D, a2, d, y, Q, G, K, g, a⟩
 cases m with
 | zero => rw [gG] at a; cases a
 | succ c8 =>
  refine fq (sg (Wh K (Wh y (V (ow aP rfl g) (Wi rfl (ln (CI a rfl (fun F a => ?_) (fun F a => ?_))))))))
  ·refine kn (fq (CJ a (fun Y E W => ∃ J a3, ST false (keys (t ++ [])) w W μ0 (J ++ a3) ∧ E 0 = j ∧ E 1 = H ∧ E 5 = (.int .i64 Y.2) ∧ E 6 = (.int .i64 D) ∧ fN 35 fa 9 j Y.1 J) (fun Y c => ?_) ?_))
   ·refine bg (Wh y (Wh K (bS c fun k M c => VQ (na (i := D) (x0 := k) aP aD rfl rfl g (jI M) (iz M)) (fun e4 P => V (fj rfl (oy d.has (fun p h => (Ml h)) g iC P (iz M) bl aD)) (VE (gH d br (fun d7 e2 d => VO (fH (.agg (fa k).toArray) ((fa k).toArray) d rfl rfl aD (iA k) nb rfl (fun d8 d => lr (Wh Q ?_))))))))))
    refine VA d Mh (fa k) bl aD (bS c fun e6 b5 c => VE (Bw k d a4 (fA.refl _) rfl (jY rfl) b5 (fun d9 d => V (kN rfl) (ln (CI c rfl (fun L c => ?_) (fun L c => ?_))))))
    ·refine sg (Wh y (Wh G (VA d Mh (fa k) bl aD (bS c fun d0 N c => VQ (na (i := B) (x0 := d0) aP aD rfl rfl g (jI N) (iz N)) (fun e5 R => ?_)))))
     replace d := d.perm (Nr (Qb Qz) Nz)
     refine VO (qx (u := (.agg (fa k).toArray)) (x1 := k)  d g iC iA rfl rfl rfl R (iz N) aD (fun e0 c1 d A => ln ?_))
     replace d := d.fe (Kr (Db St))
     refine fi (Wh G (Wi rfl (Wa (fL (gL (fB ?_))))))
     obtain rfl := sj c
     exact ⟨c1, _, (d.fe St), y, Q, rfl, K, A⟩
    refine gA (gL (fB ?_))
    obtain rfl := sj c
    exact ⟨I, _, (d.fe (Db St)), y, Q, G, K, g⟩
   rintro ⟨c7, c9⟩ E W ⟨J, a3, d, c3, c4, c5, c6, b6⟩ O
   exact fi (Wh c6 (Wi rfl (Wa (ln ⟨c8, bY _, c7, J, c9, (wi0 .i64 (D + 1)), _, (d.fe St), c3, c4, c5, rfl, b6, O⟩))))
  refine mZ (lY (lY (qF (fB (sg (Wh y (Wh G (bS a fun _ Z a => VQ (pX (i := B) aP aD rfl rfl g (pS Z) (pK Z)) (fun e7 b7 => VO (sB (z := K6)  d g iC iA aP br b7 rfl rfl (fun e1 c2 d a9 => lr (Wh y ?_))))))))))))
  refine Wh G (bS a fun _ n a => VQ (uA (i := B) aP aD rfl rfl a9 iC (pS n) (pK n)) (fun a5 b9 => Wa (lt ?_)))
  obtain rfl := sj a
  exact fR (v := a5) rfl rfl ⟨_, _, rfl, (d.gb (Kr Sn)), a5, c2, rfl, rfl, b9⟩
theorem uM (a : eX) (r : Bool) (w : World) (hm : nv a = some r) :
  fV true pg0 69 [(.agg (fa a).toArray)] w (.bool r) := by
 refine cG 6 func69 rfl (fun d => sg (VE (hZ d rfl (fun g j d => Wa (lr (VA d Mh (fa a) bl aD (bS hm fun k c hm => VE (Eg d call48 (mK a _ _  c) (fun i d => V (kN rfl) (Wa (fL ?_)))))))))))
 refine fB ?_
 exact gd (rQ hm d)
theorem yg (c : Value) (k : List eX) (a : LO) (g : Value) (t : (eX × eX) → Option Int) (r : List eX) (w : World) {y : fz} (u : ju y (a ++ []) w) (i : fN 35 fa 9 c k a) (j : vt pg0 g y (fun (x : (eX × eX)) => [(.agg (fa x.1).toArray), (.agg (fa x.2).toArray)]) (fun (r : Int) => (.int .i64 r)) t) (hm : pH t k = some r) :
  gq true pg0 70 [c, g] w (a ++ []) (fun v z W' => ∃ S, v = (.tuple #[]) ∧ z = (S ++ []) ∧ fN 35 fa 9 c r S) := wP (P := pg0) (ρ := zQ) BM 9 bl aD fa iC iA u.H u.S i j hm
theorem Bl (w : World) {c d : Value} {a b : List Int} (h1 : Sl (Pl (fl .u8)) 1 (hp w) c a) (g : Sl (Pl (fl .u8)) 1 (hp w) d b) : (callFunc 120 [c, d].toArray).run pg0 w = .ok (.value (.int .i64 (oO a b))) w := zm func120 (by kernel_rfl) (by kernel_rfl) (by kernel_rfl) (by kernel_rfl) h1 g
theorem tu (a : Value) (g : List Int) (c : Value) (i : List Int) (r : Int) (w : World) (j : Sl (Pl (fl .u8)) 1 (hp w) a g) (k : Sl (Pl (fl .u8)) 1 (hp w) c i) (hm : pR g i = some r) :
  fV true pg0 95 [a, c] w (.int .i64 r) := by
 exact cG 8 func95 rfl (fun d => sg (Wa (lr (Wm (Wm (VE (xo (args := [a, c]) (v := .int .i64 (oO g i)) rfl (by exact kx rfl rfl) (Bl _ (j.mono (Pl.mono _) d.fO) (k.mono (Pl.mono _) d.fO)) (Wa (lt (rQ hm d))))))))))
theorem uc (g i : eX) (r : Int) (w : World) (hm : kC g i = some r) :
  fV true pg0 71 [(.agg (fa g).toArray), (.agg (fa i).toArray)] w (.int .i64 r) := by
 refine cG 10 func71 rfl (fun d => sg (VE (hZ d rfl (fun T Y d => VE (hZ d rfl (fun U Z d => Wa (ln (fq ?_))))))))
 replace d := d.drew
 have h := d.has.fe (Kb (Kb Sn))
 refine gX h gE (XH 0 rfl h (fun _ n => fj rfl (fy n (Mt Mh) (fa g) rfl bl aD)) (XH 2 rfl h (fun _ n => fj rfl (fy n Mh (fa i) rfl bl aD)) (bS hm fun y t hm => XE 1 rfl (nX d call36 (mO g _ _  t) (fun I B N G d a q j => ?_)))))
 have h := d.has.nB a (Dr (Kb (Kb Sn)))
 refine ⟨h, (bS hm fun z u hm => XE 3 rfl (nX d call36 (mO i _ _  u) (fun J D Q H d c s k => ?_)))⟩
 have h := d.has.nB (a.trans c) (Dr (Dr (Kb (Kb Sn))))
 refine ⟨h, (bS hm fun M x hm => XE 4 rfl (Eg d call95 (tu B y D z _ _ (j.sl (fun _ => rfl) (fun b o p => d.at_ (Ma (Ml p)))) (k.sl (fun _ => rfl) (fun b o p => d.at_ (Ml p))) x) (fun K d => ?_)))⟩
 have h := d.has.nB (a.trans c) (Dr (Dr (Kb (Kb Sn))))
 refine ⟨h, (X 5 rfl h (fT rfl) (iH kr (fB ?_)))⟩
 exact gd (rQ hm d)
theorem qq (j : Value) (a0 : List eX) (x : LO) (r : List eX) (w : World) {μ0 : fz} (h0 : ju μ0 (x ++ []) w) (B : fN 35 fa 9 j a0 x) (hm : ke a0 = some r) :
  gq true pg0 72 [j] w (x ++ []) (fun v L1 W' => ∃ y1 S2, v = y1 ∧ L1 = (S2 ++ []) ∧ fN 35 fa 9 y1 r S2) := by
 refine qV h0 61 func72 rfl (fun d => sg (Wa (lS (Wm (V (ow aP rfl B) (Wi rfl (ln (CI hm rfl (fun g0 hm => ?_) (fun g0 hm => ?_)))))))))
 ·refine sg (Wm (Wa (lt (fP ?_))))
  obtain rfl := sj hm
  exact fR (v := j) rfl rfl ⟨_, _, rfl, (d.gb (Kr Sn)), j, x, rfl, rfl, B⟩
 refine kS (Wa (ln (jd (nc (fun m E W => ∃ t b4, ST true (keys (x ++ [])) w W μ0 (x ++ b4) ∧ E 0 = j ∧ E 3 = (.int .i64 t) ∧ hU a0 m t = some r) iv ⟨1, _, (d.fe St), rfl, rfl, hm⟩ ?_))))
 rintro m E W ⟨t, b4, d, D, H, a⟩
 cases m with
 | zero => rw [hU] at a; cases a
 | succ f5 =>
  refine fq (sg (Wh H (Wh D (V (ow aP rfl B) (Wi rfl (ln (CI a rfl (fun d0 a => ?_) (fun d0 a => ?_))))))))
  ·refine kn (fq (jd (fq ?_)))
   replace d := d.drew
   have h := d.has.fe (Kr Sn)
   refine gX h gE (X 0 rfl h (fp D) (X 1 rfl h (fp H) (bS a fun c3 Z a => XQ 2 rfl h (na (i := t) (x0 := c3) aP aD rfl rfl B (jI Z) (iz Z)) (fun g5 d6 => XH 3 rfl h (fun _ o => fj rfl (oy o (fun p n => (Ml n)) B iC d6 (iz Z) bl aD)) (X 4 rfl h (fp D) (X 5 rfl h (fp H) (X 6 rfl h (gl rfl rfl rfl) (bS a fun c4 q a => XQ 7 rfl h (na (i := (wi0 .i64 (t - 1))) (x0 := c4) aP aD rfl rfl B (jI q) (iz q)) (fun g6 d7 => XH 8 rfl h (fun _ o => fj rfl (oy o (fun p n => (Ml n)) B iC d7 (iz q) bl aD)) (X 9 rfl h (qK rfl rfl (lQ ey) (oz (qM _ c3 c4))) (iH kr (fB ?_))))))))))))
   refine CI a rfl (fun d1 a => ?_) (fun d1 a => ?_)
   ·refine sg (Wh D (Wh H (bS a fun _ L a => VQ (pX (i := t) aP aD rfl rfl B (pS L) (pK L)) (fun c1 M => Wa (lS (Wa (ln ?_)))))))
    refine CJ a (fun U E W => ∃ s b5, ST true (keys (x ++ [])) w W μ0 (s ++ b5) ∧ E 0 = j ∧ E 3 = (.int .i64 U.2) ∧ fN 35 fa 9 j U.1 s) (fun U d4 => ?_) ?_
    ·refine jd (nc (fun m E W => ∃ A K Y y b6, ST true (keys (x ++ [])) w W μ0 (K ++ b6) ∧ E 0 = j ∧ E 3 = (.int .i64 Y) ∧ E 4 = c1 ∧ E 5 = (.int .i64 y) ∧ fN 35 fa 9 j A K ∧ gZ t m A Y y = some U) iv ⟨a0, x, t, 1, _, (d.fe St), D, H, rfl, rfl, B, d4⟩ ?_)
     rintro m E W ⟨A, K, Y, y, b6, d, Q, T, I, J, g, k⟩
     cases m with
     | zero => rw [gZ] at k; cases k
     | succ f6 =>
      refine fq (sg (Wh J (Wh I (V (yy aP rfl M g) (Wi rfl (ln (CI k rfl (fun d2 k => ?_) (fun d2 k => ?_))))))))
      ·refine kn (fq (CJ k (fun F E W => ∃ N b7, ST true (keys (x ++ [])) w W μ0 (N ++ b7) ∧ E 0 = j ∧ E 3 = (.int .i64 F.2) ∧ E 4 = c1 ∧ E 5 = (.int .i64 y) ∧ fN 35 fa 9 j F.1 N) (fun F c => ?_) ?_))
       ·refine jd (fq ?_)
        replace d := d.drew
        have h := d.has.fe (Kr Sn)
        refine gX h gE (X 0 rfl h (fp I) (X 1 rfl h (fp J) (bS c fun c6 a2 c => XQ 2 rfl h (qc (i := y) (x0 := c6) aP aD rfl rfl g M (jI a2) (iz a2)) (fun g7 d8 => XH 3 rfl h (fun _ o => fj rfl (oy o (fun p n => (Ml n)) g iC d8 (qJ (iz a2)) bl aD)) (X 4 rfl h (fp I) (X 5 rfl h (fp J) (X 6 rfl h (gl rfl rfl rfl) (bS c fun c7 a3 c => XQ 7 rfl h (qc (i := (wi0 .i64 (y - 1))) (x0 := c7) aP aD rfl rfl g M (jI a3) (iz a3)) (fun g8 d9 => XH 8 rfl h (fun _ o => fj rfl (oy o (fun p n => (Ml n)) g iC d9 (qJ (iz a3)) bl aD)) (X 9 rfl h (BZ rfl rfl (lQ ey) (Av (qM _ c6 c7))) (iH kr (fB ?_))))))))))))
        refine CI c rfl (fun d3 c => ?_) (fun d3 c => ?_)
        ·refine sg (Wh Q (Wh T (Wh I (Wh J (bS c fun a9 a4 c => VQ (qc (i := y) (x0 := a9) aP aD rfl rfl g M (jI a4) (iz a4)) (fun g9 e0 => V (fj rfl (oy d.has (fun p n => (Ml n)) g iC e0 (qJ (iz a4)) bl aD)) (bS c fun f8 a5 c => VQ (na (i := Y) (x0 := f8) aP aD rfl rfl g (jI a5) (iz a5)) (fun h1 e1 => VO (qx (u := (.agg (fa a9).toArray)) (x1 := a9)  d g iC iA rfl rfl rfl e1 (iz a5) aD (fun g3 e8 d c9 => ln (fi ?_)))))))))))
         refine Wh T (Wi rfl (Wa (fL (gL (fB ?_)))))
         obtain rfl := sj c
         exact ⟨e8, _, (d.fe St), Q, rfl, I, J, c9⟩
        refine gA (gL (fB ?_))
        obtain rfl := sj c
        exact ⟨K, _, (d.fe St), Q, T, I, J, g⟩
       rintro ⟨f4, f7⟩ E W ⟨N, b7, d, f0, f1, f2, f3, e4⟩ d5
       exact fi (Wh f3 (Wi rfl (Wa (ln ⟨f6, bY _, f4, N, f7, (wi0 .i64 (y + 1)), _, (d.fe St), f0, f1, f2, rfl, e4, d5⟩))))
      refine mZ (lY (lY (qF (fB ?_))))
      obtain rfl := sj k
      exact ⟨K, _, (d.fe St), Q, T, g⟩
    rintro ⟨g4, c5⟩ E W ⟨s, b5, d, b9, c0, R⟩ G
    refine sg (Wh b9 (Wh c0 (bS G fun _ O G => VQ (pX (i := c5) aP aD rfl rfl R (pS O) (pK O)) (fun h2 e2 => VO (sB (z := K6)  d R iC iA aP br e2 rfl rfl (fun g2 e7 d c8 => lr (Wh b9 (Wh c0 (bS G fun _ P G => VQ (uA (i := c5) aP aD rfl rfl c8 iC (pS P) (pK P)) (fun c2 e3 => ?_))))))))))
    refine Wa (lt (jr (fP (fP (jr (fP ?_))))))
    obtain rfl := sj G
    exact fR (v := c2) rfl rfl ⟨_, _, rfl, (d.gb (Kr Sn)), c2, e7, rfl, rfl, e3⟩
   exact gA (gL (fB (fi (Wh H (Wi rfl (Wa (ln ⟨f5, bY _, (wi0 .i64 (t + 1)), _, (d.fe St), D, rfl, a⟩)))))))
  refine mZ (lY (lY (qF (fB (sg (Wh D (Wa (lt ?_))))))))
  obtain rfl := sj a
  exact fR (v := j) rfl rfl ⟨_, _, rfl, (d.gb (Kr Sn)), j, x, rfl, rfl, B⟩
theorem xK (i : Value) (t r : List eX) (w : World) (B : Sl (Pl fa) 9 (hp w) i t) (hm : od t = some r) :
  gY false pg0 39 [i] w 35 fa 9 r := by
 refine tK 11 func39 rfl (fun d => sg (Wa (lr (Wm (bS hm fun A T hm => VE (nX d call68 (gY.gW (rh i t _ _ (B.mono (Pl.mono _) d.fO) T)) (fun W3 v7 F R8 d a5 u Q => bS hm fun U D hm => ?_)))))))
 refine VE (eM d (Cr Qz Cn) call67 (fun n _ => (pz v7 A R8 (.func (.func 69) #[] #[]) (fun (x : eX) => nv x) _ _ n Q ⟨69, #[], #[], rfl, call69, fun W x r z hm => (uM x r W  hm).gW⟩ D)) ?_)
 rintro _ b5 b9 O d L o h ⟨k, K, a, rfl, I⟩
 obtain rfl := a.symm
 replace d := d.perm (Tr Tn)
 refine Wa (lr (Wm (bS hm fun Y G hm => ?_)))
 refine VE (eM d (Cr Qz Cn) call70 (fun n _ => gq.gW (yg k U K (.func (.func 71) #[] #[]) (fun (x : (eX × eX)) => kC x.1 x.2) _ _ n I ⟨71, #[], rfl, call71, fun W x r z hm => uc x.1 x.2 r W  hm⟩ G)) ?_)
 rintro _ b6 c0 a9 d a2 q h ⟨M, c, rfl, J⟩
 obtain rfl := c.symm
 replace d := d.perm (Tr Tn)
 refine lr (Wm (bS hm fun R H hm => ?_))
 refine VE (eM d (Cr Qz Cn) call72 (fun n _ => gq.gW (qq k Y M _ _ n J H)) ?_)
 rintro _ b7 c1 P d a3 s h ⟨Z, N, g, rfl, j⟩
 obtain rfl := g.symm
 replace d := d.perm (Tr Tn)
 refine Wa (lt ?_)
 obtain rfl := sj hm
 exact fR (v := Z) rfl rfl ⟨_, N, rfl, d.kB (fun p y => (Ml y)) j.nd, j⟩
theorem qL (D : Value) (Q : Option gf) (I : Value) (M : List ft) (r : List eX) (w : World) (O : lz gp (hp w) D Q) (H : Sl jk 10 (hp w) I M) (hm : mc Q M = some r) :
  gY false pg0 11 [D, I] w 35 fa 9 r := by
 refine tK 26 func11 rfl (fun d => sg (Wa (lr (Wa (lS (Wm ?_))))))
 refine V (iB dF rfl H) (Wm (ln (kI (fun i E W => ∃ g k j G, (E 10 = .int .i64 (i : Nat) ∧ E 9 = .int .i64 (M.length : Nat)) ∧ ST false ga w W (hp w) (j ++ G) ∧ E 0 = D ∧ E 5 = g ∧ E 8 = I ∧ fN 35 fa 9 g k j ∧ gK Q (M.drop i) k = some r) M.length H.len ⟨(.slice none 0 0), ([]), [], _, ⟨rfl, rfl⟩, (d.fe St), rfl, rfl, rfl, (fN.nil _ _ _), hm⟩ dc dc dc (fun _ _ _ h => by obtain ⟨_, _, _, _, q, _⟩ := h; exact q) ?_ ?_)))
 ·rintro b5 E W P ⟨g, k, j, G, ⟨n, s⟩, d, y, z, B, t, c⟩
  obtain ⟨a, c8, b0, a9, N⟩ := jS P
  rw [b0] at c
  refine bg (VQ (qP (i := (b5 : Int)) (x0 := a) jk.out dF bf B n H (bB _) a9) (fun c4 ⟨_, ⟨c7, rfl, K⟩, Z⟩ => V (fj rfl (oC d.has Z cn bf)) (VE (gH d bA (fun b6 c3 d => ?_)))))
  obtain ⟨u, x, rfl⟩ := K.form
  let a0 := (C1 a.eX.Kind a.eX.Head.eY a.eX.Head.eZ a.eX.fD a.eX.B.eY a.eX.B.eZ a.eX.C.eY a.eX.C.eZ a.eX.fw u a.Tag.length x)
  refine VO (fH (.agg a0.toArray) (a0.toArray) d rfl rfl bf oc nb rfl (fun b7 d => lr (Wh y (VA d Mh a0 cn bf (bS c fun c5 a2 c => VE (Eg d call9 (fV.gW (lM D Q a (.slice u a.Tag.length x) _ _ (O.mono jm d.fO) (K.mono (Pl.mono _) d.fO) a2)) (fun b9 d => Wi rfl (ln (CI c rfl (fun U c => ?_) (fun U c => ?_))))))))))
  ·refine fi (Wh z (Wf nn (VA d Mh (fa a.eX) bl aD (VE (gk (cs := (fa a.eX).toArray) d (iU rfl) (nq aP aD br) (fun c0 L d => ?_))))))
   replace d := d.perm (Nr (Qb (Qb Qz)) Nz)
   refine bS c fun b1 Y c => VE (nA (enc := fa) (v := g) (vs := (.slice (some ⟨L, 0, none⟩) 1 1)) (R := j) d iC dc iA aP oT.1 oT.2.1 rfl oT.2.2.1 oT.2.2.2 rfl rfl t (Sl.lit (enc := fa) (l := [a.eX]) iC rfl nb rfl (d.at_ (Ma Mh))) Y (fun c1 b2 a4 d T => Wa (fL (gL (fB ?_)))))
   replace d := d.fe (Kr (Db (Db St)))
   exact ⟨n, b2, b1, a4, _, ⟨rfl, s⟩, (d.fe St), y, rfl, B, T, (by rw [N]; exact c)⟩
  refine gA (gL (fB ?_))
  replace d := d.fe (Db St)
  exact ⟨n, g, k, j, _, ⟨rfl, s⟩, (d.fe St), y, z, B, t, (by rw [N]; exact c)⟩
 rintro E W ⟨g, k, j, G, ⟨n, s⟩, d, y, z, B, t, c⟩
 rw [bE] at c
 refine fB (sg (Wh z (bS c fun c6 a3 c => VE (nX d call39 (xK g k _ _ (t.sl iC (fun b o F => d.at_ (Ml F))) a3) (fun c2 b3 c9 a5 d b4 A J => Wa (ln ?_))))))
 replace d := d.fe (Kr (Dr St))
 refine gd ?_
 obtain rfl := sj c
 exact fR (v := b3) rfl rfl ⟨_, a5, rfl, d.kB (fun p F => (Ml F)) J.nd, J⟩
theorem rK (c : ft) (t : Value) (g : ft) (u : Value) (r : Bool) (w : World) (i : Sl (Pl (fl .u8)) 1 (hp w) t c.Tag) (j : Sl (Pl (fl .u8)) 1 (hp w) u g.Tag) (hm : mQ c g = some r) :
  fV true pg0 14 [(.agg #[(.int .i64 c.eX.Kind), (.string c.eX.Head.eY), (.string c.eX.Head.eZ), (.string c.eX.fD), (.string c.eX.B.eY), (.string c.eX.B.eZ), (.string c.eX.C.eY), (.string c.eX.C.eZ), (.string c.eX.fw), t]), (.agg #[(.int .i64 g.eX.Kind), (.string g.eX.Head.eY), (.string g.eX.Head.eZ), (.string g.eX.fD), (.string g.eX.B.eY), (.string g.eX.B.eZ), (.string g.eX.C.eY), (.string g.eX.C.eZ), (.string g.eX.fw), u])] w (.bool r) := by
 refine cG 19 func14 rfl (fun d => sg ?_)
 obtain ⟨G, I, rfl⟩ := i.form
 refine VE (hZ d rfl (fun N T d => ?_))
 obtain ⟨H, J, rfl⟩ := j.form
 refine VE (hZ d rfl (fun Q U d => Wa (lr (Wf nn (VA d (Mt Mh) (fa c.eX) bl aD (Wf nn (VA d Mh (fa g.eX) bl aD (V (qK rfl rfl (lQ ey) (oz (qM _ c.eX g.eX))) (Wm (LJ hm (fun z E W => ∃ y, ST true ga w W (hp w) y ∧ E 4 = (.bool false) ∧ E 18 = (.bool z)) 8 ?_ (fun z k x => ?_)))))))))))
 ·rintro M E W ⟨y, d, K, D⟩ B
  exact Wg D (lt (rQ B d))
 refine bC k (fun a k => ?_) (fun a k => ?_)
 ·refine ug a (fh nY rfl) (ug a (fj rfl (fG d.has (Mt Mh) rfl bW)) (ug a (lH az bd aG rfl (i.mono (Pl.mono _) d.fO)) (ug a (fh nY rfl) (ug a (fj rfl (fG d.has Mh rfl bW)) (ug a (lH az bd aG rfl (j.mono (Pl.mono _) d.fO)) (ug a (lZ rfl rfl rfl) (V (fF (cB a) rfl) ?_)))))))
  obtain rfl := sj k
  exact x _ _ ⟨_, (d.fe (Db (Db St))), rfl, rfl⟩
 refine un a (un a (un a (un a (un a (un a (un a (V (fE (cB a) rfl) ?_)))))))
 obtain rfl := sj k
 exact x _ _ ⟨_, (d.fe (Db (Db St))), rfl, rfl⟩
set_option maxHeartbeats 4000000 in
theorem uL (r : Bool) (w : World) (hm : kZ  = some r) :
  fV false pg0 5 [] w (.bool r) := by
 have d := ST.start (dd := false) w
 unfold kZ at hm
 refine cF 112 func5 rfl (fq (fi (V (fT rfl) (fL (fB (fq (fi (VE (gk (qs := #[(0, (.int .u8 107))]) (cs := [(.int .u8 107)].toArray) d (iU rfl) (mr [(.int .u8 107)] az cP dn (by decide) rfl (by intro v q; simp only [aF, bi, cC] at q; rcases q with rfl <;> rfl) rfl rfl) (fun W2 O d => ?_))))))))))
 have ad : Fr w.heap.size (.slice (some ⟨O, 0, none⟩) 1 1) := Fr.box d Mh
 refine VE (pq (l := [107]) d az bd rfl rfl rfl (by decide) (fun W3 eg d w0 eb t2 => V (gw (qs := #[(0, (.string K1)), (1, (.slice (some ⟨O, 0, none⟩) 1 1))]) (v := (.agg (C4 O).toArray)) (lf rfl rfl) (fZ cR cv (ya _ cv) (by kernel_rfl))) (VE (gk (qs := #[(0, (.int .u8 108))]) (cs := [(.int .u8 108)].toArray) d (iU rfl) (mr [(.int .u8 108)] az cP dn (by decide) rfl (by intro v q; simp only [aF, bi, cC] at q; rcases q with rfl <;> rfl) rfl rfl) (fun y8 P d => ?_)))))
 have v5 : Fr w.heap.size (.slice (some ⟨P, 0, none⟩) 1 1) := Fr.box d Mh
 refine VE (pq (l := [108]) d az bd rfl rfl rfl (by decide) (fun y9 al d n1 cb s2 => V (gw (qs := #[(0, (.string K4)), (1, (.slice (some ⟨P, 0, none⟩) 1 1))]) (v := (.agg #[(.string K4), (.slice (some ⟨P, 0, none⟩) 1 1)])) (lf rfl rfl) (fZ cR cv (ya _ cv) (by kernel_rfl))) (VE (gk (qs := #[(0, (.agg (C4 O).toArray)), (1, (.agg #[(.string K4), (.slice (some ⟨P, 0, none⟩) 1 1)]))]) (cs := #[(.string K1), (.slice (some ⟨O, 0, none⟩) 1 1), (.string K4), (.slice (some ⟨P, 0, none⟩) 1 1)]) d (lf rfl rfl) (mr [(.agg (C4 O).toArray), (.agg #[(.string K4), (.slice (some ⟨P, 0, none⟩) 1 1)])] du dP cR (by decide) rfl (by intro v q; simp only [aF, bi, cC] at q; rcases q with rfl | rfl <;> rfl) rfl rfl) (fun z0 g5 d => ?_)))))
 have v6 : Fr w.heap.size (.slice (some ⟨g5, 0, none⟩) 2 2) := Fr.box d Mh
 obtain ⟨am, d, t5, cc, s3⟩ := ST.zJ (B := [(g5, Obj.cells (#[(.string K1), (.slice (some ⟨O, 0, none⟩) 1 1), (.string K4), (.slice (some ⟨P, 0, none⟩) 1 1)] : Array Value) 72 (0, 0))]) qe d (jA.lit qe (l := [(⟨K1, [107]⟩ : Key), (⟨K4, [108]⟩ : Key)]) (.cons (ys := C4 O) (lF.mk ⟨(.slice (some ⟨O, 0, none⟩) 1 1), rfl, (t2.mono (Pl.mono _) n1)⟩) (.cons (ys := [(.string K4), (.slice (some ⟨P, 0, none⟩) 1 1)]) (lF.mk ⟨(.slice (some ⟨P, 0, none⟩) 1 1), rfl, s2⟩) .nil)) rfl nb rfl)
 refine bS hm fun f3 r8 hm => ?_
 have F := d.size
 refine VE (vE d (cD _) call7 (fun hH s n A => gV.gW (qR (.slice (some ⟨g5, 0, none⟩) 2 2) ([(⟨K1, [107]⟩ : Key), (⟨K4, [108]⟩ : Key)]) _ _ ⟨hH, s, n⟩ (s3.mono qe.mono (fA.refl _)) r8)) (fun z1 af an y4 d t6 cf r4 => ?_) (L0 := []))
 obtain ⟨L, e9, rfl, d0⟩ := r4
 replace e9 := e9.symm; subst e9
 replace d := d.perm Tn
 refine V (fp rfl) (V (iV rfl rfl) (V (iV rfl rfl) (V (fT rfl) (V (fT rfl) (fL (fB (fq (fi (V (gw (qs := #[(0, (.string K1))]) (v := (.agg #[(.string K1), (.slice none 0 0)])) (iU rfl) (fZ cR cv (ya _ cv) (by kernel_rfl))) (VE (gk (qs := #[(0, (.agg #[(.string K1), (.slice none 0 0)]))]) (cs := #[(.string K1), (.slice none 0 0)]) d (iU rfl) (mr [(.agg #[(.string K1), (.slice none 0 0)])] du dP cR (by decide) rfl (by intro v q; simp only [aF, bi, cC] at q; rcases q with rfl <;> rfl) rfl rfl) (fun z2 g6 d => ?_))))))))))))
 have v7 : Fr w.heap.size (.slice (some ⟨g6, 0, none⟩) 1 1) := Fr.box d Mh
 obtain ⟨ao, d, c1, ch, s4⟩ := ST.zJ (B := [(g6, Obj.cells (#[(.string K1), (.slice none 0 0)] : Array Value) 72 (0, 0))]) qe d (jA.lit qe (l := [(⟨K1, []⟩ : Key)]) (.cons (ys := [(.string K1), (.slice none 0 0)]) (lF.mk ⟨(.slice none 0 0), rfl, (Sl.nil _ _ _)⟩) .nil) rfl nb rfl)
 refine bS hm fun ae r9 hm => ?_
 have F := d.size
 refine VE (vE d (cD _) call7 (fun hH s n A => gV.gW (qR (.slice (some ⟨g6, 0, none⟩) 1 1) ([(⟨K1, []⟩ : Key)]) _ _ ⟨hH, s, n⟩ (s4.mono qe.mono (fA.refl _)) r9)) (fun z3 ag ap y5 d c2 cp r5 => ?_) (L0 := []))
 obtain ⟨aj, f0, rfl, w1⟩ := r5
 replace f0 := f0.symm; subst f0
 replace d := d.perm Tn
 refine V (fp rfl) (V (iV rfl rfl) (V (iV rfl rfl) (V (fT rfl) (V (fT rfl) (fL (fB (fq (fi (V (gw (qs := #[(0, (.string K1)), (1, (.string K2))]) (v := (.agg (fC K5).toArray)) (lf rfl rfl) (fZ dC bO (xG _ bO) (by kernel_rfl))) (V (gw (qs := #[(0, (.int .i64 1)), (1, (.agg (fC K5).toArray)), (2, (.string K3))]) (v := (.agg (fa K7).toArray)) (BB rfl rfl rfl) (fZ br bj (uo _ bj) (by kernel_rfl))) (VE (gH d br (fun z4 a4 d => VO (fH (.agg (fa K7).toArray) ((fa K7).toArray) d rfl rfl aD (iA K7) nb rfl (fun z5 d => fL (fB ?_))))))))))))))))
 refine fq (fi (V (fp rfl) (V (fj rfl (fy d.has Mh (fa K7) rfl bl aD)) (bS hm fun a s0 hm => ?_))))
 have F := d.size
 refine VE (vE d (cD _) call12 (fun hH s n A => gV.gW (qH L f3.1 K7 _ _ ⟨hH, s, n⟩ (d0.mono jm (c1.trans c2)) s0)) (fun z6 ah aq y6 d c6 cS r6 => ?_) (L0 := []))
 obtain ⟨ak, f1, rfl, a7⟩ := r6
 replace f1 := f1.symm; subst f1
 replace d := d.perm Tn
 refine V (fp rfl) (V (iV rfl rfl) (V (iV rfl rfl) (VE (gH d bA (fun z7 z d => ?_)))))
 obtain ⟨j, k, rfl⟩ := a7.form
 refine VO (fH (.agg #[(.int .i64 (((a.1).eX).Kind)), (.string ((((a.1).eX).Head).eY)), (.string ((((a.1).eX).Head).eZ)), (.string (((a.1).eX).fD)), (.string ((((a.1).eX).B).eY)), (.string ((((a.1).eX).B).eZ)), (.string ((((a.1).eX).C).eY)), (.string ((((a.1).eX).C).eZ)), (.string (((a.1).eX).fw)), (.slice j ((a.1).Tag).length k)]) (#[(.int .i64 (((a.1).eX).Kind)), (.string ((((a.1).eX).Head).eY)), (.string ((((a.1).eX).Head).eZ)), (.string (((a.1).eX).fD)), (.string ((((a.1).eX).B).eY)), (.string ((((a.1).eX).B).eZ)), (.string ((((a.1).eX).C).eY)), (.string ((((a.1).eX).C).eZ)), (.string (((a.1).eX).fw)), (.slice j ((a.1).Tag).length k)]) d rfl rfl bf (by simp [Value.cells, Value.oneCell']) nb rfl (fun z8 d => V (fT rfl) (fL (fB (fq (fi (VE (gk (qs := #[(0, (.int .u8 109))]) (cs := [(.int .u8 109)].toArray) d (iU rfl) (mr [(.int .u8 109)] az cP dn (by decide) rfl (by intro v q; simp only [aF, bi, cC] at q; rcases q with rfl <;> rfl) rfl rfl) (fun z9 a9 d => ?_)))))))))
 have v8 : Fr w.heap.size (.slice (some ⟨a9, 0, none⟩) 1 1) := Fr.box d Mh
 refine VE (pq (l := [109]) d az bd rfl rfl rfl (by decide) (fun aa ar d M dk s5 => V (gw (qs := #[(0, (.string K1)), (1, (.slice (some ⟨a9, 0, none⟩) 1 1))]) (v := (.agg (C4 a9).toArray)) (lf rfl rfl) (fZ cR cv (ya _ cv) (by kernel_rfl))) (VE (gk (qs := #[(0, (.agg (C4 a9).toArray))]) (cs := (C4 a9).toArray) d (iU rfl) (mr [(.agg (C4 a9).toArray)] du dP cR (by decide) rfl (by intro v q; simp only [aF, bi, cC] at q; rcases q with rfl <;> rfl) rfl rfl) (fun ab g7 d => ?_)))))
 have v9 : Fr w.heap.size (.slice (some ⟨g7, 0, none⟩) 1 1) := Fr.box d Mh
 obtain ⟨au, d, N, ds, s6⟩ := ST.zJ (B := [(g7, Obj.cells ((C4 a9).toArray : Array Value) 72 (0, 0))]) qe d (jA.lit qe (l := [(⟨K1, [109]⟩ : Key)]) (.cons (ys := C4 a9) (lF.mk ⟨(.slice (some ⟨a9, 0, none⟩) 1 1), rfl, s5⟩) .nil) rfl nb rfl)
 refine bS hm fun t3 s1 hm => ?_
 have F := d.size
 refine VE (vE d (cD _) call7 (fun hH s n A => gV.gW (qR (.slice (some ⟨g7, 0, none⟩) 1 1) ([(⟨K1, [109]⟩ : Key)]) _ _ ⟨hH, s, n⟩ (s6.mono qe.mono (fA.refl _)) s1)) (fun ac ai av y7 d Q ea r7 => ?_) (L0 := []))
 obtain ⟨e2, c7, rfl, p1⟩ := r7
 replace c7 := c7.symm; subst c7
 replace d := d.perm Tn
 refine V (fp rfl) (V (iV rfl rfl) (V (iV rfl rfl) (V (fT rfl) (V (fT rfl) (fL (fB (fq (fi (V (gw (qs := #[]) (v := (.agg #[(.slice none 0 0)])) mI (fZ zeroValue56 cT (zj _ cT) (by kernel_rfl))) (VE (hZ (v := (.agg #[(.slice none 0 0)])) d rfl (fun u3 g4 d => V (fT rfl) (fL (fB (fq ?_)))))))))))))))
 refine fi (V (fp rfl) (V (fj rfl (fy d.has (Mt Mh) [(.int .i64 (((a.1).eX).Kind)), (.string ((((a.1).eX).Head).eY)), (.string ((((a.1).eX).Head).eZ)), (.string (((a.1).eX).fD)), (.string ((((a.1).eX).B).eY)), (.string ((((a.1).eX).B).eZ)), (.string ((((a.1).eX).C).eY)), (.string ((((a.1).eX).C).eZ)), (.string (((a.1).eX).fw)), (.slice j ((a.1).Tag).length k)] rfl cn bf)) (bS hm fun a5 o2 hm => ?_)))
 have F := d.size
 refine VE (yR d (Cb Pz (C0 Cn)) call22 (fun hH s n A => gq.gW (rp g4 (.slice none 0 0) ([]) [] (⟨(a.1).eX, (a.1).Tag⟩ : ft) (.slice j ((a.1).Tag).length k) _ _ ⟨hH, s, fA.refl _⟩ (fN.nil _ _ _) (a7.mono (Pl.mono _) (((M.trans N).trans Q).trans n)) o2)) (fun u4 w7 y1 t7 d D aE ca m7 => ?_))
 obtain ⟨s9, u2, c8, rfl, p2⟩ := m7
 replace c8 := c8.symm; subst c8
 replace d := d.perm (Tb (Tr Tn))
 refine V (fT rfl) (fL (fB (fq (fi (VE (gH d bA (fun u5 i d => fL (fB (fq (fi (V (fp rfl) (bS hm fun s7 o3 hm => VE (nX d call23 (gY.gW (nG g4 s9 a5.2 _ _ (p2.sl (fun _ => rfl) (fun b o hq => d.at_ (Mt (Mt (Ml hq))))) (At.of (d.at_ (Mt Mh)) _ rfl) o3)) (fun u6 s8 y2 t9 d G ba f2 => V (qb (by exact jY rfl) rfl) ?_))))))))))))))
 have t4 := f2.Bk d (fun p hq => (Ml hq))
 obtain ⟨y3, d, H, bb, p0⟩ := ST.vY d f2 (fun _ => rfl)
 refine bS hm fun c o4 hm => ?_
 have F := d.size
 refine VE (vE d (Cb Pz Cn) call24 (fun hH s n A => gV.gW (pB s8 s7 i (⟨K6, []⟩ : ft) (.slice none 0 0) _ _ ⟨hH, s, n⟩ (p0.mono (Pl.mono _) (fA.refl _)) (Sl.nil _ _ _) o4)) (fun u7 w8 a8 t8 d I bs m8 => ?_))
 obtain ⟨K, c9, rfl, p3⟩ := m8
 replace c9 := c9.symm; subst c9
 replace d := d.perm (Tb Tn)
 refine V (fT rfl) (fL (fB ?_))
 replace d := d.fe (Kb (Db (Dr St)))
 refine fq (fi (V (fp rfl) (V (gl rfl rfl rfl) (V (fp rfl) (LJ hm (fun m6 E W => ∃  (f4 : List (Nat × Obj)), ST false ga w W a8 ((i, Obj.cells (#[(.int .i64 (((c.2).eX).Kind)), (.string ((((c.2).eX).Head).eY)), (.string ((((c.2).eX).Head).eZ)), (.string (((c.2).eX).fD)), (.string ((((c.2).eX).B).eY)), (.string ((((c.2).eX).B).eZ)), (.string ((((c.2).eX).C).eY)), (.string ((((c.2).eX).C).eZ)), (.string (((c.2).eX).fw)), K] : Array Value) 38 (0, 0)) :: ((z, Obj.cells (#[(.int .i64 (((a.1).eX).Kind)), (.string ((((a.1).eX).Head).eY)), (.string ((((a.1).eX).Head).eZ)), (.string (((a.1).eX).fD)), (.string ((((a.1).eX).B).eY)), (.string ((((a.1).eX).B).eZ)), (.string ((((a.1).eX).C).eY)), (.string ((((a.1).eX).C).eZ)), (.string (((a.1).eX).fw)), (.slice j ((a.1).Tag).length k)] : Array Value) 38 (0, 0)) :: ((a4, Obj.cells ((fa K7).toArray : Array Value) 35 (0, 0)) :: f4))) ∧ E 0 = (.bool false) ∧ E 1 = L ∧ E 5 = (.pointer (some ⟨a4, 0, none⟩)) ∧ E 6 = (.pointer (some ⟨z, 0, none⟩)) ∧ E 7 = (.int .i64 a.2) ∧ E 8 = e2 ∧ E 11 = (.bool a5.1) ∧ E 12 = (.pointer (some ⟨i, 0, none⟩)) ∧ E 13 = (.int .i64 c.1) ∧ E 61 = (.bool m6)) 3 ?_ (fun m6 b7 e1 => ?_))))))
 ·rintro x1 E W ⟨f4, d, g8, g9, h0, h1, p6, h2, h3, h4, h5, p7⟩ n2
  refine V (fp p7) (LJ n2 (fun m5 E W => ∃  (f5 : List (Nat × Obj)), ST false ga w W a8 ((i, Obj.cells (#[(.int .i64 (((c.2).eX).Kind)), (.string ((((c.2).eX).Head).eY)), (.string ((((c.2).eX).Head).eZ)), (.string (((c.2).eX).fD)), (.string ((((c.2).eX).B).eY)), (.string ((((c.2).eX).B).eZ)), (.string ((((c.2).eX).C).eY)), (.string ((((c.2).eX).C).eZ)), (.string (((c.2).eX).fw)), K] : Array Value) 38 (0, 0)) :: ((z, Obj.cells (#[(.int .i64 (((a.1).eX).Kind)), (.string ((((a.1).eX).Head).eY)), (.string ((((a.1).eX).Head).eZ)), (.string (((a.1).eX).fD)), (.string ((((a.1).eX).B).eY)), (.string ((((a.1).eX).B).eZ)), (.string ((((a.1).eX).C).eY)), (.string ((((a.1).eX).C).eZ)), (.string (((a.1).eX).fw)), (.slice j ((a.1).Tag).length k)] : Array Value) 38 (0, 0)) :: ((a4, Obj.cells ((fa K7).toArray : Array Value) 35 (0, 0)) :: f5))) ∧ E 0 = (.bool false) ∧ E 1 = L ∧ E 5 = (.pointer (some ⟨a4, 0, none⟩)) ∧ E 6 = (.pointer (some ⟨z, 0, none⟩)) ∧ E 8 = e2 ∧ E 11 = (.bool a5.1) ∧ E 12 = (.pointer (some ⟨i, 0, none⟩)) ∧ E 13 = (.int .i64 c.1) ∧ E 65 = (.bool m5)) 3 ?_ (fun m5 b6 e0 => ?_))
  ·rintro x2 E W ⟨f5, d, h6, h7, h8, e3, h9, i0, i1, i2, p8⟩ n3
   refine V (fp p8) (LJ n3 (fun m4 E W => ∃  (f6 : List (Nat × Obj)), ST false ga w W a8 ((i, Obj.cells (#[(.int .i64 (((c.2).eX).Kind)), (.string ((((c.2).eX).Head).eY)), (.string ((((c.2).eX).Head).eZ)), (.string (((c.2).eX).fD)), (.string ((((c.2).eX).B).eY)), (.string ((((c.2).eX).B).eZ)), (.string ((((c.2).eX).C).eY)), (.string ((((c.2).eX).C).eZ)), (.string (((c.2).eX).fw)), K] : Array Value) 38 (0, 0)) :: ((z, Obj.cells (#[(.int .i64 (((a.1).eX).Kind)), (.string ((((a.1).eX).Head).eY)), (.string ((((a.1).eX).Head).eZ)), (.string (((a.1).eX).fD)), (.string ((((a.1).eX).B).eY)), (.string ((((a.1).eX).B).eZ)), (.string ((((a.1).eX).C).eY)), (.string ((((a.1).eX).C).eZ)), (.string (((a.1).eX).fw)), (.slice j ((a.1).Tag).length k)] : Array Value) 38 (0, 0)) :: ((a4, Obj.cells ((fa K7).toArray : Array Value) 35 (0, 0)) :: f6))) ∧ E 0 = (.bool false) ∧ E 1 = L ∧ E 5 = (.pointer (some ⟨a4, 0, none⟩)) ∧ E 6 = (.pointer (some ⟨z, 0, none⟩)) ∧ E 8 = e2 ∧ E 11 = (.bool a5.1) ∧ E 12 = (.pointer (some ⟨i, 0, none⟩)) ∧ E 13 = (.int .i64 c.1) ∧ E 71 = (.bool m4)) 5 ?_ (fun m4 b5 d9 => ?_))
   ·rintro x3 E W ⟨f6, d, i3, e4, i4, e5, i5, i6, i7, i8, p9⟩ n4
    refine V (fp p9) (LJ n4 (fun m3 E W => ∃  (f7 : List (Nat × Obj)), ST false ga w W a8 ((i, Obj.cells (#[(.int .i64 (((c.2).eX).Kind)), (.string ((((c.2).eX).Head).eY)), (.string ((((c.2).eX).Head).eZ)), (.string (((c.2).eX).fD)), (.string ((((c.2).eX).B).eY)), (.string ((((c.2).eX).B).eZ)), (.string ((((c.2).eX).C).eY)), (.string ((((c.2).eX).C).eZ)), (.string (((c.2).eX).fw)), K] : Array Value) 38 (0, 0)) :: ((z, Obj.cells (#[(.int .i64 (((a.1).eX).Kind)), (.string ((((a.1).eX).Head).eY)), (.string ((((a.1).eX).Head).eZ)), (.string (((a.1).eX).fD)), (.string ((((a.1).eX).B).eY)), (.string ((((a.1).eX).B).eZ)), (.string ((((a.1).eX).C).eY)), (.string ((((a.1).eX).C).eZ)), (.string (((a.1).eX).fw)), (.slice j ((a.1).Tag).length k)] : Array Value) 38 (0, 0)) :: ((a4, Obj.cells ((fa K7).toArray : Array Value) 35 (0, 0)) :: f7))) ∧ E 0 = (.bool false) ∧ E 1 = L ∧ E 5 = (.pointer (some ⟨a4, 0, none⟩)) ∧ E 6 = (.pointer (some ⟨z, 0, none⟩)) ∧ E 8 = e2 ∧ E 11 = (.bool a5.1) ∧ E 12 = (.pointer (some ⟨i, 0, none⟩)) ∧ E 13 = (.int .i64 c.1) ∧ E 77 = (.bool m3)) 5 ?_ (fun m3 a3 d8 => ?_))
    ·rintro x4 E W ⟨f7, d, i9, j0, j3, e6, q0, j4, j5, j6, q1⟩ n5
     refine V (fp q1) (LJ n5 (fun m2 E W => ∃  (f8 : List (Nat × Obj)), ST false ga w W a8 ((i, Obj.cells (#[(.int .i64 (((c.2).eX).Kind)), (.string ((((c.2).eX).Head).eY)), (.string ((((c.2).eX).Head).eZ)), (.string (((c.2).eX).fD)), (.string ((((c.2).eX).B).eY)), (.string ((((c.2).eX).B).eZ)), (.string ((((c.2).eX).C).eY)), (.string ((((c.2).eX).C).eZ)), (.string (((c.2).eX).fw)), K] : Array Value) 38 (0, 0)) :: ((z, Obj.cells (#[(.int .i64 (((a.1).eX).Kind)), (.string ((((a.1).eX).Head).eY)), (.string ((((a.1).eX).Head).eZ)), (.string (((a.1).eX).fD)), (.string ((((a.1).eX).B).eY)), (.string ((((a.1).eX).B).eZ)), (.string ((((a.1).eX).C).eY)), (.string ((((a.1).eX).C).eZ)), (.string (((a.1).eX).fw)), (.slice j ((a.1).Tag).length k)] : Array Value) 38 (0, 0)) :: ((a4, Obj.cells ((fa K7).toArray : Array Value) 35 (0, 0)) :: f8))) ∧ E 0 = (.bool false) ∧ E 1 = L ∧ E 5 = (.pointer (some ⟨a4, 0, none⟩)) ∧ E 6 = (.pointer (some ⟨z, 0, none⟩)) ∧ E 11 = (.bool a5.1) ∧ E 12 = (.pointer (some ⟨i, 0, none⟩)) ∧ E 13 = (.int .i64 c.1) ∧ E 83 = (.bool m2)) 5 ?_ (fun m2 a2 d7 => ?_))
     ·rintro x5 E W ⟨f8, d, j7, e7, j8, j9, k0, k1, k2, q2⟩ n6
      refine V (fp q2) (LJ n6 (fun m1 E W => ∃  (c3 : fz) (f9 : List (Nat × Obj)), fA a8 c3 ∧ ST false ga w W c3 ((i, Obj.cells (#[(.int .i64 (((c.2).eX).Kind)), (.string ((((c.2).eX).Head).eY)), (.string ((((c.2).eX).Head).eZ)), (.string (((c.2).eX).fD)), (.string ((((c.2).eX).B).eY)), (.string ((((c.2).eX).B).eZ)), (.string ((((c.2).eX).C).eY)), (.string ((((c.2).eX).C).eZ)), (.string (((c.2).eX).fw)), K] : Array Value) 38 (0, 0)) :: ((z, Obj.cells (#[(.int .i64 (((a.1).eX).Kind)), (.string ((((a.1).eX).Head).eY)), (.string ((((a.1).eX).Head).eZ)), (.string (((a.1).eX).fD)), (.string ((((a.1).eX).B).eY)), (.string ((((a.1).eX).B).eZ)), (.string ((((a.1).eX).C).eY)), (.string ((((a.1).eX).C).eZ)), (.string (((a.1).eX).fw)), (.slice j ((a.1).Tag).length k)] : Array Value) 38 (0, 0)) :: ((a4, Obj.cells ((fa K7).toArray : Array Value) 35 (0, 0)) :: f9))) ∧ E 0 = (.bool false) ∧ E 1 = L ∧ E 5 = (.pointer (some ⟨a4, 0, none⟩)) ∧ E 6 = (.pointer (some ⟨z, 0, none⟩)) ∧ E 11 = (.bool a5.1) ∧ E 12 = (.pointer (some ⟨i, 0, none⟩)) ∧ E 13 = (.int .i64 c.1) ∧ E 89 = (.bool m1)) 5 ?_ (fun m1 R d6 => ?_))
      ·rintro x6 E W ⟨c3, f9, b2, d, k3, q3, q4, e8, k4, k5, k6, q5⟩ n7
       refine V (fp q5) (LJ n7 (fun m0 E W => ∃  (c0 : fz) (g0 : List (Nat × Obj)), fA c3 c0 ∧ ST false ga w W c0 ((i, Obj.cells (#[(.int .i64 (((c.2).eX).Kind)), (.string ((((c.2).eX).Head).eY)), (.string ((((c.2).eX).Head).eZ)), (.string (((c.2).eX).fD)), (.string ((((c.2).eX).B).eY)), (.string ((((c.2).eX).B).eZ)), (.string ((((c.2).eX).C).eY)), (.string ((((c.2).eX).C).eZ)), (.string (((c.2).eX).fw)), K] : Array Value) 38 (0, 0)) :: ((z, Obj.cells (#[(.int .i64 (((a.1).eX).Kind)), (.string ((((a.1).eX).Head).eY)), (.string ((((a.1).eX).Head).eZ)), (.string (((a.1).eX).fD)), (.string ((((a.1).eX).B).eY)), (.string ((((a.1).eX).B).eZ)), (.string ((((a.1).eX).C).eY)), (.string ((((a.1).eX).C).eZ)), (.string (((a.1).eX).fw)), (.slice j ((a.1).Tag).length k)] : Array Value) 38 (0, 0)) :: g0)) ∧ E 0 = (.bool false) ∧ E 6 = (.pointer (some ⟨z, 0, none⟩)) ∧ E 11 = (.bool a5.1) ∧ E 12 = (.pointer (some ⟨i, 0, none⟩)) ∧ E 13 = (.int .i64 c.1) ∧ E 99 = (.bool m0)) 9 ?_ (fun m0 a0 d5 => ?_))
       ·rintro x7 E W ⟨c0, g0, d1, d, k7, k8, q6, k9, l0, q7⟩ n8
        refine V (fp q7) (LJ n8 (fun l9 E W => ∃  (g1 : List (Nat × Obj)), ST false ga w W c0 ((i, Obj.cells (#[(.int .i64 (((c.2).eX).Kind)), (.string ((((c.2).eX).Head).eY)), (.string ((((c.2).eX).Head).eZ)), (.string (((c.2).eX).fD)), (.string ((((c.2).eX).B).eY)), (.string ((((c.2).eX).B).eZ)), (.string ((((c.2).eX).C).eY)), (.string ((((c.2).eX).C).eZ)), (.string (((c.2).eX).fw)), K] : Array Value) 38 (0, 0)) :: ((z, Obj.cells (#[(.int .i64 (((a.1).eX).Kind)), (.string ((((a.1).eX).Head).eY)), (.string ((((a.1).eX).Head).eZ)), (.string (((a.1).eX).fD)), (.string ((((a.1).eX).B).eY)), (.string ((((a.1).eX).B).eZ)), (.string ((((a.1).eX).C).eY)), (.string ((((a.1).eX).C).eZ)), (.string (((a.1).eX).fw)), (.slice j ((a.1).Tag).length k)] : Array Value) 38 (0, 0)) :: g1)) ∧ E 0 = (.bool false) ∧ E 6 = (.pointer (some ⟨z, 0, none⟩)) ∧ E 12 = (.pointer (some ⟨i, 0, none⟩)) ∧ E 13 = (.int .i64 c.1) ∧ E 102 = (.bool l9)) 2 ?_ (fun l9 b4 d4 => ?_))
        ·rintro x8 E W ⟨g1, d, l1, l2, l3, q8, q9⟩ n9
         refine V (fp q9) (LJ n9 (fun l8 E W => ∃  (g2 : List (Nat × Obj)), ST false ga w W c0 ((i, Obj.cells (#[(.int .i64 (((c.2).eX).Kind)), (.string ((((c.2).eX).Head).eY)), (.string ((((c.2).eX).Head).eZ)), (.string (((c.2).eX).fD)), (.string ((((c.2).eX).B).eY)), (.string ((((c.2).eX).B).eZ)), (.string ((((c.2).eX).C).eY)), (.string ((((c.2).eX).C).eZ)), (.string (((c.2).eX).fw)), K] : Array Value) 38 (0, 0)) :: ((z, Obj.cells (#[(.int .i64 (((a.1).eX).Kind)), (.string ((((a.1).eX).Head).eY)), (.string ((((a.1).eX).Head).eZ)), (.string (((a.1).eX).fD)), (.string ((((a.1).eX).B).eY)), (.string ((((a.1).eX).B).eZ)), (.string ((((a.1).eX).C).eY)), (.string ((((a.1).eX).C).eZ)), (.string (((a.1).eX).fw)), (.slice j ((a.1).Tag).length k)] : Array Value) 38 (0, 0)) :: g2)) ∧ E 0 = (.bool false) ∧ E 6 = (.pointer (some ⟨z, 0, none⟩)) ∧ E 12 = (.pointer (some ⟨i, 0, none⟩)) ∧ E 106 = (.bool l8)) 3 ?_ (fun l8 b3 d3 => ?_))
         ·rintro x9 E W ⟨g2, d, l4, r0, r1, r2⟩ o0
          refine V (fp r2) (LJ o0 (fun l7 E W => ∃  (g3 : List (Nat × Obj)), ST false ga w W c0 g3 ∧ E 0 = (.bool false) ∧ E 111 = (.bool l7)) 4 ?_ (fun l7 Z d2 => ?_))
          ·rintro y0 E W ⟨g3, d, v4, r3⟩ o1
           refine V (fT r3) (fL (fB (gd ?_)))
           have h := sj o1; subst h
           exact rP d
          refine bC Z (fun J Z => ?_) (fun J Z => ?_)
          ·refine Vg rfl (cB J) (fj r1 (fy d.has Mh [(.int .i64 (((c.2).eX).Kind)), (.string ((((c.2).eX).Head).eY)), (.string ((((c.2).eX).Head).eZ)), (.string (((c.2).eX).fD)), (.string ((((c.2).eX).B).eY)), (.string ((((c.2).eX).B).eZ)), (.string ((((c.2).eX).C).eY)), (.string ((((c.2).eX).C).eZ)), (.string (((c.2).eX).fw)), K] rfl cn bf)) (Vg rfl (cB J) (fj r0 (fy d.has (Mt Mh) [(.int .i64 (((a.1).eX).Kind)), (.string ((((a.1).eX).Head).eY)), (.string ((((a.1).eX).Head).eZ)), (.string (((a.1).eX).fD)), (.string ((((a.1).eX).B).eY)), (.string ((((a.1).eX).B).eZ)), (.string ((((a.1).eX).C).eY)), (.string ((((a.1).eX).C).eZ)), (.string (((a.1).eX).fw)), (.slice j ((a.1).Tag).length k)] rfl cn bf)) (bS Z fun w2 o5 Z => sv rfl (cB J) (Eg d call14 (fV.gW (rK c.2 K (⟨(a.1).eX, (a.1).Tag⟩ : ft) (.slice j ((a.1).Tag).length k) _ _ (p3.mono (Pl.mono _) ((b2.trans d1).trans d.fO)) (a7.mono (Pl.mono _) (((((((((M.trans N).trans Q).trans D).trans G).trans H).trans I).trans b2).trans d1).trans d.fO)) o5)) (fun u8 d => V (fF (cB J) rfl) ?_))))
           have h := sj Z; subst h
           exact d2 _ _ ⟨_, (d.fe (Db (Db St))), l4, rfl⟩
          refine Vn rfl (cB J) (Vn rfl (cB J) (Vn rfl (cB J) (V (fE (cB J) rfl) ?_)))
          have h := sj Z; subst h
          exact d2 _ _ ⟨_, (d.fe (Db (Db St))), l4, rfl⟩
         refine bC b3 (fun Y b3 => ?_) (fun Y b3 => ?_)
         ·refine Vg rfl (cB Y) (fp q8) (Vg rfl (cB Y) (gl rfl rfl rfl) (V (fF (cB Y) rfl) ?_))
          have h := sj b3; subst h
          exact d3 _ _ ⟨_, (d.fe St), l1, l2, l3, rfl⟩
         refine Vn rfl (cB Y) (Vn rfl (cB Y) (V (fE (cB Y) rfl) ?_))
         have h := sj b3; subst h
         exact d3 _ _ ⟨_, (d.fe St), l1, l2, l3, rfl⟩
        refine bC b4 (fun b0 b4 => ?_) (fun b0 b4 => ?_)
        ·refine Vg rfl (cB b0) (fp q6) (V (fF (cB b0) rfl) ?_)
         have h := sj b4; subst h
         exact d4 _ _ ⟨_, (d.fe St), k7, k8, k9, l0, rfl⟩
        refine Vn rfl (cB b0) (V (fE (cB b0) rfl) ?_)
        have h := sj b4; subst h
        exact d4 _ _ ⟨_, (d.fe St), k7, k8, k9, l0, rfl⟩
       refine bC a0 (fun g a0 => ?_) (fun g a0 => ?_)
       ·refine Vg rfl (cB g) (fp q3) (Vg rfl (cB g) (fj e8 (fy d.has (Mt Mh) [(.int .i64 (((a.1).eX).Kind)), (.string ((((a.1).eX).Head).eY)), (.string ((((a.1).eX).Head).eZ)), (.string (((a.1).eX).fD)), (.string ((((a.1).eX).B).eY)), (.string ((((a.1).eX).B).eZ)), (.string ((((a.1).eX).C).eY)), (.string ((((a.1).eX).C).eZ)), (.string (((a.1).eX).fw)), (.slice j ((a.1).Tag).length k)] rfl cn bf)) (Vg rfl (cB g) (fj q4 (fy d.has (Mt (Mt Mh)) (fa K7) rfl bl aD)) (Vg rfl (cB g) (gw (qs := #[(0, (.agg (fa K7).toArray))]) (v := (.agg C3.toArray)) (iU rfl) (fZ bA bu (sD _ bu) (by kernel_rfl))) (sv rfl (cB g) (gk (qs := #[(0, (.agg #[(.int .i64 (((a.1).eX).Kind)), (.string ((((a.1).eX).Head).eY)), (.string ((((a.1).eX).Head).eZ)), (.string (((a.1).eX).fD)), (.string ((((a.1).eX).B).eY)), (.string ((((a.1).eX).B).eZ)), (.string ((((a.1).eX).C).eY)), (.string ((((a.1).eX).C).eZ)), (.string (((a.1).eX).fw)), (.slice j ((a.1).Tag).length k)])), (1, (.agg C3.toArray))]) (cs := #[(.int .i64 (((a.1).eX).Kind)), (.string ((((a.1).eX).Head).eY)), (.string ((((a.1).eX).Head).eZ)), (.string (((a.1).eX).fD)), (.string ((((a.1).eX).B).eY)), (.string ((((a.1).eX).B).eZ)), (.string ((((a.1).eX).C).eY)), (.string ((((a.1).eX).C).eZ)), (.string (((a.1).eX).fw)), (.slice j ((a.1).Tag).length k), (.int .i64 1), (.string (K5.eY)), (.string (K5.eZ)), (.string K3), (.string (K0.eY)), (.string (K0.eZ)), (.string (K0.eY)), (.string (K0.eZ)), (.string zS), (.slice none 0 0)]) d (lf rfl rfl) (mr [(.agg #[(.int .i64 (((a.1).eX).Kind)), (.string ((((a.1).eX).Head).eY)), (.string ((((a.1).eX).Head).eZ)), (.string (((a.1).eX).fD)), (.string ((((a.1).eX).B).eY)), (.string ((((a.1).eX).B).eZ)), (.string ((((a.1).eX).C).eY)), (.string ((((a.1).eX).C).eZ)), (.string (((a.1).eX).fw)), (.slice j ((a.1).Tag).length k)]), (.agg C3.toArray)] dF bf bA (by decide) rfl (by intro v q; simp only [aF, bi, cC] at q; rcases q with rfl | rfl <;> rfl) rfl rfl) (fun u9 p5 d => bS a0 fun w3 o6 a0 => sv rfl (cB g) (nX d call11 (qL L f3.1 (.slice (some ⟨p5, 0, none⟩) 2 2) ([(⟨(a.1).eX, (a.1).Tag⟩ : ft), (⟨K7, []⟩ : ft)]) _ _ (d0.mono jm (((((((((((c1.trans c2).trans c6).trans M).trans N).trans Q).trans D).trans G).trans H).trans I).trans b2).trans d.fO)) ((jA.lit rV (l := [(⟨(a.1).eX, (a.1).Tag⟩ : ft), (⟨K7, []⟩ : ft)]) (.cons (ys := [(.int .i64 (((a.1).eX).Kind)), (.string ((((a.1).eX).Head).eY)), (.string ((((a.1).eX).Head).eZ)), (.string (((a.1).eX).fD)), (.string ((((a.1).eX).B).eY)), (.string ((((a.1).eX).B).eZ)), (.string ((((a.1).eX).C).eY)), (.string ((((a.1).eX).C).eZ)), (.string (((a.1).eX).fw)), (.slice j ((a.1).Tag).length k)]) (jk.mk ⟨(.slice j ((a.1).Tag).length k), rfl, (a7.mono (Pl.mono _) (((((((M.trans N).trans Q).trans D).trans G).trans H).trans I).trans b2))⟩) (.cons (ys := C3) (jk.mk ⟨(.slice none 0 0), rfl, (Sl.nil _ _ _)⟩) .nil)) rfl nb rfl).sl rV d.fO (fun b o hq => (by rw [aV] at hq; cases hq; exact d.at_ Mh))) o6) (fun v0 w9 t0 u0 d l5 c4 m9 => Vg rfl (cB g) (ow aP rfl m9) (Vg rfl (cB g) (gl rfl rfl rfl) (V (fF (cB g) rfl) ?_))))))))))
        have h := sj a0; subst h
        exact d5 _ _ ⟨t0, _, l5, (d.fe (Dr (Db (Kb (Kb (Db St)))))), k3, e8, k4, k5, k6, rfl⟩
       refine Vn rfl (cB g) (Vn rfl (cB g) (Vn rfl (cB g) (Vn rfl (cB g) (Vn rfl (cB g) (Vn rfl (cB g) (Vn rfl (cB g) (Vn rfl (cB g) (V (fE (cB g) rfl) ?_))))))))
       have h := sj a0; subst h
       exact d5 _ _ ⟨c3, _, (fA.refl _), (d.fe (Kb (Kb (Db St)))), k3, e8, k4, k5, k6, rfl⟩
      refine bC R (fun y R => ?_) (fun y R => ?_)
      ·refine Vg rfl (cB y) (fp e7) (bS R fun w4 o7 R => sv rfl (cB y) (nX d call10 (qg L f3.1 _ _ (d0.mono jm ((((((((((c1.trans c2).trans c6).trans M).trans N).trans Q).trans D).trans G).trans H).trans I).trans d.fO)) o7) (fun v1 x0 t1 u1 d l6 c5 n0 => Vg rfl (cB y) (ow underlying39 rfl n0) (Vg rfl (cB y) (gl rfl rfl rfl) (V (fF (cB y) rfl) ?_)))))
       have h := sj R; subst h
       exact d6 _ _ ⟨t1, _, l6, (d.fe (Dr St)), j7, e7, j8, j9, k0, k1, k2, rfl⟩
      refine Vn rfl (cB y) (Vn rfl (cB y) (Vn rfl (cB y) (Vn rfl (cB y) (V (fE (cB y) rfl) ?_))))
      have h := sj R; subst h
      exact d6 _ _ ⟨a8, _, (fA.refl _), (d.fe St), j7, e7, j8, j9, k0, k1, k2, rfl⟩
     refine bC a2 (fun x a2 => ?_) (fun x a2 => ?_)
     ·refine Vg rfl (cB x) (fp q0) (Vg rfl (cB x) (fj e6 (fy d.has (Mt Mh) [(.int .i64 (((a.1).eX).Kind)), (.string ((((a.1).eX).Head).eY)), (.string ((((a.1).eX).Head).eZ)), (.string (((a.1).eX).fD)), (.string ((((a.1).eX).B).eY)), (.string ((((a.1).eX).B).eZ)), (.string ((((a.1).eX).C).eY)), (.string ((((a.1).eX).C).eZ)), (.string (((a.1).eX).fw)), (.slice j ((a.1).Tag).length k)] rfl cn bf)) (bS a2 fun w5 o8 a2 => sv rfl (cB x) (Eg d call9 (fV.gW (lM e2 t3.1 (⟨(a.1).eX, (a.1).Tag⟩ : ft) (.slice j ((a.1).Tag).length k) _ _ (p1.mono jm ((((D.trans G).trans H).trans I).trans d.fO)) (a7.mono (Pl.mono _) (((((((M.trans N).trans Q).trans D).trans G).trans H).trans I).trans d.fO)) o8)) (fun v2 d => Vg rfl (cB x) (gl rfl rfl rfl) (V (fF (cB x) rfl) ?_)))))
      have h := sj a2; subst h
      exact d7 _ _ ⟨_, (d.fe St), i9, j0, j3, e6, j4, j5, j6, rfl⟩
     refine Vn rfl (cB x) (Vn rfl (cB x) (Vn rfl (cB x) (Vn rfl (cB x) (V (fE (cB x) rfl) ?_))))
     have h := sj a2; subst h
     exact d7 _ _ ⟨_, (d.fe St), i9, j0, j3, e6, j4, j5, j6, rfl⟩
    refine bC a3 (fun u a3 => ?_) (fun u a3 => ?_)
    ·refine Vg rfl (cB u) (fp e4) (Vg rfl (cB u) (fj e5 (fy d.has (Mt Mh) [(.int .i64 (((a.1).eX).Kind)), (.string ((((a.1).eX).Head).eY)), (.string ((((a.1).eX).Head).eZ)), (.string (((a.1).eX).fD)), (.string ((((a.1).eX).B).eY)), (.string ((((a.1).eX).B).eZ)), (.string ((((a.1).eX).C).eY)), (.string ((((a.1).eX).C).eZ)), (.string (((a.1).eX).fw)), (.slice j ((a.1).Tag).length k)] rfl cn bf)) (bS a3 fun w6 o9 a3 => sv rfl (cB u) (Eg d call9 (fV.gW (lM L f3.1 (⟨(a.1).eX, (a.1).Tag⟩ : ft) (.slice j ((a.1).Tag).length k) _ _ (d0.mono jm ((((((((((c1.trans c2).trans c6).trans M).trans N).trans Q).trans D).trans G).trans H).trans I).trans d.fO)) (a7.mono (Pl.mono _) (((((((M.trans N).trans Q).trans D).trans G).trans H).trans I).trans d.fO)) o9)) (fun v3 d => Vg rfl (cB u) (gl rfl rfl rfl) (V (fF (cB u) rfl) ?_)))))
     have h := sj a3; subst h
     exact d8 _ _ ⟨_, (d.fe St), i3, e4, i4, e5, i5, i6, i7, i8, rfl⟩
    refine Vn rfl (cB u) (Vn rfl (cB u) (Vn rfl (cB u) (Vn rfl (cB u) (V (fE (cB u) rfl) ?_))))
    have h := sj a3; subst h
    exact d8 _ _ ⟨_, (d.fe St), i3, e4, i4, e5, i5, i6, i7, i8, rfl⟩
   refine bC b5 (fun t b5 => ?_) (fun t b5 => ?_)
   ·refine Vg rfl (cB t) (fh nY e3) (Vg rfl (cB t) (fj rfl (fG d.has (Mt Mh) rfl bW)) (Vg rfl (cB t) (iB az rfl a7) (Vg rfl (cB t) (gl rfl rfl rfl) (V (fF (cB t) rfl) ?_))))
    have h := sj b5; subst h
    exact d9 _ _ ⟨_, (d.fe St), h6, h7, h8, e3, h9, i0, i1, i2, rfl⟩
   refine Vn rfl (cB t) (Vn rfl (cB t) (Vn rfl (cB t) (Vn rfl (cB t) (V (fE (cB t) rfl) ?_))))
   have h := sj b5; subst h
   exact d9 _ _ ⟨_, (d.fe St), h6, h7, h8, e3, h9, i0, i1, i2, rfl⟩
  refine bC b6 (fun U b6 => ?_) (fun U b6 => ?_)
  ·refine Vg rfl (cB U) (fp p6) (Vg rfl (cB U) (gl rfl rfl rfl) (V (fF (cB U) rfl) ?_))
   have h := sj b6; subst h
   exact e0 _ _ ⟨_, (d.fe St), g8, g9, h0, h1, h2, h3, h4, h5, rfl⟩
  refine Vn rfl (cB U) (Vn rfl (cB U) (V (fE (cB U) rfl) ?_))
  have h := sj b6; subst h
  exact e0 _ _ ⟨_, (d.fe St), g8, g9, h0, h1, h2, h3, h4, h5, rfl⟩
 refine bC b7 (fun T b7 => ?_) (fun T b7 => ?_)
 ·refine Vg rfl (cB T) (fp rfl) (Vg rfl (cB T) (gl rfl rfl rfl) (V (fF (cB T) rfl) ?_))
  have h := sj b7; subst h
  exact e1 _ _ ⟨_, (d.fe St), rfl, rfl, rfl, rfl, rfl, rfl, rfl, rfl, rfl, rfl⟩
 refine Vn rfl (cB T) (Vn rfl (cB T) (V (fE (cB T) rfl) ?_))
 have h := sj b7; subst h
 exact e1 _ _ ⟨_, (d.fe St), rfl, rfl, rfl, rfl, rfl, rfl, rfl, rfl, rfl, rfl⟩
theorem uV (k : Value) (u : List eX) (r : Int) (w : World) (j : Sl (Pl fa) 9 (hp w) k u) (hm : oY u = some r) :
  fV true pg0 30 [k] w (.int .i64 r) := by
 refine cG 54 func30 rfl (fun d => sg (Wa (lr (Wa (lS (Wm ?_))))))
 refine V (iB aP rfl j) (Wm (ln (kI (fun i E W => ∃ g t, (E 8 = .int .i64 (i : Nat) ∧ E 7 = .int .i64 (u.length : Nat)) ∧ ST true ga w W (hp w) t ∧ E 3 = (.int .i64 g) ∧ E 6 = k ∧ kJ (u.drop i) g = some r) u.length j.len ⟨0, _, ⟨rfl, rfl⟩, (d.fe St), rfl, rfl, hm⟩ dc dc dc (fun _ _ _ h => by obtain ⟨_, _, o, _⟩ := h; exact o) ?_ ?_)))
 ·rintro I E W z ⟨g, t, ⟨n, p⟩, d, x, y, c⟩
  obtain ⟨a, J, G, D, H⟩ := jS z
  rw [G] at c
  refine bg (VQ (ox (enc := fa) (i := (I : Int)) (x0 := a) aP aD y n j (bB _) D) (fun Q B => V (fj rfl (oC d.has B bl aD)) (VE (gH d br (fun K N d => VO (fH (.agg (fa a).toArray) ((fa a).toArray) d rfl rfl aD (iA a) nb rfl (fun M d => ln (fi (Wh x (Wf mn (Wf jt (VB d Mh rfl rfl aW (V (iF aG rfl) ?_)))))))))))))
  refine Wi rfl (Wf mn (Wf mM (VB d Mh rfl rfl aW (V (iF aG rfl) (Wi rfl (Wf nj (VB d Mh rfl rfl aW (V (iF aG rfl) (Wi rfl (Wf im (Wf jt (VB d Mh rfl rfl aW (V (iF aG rfl) (Wi rfl ?_))))))))))))))
  refine Wf im (Wf mM (VB d Mh rfl rfl aW (V (iF aG rfl) (Wi rfl (Wf kF (Wf jt (VB d Mh rfl rfl aW (V (iF aG rfl) (Wi rfl (Wf kF (Wf mM (VB d Mh rfl rfl aW (V (iF aG rfl) (Wi rfl ?_))))))))))))))
  refine Wf mo (VB d Mh rfl rfl aW (V (iF aG rfl) (Wi rfl (Wi rfl (Wa (fL (gL (fB ?_))))))))
  replace d := d.fe (Db St)
  exact ⟨n, (wi0 .i64 (g + (wi0 .i64 ((wi0 .i64 ((wi0 .i64 ((wi0 .i64 ((wi0 .i64 ((wi0 .i64 ((wi0 .i64 ((wi0 .i64 (20 + (a.Head.eY.size : Int))) + (a.Head.eZ.size : Int))) + (a.fD.size : Int))) + (a.B.eY.size : Int))) + (a.B.eZ.size : Int))) + (a.C.eY.size : Int))) + (a.C.eZ.size : Int))) + (a.fw.size : Int))))), _, ⟨rfl, p⟩, (d.fe St), rfl, y, (by rw [H]; exact c)⟩
 rintro E W ⟨g, t, ⟨n, p⟩, d, x, y, c⟩
 rw [bE] at c
 exact fB (sg (Wh x (Wa (lt (rQ c d)))))
theorem uK (H : Value) (Q : List Key) (u : Value) (J : List ft) (r : Int) (w : World) (B : Sl lF 2 (hp w) H Q) (D : Sl jk 10 (hp w) u J) (hm : pc Q J = some r) :
  fV true pg0 6 [H, u] w (.int .i64 r) := by
 refine cG 45 func6 rfl (fun d => sg (Wa (lr (Wa (lS (Wm ?_))))))
 refine V (iB du rfl B) (Wm (ln (kI (fun i E W => ∃ t N, (E 12 = .int .i64 (i : Nat) ∧ E 11 = .int .i64 (Q.length : Nat)) ∧ ST true ga w W (hp w) N ∧ E 1 = u ∧ E 5 = (.int .i64 t) ∧ E 10 = H ∧ jz J (Q.drop i) t = some r) Q.length B.len ⟨0, _, ⟨rfl, rfl⟩, (d.fe St), rfl, rfl, rfl, hm⟩ dc dc dc (fun _ _ _ h => by obtain ⟨_, _, p, _⟩ := h; exact p) ?_ ?_)))
 ·rintro c3 E W b5 ⟨t, N, ⟨o, q⟩, d, U, Y, Z, g⟩
  obtain ⟨k, d4, b9, b7, c0⟩ := jS b5
  rw [b9] at g
  refine bg (VQ (qP (i := (c3 : Int)) (x0 := k) lF.out du dP Z o B (bB _) b7) (fun d8 ⟨_, ⟨d9, rfl, a2⟩, b6⟩ => V (fj rfl (oC d.has b6 isAgg72 dP)) (VE (gH d cR (fun d5 d7 d => ?_)))))
  obtain ⟨v, A, rfl⟩ := a2.form
  refine VO (fH (.agg #[(.string k.fD), (.slice v k.Key.length A)]) (#[(.string k.fD), (.slice v k.Key.length A)]) d rfl rfl dP oc nb rfl (fun d6 d => ln (fi (Wh Y (Wf tj (VB d Mh rfl rfl aW (V (iF aG rfl) (Wi rfl (Wf tG (VB d Mh rfl rfl bW (V (iB az rfl a2) (Wi rfl (Wi rfl (Wa ?_))))))))))))))
  refine fL (gL (fB ?_))
  replace d := d.fe (Db St)
  exact ⟨o, (wi0 .i64 (t + (wi0 .i64 ((wi0 .i64 (10 + (k.fD.size : Int))) + (k.Key.length : Int))))), _, ⟨rfl, q⟩, (d.fe St), U, rfl, Z, (by rw [c0]; exact g)⟩
 rintro E W ⟨t, N, ⟨o, q⟩, d, U, Y, Z, g⟩
 rw [bE] at g
 refine fB (fq (sg (Wh U (V (iB dF rfl D) (Wm (ln (CJ g (fun G E W => ∃ M, ST true ga w W (hp w) M ∧ E 5 = (.int .i64 G)) (fun G a5 => ?_) ?_)))))))
 ·refine kI (fun i E W => ∃ j x, (E 29 = .int .i64 (i : Nat) ∧ E 28 = .int .i64 (J.length : Nat)) ∧ ST true ga w W (hp w) x ∧ E 5 = (.int .i64 j) ∧ E 27 = u ∧ kK (J.drop i) j = some G) J.length D.len ⟨t, _, ⟨rfl, rfl⟩, (d.fe St), Y, rfl, a5⟩ dc dc dc (fun _ _ _ h => by obtain ⟨_, _, p, _⟩ := h; exact p) ?_ ?_
  ·rintro c1 E W a3 ⟨j, x, ⟨o, q⟩, d, y, z, c⟩
   obtain ⟨a, c4, a9, O, P⟩ := jS a3
   rw [a9] at c
   refine bg (VQ (qP (i := (c1 : Int)) (x0 := a) jk.out dF bf z o D (bB _) O) (fun d0 ⟨_, ⟨d1, rfl, I⟩, F⟩ => V (fj rfl (oC d.has F cn bf)) (VE (gH d bA (fun c5 c9 d => ?_)))))
   obtain ⟨K, T, rfl⟩ := I.form
   let a0 := (C1 a.eX.Kind a.eX.Head.eY a.eX.Head.eZ a.eX.fD a.eX.B.eY a.eX.B.eZ a.eX.C.eY a.eX.C.eZ a.eX.fw K a.Tag.length T)
   refine VO (fH (.agg a0.toArray) (a0.toArray) d rfl rfl bf oc nb rfl (fun c6 d => ln ?_))
   replace d := d.drew
   have n := d.has.fe (Kb Sn)
   refine gX n gE (X 0 rfl n (fp y) (X 1 rfl n (fh nn rfl) (XH 2 rfl n (fun _ s => fj rfl (fy s Mh (fa a.eX) rfl bl aD)) (X 5 rfl n (fh nY rfl) (XH 6 rfl n (fun _ s => fj rfl (fG s Mh rfl bW)) (X 7 rfl n (iB az rfl I) (XE 3 rfl (gk (cs := (fa a.eX).toArray) d (iU rfl) (nq aP aD br) (fun c7 R d => ?_)))))))))
   have n := d.has.fe (Db (Kb Sn))
   refine ⟨n, (bS c fun c2 L c => XE 4 rfl (Eg d call30 (uV (.slice (some ⟨R, 0, none⟩) 1 1) ([a.eX]) _ _ (Sl.lit (enc := fa) (l := [a.eX]) iC rfl nb rfl (d.at_ Mh)) L) (fun c8 d => ?_)))⟩
   have n := d.has.fe (Db (Kb Sn))
   refine ⟨n, (X 8 rfl n (gl rfl rfl rfl) (X 9 rfl n (gl rfl rfl rfl) (X 10 rfl n (fT rfl) (iH kr (gL (fB ?_))))))⟩
   replace d := d.fe (Db (Db St))
   exact ⟨o, (wi0 .i64 (j + (wi0 .i64 (c2 + (a.Tag.length : Int))))), _, ⟨rfl, q⟩, (d.fe St), rfl, z, (by rw [P]; exact c)⟩
  rintro E W ⟨j, x, ⟨o, q⟩, d, y, z, c⟩
  rw [bE] at c
  refine fB ?_
  obtain rfl := sj c
  exact ⟨_, (d.fe St), y⟩
 rintro d3 E W ⟨M, d, b4⟩ a4
 exact sg (Wh b4 (Wa (lt (rQ a4 d))))
theorem me (M : ByteArray) (r : Bool) (w : World) (hm : jn M = some r) :
  fV true pg0 33 [(.string M)] w (.bool r) := by
 refine cG 49 func33 rfl (fun d => sg (Wa (lS (Wm (V (lZ rfl rfl rfl) (Wm (LJ hm (fun c7 E W => ∃ L3, ST true ga w W (hp w) L3 ∧ E 0 = (.string M) ∧ E 11 = (.bool c7)) 4 ?_ (fun c7 K a5 => ?_))))))))
 ·rintro x2 E W ⟨L3, d, q, e6⟩ f7
  refine Wh e6 (LJ f7 (fun c6 E W => ∃ d3, ST true ga w W (hp w) d3 ∧ E 0 = (.string M) ∧ E 16 = (.bool c6)) 4 ?_ (fun c6 x a4 => ?_))
  ·rintro g4 E W ⟨d3, d, p, f4⟩ f0
   refine Wh f4 (LJ f0 (fun c5 E W => ∃ d4, ST true ga w W (hp w) d4 ∧ E 0 = (.string M) ∧ E 21 = (.bool c5)) 4 ?_ (fun c5 u a3 => ?_))
   ·rintro g5 E W ⟨d4, d, f5, f6⟩ Q
    refine ln (CI Q f6 (fun e9 Q => ?_) (fun e9 Q => ?_))
    ·refine sg (Wa (lt (fP ?_)))
     obtain rfl := sj Q
     exact rP d
    refine kS (Wa (ln (jd (nc (fun m E W => ∃ y F, ST true ga w W (hp w) F ∧ E 0 = (.string M) ∧ E 3 = (.int .i64 y) ∧ iR M m y = some r) iv ⟨0, _, (d.fe St), f5, rfl, Q⟩ ?_))))
    rintro m E W ⟨y, F, d, T, U, c⟩
    cases m with
    | zero => rw [iR] at c; cases c
    | succ f1 =>
     refine fq (sg (Wh U (Wh T (V (iF aG rfl) (Wi rfl (ln (CI c rfl (fun c8 c => ?_) (fun c8 c => ?_))))))))
     ·refine kn (fq (bg (Wh T (Wh U (bS c fun h a9 c => V (oh (i := y) aG rfl rfl (np a9) (pu a9)) (Wa (lr ?_)))))))
      refine Wm (Wi rfl (Wm (LJ c (fun c4 E W => ∃ L, ST true ga w W (hp w) L ∧ E 0 = (.string M) ∧ E 3 = (.int .i64 y) ∧ E 4 = (.int .u8 (h.toNat : Int)) ∧ E 36 = (.bool c4)) 3 ?_ (fun c4 J a2 => ?_))))
      ·rintro f2 E W ⟨L, d, n, o, N, d5⟩ d0
       refine Wh d5 (LJ d0 (fun c2 E W => ∃ O, ST true ga w W (hp w) O ∧ E 0 = (.string M) ∧ E 3 = (.int .i64 y) ∧ E 4 = (.int .u8 (h.toNat : Int)) ∧ E 44 = (.bool c2)) 7 ?_ (fun c2 H Z => ?_))
       ·rintro g1 E W ⟨O, d, b9, c0, d6, d7⟩ d1
        refine Wh d7 (LJ d1 (fun c1 E W => ∃ P, ST true ga w W (hp w) P ∧ E 0 = (.string M) ∧ E 3 = (.int .i64 y) ∧ E 48 = (.bool c1)) 3 ?_ (fun c1 G Y => ?_))
        ·rintro g2 E W ⟨P, d, d8, d9, e0⟩ D
         refine ln (CI D e0 (fun c9 D => ?_) (fun c9 D => ?_))
         ·refine sg (Wa (lt (jr (fP (fP (jr (fP ?_)))))))
          obtain rfl := sj D
          exact rP d
         exact gA (gL (fB (fi (Wh d9 (Wi rfl (Wa (ln ⟨f1, bY _, (wi0 .i64 (y + 1)), _, (d.fe St), d8, rfl, D⟩)))))))
        refine bC G (fun k G => ?_) (fun k G => ?_)
        ·refine ug k (fp d6) (ug k (gl rfl rfl rfl) (V (fF (cB k) rfl) ?_))
         obtain rfl := sj G
         exact Y _ _ ⟨_, (d.fe St), b9, c0, rfl⟩
        refine un k (un k (V (fE (cB k) rfl) ?_))
        obtain rfl := sj G
        exact Y _ _ ⟨_, (d.fe St), b9, c0, rfl⟩
       refine bC H (fun a H => ?_) (fun a H => ?_)
       ·refine ug a (fp N) (ug a (gl rfl rfl rfl) (ug a (fp rfl) (LJ H (fun c3 E W => ∃ R, ST true ga w W (hp w) R ∧ E 0 = (.string M) ∧ E 3 = (.int .i64 y) ∧ E 4 = (.int .u8 (h.toNat : Int)) ∧ E 37 = (.bool f2) ∧ E 43 = (.bool c3)) 3 ?_ (fun c3 I s => ?_))))
        ·rintro g3 E W ⟨R, d, e1, e2, e3, e4, e7⟩ d2
         refine V (fF (e4.trans (cB a)) e7) ?_
         obtain rfl := sj d2
         exact Z _ _ ⟨_, (d.fe St), e1, e2, e3, rfl⟩
        refine bC I (fun t I => ?_) (fun t I => ?_)
        ·refine un t (un t (ug a (fF (cB t) rfl) ?_))
         obtain rfl := sj I
         exact s _ _ ⟨_, (d.fe St), n, o, N, rfl, rfl⟩
        refine ug t (fp N) (ug t (gl rfl rfl rfl) (ug a (fE (cB t) rfl) ?_))
        obtain rfl := sj I
        exact s _ _ ⟨_, (d.fe St), n, o, N, rfl, rfl⟩
       refine un a (un a (un a (Vu rfl rfl (Vu rfl rfl (un a (V (fE (cB a) rfl) ?_))))))
       obtain rfl := sj H
       exact Z _ _ ⟨_, (d.fe St), n, o, N, rfl⟩
      refine bC J (fun j J => ?_) (fun j J => ?_)
      ·refine un j (un j (V (fF (cB j) rfl) ?_))
       obtain rfl := sj J
       exact a2 _ _ ⟨_, (d.fe St), T, U, rfl, rfl⟩
      refine ug j (fp rfl) (ug j (gl rfl rfl rfl) (V (fE (cB j) rfl) ?_))
      obtain rfl := sj J
      exact a2 _ _ ⟨_, (d.fe St), T, U, rfl, rfl⟩
     exact mZ (lY (lY (qF (fB (sg (Wa (lt (rQ c d))))))))
   refine bC u (fun g u => ?_) (fun g u => ?_)
   ·refine un g (un g (un g (V (fF (cB g) rfl) ?_)))
    obtain rfl := sj u
    exact a3 _ _ ⟨_, (d.fe St), p, rfl⟩
   refine ug g (fp p) (bS u fun f8 v u => ug g (oh (i := 0) aG rfl rfl (np v) (pu v)) (ug g (gl rfl rfl rfl) (V (fE (cB g) rfl) ?_)))
   obtain rfl := sj u
   exact a3 _ _ ⟨_, (d.fe St), p, rfl⟩
  refine bC x (fun B x => ?_) (fun B x => ?_)
  ·refine un B (un B (un B (V (fF (cB B) rfl) ?_)))
   obtain rfl := sj x
   exact a4 _ _ ⟨_, (d.fe St), q, rfl⟩
  refine ug B (fp q) (bS x fun f9 A x => ug B (oh (i := 0) aG rfl rfl (np A) (pu A)) (ug B (gl rfl rfl rfl) (V (fE (cB B) rfl) ?_)))
  obtain rfl := sj x
  exact a4 _ _ ⟨_, (d.fe St), q, rfl⟩
 refine bC K (fun z K => ?_) (fun z K => ?_)
 ·refine un z (un z (un z (V (fF (cB z) rfl) ?_)))
  obtain rfl := sj K
  exact a5 _ _ ⟨_, (d.fe St), rfl, rfl⟩
 refine ug z (fp rfl) (ug z (iF aG rfl) (ug z (gl rfl rfl rfl) (V (fE (cB z) rfl) ?_)))
 obtain rfl := sj K
 exact a5 _ _ ⟨_, (d.fe St), rfl, rfl⟩
theorem pa (i : fu) (r : Bool) (w : World) (hm : kU i = some r) :
  fV true pg0 78 [(.agg (fC i).toArray)] w (.bool r) := by
 refine cG 11 func78 rfl (fun d => sg (VE (hZ d rfl (fun H J d => Wa (lr (Wf jt (VB d Mh rfl rfl aW (bS hm fun K y hm => VE (Eg d call33 (me i.eY _ _  y) (fun I d => Wm (LJ hm (fun k E W => ∃ j, ST true ga w W (hp w) j ∧ E 2 = (.bool false) ∧ E 10 = (.bool k)) 4 ?_ (fun k a g => ?_))))))))))))
 ·rintro G E W ⟨j, d, B, x⟩ t
  exact Wg x (lt (rQ t d))
 refine bC a (fun c a => ?_) (fun c a => ?_)
 ·refine ug c (fh mM rfl) (ug c (fj rfl (fG d.has Mh rfl aW)) (bS a fun D u a => mD c (Eg d call33 (me i.eZ _ _  u) (fun z d => V (fF (cB c) rfl) ?_))))
  obtain rfl := sj a
  exact g _ _ ⟨_, (d.fe (Db St)), rfl, rfl⟩
 refine un c (un c (un c (V (fE (cB c) rfl) ?_)))
 obtain rfl := sj a
 exact g _ _ ⟨_, (d.fe (Db St)), rfl, rfl⟩
theorem wx (t u : fu) (r : Bool) (w : World) (hm : ob t u = some r) :
  fV true pg0 79 [(.agg (fC t).toArray), (.agg (fC u).toArray)] w (.bool r) := by
 refine cG 24 func79 rfl (fun d => sg (VE (hZ d rfl (fun T Y d => VE (hZ d rfl (fun U Z d => Wa (lr (Wf jt (VB d (Mt Mh) rfl rfl aW (Wf jt (VB d Mh rfl rfl aW (V (lZ rfl rfl rfl) ?_))))))))))))
 refine Wm (LJ hm (fun z E W => ∃ x, ST true ga w W (hp w) x ∧ E 4 = (.bool false) ∧ E 23 = (.bool z)) 13 ?_ (fun z g j => ?_))
 ·rintro N E W ⟨x, d, M, H⟩ D
  exact Wg H (lt (rQ D d))
 refine bC g (fun a g => ?_) (fun a g => ?_)
 ·refine un a (un a (un a (un a (un a (un a (Vu rfl rfl (Vu rfl rfl (Vu rfl rfl (Vu rfl rfl (Vu rfl rfl (un a (V (fF (cB a) rfl) ?_))))))))))))
  obtain rfl := sj g
  exact j _ _ ⟨_, (d.fe (Db (Db St))), rfl, rfl⟩
 refine ug a (fh jt rfl) (ug a (fj rfl (fG d.has (Mt Mh) rfl aW)) (ug a (fh jt rfl) (ug a (fj rfl (fG d.has Mh rfl aW)) (ug a (lZ rfl rfl rfl) (ug a (fp rfl) (LJ g (fun B E W => ∃ y, ST true ga w W (hp w) y ∧ E 4 = (.bool false) ∧ E 10 = (.bool (oV t.eY u.eY)) ∧ E 22 = (.bool B)) 6 ?_ (fun B i k => ?_)))))))
 ·rintro Q E W ⟨y, d, I, J, K⟩ G
  refine V (fE (J.trans (cB a)) K) ?_
  obtain rfl := sj G
  exact j _ _ ⟨_, (d.fe St), I, rfl⟩
 refine bC i (fun c i => ?_) (fun c i => ?_)
 ·refine ug c (fh mM rfl) (ug c (fj rfl (fG d.has (Mt Mh) rfl aW)) (ug c (fh mM rfl) (ug c (fj rfl (fG d.has Mh rfl aW)) (ug c (lZ rfl rfl rfl) (ug a (fF (cB c) rfl) ?_)))))
  obtain rfl := sj i
  exact k _ _ ⟨_, (d.fe (Db (Db St))), rfl, rfl, rfl⟩
 refine un c (un c (un c (un c (un c (ug a (fE (cB c) rfl) ?_)))))
 obtain rfl := sj i
 exact k _ _ ⟨_, (d.fe (Db (Db St))), rfl, rfl, rfl⟩
theorem ra (g : eX) (r : Bool) (w : World) (hm : iP g = some r) :
  fV true pg0 46 [(.agg (fa g).toArray)] w (.bool r) := by
 refine cG 93 func46 rfl (fun d => sg (VE (hZ d rfl (fun W2 M d => Wa (lr (VE (gH d dC (fun W4 n d => lS ?_))))))))
 refine Wf mn (VA d (Mt Mh) (fC g.Head) bk aJ (bS hm fun r5 h2 hm => VE (Eg d call78 (pa g.Head _ _  h2) (fun W7 d => V (kN rfl) (ln (CI hm rfl (fun h0 hm => ?_) (fun h0 hm => ?_)))))))
 ·refine sg (Wa (ln ?_))
  replace d := d.fe (Db (Db St))
  refine gd (fP ?_)
  obtain rfl := sj hm
  exact rP d
 refine kS (Wf iX (VB d (Mt Mh) rfl rfl bP (Wi rfl (ln (CI hm rfl (fun h1 hm => ?_) (fun h1 hm => ?_))))))
 ·refine sg (Wf nj (VB d (Mt Mh) rfl rfl aW (bS hm fun i4 f7 hm => VE (Eg d call33 (me g.fD _ _  f7) (fun i1 d => Wm (LJ hm (fun e1 E W => ∃ c8, ST true ga w W (hp w) ((n, Ol (fC K0) 33) :: ((M, Ol (fa g) 35) :: c8)) ∧ E 1 = (.pointer (some ⟨M, 0, none⟩)) ∧ E 2 = (.bool false) ∧ E 3 = (.pointer (some ⟨n, 0, none⟩)) ∧ E 19 = (.bool e1)) 5 ?_ (fun e1 T s => ?_)))))))
  ·rintro i6 E W ⟨c8, d, o, d6, f9, g0⟩ f0
   refine Wh g0 (LJ f0 (fun e0 E W => ∃ c9, ST true ga w W (hp w) ((M, Ol (fa g) 35) :: c9) ∧ E 1 = (.pointer (some ⟨M, 0, none⟩)) ∧ E 2 = (.bool false) ∧ E 25 = (.bool e0)) 5 ?_ (fun e0 Q a5 => ?_))
   ·rintro i7 E W ⟨c9, d, g1, d7, g2⟩ f1
    refine Wh g2 (LJ f1 (fun d9 E W => ∃ d0, ST true ga w W (hp w) d0 ∧ E 2 = (.bool false) ∧ E 30 = (.bool d9)) 4 ?_ (fun d9 N a4 => ?_))
    ·rintro i8 E W ⟨d0, d, i3, g3⟩ f2
     refine Wg g3 (lt (fP ?_))
     obtain rfl := sj f2
     exact rP d
    refine bC N (fun x N => ?_) (fun x N => ?_)
    ·refine ug x (fh mo g1) (ug x (fj rfl (fG d.has Mh rfl aW)) (ug x (lZ rfl rfl rfl) (V (fF (cB x) rfl) ?_)))
     obtain rfl := sj N
     exact a4 _ _ ⟨_, (d.fe (Db St)), d7, rfl⟩
    refine un x (un x (un x (V (fE (cB x) rfl) ?_)))
    obtain rfl := sj N
    exact a4 _ _ ⟨_, (d.fe (Db St)), d7, rfl⟩
   refine bC Q (fun k Q => ?_) (fun k Q => ?_)
   ·refine ug k (fh kF o) (ug k (fj rfl (fy d.has (Mt Mh) (fC g.C) rfl bk aJ)) (ug k (fj f9 (fy d.has Mh (fC K0) rfl bk aJ)) (ug k (qK rfl rfl (lQ ez) (oz (ny _ g.C K0))) (V (fF (cB k) rfl) ?_))))
    obtain rfl := sj Q
    exact a5 _ _ ⟨_, (d.fe (Db St)), o, d6, rfl⟩
   refine un k (un k (un k (un k (V (fE (cB k) rfl) ?_))))
   obtain rfl := sj Q
   exact a5 _ _ ⟨_, (d.fe (Db St)), o, d6, rfl⟩
  refine bC T (fun j T => ?_) (fun j T => ?_)
  ·refine ug j (fh im rfl) (ug j (fj rfl (fy d.has (Mt Mh) (fC g.B) rfl bk aJ)) (ug j (fj rfl (fy d.has Mh (fC K0) rfl bk aJ)) (ug j (qK rfl rfl (lQ ez) (oz (ny _ g.B K0))) (V (fF (cB j) rfl) ?_))))
   obtain rfl := sj T
   exact s _ _ ⟨_, (d.fe St), rfl, rfl, rfl, rfl⟩
  refine un j (un j (un j (un j (V (fE (cB j) rfl) ?_))))
  obtain rfl := sj T
  exact s _ _ ⟨_, (d.fe St), rfl, rfl, rfl, rfl⟩
 let a0 := ((fa g).toArray : Array Value)
 let h : Value := (.pointer (some ⟨M, 0, none⟩))
 refine kS (Wf nj (VB d (Mt Mh) rfl rfl aW (V (lZ rfl rfl rfl) (Wm (LJ hm (fun c1 E W => ∃ d1, ST true ga w W (hp w) ((n, Ol (fC K0) 33) :: ((M, Obj.cells a0 35 (0, 0)) :: d1)) ∧ E 1 = h ∧ E 3 = (.pointer (some ⟨n, 0, none⟩)) ∧ E 39 = (.bool c1)) 5 ?_ (fun c1 I a3 => ?_))))))
 ·rintro i9 E W ⟨d1, d, u, d8, g4⟩ i
  refine ln (CI i g4 (fun e7 i => ?_) (fun e7 i => ?_))
  ·refine sg (Wa (ln ?_))
   replace d := d.fe (Db (Db St))
   refine gd (fP ?_)
   obtain rfl := sj i
   exact rP d
  refine kS (V (fh iX u) (VB d (Mt Mh) rfl rfl bP (Wi rfl (ln (CI i rfl (fun e8 i => ?_) (fun e8 i => ?_))))))
  ·refine sg (V (fh kF u) (VA d (Mt Mh) (fC g.C) bk aJ (V (fj d8 (fy d.has Mh (fC K0) rfl bk aJ)) (V (qK rfl rfl (lQ ez) (oz (ny _ g.C K0))) (Wm (LJ i (fun e2 E W => ∃ d2, ST true ga w W (hp w) d2 ∧ E 51 = (.bool e2)) 4 ?_ (fun e2 U v => ?_)))))))
   ·rintro j0 E W ⟨d2, d, g5⟩ f3
    refine Wg g5 (lt (fP ?_))
    obtain rfl := sj f3
    exact rP d
   refine bC U (fun y U => ?_) (fun y U => ?_)
   ·refine ug y (fh mo u) (ug y (fj rfl (fG d.has (Mt Mh) rfl aW)) (ug y (lZ rfl rfl rfl) (V (fF (cB y) rfl) ?_)))
    obtain rfl := sj U
    exact v _ _ ⟨_, (d.fe (Db (Db St))), rfl⟩
   refine un y (un y (un y (V (fE (cB y) rfl) ?_)))
   obtain rfl := sj U
   exact v _ _ ⟨_, (d.fe (Db (Db St))), rfl⟩
  refine kS (V (fh iX u) (VB d (Mt Mh) rfl rfl bP (Wi rfl (ln (CI i rfl (fun e9 i => ?_) (fun e9 i => ?_))))))
  ·refine sg (V (fh kF u) (VA d (Mt Mh) (fC g.C) bk aJ (V (fj d8 (fy d.has Mh (fC K0) rfl bk aJ)) (V (qK rfl rfl (lQ ez) (oz (ny _ g.C K0))) (Wm (LJ i (fun e4 E W => ∃ d3, ST true ga w W (hp w) ((M, Obj.cells a0 35 (0, 0)) :: d3) ∧ E 1 = h ∧ E 67 = (.bool e4)) 8 ?_ (fun e4 Y a9 => ?_)))))))
   ·rintro j3 E W ⟨d3, d, g6, g7⟩ f4
    refine Wh g7 (LJ f4 (fun e3 E W => ∃ d4, ST true ga w W (hp w) d4 ∧ E 72 = (.bool e3)) 4 ?_ (fun e3 J A => ?_))
    ·rintro j4 E W ⟨d4, d, g8⟩ f5
     refine Wg g8 (lt (fP ?_))
     obtain rfl := sj f5
     exact rP d
    refine bC J (fun z J => ?_) (fun z J => ?_)
    ·refine ug z (fh mo g6) (ug z (fj rfl (fG d.has Mh rfl aW)) (bS J fun i5 f8 J => mD z (Eg d call33 (me g.fw _ _  f8) (fun i2 d => V (fF (cB z) rfl) ?_))))
     obtain rfl := sj J
     exact A _ _ ⟨_, (d.fe (Db St)), rfl⟩
    refine un z (un z (un z (V (fE (cB z) rfl) ?_)))
    obtain rfl := sj J
    exact A _ _ ⟨_, (d.fe (Db St)), rfl⟩
   refine bC Y (fun a Y => ?_) (fun a Y => ?_)
   ·refine ug a (fh im u) (ug a (fh jt rfl) (ug a (fj rfl (fG d.has (Mt Mh) rfl aW)) (ug a (fh mn u) (ug a (fh jt rfl) (ug a (fj rfl (fG d.has (Mt Mh) rfl aW)) (ug a (lZ rfl rfl rfl) (V (fF (cB a) rfl) ?_)))))))
    obtain rfl := sj Y
    exact a9 _ _ ⟨_, (d.fe (Db St)), u, rfl⟩
   refine un a (un a (un a (un a (un a (un a (un a (V (fE (cB a) rfl) ?_)))))))
   obtain rfl := sj Y
   exact a9 _ _ ⟨_, (d.fe (Db St)), u, rfl⟩
  refine kn ?_
  replace d := d.fe (Db St)
  refine sg (V (fh iX u) (VB d Mh rfl rfl bP (Wi rfl (Wm (LJ i (fun c0 E W => ∃ d5, ST true ga w W (hp w) ((M, Obj.cells a0 35 (0, 0)) :: d5) ∧ E 1 = h ∧ E 80 = (.bool c0)) 4 ?_ (fun c0 K a2 => ?_))))))
  ·rintro j5 E W ⟨d5, d, p, g9⟩ f6
   refine Wh g9 (LJ f6 (fun R E W => ∃ F, ST true ga w W (hp w) ((M, Obj.cells a0 35 (0, 0)) :: F) ∧ E 1 = h ∧ E 85 = (.bool R)) 4 ?_ (fun R H q => ?_))
   ·rintro h9 E W ⟨F, d, O, e5⟩ c3
    refine Wh e5 (LJ c3 (fun P E W => ∃ L, ST true ga w W (hp w) L ∧ E 92 = (.bool P)) 6 ?_ (fun P G Z => ?_))
    ·rintro i0 E W ⟨L, d, e6⟩ c4
     exact Wg e6 (lt (rQ c4 d))
    refine bC G (fun c G => ?_) (fun c G => ?_)
    ·refine ug c (fh im O) (ug c (fj rfl (fy d.has Mh (fC g.B) rfl bk aJ)) (ug c (fh kF O) (ug c (fj rfl (fy d.has Mh (fC g.C) rfl bk aJ)) (bS G fun h6 c5 G => mD c (Eg d call79 (wx g.B g.C _ _  c5) (fun h3 d => V (fF (cB c) rfl) ?_))))))
     obtain rfl := sj G
     exact Z _ _ ⟨_, (d.fe (Db St)), rfl⟩
    refine un c (un c (un c (un c (un c (V (fE (cB c) rfl) ?_)))))
    obtain rfl := sj G
    exact Z _ _ ⟨_, (d.fe (Db St)), rfl⟩
   refine bC H (fun D H => ?_) (fun D H => ?_)
   ·refine ug D (fh kF p) (ug D (fj rfl (fy d.has Mh (fC g.C) rfl bk aJ)) (bS H fun h7 c6 H => mD D (Eg d call78 (pa g.C _ _  c6) (fun h4 d => V (fF (cB D) rfl) ?_))))
    obtain rfl := sj H
    exact q _ _ ⟨_, (d.fe St), p, rfl⟩
   refine un D (un D (un D (V (fE (cB D) rfl) ?_)))
   obtain rfl := sj H
   exact q _ _ ⟨_, (d.fe St), p, rfl⟩
  refine bC K (fun B K => ?_) (fun B K => ?_)
  ·refine ug B (fh mo u) (ug B (fj rfl (fG d.has Mh rfl aW)) (ug B (lZ rfl rfl rfl) (V (fF (cB B) rfl) ?_)))
   obtain rfl := sj K
   exact a2 _ _ ⟨_, (d.fe St), u, rfl⟩
  refine un B (un B (un B (V (fE (cB B) rfl) ?_)))
  obtain rfl := sj K
  exact a2 _ _ ⟨_, (d.fe St), u, rfl⟩
 refine bC I (fun t I => ?_) (fun t I => ?_)
 ·refine un t (un t (un t (un t (V (fF (cB t) rfl) ?_))))
  obtain rfl := sj I
  exact a3 _ _ ⟨_, (d.fe St), rfl, rfl, rfl⟩
 refine ug t (fh im rfl) (ug t (fj rfl (fy d.has (Mt Mh) (fC g.B) rfl bk aJ)) (bS I fun h8 c7 I => mD t (Eg d call78 (pa g.B _ _  c7) (fun h5 d => ug t (kN rfl) (V (fE (cB t) rfl) ?_)))))
 obtain rfl := sj I
 exact a3 _ _ ⟨_, (d.fe St), rfl, rfl, rfl⟩
theorem qU (a : ft) (j : Value) (r : Bool) (w : World) (g : Sl (Pl (fl .u8)) 1 (hp w) j a.Tag) (hm : ml a = some r) :
  fV true pg0 20 [(.agg #[(.int .i64 a.eX.Kind), (.string a.eX.Head.eY), (.string a.eX.Head.eZ), (.string a.eX.fD), (.string a.eX.B.eY), (.string a.eX.B.eZ), (.string a.eX.C.eY), (.string a.eX.C.eZ), (.string a.eX.fw), j])] w (.bool r) := by
 refine cG 12 func20 rfl (fun d => sg ?_)
 obtain ⟨B, D, rfl⟩ := g.form
 refine VE (hZ d rfl (fun H J d => Wa (lr (Wf nn (VA d Mh (fa a.eX) bl aD (bS hm fun K z hm => VE (Eg d call46 (ra a.eX _ _  z) (fun I d => Wm (LJ hm (fun u E W => ∃ t, ST true ga w W (hp w) t ∧ E 2 = (.bool false) ∧ E 11 = (.bool u)) 5 ?_ (fun u i k => ?_))))))))))
 ·rintro M E W ⟨t, d, G, y⟩ x
  exact Wg y (lt (rQ x d))
 refine bC i (fun c i => ?_) (fun c i => ?_)
 ·refine ug c (fh nY rfl) (ug c (fj rfl (fG d.has Mh rfl bW)) (ug c (iB az rfl g) (ug c (gl rfl rfl rfl) (V (fF (cB c) rfl) ?_))))
  obtain rfl := sj i
  exact k _ _ ⟨_, (d.fe (Db St)), rfl, rfl⟩
 refine un c (un c (un c (un c (V (fE (cB c) rfl) ?_))))
 obtain rfl := sj i
 exact k _ _ ⟨_, (d.fe (Db St)), rfl, rfl⟩
theorem qu (x : Int) (r : ByteArray) (w : World) (hm : lN x = some r) :
  fV true pg0 75 [(.int .i64 x)] w (.string r) := by
 refine cG 22 func75 rfl (fun d => sg (Wa (lr (Wa (ln (fq (jd (nc (fun m E W => ∃ c j t, ST true ga w W (hp w) t ∧ E 0 = (.int .i64 c) ∧ E 3 = (.string j) ∧ km m c j = some r) iv ⟨x, zS, _, (d.fe St), rfl, rfl, hm⟩ ?_))))))))
 rintro m E W ⟨c, j, t, d, i, u, g⟩
 let N := (Int.tmod c 128)
 cases m with
 | zero => rw [km] at g; cases g
 | succ D =>
  refine fq (sg (Wh i (Wi rfl (ln (CI g rfl (fun y g => ?_) (fun y g => ?_))))))
  ·refine kn (bg (Wh u (Wh i (V (tJ (k := .i64) (a := c) (b := 128) (v := (.int .i64 N)) rfl rfl dc rfl) (Wi rfl (V (lx (k' := .i64) (a := (wi0 .i64 (128 + N))) dl bd rfl) (VE (gk (cs := [(.int .u8 (IntKind.u8.wrap (wi0 .i64 (128 + N))))].toArray) d (iU rfl) (nq az cP dn) (fun H J d => V (lH az bd aG rfl (Sl.lit (enc := (fl .u8)) (l := [(IntKind.u8.wrap (wi0 .i64 (128 + N)))]) (fun _ => rfl) rfl nb rfl (d.at_ Mh))) (bS g fun G z g => V (oD rfl rfl z) (Wa ?_)))))))))))
   refine ln ?_
   replace d := d.fe (Db St)
   exact fi (Wh i (V (tJ (k := .i64) (a := c) (b := 128) (v := (.int .i64 (wi0 .i64 (Int.tdiv c 128)))) rfl rfl dc rfl) (Wa (fL (gL (fB ⟨D, bY _, (wi0 .i64 (Int.tdiv c 128)), G, _, (d.fe St), rfl, rfl, g⟩))))))
  refine mZ (lY (lY (qF (fB (sg (Wh u (Wh i (V (lx (k' := .i64) (a := c) dl bd rfl) (VE (gk (cs := [(.int .u8 (IntKind.u8.wrap c))].toArray) d (iU rfl) (nq az cP dn) (fun I K d => V (lH az bd aG rfl (Sl.lit (enc := (fl .u8)) (l := [(IntKind.u8.wrap c)]) (fun _ => rfl) rfl nb rfl (d.at_ Mh))) (bS g fun M B g => V (oD rfl rfl B) (Wa (ln ?_))))))))))))))
  exact gd (rQ g d)
theorem mR (a r : ByteArray) (w : World) (hm : iO a = some r) :
  fV true pg0 47 [(.string a)] w (.string r) := by
 refine cG 8 func47 rfl (fun d => sg (Wa (lr (Wm (V (iF aG rfl) (bS hm fun j c hm => VE (Eg d call75 (qu (a.size : Int) _ _  c) (fun i d => Wm (bS hm fun k g hm => V (oD rfl rfl g) ?_)))))))))
 exact Wa (lt (rQ hm d))
theorem oX (a : fu) (r : ByteArray) (w : World) (hm : kX a = some r) :
  fV true pg0 76 [(.agg (fC a).toArray)] w (.string r) := by
 refine cG 10 func76 rfl (fun d => sg (VE (hZ d rfl (fun y z d => Wa (ln (fq ?_))))))
 replace d := d.drew
 have h := d.has.fe (Kb Sn)
 refine gX h gE (X 0 rfl h (fh jt rfl) (XH 1 rfl h (fun _ n => fj rfl (fG n Mh rfl aW)) (X 3 rfl h (fh mM rfl) (XH 4 rfl h (fun _ n => fj rfl (fG n Mh rfl aW)) (bS hm fun t c hm => XE 2 rfl (Eg d call47 (mR a.eY _ _  c) (fun j d => ?_)))))))
 have h := d.has.fe (Kb Sn)
 refine ⟨h, (bS hm fun u g hm => XE 5 rfl (Eg d call47 (mR a.eZ _ _  g) (fun k d => ?_)))⟩
 have h := d.has.fe (Kb Sn)
 refine ⟨h, (bS hm fun x i hm => X 6 rfl h (oD rfl rfl i) (X 7 rfl h (fT rfl) (iH kr (fB ?_))))⟩
 exact gd (rQ hm d)
theorem re (g : eX) (r : ByteArray) (w : World) (hm : kf g = some r) :
  fV true pg0 43 [(.agg (fa g).toArray)] w (.string r) := by
 refine cG 41 func43 rfl (fun d => sg (VE (hZ d rfl (fun W2 o d => Wa (ln (fq ?_))))))
 replace d := d.drew
 have h := d.has.fe (Kb Sn)
 refine gX h gE (X 0 rfl h (fh iX rfl) (XH 1 rfl h (fun _ n => fj rfl (fG n Mh rfl bP)) (X 3 rfl h (fh mn rfl) (XH 4 rfl h (fun _ n => fj rfl (fy n Mh (fC g.Head) rfl bk aJ)) (bS hm fun a9 H hm => XE 2 rfl (Eg d call75 (qu g.Kind _ _  H) (fun a3 d => ?_)))))))
 have h := d.has.fe (Kb Sn)
 refine ⟨h, (bS hm fun v I hm => XE 5 rfl (Eg d call76 (oX g.Head _ _  I) (fun a4 d => ?_)))⟩
 have h := d.has.fe (Kb Sn)
 refine ⟨h, (bS hm fun P Q hm => X 6 rfl h (oD rfl rfl Q) (X 7 rfl h (fT rfl) (iH kr (fB (fq (sg (Wf iX (VB d Mh rfl rfl bP (Wi rfl (ln (CI hm rfl (fun y hm => ?_) (fun y hm => ?_))))))))))))⟩
 ·refine sg (Wm (Wf nj (VB d Mh rfl rfl aW (bS hm fun A J hm => VE (Eg d call47 (mR g.fD _ _  J) (fun a5 d => bS hm fun R T hm => V (oD rfl rfl T) (Wa (ln ?_))))))))
  replace d := d.fe (Db St)
  refine gd (fP ?_)
  obtain rfl := sj hm
  exact rP d
 refine kg (Wm (Wf im (VA d Mh (fC g.B) bk aJ (bS hm fun F K hm => VE (Eg d call76 (oX g.B _ _  K) (fun p d => bS hm fun b9 U hm => V (oD rfl rfl U) (Wa (ln (fq ?_)))))))))
 refine CJ hm (fun x E W => ∃ i, ST true ga w W (hp w) ((o, Ol (fa g) 35) :: i) ∧ E 1 = (.pointer (some ⟨o, 0, none⟩)) ∧ E 3 = (.string x)) (fun x c => ?_) ?_
 ·refine sg (Wf iX (VB d Mh rfl rfl bP (Wi rfl (ln (CI c rfl (fun B c => ?_) (fun B c => ?_))))))
  ·refine fi (Wm (Wf mo (VB d Mh rfl rfl aW (bS c fun O N c => VE (Eg d call47 (mR g.fw _ _  N) (fun s d => bS c fun c1 Z c => V (oD rfl rfl Z) (Wa (ln ?_))))))))
   obtain rfl := sj c
   exact ⟨_, (d.fe St), rfl, rfl⟩
  refine kn ?_
  obtain rfl := sj c
  exact ⟨_, (d.fe St), rfl, rfl⟩
 rintro c2 E W ⟨i, d, k, t⟩ D
 refine fq (CJ D (fun u E W => ∃ j, ST true ga w W (hp w) j ∧ E 3 = (.string u)) (fun u a => ?_) ?_)
 ·refine sg (V (fh iX k) (VB d Mh rfl rfl bP (Wi rfl (ln (CI a rfl (fun z a => ?_) (fun z a => ?_))))))
  ·refine fi (Wh t (V (fh kF k) (VA d Mh (fC g.C) bk aJ (bS a fun L M a => VE (Eg d call76 (oX g.C _ _  M) (fun q d => bS a fun c0 Y a => V (oD rfl rfl Y) (Wa (ln ?_))))))))
   obtain rfl := sj a
   exact ⟨_, (d.fe (Db St)), rfl⟩
  refine kn ?_
  obtain rfl := sj a
  exact ⟨_, (d.fe (Db St)), t⟩
 rintro c3 E W ⟨j, d, a2⟩ G
 exact sg (Wh a2 (Wa (lt (rQ G d))))
theorem uH (a : ft) (j : Value) (r : ByteArray) (w : World) (c : Sl (Pl (fl .u8)) 1 (hp w) j a.Tag) (hm : nt a = some r) :
  fV true pg0 21 [(.agg #[(.int .i64 a.eX.Kind), (.string a.eX.Head.eY), (.string a.eX.Head.eZ), (.string a.eX.fD), (.string a.eX.B.eY), (.string a.eX.B.eZ), (.string a.eX.C.eY), (.string a.eX.C.eZ), (.string a.eX.fw), j])] w (.string r) := by
 refine cG 11 func21 rfl (fun d => sg ?_)
 obtain ⟨D, G, rfl⟩ := c.form
 refine VE (hZ d rfl (fun W4 K d => Wa (ln (fq ?_))))
 replace d := d.drew
 have h := d.has.fe (Kb Sn)
 refine gX h gE (X 0 rfl h (fh nn rfl) (XH 1 rfl h (fun _ n => fj rfl (fy n Mh (fa a.eX) rfl bl aD)) (X 3 rfl h (fh nY rfl) (XH 4 rfl h (fun _ n => fj rfl (fG n Mh rfl bW)) (PJ hm (fun t E W => ∃ u, ST true ga w W (hp w) ((K, Ol (C1 a.eX.Kind a.eX.Head.eY a.eX.Head.eZ a.eX.fD a.eX.B.eY a.eX.B.eZ a.eX.C.eY a.eX.C.eZ a.eX.fw D a.Tag.length G) 38) :: u) ∧ E 2 = (.string zS) ∧ E 5 = (.string t.1) ∧ E 8 = (.string t.2)) (bm 9 63) 3 ?_ (fun t g k => ?_))))))
 ·rintro ⟨a2, J⟩ E W ⟨u, d, T, H, I⟩ i
  refine bS i fun U x i => XE 6 rfl (Eg d call47 (mR J _ _  x) (fun M d => ?_) (ha := CG I))
  have h := d.has.fe (Kb Sn)
  refine ⟨h, (bS i fun o B i => X 7 rfl h (oD H rfl B) (X 8 rfl h (fT rfl) (iH kr (fB ?_))))⟩
  exact gd (rQ i d)
 refine By 2 5 rfl rfl kr (.inl rfl) (.inl rfl) rfl rfl dc dc ?_ ?_
 ·refine bS g fun Y y g => xl (args := [(.agg (fa a.eX).toArray)]) d rfl call43 (by exact jY rfl) (re a.eX _ _  y) (fun N d => ?_)
  have h := d.has.fe (Kb Sn)
  refine ⟨h, (XE 5 rfl (.inl ⟨_, _, lH az bd aG rfl (c.mono (Pl.mono _) d.fO), ⟨h, ?_⟩⟩))⟩
  obtain rfl := sj g
  refine nw kr (k _ _ ⟨_, (d.fe St), rfl, rfl, rfl⟩)
 ·refine .inl ⟨_, _, lH az bd aG rfl (c.mono (Pl.mono _) d.fO), ⟨h, (bS g fun Z z g => XE 2 rfl (Eg d call43 (re a.eX _ _  z) (fun Q d => ?_)))⟩⟩
  have h := d.has.fe (Kb Sn)
  refine ⟨h, ?_⟩
  obtain rfl := sj g
  refine nw kr (k _ _ ⟨_, (d.fe St), rfl, rfl, rfl⟩)
theorem tX (a : ft) (c : Value) (r : Bool) (w : World) (g : Sl (Pl (fl .u8)) 1 (hp w) c a.Tag) (hm : mV a = some r) :
  fV true pg0 22 [(.pointer none), (.agg #[(.int .i64 a.eX.Kind), (.string a.eX.Head.eY), (.string a.eX.Head.eZ), (.string a.eX.fD), (.string a.eX.B.eY), (.string a.eX.B.eZ), (.string a.eX.C.eY), (.string a.eX.C.eZ), (.string a.eX.fw), c])] w (.bool r) := by
 refine cG 30 func22 rfl (fun d => sg ?_)
 obtain ⟨i, j, rfl⟩ := g.form
 refine VE (hZ d rfl (fun k t d => Wa (lS (Wm (V (jL cU rfl rfl) (Wm (Vn rfl rfl (Vn rfl rfl (Vn rfl rfl (Vn rfl rfl (V (fF rfl rfl) ?_)))))))))))
 refine Wm (Vn rfl rfl (Vn rfl rfl (Vn rfl rfl (Vn rfl rfl (V (fF rfl rfl) (ln (nM rfl (sg (Wa (ln ?_))))))))))
 replace d := d.fe (Db St)
 refine gd (fP ?_)
 obtain rfl := sj hm
 exact rP d
theorem qS (i : Nat) (G : fm) (k : Value) (t : Nat) (a : ft) (j : Value) (s : (Int ⊕ (fm × ft))) (w : World) {K : fz} (P : ju K ((i, Ob #[k, (.bool G.gh)] 100) :: ((t, Ob #[(.int .i64 a.eX.Kind), (.string a.eX.Head.eY), (.string a.eX.Head.eZ), (.string a.eX.fD), (.string a.eX.B.eY), (.string a.eX.B.eZ), (.string a.eX.C.eY), (.string a.eX.C.eZ), (.string a.eX.fw), j] 38) :: [])) w) (u : Sl (Pl (fl .u8)) 1 K k G.b) (Q : Sl (Pl (fl .u8)) 1 K j a.Tag) (hm : nP G a = some s) :
  fI true pg0 25 [(.pointer (some ⟨i, 0, none⟩)), (.pointer (some ⟨t, 0, none⟩))] w K ((i, Ob #[k, (.bool G.gh)] 100) :: ((t, Ob #[(.int .i64 a.eX.Kind), (.string a.eX.Head.eY), (.string a.eX.Head.eZ), (.string a.eX.fD), (.string a.eX.B.eY), (.string a.eX.B.eZ), (.string a.eX.C.eY), (.string a.eX.C.eZ), (.string a.eX.fw), j] 38) :: [])) s (fun r v N Y => ∃ F L, v = (.tuple #[]) ∧ N = ((i, Ob #[F, (.bool ((r.1).gh))] 100) :: ((t, Ob #[(.int .i64 (((r.2).eX).Kind)), (.string ((((r.2).eX).Head).eY)), (.string ((((r.2).eX).Head).eZ)), (.string (((r.2).eX).fD)), (.string ((((r.2).eX).B).eY)), (.string ((((r.2).eX).B).eZ)), (.string ((((r.2).eX).C).eY)), (.string ((((r.2).eX).C).eZ)), (.string (((r.2).eX).fw)), L] 38) :: [])) ∧ Sl (Pl (fl .u8)) 1 Y F ((r.1).b) ∧ Sl (Pl (fl .u8)) 1 Y L ((r.2).Tag)) (fun x c N Y => ∃ y z, c = [{ v := lW 125 i x, recovered := false }] ∧ N = ((i, Ob #[y, z] 100) :: ((t, Ob #[(.int .i64 a.eX.Kind), (.string a.eX.Head.eY), (.string a.eX.Head.eZ), (.string a.eX.fD), (.string a.eX.B.eY), (.string a.eX.B.eZ), (.string a.eX.C.eY), (.string a.eX.C.eZ), (.string a.eX.fw), j] 38) :: []))) := by
 have d := ST.lq (dd := true) P
 refine iN (n := 5) func25 rfl rfl nb (fi (Wm (bS hm fun O M hm => ?_)))
 rcases O with b1 | g
 ·have q := d.size
  refine jq (.inl rfl) (gU (args := [(.pointer (some ⟨i, 0, none⟩))]) (caps := #[]) _ _ d (Cb Pz Cn) rfl call26 (by exact jY rfl) (fun hH R p a6 => (fI.l (oe i G k _ _ ⟨hH, R, p⟩ (u.mono (Pl.mono _) (fA.refl _)) M))) (fun W3 b0 A L9 d B h o => ?_))
  obtain ⟨b3, b4, T, rfl⟩ := o
  replace d := d.perm (Tb Tn)
  refine iw ?_
  obtain rfl := sj hm
  exact gi.li ⟨_, _, _, rfl, (d.gb (Kb (Kb Sn))), B, h, (ST.fK d (gm.mem (Kb (Kb Sn)))), ⟨_, _, T, rfl⟩⟩
 have q := d.size
 refine VE (eD d (Cb Pz Cn) call26 (fun W => (fI.r (oe i G k _ _ W (u.mono (Pl.mono _) (fA.refl _)) M))) ?_)
 rintro W3 v7 A L9 d B h ⟨b2, a3, D, rfl, J, U⟩
 obtain rfl := D.symm
 replace d := d.perm (Tb Tn)
 obtain ⟨H, I, rfl⟩ := J.form
 let Z : Value := (.slice H ((g.1).Tag).length I)
 replace d := d.perm (Nb (Pb Pz) Nz)
 let a0 := (((g.1).eX).Head)
 refine VO (fH (.agg #[(.int .i64 (((g.1).eX).Kind)), (.string (a0.eY)), (.string (a0.eZ)), (.string (((g.1).eX).fD)), (.string ((((g.1).eX).B).eY)), (.string ((((g.1).eX).B).eZ)), (.string ((((g.1).eX).C).eY)), (.string ((((g.1).eX).C).eZ)), (.string (((g.1).eX).fw)), Z]) (#[(.int .i64 (((g.1).eX).Kind)), (.string (a0.eY)), (.string (a0.eZ)), (.string (((g.1).eX).fD)), (.string ((((g.1).eX).B).eY)), (.string ((((g.1).eX).B).eZ)), (.string ((((g.1).eX).C).eY)), (.string ((((g.1).eX).C).eZ)), (.string (((g.1).eX).fw)), Z]) d rfl rfl bf oc nb rfl (fun a9 d => fL (um (wm ?_))))
 obtain rfl := sj hm
 exact we rfl (gi.ri ⟨_, _, _, rfl, (d.gb (Sb (Pb Pz) (Kb Sn))), B, h, (ST.fK d (gm.mem (Sb (Pb Pz) (Kb Sn)))), a3, Z, rfl, rfl, U, J⟩)
theorem pg (u : Value) (H : List Int) (i : Nat) (a : ft) (g : Value) (r : (Int × ft)) (w : World) {G : fz} (D : ju G ((i, Ob #[(.int .i64 a.eX.Kind), (.string a.eX.Head.eY), (.string a.eX.Head.eZ), (.string a.eX.fD), (.string a.eX.B.eY), (.string a.eX.B.eZ), (.string a.eX.C.eY), (.string a.eX.C.eZ), (.string a.eX.fw), g] 38) :: []) w) (I : Sl (Pl (fl .u8)) 1 G u H) (j : Sl (Pl (fl .u8)) 1 G g a.Tag) (hm : kp H a = some r) :
  gV true pg0 24 [u, (.func (.func 25) #[] #[(.pointer (some ⟨i, 0, none⟩))])] w G ((i, Ob #[(.int .i64 a.eX.Kind), (.string a.eX.Head.eY), (.string a.eX.Head.eZ), (.string a.eX.fD), (.string a.eX.B.eY), (.string a.eX.B.eZ), (.string a.eX.C.eY), (.string a.eX.C.eZ), (.string a.eX.fw), g] 38) :: []) (fun v t B => ∃ k, v = (.int .i64 (r.1)) ∧ t = ((i, Ob #[(.int .i64 (((r.2).eX).Kind)), (.string ((((r.2).eX).Head).eY)), (.string ((((r.2).eX).Head).eZ)), (.string (((r.2).eX).fD)), (.string ((((r.2).eX).B).eY)), (.string ((((r.2).eX).B).eZ)), (.string ((((r.2).eX).C).eY)), (.string ((((r.2).eX).C).eZ)), (.string (((r.2).eX).fw)), k] 38) :: []) ∧ Sl (Pl (fl .u8)) 1 B k ((r.2).Tag)) := by
 refine bS hm fun l h hm => bS hm fun s n hm => ?_
 obtain rfl := sj hm
 refine gV.mono (sn 25 #[(.pointer (some ⟨i, 0, none⟩))] u H l s (fun r => (r.1).b) w D I h (fun r t B => ∃ k, t = ((i, Ob #[(.int .i64 (((r.2).eX).Kind)), (.string ((((r.2).eX).Head).eY)), (.string ((((r.2).eX).Head).eZ)), (.string (((r.2).eX).fD)), (.string ((((r.2).eX).B).eY)), (.string ((((r.2).eX).B).eZ)), (.string ((((r.2).eX).C).eY)), (.string ((((r.2).eX).C).eZ)), (.string (((r.2).eX).fw)), k] 38) :: []) ∧ Sl (Pl (fl .u8)) 1 B k ((r.2).Tag)) (fun x t B => t = ((i, Ob #[(.int .i64 a.eX.Kind), (.string a.eX.Head.eY), (.string a.eX.Head.eZ), (.string a.eX.fD), (.string a.eX.B.eY), (.string a.eX.B.eZ), (.string a.eX.C.eY), (.string a.eX.C.eZ), (.string a.eX.fw), g] 38) :: [])) call25 (fun M μ' L o K hle q => fI.mono (qS L (⟨l, false⟩ : fm) o i a g s M K q (j.mono (Pl.mono _) hle) n) ?_ ?_)) ?_
 ·rintro r v t B ⟨P, k, O, d, J, D⟩; exact ⟨_, _, _, d, J, k, rfl, D⟩
 ·rintro x c t B ⟨y, z, A, d⟩; exact ⟨y, z, _, A, d, rfl⟩
 rintro v t B F ⟨rfl, p⟩
 cases s with
 | inl x => exact ⟨g, rfl, p, (j.mono (Pl.mono _) F)⟩
 | inr r => obtain ⟨k, d, D⟩ := p; exact ⟨k, rfl, d, D⟩
theorem nJ (j : Nat) (N : fg) (U : Int) (r : (Int × fg)) (w : World) {μ0 : fz} (h0 : ju μ0 ((j, Ol (fx N) 63) :: []) w) (hm : gn N U = some r) :
  gq true pg0 86 [(.pointer (some ⟨j, 0, none⟩)), (.int .i64 U)] w ((j, Ol (fx N) 63) :: []) (fun v L1 W' => v = (.int .i64 (r.1)) ∧ L1 = ((j, Ol (fx (r.2)) 63) :: [])) := by
 let h := ((j, Ol (fx N) 63) :: [])
 refine qV h0 69 func86 rfl (fun d => sg (Wa (lS (Wm (Wn (Wf iD (VB d Mh rfl rfl bP (Wi rfl (fL ?_)))))))))
 refine fB (CI hm rfl (fun b9 hm => ?_) (fun b9 hm => ?_))
 ·refine sg (Wa (lt (fP ?_)))
  obtain rfl := sj hm
  exact fR (v := (.int .i64 0)) rfl rfl ⟨_, _, rfl, (d.gb (Kb Sn)), rfl, rfl⟩
 refine kg (Wa (lr (Wa (lS ?_))))
 refine Wa (ln (jd (nc (fun m E W => ∃ G y H u Q, ST true (keys h) w W μ0 ((j, Ol (fx u) 63) :: Q) ∧ E 0 = (.pointer (some ⟨j, 0, none⟩)) ∧ E 1 = (.int .i64 U) ∧ E 5 = (.int .i64 G) ∧ E 6 = (.int .i64 y) ∧ E 7 = (.int .i64 H) ∧ gD U m G y H u = some r) iv ⟨0, 1, 0, N, _, (d.fe St), rfl, rfl, rfl, rfl, rfl, hm⟩ ?_)))
 rintro m E W ⟨G, y, H, u, Q, d, x, Y, Z, a2, I, c⟩
 cases m with
 | zero => rw [gD] at c; cases c
 | succ b6 =>
  refine fq (jd (fq (sg (Wh I (Wi rfl (ln (CI c rfl (fun p c => ?_) (fun p c => ?_))))))))
  ·refine sg (Wh x (Wn (Wf iD (VO (fH (.int .i64 11) ((fx (⟨u.S, 11⟩ : fg)).toArray) d rfl rfl dt (nh _ 11) nb rfl (fun c1 d => lr (Wa (lt (fP (jr (fP (fP (jr (fP ?_))))))))))))))
   obtain rfl := sj c
   exact fR (v := (.int .i64 0)) rfl rfl ⟨_, _, rfl, (d.gb (Kb Sn)), rfl, rfl⟩
  refine kS (Wh x (Wn (Wf nN (VB d Mh rfl rfl aW (V (lZ rfl rfl rfl) (ln (CI c rfl (fun q c => ?_) (fun q c => ?_))))))))
  ·refine sg (Wh x (Wn (Wf iD (VO (fH (.int .i64 10) ((fx (⟨u.S, 10⟩ : fg)).toArray) d rfl rfl dt (nh _ 10) nb rfl (fun c2 d => lr (Wa (lt (fP (jr (fP (fP (jr (fP ?_))))))))))))))
   obtain rfl := sj c
   exact fR (v := (.int .i64 0)) rfl rfl ⟨_, _, rfl, (d.gb (Kb Sn)), rfl, rfl⟩
  refine kg (Wh x (Wn (Wf nN (VB d Mh rfl rfl aW (bS c fun D M c => V (oh (i := 0) aG rfl rfl (np M) (pu M)) (V (lx (k' := .u8) (a := (D.toNat : Int)) bd dl rfl) (Wa (ln (fq ?_)))))))))
  refine fi (Wh x (Wh x (Wn (Wf nN (VB d Mh rfl rfl aW (bS c fun z L c => V (uv (s := u.S) (i := 1) aG rfl rfl L) (Wn (Wf nN (VO (fH (.string z) ((fx (⟨z, u.E⟩ : fg)).toArray) d rfl rfl dr (rr z) nb rfl (fun c3 d => ln (fq (fq ?_)))))))))))))
  refine fi (Wm (Wi rfl (Wm (LJ c (fun n E W => ∃ T, ST true (keys h) w W μ0 ((j, Ol (fx (⟨z, u.E⟩ : fg)) 63) :: T) ∧ E 0 = (.pointer (some ⟨j, 0, none⟩)) ∧ E 1 = (.int .i64 U) ∧ E 5 = (.int .i64 G) ∧ E 6 = (.int .i64 y) ∧ E 7 = (.int .i64 H) ∧ E 8 = (.int .i64 (wi0 .i64 (D.toNat : Int))) ∧ E 48 = (.bool n)) 3 ?_ (fun n B J => ?_)))))
  ·let a0 := (wi0 .i64 (D.toNat : Int))
   let o := (wi0 .i64 (G + (wi0 .i64 ((Int.tmod a0 128) * y))))
   rintro c7 E W ⟨T, d, K, a3, O, a4, P, a5, R⟩ g
   refine ln (CI g R (fun a9 g => ?_) (fun a9 g => ?_))
   ·refine sg (Wh K (Wn (Wf iD (VO (fH (.int .i64 11) ((fx (⟨z, 11⟩ : fg)).toArray) d rfl rfl dt (nh _ 11) nb rfl (fun c4 d => lr (Wa (lt (fP (jr (fP (fP (jr (fP ?_))))))))))))))
    obtain rfl := sj g
    exact fR (v := (.int .i64 0)) rfl rfl ⟨_, _, rfl, (d.gb (Kb Sn)), rfl, rfl⟩
   refine kg (Wh O (Wh a5 (V (tJ (k := .i64) (a := a0) (b := 128) (v := (.int .i64 (Int.tmod a0 128))) rfl rfl dc rfl) (Wh a4 (Wi rfl (Wi rfl (Wa (ln (fq (fq ?_))))))))))
   refine fi (Wh a5 (Wi rfl (ln (CI g rfl (fun A g => ?_) (fun A g => ?_)))))
   ·refine mZ (lY (Bt (by simp) (lY (lY (qF (fB (fq (sg (Wm (Wh a3 (Wi rfl (ln (CI g rfl (fun F g => ?_) (fun F g => ?_))))))))))))))
    ·refine sg (Wh K (Wn (Wf iD (VO (fH (.int .i64 12) ((fx (⟨z, 12⟩ : fg)).toArray) d rfl rfl dt (nh _ 12) nb rfl (fun c5 d => lr (Wa (lt (fP ?_)))))))))
     obtain rfl := sj g
     exact fR (v := (.int .i64 0)) rfl rfl ⟨_, _, rfl, (d.gb (Kb Sn)), rfl, rfl⟩
    refine kg (Wm (Wa (lt ?_)))
    obtain rfl := sj g
    exact fR (v := (.int .i64 o)) rfl rfl ⟨_, _, rfl, (d.gb (Kb Sn)), rfl, rfl⟩
   refine kn (fi (Wh a4 (Wi rfl (Wa (fL (gL (fB (fi (Wh P (Wi rfl (Wa (ln ?_))))))))))))
   exact ⟨b6, bY _, o, (wi0 .i64 (y * 128)), (wi0 .i64 (H + 1)), (⟨z, u.E⟩ : fg), _, (d.fe St), K, a3, rfl, rfl, rfl, g⟩
  refine bC B (fun t B => ?_) (fun t B => ?_)
  ·refine ug t (fp I) (ug t (gl rfl rfl rfl) (V (fF (cB t) rfl) ?_))
   obtain rfl := sj B
   exact J _ _ ⟨_, (d.fe St), x, Y, Z, a2, I, rfl, rfl⟩
  refine un t (un t (V (fE (cB t) rfl) ?_))
  obtain rfl := sj B
  exact J _ _ ⟨_, (d.fe St), x, Y, Z, a2, I, rfl, rfl⟩
theorem oq (a : Nat) (t : fg) (D : Int) (r : (ByteArray × fg)) (w : World) {N : fz} (K : ju N ((a, Obj.cells ((fx t).toArray : Array Value) 63 (0, 0)) :: []) w) (hm : gu t D = some r) :
  gq true pg0 56 [(.pointer (some ⟨a, 0, none⟩)), (.int .i64 D)] w ((a, Obj.cells ((fx t).toArray : Array Value) 63 (0, 0)) :: []) (fun v J W' => v = (.string (r.1)) ∧ J = ((a, Obj.cells ((fx (r.2)).toArray : Array Value) 63 (0, 0)) :: [])) := by
 have d := ST.lq (dd := true) K
 unfold gu at hm
 refine cF 46 func56 rfl (fq (fi (V (fT rfl) (fL (fB (fq (fi (V (fp rfl) (bS hm fun g H hm => ?_)))))))))
 have F := d.size
 refine VE (yR d (Cb Pz Cn) call86 (fun hH o A q => (nJ a t 9223372036854775807 _ _ ⟨hH, o, fA.refl _⟩  H)) (fun Z v7 L Y d M p n G => ?_))
 obtain ⟨c, rfl⟩ := G
 replace c := c.symm; subst c
 replace d := d.perm (Tb Tn)
 refine V (fT rfl) (fL (fB (fq (fq (fi (V (fp rfl) (V (ig rfl) (V (fh iD rfl) (V (fj rfl (fG d.has Mh rfl bP)) (V (gl rfl rfl rfl) (fL (fB (CI hm rfl (fun u hm => ?_) (fun u hm => ?_))))))))))))))
 ·refine fq (fi (V (fT rfl) (fL (fB (gd (fP ?_))))))
  have h := sj hm; subst h
  exact fR (v := (.string zS)) rfl rfl ⟨_, _, rfl, (d.gb (Kb Sn)), rfl, rfl⟩
 refine gA (fB (fq (fq (fi (V (fp rfl) (V (fp rfl) (V (gl rfl rfl rfl) (fL (fB (CI hm rfl (fun x hm => ?_) (fun x hm => ?_)))))))))))
 ·refine fq (fi (V (fp rfl) (V (ig rfl) (V (fh iD rfl) (VO (fH (.int .i64 12) ((fx (⟨g.2.S, 12⟩ : fg)).toArray) d rfl rfl dt (nh _ 12) nb rfl (fun Q d => fL (fB (fq (fi (V (fT rfl) (fL (fB (gd (fP ?_)))))))))))))))
  have h := sj hm; subst h
  exact fR (v := (.string zS)) rfl rfl ⟨_, _, rfl, (d.gb (Kb Sn)), rfl, rfl⟩
 refine gA (fB (fq (fq (fi (V (fp rfl) (V (fp rfl) (V (ig rfl) (V (fh nN rfl) (V (fj rfl (fG d.has Mh rfl aW)) (V (iF aG rfl) (V (gl rfl rfl rfl) (fL (fB (CI hm rfl (fun y hm => ?_) (fun y hm => ?_)))))))))))))))
 ·refine fq (fi (V (fp rfl) (V (ig rfl) (V (fh iD rfl) (VO (fH (.int .i64 10) ((fx (⟨g.2.S, 10⟩ : fg)).toArray) d rfl rfl dt (nh _ 10) nb rfl (fun T d => fL (fB (fq (fi (V (fT rfl) (fL (fB (gd (fP ?_)))))))))))))))
  have h := sj hm; subst h
  exact fR (v := (.string zS)) rfl rfl ⟨_, _, rfl, (d.gb (Kb Sn)), rfl, rfl⟩
 refine gA (fB (fq (fi (V (fp rfl) (V (ig rfl) (V (fh nN rfl) (V (fj rfl (fG d.has Mh rfl aW)) (V (fp rfl) (bS hm fun I z hm => V (yO (s := g.2.S) (j := g.1) aG rfl rfl z) (V (fT rfl) (fL (fB (fq ?_)))))))))))))
 refine fi (V (fp rfl) (V (fp rfl) (V (ig rfl) (V (fh nN rfl) (V (fj rfl (fG d.has Mh rfl aW)) (V (fp rfl) (bS hm fun k B hm => V (uv (s := g.2.S) (i := g.1) aG rfl rfl B) (V (ig rfl) (V (fh nN rfl) (VO (fH (.string k) ((fx (⟨k, g.2.E⟩ : fg)).toArray) d rfl rfl dr (rr k) nb rfl (fun U d => fL (fB (fq ?_))))))))))))))
 refine fi (V (fp rfl) (V (fT rfl) (fL (fB (gd ?_)))))
 have h := sj hm; subst h
 exact fR (v := (.string I)) rfl rfl ⟨_, _, rfl, (d.gb (Kb Sn)), rfl, rfl⟩
theorem nx (a : Nat) (u : fg) (r : (ByteArray × fg)) (w : World) {μ0 : fz} (n : ju μ0 ((a, Ol (fx u) 63) :: []) w) (hm : gB u = some r) :
  gq true pg0 88 [(.pointer (some ⟨a, 0, none⟩))] w ((a, Ol (fx u) 63) :: []) (fun v L1 W' => v = (.string (r.1)) ∧ L1 = ((a, Ol (fx (r.2)) 63) :: [])) := by
 let U := ((a, Ol (fx u) 63) :: [])
 refine qV n 25 func88 rfl (fun d => sg (Wa (lr (Wm (bS hm fun x Y hm => ?_)))))
 refine VE (eM d (Cb Pz Cn) call56 (fun o _ => (oq a u 16 _ _ o  Y)) ?_)
 rintro _ v7 Z L9 d a3 p h ⟨k, rfl⟩
 obtain rfl := k.symm
 replace d := d.perm (Tb Tn)
 refine Wa (ln (fq (CJ hm (fun G E W => ∃ z, ST true (keys U) w W Z ((a, Ol (fx G) 63) :: z) ∧ E 0 = (.pointer (some ⟨a, 0, none⟩)) ∧ E 3 = (.string x.1)) (fun G K => ?_) ?_)))
 ·refine sg (Wm (Wn (Wf iD (VB d Mh rfl rfl bP (Wi rfl (Wm (LJ K (fun H E W => ∃ B, ST true (keys U) w W Z ((a, Ol (fx x.2) 63) :: B) ∧ E 0 = (.pointer (some ⟨a, 0, none⟩)) ∧ E 3 = (.string x.1) ∧ E 15 = (.bool H)) 4 ?_ (fun H g t => ?_))))))))
  ·rintro a9 E W ⟨B, d, y, D, T⟩ j
   refine ln (CI j T (fun J j => ?_) (fun J j => ?_))
   ·refine fi (Wh y (Wn (Wf iD (VO (fH (.int .i64 30) ((fx (⟨x.2.S, 30⟩ : fg)).toArray) d rfl rfl dt (nh _ 30) nb rfl (fun a5 d => ln ?_))))))
    obtain rfl := sj j
    exact ⟨_, (d.fe St), y, D⟩
   refine kn ?_
   obtain rfl := sj j
   exact ⟨_, (d.fe St), y, D⟩
  refine bC g (fun c g => ?_) (fun c g => ?_)
  ·refine ug c (fp rfl) (bS g fun s M g => mD c (Eg d call33 (me x.1 _ _  M) (fun q d => ug c (kN rfl) (V (fF (cB c) rfl) ?_))))
   obtain rfl := sj g
   exact t _ _ ⟨_, (d.fe St), rfl, rfl, rfl⟩
  refine un c (un c (un c (V (fE (cB c) rfl) ?_)))
  obtain rfl := sj g
  exact t _ _ ⟨_, (d.fe St), rfl, rfl, rfl⟩
 rintro A E W ⟨z, d, N, Q⟩ i
 refine fq (sg (Wh N (Wn (Wf iD (VB d Mh rfl rfl bP (Wi rfl (ln (CI i rfl (fun I i => ?_) (fun I i => ?_)))))))))
 ·refine sg (Wa (lt (fP ?_)))
  obtain rfl := sj i
  exact fR (v := (.string zS)) rfl rfl ⟨_, _, rfl, (d.gb (Kb Sn)), rfl, rfl⟩
 refine kg (Wh Q (Wa (lt ?_)))
 obtain rfl := sj i
 exact fR (v := (.string x.1)) rfl rfl ⟨_, _, rfl, (d.gb (Kb Sn)), rfl, rfl⟩
theorem oZ (a : Nat) (k : fg) (r : (fu × fg)) (w : World) {I : fz} (G : ju I ((a, Ol (fx k) 63) :: []) w) (hm : gv k = some r) :
  gq true pg0 87 [(.pointer (some ⟨a, 0, none⟩))] w ((a, Ol (fx k) 63) :: []) (fun v D W' => v = (.agg (fC (r.1)).toArray) ∧ D = ((a, Ol (fx (r.2)) 63) :: [])) := by
 let u : Value := (.agg (fC K0).toArray)
 refine qV G 18 func87 rfl (fun d => sg (VE (gH d dC (fun Y s d => lr (Wm (bS hm fun g z hm => ?_))))))
 refine VE (eM d (Cb (Pb Pz) Cn) call88 (fun n _ => (nx a k _ _ n  z)) ?_)
 rintro _ v9 q J d H p h ⟨i, rfl⟩
 obtain rfl := i.symm
 replace d := d.perm (Tb Tn)
 refine Wa (lr (Wm (bS hm fun c y hm => ?_)))
 let t := (⟨g.1, c.1⟩ : fu)
 let M : Value := (.agg (fC t).toArray)
 refine VE (eM d (Cb Pz Cn) call88 (fun n _ => (nx a g.2 _ _ n  y)) ?_)
 rintro _ T U K d B o h ⟨j, rfl⟩
 obtain rfl := j.symm
 replace d := d.perm (Tb Tn)
 refine Wa (lS (Wm (Wn (Wf iD (VB d Mh rfl rfl bP (Wi rfl (ln (CI hm rfl (fun x hm => ?_) (fun x hm => ?_)))))))))
 ·refine sg (V (gw (v := u) mI (fZ dC bO (xG _ bO) kr)) ?_)
  replace d := d.perm (Nb (Pb Pz) Nz)
  refine VO (fH u ((fC K0).toArray) d rfl rfl aJ (jD K0) nb rfl (fun N d => lt (fP ?_)))
  obtain rfl := sj hm
  exact iW (v := u) rfl rfl (fy d.has Mh (fC K0) rfl bk aJ) ⟨_, _, rfl, (d.gb (Db (Kb Sn))), rfl, rfl⟩
 refine kg (Wm (Wm (V (gw (v := M) (lf rfl rfl) (fZ dC bO (xG _ bO) kr)) ?_)))
 replace d := d.perm (Nb (Pb Pz) Nz)
 refine VO (fH M ((fC t).toArray) d rfl rfl aJ (jD t) nb rfl (fun Q d => lt ?_))
 obtain rfl := sj hm
 exact iW (v := M) rfl rfl (fy d.has Mh (fC t) rfl bk aJ) ⟨_, _, rfl, (d.gb (Db (Kb Sn))), rfl, rfl⟩
end Go.Proofs.YtcafmokjkjcomaaGreat
