/- a part of a proof of UnlockMeets -/
import Derived.Test.YtklbhegeiijbjaaGreatUMMu
import Derived.Test.YtklbhegeiijbjaaGreatProg
set_option linter.all false
namespace Go.Proofs.YtklbhegeiijbjaaGreat
open Go.IntKind renaming wrap → wi0
open Go.Proofs.Tryz renaming prog → pg0
open Go.RowKit
set_option maxRecDepth 10000
open Tryz
def aD := @sizeOf58
def aF := @underlying56
def aG := @sizeOf50
def aT := @sizeOf52
def aY := @underlying28
def bo := @isAgg50
def bA := @isAgg58
def bB := @underlying34
def bK := @zeroValue58
def bL := @underlying106
def bT := @isAgg9
def bY := @underlying261
def cD := @underlying58
def cE := @isAgg52
def cJ := @underlying9
def cK := @sizeOf111
def cU := @underlying111
def cW := @underlying50
def cY := @underlying187
def dn := @zeroValue52
def dv := @zeroValue50
def dz := @isAgg3
def dA := @sizeOf113
def dB := @sizeOf25
def dE := @underlying53
def dM := @underlying52
def dR := @underlying23
def dU := @sizeOf9
def dV := @isAgg25
def dX := @isAgg111
def eb := @zeroValue111
def ek := @underlying25
def eB := @underlying3
def eE := @sizeOf87
def eG := @underlying22
def eJ := @underlying189
def eK := @underlying184
def eU := @sizeOf60
def fg := @zeroValue113
def fh := @underlying162
def fi := @eqGuardType50
def fj := @underlying232
def fl := @isAgg56
def fu := @zeroValue190
def fB := @eqGuardType52
def fC := @underlying190
def fM := @zeroValue25
def fQ := @underlying60
def fX := @underlying239
def fY := @underlying237
def gw := @zeroValue4
def gD := @zeroValue60
def iz := @sizeOf3
def iA := @underlying113
def iB := @underlying215
def iC := @underlying229
def iD := @underlying228
def iG := @isAgg184
def iP := @underlying55
def iQ := @underlying84
def jo := @zeroValue87
def jD := @underlying249
def jE := @underlying341
def jH := @sizeOf55
def jI := @isAgg113
def jO := @call153
def jP := @underlying45
def jW := @sizeOf53
def jX := @zeroValue55
def jY := @underlying5
def jZ := @zeroValue28
abbrev K0 : kd := ⟨zS, zS⟩
abbrev K1 : ByteArray := ⟨#[120]⟩
abbrev K2 : ByteArray := ⟨#[97]⟩
abbrev K3 : ByteArray := ⟨#[121]⟩
abbrev K4 : ByteArray := ⟨#[98]⟩
abbrev K5 : ByteArray := ⟨#[122]⟩
abbrev K6 : lh := ⟨0⟩
abbrev K7 : kd := ⟨K1, K3⟩
abbrev K9 : kd := ⟨K1, K5⟩
abbrev PK : ke := ⟨0, K0, zS, K0, K0, zS⟩
abbrev EE : ke := ⟨1, K7, K4, K0, K0, zS⟩
abbrev Ig : ke := ⟨1, K9, K2, K0, K0, zS⟩
abbrev C1 (a b : Int) (c d : ByteArray) (g : Option Addr) (h i : Nat) : List Value := [(.int .i64 a), (.int .i64 b), (.string c), (.string d), (.slice g h i)]
abbrev C2 (l : Int) (m n o p q r s t : ByteArray) (u : Option Addr) (a b : Nat) (c d : Int) (g h : ByteArray) (i : Option Addr) (j k : Nat) : List Value := [(.int .i64 l), (.string m), (.string n), (.string o), (.string p), (.string q), (.string r), (.string s), (.string t), (.slice u a b), (.int .i64 c), (.int .i64 d), (.string g), (.string h), (.slice i j k)]
abbrev C3 (a : ByteArray) (b : Option Addr) (c d : Nat) (g : Option Addr) (h i : Nat) : List Value := [(.string a), (.slice b c d), (.slice g h i)]
abbrev C4 (c : Int) (d g h i j k l m : ByteArray) (n : Option Addr) (a b : Nat) : List Value := [(.int .i64 c), (.string d), (.string g), (.string h), (.string i), (.string j), (.string k), (.string l), (.string m), (.slice n a b)]
abbrev C5 : List Value := [(.int .i64 0), (.int .i64 0), (.string zS), (.string zS), (.slice none 0 0)]
abbrev C6 : List Value := [(.int .i64 0), (.string (K0.kj)), (.string (K0.kq)), (.string zS), (.string (K0.kj)), (.string (K0.kq)), (.string (K0.kj)), (.string (K0.kq)), (.string zS), (.slice none 0 0), (.int .i64 0), (.int .i64 0), (.string zS), (.string zS), (.slice none 0 0)]
abbrev C7 (c d : ByteArray) (g h : Int) (i j : ByteArray) (k : Option Addr) (l m : Nat) (n : Option Addr) (a b : Nat) : List Value := [(.string c), (.string d), (.int .i64 g), (.int .i64 h), (.string i), (.string j), (.slice k l m), (.slice n a b)]
abbrev C8 (a : Option Addr) (b c : Nat) : List Value := [(.string K2), (.slice a b c), (.slice none 0 0)]
abbrev C9 : List Value := [(.int .i64 2), (.int .i64 0), (.string zS), (.string zS), (.slice none 0 0)]
abbrev T7 (a b : ByteArray) : List Value := [(.int .i64 1), (.int .i64 0), (.string a), (.string b), (.slice none 0 0)]
abbrev RW (a : Int) : List Value := [(.int .i64 a), (.int .i64 0), (.string zS), (.string zS), (.slice none 0 0)]
abbrev Nx : List Value := [(.int .i64 3), (.int .i64 0), (.string zS), (.string zS), (.slice none 0 0)]
theorem kP : Tryz.prog.follows .mixedOrders = true := by rfl
theorem I5 : Tryz.prog.info? 3 = some Tryz.t3 ∧ Tryz.t3.zero = some (.int .i64 0) ∧ Tryz.t3.size = 1 ∧ Tryz.t3.bytes = 8 := ⟨by kernel_rfl, by kernel_rfl, by kernel_rfl, by kernel_rfl⟩
theorem I7 : Tryz.prog.info? 4 = some Tryz.t4 ∧ Tryz.t4.zero = some (.bool false) ∧ Tryz.t4.size = 1 ∧ Tryz.t4.bytes = 1 := ⟨by kernel_rfl, by kernel_rfl, by kernel_rfl, by kernel_rfl⟩
theorem sS : Tryz.prog.info? 5 = some Tryz.t5 ∧ Tryz.t5.zero = some (.int .u8 0) ∧ Tryz.t5.size = 1 ∧ Tryz.t5.bytes = 1 := ⟨by kernel_rfl, by kernel_rfl, by kernel_rfl, by kernel_rfl⟩
theorem Ch : Tryz.prog.info? 9 = some Tryz.t9 ∧ Tryz.t9.zero = some (.string ⟨#[]⟩) ∧ Tryz.t9.size = 1 ∧ Tryz.t9.bytes = 16 := ⟨by kernel_rfl, by kernel_rfl, by kernel_rfl, by kernel_rfl⟩
theorem G0 : Tryz.prog.info? 34 = some Tryz.t34 ∧ Tryz.t34.zero = some (.slice none 0 0) ∧ Tryz.t34.size = 1 ∧ Tryz.t34.bytes = 24 := ⟨by kernel_rfl, by kernel_rfl, by kernel_rfl, by kernel_rfl⟩
theorem qQ : Tryz.prog.info? 50 = some Tryz.t50 ∧ Tryz.t50.zero = some (.agg #[(.string ⟨#[]⟩), (.string ⟨#[]⟩)]) ∧ Tryz.t50.size = 2 ∧ Tryz.t50.bytes = 32 := ⟨by kernel_rfl, by kernel_rfl, by kernel_rfl, by kernel_rfl⟩
theorem qR : Tryz.prog.info? 52 = some Tryz.t52 ∧ Tryz.t52.zero = some (.agg #[(.int .i64 0), (.string ⟨#[]⟩), (.string ⟨#[]⟩), (.string ⟨#[]⟩), (.string ⟨#[]⟩), (.string ⟨#[]⟩), (.string ⟨#[]⟩), (.string ⟨#[]⟩), (.string ⟨#[]⟩)]) ∧ Tryz.t52.size = 9 ∧ Tryz.t52.bytes = 136 := ⟨by kernel_rfl, by kernel_rfl, by kernel_rfl, by kernel_rfl⟩
theorem pt : Tryz.prog.info? 58 = some Tryz.t58 ∧ Tryz.t58.zero = some (.agg #[(.int .i64 0), (.int .i64 0), (.string ⟨#[]⟩), (.string ⟨#[]⟩), (.slice none 0 0)]) ∧ Tryz.t58.size = 5 ∧ Tryz.t58.bytes = 72 := ⟨by kernel_rfl, by kernel_rfl, by kernel_rfl, by kernel_rfl⟩
theorem G4 : Tryz.prog.info? 87 = some Tryz.t87 ∧ Tryz.t87.zero = some (.agg #[(.string ⟨#[]⟩), (.string ⟨#[]⟩), (.int .i64 0), (.int .i64 0), (.string ⟨#[]⟩), (.string ⟨#[]⟩), (.slice none 0 0), (.slice none 0 0)]) ∧ Tryz.t87.size = 8 ∧ Tryz.t87.bytes = 128 := ⟨by kernel_rfl, by kernel_rfl, by kernel_rfl, by kernel_rfl⟩
theorem rH : Tryz.prog.info? 111 = some Tryz.t111 ∧ Tryz.t111.zero = some (.agg #[(.string ⟨#[]⟩), (.string ⟨#[]⟩), (.string ⟨#[]⟩)]) ∧ Tryz.t111.size = 3 ∧ Tryz.t111.bytes = 48 := ⟨by kernel_rfl, by kernel_rfl, by kernel_rfl, by kernel_rfl⟩
theorem oT : Tryz.prog.info? 113 = some Tryz.t113 ∧ Tryz.t113.zero = some (.agg #[(.int .i64 0), (.string ⟨#[]⟩), (.string ⟨#[]⟩), (.string ⟨#[]⟩), (.string ⟨#[]⟩), (.string ⟨#[]⟩), (.string ⟨#[]⟩), (.string ⟨#[]⟩), (.string ⟨#[]⟩), (.string ⟨#[]⟩), (.string ⟨#[]⟩), (.string ⟨#[]⟩)]) ∧ Tryz.t113.size = 12 ∧ Tryz.t113.bytes = 184 := ⟨by kernel_rfl, by kernel_rfl, by kernel_rfl, by kernel_rfl⟩
theorem ub : mH pg0 50 0 0 := lY cW rfl dU (by decide) rfl
theorem xV : mH pg0 50 1 1 := lY cW rfl dU (by decide) rfl
theorem Pn : (Tryz.prog.fieldsOf 50).toList = (match Tryz.prog.underlying 50 with | some (.struct a) => a.toList | _ => []) := by rw [cW]; simp [Program.fieldsOf, cW]
theorem rY (d : Nat) (x y : kd) (W : World) : (Op.equalIn (d + 2) 50 (.agg (ki x).toArray) (.agg (ki y).toArray)).run pg0 W = .ok (kG x y) W := by
 rw [je W (d + 1) 50 _ _ (by kernel_rfl) Tryz.stoodInHeld50, Pn, cW]
 exact (pN (by decide) (pK bT rfl) (pK bT rfl) (Nv cJ _ _ _ _) (pN (by decide) (pK bT rfl) (pK bT rfl) (Nv cJ _ _ _ _) (Bj _ _ _)))
theorem HO : ∀ a, Tryz.prog.underlying 50 = some (.struct a) → ∀ w, (a.mapM (fun (f : Field) => do pure (f.offset, ← sizeOf f.type)) : Sem (Array (Nat × Nat))).run pg0 w = .ok #[(0, 1), (1, 1)] w := by
 intro a h w
 rw [cW] at h
 cases h
 kernel_rfl
theorem wh : mH pg0 52 0 0 := lY dM rfl iz (by decide) rfl
theorem rr : mH pg0 52 1 1 := lY dM rfl aG (by decide) rfl
theorem xZ : mH pg0 52 2 3 := lY dM rfl dU (by decide) rfl
theorem ou : mH pg0 52 3 4 := lY dM rfl aG (by decide) rfl
theorem we : mH pg0 52 4 6 := lY dM rfl aG (by decide) rfl
theorem ya : mH pg0 52 5 8 := lY dM rfl dU (by decide) rfl
theorem Pu : (Tryz.prog.fieldsOf 52).toList = (match Tryz.prog.underlying 52 with | some (.struct a) => a.toList | _ => []) := by rw [dM]; simp [Program.fieldsOf, dM]
theorem yG (d : Nat) (x y : ke) (W : World) : (Op.equalIn (d + 3) 52 (.agg (km x).toArray) (.agg (km y).toArray)).run pg0 W = .ok (nr x y) W := by
 rw [je W (d + 2) 52 _ _ (by kernel_rfl) Tryz.stoodInHeld52, Pu, dM]
 exact (pN (by decide) (pK dz rfl) (pK dz rfl) (TT eB _ _ _ _) (pN (by decide) (vS bo aG rfl) (vS bo aG rfl) (rY _ x.Head y.Head W) (pN (by decide) (pK bT rfl) (pK bT rfl) (Nv cJ _ _ _ _) (pN (by decide) (vS bo aG rfl) (vS bo aG rfl) (rY _ x.B y.B W) (pN (by decide) (vS bo aG rfl) (vS bo aG rfl) (rY _ x.C y.C W) (pN (by decide) (pK bT rfl) (pK bT rfl) (Nv cJ _ _ _ _) (Bj _ _ _)))))))
theorem Pt : ∀ a, Tryz.prog.underlying 52 = some (.struct a) → ∀ w, (a.mapM (fun (f : Field) => do pure (f.offset, ← sizeOf f.type)) : Sem (Array (Nat × Nat))).run pg0 w = .ok #[(0, 1), (1, 2), (3, 1), (4, 2), (6, 2), (8, 1)] w := by
 intro a h w
 rw [dM] at h
 cases h
 kernel_rfl
theorem Di : mH pg0 111 0 0 := lY cU rfl aG (by decide) rfl
theorem uK : mH pg0 111 1 2 := lY cU rfl dU (by decide) rfl
theorem NE : (Tryz.prog.fieldsOf 111).toList = (match Tryz.prog.underlying 111 with | some (.struct a) => a.toList | _ => []) := by rw [cU]; simp [Program.fieldsOf, cU]
theorem DB (d : Nat) (x y : kk) (W : World) : (Op.equalIn (d + 3) 111 (.agg (kD x).toArray) (.agg (kD y).toArray)).run pg0 W = .ok (nJ x y) W := by
 rw [je W (d + 2) 111 _ _ (by kernel_rfl) Tryz.stoodInHeld111, NE, cU]
 exact (pN (by decide) (vS bo aG rfl) (vS bo aG rfl) (rY _ x.kd y.kd W) (pN (by decide) (pK bT rfl) (pK bT rfl) (Nv cJ _ _ _ _) (Bj _ _ _)))
theorem Ft : ∀ a, Tryz.prog.underlying 111 = some (.struct a) → ∀ w, (a.mapM (fun (f : Field) => do pure (f.offset, ← sizeOf f.type)) : Sem (Array (Nat × Nat))).run pg0 w = .ok #[(0, 2), (2, 1)] w := by
 intro a h w
 rw [cU] at h
 cases h
 kernel_rfl
theorem KV : mH pg0 113 0 0 := lY iA rfl aT (by decide) rfl
theorem wE : mH pg0 113 1 9 := lY iA rfl cK (by decide) rfl
theorem SA : ∀ a, Tryz.prog.underlying 113 = some (.struct a) → ∀ w, (a.mapM (fun (f : Field) => do pure (f.offset, ← sizeOf f.type)) : Sem (Array (Nat × Nat))).run pg0 w = .ok #[(0, 9), (9, 3)] w := by
 intro a h w
 rw [iA] at h
 cases h
 kernel_rfl
theorem KZ : mH pg0 249 0 0 := lY jD rfl sizeOf40 (by decide) rfl
theorem Sx : ∀ a, Tryz.prog.underlying 249 = some (.struct a) → ∀ w, (a.mapM (fun (f : Field) => do pure (f.offset, ← sizeOf f.type)) : Sem (Array (Nat × Nat))).run pg0 w = .ok #[(0, 1)] w := by
 intro a h w
 rw [jD] at h
 cases h
 kernel_rfl
theorem GB : mH pg0 55 0 0 := lY iP rfl aT (by decide) rfl
theorem Rx : mH pg0 55 1 9 := lY iP rfl jW (by decide) rfl
theorem Tw : ∀ a, Tryz.prog.underlying 55 = some (.struct a) → ∀ w, (a.mapM (fun (f : Field) => do pure (f.offset, ← sizeOf f.type)) : Sem (Array (Nat × Nat))).run pg0 w = .ok #[(0, 9), (9, 1)] w := by
 intro a h w
 rw [iP] at h
 cases h
 kernel_rfl
theorem uf : mH pg0 58 0 0 := lY cD rfl iz (by decide) rfl
theorem zf : mH pg0 58 1 1 := lY cD rfl iz (by decide) rfl
theorem yb : mH pg0 58 2 2 := lY cD rfl aG (by decide) rfl
theorem sK : mH pg0 58 3 4 := lY cD rfl sizeOf56 (by decide) rfl
theorem Ar : ∀ a, Tryz.prog.underlying 58 = some (.struct a) → ∀ w, (a.mapM (fun (f : Field) => do pure (f.offset, ← sizeOf f.type)) : Sem (Array (Nat × Nat))).run pg0 w = .ok #[(0, 1), (1, 1), (2, 2), (4, 1)] w := by
 intro a h w
 rw [cD] at h
 cases h
 kernel_rfl
theorem G8 : mH pg0 60 0 0 := lY fQ rfl jH (by decide) rfl
theorem NS : mH pg0 60 1 10 := lY fQ rfl aD (by decide) rfl
theorem RD : ∀ a, Tryz.prog.underlying 60 = some (.struct a) → ∀ w, (a.mapM (fun (f : Field) => do pure (f.offset, ← sizeOf f.type)) : Sem (Array (Nat × Nat))).run pg0 w = .ok #[(0, 10), (10, 5)] w := by
 intro a h w
 rw [fQ] at h
 cases h
 kernel_rfl
theorem Ng : mH pg0 87 0 0 := lY underlying87 rfl aG (by decide) rfl
theorem Oc : mH pg0 87 1 2 := lY underlying87 rfl aD (by decide) rfl
theorem Of : mH pg0 87 2 7 := lY underlying87 rfl sizeOf28 (by decide) rfl
theorem Bp : mH pg0 25 0 0 := lY ek rfl dU (by decide) rfl
theorem CK : mH pg0 25 1 1 := lY ek rfl sizeOf22 (by decide) rfl
theorem NC : mH pg0 25 2 2 := lY ek rfl sizeOf23 (by decide) rfl
theorem MH : ∀ a, Tryz.prog.underlying 25 = some (.struct a) → ∀ w, (a.mapM (fun (f : Field) => do pure (f.offset, ← sizeOf f.type)) : Sem (Array (Nat × Nat))).run pg0 w = .ok #[(0, 1), (1, 1), (2, 1)] w := by
 intro a h w
 rw [ek] at h
 cases h
 kernel_rfl
theorem Qu : mH pg0 118 0 0 := lY underlying118 rfl dU (by decide) rfl
theorem Qy : mH pg0 118 1 1 := lY underlying118 rfl jW (by decide) rfl
theorem xu : mH pg0 189 0 0 := lY eJ rfl sizeOf184 (by decide) rfl
theorem H5 : mH pg0 189 1 1 := lY eJ rfl sizeOf28 (by decide) rfl
theorem Lq : mH pg0 189 2 2 := lY eJ rfl sizeOf185 (by decide) rfl
theorem HA : mH pg0 189 3 3 := lY eJ rfl sizeOf186 (by decide) rfl
theorem A6 : mH pg0 189 4 4 := lY eJ rfl sizeOf187 (by decide) rfl
theorem Fc : mH pg0 189 5 5 := lY eJ rfl iz (by decide) rfl
theorem SP : ∀ a, Tryz.prog.underlying 189 = some (.struct a) → ∀ w, (a.mapM (fun (f : Field) => do pure (f.offset, ← sizeOf f.type)) : Sem (Array (Nat × Nat))).run pg0 w = .ok #[(0, 1), (1, 1), (2, 1), (3, 1), (4, 1), (5, 1)] w := by
 intro a h w
 rw [eJ] at h
 cases h
 kernel_rfl
theorem zz : mH pg0 239 0 0 := lY fX rfl jW (by decide) rfl
theorem PD : ∀ a, Tryz.prog.underlying 239 = some (.struct a) → ∀ w, (a.mapM (fun (f : Field) => do pure (f.offset, ← sizeOf f.type)) : Sem (Array (Nat × Nat))).run pg0 w = .ok #[(0, 1)] w := by
 intro a h w
 rw [fX] at h
 cases h
 kernel_rfl
def tN : pW Signed := fun μ ys x => ∃ (v0 : Value), ys = [.int .i64 x.ke.Kind, .string x.ke.Head.kj, .string x.ke.Head.kq, .string x.ke.kR, .string x.ke.B.kj, .string x.ke.B.kq, .string x.ke.C.kj, .string x.ke.C.kq, .string x.ke.lj, v0] ∧ Sl (Pl (mc .u8)) 1 μ v0 x.Tag
theorem tN.out {μ : kL} {ys : List Value} {x : Signed} (h : tN μ ys x) : ∃ (v0 : Value), ys = [.int .i64 x.ke.Kind, .string x.ke.Head.kj, .string x.ke.Head.kq, .string x.ke.kR, .string x.ke.B.kj, .string x.ke.B.kq, .string x.ke.C.kj, .string x.ke.C.kq, .string x.ke.lj, v0] ∧ Sl (Pl (mc .u8)) 1 μ v0 x.Tag := h
theorem tN.mk {μ : kL} {ys : List Value} {x : Signed} (h : ∃ (v0 : Value), ys = [.int .i64 x.ke.Kind, .string x.ke.Head.kj, .string x.ke.Head.kq, .string x.ke.kR, .string x.ke.B.kj, .string x.ke.B.kq, .string x.ke.C.kj, .string x.ke.C.kq, .string x.ke.lj, v0] ∧ Sl (Pl (mc .u8)) 1 μ v0 x.Tag) : tN μ ys x := h
theorem A4 : Deep tN 10 where
 mono := by rintro _ _ _ _ b ⟨v0, rfl, a⟩; exact ⟨v0, rfl, a.mono (Pl.mono _) b⟩
 len := by rintro _ _ _ ⟨v0, rfl, a⟩; rfl
 one := by
  rintro _ _ _ ⟨v0, rfl, a⟩
  intro u hu; simp only [aO, dG, fL] at hu; rcases hu with rfl | rfl | rfl | rfl | rfl | rfl | rfl | rfl | rfl | rfl
  ·rfl
  ·rfl
  ·rfl
  ·rfl
  ·rfl
  ·rfl
  ·rfl
  ·rfl
  ·rfl
  ·exact a.AP
def yc : Nat → pW Formula
 | 0 => fun _ _ _ => False
 | n + 1 => fun μ ys x => ∃ (v0 : Value), ys = [.int .i64 x.Op, .int .i64 x.K, .string x.kd.kj, .string x.kd.kq, v0] ∧ Sl (yc n) 5 μ v0 x.Kids
def kf : pW Formula := fun μ ys x => ∃ n, yc n μ ys x
theorem Ep : ∀ n, GP (yc n)
 | 0 => fun _ _ _ _ _ h => h
 | n + 1 => by rintro _ _ _ _ b ⟨v0, rfl, a⟩; exact ⟨v0, rfl, a.mono (Ep n) b⟩
theorem GY : ∀ n m (μ : kL) (ys : List Value) (x : Formula), n ≤ m → yc n μ ys x → yc m μ ys x
 | 0, _, _, _, _, _, h => h.elim
 | n + 1, 0, _, _, _, a, _ => absurd a (by omega)
 | n + 1, m + 1, μ, ys, x, a, h => by
  obtain ⟨v0, rfl, b⟩ := h
  exact ⟨v0, rfl, b.imp fun ys x h => GY n m μ ys x (by omega) h⟩
theorem kf.out {μ : kL} {ys : List Value} {x : Formula} (h : kf μ ys x) : ∃ (v0 : Value), ys = [.int .i64 x.Op, .int .i64 x.K, .string x.kd.kj, .string x.kd.kq, v0] ∧ Sl kf 5 μ v0 x.Kids := by
 obtain ⟨n, h⟩ := h
 cases n with
 | zero => exact h.elim
 | succ n =>
  obtain ⟨v0, rfl, a⟩ := h
  exact ⟨v0, rfl, a.imp fun ys x h => ⟨n, h⟩⟩
theorem kf.mk {μ : kL} {ys : List Value} {x : Formula} (h : ∃ (v0 : Value), ys = [.int .i64 x.Op, .int .i64 x.K, .string x.kd.kj, .string x.kd.kq, v0] ∧ Sl kf 5 μ v0 x.Kids) : kf μ ys x := by
 obtain ⟨v0, rfl, c⟩ := h
 obtain ⟨n, g⟩ := c.SY (fun _ _ h => h) (fun a b ys x d h => GY a b _ ys x d h)
 exact ⟨n + 1, v0, rfl, g⟩
theorem kz : Deep kf 5 where
 mono := fun _ _ _ _ b ⟨n, h⟩ => ⟨n, Ep n _ _ _ _ b h⟩
 len := by rintro _ _ _ h; obtain ⟨v0, rfl, a⟩ := h.out; rfl
 one := by
  rintro _ _ _ h
  obtain ⟨v0, rfl, a⟩ := h.out
  intro u hu; simp only [aO, dG, fL] at hu; rcases hu with rfl | rfl | rfl | rfl | rfl
  ·rfl
  ·rfl
  ·rfl
  ·rfl
  ·exact a.AP
def mh : pW ml := fun μ ys x => ∃ (v0 : Value) (v1 : Value), ys = [.int .i64 x.Signed.ke.Kind, .string x.Signed.ke.Head.kj, .string x.Signed.ke.Head.kq, .string x.Signed.ke.kR, .string x.Signed.ke.B.kj, .string x.Signed.ke.B.kq, .string x.Signed.ke.C.kj, .string x.Signed.ke.C.kq, .string x.Signed.ke.lj, v0, .int .i64 x.kv.Op, .int .i64 x.kv.K, .string x.kv.kd.kj, .string x.kv.kd.kq, v1] ∧ Sl (Pl (mc .u8)) 1 μ v0 x.Signed.Tag ∧ Sl kf 5 μ v1 x.kv.Kids
theorem mh.out {μ : kL} {ys : List Value} {x : ml} (h : mh μ ys x) : ∃ (v0 : Value) (v1 : Value), ys = [.int .i64 x.Signed.ke.Kind, .string x.Signed.ke.Head.kj, .string x.Signed.ke.Head.kq, .string x.Signed.ke.kR, .string x.Signed.ke.B.kj, .string x.Signed.ke.B.kq, .string x.Signed.ke.C.kj, .string x.Signed.ke.C.kq, .string x.Signed.ke.lj, v0, .int .i64 x.kv.Op, .int .i64 x.kv.K, .string x.kv.kd.kj, .string x.kv.kd.kq, v1] ∧ Sl (Pl (mc .u8)) 1 μ v0 x.Signed.Tag ∧ Sl kf 5 μ v1 x.kv.Kids := h
theorem mh.mk {μ : kL} {ys : List Value} {x : ml} (h : ∃ (v0 : Value) (v1 : Value), ys = [.int .i64 x.Signed.ke.Kind, .string x.Signed.ke.Head.kj, .string x.Signed.ke.Head.kq, .string x.Signed.ke.kR, .string x.Signed.ke.B.kj, .string x.Signed.ke.B.kq, .string x.Signed.ke.C.kj, .string x.Signed.ke.C.kq, .string x.Signed.ke.lj, v0, .int .i64 x.kv.Op, .int .i64 x.kv.K, .string x.kv.kd.kj, .string x.kv.kd.kq, v1] ∧ Sl (Pl (mc .u8)) 1 μ v0 x.Signed.Tag ∧ Sl kf 5 μ v1 x.kv.Kids) : mh μ ys x := h
theorem mG : Deep mh 15 where
 mono := by rintro _ _ _ _ b ⟨v0, v1, rfl, a, h1⟩; exact ⟨v0, v1, rfl, a.mono (Pl.mono _) b, h1.mono kz.mono b⟩
 len := by rintro _ _ _ ⟨v0, v1, rfl, a, h1⟩; rfl
 one := by
  rintro _ _ _ ⟨v0, v1, rfl, a, h1⟩
  intro u hu; simp only [aO, dG, fL] at hu; rcases hu with rfl | rfl | rfl | rfl | rfl | rfl | rfl | rfl | rfl | rfl | rfl | rfl | rfl | rfl | rfl
  ·rfl
  ·rfl
  ·rfl
  ·rfl
  ·rfl
  ·rfl
  ·rfl
  ·rfl
  ·rfl
  ·exact a.AP
  ·rfl
  ·rfl
  ·rfl
  ·rfl
  ·exact h1.AP
def mN : pW oZ := fun μ ys x => ∃ (v0 : Value) (v1 : Value), ys = [.string x.kd.kj, .string x.kd.kq, .int .i64 x.kv.Op, .int .i64 x.kv.K, .string x.kv.kd.kj, .string x.kv.kd.kq, v0, v1] ∧ Sl kf 5 μ v0 x.kv.Kids ∧ Sl (Pl km) 9 μ v1 x.nv
theorem mN.out {μ : kL} {ys : List Value} {x : oZ} (h : mN μ ys x) : ∃ (v0 : Value) (v1 : Value), ys = [.string x.kd.kj, .string x.kd.kq, .int .i64 x.kv.Op, .int .i64 x.kv.K, .string x.kv.kd.kj, .string x.kv.kd.kq, v0, v1] ∧ Sl kf 5 μ v0 x.kv.Kids ∧ Sl (Pl km) 9 μ v1 x.nv := h
theorem mN.mk {μ : kL} {ys : List Value} {x : oZ} (h : ∃ (v0 : Value) (v1 : Value), ys = [.string x.kd.kj, .string x.kd.kq, .int .i64 x.kv.Op, .int .i64 x.kv.K, .string x.kv.kd.kj, .string x.kv.kd.kq, v0, v1] ∧ Sl kf 5 μ v0 x.kv.Kids ∧ Sl (Pl km) 9 μ v1 x.nv) : mN μ ys x := h
theorem pe : Deep mN 8 where
 mono := by rintro _ _ _ _ b ⟨v0, v1, rfl, a, h1⟩; exact ⟨v0, v1, rfl, a.mono kz.mono b, h1.mono (Pl.mono _) b⟩
 len := by rintro _ _ _ ⟨v0, v1, rfl, a, h1⟩; rfl
 one := by
  rintro _ _ _ ⟨v0, v1, rfl, a, h1⟩
  intro u hu; simp only [aO, dG, fL] at hu; rcases hu with rfl | rfl | rfl | rfl | rfl | rfl | rfl | rfl
  ·rfl
  ·rfl
  ·rfl
  ·rfl
  ·rfl
  ·rfl
  ·exact a.AP
  ·exact h1.AP
def CV : pW Key := fun μ ys x => ∃ (v0 : Value), ys = [.string x.kR, v0] ∧ Sl (Pl (mc .u8)) 1 μ v0 x.Key
theorem CV.out {μ : kL} {ys : List Value} {x : Key} (h : CV μ ys x) : ∃ (v0 : Value), ys = [.string x.kR, v0] ∧ Sl (Pl (mc .u8)) 1 μ v0 x.Key := h
theorem CV.mk {μ : kL} {ys : List Value} {x : Key} (h : ∃ (v0 : Value), ys = [.string x.kR, v0] ∧ Sl (Pl (mc .u8)) 1 μ v0 x.Key) : CV μ ys x := h
theorem Hb : pb pg0 9 Value.string lK := pb.string cJ
theorem Av : pb pg0 50 (fun (x : kd) => (.agg (ki x).toArray)) kG :=
 pb.struct cW (fun d x y W => rY (d + 8) x y W) (fun b k W => zo cW rfl (eC.2 ⟨fun _ => ⟨.string k.kj, pK bT rfl, sP cJ _ _ _ _⟩, (eC.2 ⟨fun _ => ⟨.string k.kq, pK bT rfl, sP cJ _ _ _ _⟩, (fun _ h => by cases h)⟩)⟩))
  (fun k x h => (kE.1 h).symm) (fun k => by simp [Instr.sameBits, ki, BN, mJ])
theorem GJ : pb pg0 111 (fun (x : kk) => (.agg (kD x).toArray)) nJ :=
 pb.struct cU (fun d x y W => DB (d + 7) x y W) (fun b k W => zo cU rfl (eC.2 ⟨fun _ => ⟨.agg (ki k.kd).toArray, vS bo aG rfl, zo cW rfl (eC.2 ⟨fun _ => ⟨.string k.kd.kj, pK bT rfl, sP cJ _ _ _ _⟩, (eC.2 ⟨fun _ => ⟨.string k.kd.kq, pK bT rfl, sP cJ _ _ _ _⟩, (fun _ h => by cases h)⟩)⟩)⟩, (eC.2 ⟨fun _ => ⟨.string k.kR, pK bT rfl, sP cJ _ _ _ _⟩, (fun _ h => by cases h)⟩)⟩))
  (fun k x h => (nj.1 h).symm) (fun k => by simp [Instr.sameBits, kD, BN, mJ])
theorem vW (a : ke) (c : Formula) (t : Value) (r : List ml) (w : World) {M : kL} (T : nN M [] w) (k : Sl kf 5 M t c.Kids) (hm : uj a c = some r) :
  mj true pg0 47 [(.agg (km a).toArray), (.agg #[(.int .i64 c.Op), (.int .i64 c.K), (.string c.kd.kj), (.string c.kd.kq), t])] w M [] (fun v Q U => ∃ N, v = N ∧ Q = [] ∧ Sl mh 15 U N (r)) := by
 refine vt T 11 func47 rfl (fun b => sg (VE (kX b rfl (fun W2 o b => ?_))))
 obtain ⟨u, x, rfl⟩ := k.form
 refine VE (kX b rfl (fun W6 p b => Wa (ln (kA ?_))))
 replace b := b.drew
 have d := b.has.kh (Kb (Kb Sn))
 refine lm d kP (XH 0 rfl d (fun _ n => kl rfl (kx n (Mt Mh) (km a) rfl cE aT)) (XH 3 rfl d (fun _ n => kl rfl (kx n Mh (C1 c.Op c.K c.kd.kj c.kd.kq u c.Kids.length x) rfl bA aD)) (bS hm fun g I hm => XE 1 rfl (FG (enc := (mc .u8)) (z := 0) b (fun _ => rfl) dc dE sS.1 sS.2.1 sS.2.2.1 sS.2.2.2 rfl rfl rfl I (fun Z a3 Y b G => ?_)))))
 have d := b.has.kh (Dr (Kb (Kb Sn)))
 refine ⟨d, ?_⟩
 obtain ⟨i, j, rfl⟩ := G.form
 let a0 := (C2 a.Kind a.Head.kj a.Head.kq a.kR a.B.kj a.B.kq a.C.kj a.C.kq a.lj i g.length j c.Op c.K c.kd.kj c.kd.kq u c.Kids.length x)
 refine X 2 rfl d (mK (v := (.agg (C4 a.Kind a.Head.kj a.Head.kq a.kR a.B.kj a.B.kq a.C.kj a.C.kq a.lj i g.length j).toArray)) (oP rfl rfl) (me jX iP (Tw _ iP) kr)) (X 4 rfl d (mK (v := (.agg a0.toArray)) (oP rfl rfl) (me gD fQ (RD _ fQ) kr)) ?_)
 obtain ⟨a4, b, y, h, J⟩ := ST.F7 b G (fun _ => rfl)
 refine XE 5 rfl (kV (cs := a0.toArray) b (nh rfl) (nc eG eU gD) (fun a2 D b => ?_))
 have d := b.has.qe y (Db (Kb (Kb Sn)))
 refine ⟨d, (X 6 rfl d (ol rfl) (lF kr (ku ?_)))⟩
 replace b := b.kh (Kb (Db (Db St)))
 refine kM ?_
 obtain rfl := sj hm
 refine lB (v := (.slice (some ⟨D, 0, none⟩) 1 1)) rfl rfl ?_
 obtain ⟨a5, b, H, m, K⟩ := ST.xR (B := [(D, Ol a0 60)]) mG b (lC.lit mG (l := [(⟨(⟨a, g⟩ : Signed), c⟩ : ml)]) (.cons (ys := C2 a.Kind a.Head.kj a.Head.kq a.kR a.B.kj a.B.kq a.C.kj a.C.kq a.lj i g.length j c.Op c.K c.kd.kj c.kd.kq u c.Kids.length x) (mh.mk ⟨(.slice i g.length j), (.slice u c.Kids.length x), rfl, J, (k.mono kz.mono y)⟩) .nil) rfl nb rfl)
 exact ⟨_, _, _, rfl, (b.mI Sn), (y.trans H), (h.trans m), (ST.lO b (nm.mem Sn)), (.slice (some ⟨D, 0, none⟩) 1 1), rfl, rfl, K⟩
theorem uc (a : kd) (r : Formula) (w : World) {g : kL} (j : nN g [] w) (hm : sn a = some r) :
  mj true pg0 46 [(.agg (ki a).toArray)] w g [] (fun v i k => ∃ c, v = (.agg #[(.int .i64 ((r).Op)), (.int .i64 ((r).K)), (.string (((r).kd).kj)), (.string (((r).kd).kq)), c]) ∧ i = [] ∧ Sl kf 5 k c ((r).Kids)) := by
 let B := (T7 a.kj a.kq)
 refine vt j 5 func46 rfl (fun b => sg (VE (kX b rfl (fun t y b => VE (ll b bK (fun u z b => lr (VA b (Mt Mh) (ki a) bo aG (V (mK (v := (.agg B.toArray)) (oP rfl rfl) (me bK cD (Ar _ cD) kr)) (VO (kJ (.agg B.toArray) (B.toArray) b rfl rfl aD oc nb rfl (fun x b => ln ?_)))))))))))
 replace b := b.kh (Kb (Db St))
 refine kM ?_
 obtain rfl := sj hm
 exact qh (v := (.agg B.toArray)) rfl rfl (kx b.has Mh B rfl bA aD) ⟨_, _, _, rfl, (b.mI Sn), (kH.refl _), Lo.refl, (ST.lO b (nm.mem Sn)), (.slice none 0 0), rfl, rfl, (Sl.nil _ _ _)⟩
theorem RB (w : World) (s : ByteArray) (c : Int) : (callFunc 242 [Value.string s, .int .u8 c].toArray).run pg0 w = .ok (.value (.int .i64 (xK s c))) w := Hz func242 (by kernel_rfl) (by kernel_rfl) (by kernel_rfl) (by kernel_rfl) s c w
theorem yF (a : ByteArray) (c r : Int) (w : World) (hm : oW a c = some r) :
  kN true pg0 185 [(.string a), (.int .u8 c)] w (.int .i64 r) := by
 exact cG 8 func185 rfl (fun b => sg (Wa (lr (Wm (Wm (VE (Ms (args := [(.string a), (.int .u8 c)]) (v := .int .i64 (xK a c)) rfl (by exact ta rfl rfl) (RB _ a c) (Wa (lt (rQ hm b))))))))))
theorem zt (a : ByteArray) (c r : Int) (w : World) (hm : rX a c = some r) :
  kN true pg0 121 [(.string a), (.int .u8 c)] w (.int .i64 r) := by
 refine cG 8 func121 rfl (fun b => sg (Wa (lr (Wm (Wm (bS hm fun j g hm => VE (Eg b call185 (yF a c _ _  g) (fun i b => Wa (ln ?_)))))))))
 exact kM (rQ hm b)
theorem KN (I : ByteArray) (r : Bool) (w : World) (hm : Ck I = some r) :
  kN true pg0 122 [(.string I)] w (.bool r) := by
 refine cG 16 func122 rfl (fun b => sg (Wa (lS (Wm (bS hm fun H J hm => VE (IB b cJ dE jY rfl J (fun W3 N T b M n j Y => V (lT dE rfl j) (Wm (kQ ?_)))))))))
 refine ku (lu (fun i E W => ∃ c, (E 8 = .int .i64 (i : Nat) ∧ E 7 = .int .i64 (H.length : Nat)) ∧ ST true lM w W T c ∧ E 6 = N ∧ vv (H.drop i) = some r) H.length j.len ⟨_, ⟨rfl, rfl⟩, (b.kh St), rfl, hm⟩ dc dc dc (fun _ _ _ h => by obtain ⟨_, l, _⟩ := h; exact l) ?_ ?_)
 ·rintro K E W u ⟨c, ⟨d, m⟩, b, g, a⟩
  obtain ⟨k, Q, D, B, G⟩ := lc u
  rw [D] at a
  refine bg (VQ (ni (enc := (mc .u8)) (i := (K : Int)) (x0 := k) dE sizeOf5 g d j (aH _) B) (fun Z x => V (kl rfl (ns b.has (y := (.int .u8 k)) x isAgg5)) (Wa (lr (Wm (bS a fun o z a => VE (Eg b call121 (zt (⟨#[97, 98, 99, 100, 101, 102, 103, 104, 105, 106, 107, 108, 109, 110, 111, 112, 113, 114, 115, 116, 117, 118, 119, 120, 121, 122, 48, 49, 50, 51, 52, 53, 54, 55, 56, 57, 45]⟩ : ByteArray) k _ _  z) (fun U b => Wi rfl (kQ ?_)))))))))
  refine ku (CI a rfl (fun t a => ?_) (fun t a => ?_))
  ·refine sg (Wa (lt (mB (kU (mB (kU ?_))))))
   obtain rfl := sj a
   exact rP b
  exact lE (kY (ku ⟨d, _, ⟨rfl, m⟩, (b.kh St), g, (by rw [G]; exact a)⟩))
 rintro E W ⟨c, ⟨d, m⟩, b, g, a⟩
 rw [aI] at a
 exact ku (sg (Wa (lt (rQ a b))))
theorem vm (z : ByteArray) (r : Bool) (w : World) (hm : rB z = some r) :
  kN true pg0 57 [(.string z)] w (.bool r) := by
 refine cG 21 func57 rfl (fun b => sg (Wa (lr (Wm (V (pY cJ rfl) (Wi rfl (Wm (LJ hm (fun K E W => ∃ Y, ST true lM w W (hp w) Y ∧ E 0 = (.string z) ∧ E 2 = (.bool false) ∧ E 10 = (.bool K)) 4 ?_ (fun K t y => ?_)))))))))
 ·rintro x2 E W ⟨Y, b, M, d, l⟩ a5
  refine Wh l (LJ a5 (fun J E W => ∃ D, ST true lM w W (hp w) D ∧ E 0 = (.string z) ∧ E 2 = (.bool false) ∧ E 16 = (.bool J)) 5 ?_ (fun J a x => ?_))
  ·rintro q E W ⟨D, b, h, H, a2⟩ N
   refine Wh a2 (LJ N (fun I E W => ∃ G, ST true lM w W (hp w) G ∧ E 2 = (.bool false) ∧ E 20 = (.bool I)) 3 ?_ (fun I j u => ?_))
   ·rintro s E W ⟨G, b, a9, a3⟩ Q
    exact Wg a3 (lt (rQ Q b))
   refine bC j (fun g j => ?_) (fun g j => ?_)
   ·refine ug g (ko h) (bS j fun o T j => vn g (Eg b call122 (KN z _ _  T) (fun m b => V (lg (cB g) rfl) ?_)))
    obtain rfl := sj j
    exact u _ _ ⟨_, (b.kh St), H, rfl⟩
   refine un g (un g (V (li (cB g) rfl) ?_))
   obtain rfl := sj j
   exact u _ _ ⟨_, (b.kh St), H, rfl⟩
  refine bC a (fun c a => ?_) (fun c a => ?_)
  ·refine ug c (ko M) (bS a fun Z B a => ug c (MU (i := 0) cJ rfl rfl (KJ B) (O0 B)) (bS a fun p U a => vn c (Eg b call121 (zt (⟨#[97, 98, 99, 100, 101, 102, 103, 104, 105, 106, 107, 108, 109, 110, 111, 112, 113, 114, 115, 116, 117, 118, 119, 120, 121, 122]⟩ : ByteArray) (Z.toNat : Int) _ _  U) (fun n b => ug c (lW rfl rfl rfl) (V (lg (cB c) rfl) ?_)))))
   obtain rfl := sj a
   exact x _ _ ⟨_, (b.kh St), M, d, rfl⟩
  refine un c (un c (un c (un c (V (li (cB c) rfl) ?_))))
  obtain rfl := sj a
  exact x _ _ ⟨_, (b.kh St), M, d, rfl⟩
 refine bC t (fun k t => ?_) (fun k t => ?_)
 ·refine ug k (ko rfl) (ug k (pY cJ rfl) (ug k (lW rfl rfl rfl) (V (lg (cB k) rfl) ?_)))
  obtain rfl := sj t
  exact y _ _ ⟨_, (b.kh St), rfl, rfl, rfl⟩
 refine un k (un k (un k (V (li (cB k) rfl) ?_)))
 obtain rfl := sj t
 exact y _ _ ⟨_, (b.kh St), rfl, rfl, rfl⟩
theorem sM (i : kd) (r : Bool) (w : World) (hm : pH i = some r) :
  kN true pg0 153 [(.agg (ki i).toArray)] w (.bool r) := by
 refine cG 11 func153 rfl (fun b => sg (VE (kX b rfl (fun H J b => Wa (lr (Wf ub (VB b Mh rfl rfl bT (bS hm fun K y hm => VE (Eg b call57 (vm i.kj _ _  y) (fun I b => Wm (LJ hm (fun k E W => ∃ j, ST true lM w W (hp w) j ∧ E 2 = (.bool false) ∧ E 10 = (.bool k)) 4 ?_ (fun k a g => ?_))))))))))))
 ·rintro G E W ⟨j, b, B, x⟩ t
  exact Wg x (lt (rQ t b))
 refine bC a (fun c a => ?_) (fun c a => ?_)
 ·refine ug c (ky xV rfl) (ug c (kl rfl (kK b.has Mh rfl bT)) (bS a fun D u a => vn c (Eg b call57 (vm i.kq _ _  u) (fun z b => V (lg (cB c) rfl) ?_))))
  obtain rfl := sj a
  exact g _ _ ⟨_, (b.kh (Db St)), rfl, rfl⟩
 refine un c (un c (un c (V (li (cB c) rfl) ?_)))
 obtain rfl := sj a
 exact g _ _ ⟨_, (b.kh (Db St)), rfl, rfl⟩
theorem RO (w : World) (a b : ByteArray) : (callFunc 296 [Value.string a, .string b].toArray).run pg0 w = .ok (.value (.int .i64 (pD a b))) w := Oo func296 (by kernel_rfl) (by kernel_rfl) (by kernel_rfl) (by kernel_rfl) a b w
theorem yx (a c : ByteArray) (r : Int) (w : World) (hm : nO a c = some r) :
  kN true pg0 260 [(.string a), (.string c)] w (.int .i64 r) := by
 exact cG 8 func260 rfl (fun b => sg (Wa (lr (Wm (Wm (VE (Ms (args := [(.string a), (.string c)]) (v := .int .i64 (pD a c)) rfl (by exact ta rfl rfl) (RO _ a c) (Wa (lt (rQ hm b))))))))))
theorem AJ (a c : ByteArray) (r : Int) (w : World) (hm : qa a c = some r) :
  kN true pg0 210 [(.string a), (.string c)] w (.int .i64 r) := by
 refine cG 8 func210 rfl (fun b => sg (Wa (lr (Wm (Wm (bS hm fun j g hm => VE (Eg b call260 (yx a c _ _  g) (fun i b => Wa (ln ?_)))))))))
 exact kM (rQ hm b)
theorem EX (g : Value) (t : List Int) (r : Int) (w : World) (c : Sl (Pl (mc .i64)) 1 (hp w) g t) (hm : ua t = some r) :
  kN true pg0 209 [g] w (.int .i64 r) := by
 refine cG 18 func209 rfl (fun b => sg (Wa (lr (Wa (lS (Wm ?_))))))
 refine V (lT fh rfl c) (Wm (ln (lu (fun i E W => ∃ k, (E 8 = .int .i64 (i : Nat) ∧ E 7 = .int .i64 (t.length : Nat)) ∧ ST true lM w W (hp w) k ∧ E 3 = (.int .i64 0) ∧ E 6 = g ∧ sQ (t.drop i) = some r) t.length c.len ⟨_, ⟨rfl, rfl⟩, (b.kh St), rfl, rfl, hm⟩ dc dc dc (fun _ _ _ h => by obtain ⟨_, l, _⟩ := h; exact l) ?_ ?_)))
 ·rintro J E W B ⟨k, ⟨d, m⟩, b, j, u, a⟩
  obtain ⟨x, K, H, G, I⟩ := lc B
  rw [H] at a
  refine bg (VQ (ni (enc := (mc .i64)) (i := (J : Int)) (x0 := x) fh iz u d c (aH _) G) (fun M D => V (kl rfl (ns b.has (y := (.int .i64 x)) D dz)) (Wa (lr (Wm (Wh j (Wi rfl (ln ?_))))))))
  refine CI a rfl (fun z a => ?_) (fun z a => ?_)
  ·refine sg (Wm (Wa (lt (mB (kU (mB (kU ?_)))))))
   obtain rfl := sj a
   exact rP b
  exact lE (kY (ku ⟨d, _, ⟨rfl, m⟩, (b.kh St), j, u, (by rw [I]; exact a)⟩))
 rintro E W ⟨k, ⟨d, m⟩, b, j, u, a⟩
 rw [aI] at a
 exact ku (sg (Wh j (Wa (lt (rQ a b)))))
theorem zy (g i : kd) (r : Int) (w : World) (hm : nK g i = some r) :
  kN true pg0 155 [(.agg (ki g).toArray), (.agg (ki i).toArray)] w (.int .i64 r) := by
 refine cG 17 func155 rfl (fun b => sg (VE (kX b rfl (fun G I b => VE (kX b rfl (fun H J b => Wa (ln (kA ?_))))))))
 replace b := b.drew
 have d := b.has.kh (Kb (Kb Sn))
 refine lm d kP (X 0 rfl d (ky ub rfl) (XH 1 rfl d (fun _ h => kl rfl (kK h (Mt Mh) rfl bT)) (X 2 rfl d (ky ub rfl) (XH 3 rfl d (fun _ h => kl rfl (kK h Mh rfl bT)) (X 5 rfl d (ky xV rfl) (XH 6 rfl d (fun _ h => kl rfl (kK h (Mt Mh) rfl bT)) (X 7 rfl d (ky xV rfl) (XH 8 rfl d (fun _ h => kl rfl (kK h Mh rfl bT)) (bS hm fun a j hm => XE 4 rfl (Eg b call210 (AJ g.kj i.kj _ _  j) (fun x b => ?_)))))))))))
 have d := b.has.kh (Kb (Kb Sn))
 refine ⟨d, (bS hm fun c k hm => XE 9 rfl (Eg b call210 (AJ g.kq i.kq _ _  k) (fun y b => ?_)))⟩
 have d := b.has.kh (Kb (Kb Sn))
 refine ⟨d, (XE 10 rfl (kV (cs := #[(.int .i64 a), (.int .i64 c)]) b (oP rfl rfl) (nc fh iz zeroValue3) (fun z u b => ?_)))⟩
 have d := b.has.kh (Db (Kb (Kb Sn)))
 refine ⟨d, (bS hm fun D t hm => XE 11 rfl (Eg b call209 (EX (.slice (some ⟨u, 0, none⟩) 2 2) ([a, c]) _ _ (Sl.lit (enc := (mc .i64)) (l := [a, c]) (fun _ => rfl) rfl nb rfl (b.at_ Mh)) t) (fun B b => ?_)))⟩
 have d := b.has.kh (Db (Kb (Kb Sn)))
 refine ⟨d, (X 12 rfl d (ol rfl) (lF kr (ku ?_)))⟩
 exact kM (rQ hm b)
set_option maxHeartbeats 1000000 in
theorem vB (a : ke) (r : Bool) (w : World) (hm : rC a = some r) :
  kN true pg0 113 [(.agg (km a).toArray)] w (.bool r) := by
 let m9 := (⟨a.Kind, a.Head, zS, a.B, a.C, zS⟩ : ke)
 let j2 := (⟨a.Kind, a.Head, zS, a.B, K0, a.lj⟩ : ke)
 let j1 : Value := (.agg (ki a.B).toArray)
 let g6 := ((km (⟨a.Kind, a.Head, zS, a.B, K0, zS⟩ : ke)).toArray)
 let o := (⟨a.Kind, a.Head, zS, K0, K0, zS⟩ : ke)
 refine cG 98 func113 rfl (fun b => sg (VE (kX b rfl (fun W2 N b => Wa (lr (Wf wh (VB b Mh rfl rfl dz (Wf rr (VA b Mh (ki a.Head) bo aG (V (mK (v := (.agg (km o).toArray)) (oP rfl rfl) (me dn dM (Pt _ dM) kr)) (VE (ll b dn (fun W4 B b => ?_)))))))))))))
 refine VO (kJ (.agg (km o).toArray) ((km o).toArray) b rfl rfl aT (ph o) nb rfl (fun W5 b => lr (Wf rr (VA b (Mt Mh) (ki a.Head) bo aG (bS hm fun n j4 hm => VE (Eg b jO (sM a.Head _ _  j4) (fun W8 b => Wa (ln (kA (PQ hm (fun s E W => ∃ P, ST true lM w W (hp w) ((B, Ol (km s.2) 52) :: ((N, Ol (km a) 52) :: P)) ∧ E 1 = (.pointer (some ⟨N, 0, none⟩)) ∧ E 3 = (.pointer (some ⟨B, 0, none⟩)) ∧ E 4 = (.bool s.1)) (fun s g Z => ?_) ?_))))))))))
 ·let g5 := ((km m9).toArray : Array Value)
  let b8 := ((km j2).toArray : Array Value)
  let m : Value := (.pointer (some ⟨B, 0, none⟩))
  let l : Value := (.pointer (some ⟨N, 0, none⟩))
  let a0 := ((km a).toArray : Array Value)
  refine sg (Wf wh (VB b (Mt Mh) rfl rfl dz (ln (bg (Wi rfl (Wa (ln (CI g rfl (fun e5 g => ?_) (fun e5 g => ?_)))))))))
  ·replace b := b.drew
   have d := b.has.kh (Db (Kb Sn))
   refine lm d kP (X 0 rfl d (ky xZ rfl) (XH 1 rfl d (fun _ h => kl rfl (kK h Mh rfl bT)) (X 2 rfl d (ko rfl) (X 3 rfl d (ko rfl) (X 8 rfl d (ky xZ rfl) (PJ g (fun d6 E W => ∃ b9, ST true lM w W (hp w) ((B, Ol (km o) 52) :: ((N, Obj.cells a0 52 (0, 0)) :: b9)) ∧ E 1 = l ∧ E 3 = m ∧ E 4 = (.bool n) ∧ E 18 = (.string a.kR) ∧ E 24 = (.bool d6) ∧ E 25 = (.pointer (some ⟨B, 3, none⟩))) (bm 11 511) 2 ?_ (fun d6 D a2 => ?_)))))))
   ·rintro m1 E W ⟨b9, b, h2, h3, k8, h4, h5, h6⟩ f1
    refine XO 9 rfl (kJ (.string a.kR) ((km (⟨a.Kind, a.Head, a.kR, K0, K0, zS⟩ : ke)).toArray) b h6 h4 dU (HX a.kR) nb rfl (fun j5 b => ?_))
    have d := b.has.kh (Db (Kb Sn))
    refine ⟨d, (X 10 rfl d (ol h5) (lF kr (kY (ku ?_))))⟩
    obtain rfl := sj f1
    exact ⟨_, rfl, _, (b.kh St), h2, h3, rfl⟩
   refine bC D (fun k D => ?_) (fun k D => ?_)
   ·refine Xg 4 rfl rfl (cB k) d (ky xZ rfl) (xf 5 rfl rfl (cB k) d (fun _ h => kl rfl (kK h Mh rfl bT)) (bS D fun l2 f9 D => Iu 6 rfl rfl (cB k) (Eg b call57 (vm a.kR _ _  f9) (fun j6 b => ?_))))
    have d := b.has.kh (Db (Kb Sn))
    refine ⟨d, (X 7 rfl d (lg (cB k) rfl) ?_)⟩
    obtain rfl := sj D
    refine pf kr (a2 _ _ ⟨_, (b.kh St), rfl, rfl, rfl, rfl, rfl, rfl⟩)
   refine Xn 4 rfl rfl (cB k) d (Xn 5 rfl rfl (cB k) d (Xn 6 rfl rfl (cB k) d (X 7 rfl d (li (cB k) rfl) ?_)))
   obtain rfl := sj D
   refine pf kr (a2 _ _ ⟨_, (b.kh St), rfl, rfl, rfl, rfl, rfl, rfl⟩)
  refine sg (Wi rfl (Wa (ln (CI g rfl (fun e6 g => ?_) (fun e6 g => ?_)))))
  ·replace b := b.drew
   have d := b.has.kh (Db (Kb Sn))
   refine lm d kP (X 0 rfl d (ky ou rfl) (XH 1 rfl d (fun _ h => kl rfl (kx h Mh (ki a.B) rfl bo aG)) (X 2 rfl d (ko rfl) (X 3 rfl d (ko rfl) (X 8 rfl d (ky ou rfl) (PJ g (fun d7 E W => ∃ c0, ST true lM w W (hp w) ((B, Ol (km o) 52) :: ((N, Obj.cells a0 52 (0, 0)) :: c0)) ∧ E 1 = l ∧ E 3 = m ∧ E 4 = (.bool n) ∧ E 29 = j1 ∧ E 35 = (.bool d7) ∧ E 36 = (.pointer (some ⟨B, 4, none⟩))) (bm 11 511) 2 ?_ (fun d7 G a3 => ?_)))))))
   ·rintro m2 E W ⟨c0, b, h7, h8, k9, h9, i0, i1⟩ f2
    refine XO 9 rfl (kJ j1 g6 b i1 h9 aG (pk a.B) nb rfl (fun j7 b => ?_))
    have d := b.has.kh (Db (Kb Sn))
    refine ⟨d, (X 10 rfl d (ol i0) (lF kr (kY (ku ?_))))⟩
    obtain rfl := sj f2
    exact ⟨_, rfl, _, (b.kh St), h7, h8, rfl⟩
   refine bC G (fun t G => ?_) (fun t G => ?_)
   ·refine Xg 4 rfl rfl (cB t) d (ky ou rfl) (xf 5 rfl rfl (cB t) d (fun _ h => kl rfl (kx h Mh (ki a.B) rfl bo aG)) (bS G fun l3 g0 G => Iu 6 rfl rfl (cB t) (Eg b jO (sM a.B _ _  g0) (fun j8 b => ?_))))
    have d := b.has.kh (Db (Kb Sn))
    refine ⟨d, (X 7 rfl d (lg (cB t) rfl) ?_)⟩
    obtain rfl := sj G
    refine pf kr (a3 _ _ ⟨_, (b.kh St), rfl, rfl, rfl, rfl, rfl, rfl⟩)
   refine Xn 4 rfl rfl (cB t) d (Xn 5 rfl rfl (cB t) d (Xn 6 rfl rfl (cB t) d (X 7 rfl d (li (cB t) rfl) ?_)))
   obtain rfl := sj G
   refine pf kr (a3 _ _ ⟨_, (b.kh St), rfl, rfl, rfl, rfl, rfl, rfl⟩)
  refine sg (Wi rfl (Wa (ln (CI g rfl (fun e7 g => ?_) (fun e7 g => ?_)))))
  ·refine kA ?_
   replace b := b.drew
   have d := b.has.kh (Db (Kb Sn))
   refine lm d kP (X 0 rfl d (ky ou rfl) (XH 1 rfl d (fun _ h => kl rfl (kx h Mh (ki a.B) rfl bo aG)) (X 2 rfl d (ky ya rfl) (XH 3 rfl d (fun _ h => kl rfl (kK h Mh rfl bT)) (X 4 rfl d (ky ou rfl) (XO 5 rfl (kJ j1 g6 b rfl rfl aG (pk a.B) nb rfl (fun j9 b => ?_))))))))
   have d := b.has.kh (Db (Kb Sn))
   refine ⟨d, (X 6 rfl d (ky ya rfl) (XO 7 rfl (kJ (.string a.lj) ((km j2).toArray) b rfl rfl dU (HX a.lj) nb rfl (fun k0 b => ?_))))⟩
   have d := b.has.kh (Db (Kb Sn))
   refine ⟨d, (lF kr (ku (kB (Wm (Wm (LJ g (fun e0 E W => ∃ c1, ST true lM w W (hp w) ((B, Obj.cells b8 52 (0, 0)) :: ((N, Obj.cells a0 52 (0, 0)) :: c1)) ∧ E 1 = l ∧ E 3 = m ∧ E 4 = (.bool n) ∧ E 50 = (.bool e0)) 4 ?_ (fun e0 I F => ?_)))))))⟩
   ·rintro m3 E W ⟨c1, b, U, c7, c8, i2⟩ f3
    refine Wh i2 (LJ f3 (fun d9 E W => ∃ c2, ST true lM w W (hp w) ((B, Obj.cells b8 52 (0, 0)) :: ((N, Obj.cells a0 52 (0, 0)) :: c2)) ∧ E 1 = l ∧ E 3 = m ∧ E 4 = (.bool n) ∧ E 59 = (.bool d9)) 8 ?_ (fun d9 T a5 => ?_))
    ·rintro m4 E W ⟨c2, b, p, c9, d0, i3⟩ f4
     refine Wh i3 (LJ f4 (fun d8 E W => ∃ c3, ST true lM w W (hp w) ((B, Obj.cells b8 52 (0, 0)) :: ((N, Obj.cells a0 52 (0, 0)) :: c3)) ∧ E 1 = l ∧ E 3 = m ∧ E 4 = (.bool n) ∧ E 64 = (.bool d8)) 4 ?_ (fun d8 H a4 => ?_))
     ·rintro m5 E W ⟨c3, b, i4, i5, l0, i6⟩ f5
      refine Wg i6 (kQ (kY (ku ?_)))
      obtain rfl := sj f5
      exact ⟨_, rfl, _, (b.kh St), i4, i5, rfl⟩
     refine bC H (fun x H => ?_) (fun x H => ?_)
     ·refine ug x (ky ya p) (ug x (kl rfl (kK b.has (Mt Mh) rfl bT)) (bS H fun l4 g1 H => vn x (Eg b call57 (vm a.lj _ _  g1) (fun k1 b => V (lg (cB x) rfl) ?_))))
      obtain rfl := sj H
      exact a4 _ _ ⟨_, (b.kh St), p, c9, d0, rfl⟩
     refine un x (un x (un x (V (li (cB x) rfl) ?_)))
     obtain rfl := sj H
     exact a4 _ _ ⟨_, (b.kh St), p, c9, d0, rfl⟩
    refine bC T (fun c T => ?_) (fun c T => ?_)
    ·refine ug c (ky ou U) (ug c (ky ub rfl) (ug c (kl rfl (kK b.has (Mt Mh) rfl bT)) (ug c (ky rr U) (ug c (ky ub rfl) (ug c (kl rfl (kK b.has (Mt Mh) rfl bT)) (ug c (Hs rfl rfl rfl) (V (lg (cB c) rfl) ?_)))))))
     obtain rfl := sj T
     exact a5 _ _ ⟨_, (b.kh St), U, c7, c8, rfl⟩
    refine un c (un c (un c (un c (un c (un c (un c (V (li (cB c) rfl) ?_)))))))
    obtain rfl := sj T
    exact a5 _ _ ⟨_, (b.kh St), U, c7, c8, rfl⟩
   refine bC I (fun u I => ?_) (fun u I => ?_)
   ·refine ug u (ky ou rfl) (ug u (kl rfl (kx b.has (Mt Mh) (ki a.B) rfl bo aG)) (bS I fun l5 g2 I => vn u (Eg b jO (sM a.B _ _  g2) (fun k2 b => V (lg (cB u) rfl) ?_))))
    obtain rfl := sj I
    exact F _ _ ⟨_, (b.kh St), rfl, rfl, rfl, rfl⟩
   refine un u (un u (un u (V (li (cB u) rfl) ?_)))
   obtain rfl := sj I
   exact F _ _ ⟨_, (b.kh St), rfl, rfl, rfl, rfl⟩
  refine sg (Wi rfl (Wa (ln (CI g rfl (fun e8 g => ?_) (fun e8 g => ?_)))))
  ·refine kA ?_
   replace b := b.drew
   have d := b.has.kh (Db (Kb Sn))
   refine lm d kP (X 0 rfl d (ky ou rfl) (XH 1 rfl d (fun _ h => kl rfl (kx h Mh (ki a.B) rfl bo aG)) (X 2 rfl d (ky we rfl) (XH 3 rfl d (fun _ h => kl rfl (kx h Mh (ki a.C) rfl bo aG)) (X 4 rfl d (ky ou rfl) (XO 5 rfl (kJ j1 g6 b rfl rfl aG (pk a.B) nb rfl (fun k3 b => ?_))))))))
   have d := b.has.kh (Db (Kb Sn))
   refine ⟨d, (X 6 rfl d (ky we rfl) (XO 7 rfl (kJ (.agg (ki a.C).toArray) ((km m9).toArray) b rfl rfl aG (pk a.C) nb rfl (fun k4 b => ?_))))⟩
   have d := b.has.kh (Db (Kb Sn))
   refine ⟨d, (lF kr (ku (kB (Wm (Wm (LJ g (fun e3 E W => ∃ c4, ST true lM w W (hp w) ((B, Obj.cells g5 52 (0, 0)) :: ((N, Obj.cells a0 52 (0, 0)) :: c4)) ∧ E 1 = l ∧ E 3 = m ∧ E 4 = (.bool n) ∧ E 78 = (.bool e3)) 4 ?_ (fun e3 M a9 => ?_)))))))⟩
   ·rintro m6 E W ⟨c4, b, q, d1, d2, i7⟩ f6
    refine Wh i7 (LJ f6 (fun e2 E W => ∃ c5, ST true lM w W (hp w) ((B, Obj.cells g5 52 (0, 0)) :: ((N, Obj.cells a0 52 (0, 0)) :: c5)) ∧ E 1 = l ∧ E 3 = m ∧ E 4 = (.bool n) ∧ E 83 = (.bool e2)) 4 ?_ (fun e2 K O => ?_))
    ·rintro m7 E W ⟨c5, b, Y, d3, d4, i8⟩ f7
     refine Wh i8 (LJ f7 (fun e1 E W => ∃ c6, ST true lM w W (hp w) ((B, Obj.cells g5 52 (0, 0)) :: ((N, Obj.cells a0 52 (0, 0)) :: c6)) ∧ E 1 = l ∧ E 3 = m ∧ E 4 = (.bool n) ∧ E 91 = (.bool e1)) 7 ?_ (fun e1 J L => ?_))
     ·rintro m8 E W ⟨c6, b, i9, j0, l1, j3⟩ f8
      refine Wg j3 (kQ (kY (ku ?_)))
      obtain rfl := sj f8
      exact ⟨_, rfl, _, (b.kh St), i9, j0, rfl⟩
     refine bC J (fun i J => ?_) (fun i J => ?_)
     ·refine ug i (ky ou Y) (ug i (kl rfl (kx b.has (Mt Mh) (ki a.B) rfl bo aG)) (ug i (ky we Y) (ug i (kl rfl (kx b.has (Mt Mh) (ki a.C) rfl bo aG)) (bS J fun l6 g3 J => vn i (Eg b call155 (zy a.B a.C _ _  g3) (fun k5 b => ug i (lW rfl rfl rfl) (V (lg (cB i) rfl) ?_)))))))
      obtain rfl := sj J
      exact L _ _ ⟨_, (b.kh St), Y, d3, d4, rfl⟩
     refine un i (un i (un i (un i (un i (un i (V (li (cB i) rfl) ?_))))))
     obtain rfl := sj J
     exact L _ _ ⟨_, (b.kh St), Y, d3, d4, rfl⟩
    refine bC K (fun z K => ?_) (fun z K => ?_)
    ·refine ug z (ky we q) (ug z (kl rfl (kx b.has (Mt Mh) (ki a.C) rfl bo aG)) (bS K fun l7 g4 K => vn z (Eg b jO (sM a.C _ _  g4) (fun k6 b => V (lg (cB z) rfl) ?_))))
     obtain rfl := sj K
     exact O _ _ ⟨_, (b.kh St), q, d1, d2, rfl⟩
    refine un z (un z (un z (V (li (cB z) rfl) ?_)))
    obtain rfl := sj K
    exact O _ _ ⟨_, (b.kh St), q, d1, d2, rfl⟩
   refine bC M (fun y M => ?_) (fun y M => ?_)
   ·refine ug y (ky ou rfl) (ug y (kl rfl (kx b.has (Mt Mh) (ki a.B) rfl bo aG)) (bS M fun l8 g7 M => vn y (Eg b jO (sM a.B _ _  g7) (fun k7 b => V (lg (cB y) rfl) ?_))))
    obtain rfl := sj M
    exact a9 _ _ ⟨_, (b.kh St), rfl, rfl, rfl, rfl⟩
   refine un y (un y (un y (V (li (cB y) rfl) ?_)))
   obtain rfl := sj M
   exact a9 _ _ ⟨_, (b.kh St), rfl, rfl, rfl, rfl⟩
  refine sg (Wa (ln ?_))
  replace b := b.kh (Db (Db St))
  refine kM (mB (kU ?_))
  obtain rfl := sj g
  replace Z : some false = some r := Z
  obtain rfl := sj Z
  exact rP b
 rintro ⟨l9, e4⟩ E W ⟨P, b, g8, g9, h0⟩ e9
 refine sg (Wh h0 (Wm (LJ e9 (fun d5 E W => ∃ R, ST true lM w W (hp w) R ∧ E 97 = (.bool d5)) 4 ?_ (fun d5 Q A => ?_))))
 ·rintro m0 E W ⟨R, b, h1⟩ f0
  exact Wg h1 (lt (rQ f0 b))
 refine bC Q (fun j Q => ?_) (fun j Q => ?_)
 ·refine ug j (kl g9 (kx b.has Mh (km e4) rfl cE aT)) (ug j (kl g8 (kx b.has (Mt Mh) (km a) rfl cE aT)) (ug j (wQ rfl rfl (ow fB) (sU (yG _ e4 a))) (V (lg (cB j) rfl) ?_)))
  obtain rfl := sj Q
  exact A _ _ ⟨_, (b.kh (Db (Db St))), rfl⟩
 refine un j (un j (un j (V (li (cB j) rfl) ?_)))
 obtain rfl := sj Q
 exact A _ _ ⟨_, (b.kh (Db (Db St))), rfl⟩
theorem Eh (j : Value) (t : List ke) (c : ke) (r : Int) (w : World) (g : Sl (Pl km) 9 (hp w) j t) (hm : wN t c = some r) :
  kN true pg0 186 [j, (.agg (km c).toArray)] w (.int .i64 r) := by
 refine cG 19 func186 rfl (fun b => sg (VE (kX b rfl (fun Q J b => Wa (lS (Wm (V (lT aY rfl g) (Wm (ln ?_)))))))))
 refine lu (fun i E W => ∃ k, (E 8 = .int .i64 (i : Nat) ∧ E 7 = .int .i64 (t.length : Nat)) ∧ ST true lM w W (hp w) ((J, Ol (km c) 52) :: k) ∧ E 0 = j ∧ E 3 = (.pointer (some ⟨J, 0, none⟩)) ∧ qo c (t.drop i) i = some r) t.length g.len ⟨_, ⟨rfl, rfl⟩, (b.kh St), rfl, rfl, hm⟩ dc dc dc (fun _ _ _ h => by obtain ⟨_, m, _⟩ := h; exact m) ?_ ?_
 ·rintro K E W B ⟨k, ⟨l, o⟩, b, u, x, a⟩
  obtain ⟨y, M, H, G, I⟩ := lc B
  rw [H] at a
  refine bg (Wh l (Wa (ln (kA ?_))))
  replace b := b.drew
  have d := b.has.kh (Kb Sn)
  refine lm d kP (XH 0 rfl d (fun _ n => kl x (kx n Mh (km c) rfl cE aT)) (X 1 rfl d (ko u) (X 2 rfl d (ko rfl) (XQ 3 rfl d (ni (enc := km) (i := (K : Int)) (x0 := y) aY aT rfl rfl g (aH _) G) (fun N D => XH 4 rfl d (fun _ n => kl rfl (kO n D cE aT)) (X 5 rfl d (wQ rfl rfl (ow fB) (sU (yG _ c y))) (lF kr (ku (CI a rfl (fun z a => ?_) (fun z a => ?_))))))))))
  ·refine sg (Wm (Wa (ln ?_)))
   replace b := b.kh (Db St)
   refine kM (mB (kU (mB (kU ?_))))
   obtain rfl := sj a
   exact rP b
  exact lE (kY (ku ⟨l, _, ⟨rfl, o⟩, (b.kh St), u, x, (by rw [I]; exact a)⟩))
 rintro E W ⟨k, ⟨l, o⟩, b, u, x, a⟩
 rw [aI] at a
 refine ku ?_
 replace b := b.kh (Db St)
 exact sg (Wa (lt (rQ a b)))
theorem Cj (a : Value) (g : List ke) (c : ke) (r : Bool) (w : World) (i : Sl (Pl km) 9 (hp w) a g) (hm : sF g c = some r) :
  kN true pg0 124 [a, (.agg (km c).toArray)] w (.bool r) := by
 refine cG 9 func124 rfl (fun b => sg (VE (kX b rfl (fun k u b => Wa (lr (Wm (VA b Mh (km c) cE aT (bS hm fun x j hm => VE (Eg b call186 (Eh a g c _ _ (i.mono (Pl.mono _) b.kw) j) (fun t b => Wi rfl (Wa ?_)))))))))))
 refine ln ?_
 exact kM (rQ hm b)
theorem GU (a : Value) (g : List ke) (c : ke) (r : Bool) (w : World) (i : Sl (Pl km) 9 (hp w) a g) (hm : wc g c = some r) :
  kN true pg0 60 [a, (.agg (km c).toArray)] w (.bool r) := by
 refine cG 8 func60 rfl (fun b => sg (VE (kX b rfl (fun k u b => Wa (lr (Wm (VA b Mh (km c) cE aT (bS hm fun x j hm => VE (Eg b call124 (Cj a g c _ _ (i.mono (Pl.mono _) b.kw) j) (fun t b => Wa (kQ ?_)))))))))))
 refine ku ?_
 exact kM (rQ hm b)
theorem Kw (a : ke) (r : List kd) (w : World) (hm : za a = some r) :
  ma true pg0 243 [(.agg (km a).toArray)] w 50 ki 2 r := by
 refine uk 27 func243 rfl (fun b => sg (VE (kX b rfl (fun W2 h b => Wa (lS (VA b Mh (km a) cE aT (bS hm fun r3 o hm => VE (Eg b call113 (vB a _ _  o) (fun W5 b => V (nT rfl) (kQ ?_))))))))))
 refine ku (CI hm rfl (fun n hm => ?_) (fun n hm => ?_))
 ·refine sg (Wa (ln ?_))
  replace b := b.kh (Db St)
  refine kM (kU ?_)
  obtain rfl := sj hm
  exact lB (v := (.slice none 0 0)) rfl rfl ⟨_, [], rfl, b.nn (fun p d => by cases d) (by simp), kC.nil _ _ _⟩
 refine kg (Wf rr (VA b Mh (ki a.Head) bo aG (VE (kV (cs := (ki a.Head).toArray) b (nh rfl) (nc bB aG dv) (fun W8 y b => Wa (ln (kA (CJ hm (fun I E W => ∃ j i z, ST true lM w W (hp w) ((h, Ol (km a) 52) :: (i ++ z)) ∧ E 1 = (.pointer (some ⟨h, 0, none⟩)) ∧ E 3 = j ∧ kC 50 ki 2 j I i) (fun I g => ?_) ?_))))))))
 ·refine sg (Wf wh (VB b (Mt Mh) rfl rfl dz (Wi rfl (ln (CI g rfl (fun Q g => ?_) (fun Q g => ?_))))))
  ·refine kB (Wm (Wf ou (VA b (Mt Mh) (ki a.B) bo aG (VE (kV (cs := (ki a.B).toArray) b (nh rfl) (nc bB aG dv) (fun F a4 b => ?_))))))
   replace b := b.perm (Nb (Pb Pz) Nz)
   refine bS g fun c0 T g => VE (ny (enc := ki) (v := (.slice (some ⟨y, 0, none⟩) 1 1)) (vs := (.slice (some ⟨a4, 0, none⟩) 1 1)) (R := [(y, Ol (ki a.Head) 50)]) b nw dc pk bB qQ.1 qQ.2.1 rfl qQ.2.2.1 qQ.2.2.2 rfl rfl (kC.lit (l := [a.Head]) (enc := ki) rfl dc rfl rfl) (Sl.lit (enc := ki) (l := [a.B]) nw rfl nb rfl (b.at_ (Mt Mh))) T (fun L a9 m b K => Wa (ln ?_)))
   obtain rfl := sj g
   exact ⟨a9, m, _, (b.kh (Sb (Pr (Pb Pz)) (Kr (Db St)))), rfl, rfl, K⟩
  refine kn ?_
  obtain rfl := sj g
  replace b := b.J2
  exact ⟨(.slice (some ⟨y, 0, none⟩) 1 1), [(y, Ol (ki a.Head) 50)], _, (b.kh (Sb (Pr Pz) St)), rfl, rfl, (kC.lit (l := [a.Head]) (enc := ki) rfl dc rfl rfl)⟩
 rintro O E W ⟨j, i, z, b, D, G, u⟩ U
 refine kA (CJ U (fun H E W => ∃ t k B, ST true lM w W (hp w) (k ++ B) ∧ E 3 = t ∧ kC 50 ki 2 t H k) (fun H c => ?_) ?_)
 ·refine sg (V (ky wh D) (VB b Mh rfl rfl dz (Wi rfl (ln (CI c rfl (fun M c => ?_) (fun M c => ?_))))))
  ·refine kB (Wh G (V (ky we D) (VA b Mh (ki a.C) bo aG (VE (kV (cs := (ki a.C).toArray) b (nh rfl) (nc bB aG dv) (fun s a3 b => ?_))))))
   replace b := b.perm (Nr (Qb (Qb Qz)) Nz)
   refine bS c fun b9 N c => VE (ny (enc := ki) (v := j) (vs := (.slice (some ⟨a3, 0, none⟩) 1 1)) (R := i) b nw dc pk bB qQ.1 qQ.2.1 rfl qQ.2.2.1 qQ.2.2.2 rfl rfl u (Sl.lit (enc := ki) (l := [a.C]) nw rfl nb rfl (b.at_ (Ma Mh))) N (fun A q Z b J => Wa (ln ?_)))
   obtain rfl := sj c
   exact ⟨q, Z, _, (b.kh (Kr (Db (Db St)))), rfl, J⟩
  refine kn ?_
  obtain rfl := sj c
  exact ⟨j, i, _, (b.kh (Db St)), G, u⟩
 rintro P E W ⟨t, k, B, b, a5, x⟩ Y
 refine sg (Wh a5 (Wa (lt ?_)))
 obtain rfl := sj Y
 exact lB (v := t) rfl rfl ⟨_, k, rfl, b.nn (fun p d => (Ml d)) x.nd, x⟩
theorem DU (M : Nat) (u : Value) (a9 : List (kd × (List (ByteArray × Bool)))) (G : LO) (D : Value) (a0 : List ke) (B : LO) (a : Value) (Y : List (kd × (List ke))) (I : LO) (c : Value) (K : List (ByteArray × (List ke))) (t : LO) (j : Value) (a4 : List kk) (y : LO) (J : Int) (H : ke) (r : ((List ke) × (List (kd × (List ke))) × (List (ByteArray × (List ke))))) (w : World) {μ0 : kL} (h0 : nN μ0 ((M, Ob #[u, D, a, c, j, (.int .i64 J)] 189) :: (G ++ (B ++ (I ++ (t ++ (y ++ [])))))) w) (e9 : my (fun (x : kd) => (.agg (ki x).toArray)) (lX Value.string (fun (x : Bool) => (Value.bool x))) u a9 G) (a6 : kC 52 km 9 D a0 B) (b2 : my (fun (x : kd) => (.agg (ki x).toArray)) (kC 52 km 9) a Y I) (T : my Value.string (kC 52 km 9) c K t) (e1 : pT 111 kD 3 j a4 y) (hm : tL a9 a0 Y K a4 J H = some r) :
  lH true pg0 187 [(.pointer (some ⟨M, 0, none⟩)), (.agg (km H).toArray)] w ((M, Ob #[u, D, a, c, j, (.int .i64 J)] 189) :: (G ++ (B ++ (I ++ (t ++ (y ++ [])))))) (fun v L1 W' => ∃ y1 S2 S4 S6, v = (.tuple #[]) ∧ L1 = ((M, Ob #[u, y1, a, c, j, (.int .i64 J)] 189) :: (G ++ (S2 ++ (S4 ++ (S6 ++ (y ++ [])))))) ∧ kC 52 km 9 y1 r.1 S2 ∧ my (fun (x : kd) => (.agg (ki x).toArray)) (kC 52 km 9) a r.2.1 S4 ∧ my Value.string (kC 52 km 9) c r.2.2 S6) := by
 refine yN h0 55 func187 rfl (fun d => sg (VE (kX d rfl (fun W2 b1 d => ln (kA ?_)))))
 replace d := d.drew
 have m := d.has.kh (Kb Sn)
 have n := d.has.kh (Db (Kb Sn))
 refine vI 10 m n kP (lJ 0 rfl kr (.inl rfl) rfl dc (fun _ _ h => ⟨h.1, mn br h.2⟩) ⟨m, fun _ => n⟩ (fun _ _ _ _ => ko rfl) (lJ 1 rfl kr (.inl rfl) rfl dc (fun _ _ h => ⟨h.1, mn br h.2⟩) ⟨m, fun _ => n⟩ (fun _ _ _ _ => ko rfl) (lJ 2 rfl kr (.inl rfl) rfl dc (fun _ _ h => ⟨h.1, mn br h.2⟩) ⟨m, fun _ => n⟩ (fun _ _ _ _ => nx rfl) (lJ 3 rfl kr (.inl rfl) rfl dc (fun _ _ h => ⟨h.1, mn br h.2⟩) ⟨m, fun _ => n⟩ (fun _ _ _ _ => ky H5 rfl) (lJ 4 rfl kr (.inl rfl) rfl dc (fun _ _ h => ⟨h.1, mn br h.2⟩) ⟨m, fun _ => n⟩ (fun l W q s => have p := (s.2 (q.D7 10 [4] kr rfl)); kl rfl (kK p Mh rfl isAgg28)) (lJ 5 rfl kr (.inl rfl) rfl dc (fun _ _ h => ⟨h.1, mn br h.2⟩) ⟨m, fun _ => n⟩ (fun l W q s => have p := s.1; kl rfl (kx p Mh (km H) rfl cE aT)) (XE 6 rfl (kV (cs := (km H).toArray) d (nh rfl) (nc aY aT dn) (fun k0 g0 d => ?_)))))))))
 have m := d.has.kh (Db (Kb Sn))
 have n := d.has.kh (Db (Db (Kb Sn)))
 refine ⟨⟨m, fun _ => n⟩, ?_⟩
 replace d := d.perm (Nr (Qb (Qb (Qb (Qr Qz)))) Nz)
 refine bS hm fun a5 f0 hm => XE 7 rfl (ny (enc := km) (v := D) (vs := (.slice (some ⟨g0, 0, none⟩) 1 1)) (R := B) d lV dc ph aY qR.1 qR.2.1 rfl qR.2.2.1 qR.2.2.2 rfl rfl a6 (Sl.lit (enc := km) (l := [H]) lV rfl nb rfl (d.at_ (Ma Mh))) f0 (fun k1 k4 b7 d P => ?_))
 have m := d.has.kh (Dr (Db (Kb Sn)))
 have n := d.has.kh (Dr (Db (Db (Kb Sn))))
 refine ⟨⟨m, fun _ => n⟩, (lJ 8 rfl kr (.inl rfl) rfl dc (fun _ _ h => ⟨h.1, mn br h.2⟩) ⟨m, fun _ => n⟩ (fun _ _ _ _ => nx rfl) (lJ 9 rfl kr (.inl rfl) rfl dc (fun _ _ h => ⟨h.1, mn br h.2⟩) ⟨m, fun _ => n⟩ (fun _ _ _ _ => ky H5 rfl) ?_))⟩
 obtain ⟨a8, b0, rfl⟩ := P.form
 let A : Value := (.slice a8 a5.length b0)
 replace d := d.perm (Nb (Pr (Pb (Pb Pz))) Nz)
 refine XO 10 rfl (kJ A (#[u, A, a, c, j, (.int .i64 J)]) d rfl rfl sizeOf28 oc nb rfl (fun k2 d => ?_))
 have m := d.has.kh (Db (Dr (Db (Kb Sn))))
 refine ⟨⟨m, fun h => Ah kr h⟩, (lF kr (ku ?_))⟩
 replace d := d.kh (Kb (Kr (Db St)))
 refine kA (sg (VA d (Mt (Ma Mh)) (km H) cE aT (bS hm fun c1 f1 hm => VE (rW d call243 (Kw H _ _  f1) (fun k3 k5 k6 j9 d g4 ab e8 => ?_)))))
 let b8 := (c1.drop (Int.toNat 1))
 obtain ⟨g3, d, g7, ad, f2⟩ := ST.F7 d e8 nw
 refine bS hm fun _ b9 hm => VQ (FN (i := 1) bB aG rfl rfl f2 (qm b9) (qf b9)) (fun g1 b6 => V (lT bB rfl b6.1) (Wm (ln (lu (fun i E W => ∃ a3 U L, (E 20 = .int .i64 (i : Nat) ∧ E 19 = .int .i64 (b8.length : Nat)) ∧ ST true (keys ((M, Ob #[u, D, a, c, j, (.int .i64 J)] 189) :: (G ++ (B ++ (I ++ (t ++ (y ++ []))))))) w W g3 ((M, Ob #[u, A, a, c, j, (.int .i64 J)] 189) :: ((b1, Ol (km H) 52) :: (U ++ (b7 ++ (G ++ (t ++ (y ++ L))))))) ∧ E 0 = (.pointer (some ⟨M, 0, none⟩)) ∧ E 3 = (.pointer (some ⟨b1, 0, none⟩)) ∧ E 18 = g1 ∧ my (fun (x : kd) => (.agg (ki x).toArray)) (kC 52 km 9) a a3 U ∧ oS H K a5 (b8.drop i) a3 = some r) b8.length b6.1.len ⟨Y, I, _, ⟨rfl, rfl⟩, (d.kh (Kb (Sb (Pr Pz) (Sr (Qr (Qr Qz)) St)))), rfl, rfl, rfl, b2, hm⟩ dc dc dc (fun _ _ _ h => by obtain ⟨_, _, _, aa, _⟩ := h; exact aa) ?_ ?_))))
 ·rintro f3 E W d3 ⟨a3, U, L, ⟨eI, eN⟩, d, a2, N, O, Z, g⟩
  obtain ⟨Q, h4, d8, d7, d9⟩ := lc d3
  rw [d8] at g
  refine bg (VQ (ni (enc := ki) (i := (f3 : Int)) (x0 := Q) bB aG O eI b6.1 (aH _) d7) (fun j4 d4 => V (kl rfl (kO d.has d4 bo aG)) (VE (ll d dv (fun i1 j0 d => VO (kJ (.agg (ki Q).toArray) ((ki Q).toArray) d rfl rfl aG (pk Q) nb rfl (fun i2 d => ln ?_)))))))
  replace d := d.drew
  have m := d.has.kh (Kb (Kb (Kb Sn)))
  refine lm m kP (X 0 rfl m (ko a2) (X 1 rfl m (nx rfl) (X 2 rfl m (ky Lq rfl) (XH 3 rfl m (fun _ p => kl rfl (kK p (Mt Mh) rfl isAgg185)) (XH 4 rfl m (fun _ p => kl rfl (kx p Mh (ki Q) rfl bo aG)) (XH 5 rfl m (fun _ p => kl N (kx p (Mt (Mt Mh)) (km H) rfl cE aT)) (XE 6 rfl (kV (cs := (km H).toArray) d (nh rfl) (nc aY aT dn) (fun i3 e6 d => ?_)))))))))
  have m := d.has.kh (Db (Kb (Kb (Kb Sn))))
  refine ⟨m, ?_⟩
  obtain ⟨h1, d1⟩ := Z
  replace d := d.perm (Nr (Qb (Qb (Qb (Qb Qz)))) Nz)
  refine XE 7 rfl (Mo (k := Q) (x0 := [])  kE Av underlying185 jZ (kC.nil _ _ _) d d1 rfl rfl (fun i4 f5 h3 h6 e2 d c3 c2 => ?_))
  have m := d.has.kh (Dr (Dr (Db (Kb (Kb (Kb Sn))))))
  refine ⟨m, (X 8 rfl m (Al rfl rfl) (X 10 rfl m (Al rfl rfl) ?_))⟩
  replace d := d.perm (Nr (Qr Qz) Nz)
  refine bS g fun c0 c8 g => XE 9 rfl (ny (enc := km) (v := f5) (vs := (.slice (some ⟨e6, 0, none⟩) 1 1)) (R := e2) d lV dc ph aY qR.1 qR.2.1 rfl qR.2.2.1 qR.2.2.2 rfl rfl c3 (Sl.lit (enc := km) (l := [H]) lV rfl nb rfl (d.at_ (Ma (Ma Mh)))) c8 (fun i5 j5 h7 d c4 => ?_))
  have m := d.has.kh (Dr (Dr (Db (Kb (Kb (Kb Sn))))))
  refine ⟨m, ?_⟩
  replace d := d.perm (Nr (Qr Qz) Nz)
  refine XO 11 rfl (Ks (e := 0) (z := c0)  kE Av d c2 rfl rfl rfl c4 (fun i6 h2 e3 d c5 => ?_))
  have m := d.has.kh (Dr (Db (Kb (Kb (Kb Sn)))))
  refine ⟨m, (lF kr (kY (ku ?_)))⟩
  replace d := d.kh (Kr (Db (Db St)))
  exact ⟨eI, (nR kG a3 Q c0), e3, _, ⟨rfl, eN⟩, (d.kh (Sb (Pr Pz) (Sb (Pr Pz) St))), a2, N, O, c5.e, (by rw [d9]; exact g)⟩
 rintro E W ⟨a3, U, L, ⟨eI, eN⟩, d, a2, N, O, Z, g⟩
 rw [aI] at g
 refine ku (sg (V (ky wh N) (VB d (Mt Mh) rfl rfl dz (Wi rfl (ln (CI g rfl (fun c9 g => ?_) (fun c9 g => ?_)))))))
 ·replace d := d.drew
  have m := d.has.kh (Kb (Kb Sn))
  have n := d.has.kh (Db (Db (Dr (Dr (Dr (Kr Sn))))))
  refine vI 15 m n kP (lJ 0 rfl kr (.inl rfl) rfl dc (fun _ _ h => ⟨h.1, mn br h.2⟩) ⟨m, fun _ => n⟩ (fun _ _ _ _ => ko a2) (lJ 1 rfl kr (.inl rfl) rfl dc (fun _ _ h => ⟨h.1, mn br h.2⟩) ⟨m, fun _ => n⟩ (fun _ _ _ _ => nx rfl) (lJ 2 rfl kr (.inl rfl) rfl dc (fun _ _ h => ⟨h.1, mn br h.2⟩) ⟨m, fun _ => n⟩ (fun _ _ _ _ => ky HA rfl) (lJ 3 rfl kr (.inl rfl) rfl dc (fun _ _ h => ⟨h.1, mn br h.2⟩) ⟨m, fun _ => n⟩ (fun l W q s => have p := s.1; kl rfl (kK p Mh rfl isAgg186)) (lJ 4 rfl kr (.inl rfl) rfl dc (fun _ _ h => ⟨h.1, mn br h.2⟩) ⟨m, fun _ => n⟩ (fun _ _ _ _ => ky ya N) (lJ 5 rfl kr (.inl rfl) rfl dc (fun _ _ h => ⟨h.1, mn br h.2⟩) ⟨m, fun _ => n⟩ (fun l W q s => have p := s.1; kl rfl (kK p (Mt Mh) rfl bT)) (lJ 6 rfl kr (.inl rfl) rfl dc (fun _ _ h => ⟨h.1, mn br h.2⟩) ⟨m, fun _ => n⟩ (fun _ _ _ _ => ko a2) (lJ 7 rfl kr (.inl rfl) rfl dc (fun _ _ h => ⟨h.1, mn br h.2⟩) ⟨m, fun _ => n⟩ (fun _ _ _ _ => nx rfl) (lJ 8 rfl kr (.inl rfl) rfl dc (fun _ _ h => ⟨h.1, mn br h.2⟩) ⟨m, fun _ => n⟩ (fun _ _ _ _ => ky HA rfl) (lJ 9 rfl kr (.inl rfl) rfl dc (fun _ _ h => ⟨h.1, mn br h.2⟩) ⟨m, fun _ => n⟩ (fun l W q s => have p := s.1; kl rfl (kK p Mh rfl isAgg186)) (lJ 10 rfl kr (.inl rfl) rfl dc (fun _ _ h => ⟨h.1, mn br h.2⟩) ⟨m, fun _ => n⟩ (fun _ _ _ _ => ky ya N) (lJ 11 rfl kr (.inl rfl) rfl dc (fun _ _ h => ⟨h.1, mn br h.2⟩) ⟨m, fun _ => n⟩ (fun l W q s => have p := s.1; kl rfl (kK p (Mt Mh) rfl bT)) ?_))))))))))))
  obtain ⟨e0, F⟩ := T
  obtain ⟨h8, g8, g9⟩ := ng.rowAt mJ.1 F H.lj
  refine lJ 12 rfl kr (.inl rfl) rfl dc (fun _ _ h => ⟨h.1, mn br h.2⟩) ⟨m, fun _ => n⟩ (fun l W q s => have p := (s.2 (q.D7 15 [12] kr rfl)); pz (k := H.lj) (z := (.slice none 0 0)) Hb underlying186 jZ rfl rfl F (fun b o hq => p.2 b o (Ml hq))) (lJ 13 rfl kr (.inl rfl) rfl dc (fun _ _ h => ⟨h.1, mn br h.2⟩) ⟨m, fun _ => n⟩ (fun l W q s => have p := s.1; kl N (kx p (Mt Mh) (km H) rfl cE aT)) (XE 14 rfl (kV (cs := (km H).toArray) d (nh rfl) (nc aY aT dn) (fun i7 e7 d => ?_))))
  have m := d.has.kh (Db (Kb (Kb Sn)))
  have n := d.has.kh (Db (Db (Db (Dr (Dr (Dr (Kr Sn)))))))
  refine ⟨⟨m, fun _ => n⟩, ?_⟩
  replace d := d.perm (Nr (Qb (Qb (Qb (Qr (Qr (Qr Qz)))))) Nz)
  obtain ⟨h9, e4, d5, d6, d2⟩ := ng.open mJ.1 (kC.nil _ _ _) F H.lj
  replace d := d.perm (TP d5)
  replace d := d.perm (Nr (Qr Qz) Nz)
  refine bS g fun f4 d0 g => XE 15 rfl (ny (enc := km) (v := (rL lK e0 H.lj (.slice none 0 0))) (vs := (.slice (some ⟨e7, 0, none⟩) 1 1)) (R := e4) d lV dc ph aY qR.1 qR.2.1 rfl qR.2.2.1 qR.2.2.2 rfl rfl d6 (Sl.lit (enc := km) (l := [H]) lV rfl nb rfl (d.at_ (Ma (Ma Mh)))) d0 (fun i8 j6 i0 d c6 => ?_))
  have m := d.has.kh (Dr (Dr (Db (Kb (Kb Sn)))))
  refine ⟨⟨m, fun h => Ah kr h⟩, ?_⟩
  replace d := d.perm (Nr (Qr Qz) Nz)
  refine XO 16 rfl (Rf (k := H.lj) (z := f4)  Hb underlying186 d d2 rfl rfl rfl c6 (fun i9 e5 d c7 => ?_))
  have m := d.has.kh (Dr (Db (Kb (Kb Sn))))
  refine ⟨⟨m, fun h => Ah kr h⟩, (lF kr (qT ?_))⟩
  obtain rfl := sj g
  exact pu rfl ⟨_, _, rfl, (d.mI (Sb (Pr (Pb Pz)) (Sr (Qr (Qb (Qb (Qr (Qr Qz))))) (Sr (Qr (Qb (Qb (Qr Qz)))) (Sr (Qr (Qb (Qb Qz))) (Kr (Db (Db (Kr Sn))))))))), A, b7, U, e5, rfl, rfl, P, Z, c7.e⟩
 refine lE (qT ?_)
 obtain rfl := sj g
 exact pu rfl ⟨_, _, rfl, (d.mI (Kb (Db (Sr (Qr (Qr Qz)) (Sr (Qr Qz) (Kr (Kr (Kr Sn)))))))), A, b7, U, t, rfl, rfl, P, Z, T⟩
theorem rq (J : Nat) (g : Value) (a0 : List (kd × (List (ByteArray × Bool)))) (D : LO) (a : Value) (M : List ke) (u : LO) (j : Value) (Z : List (kd × (List ke))) (B : LO) (c : Value) (N : List (ByteArray × (List ke))) (y : LO) (i : Value) (Y : List kk) (t : LO) (H : Int) (G : kd) (U : ByteArray) (r : ((List (kd × (List (ByteArray × Bool)))) × (List kk) × Int)) (w : World) {μ0 : kL} (h0 : nN μ0 ((J, Ob #[g, a, j, c, i, (.int .i64 H)] 189) :: (D ++ (u ++ (B ++ (y ++ (t ++ [])))))) w) (a5 : my (fun (x : kd) => (.agg (ki x).toArray)) (lX Value.string (fun (x : Bool) => (Value.bool x))) g a0 D) (b5 : kC 52 km 9 a M u) (c3 : my (fun (x : kd) => (.agg (ki x).toArray)) (kC 52 km 9) j Z B) (b6 : my Value.string (kC 52 km 9) c N y) (K : pT 111 kD 3 i Y t) (hm : oe a0 M Z N Y H G U = some r) :
  lH true pg0 244 [(.pointer (some ⟨J, 0, none⟩)), (.agg (ki G).toArray), (.string U)] w ((J, Ob #[g, a, j, c, i, (.int .i64 H)] 189) :: (D ++ (u ++ (B ++ (y ++ (t ++ [])))))) (fun v L1 W' => ∃ S1 y3 S4, v = (.tuple #[]) ∧ L1 = ((J, Ob #[g, a, j, c, y3, (.int .i64 (r.2.2))] 189) :: (S1 ++ (u ++ (B ++ (y ++ (S4 ++ [])))))) ∧ my (fun (x : kd) => (.agg (ki x).toArray)) (lX Value.string (fun (x : Bool) => (Value.bool x))) g r.1 S1 ∧ pT 111 kD 3 y3 r.2.1 S4) := by
 let O := (#[g, a, j, c, i, (.int .i64 H)] : Array Value)
 refine yN h0 53 func244 rfl (fun m => sg (VE (kX m rfl (fun W2 b1 m => ln (kA (kA ?_))))))
 replace m := m.drew
 have d := m.has.kh (Kb (Kb (Kr Sn)))
 refine lm d kP (X 0 rfl d (ko rfl) (X 1 rfl d (nx rfl) (X 2 rfl d (ky xu rfl) (XH 3 rfl d (fun _ p => kl rfl (kK p (Mt Mh) rfl iG)) (XH 4 rfl d (fun _ p => kl rfl (kx p Mh (ki G) rfl bo aG)) ?_)))))
 obtain ⟨f4, Q⟩ := a5
 refine XH 5 rfl d (fun _ p => pz (k := G) (z := (.map none)) Av eK fu rfl rfl Q (fun b o A => p.2 b o (Mt (Mt (Ml A))))) (X 6 rfl d (ko rfl) (XH 7 rfl d (fun _ p => vG (k := U) (z := false) (vf := (fun (x : Bool) => (Value.bool x))) Hb fC gw rfl rfl (ng.DJ (μ := hp _) kE.1 Q G (fun b o A => p.2 b o (Mt (Mt (Ml A)))))) (lF kr (ku (CI hm rfl (fun d5 hm => ?_) (fun d5 hm => ?_))))))
 ·refine kM (kU ?_)
  obtain rfl := sj hm
  exact pu rfl ⟨_, _, rfl, (m.mI (Db (Kb (Kr (Kr (Kr (Kr (Kr Sn)))))))), D, i, t, rfl, rfl, Q.e, K⟩
 refine kn (kA (CJ hm (fun b2 E W => ∃ L c0, ST true (keys ((J, Obj.cells O 189 (0, 0)) :: (D ++ (u ++ (B ++ (y ++ (t ++ []))))))) w W μ0 ((b1, Ol (ki G) 50) :: ((J, Obj.cells O 189 (0, 0)) :: (L ++ (u ++ (B ++ (y ++ (t ++ c0))))))) ∧ E 0 = (.pointer (some ⟨J, 0, none⟩)) ∧ E 2 = (.string U) ∧ E 4 = (.pointer (some ⟨b1, 0, none⟩)) ∧ my (fun (x : kd) => (.agg (ki x).toArray)) (lX Value.string (fun (x : Bool) => (Value.bool x))) g b2 L) (fun b2 I => ?_) ?_))
 ·refine kA ?_
  replace m := m.drew
  have d := m.has.kh (Kb (Kb (Kr Sn)))
  refine lm d kP (X 0 rfl d (ko rfl) (X 1 rfl d (nx rfl) (X 2 rfl d (ky xu rfl) (XH 3 rfl d (fun _ p => kl rfl (kK p (Mt Mh) rfl iG)) (XH 4 rfl d (fun _ p => kl rfl (kx p Mh (ki G) rfl bo aG)) (XH 5 rfl d (fun _ p => pz (k := G) (z := (.map none)) Av eK fu rfl rfl Q (fun b o A => p.2 b o (Mt (Mt (Ml A))))) (X 6 rfl d (KH kE.1 fC Q rfl rfl) (lF kr (ku (CI I rfl (fun b7 I => ?_) (fun b7 I => ?_)))))))))))
  ·replace m := m.drew
   have d := m.has.kh (Kb (Kb Sn))
   refine lm d kP (X 0 rfl d (ko rfl) (X 1 rfl d (nx rfl) (X 2 rfl d (ky xu rfl) (XH 3 rfl d (fun _ p => kl rfl (kK p (Mt Mh) rfl iG)) (XH 4 rfl d (fun _ p => kl rfl (kx p Mh (ki G) rfl bo aG)) (XE 5 rfl (BP (P := pg0) Value.string (fun (x : Bool) => (Value.bool x)) m (fun e1 e7 d9 m b3 => ?_))))))))
   have d := m.has.kh (Dr (Kb (Kb Sn)))
   refine ⟨d, ?_⟩
   replace m := m.perm (Nr (Qr (Qb (Qb Qz))) Nz)
   refine bS I fun e4 b9 I => XO 6 rfl (On (k := G) (z := ([]))  Av eK m Q rfl rfl rfl b3 b9 (fun e2 c4 m b4 => ?_))
   have d := m.has.kh (Dr (Kb (Kb Sn)))
   refine ⟨d, (lF kr (ku ?_))⟩
   obtain rfl := sj I
   exact ⟨c4, _, (m.kh (Sb (Pr Pz) (Sb (Pr Pz) St))), rfl, rfl, rfl, b4.e⟩
  refine kn ?_
  obtain rfl := sj I
  exact ⟨D, _, (m.kh St), rfl, rfl, rfl, Q.e⟩
 rintro f2 E W ⟨L, c0, m, F, c1, c2, c8⟩ T
 refine kA ?_
 replace m := m.drew
 have d := m.has.kh (Kb (Kb Sn))
 have n := m.has.kh (Db (Db (Kr Sn)))
 refine vI 7 d n kP (lJ 0 rfl kr (.inl rfl) rfl dc (fun _ _ h => ⟨h.1, mn br h.2⟩) ⟨d, fun _ => n⟩ (fun _ _ _ _ => ko F) (lJ 1 rfl kr (.inl rfl) rfl dc (fun _ _ h => ⟨h.1, mn br h.2⟩) ⟨d, fun _ => n⟩ (fun _ _ _ _ => nx rfl) (lJ 2 rfl kr (.inl rfl) rfl dc (fun _ _ h => ⟨h.1, mn br h.2⟩) ⟨d, fun _ => n⟩ (fun _ _ _ _ => ky xu rfl) (lJ 3 rfl kr (.inl rfl) rfl dc (fun _ _ h => ⟨h.1, mn br h.2⟩) ⟨d, fun _ => n⟩ (fun l W q s => have p := s.1; kl rfl (kK p (Mt Mh) rfl iG)) (lJ 4 rfl kr (.inl rfl) rfl dc (fun _ _ h => ⟨h.1, mn br h.2⟩) ⟨d, fun _ => n⟩ (fun l W q s => have p := s.1; kl c2 (kx p Mh (ki G) rfl bo aG)) ?_)))))
 obtain ⟨e5, a9⟩ := c8
 refine lJ 5 rfl kr (.inl rfl) rfl dc (fun _ _ h => ⟨h.1, mn br h.2⟩) ⟨d, fun _ => n⟩ (fun l W q s => have p := (s.2 (q.D7 7 [5] kr rfl)); pz (k := G) (z := (.map none)) Av eK fu rfl rfl a9 (fun b o A => p.2 b o (Ml A))) (lJ 6 rfl kr (.inl rfl) rfl dc (fun _ _ h => ⟨h.1, mn br h.2⟩) ⟨d, fun _ => n⟩ (fun _ _ _ _ => ko c1) ?_)
 replace m := m.perm (Nr (Qb (Qb Qz)) Nz)
 refine bS T fun f3 c7 T => XO 7 rfl (MY (k := G) (v := true) (vf := (fun (x : Bool) => (Value.bool x)))  kE.1 Hb fC m a9 rfl rfl rfl c7 (fun e8 c9 m c5 => ?_))
 have d := m.has.kh (Dr (Kb (Kb Sn)))
 refine ⟨⟨d, fun h => Ah kr h⟩, (lF kr (ku (sg (Wh F (Wn (Wf Fc (VB m (Ma (Mt Mh)) rfl rfl dz (Wi rfl (Wn (Wf Fc ?_))))))))))⟩
 replace m := m.perm (Nb (Pr (Pb Pz)) Nz)
 refine VO (kJ (.int .i64 (wi0 .i64 (H + 1))) (#[g, a, j, c, i, (.int .i64 (wi0 .i64 (H + 1)))]) m rfl rfl iz (E5 _ (wi0 .i64 (H + 1))) nb rfl (fun e9 m => ln ?_))
 replace m := m.drew
 have d := m.has.kh (Db (Dr (Kb Sn)))
 have n := m.has.kh (Kb Sn)
 refine vI 12 d n kP (lJ 0 rfl kr (.inl rfl) rfl dc (fun _ _ h => ⟨h.1, mn br h.2⟩) ⟨d, fun _ => n⟩ (fun _ _ _ _ => ko F) (lJ 1 rfl kr (.inl rfl) rfl dc (fun _ _ h => ⟨h.1, mn br h.2⟩) ⟨d, fun _ => n⟩ (fun _ _ _ _ => ko F) (lJ 2 rfl kr (.inl rfl) rfl dc (fun _ _ h => ⟨h.1, mn br h.2⟩) ⟨d, fun _ => n⟩ (fun _ _ _ _ => nx rfl) (lJ 3 rfl kr (.inl rfl) rfl dc (fun _ _ h => ⟨h.1, mn br h.2⟩) ⟨d, fun _ => n⟩ (fun _ _ _ _ => ky A6 rfl) (lJ 4 rfl kr (.inl rfl) rfl dc (fun _ _ h => ⟨h.1, mn br h.2⟩) ⟨d, fun _ => n⟩ (fun l W q s => have p := (s.2 (q.D7 12 [4] kr rfl)); kl rfl (kK p Mh rfl isAgg187)) (lJ 5 rfl kr (.inl rfl) rfl dc (fun _ _ h => ⟨h.1, mn br h.2⟩) ⟨d, fun _ => n⟩ (fun l W q s => have p := s.1; kl c2 (kx p Mh (ki G) rfl bo aG)) (lJ 6 rfl kr (.inl rfl) rfl dc (fun _ _ h => ⟨h.1, mn br h.2⟩) ⟨d, fun _ => n⟩ (fun _ _ _ _ => ko c1) (lJ 7 rfl kr (.inl rfl) rfl dc (fun _ _ h => ⟨h.1, mn br h.2⟩) ⟨d, fun _ => n⟩ (fun _ _ _ _ => mK (v := (.agg (kD (⟨G, U⟩ : kk)).toArray)) (oP rfl rfl) (me eb cU (Ft _ cU) kr)) (XE 8 rfl (kV (cs := (kD (⟨G, U⟩ : kk)).toArray) m (nh rfl) (nc cY cK eb) (fun f0 d4 m => ?_)))))))))))
 have d := m.has.kh (Db (Db (Dr (Kb Sn))))
 have n := m.has.kh (Db (Kb Sn))
 refine ⟨⟨d, fun _ => n⟩, ?_⟩
 replace m := m.perm (Nr (Qb (Qb (Qr (Qb (Qr (Qr (Qr Qz))))))) Nz)
 refine bS T fun b0 c6 T => XE 9 rfl (KM (enc := kD) (v := i) (vs := (.slice (some ⟨d4, 0, none⟩) 1 1)) (R := t) m oE dc zD cY rH.1 rH.2.1 rfl rH.2.2.1 rH.2.2.2 rfl rfl K (Sl.lit (enc := kD) (l := [(⟨G, U⟩ : kk)]) oE rfl nb rfl (m.at_ (Ma Mh))) c6 (fun f1 e6 d0 m a7 => ?_))
 have d := m.has.kh (Dr (Db (Db (Dr (Kb Sn)))))
 have n := m.has.kh (Dr (Db (Kb Sn)))
 refine ⟨⟨d, fun _ => n⟩, (lJ 10 rfl kr (.inl rfl) rfl dc (fun _ _ h => ⟨h.1, mn br h.2⟩) ⟨d, fun _ => n⟩ (fun _ _ _ _ => nx rfl) (lJ 11 rfl kr (.inl rfl) rfl dc (fun _ _ h => ⟨h.1, mn br h.2⟩) ⟨d, fun _ => n⟩ (fun _ _ _ _ => ky A6 rfl) ?_))⟩
 obtain ⟨a3, a4, rfl⟩ := a7.form
 let a2 : Value := (.slice a3 b0.length a4)
 replace m := m.perm (Nb (Pr (Pb Pz)) Nz)
 refine XO 12 rfl (kJ a2 (#[g, a, j, c, a2, (.int .i64 (wi0 .i64 (H + 1)))]) m rfl rfl sizeOf187 oc nb rfl (fun e0 m => ?_))
 have d := m.has.kh (Db (Dr (Db (Dr (Kb Sn)))))
 refine ⟨⟨d, fun h => Ah kr h⟩, (lF kr (qT ?_))⟩
 obtain rfl := sj T
 exact pu rfl ⟨_, _, rfl, (m.mI (Kb (Sr (Qr (Qb Qz)) (Sr (Qr (Qb (Qb Qz))) (Sr (Qr (Qb (Qb Qz))) (Sr (Qr (Qb (Qb Qz))) (Kr Sn))))))), c9, a2, d0, rfl, rfl, c5.e, a7⟩
theorem wj (a : Value) (g : List (ByteArray × Bool)) (r : Unit) (w : World) (c : vi Value.string (fun (x : Bool) => (Value.bool x)) (hp w) a g) (hm : pd g = some r) :
  lH true pg0 283 [a] w [] (fun v k W' => ∃ i, v = (.func (.func 319) #[] #[(.pointer (some ⟨i, 0, none⟩))]) ∧ k = ((i, Ob #[a] 190) :: [])) := by
 refine uk 4 func283 rfl (fun b => sg ?_)
 obtain ⟨t, rfl⟩ := c.form
 refine VE (kX b rfl (fun u j b => Wa (lr (V (qv (by exact sW rfl) rfl) (Wa (lt ?_))))))
 obtain rfl := sj hm
 exact lB (v := (.func (.func 319) #[] #[(.pointer (some ⟨j, 0, none⟩))])) rfl rfl ⟨_, _, rfl, (b.D4 (Kb Sn)), j, rfl, rfl⟩
theorem HJ {β : Type} {vf : β → Value} {l : List (ByteArray × β)} {b : Nat} {a : Value} {W : World} {r : List ByteArray} (c : W.heap[b]? = some (.cells #[a] 190 (0, 0))) (hm : vi Value.string vf (hp W) a l) (hk : GK l = some r) : ma false pg0 282 [.func (.func 319) #[] #[.pointer (some ⟨b, 0, none⟩)]] W 9 ob 1 r := KB (P := pg0) QO QK NA rfl cJ call319 call310 c hm hk
theorem yJ (T : Nat) (a : Value) (u : List (kd × (List (ByteArray × Bool)))) (c : Value) (t : List ke) (j : Value) (G : List (kd × (List ke))) (g : Value) (B : List (ByteArray × (List ke))) (i : Value) (D : List kk) (Q : Int) (H : kd) (r : List ByteArray) (w : World) (J : rT (fun (x : kd) => (.agg (ki x).toArray)) (lX Value.string (fun (x : Bool) => (Value.bool x))) (hp w) a u) (Z : Sl (Pl km) 9 (hp w) c t) (a4 : rT (fun (x : kd) => (.agg (ki x).toArray)) (kC 52 km 9) (hp w) j G) (a0 : rT Value.string (kC 52 km 9) (hp w) g B) (a3 : Sl (Pl kD) 3 (hp w) i D) (Y : At (hp w) (.pointer (some ⟨T, 0, none⟩)) [a, c, j, g, i, (.int .i64 Q)]) (hm : qS u t G B D Q H = some r) :
  ma false pg0 245 [(.pointer (some ⟨T, 0, none⟩)), (.agg (ki H).toArray)] w 9 ob 1 r := by
 refine uk 15 func245 rfl (fun d => sg (VE (kX d rfl (fun W2 P d => Wa (lS (Wm (V (xI underlying132 rfl rfl) (ln (qZ rfl ?_)))))))))
 refine kn (kA ?_)
 replace d := d.drew
 have h := d.has.kh (Kb Sn)
 refine lm h kP (X 0 rfl h (ko rfl) (X 1 rfl h (nx rfl) (XQ 2 rfl h (xn [a] xu rfl Y rfl) (fun b9 A => XH 3 rfl h (fun _ l => kl rfl (ns l (y := a) A iG)) (XH 4 rfl h (fun _ l => kl rfl (kx l Mh (ki H) rfl bo aG)) ?_)))))
 obtain ⟨a9, W, K, M⟩ := J
 refine XH 5 rfl h (fun _ l => pz (k := H) (z := (.map none)) Av eK fu rfl rfl K (fun b o m => l.1 b o (M b o m))) (bS hm fun c0 E hm => ?_)
 refine XE 6 rfl (B6 d (bI _) call283 (fun _ _ _ _ => lH.lZ (wj (rL kG a9 H (.map none)) ((lU kG u H).getD []) _ _ ((ng.DJ kE.1 K H M).mono d.kw) E)) (fun b5 c2 c3 R d I q n a5 => ?_) (L0 := []))
 obtain ⟨b7, N, rfl⟩ := a5
 replace N := N.symm; subst N
 replace d := d.perm (Tb Tn)
 have h := d.has.qe I (Db (Kb Sn))
 refine ⟨h, (bS hm fun c1 F hm => XE 7 rfl (rW d call282 (HJ (vf := (fun (x : Bool) => (Value.bool x))) (d.has.2 _ _ Mh) ((ng.DJ kE.1 K H M).mono (fun b o m => d.has.1 b o (I b o m))) F) (fun b6 O c4 L d a2 s U => ?_)))⟩
 have h := d.has.qe (I.trans a2) (Dr (Db (Kb Sn)))
 refine ⟨h, (X 8 rfl h (ol rfl) (lF kr (ku ?_)))⟩
 replace d := d.kh (Kr (Db (Db St)))
 refine kM ?_
 obtain rfl := sj hm
 exact lB (v := O) rfl rfl ⟨_, L, rfl, d.nn (fun p m => (Ml m)) U.nd, U⟩
theorem Ec (K : Nat) (g : Value) (N : List (kd × (List (ByteArray × Bool)))) (G : LO) (a : Value) (H : List ke) (k : LO) (j : Value) (J : List (kd × (List ke))) (u : LO) (c : Value) (I : List (ByteArray × (List ke))) (t : LO) (z : Value) (M : List kk) (B : LO) (Z : Int) (A a2 : kd) (r : ((List (kd × (List (ByteArray × Bool)))) × (List kk) × Int)) (w : World) {μ0 : kL} (h0 : nN μ0 ((K, Ob #[g, a, j, c, z, (.int .i64 Z)] 189) :: (G ++ (k ++ (u ++ (t ++ (B ++ [])))))) w) (a5 : my (fun (x : kd) => (.agg (ki x).toArray)) (lX Value.string (fun (x : Bool) => (Value.bool x))) g N G) (Q : kC 52 km 9 a H k) (a4 : my (fun (x : kd) => (.agg (ki x).toArray)) (kC 52 km 9) j J u) (T : my Value.string (kC 52 km 9) c I t) (a3 : pT 111 kD 3 z M B) (hm : uC N H J I M Z A a2 = some r) :
  lH false pg0 284 [(.pointer (some ⟨K, 0, none⟩)), (.agg (ki A).toArray), (.agg (ki a2).toArray)] w ((K, Ob #[g, a, j, c, z, (.int .i64 Z)] 189) :: (G ++ (k ++ (u ++ (t ++ (B ++ [])))))) (fun v L1 W' => ∃ S1 y3 S4, v = (.tuple #[]) ∧ L1 = ((K, Ob #[g, a, j, c, y3, (.int .i64 (r.2.2))] 189) :: (S1 ++ (k ++ (u ++ (t ++ (S4 ++ [])))))) ∧ my (fun (x : kd) => (.agg (ki x).toArray)) (lX Value.string (fun (x : Bool) => (Value.bool x))) g r.1 S1 ∧ pT 111 kD 3 y3 r.2.1 S4) := by
 refine yN h0 21 func284 rfl (fun d => sg (VE (kX d rfl (fun W2 b1 d => VE (kX d rfl (fun W4 b3 d => lr (Wm (VA d (Mt Mh) (ki A) bo aG (bS hm fun r5 e6 hm => VE (rW d call245 (yJ K g N a H j J c I z M Z A _ _ (a5.at (fun b o l => d.at_ (Mt (Mt (Mt (Ml l)))))) (Q.sl lV (fun b o l => d.at_ (Mt (Mt (Mt (Ma (Ml l))))))) (a4.at (fun b o l => d.at_ (Mt (Mt (Mt (Ma (Ma (Ml l)))))))) (T.at (fun b o l => d.at_ (Mt (Mt (Mt (Ma (Ma (Ma (Ml l))))))))) ((a3.B5 oE).mono (Pl.mono _) (mE (fun b o l => d.at_ (Mt (Mt (Mt (Ma (Ma (Ma (Ma (Ml l))))))))))) (At.of (d.at_ (Mt (Mt Mh))) _ rfl) e6) (fun W7 e7 s e2 d f5 ae a9 => V (mY bY rfl a9) (Wm ?_))))))))))))
 refine ln ?_
 replace d := d.kh (Kr (Kb (Db St)))
 refine tS (lu (fun i E W => ∃ m U a0 n Y q F P, (E 12 = .int .i64 (i : Nat) ∧ E 11 = .int .i64 (r5.length : Nat)) ∧ kH s F ∧ ST false (keys ((K, Ob #[g, a, j, c, z, (.int .i64 Z)] 189) :: (G ++ (k ++ (u ++ (t ++ (B ++ []))))))) w W F ((K, Ob #[g, a, j, c, a0, (.int .i64 q)] 189) :: ((b3, Ol (ki a2) 50) :: (U ++ (k ++ (u ++ (t ++ (Y ++ (e2 ++ P)))))))) ∧ E 0 = (.pointer (some ⟨K, 0, none⟩)) ∧ E 5 = (.pointer (some ⟨b3, 0, none⟩)) ∧ E 10 = e7 ∧ my (fun (x : kd) => (.agg (ki x).toArray)) (lX Value.string (fun (x : Bool) => (Value.bool x))) g m U ∧ pT 111 kD 3 a0 n Y ∧ qt H J I a2 (r5.drop i) m n q = some r) r5.length a9.len ⟨N, G, z, M, B, Z, s, _, ⟨rfl, rfl⟩, (kH.refl _), (d.kh (Sb (Pr (Pb Pz)) (Sb (Pr Pz) (Sr (Qr Qz) (Sr (Qr Qz) (Sr (Qr Qz) (Sr (Qr Qz) (Sr (Qr Qz) St)))))))), rfl, rfl, rfl, a5, a3, hm⟩ dc dc dc (fun _ _ _ h => by obtain ⟨_, _, _, _, _, _, _, _, aa, _⟩ := h; exact aa) ?_ ?_)
 ·rintro d8 E W c9 ⟨m, U, a0, n, Y, q, F, P, ⟨eI, eN⟩, b6, d, R, c1, c2, L, O, D⟩
  obtain ⟨c4, f0, d2, c5, d3⟩ := lc c9
  rw [d2] at D
  refine bg (VQ (mS (i := (d8 : Int)) (x0 := c4) bY dU c2 eI a9 (aH _) c5) (fun f6 d0 => V (kl rfl (uX d.has (fun p l => (Mt (Mt (Ma (Ma (Ma (Ma (Ma (Ml l))))))))) a9 (fun _ => rfl) d0 c5 (y := (.string c4)) rfl bT)) (Wa (ln (kB (Wh R (V (kl c1 (kx d.has (Mt Mh) (ki a2) rfl bo aG)) (Wm (bS D fun c3 d1 D => ?_)))))))))
  refine VE (eM d (Cb Pz (Cr (Qb Qz) (Cr (Qb Qz) (Cr (Qb Qz) (Cr (Qb Qz) (Cr (Qb Qz) Cn)))))) call244 (fun hh _ => lH.lZ (rq K g m U a H k j J u c I t a0 n Y q a2 c4 _ _ hh L Q a4 T O d1)) ?_)
  rintro _ f7 e1 f2 d c7 ab ad ⟨d6, e0, d7, b4, rfl, d4, d5⟩
  obtain rfl := b4.symm
  replace d := d.perm (Tb (Tr (Tr (Tr (Tr (Tr Tn))))))
  exact kQ (kY (ku ⟨eI, c3.1, d6, e0, c3.2.1, d7, c3.2.2, e1, _, ⟨rfl, eN⟩, (b6.trans c7), (d.kh (Kb (Sb (Pr (Pr (Pr (Pr (Pr Pz))))) St))), R, c1, c2, d4, d5, (by rw [d3]; exact D)⟩))
 rintro E W ⟨m, U, a0, n, Y, q, F, P, ⟨eI, eN⟩, b6, d, R, c1, c2, L, O, D⟩
 rw [aI] at D
 refine ku ?_
 replace d := d.kh (Kb (Db (Kr (Kr (Kr (Kr (Kr (Dr St))))))))
 refine qT ?_
 obtain rfl := sj D
 exact pu rfl ⟨_, _, rfl, (d.mI (Kb (Kr (Kr (Kr (Kr (Kr Sn))))))), U, a0, Y, rfl, rfl, L, O⟩
theorem zw (K : Nat) (G : Value) (Z : List (kd × (List (ByteArray × Bool)))) (D : LO) (g : Value) (I : List ke) (a : LO) (B : Value) (N : List (kd × (List ke))) (y : LO) (i : Value) (J : List (ByteArray × (List ke))) (c : LO) (t : Value) (M : List kk) (j : LO) (a0 : Int) (Q : ke) (a2 : kk) (r : ((List (kd × (List (ByteArray × Bool)))) × (List kk) × Int)) (w : World) {μ0 : kL} (h0 : nN μ0 ((K, Ob #[G, g, B, i, t, (.int .i64 a0)] 189) :: (D ++ (a ++ (y ++ (c ++ (j ++ [])))))) w) (U : my (fun (x : kd) => (.agg (ki x).toArray)) (lX Value.string (fun (x : Bool) => (Value.bool x))) G Z D) (T : kC 52 km 9 g I a) (a3 : my (fun (x : kd) => (.agg (ki x).toArray)) (kC 52 km 9) B N y) (Y : my Value.string (kC 52 km 9) i J c) (H : pT 111 kD 3 t M j) (hm : rS Z I N J M a0 Q a2 = some r) :
  lH false pg0 246 [(.pointer (some ⟨K, 0, none⟩)), (.agg (km Q).toArray), (.agg (kD a2).toArray)] w ((K, Ob #[G, g, B, i, t, (.int .i64 a0)] 189) :: (D ++ (a ++ (y ++ (c ++ (j ++ [])))))) (fun v L1 W' => ∃ S1 y3 S4, v = (.tuple #[]) ∧ L1 = ((K, Ob #[G, g, B, i, y3, (.int .i64 (r.2.2))] 189) :: (S1 ++ (a ++ (y ++ (c ++ (S4 ++ [])))))) ∧ my (fun (x : kd) => (.agg (ki x).toArray)) (lX Value.string (fun (x : Bool) => (Value.bool x))) G r.1 S1 ∧ pT 111 kD 3 y3 r.2.1 S4) := by
 let s := (#[G, g, B, i, t, (.int .i64 a0)] : Array Value)
 refine yN h0 57 func246 rfl (fun d => sg (VE (kX d rfl (fun W2 A d => VE (kX d rfl (fun W4 L d => lr (Wf wh (VB d (Mt Mh) rfl rfl dz (ln (lR (kA ?_)))))))))))
 refine kB (Wi rfl (Wa (ln (CI hm rfl (fun e5 hm => ?_) (fun e5 hm => ?_)))))
 ·refine kB (Wm (Wf rr (VA d (Mt Mh) (ki Q.Head) bo aG (Wf uK (VB d Mh rfl rfl bT (bS hm fun r6 e6 hm => ?_))))))
  refine VE (eM d (Cb (Pb (Pb Pz)) (Cr (Qb (Qb Qz)) (Cr (Qb (Qb Qz)) (Cr (Qb (Qb Qz)) (Cr (Qb (Qb Qz)) (Cr (Qb (Qb Qz)) Cn)))))) call244 (fun q _ => lH.lZ (rq K G Z D g I a B N y i J c t M j a0 Q.Head a2.kR _ _ q U T a3 Y H e6)) ?_)
  rintro _ g7 ab f8 d f2 R m ⟨d2, e7, d3, a8, rfl, c5, c6⟩
  obtain rfl := a8.symm
  replace d := d.perm (Tb (Tr (Tr (Tr (Tr (Tr Tn))))))
  refine kQ (kY (qT ?_))
  obtain rfl := sj hm
  exact pu rfl ⟨_, _, rfl, (d.mI (Kb (Kr (Kr (Kr (Kr (Kr Sn))))))), d2, e7, d3, rfl, rfl, c5, c6⟩
 refine sg (Wi rfl (Wa (ln (CI hm rfl (fun c0 hm => ?_) (fun c0 hm => ?_)))))
 ·refine kB (Wm (Wf uK (VB d Mh rfl rfl bT (Wf ya (VB d (Mt Mh) rfl rfl bT (V (mK (v := (.agg (ki (⟨a2.kR, Q.lj⟩ : kd)).toArray)) (oP rfl rfl) (me dv cW (HO _ cW) kr)) (Wf rr (VA d (Mt Mh) (ki Q.Head) bo aG (bS hm fun g3 c3 hm => ?_)))))))))
  refine VE (eM d (Cb (Pb (Pb Pz)) (Cr (Qb (Qb Qz)) (Cr (Qb (Qb Qz)) (Cr (Qb (Qb Qz)) (Cr (Qb (Qb Qz)) (Cr (Qb (Qb Qz)) Cn)))))) call284 (fun q _ => (Ec K G Z D g I a B N y i J c t M j a0 (⟨a2.kR, Q.lj⟩ : kd) Q.Head _ _ q U T a3 Y H c3)) ?_)
  rintro _ g8 h2 f9 d f3 a6 m ⟨d4, e9, d5, a9, rfl, c7, c8⟩
  obtain rfl := a9.symm
  replace d := d.perm (Tb (Tr (Tr (Tr (Tr (Tr Tn))))))
  refine kQ (kY (qT ?_))
  obtain rfl := sj hm
  exact pu rfl ⟨_, _, rfl, (d.mI (Kb (Kr (Kr (Kr (Kr (Kr Sn))))))), d4, e9, d5, rfl, rfl, c7, c8⟩
 refine sg (Wi rfl (Wa (ln (CI hm rfl (fun c1 hm => ?_) (fun c1 hm => ?_)))))
 ·refine kA ?_
  replace d := d.drew
  have h := d.has.kh (Kb (Kb (Kb (Kr Sn))))
  refine lm h kP (X 0 rfl h (ko rfl) (X 1 rfl h (nx rfl) (X 2 rfl h (ky xu rfl) (XH 3 rfl h (fun _ l => kl rfl (kK l (Mt (Mt Mh)) rfl iG)) (X 4 rfl h (ky ou rfl) (XH 5 rfl h (fun _ l => kl rfl (kx l (Mt Mh) (ki Q.B) rfl bo aG)) ?_))))))
  obtain ⟨f7, a5⟩ := U
  refine XH 6 rfl h (fun _ l => pz (k := Q.B) (z := (.map none)) Av eK fu rfl rfl a5 (fun b o n => l.2 b o (Mt (Mt (Mt (Ml n)))))) (X 7 rfl h (ky uK rfl) (XH 8 rfl h (fun _ l => kl rfl (kK l Mh rfl bT)) (XH 9 rfl h (fun _ l => vG (k := a2.kR) (z := false) (vf := (fun (x : Bool) => (Value.bool x))) Hb fC gw rfl rfl (ng.DJ (μ := hp _) kE.1 a5 Q.B (fun b o n => l.2 b o (Mt (Mt (Mt (Ml n))))))) (X 10 rfl h (ko rfl) (PJ hm (fun P E W => ∃ O, ST false (keys ((K, Obj.cells s 189 (0, 0)) :: (D ++ (a ++ (y ++ (c ++ (j ++ []))))))) w W μ0 ((L, Ol (kD a2) 111) :: ((A, Ol (km Q) 52) :: ((K, Obj.cells s 189 (0, 0)) :: (D ++ (a ++ (y ++ (c ++ (j ++ O)))))))) ∧ E 0 = (.pointer (some ⟨K, 0, none⟩)) ∧ E 4 = (.pointer (some ⟨A, 0, none⟩)) ∧ E 5 = (.pointer (some ⟨L, 0, none⟩)) ∧ E 50 = (.bool P)) (bm 22 4194303) 0 ?_ (fun P p F => ?_))))))
  ·rintro h1 E W ⟨O, d, e1, e2, e3, e4⟩ a4
   refine lF kr (ku (CI a4 e4 (fun c2 a4 => ?_) (fun c2 a4 => ?_)))
   ·refine kB (Wh e1 (V (ky rr e2) (VA d (Mt Mh) (ki Q.Head) bo aG (V (ky uK e3) (VB d Mh rfl rfl bT (bS a4 fun g4 c4 a4 => ?_))))))
    refine VE (eM d (Cb (Pb (Pb Pz)) (Cr (Qb (Qb Qz)) (Cr (Qb (Qb Qz)) (Cr (Qb (Qb Qz)) (Cr (Qb (Qb Qz)) (Cr (Qb (Qb Qz)) Cn)))))) call244 (fun q _ => lH.lZ (rq K G Z D g I a B N y i J c t M j a0 Q.Head a2.kR _ _ q a5.e T a3 Y H c4)) ?_)
    rintro _ g9 h3 g0 d f4 aa m ⟨d7, f0, d8, b0, rfl, c9, d0⟩
    obtain rfl := b0.symm
    replace d := d.perm (Tb (Tr (Tr (Tr (Tr (Tr Tn))))))
    refine kQ (kY (qT ?_))
    obtain rfl := sj a4
    exact pu rfl ⟨_, _, rfl, (d.mI (Kb (Kr (Kr (Kr (Kr (Kr Sn))))))), d7, f0, d8, rfl, rfl, c9, d0⟩
   refine lE (kY (qT ?_))
   obtain rfl := sj a4
   exact pu rfl ⟨_, _, rfl, (d.mI (Db (Db (Kb (Kr (Kr (Kr (Kr (Kr Sn))))))))), D, t, j, rfl, rfl, a5.e, H⟩
  refine bC p (fun u p => ?_) (fun u p => ?_)
  ·refine Xg 11 rfl rfl (cB u) h (ko rfl) (Xg 12 rfl rfl (cB u) h (nx rfl) (Xg 13 rfl rfl (cB u) h (ky xu rfl) (xf 14 rfl rfl (cB u) h (fun _ l => kl rfl (kK l (Mt (Mt Mh)) rfl iG)) (Xg 15 rfl rfl (cB u) h (ky we rfl) (xf 16 rfl rfl (cB u) h (fun _ l => kl rfl (kx l (Mt Mh) (ki Q.C) rfl bo aG)) (xf 17 rfl rfl (cB u) h (fun _ l => pz (k := Q.C) (z := (.map none)) Av eK fu rfl rfl a5 (fun b o n => l.2 b o (Mt (Mt (Mt (Ml n)))))) (Xg 18 rfl rfl (cB u) h (ky uK rfl) (xf 19 rfl rfl (cB u) h (fun _ l => kl rfl (kK l Mh rfl bT)) (xf 20 rfl rfl (cB u) h (fun _ l => vG (k := a2.kR) (z := false) (vf := (fun (x : Bool) => (Value.bool x))) Hb fC gw rfl rfl (ng.DJ (μ := hp _) kE.1 a5 Q.C (fun b o n => l.2 b o (Mt (Mt (Mt (Ml n))))))) (X 21 rfl h (lg (cB u) rfl) ?_))))))))))
   obtain rfl := sj p
   refine pf kr (F _ _ ⟨_, (d.kh St), rfl, rfl, rfl, rfl⟩)
  refine Xn 11 rfl rfl (cB u) h (Xn 12 rfl rfl (cB u) h (Xn 13 rfl rfl (cB u) h (Xn 14 rfl rfl (cB u) h (Xn 15 rfl rfl (cB u) h (Xn 16 rfl rfl (cB u) h (Xn 17 rfl rfl (cB u) h (Xn 18 rfl rfl (cB u) h (Xn 19 rfl rfl (cB u) h (Xn 20 rfl rfl (cB u) h (X 21 rfl h (li (cB u) rfl) ?_))))))))))
  obtain rfl := sj p
  refine pf kr (F _ _ ⟨_, (d.kh St), rfl, rfl, rfl, rfl⟩)
 refine lE (kY (qT ?_))
 obtain rfl := sj hm
 exact pu rfl ⟨_, _, rfl, (d.mI (Db (Db (Kb (Kr (Kr (Kr (Kr (Kr Sn))))))))), D, t, j, rfl, rfl, U, H⟩
theorem De (K : Nat) (g : Value) (T : List (kd × (List (ByteArray × Bool)))) (D : LO) (a : Value) (G : List ke) (j : LO) (t : Value) (J : List (kd × (List ke))) (u : LO) (c : Value) (H : List (ByteArray × (List ke))) (k : LO) (z : Value) (M : List kk) (B : LO) (a0 : Int) (Z : ke) (r : ((List (kd × (List (ByteArray × Bool)))) × (List kk) × Int)) (w : World) {μ0 : kL} (h0 : nN μ0 ((K, Ob #[g, a, t, c, z, (.int .i64 a0)] 189) :: (D ++ (j ++ (u ++ (k ++ (B ++ [])))))) w) (a2 : my (fun (x : kd) => (.agg (ki x).toArray)) (lX Value.string (fun (x : Bool) => (Value.bool x))) g T D) (N : kC 52 km 9 a G j) (Y : my (fun (x : kd) => (.agg (ki x).toArray)) (kC 52 km 9) t J u) (Q : my Value.string (kC 52 km 9) c H k) (U : pT 111 kD 3 z M B) (hm : sR T G J H M a0 Z = some r) :
  lH false pg0 188 [(.pointer (some ⟨K, 0, none⟩)), (.agg (km Z).toArray)] w ((K, Ob #[g, a, t, c, z, (.int .i64 a0)] 189) :: (D ++ (j ++ (u ++ (k ++ (B ++ [])))))) (fun v L1 W' => ∃ S1 y3 S4, v = (.tuple #[]) ∧ L1 = ((K, Ob #[g, a, t, c, y3, (.int .i64 (r.2.2))] 189) :: (S1 ++ (j ++ (u ++ (k ++ (S4 ++ [])))))) ∧ my (fun (x : kd) => (.agg (ki x).toArray)) (lX Value.string (fun (x : Bool) => (Value.bool x))) g r.1 S1 ∧ pT 111 kD 3 y3 r.2.1 S4) := by
 refine yN h0 33 func188 rfl (fun d => sg (VE (kX d rfl (fun W2 b1 d => lr (Wf wh (VB d Mh rfl rfl dz (ln (bg ?_))))))))
 refine Wi rfl (Wa (ln (CI hm rfl (fun f1 hm => ?_) (fun f1 hm => ?_))))
 ·refine kB (Wm (Wf rr (VA d Mh (ki Z.Head) bo aG (Wf xZ (VB d Mh rfl rfl bT (bS hm fun r4 f2 hm => ?_))))))
  refine VE (eM d (Cb (Pb Pz) (Cr (Qb Qz) (Cr (Qb Qz) (Cr (Qb Qz) (Cr (Qb Qz) (Cr (Qb Qz) Cn)))))) call244 (fun hh _ => lH.lZ (rq K g T D a G j t J u c H k z M B a0 Z.Head Z.kR _ _ hh a2 N Y Q U f2)) ?_)
  rintro _ h1 ae g8 d g2 ad m ⟨e7, f4, e8, c2, rfl, e0, e1⟩
  obtain rfl := c2.symm
  replace d := d.perm (Tb (Tr (Tr (Tr (Tr (Tr Tn))))))
  refine kQ (kY (qT ?_))
  obtain rfl := sj hm
  exact pu rfl ⟨_, _, rfl, (d.mI (Kb (Kr (Kr (Kr (Kr (Kr Sn))))))), e7, f4, e8, rfl, rfl, e0, e1⟩
 refine sg (Wm (Wf ou (VA d Mh (ki Z.B) bo aG (bS hm fun c6 d9 hm => VE (rW d call245 (yJ K g T a G t J c H z M a0 Z.B _ _ (a2.at (fun b o l => d.at_ (Mt (Mt (Ml l))))) (N.sl lV (fun b o l => d.at_ (Mt (Mt (Ma (Ml l)))))) (Y.at (fun b o l => d.at_ (Mt (Mt (Ma (Ma (Ml l))))))) (Q.at (fun b o l => d.at_ (Mt (Mt (Ma (Ma (Ma (Ml l)))))))) ((U.B5 oE).mono (Pl.mono _) (mE (fun b o l => d.at_ (Mt (Mt (Ma (Ma (Ma (Ma (Ml l)))))))))) (At.of (d.at_ (Mt Mh)) _ rfl) d9) (fun g9 f3 d5 e5 d f6 ab F => V (mY bY rfl F) (Wm (ln (tS (lu (fun i E W => ∃ n a3 a5 q a4 a9 L R, (E 13 = .int .i64 (i : Nat) ∧ E 12 = .int .i64 (c6.length : Nat)) ∧ kH d5 L ∧ ST false (keys ((K, Ob #[g, a, t, c, z, (.int .i64 a0)] 189) :: (D ++ (j ++ (u ++ (k ++ (B ++ []))))))) w W L ((K, Ob #[g, a, t, c, a5, (.int .i64 a9)] 189) :: ((b1, Ol (km Z) 52) :: (a3 ++ (j ++ (u ++ (k ++ (a4 ++ (e5 ++ R)))))))) ∧ E 0 = (.pointer (some ⟨K, 0, none⟩)) ∧ E 3 = (.pointer (some ⟨b1, 0, none⟩)) ∧ E 11 = f3 ∧ my (fun (x : kd) => (.agg (ki x).toArray)) (lX Value.string (fun (x : Bool) => (Value.bool x))) g n a3 ∧ pT 111 kD 3 a5 q a4 ∧ pC G J H Z (c6.drop i) n q a9 = some r) c6.length F.len ⟨T, D, z, M, B, a0, d5, _, ⟨rfl, rfl⟩, (kH.refl _), (d.kh (Sb (Pr (Pb Pz)) (Sb (Pr Pz) (Sr (Qr Qz) (Sr (Qr Qz) (Sr (Qr Qz) (Sr (Qr Qz) (Sr (Qr Qz) St)))))))), rfl, rfl, rfl, a2, U, hm⟩ dc dc dc (fun _ _ _ h => by obtain ⟨_, _, _, _, _, _, _, _, a1, _⟩ := h; exact a1) ?_ ?_))))))))))
 ·rintro e2 E W c8 ⟨n, a3, a5, q, a4, a9, L, R, ⟨eI, eN⟩, b7, d, c0, A, c1, O, P, I⟩
  obtain ⟨s, f7, d1, c4, d2⟩ := lc c8
  rw [d1] at I
  refine bg (VQ (mS (i := (e2 : Int)) (x0 := s) bY dU c1 eI F (aH _) c4) (fun g3 c9 => V (kl rfl (uX d.has (fun p l => (Mt (Mt (Ma (Ma (Ma (Ma (Ma (Ml l))))))))) F (fun _ => rfl) c9 c4 (y := (.string s)) rfl bT)) (Wa (ln (kB (Wh c0 (V (kl A (kx d.has (Mt Mh) (km Z) rfl cE aT)) (V (ky ou A) (VA d (Mt Mh) (ki Z.B) bo aG (Wm (V (mK (v := (.agg (kD (⟨Z.B, s⟩ : kk)).toArray)) (oP rfl rfl) (me eb cU (Ft _ cU) kr)) ?_)))))))))))
  refine bS I fun c3 d0 I => ?_
  refine VE (eM d (Cb Pz (Cr (Qb Qz) (Cr (Qb Qz) (Cr (Qb Qz) (Cr (Qb Qz) (Cr (Qb Qz) Cn)))))) call246 (fun hh _ => (zw K g n a3 a G j t J u c H k a5 q a4 a9 Z (⟨Z.B, s⟩ : kk) _ _ hh O N Y Q P d0)) ?_)
  rintro _ g4 e4 f9 d c5 aa m ⟨d6, e3, d7, b5, rfl, d3, d4⟩
  obtain rfl := b5.symm
  replace d := d.perm (Tb (Tr (Tr (Tr (Tr (Tr Tn))))))
  exact kQ (kY (ku ⟨eI, c3.1, d6, e3, c3.2.1, d7, c3.2.2, e4, _, ⟨rfl, eN⟩, (b7.trans c5), (d.kh (Kb (Sb (Pr (Pr (Pr (Pr (Pr Pz))))) St))), c0, A, c1, d3, d4, (by rw [d2]; exact I)⟩))
 rintro E W ⟨n, a3, a5, q, a4, a9, L, R, ⟨eI, eN⟩, b7, d, c0, A, c1, O, P, I⟩
 rw [aI] at I
 refine ku ?_
 replace d := d.kh (Kb (Db (Kr (Kr (Kr (Kr (Kr (Dr St))))))))
 refine kY (qT ?_)
 obtain rfl := sj I
 exact pu rfl ⟨_, _, rfl, (d.mI (Kb (Kr (Kr (Kr (Kr (Kr Sn))))))), a3, a5, a4, rfl, rfl, O, P⟩
theorem CA (I : Nat) (a : Value) (e8 : List (kd × (List (ByteArray × Bool)))) (K : LO) (c : Value) (Q : List ke) (j : LO) (u : Value) (N : List (kd × (List ke))) (y : LO) (g : Value) (H : List (ByteArray × (List ke))) (t : LO) (G : Value) (d4 : List kk) (D : LO) (a0 : Int) (r : ((List (kd × (List (ByteArray × Bool)))) × (List kk) × Int)) (w : World) {μ0 : kL} (h0 : nN μ0 ((I, Ob #[a, c, u, g, G, (.int .i64 a0)] 189) :: (K ++ (j ++ (y ++ (t ++ (D ++ [])))))) w) (h4 : my (fun (x : kd) => (.agg (ki x).toArray)) (lX Value.string (fun (x : Bool) => (Value.bool x))) a e8 K) (c1 : kC 52 km 9 c Q j) (g7 : my (fun (x : kd) => (.agg (ki x).toArray)) (kC 52 km 9) u N y) (c2 : my Value.string (kC 52 km 9) g H t) (g4 : pT 111 kD 3 G d4 D) (hm : uY e8 Q N H d4 a0 = some r) :
  lH false pg0 189 [(.pointer (some ⟨I, 0, none⟩))] w ((I, Ob #[a, c, u, g, G, (.int .i64 a0)] 189) :: (K ++ (j ++ (y ++ (t ++ (D ++ [])))))) (fun v L1 W' => ∃ S1 y3 S4, v = (.tuple #[]) ∧ L1 = ((I, Ob #[a, c, u, g, y3, (.int .i64 (r.2.2))] 189) :: (S1 ++ (j ++ (y ++ (t ++ (S4 ++ [])))))) ∧ my (fun (x : kd) => (.agg (ki x).toArray)) (lX Value.string (fun (x : Bool) => (Value.bool x))) a r.1 S1 ∧ pT 111 kD 3 y3 r.2.1 S4) := by
 let g5 : Value := (.pointer (some ⟨I, 0, none⟩))
 let b8 := ((I, Ob #[a, c, u, g, G, (.int .i64 a0)] 189) :: (K ++ (j ++ (y ++ (t ++ (D ++ []))))))
 refine yN h0 75 func189 rfl (fun d => tS (lR (np (fun m E W => ∃ e3 b7 e4 a1 b9 d1 b4 h5, kH μ0 b4 ∧ ST false (keys b8) w W b4 ((I, Ob #[a, c, u, g, e4, (.int .i64 d1)] 189) :: (b7 ++ (j ++ (y ++ (t ++ (b9 ++ h5)))))) ∧ E 0 = g5 ∧ my (fun (x : kd) => (.agg (ki x).toArray)) (lX Value.string (fun (x : Bool) => (Value.bool x))) a e3 b7 ∧ pT 111 kD 3 e4 a1 b9 ∧ nH Q N H m e3 a1 d1 = some r) kT ⟨e8, K, G, d4, D, a0, μ0, _, (kH.refl _), (d.kh St), rfl, h4, g4, hm⟩ ?_)))
 rintro m E W ⟨e3, b7, e4, a1, b9, d1, b4, h5, i0, d, F, g9, c5, M⟩
 cases m with
 | zero => rw [nH] at M; cases M
 | succ n0 =>
  refine kA (sg (Wh F (Wn (Wf A6 (VB d Mh rfl rfl isAgg187 (V (Ps cY rfl c5) (Wi rfl (ln (CI M rfl (fun i7 M => ?_) (fun i7 M => ?_))))))))))
  ·refine kn (bg (Wh F (Wn (Wf A6 (VB d Mh rfl rfl isAgg187 (bS M fun B h2 M => VQ (ni (enc := kD) (i := 0) (x0 := B) cY cK rfl rfl (c5.B5 oE) (kI h2) (kF h2)) (fun q0 j7 => V (kl rfl (kO (og.hp _) (j7.mono (mE (fun b o p => d.has.2 b o (Mt (Ma (Ma (Ma (Ma (Ml p))))))))) dX cK)) (VE (ll d eb (fun o9 a5 d => VO (kJ (.agg (kD B).toArray) ((kD B).toArray) d rfl rfl cK (zD B) nb rfl (fun p0 d => kQ ?_))))))))))))
   let j2 := ((lU kG N B.kd).getD [])
   let j1 : Value := (.pointer (some ⟨a5, 0, none⟩))
   let i6 := ((kD B).toArray : Array Value)
   let i5 := ((lU lK H B.kd.kq).getD [])
   refine ku (sg (Wh F (Wh F (Wn (Wf A6 (VB d (Mt Mh) rfl rfl isAgg187 (bS M fun _ g8 M => VQ (Mj (i := 1) cY cK rfl rfl oE c5 (qm g8) (qf g8)) (fun q3 h1 => Wn (Wf A6 ?_)))))))))
   obtain ⟨f7, g0, rfl⟩ := h1.form
   let g6 : Value := (.slice f7 (a1.drop (Int.toNat 1)).length g0)
   replace d := d.perm (Nb (Pb Pz) Nz)
   refine VO (kJ g6 (#[a, c, u, g, g6, (.int .i64 d1)]) d rfl rfl sizeOf187 oc nb rfl (fun p1 d => ln (kA (kA ?_))))
   replace d := d.drew
   have l := d.has.kh (Kb (Kb (Dr (Dr (Kr Sn)))))
   refine lm l kP (X 0 rfl l (ko F) (X 1 rfl l (nx rfl) (X 2 rfl l (ky Lq rfl) (XH 3 rfl l (fun _ n => kl rfl (kK n Mh rfl isAgg185)) (X 4 rfl l (ky Di rfl) (XH 5 rfl l (fun _ n => kl rfl (kx n (Mt Mh) (ki B.kd) rfl bo aG)) ?_))))))
   obtain ⟨l7, c3⟩ := g7
   obtain ⟨o7, f0, k2⟩ := ng.rowAt kE.1 c3 B.kd
   refine XH 6 rfl l (fun _ n => pz (k := B.kd) (z := (.slice none 0 0)) Av underlying185 jZ rfl rfl c3 (fun b o p => n.2 b o (Mt (Mt (Ml p))))) (X 7 rfl l (lT aY rfl (f0.B5 lV)) (X 8 rfl l (ko rfl) (lF kr (ku (CJ M (fun d0 E W => ∃ d6 e5 d7 b5 h6, kH b4 b5 ∧ ST false (keys b8) w W b5 ((I, Ob #[a, c, u, g, e5, (.int .i64 d0.2.2)] 189) :: ((a5, Obj.cells i6 111 (0, 0)) :: (d6 ++ (j ++ (y ++ (t ++ (d7 ++ h6))))))) ∧ E 0 = g5 ∧ E 2 = j1 ∧ my (fun (x : kd) => (.agg (ki x).toArray)) (lX Value.string (fun (x : Bool) => (Value.bool x))) a d0.1 d6 ∧ pT 111 kD 3 e5 d0.2.1 d7) (fun d0 j6 => ?_) ?_)))))
   ·refine lu (fun i E W => ∃ c7 a3 P c8 a4 d2 d3 f9, (E 35 = .int .i64 (i : Nat) ∧ E 34 = .int .i64 (j2.length : Nat)) ∧ kH b4 d3 ∧ ST false (keys b8) w W d3 ((I, Ob #[a, c, u, g, P, (.int .i64 d2)] 189) :: ((a5, Obj.cells i6 111 (0, 0)) :: (a3 ++ (j ++ (y ++ (t ++ (a4 ++ f9))))))) ∧ E 0 = g5 ∧ E 2 = j1 ∧ E 33 = (rL kG l7 B.kd (.slice none 0 0)) ∧ my (fun (x : kd) => (.agg (ki x).toArray)) (lX Value.string (fun (x : Bool) => (Value.bool x))) a c7 a3 ∧ pT 111 kD 3 P c8 a4 ∧ pp Q N H B (j2.drop i) c7 c8 d2 = some d0) j2.length (f0.B5 lV).len ⟨e3, b7, g6, (a1.drop (Int.toNat 1)), b9, d1, b4, _, ⟨rfl, rfl⟩, (kH.refl _), (d.kh St), F, rfl, rfl, g9, h1, j6⟩ dc dc dc (fun _ _ _ h => by obtain ⟨_, _, _, _, _, _, _, _, s, _⟩ := h; exact s) ?_ ?_
    ·rintro m5 E W j0 ⟨c7, a3, P, c8, a4, d2, d3, f9, ⟨q, eN⟩, d5, d, e1, e2, g1, f3, f4, T⟩
     obtain ⟨b3, o3, l1, l0, l2⟩ := lc j0
     rw [l1] at T
     refine bg (VQ (ni (enc := km) (i := (m5 : Int)) (x0 := b3) aY aT g1 q (f0.B5 lV) (aH _) l0) (fun q2 j9 => V (kl rfl (kO (og.hp _) (j9.mono (mE (fun b o p => d.has.2 b o (Mt (Mt (Ma (Ma (Ml (k2 b o p))))))))) cE aT)) (VE (ll d dn (fun p5 p9 d => VO (kJ (.agg (km b3).toArray) ((km b3).toArray) d rfl rfl aT (ph b3) nb rfl (fun p6 d => ln (kB (Wh e1 (VA d Mh (km b3) cE aT (V (kl e2 (kx d.has (Mt (Mt Mh)) (kD B) rfl dX cK)) (bS T fun g3 k1 T => ?_))))))))))))
     refine VE (eM d (Cb (Pb Pz) (Cr (Qb (Qb Qz)) (Cr (Qb (Qb Qz)) (Cr (Qb (Qb Qz)) (Cr (Qb (Qb Qz)) (Cr (Qb (Qb Qz)) Cn)))))) call246 (fun hh _ => (zw I a c7 a3 c Q j u N y g H t P c8 a4 d2 b3 B _ _ hh f3 c1 c3.e c2 f4 k1)) ?_)
     rintro _ q5 n6 o6 d i4 ab A ⟨m1, n4, m2, f6, rfl, l5, l6⟩
     obtain rfl := f6.symm
     replace d := d.perm (Tb (Tr (Tr (Tr (Tr (Tr Tn))))))
     refine kQ (kY (ku ?_))
     replace d := d.kh (Kb (Kr (Kr (Kr (Kr (Kr (Db St)))))))
     exact ⟨q, g3.1, m1, n4, g3.2.1, m2, g3.2.2, n6, _, ⟨rfl, eN⟩, (d5.trans i4), (d.kh (Kb (Sb (Pr (Pr (Pr (Pr (Pr Pz))))) St))), e1, e2, g1, l5, l6, (by rw [l2]; exact T)⟩
    rintro E W ⟨c7, a3, P, c8, a4, d2, d3, f9, ⟨q, eN⟩, d5, d, e1, e2, g1, f3, f4, T⟩
    rw [aI] at T
    refine ku ?_
    obtain rfl := sj T
    exact ⟨a3, P, a4, d3, _, d5, (d.kh St), e1, e2, f3, f4⟩
   rintro ⟨m6, m7, n1⟩ E W ⟨d6, e5, d7, b5, h6, i1, d, h8, h9, k3, k4⟩ j3
   refine kA ?_
   replace d := d.drew
   have l := d.has.kh (Kb (Kb (Dr (Dr (Dr (Kr Sn))))))
   refine lm l kP (X 0 rfl l (ko h8) (X 1 rfl l (nx rfl) (X 2 rfl l (ky HA rfl) (XH 3 rfl l (fun _ n => kl rfl (kK n Mh rfl isAgg186)) (X 4 rfl l (ky Di h9) (X 5 rfl l (ky xV rfl) (XH 6 rfl l (fun _ n => kl rfl (kK n (Mt Mh) rfl bT)) ?_)))))))
   obtain ⟨l8, e9⟩ := c2
   obtain ⟨o8, f1, k5⟩ := ng.rowAt mJ.1 e9 B.kd.kq
   refine XH 7 rfl l (fun _ n => pz (k := B.kd.kq) (z := (.slice none 0 0)) Hb underlying186 jZ rfl rfl e9 (fun b o p => n.2 b o (Mt (Mt (Ml p))))) (X 8 rfl l (lT aY rfl (f1.B5 lV)) (X 9 rfl l (ko rfl) (lF kr (ku (tS (CJ j3 (fun c9 E W => ∃ d8 e6 d9 e7 h7, kH b5 e7 ∧ ST false (keys b8) w W e7 ((I, Ob #[a, c, u, g, e6, (.int .i64 c9.2.2)] 189) :: (d8 ++ (j ++ (y ++ (t ++ (d9 ++ h7)))))) ∧ E 0 = g5 ∧ my (fun (x : kd) => (.agg (ki x).toArray)) (lX Value.string (fun (x : Bool) => (Value.bool x))) a c9.1 d8 ∧ pT 111 kD 3 e6 c9.2.1 d9) (fun c9 j5 => ?_) ?_))))))
   ·refine lu (fun i E W => ∃ a9 Y a2 O Z R b6 f8, (E 53 = .int .i64 (i : Nat) ∧ E 52 = .int .i64 (i5.length : Nat)) ∧ kH b5 b6 ∧ ST false (keys b8) w W b6 ((I, Ob #[a, c, u, g, a2, (.int .i64 R)] 189) :: ((a5, Obj.cells i6 111 (0, 0)) :: (Y ++ (j ++ (y ++ (t ++ (Z ++ f8))))))) ∧ E 0 = g5 ∧ E 2 = j1 ∧ E 51 = (rL lK l8 B.kd.kq (.slice none 0 0)) ∧ my (fun (x : kd) => (.agg (ki x).toArray)) (lX Value.string (fun (x : Bool) => (Value.bool x))) a a9 Y ∧ pT 111 kD 3 a2 O Z ∧ om B Q N H (i5.drop i) a9 O R = some c9) i5.length (f1.B5 lV).len ⟨m6, d6, e5, m7, d7, n1, b5, _, ⟨rfl, rfl⟩, (kH.refl _), (d.kh St), h8, h9, rfl, k3, k4, j5⟩ dc dc dc (fun _ _ _ h => by obtain ⟨_, _, _, _, _, _, _, _, s, _⟩ := h; exact s) ?_ ?_
    ·rintro m4 E W i9 ⟨a9, Y, a2, O, Z, R, b6, f8, ⟨q, eN⟩, a8, d, L, c0, e0, f2, c6, J⟩
     obtain ⟨U, o2, k9, k8, h3⟩ := lc i9
     rw [k9] at J
     refine bg (VQ (ni (enc := km) (i := (m4 : Int)) (x0 := U) aY aT e0 q (f1.B5 lV) (aH _) k8) (fun q1 j8 => V (kl rfl (kO (og.hp _) (j8.mono (mE (fun b o p => d.has.2 b o (Mt (Mt (Ma (Ma (Ma (Ml (k5 b o p)))))))))) cE aT)) (VE (ll d dn (fun p2 p8 d => VO (kJ (.agg (km U).toArray) ((km U).toArray) d rfl rfl aT (ph U) nb rfl (fun p3 d => ln (kA ?_))))))))
     replace d := d.drew
     have l := d.has.kh (Kb (Kb (Kb (Kr Sn))))
     refine lm l kP (X 0 rfl l (ko L) (X 1 rfl l (nx rfl) (X 2 rfl l (ky xu rfl) (XH 3 rfl l (fun _ n => kl rfl (kK n (Mt Mh) rfl iG)) (X 4 rfl l (ky ou rfl) (XH 5 rfl l (fun _ n => kl rfl (kx n Mh (ki U.B) rfl bo aG)) ?_))))))
     obtain ⟨o0, c4⟩ := f2
     refine XH 6 rfl l (fun _ n => pz (k := U.B) (z := (.map none)) Av eK fu rfl rfl c4 (fun b o p => n.2 b o (Mt (Mt (Mt (Ml p)))))) (X 7 rfl l (ky Di c0) (X 8 rfl l (ky ub rfl) (XH 9 rfl l (fun _ n => kl rfl (kK n (Mt (Mt Mh)) rfl bT)) (XH 10 rfl l (fun _ n => vG (k := B.kd.kj) (z := false) (vf := (fun (x : Bool) => (Value.bool x))) Hb fC gw rfl rfl (ng.DJ (μ := hp _) kE.1 c4 U.B (fun b o p => n.2 b o (Mt (Mt (Mt (Ml p))))))) (lF kr (ku (CI J rfl (fun i8 J => ?_) (fun i8 J => ?_))))))))
     ·refine kB (Wh L (Wf rr (VA d Mh (ki U.Head) bo aG (V (ky uK c0) (VB d (Mt (Mt Mh)) rfl rfl bT (bS J fun g2 k0 J => ?_))))))
      refine VE (eM d (Cb (Pb Pz) (Cr (Qb (Qb Qz)) (Cr (Qb (Qb Qz)) (Cr (Qb (Qb Qz)) (Cr (Qb (Qb Qz)) (Cr (Qb (Qb Qz)) Cn)))))) call244 (fun hh _ => lH.lZ (rq I a a9 Y c Q j u N y g H t a2 O Z R U.Head B.kR _ _ hh c4.e c1 c3.e e9.e c6 k0)) ?_)
      rintro _ q4 n5 o5 d i3 aa A ⟨l9, n3, m0, f5, rfl, l3, l4⟩
      obtain rfl := f5.symm
      replace d := d.perm (Tb (Tr (Tr (Tr (Tr (Tr Tn))))))
      refine kQ (kY (ku ?_))
      replace d := d.kh (Kb (Kr (Kr (Kr (Kr (Kr (Db St)))))))
      exact ⟨q, g2.1, l9, n3, g2.2.1, m0, g2.2.2, n5, _, ⟨rfl, eN⟩, (a8.trans i3), (d.kh (Kb (Sb (Pr (Pr (Pr (Pr (Pr Pz))))) St))), L, c0, e0, l3, l4, (by rw [h3]; exact J)⟩
     refine lE (kY (ku ?_))
     replace d := d.kh (Db St)
     exact ⟨q, a9, Y, a2, O, Z, R, b6, _, ⟨rfl, eN⟩, a8, (d.kh St), L, c0, e0, c4.e, c6, (by rw [h3]; exact J)⟩
    rintro E W ⟨a9, Y, a2, O, Z, R, b6, f8, ⟨q, eN⟩, a8, d, L, c0, e0, f2, c6, J⟩
    rw [aI] at J
    refine ku ?_
    obtain rfl := sj J
    exact ⟨Y, a2, Z, b6, _, a8, (d.kh (Kb (Db St))), L, f2, c6⟩
   rintro ⟨m8, m9, n2⟩ E W ⟨d8, e6, d9, e7, h7, i2, d, m3, k6, k7⟩ j4
   exact kY (ku ⟨n0, bD _, m8, d8, e6, m9, d9, n2, e7, _, ((i0.trans i1).trans i2), (d.kh St), m3, k6, k7, j4⟩)
  refine nf (mO (mO (pZ (ku (qT ?_)))))
  obtain rfl := sj M
  exact pu rfl ⟨_, _, rfl, (d.mI (Kb (Kr (Kr (Kr (Kr (Kr Sn))))))), b7, e4, b9, rfl, rfl, g9, c5⟩
theorem Ej (H : Nat) (g : Value) (c2 : List (kd × (List (ByteArray × Bool)))) (G : LO) (u : Value) (a7 : List ke) (k : LO) (c : Value) (b7 : List (kd × (List ke))) (z : LO) (a : Value) (a8 : List (ByteArray × (List ke))) (t : LO) (B : Value) (b6 : List kk) (y : LO) (K : Int) (d1 : Value) (p : List ke) (r : (Int × (List (kd × (List (ByteArray × Bool)))) × (List ke) × (List (kd × (List ke))) × (List (ByteArray × (List ke))) × (List kk) × Int)) (w : World) {μ0 : kL} (h0 : nN μ0 ((H, Ob #[g, u, c, a, B, (.int .i64 K)] 189) :: (G ++ (k ++ (z ++ (t ++ (y ++ [])))))) w) (d6 : my (fun (x : kd) => (.agg (ki x).toArray)) (lX Value.string (fun (x : Bool) => (Value.bool x))) g c2 G) (c6 : kC 52 km 9 u a7 k) (d3 : my (fun (x : kd) => (.agg (ki x).toArray)) (kC 52 km 9) c b7 z) (c7 : my Value.string (kC 52 km 9) a a8 t) (d2 : pT 111 kD 3 B b6 y) (d7 : Sl (Pl km) 9 μ0 d1 p) (hm : uB c2 a7 b7 a8 b6 K p = some r) :
  lH false pg0 125 [(.pointer (some ⟨H, 0, none⟩)), d1] w ((H, Ob #[g, u, c, a, B, (.int .i64 K)] 189) :: (G ++ (k ++ (z ++ (t ++ (y ++ [])))))) (fun v L1 W' => ∃ S1 y3 S4 S6 S8 i1 i0, v = (.int .i64 (r.1)) ∧ L1 = ((H, Ob #[g, y3, c, a, i1, (.int .i64 (r.2.2.2.2.2.2))] 189) :: (S1 ++ (S4 ++ (S6 ++ (S8 ++ (i0 ++ [])))))) ∧ my (fun (x : kd) => (.agg (ki x).toArray)) (lX Value.string (fun (x : Bool) => (Value.bool x))) g r.2.1 S1 ∧ kC 52 km 9 y3 r.2.2.1 S4 ∧ my (fun (x : kd) => (.agg (ki x).toArray)) (kC 52 km 9) c r.2.2.2.1 S6 ∧ my Value.string (kC 52 km 9) a r.2.2.2.2.1 S8 ∧ pT 111 kD 3 i1 r.2.2.2.2.2.1 i0) := by
 let b8 := ((H, Ob #[g, u, c, a, B, (.int .i64 K)] 189) :: (G ++ (k ++ (z ++ (t ++ (y ++ []))))))
 refine yN h0 46 func125 rfl (fun d => sg (Wa (lS (Wm (V (xI underlying132 rfl rfl) (ln (qZ rfl (lE ?_))))))))
 refine ku (sg (Wm (Wn (Wf Fc (VB d Mh rfl rfl dz (Wa (lS (Wm (V (lT aY rfl d7) ?_)))))))))
 refine Wm (ln (lu (fun i E W => ∃ a3 N M a4 Q a9 T n U a0 a5 Y a2 c1 d5, (E 16 = .int .i64 (i : Nat) ∧ E 15 = .int .i64 (p.length : Nat)) ∧ kH μ0 c1 ∧ ST false (keys b8) w W c1 ((H, Ob #[g, M, c, a, a0, (.int .i64 a2)] 189) :: (N ++ (Q ++ (T ++ (U ++ (Y ++ d5)))))) ∧ E 0 = (.pointer (some ⟨H, 0, none⟩)) ∧ E 5 = (.int .i64 K) ∧ E 14 = d1 ∧ my (fun (x : kd) => (.agg (ki x).toArray)) (lX Value.string (fun (x : Bool) => (Value.bool x))) g a3 N ∧ kC 52 km 9 M a4 Q ∧ my (fun (x : kd) => (.agg (ki x).toArray)) (kC 52 km 9) c a9 T ∧ my Value.string (kC 52 km 9) a n U ∧ pT 111 kD 3 a0 a5 Y ∧ oh K (p.drop i) a3 a4 a9 n a5 a2 = some r) p.length d7.len ⟨c2, G, u, a7, k, b7, z, a8, t, B, b6, y, K, μ0, _, ⟨rfl, rfl⟩, (kH.refl _), (d.kh St), rfl, rfl, rfl, d6, c6, d3, c7, d2, hm⟩ dc dc dc (fun _ _ _ h => by obtain ⟨_, _, _, _, _, _, _, _, _, _, _, _, _, _, _, aa, _⟩ := h; exact aa) ?_ ?_))
 ·rintro f6 E W g3 ⟨a3, N, M, a4, Q, a9, T, n, U, a0, a5, Y, a2, c1, d5, ⟨eI, eN⟩, b1, d, s, c3, c4, F, q, L, O, P, D⟩
  obtain ⟨I, j8, h4, h3, d9⟩ := lc g3
  rw [h4] at D
  refine bg (VQ (ni (enc := km) (i := (f6 : Int)) (x0 := I) aY aT c4 eI (d7.mono (Pl.mono _) b1) (aH _) h3) (fun l1 g4 => V (kl rfl (kO d.has g4 cE aT)) (VE (ll d dn (fun k3 e8 d => VO (kJ (.agg (km I).toArray) ((km I).toArray) d rfl rfl aT (ph I) nb rfl (fun k4 d => ln (kA ?_))))))))
  replace d := d.drew
  have l := d.has.kh (Kb (Kb Sn))
  refine lm l kP (XH 0 rfl l (fun _ R => kl rfl (kx R Mh (km I) rfl cE aT)) (bS D fun l2 g7 D => XE 1 rfl (Eg d call113 (kN.lZ (vB I _ _  g7)) (fun k5 d => ?_))))
  have l := d.has.kh (Kb (Kb Sn))
  refine ⟨l, (X 2 rfl l (ko rfl) (PJ D (fun f7 E W => ∃ e4, ST false (keys b8) w W c1 ((e8, Ol (km I) 52) :: ((H, Ob #[g, M, c, a, a0, (.int .i64 a2)] 189) :: (N ++ (Q ++ (T ++ (U ++ (Y ++ e4))))))) ∧ E 0 = (.pointer (some ⟨H, 0, none⟩)) ∧ E 5 = (.int .i64 K) ∧ E 7 = (.pointer (some ⟨e8, 0, none⟩)) ∧ E 14 = d1 ∧ E 15 = (.int .i64 (p.length : Int)) ∧ E 16 = (.int .i64 (f6 : Int)) ∧ E 30 = (.bool f7)) (bm 11 2047) 0 ?_ (fun f7 Z d4 => ?_)))⟩
  ·rintro l7 E W ⟨e4, d, c5, e9, f0, f1, f2, f3, i6⟩ J
   refine lF kr (ku (CI J i6 (fun g2 J => ?_) (fun g2 J => ?_)))
   ·refine sg (Wh c5 (V (kl f0 (kx d.has Mh (km I) rfl cE aT)) (bS J fun A g8 J => ?_)))
    refine VE (eM d (Cb (Pb Pz) (Cr (Qb Qz) (Cr (Qb Qz) (Cr (Qb Qz) (Cr (Qb Qz) (Cr (Qb Qz) Cn)))))) call187 (fun hh _ => lH.lZ (DU H g a3 N M a4 Q c a9 T a n U a0 a5 Y a2 I _ _ hh F q L O P g8)) ?_)
    rintro _ l4 l8 k0 d f4 ab m ⟨f8, e5, e6, e7, c8, rfl, e0, e1, e2⟩
    obtain rfl := c8.symm
    replace d := d.perm (Tb (Tr (Tr (Tr (Tr (Tr Tn))))))
    refine ln (kB (Wh c5 (V (kl f0 (kx d.has (Mt (Ma (Ma (Ma (Ma (Ma Mh)))))) (km I) rfl cE aT)) (bS J fun d8 g9 J => ?_))))
    refine VE (eM d (Cb Pz (Cr Qz (Cr Qz (Cr Qz (Cr Qz (Cr Qz Cn)))))) call188 (fun hh _ => (De H g a3 N f8 A.1 e5 c A.2.1 e6 a A.2.2 e7 a0 a5 Y a2 I _ _ hh F e0 e1 e2 P g9)) ?_)
    rintro _ l5 j0 k1 d f5 ad m ⟨i2, i8, i3, c9, rfl, h5, h6⟩
    obtain rfl := c9.symm
    replace d := d.perm (Tb (Tr (Tr (Tr (Tr (Tr Tn))))))
    refine kQ (kY (ku ?_))
    replace d := d.kh (Kb (Kr (Kr (Kr (Kr (Kr (Db St)))))))
    exact ⟨f3, d8.1, i2, f8, A.1, e5, A.2.1, e6, A.2.2, e7, i8, d8.2.1, i3, d8.2.2, j0, _, ⟨rfl, f2⟩, ((b1.trans f4).trans f5), (d.kh St), c5, e9, f1, h5, e0, e1, e2, h6, (by rw [d9]; exact J)⟩
   refine lE (kY (ku ?_))
   replace d := d.kh (Db St)
   exact ⟨f3, a3, N, M, a4, Q, a9, T, n, U, a0, a5, Y, a2, c1, _, ⟨rfl, f2⟩, b1, (d.kh St), c5, e9, f1, F, q, L, O, P, (by rw [d9]; exact J)⟩
  refine bC Z (fun j Z => ?_) (fun j Z => ?_)
  ·refine Xg 3 rfl rfl (cB j) l (ko s) (Xg 4 rfl rfl (cB j) l (nx rfl) (Xg 5 rfl rfl (cB j) l (ky H5 rfl) (xf 6 rfl rfl (cB j) l (fun _ R => kl rfl (kK R (Mt Mh) rfl isAgg28)) (xf 7 rfl rfl (cB j) l (fun _ R => kl rfl (kx R Mh (km I) rfl cE aT)) (bS Z fun l3 h1 Z => Iu 8 rfl rfl (cB j) (Eg d call60 (kN.lZ (GU M a4 I _ _ (q.sl lV (fun b o hq => d.at_ (Mt (Mt (Ma (Ml hq)))))) h1)) (fun k8 d => ?_)))))))
   have l := d.has.kh (Kb (Kb Sn))
   refine ⟨l, (Xg 9 rfl rfl (cB j) l (nT rfl) (X 10 rfl l (lg (cB j) rfl) ?_))⟩
   obtain rfl := sj Z
   refine pf kr (d4 _ _ ⟨_, (d.kh St), s, c3, rfl, c4, eN, eI, rfl⟩)
  refine Xn 3 rfl rfl (cB j) l (Xn 4 rfl rfl (cB j) l (Xn 5 rfl rfl (cB j) l (Xn 6 rfl rfl (cB j) l (Xn 7 rfl rfl (cB j) l (Xn 8 rfl rfl (cB j) l (Xn 9 rfl rfl (cB j) l (X 10 rfl l (li (cB j) rfl) ?_)))))))
  obtain rfl := sj Z
  refine pf kr (d4 _ _ ⟨_, (d.kh St), s, c3, rfl, c4, eN, eI, rfl⟩)
 rintro E W ⟨a3, N, M, a4, Q, a9, T, n, U, a0, a5, Y, a2, c1, d5, ⟨eI, eN⟩, b1, d, s, c3, c4, F, q, L, O, P, D⟩
 rw [aI] at D
 refine ku (sg (Wh s (bS D fun i7 h2 D => ?_)))
 refine VE (eM d (Cb Pz (Cr Qz (Cr Qz (Cr Qz (Cr Qz (Cr Qz Cn)))))) call189 (fun hh _ => (CA H g a3 N M a4 Q c a9 T a n U a0 a5 Y a2 _ _ hh F q L O P h2)) ?_)
 rintro _ l6 l9 k2 d j6 ae m ⟨i4, i9, i5, d0, rfl, h7, h8⟩
 obtain rfl := d0.symm
 replace d := d.perm (Tb (Tr (Tr (Tr (Tr (Tr Tn))))))
 refine lr (Wh s (Wn (Wf Fc (VB d Mh rfl rfl dz (Wh c3 (Wi rfl (Wa (lt ?_))))))))
 obtain rfl := sj D
 exact lB (v := (.int .i64 (wi0 .i64 (i7.2.2 - K)))) rfl rfl ⟨_, _, rfl, (d.mI (Kb (Kr (Kr (Kr (Kr (Kr Sn))))))), i4, M, Q, T, U, i9, i5, rfl, rfl, h7, q, L, O, h8⟩
theorem Hr (j : Value) (H : List ke) (r : ((List (kd × (List (ByteArray × Bool)))) × (List ke) × (List (kd × (List ke))) × (List (ByteArray × (List ke))) × (List kk) × Int)) (w : World) (J : Sl (Pl km) 9 (hp w) j H) (hm : xr H = some r) :
  lH false pg0 62 [j] w [] (fun v L1 W' => ∃ l n S3 o S6 p S9 D u G y, v = (.pointer (some ⟨l, 0, none⟩)) ∧ L1 = ((l, Ob #[n, o, p, D, G, (.int .i64 (r.2.2.2.2.2))] 189) :: (S3 ++ (S6 ++ (S9 ++ (u ++ (y ++ [])))))) ∧ my (fun (x : kd) => (.agg (ki x).toArray)) (lX Value.string (fun (x : Bool) => (Value.bool x))) n r.1 S3 ∧ kC 52 km 9 o r.2.1 S6 ∧ my (fun (x : kd) => (.agg (ki x).toArray)) (kC 52 km 9) p r.2.2.1 S9 ∧ my Value.string (kC 52 km 9) D r.2.2.2.1 u ∧ pT 111 kD 3 G r.2.2.2.2.1 y) := by
 refine uk 13 func62 rfl (fun b => sg (Wa (lr (VE (Du (P := pg0) (fun (x : kd) => (.agg (ki x).toArray)) (lX Value.string (fun (x : Bool) => (Value.bool x))) b (fun W1 v4 R2 b z => VE (Du (P := pg0) (fun (x : kd) => (.agg (ki x).toArray)) (kC 52 km 9) b (fun W5 v8 R6 b B => VE (Du (P := pg0) Value.string (kC 52 km 9) b (fun W9 L Y b t => ?_))))))))))
 obtain ⟨a, rfl⟩ := z.form
 obtain ⟨c, rfl⟩ := B.form
 obtain ⟨g, rfl⟩ := t.form
 refine V (mK (v := (.agg #[(.map (some a)), (.slice none 0 0), (.map (some c)), (.map (some g)), (.slice none 0 0), (.int .i64 0)])) (Hx rfl rfl rfl) (me zeroValue189 eJ (SP _ eJ) kr)) (VE (kX b rfl (fun c1 k b => Wa (lr (Wm (Wm (bS hm fun I K hm => ?_)))))))
 refine VE (eM b (Cb Pz (Cr (Qr (Qr Qz)) (C0 (Cr (Qr Qz) (Cr Qz (C0 Cn)))))) call125 (fun A h => (Ej k (.map (some a)) ([]) R2 (.slice none 0 0) ([]) [] (.map (some c)) ([]) R6 (.map (some g)) ([]) Y (.slice none 0 0) ([]) [] 0 j H _ _ A z (kC.nil _ _ _) B t (pT.nil _ _ _) (J.mono (Pl.mono _) h) K)) ?_)
 rintro _ O R F b E m d ⟨Z, q, a2, a3, a4, s, a5, i, rfl, M, N, Q, T, U⟩
 obtain rfl := i.symm
 replace b := b.perm (Tb (Tr (Tr (Tr (Tr (Tr Tn))))))
 refine lr (Wm (Wa (lt ?_)))
 obtain rfl := sj hm
 exact lB (v := (.pointer (some ⟨k, 0, none⟩))) rfl rfl ⟨_, _, rfl, (b.D4 (Kb (Kr (Kr (Kr (Kr (Kr Sn))))))), k, (.map (some a)), Z, q, a2, (.map (some c)), a3, (.map (some g)), a4, s, a5, rfl, rfl, M, N, Q, T, U⟩
theorem J8 (c : Value) (D : List ke) (G : ByteArray) (r : ((List (kd × (List (ByteArray × Bool)))) × (List ke) × (List (kd × (List ke))) × (List (ByteArray × (List ke))) × (List kk) × Int × ByteArray)) (w : World) (I : Sl (Pl km) 9 (hp w) c D) (hm : zj D G = some r) :
  lH false pg0 51 [c, (.string G)] w [] (fun v L1 W' => ∃ g h l S4 m S7 n j z k B t u, v = (.func (.func 110) #[] #[(.pointer (some ⟨g, 0, none⟩)), (.pointer (some ⟨u, 0, none⟩))]) ∧ L1 = ((g, Ob #[(.pointer (some ⟨h, 0, none⟩))] 132) :: ((h, Ob #[l, m, n, z, B, (.int .i64 (r.2.2.2.2.2.1))] 189) :: ((u, Ob #[(.string (r.2.2.2.2.2.2))] 9) :: (S4 ++ (S7 ++ (j ++ (k ++ (t ++ [])))))))) ∧ my (fun (x : kd) => (.agg (ki x).toArray)) (lX Value.string (fun (x : Bool) => (Value.bool x))) l r.1 S4 ∧ kC 52 km 9 m r.2.1 S7 ∧ my (fun (x : kd) => (.agg (ki x).toArray)) (kC 52 km 9) n r.2.2.1 j ∧ my Value.string (kC 52 km 9) z r.2.2.2.1 k ∧ pT 111 kD 3 B r.2.2.2.2.1 t) := by
 refine uk 9 func51 rfl (fun b => sg (VE (kX b rfl (fun W2 g b => Wa (lr (Wm (bS hm fun P o hm => ?_)))))))
 refine VE (B6 b (bI _) call62 (fun _ _ _ _ => (Hr c D _ _ (I.mono (Pl.mono _) b.kw) o)) (fun W5 v9 F O b L E d H => ?_) (L0 := []))
 obtain ⟨i, p, T, q, U, a9, Y, s, Z, A, a2, a, rfl, J, K, M, N, Q⟩ := H
 replace a := a.symm; subst a
 replace b := b.perm (Tb (Tr (Tr (Tr (Tr (Tr Tn))))))
 refine VE (ll b zeroValue132 (fun c1 y b => VO (kJ (.pointer (some ⟨i, 0, none⟩)) (#[(.pointer (some ⟨i, 0, none⟩))]) b rfl rfl sizeOf132 oc nb rfl (fun c2 b => lr (V (qv (by exact ta rfl rfl) rfl) (Wa (lt ?_)))))))
 obtain rfl := sj hm
 exact lB (v := (.func (.func 110) #[] #[(.pointer (some ⟨y, 0, none⟩)), (.pointer (some ⟨g, 0, none⟩))])) rfl rfl ⟨_, _, rfl, (b.D4 (Kb (Kb (Sb (Pr (Pr (Pr (Pr (Pr Pz))))) (Kr (Kr (Kr (Kr (Kr Sn))))))))), y, i, p, T, q, U, a9, Y, s, Z, A, a2, g, rfl, rfl, J, K, M, N, Q⟩
theorem Au (g : Value) (t : List ml) (j : Value) (z : ml → Option Bool) (r : Int) (w : World) (c : Sl mh 15 (hp w) g t) (B : xX pg0 j (hp w) (BG mh) (fun (r : Bool) => (.bool r)) z) (hm : tp t z = some r) :
  kN false pg0 127 [g, j] w (.int .i64 r) := by
 refine cG 19 func127 rfl (fun b => sg (Wa (lS (Wm (V (lT eG rfl c) (Wm (ln (lu (fun i E W => ∃ k, (E 8 = .int .i64 (i : Nat) ∧ E 7 = .int .i64 (t.length : Nat)) ∧ ST false lM w W (hp w) k ∧ E 0 = g ∧ E 1 = j ∧ nE z (t.drop i) i = some r) t.length c.len ⟨_, ⟨rfl, rfl⟩, (b.kh St), rfl, rfl, hm⟩ dc dc dc (fun _ _ _ h => by obtain ⟨_, l, _⟩ := h; exact l) ?_ ?_))))))))
 ·rintro T E W G ⟨k, ⟨d, m⟩, b, u, x, a⟩
  obtain ⟨y, Z, N, M, Q⟩ := lc G
  rw [N] at a
  refine bg (Wh d (Wa (lr (Wh x (Wh u (Wm (VQ (nM (i := (T : Int)) (x0 := y) mh.out eG eU rfl rfl c (aH _) M) (fun a2 ⟨_, ⟨U, Y, rfl, J, K⟩, H⟩ => V (kl rfl (kO b.has H isAgg60 eU)) (bS a fun a3 I a => ?_)))))))))
  refine VE (zd y b B (kH.refl _) (BG.mk mG (mh.mk ⟨U, Y, rfl, J, K⟩) b.kw) rfl (sW rfl) I (fun n b => ln (CI a rfl (fun D a => ?_) (fun D a => ?_))))
  ·refine sg (Wm (Wa (lt (mB (kU (mB (kU ?_)))))))
   obtain rfl := sj a
   exact rP b
  exact lE (kY (ku ⟨d, _, ⟨rfl, m⟩, (b.kh St), u, x, (by rw [Q]; exact a)⟩))
 rintro E W ⟨k, ⟨d, m⟩, b, u, x, a⟩
 rw [aI] at a
 exact ku (sg (Wa (lt (rQ a b))))
theorem GN (a : ml) (g c : Value) (k : Nat) (u : ke) (r : Bool) (w : World) (j : Sl (Pl (mc .u8)) 1 (hp w) g a.Signed.Tag) (i : Sl kf 5 (hp w) c a.kv.Kids) (t : At (hp w) (.pointer (some ⟨k, 0, none⟩)) (km u)) (hm : wR a u = some r) :
  kN true pg0 128 [(.agg #[(.int .i64 a.Signed.ke.Kind), (.string a.Signed.ke.Head.kj), (.string a.Signed.ke.Head.kq), (.string a.Signed.ke.kR), (.string a.Signed.ke.B.kj), (.string a.Signed.ke.B.kq), (.string a.Signed.ke.C.kj), (.string a.Signed.ke.C.kq), (.string a.Signed.ke.lj), g, (.int .i64 a.kv.Op), (.int .i64 a.kv.K), (.string a.kv.kd.kj), (.string a.kv.kd.kq), c]), (.pointer (some ⟨k, 0, none⟩))] w (.bool r) := by
 refine cG 9 func128 rfl (fun b => sg ?_)
 obtain ⟨x, z, rfl⟩ := j.form
 obtain ⟨y, B, rfl⟩ := i.form
 refine VE (kX b rfl (fun D G b => Wa (lr (Wf G8 (Wf GB (VA b Mh (km a.Signed.ke) cE aT (V (kl rfl (kO b.has t cE aT)) (V (wQ rfl rfl (ow fB) (sU (yG _ a.Signed.ke u))) (Wa (ln ?_))))))))))
 exact kM (rQ hm b)
theorem Kq (k : lD) (g j : Value) (D : ke) (r : (ml × Bool)) (w : World) {J : kL} (l : nN J [] w) (c : Sl mh 15 J g k.kZ) (B : Sl mN 8 J j k.mu) (hm : yZ k D = some r) :
  mj false pg0 69 [(.agg #[(.string k.Name), g, j]), (.agg (km D).toArray)] w J [] (fun v L1 μ1 => ∃ d h, v = (.tuple #[(.agg #[(.int .i64 ((((r.1).Signed).ke).Kind)), (.string (((((r.1).Signed).ke).Head).kj)), (.string (((((r.1).Signed).ke).Head).kq)), (.string ((((r.1).Signed).ke).kR)), (.string (((((r.1).Signed).ke).B).kj)), (.string (((((r.1).Signed).ke).B).kq)), (.string (((((r.1).Signed).ke).C).kj)), (.string (((((r.1).Signed).ke).C).kq)), (.string ((((r.1).Signed).ke).lj)), d, (.int .i64 (((r.1).kv).Op)), (.int .i64 (((r.1).kv).K)), (.string ((((r.1).kv).kd).kj)), (.string ((((r.1).kv).kd).kq)), h]), (.bool (r.2))]) ∧ L1 = [] ∧ Sl (Pl (mc .u8)) 1 μ1 d (((r.1).Signed).Tag) ∧ Sl kf 5 μ1 h (((r.1).kv).Kids)) := by
 refine vt l 19 func69 rfl (fun b => sg ?_)
 obtain ⟨T, U, rfl⟩ := c.form
 obtain ⟨A3, c4, rfl⟩ := B.form
 refine VE (kX b rfl (fun W6 F b => VE (kX b rfl (fun W8 K b => VE (ll b gD (fun A O b => Wa (lr (Wf CK (VB b (Mt (Mt Mh)) rfl rfl isAgg22 (V (qv (by exact sW rfl) rfl) (bS hm fun Z Q hm => VE (Eg b call127 (Au (.slice T k.kZ.length U) k.kZ (.func (.func 128) #[] #[(.pointer (some ⟨K, 0, none⟩))]) (fun (x : ml) => wR x D) _ _ (c.mono mG.mono b.kw) ⟨128, #[], #[(.pointer (some ⟨K, 0, none⟩))], rfl, call128, fun W x vs r n m hm => by obtain ⟨_, rfl, Y⟩ := m; obtain ⟨q, s, rfl, o, p⟩ := Y.out; exact (GN x q s K D r W o p (At.of (n _ _ (b.at_ (Mt Mh))) _ rfl) hm).lZ⟩ Q) (fun E b => Wa (kQ ?_))))))))))))))
 refine ku ?_
 replace b := b.kh (Kb (Db St))
 refine kA (sg (Wm (Wi rfl (ln (CI hm rfl (fun M hm => ?_) (fun M hm => ?_))))))
 ·refine sg (V (mK (v := (.agg C6.toArray)) uw (me gD fQ (RD _ fQ) kr)) (VO (kJ (.agg C6.toArray) (C6.toArray) b rfl rfl eU oc nb rfl (fun L b => Wa (ln ?_)))))
  replace b := b.kh (Kb (Db St))
  refine kM (kU ?_)
  obtain rfl := sj hm
  exact wI (v0 := (.agg C6.toArray)) (v1 := (.bool false)) rfl rfl (kx b.has Mh C6 rfl isAgg60 eU) rfl ⟨_, _, _, rfl, (b.mI Sn), (kH.refl _), Lo.refl, (ST.lO b (nm.mem Sn)), (.slice none 0 0), (.slice none 0 0), rfl, rfl, (Sl.nil _ _ _), (Sl.nil _ _ _)⟩
 refine kg (Wf CK (VB b (Mt Mh) rfl rfl isAgg22 (Wm (bS hm fun a I hm => VQ (nM (i := Z) (x0 := a) mh.out eG eU rfl rfl c (kI I) (kF I)) (fun c1 ⟨_, ⟨R, c5, rfl, G, H⟩, N⟩ => V (kl rfl (kO b.has N isAgg60 eU)) ?_)))))
 obtain ⟨t, y, rfl⟩ := G.form
 obtain ⟨u, z, rfl⟩ := H.form
 let a0 := (C2 a.Signed.ke.Kind a.Signed.ke.Head.kj a.Signed.ke.Head.kq a.Signed.ke.kR a.Signed.ke.B.kj a.Signed.ke.B.kq a.Signed.ke.C.kj a.Signed.ke.C.kq a.Signed.ke.lj t a.Signed.Tag.length y a.kv.Op a.kv.K a.kv.kd.kj a.kv.kd.kq u a.kv.Kids.length z)
 refine VO (kJ (.agg a0.toArray) (a0.toArray) b rfl rfl eU oc nb rfl (fun P b => Wa (ln ?_)))
 replace b := b.kh (Kb (Db St))
 refine kM ?_
 obtain rfl := sj hm
 exact wI (v0 := (.agg a0.toArray)) (v1 := (.bool true)) rfl rfl (kx b.has Mh a0 rfl isAgg60 eU) rfl ⟨_, _, _, rfl, (b.mI Sn), (kH.refl _), Lo.refl, (ST.lO b (nm.mem Sn)), (.slice t a.Signed.Tag.length y), (.slice u a.kv.Kids.length z), rfl, rfl, G, H⟩
theorem EL (c : Value) (u r : List oZ) (w : World) {j : kL} (I : nN j [] w) (a : Sl mN 8 j c u) (hm : uQ u = some r) :
  mj true pg0 130 [c] w j [] (fun v G J => ∃ z t, v = z ∧ G = (t ++ []) ∧ lC 87 mN 8 J z r t) := by
 unfold uQ at hm
 refine vt I 8 func130 rfl (fun b => sg (Wa (lS (Wm ?_))))
 obtain ⟨D, Q, rfl⟩ := a.form
 refine V (yM dR rfl rfl) (ln ?_)
 rcases D with _ | M
 ·have y := a.isNil
  replace hm : some [] = some r := by rw [y] at hm; simpa [mZ, maxLen] using hm
  refine vO (rfl) (sg (Wa (lt (kU ?_))))
  obtain rfl := sj hm
  refine lB (v := (.slice none 0 0)) rfl rfl ?_
  replace b := b.HU
  exact ⟨_, _, _, rfl, (b.mI (Kr Sn)), (kH.refl _), Lo.refl, (ST.lO b (nm.mem (Kr Sn))), (.slice none 0 0), [], rfl, rfl, (lC.nil _ _ _ _)⟩
 ·refine qZ (rfl) (kg (VE (kV (cs := #[]) b uw (zU [] dR eE jo dc rfl (by simp) rfl rfl) (fun N H b => Wm (bS hm fun T x hm => VE (vK (B := [(H, Ob #[] 87)]) pe b dc dR G4.1 G4.2.1 rfl G4.2.2.1 G4.2.2.2 rfl rfl (lC.lit pe (l := []) .nil rfl nb rfl) (Dc.sl pe a b.kw) x (fun K g k b i => Wa (lt ?_))))))))
  obtain rfl := sj hm
  exact lB (v := g) rfl rfl ⟨_, _, _, rfl, (b.mI (Kr Sn)), (kH.refl _), Lo.refl, (ST.lO b (nm.mem (Kr Sn))), g, k, rfl, rfl, i⟩
theorem Cs (g : Value) (t : List oZ) (j : Value) (z : oZ → Option Bool) (r : Int) (w : World) (c : Sl mN 8 (hp w) g t) (B : xX pg0 j (hp w) (BG mN) (fun (r : Bool) => (.bool r)) z) (hm : vd t z = some r) :
  kN false pg0 190 [g, j] w (.int .i64 r) := by
 refine cG 19 func190 rfl (fun b => sg (Wa (lS (Wm (V (lT dR rfl c) (Wm (ln (lu (fun i E W => ∃ k, (E 8 = .int .i64 (i : Nat) ∧ E 7 = .int .i64 (t.length : Nat)) ∧ ST false lM w W (hp w) k ∧ E 0 = g ∧ E 1 = j ∧ oq z (t.drop i) i = some r) t.length c.len ⟨_, ⟨rfl, rfl⟩, (b.kh St), rfl, rfl, hm⟩ dc dc dc (fun _ _ _ h => by obtain ⟨_, l, _⟩ := h; exact l) ?_ ?_))))))))
 ·rintro T E W G ⟨k, ⟨d, m⟩, b, u, x, a⟩
  obtain ⟨y, Z, N, M, Q⟩ := lc G
  rw [N] at a
  refine bg (Wh d (Wa (lr (Wh x (Wh u (Wm (VQ (nM (i := (T : Int)) (x0 := y) mN.out dR eE rfl rfl c (aH _) M) (fun a2 ⟨_, ⟨U, Y, rfl, J, K⟩, H⟩ => V (kl rfl (kO b.has H isAgg87 eE)) (bS a fun a3 I a => ?_)))))))))
  refine VE (zd y b B (kH.refl _) (BG.mk pe (mN.mk ⟨U, Y, rfl, J, K⟩) b.kw) rfl (sW rfl) I (fun n b => ln (CI a rfl (fun D a => ?_) (fun D a => ?_))))
  ·refine sg (Wm (Wa (lt (mB (kU (mB (kU ?_)))))))
   obtain rfl := sj a
   exact rP b
  exact lE (kY (ku ⟨d, _, ⟨rfl, m⟩, (b.kh St), u, x, (by rw [Q]; exact a)⟩))
 rintro E W ⟨k, ⟨d, m⟩, b, u, x, a⟩
 rw [aI] at a
 exact ku (sg (Wa (lt (rQ a b))))
theorem BL (k : Value) (a0 : List oZ) (y : LO) (J : Value) (f1 : oZ → Option Bool) (r : List oZ) (w : World) {Y : kL} (h0 : nN Y (y ++ []) w) (n : lC 87 mN 8 Y k a0 y) (a9 : xX pg0 J Y (BG mN) (fun (r : Bool) => (.bool r)) f1) (hm : rN a0 f1 = some r) :
  mj false pg0 129 [k, J] w Y (y ++ []) (fun v L1 μ1 => ∃ P, v = P ∧ L1 = [] ∧ Sl mN 8 μ1 P (r)) := by
 refine vt h0 42 func129 rfl (fun d => sg (Wa (lr (Wm (Wm (bS hm fun O d7 hm => VE (Eg d call190 (Cs k a0 J f1 _ _ (n.sl pe d.kw (fun b o q => d.at_ (Ml q))) (a9.mono d.kw) d7) (fun W3 d => Wa (ln ?_)))))))))
 refine kA (sg (Wm (Wi rfl (ln (CI hm rfl (fun d6 hm => ?_) (fun d6 hm => ?_))))))
 ·refine sg (Wm (Wa (lt (kU ?_))))
  obtain rfl := sj hm
  refine lB (v := k) rfl rfl ?_
  obtain ⟨aa, d, d2, p, d8⟩ := ST.xR pe d n
  exact ⟨_, _, _, rfl, (d.mI Sn), d2, p, (ST.lO d (nm.mem Sn)), k, rfl, rfl, d8⟩
 refine kS (Wm (Wi rfl (Wa (ln (lR (np (fun m E W => ∃ a2 K G H A, ST false (keys (y ++ [])) w W Y (K ++ A) ∧ E 0 = k ∧ E 1 = J ∧ E 5 = (.int .i64 G) ∧ E 6 = (.int .i64 H) ∧ lC 87 mN 8 Y k a2 K ∧ nV f1 m a2 G H = some r) kT ⟨a0, y, O, (wi0 .i64 (O + 1)), _, (d.kh St), rfl, rfl, rfl, rfl, n, hm⟩ ?_))))))
 rintro m E W ⟨a2, K, G, H, A, d, t, Z, I, N, j, c⟩
 cases m with
 | zero => rw [nV] at c; cases c
 | succ d4 =>
  refine kA (sg (Wh N (Wh t (V (xq dR rfl j) (Wi rfl (ln (CI c rfl (fun b6 c => ?_) (fun b6 c => ?_))))))))
  ·refine kn (kA (CJ c (fun a3 E W => ∃ M F, ST false (keys (y ++ [])) w W Y (M ++ F) ∧ E 0 = k ∧ E 1 = J ∧ E 5 = (.int .i64 a3.2) ∧ E 6 = (.int .i64 H) ∧ lC 87 mN 8 Y k a3.1 M) (fun a3 g => ?_) ?_))
   ·refine bg (Wh t (Wh N (bS g fun a s g => VQ (mr (i := H) mN.out dR eE rfl rfl j (kI s) (kF s)) (fun f5 ⟨_, ⟨f8, f9, rfl, Q, T⟩, c1, e1⟩ => V (kl rfl (kO (og.hp _) (c1.mono (mE (fun b o q => d.has.2 b o (Ml q)))) isAgg87 eE)) (VE (ll d jo (fun e7 f3 d => ?_)))))))
    obtain ⟨u, B, rfl⟩ := Q.form
    obtain ⟨x, D, rfl⟩ := T.form
    let l := (C7 a.kd.kj a.kd.kq a.kv.Op a.kv.K a.kv.kd.kj a.kv.kd.kq u a.kv.Kids.length B x a.nv.length D)
    refine VO (kJ (.agg l.toArray) (l.toArray) d rfl rfl eE oc nb rfl (fun e8 d => lr (Wh Z (VA d Mh l isAgg87 eE (bS g fun f7 c2 g => VE (zd a d a9 (kH.refl _) (BG.mk pe (mN.mk ⟨(.slice u a.kv.Kids.length B), (.slice x a.nv.length D), rfl, Q, T⟩) d.kw) rfl (sW rfl) c2 (fun e9 d => V (nT rfl) (ln (CI g rfl (fun b7 g => ?_) (fun b7 g => ?_))))))))))
    ·refine sg (Wh t (Wh I (VA d Mh l isAgg87 eE (bS g fun g3 U g => VQ (mr (i := G) mN.out dR eE rfl rfl j (kI U) (kF U)) (fun f6 ⟨_, ⟨g0, g1, rfl, e3, e4⟩, e2, b9⟩ => ?_)))))
     replace d := d.perm (Nr (Qb Qz) Nz)
     refine VO (ra (x1 := a) pe d j rfl rfl (mN.mk ⟨(.slice u a.kv.Kids.length B), (.slice x a.nv.length D), rfl, Q, T⟩) b9 (kF U) eE (fun f0 c7 d b4 => ln ?_))
     replace d := d.kh (Kr (Db St))
     refine kB (Wh I (Wi rfl (Wa (kQ (kY (ku ?_))))))
     obtain rfl := sj g
     exact ⟨c7, _, (d.kh St), t, Z, rfl, N, b4⟩
    refine lE (kY (ku ?_))
    obtain rfl := sj g
    exact ⟨K, _, (d.kh (Db St)), t, Z, I, N, j⟩
   rintro ⟨d3, d5⟩ E W ⟨M, F, d, c8, c9, d0, d1, c3⟩ c0
   exact kB (Wh d1 (Wi rfl (Wa (ln ⟨d4, bD _, d3, M, d5, (wi0 .i64 (H + 1)), _, (d.kh St), c8, c9, d0, rfl, c3, c0⟩))))
  refine nf (mO (mO (pZ (ku (sg (Wh t (Wh I (bS c fun _ a4 c => VQ (Bk (i := G) dR eE rfl rfl j (qm a4) (qf a4)) (fun g2 c4 => VO (Em (z := (⟨K0, (⟨0, 0, K0, []⟩ : Formula), []⟩ : oZ)) (zs := [(.string zS), (.string zS), (.int .i64 0), (.int .i64 0), (.string zS), (.string zS), (.slice none 0 0), (.slice none 0 0)]) pe d j (mN.mk ⟨(.slice none 0 0), (.slice none 0 0), rfl, (Sl.nil _ _ _), (Sl.nil _ _ _)⟩) dR jo c4 rfl rfl (fun f2 e6 d b5 => lr (Wh t ?_))))))))))))
  refine Wh I (bS c fun _ a5 c => VQ (GW (i := G) dR eE rfl rfl b5 (qm a5) (qf a5)) (fun L c5 => Wa (lt ?_)))
  obtain rfl := sj c
  refine lB (v := L) rfl rfl ?_
  obtain ⟨g7, d, R, h, c6⟩ := ST.xR pe d c5
  exact ⟨_, _, _, rfl, (d.mI Sn), R, h, (ST.lO d (nm.mem Sn)), L, rfl, rfl, c6⟩
theorem F3 (c : oZ) (a i : Value) (k : Nat) (u : ke) (r : Bool) (w : World) (j : Sl kf 5 (hp w) a c.kv.Kids) (g : Sl (Pl km) 9 (hp w) i c.nv) (t : At (hp w) (.pointer (some ⟨k, 0, none⟩)) (km u)) (hm : su c u = some r) :
  kN true pg0 131 [(.agg #[(.string c.kd.kj), (.string c.kd.kq), (.int .i64 c.kv.Op), (.int .i64 c.kv.K), (.string c.kv.kd.kj), (.string c.kv.kd.kq), a, i]), (.pointer (some ⟨k, 0, none⟩))] w (.bool r) := by
 refine cG 9 func131 rfl (fun b => sg ?_)
 obtain ⟨B, D, rfl⟩ := j.form
 obtain ⟨x, y, rfl⟩ := g.form
 refine VE (kX b rfl (fun G I b => Wa (lr (Wf Of (VB b Mh rfl rfl isAgg28 (V (kl rfl (kO b.has t cE aT)) (bS hm fun J z hm => VE (Eg b call60 (GU (.slice x c.nv.length y) c.nv u _ _ (g.mono (Pl.mono _) b.kw) z) (fun H b => V (nT rfl) (Wa (ln ?_)))))))))))
 exact kM (rQ hm b)
theorem IX (i : lD) (a g : Value) (y : ke) (r : List oZ) (w : World) {G : kL} (p : nN G [] w) (j : Sl mh 15 G a i.kZ) (c : Sl mN 8 G g i.mu) (hm : ym i y = some r) :
  mj false pg0 70 [(.agg #[(.string i.Name), a, g]), (.agg (km y).toArray)] w G [] (fun v L1 μ1 => ∃ n, v = n ∧ L1 = [] ∧ Sl mN 8 μ1 n (r)) := by
 refine vt p 10 func70 rfl (fun b => sg ?_)
 obtain ⟨A1, c2, rfl⟩ := j.form
 obtain ⟨Y, o, rfl⟩ := c.form
 refine VE (kX b rfl (fun W6 O b => VE (kX b rfl (fun W8 z b => Wa (lr (Wf NC (VB b (Mt Mh) rfl rfl isAgg23 (bS hm fun F N hm => ?_))))))))
 refine VE (eD b (bI _) call130 (fun m => mj.lZ (EL (.slice Y i.mu.length o) i.mu _ _ m (c.mono pe.mono (kH.refl _)) N)) ?_ (L0 := []))
 rintro _ c3 c6 L b B d ⟨a5, Z, k, rfl, T⟩
 obtain rfl := k.symm
 replace b := b.perm (Tr Tn)
 refine V (qv (by exact sW rfl) rfl) ?_
 replace b := b.perm (Nb (Pr Pz) Nz)
 obtain ⟨c7, b, u, h, M⟩ := ST.xU (R := [(z, Ol (km y) 52)]) b
 have K := At.of (M _ _ (.head _)) _ rfl
 refine bS hm fun c1 Q hm => ?_
 refine VE (eD b (Cr Qz Cn) call129 (fun m => (BL a5 F Z (.func (.func 131) #[] #[(.pointer (some ⟨z, 0, none⟩))]) (fun (x : oZ) => su x y) _ _ m (T.mono pe u) ⟨131, #[], #[(.pointer (some ⟨z, 0, none⟩))], rfl, call131, fun W x vs r s q hm => by obtain ⟨_, rfl, a3⟩ := q; obtain ⟨I, J, rfl, A, E⟩ := a3.out; exact (F3 x I J z y r W A E (K.mono ((kH.refl _).trans s)) hm).lZ⟩ Q)) ?_)
 rintro _ c5 c8 P b D l ⟨H, t, rfl, U⟩
 obtain rfl := t.symm
 refine Wa (ln ?_)
 replace b := b.kh (Db St)
 refine kM ?_
 obtain rfl := sj hm
 exact lB (v := H) rfl rfl ⟨_, _, _, rfl, (b.mI Sn), ((B.trans u).trans D), ((d.trans h).trans l), (ST.lO b (nm.mem Sn)), H, rfl, rfl, U⟩
theorem DX (T : Formula → Int → Option (Int × Int)) (n : ∀ (t : Formula) (j : Value) (I : Int) (r : (Int × Int)) (w : World) (g : Sl kf 5 (hp w) j t.Kids), T t I = some r → kN false pg0 192 [(.agg #[(.int .i64 t.Op), (.int .i64 t.K), (.string t.kd.kj), (.string t.kd.kq), j]), (.int .i64 I)] w (.tuple #[(.int .i64 r.1), (.int .i64 r.2)])) (t : Formula) (j : Value) (I : Int) (r : (Int × Int)) (w : World) (g : Sl kf 5 (hp w) j t.Kids) (hm : vQ T t I = some r) :
  kN false pg0 192 [(.agg #[(.int .i64 t.Op), (.int .i64 t.K), (.string t.kd.kj), (.string t.kd.kq), j]), (.int .i64 I)] w (.tuple #[(.int .i64 r.1), (.int .i64 r.2)]) := by
 refine cG 40 func192 rfl (fun b => sg ?_)
 obtain ⟨A1, c2, rfl⟩ := g.form
 refine VE (kX b rfl (fun W4 O b => Wa (Wa (lr (Wa (Wa (lS (Wf sK ?_))))))))
 refine VB b Mh rfl rfl fl (V (lT aF rfl g) (Wm (ln ?_)))
 replace b := b.kh (Db St)
 refine CJ hm (fun Q E W => ∃ a2, ST false lM w W (hp w) a2 ∧ E 6 = (.int .i64 Q.1) ∧ E 7 = (.int .i64 Q.2)) (fun Q a5 => ?_) ?_
 ·refine lu (fun i E W => ∃ y z J, (E 15 = .int .i64 (i : Nat) ∧ E 14 = .int .i64 (t.Kids.length : Nat)) ∧ ST false lM w W (hp w) J ∧ E 1 = (.int .i64 I) ∧ E 6 = (.int .i64 y) ∧ E 7 = (.int .i64 z) ∧ E 13 = (.slice A1 t.Kids.length c2) ∧ pJ I T (t.Kids.drop i) y z = some Q) t.Kids.length g.len ⟨1, 0, _, ⟨rfl, rfl⟩, (b.kh St), rfl, rfl, rfl, rfl, a5⟩ dc dc dc (fun _ _ _ h => by obtain ⟨_, _, _, l, _⟩ := h; exact l) ?_ ?_
  ·rintro A E W a3 ⟨y, z, J, ⟨d, m⟩, b, G, x, H, K, a⟩
   obtain ⟨c, c6, p, o, a9⟩ := lc a3
   rw [p] at a
   refine bg (VQ (nM (i := (A : Int)) (x0 := c) kf.out aF aD K d g (aH _) o) (fun c4 ⟨_, ⟨c5, rfl, N⟩, Y⟩ => V (kl rfl (kO b.has Y bA aD)) (VE (ll b bK (fun P c3 b => ?_)))))
   obtain ⟨B, D, rfl⟩ := N.form
   let a0 := (C1 c.Op c.K c.kd.kj c.kd.kq B c.Kids.length D)
   refine VO (kJ (.agg a0.toArray) (a0.toArray) b rfl rfl aD oc nb rfl (fun R b => lS (Wh x (Wh G (Wi rfl (ln (CI a rfl (fun U a => ?_) (fun U a => ?_))))))))
   ·refine nf (mO (Sf (by simp) (mO (pZ (ku ?_)))))
    obtain rfl := sj a
    exact ⟨_, (b.kh (Db St)), x, H⟩
   refine kg (VA b Mh a0 bA aD (Wh G (Wh x (Wi rfl (bS a fun M Z a => VE (Eg b call192 (n c (.slice B c.Kids.length D) (wi0 .i64 (I - y)) _ _ (N.mono kz.mono b.kw) Z) (fun c1 b => Wm (Wx rfl (Wx rfl (Wa (Wa ?_)))))))))))
   refine ln ?_
   replace b := b.kh (Db St)
   exact kB (Wh x (Wm (Wi rfl (Wh H (Wm (V (N0 (k := .i64) rfl rfl) (Wa (Wa (kQ (kY (ku ⟨d, (wi0 .i64 (y + M.1)), (if M.2 > z then M.2 else z), _, ⟨rfl, m⟩, (b.kh St), G, rfl, rfl, K, (by rw [a9]; exact a)⟩)))))))))))
  rintro E W ⟨y, z, J, ⟨d, m⟩, b, G, x, H, K, a⟩
  rw [aI] at a
  refine ku ?_
  obtain rfl := sj a
  exact ⟨_, (b.kh St), x, H⟩
 rintro ⟨F, L⟩ E W ⟨a2, b, q, s⟩ a4
 refine sg (Wh q (Wh s (Wi rfl (Wa (Wa (lt ?_))))))
 obtain rfl := sj a4
 exact rR (v := (.int .i64 F)) (u := (.int .i64 (wi0 .i64 (L + 1)))) rfl rfl rfl ⟨rfl, b.ex⟩
theorem BO : ∀ (n : Nat) (c : Formula) (a : Value) (i : Int) (r : (Int × Int)) (w : World) (g : Sl kf 5 (hp w) a c.Kids) (_ : oK n c i = some r),
  kN false pg0 192 [(.agg #[(.int .i64 c.Op), (.int .i64 c.K), (.string c.kd.kj), (.string c.kd.kq), a]), (.int .i64 i)] w (.tuple #[(.int .i64 r.1), (.int .i64 r.2)])
 | 0 => by intros; rename_i h; simp only [oK] at h; cases h
 | n + 1 => DX (oK n) (BO n)
theorem HK (a : Formula) (g : Value) (r : (Int × Int)) (w : World) (c : Sl kf 5 (hp w) g a.Kids) (hm : xB a = some r) :
  kN false pg0 134 [(.agg #[(.int .i64 a.Op), (.int .i64 a.K), (.string a.kd.kj), (.string a.kd.kq), g])] w (.tuple #[(.int .i64 r.1), (.int .i64 r.2)]) := by
 refine cG 15 func134 rfl (fun b => sg ?_)
 obtain ⟨i, j, rfl⟩ := c.form
 refine VE (kX b rfl (fun y B b => Wa (Wa (lr (VA b Mh (C1 a.Op a.K a.kd.kj a.kd.kq i a.Kids.length j) bA aD (bS hm fun x t hm => VE (Eg b call192 ((BO kT) a (.slice i a.Kids.length j) 4096 _ _ (c.mono kz.mono b.kw) t) (fun z b => Wm (Wx rfl (Wx rfl (Wa (Wa ?_))))))))))))
 refine ln ?_
 replace b := b.kh (Db St)
 refine kA (sg (Wm (Wi rfl (ln (CI hm rfl (fun k hm => ?_) (fun k hm => ?_))))))
 ·refine sg (Wa (Wa (lt (kU ?_))))
  obtain rfl := sj hm
  exact rR (v := (.int .i64 0)) (u := (.int .i64 0)) rfl rfl rfl ⟨rfl, b.ex⟩
 refine kg (Wm (Wm (Wa (Wa (lt ?_)))))
 obtain rfl := sj hm
 exact rR (v := (.int .i64 x.1)) (u := (.int .i64 x.2)) rfl rfl rfl ⟨rfl, b.ex⟩
theorem HD (a : Formula) (H : Value) (r : Bool) (w : World) (t : Sl kf 5 (hp w) H a.Kids) (hm : xw a = some r) :
  kN true pg0 193 [(.agg #[(.int .i64 a.Op), (.int .i64 a.K), (.string a.kd.kj), (.string a.kd.kq), H])] w (.bool r) := by
 refine cG 63 func193 rfl (fun b => sg ?_)
 obtain ⟨A1, c2, rfl⟩ := t.form
 let l := (C1 a.Op a.K a.kd.kj a.kd.kq A1 a.Kids.length c2)
 refine VE (kX b rfl (fun W4 N b => Wa (lr (V (mK (v := (.agg (ki K0).toArray)) uw (me dv cW (HO _ cW) kr)) (VE (ll b dv (fun W6 s b => VO (kJ (.agg (ki K0).toArray) ((ki K0).toArray) b rfl rfl aG (pk K0) nb rfl (fun W7 b => lS (Wf uf ?_))))))))))
 refine VB b (Mt Mh) rfl rfl dz (ln (bg (Wi rfl (Wa (ln (CI hm rfl (fun d9 hm => ?_) (fun d9 hm => ?_)))))))
 ·refine sg (Wf yb (VA b (Mt Mh) (ki a.kd) bo aG (bS hm fun f7 e5 hm => VE (Eg b jO (sM a.kd _ _  e5) (fun f5 b => Wm (LJ hm (fun d2 E W => ∃ L, ST true lM w W (hp w) ((N, Ol l 58) :: L) ∧ E 1 = (.pointer (some ⟨N, 0, none⟩)) ∧ E 2 = (.bool false) ∧ E 17 = (.bool d2)) 5 ?_ (fun d2 J a4 => ?_)))))))
  ·rintro f8 E W ⟨L, b, e7, c9, e8⟩ e1
   refine Wh e8 (LJ e1 (fun d1 E W => ∃ O, ST true lM w W (hp w) O ∧ E 2 = (.bool false) ∧ E 22 = (.bool d1)) 4 ?_ (fun d1 I a3 => ?_))
   ·rintro f9 E W ⟨O, b, f6, e9⟩ e2
    refine Wg e9 (lt (mB (kU ?_)))
    obtain rfl := sj e2
    exact rP b
   refine bC I (fun u I => ?_) (fun u I => ?_)
   ·refine ug u (ky zf e7) (ug u (kl rfl (kK b.has Mh rfl dz)) (ug u (lW rfl rfl rfl) (V (lg (cB u) rfl) ?_)))
    obtain rfl := sj I
    exact a3 _ _ ⟨_, (b.kh (Db St)), c9, rfl⟩
   refine un u (un u (un u (V (li (cB u) rfl) ?_)))
   obtain rfl := sj I
   exact a3 _ _ ⟨_, (b.kh (Db St)), c9, rfl⟩
  refine bC J (fun j J => ?_) (fun j J => ?_)
  ·refine ug j (ky sK rfl) (ug j (kl rfl (kK b.has (Mt Mh) rfl fl)) (ug j (lT aF rfl t) (ug j (lW rfl rfl rfl) (V (lg (cB j) rfl) ?_))))
   obtain rfl := sj J
   exact a4 _ _ ⟨_, (b.kh (Db St)), rfl, rfl, rfl⟩
  refine un j (un j (un j (un j (V (li (cB j) rfl) ?_))))
  obtain rfl := sj J
  exact a4 _ _ ⟨_, (b.kh (Db St)), rfl, rfl, rfl⟩
 let a0 := (l.toArray : Array Value)
 let d : Value := (.pointer (some ⟨N, 0, none⟩))
 refine kA (CJ hm (fun F E W => ∃ P, ST true lM w W (hp w) ((s, Ol (ki K0) 50) :: ((N, Obj.cells a0 58 (0, 0)) :: P)) ∧ E 1 = d ∧ E 3 = (.pointer (some ⟨s, 0, none⟩)) ∧ E 23 = (.bool F)) (fun F G => ?_) ?_)
 ·refine sg (Wi rfl (Wa (ln (CI G rfl (fun b9 G => ?_) (fun b9 G => ?_)))))
  ·refine kn ?_
   obtain rfl := sj G
   exact ⟨_, (b.kh St), rfl, rfl, rfl⟩
  refine kB (Wi rfl (Wa (ln ?_)))
  obtain rfl := sj G
  exact ⟨_, (b.kh St), rfl, rfl, rfl⟩
 rintro g0 E W ⟨P, b, Q, d0, f0⟩ K
 refine CI K f0 (fun e0 K => ?_) (fun e0 K => ?_)
 ·refine sg (V (ky yb Q) (VA b (Mt Mh) (ki a.kd) bo aG (V (kl d0 (kx b.has Mh (ki K0) rfl bo aG)) (V (wQ rfl rfl (ow fi) (sU (rY _ a.kd K0))) (Wm (LJ K (fun d3 E W => ∃ R, ST true lM w W (hp w) R ∧ E 34 = (.bool d3)) 4 ?_ (fun d3 M a5 => ?_)))))))
  ·rintro g1 E W ⟨R, b, f1⟩ e3
   refine Wg f1 (lt (mB (kU ?_)))
   obtain rfl := sj e3
   exact rP b
  refine bC M (fun x M => ?_) (fun x M => ?_)
  ·refine ug x (ky zf Q) (ug x (kl rfl (kK b.has (Mt Mh) rfl dz)) (ug x (lW rfl rfl rfl) (V (lg (cB x) rfl) ?_)))
   obtain rfl := sj M
   exact a5 _ _ ⟨_, (b.kh (Db (Db St))), rfl⟩
  refine un x (un x (un x (V (li (cB x) rfl) ?_)))
  obtain rfl := sj M
  exact a5 _ _ ⟨_, (b.kh (Db (Db St))), rfl⟩
 refine lE (kY (ku (sg (V (ky uf Q) (VB b (Mt Mh) rfl rfl dz (Wi rfl (Wm (LJ K (fun A E W => ∃ c8, ST true lM w W (hp w) ((N, Obj.cells a0 58 (0, 0)) :: c8) ∧ E 1 = d ∧ E 43 = (.bool A)) 5 ?_ (fun A D h => ?_)))))))))
 ·rintro g2 E W ⟨c8, b, a2, d4⟩ e4
  refine Wh d4 (LJ e4 (fun q E W => ∃ m, ST true lM w W (hp w) ((N, Obj.cells a0 58 (0, 0)) :: m) ∧ E 1 = d ∧ E 48 = (.bool q)) 4 ?_ (fun q B Z => ?_))
  ·rintro f2 E W ⟨m, b, T, d5⟩ c0
   refine Wh d5 (LJ c0 (fun p E W => ∃ a9, ST true lM w W (hp w) ((N, Obj.cells a0 58 (0, 0)) :: a9) ∧ E 1 = d ∧ E 56 = (.bool p)) 7 ?_ (fun p z Y => ?_))
   ·rintro f3 E W ⟨a9, b, d6, d7⟩ c1
    refine Wh d7 (LJ c1 (fun o E W => ∃ n, ST true lM w W (hp w) n ∧ E 62 = (.bool o)) 5 ?_ (fun o y U => ?_))
    ·rintro f4 E W ⟨n, b, d8⟩ c3
     exact Wg d8 (lt (rQ c3 b))
    refine bC y (fun g y => ?_) (fun g y => ?_)
    ·refine ug g (ky sK d6) (ug g (kl rfl (kK b.has Mh rfl fl)) (ug g (lT aF rfl t) (ug g (lW rfl rfl rfl) (V (lg (cB g) rfl) ?_))))
     obtain rfl := sj y
     exact U _ _ ⟨_, (b.kh (Db St)), rfl⟩
    refine un g (un g (un g (un g (V (li (cB g) rfl) ?_))))
    obtain rfl := sj y
    exact U _ _ ⟨_, (b.kh (Db St)), rfl⟩
   refine bC z (fun c z => ?_) (fun c z => ?_)
   ·refine ug c (ky zf T) (ug c (kl rfl (kK b.has Mh rfl dz)) (ug c (ky sK T) (ug c (kl rfl (kK b.has Mh rfl fl)) (ug c (lT aF rfl t) (ug c (lW rfl rfl rfl) (V (lg (cB c) rfl) ?_))))))
    obtain rfl := sj z
    exact Y _ _ ⟨_, (b.kh St), T, rfl⟩
   refine un c (un c (un c (un c (un c (un c (V (li (cB c) rfl) ?_))))))
   obtain rfl := sj z
   exact Y _ _ ⟨_, (b.kh St), T, rfl⟩
  refine bC B (fun i B => ?_) (fun i B => ?_)
  ·refine ug i (ky zf a2) (ug i (kl rfl (kK b.has Mh rfl dz)) (ug i (lW rfl rfl rfl) (V (lg (cB i) rfl) ?_)))
   obtain rfl := sj B
   exact Z _ _ ⟨_, (b.kh St), a2, rfl⟩
  refine un i (un i (un i (V (li (cB i) rfl) ?_)))
  obtain rfl := sj B
  exact Z _ _ ⟨_, (b.kh St), a2, rfl⟩
 refine bC D (fun k D => ?_) (fun k D => ?_)
 ·refine ug k (ky yb Q) (ug k (kl rfl (kx b.has (Mt Mh) (ki a.kd) rfl bo aG)) (ug k (kl d0 (kx b.has Mh (ki K0) rfl bo aG)) (ug k (wQ rfl rfl (ow fi) (sU (rY _ a.kd K0))) (V (lg (cB k) rfl) ?_))))
  obtain rfl := sj D
  exact h _ _ ⟨_, (b.kh (Db St)), Q, rfl⟩
 refine un k (un k (un k (un k (V (li (cB k) rfl) ?_))))
 obtain rfl := sj D
 exact h _ _ ⟨_, (b.kh (Db St)), Q, rfl⟩
theorem Aw (g : Value) (t : List Formula) (j : Value) (z : Formula → Option Bool) (r : Int) (w : World) (c : Sl kf 5 (hp w) g t) (B : xX pg0 j (hp w) (BG kf) (fun (r : Bool) => (.bool r)) z) (hm : th t z = some r) :
  kN false pg0 249 [g, j] w (.int .i64 r) := by
 refine cG 19 func249 rfl (fun b => sg (Wa (lS (Wm (V (lT aF rfl c) (Wm (ln (lu (fun i E W => ∃ k, (E 8 = .int .i64 (i : Nat) ∧ E 7 = .int .i64 (t.length : Nat)) ∧ ST false lM w W (hp w) k ∧ E 0 = g ∧ E 1 = j ∧ nF z (t.drop i) i = some r) t.length c.len ⟨_, ⟨rfl, rfl⟩, (b.kh St), rfl, rfl, hm⟩ dc dc dc (fun _ _ _ h => by obtain ⟨_, l, _⟩ := h; exact l) ?_ ?_))))))))
 ·rintro Q E W G ⟨k, ⟨d, m⟩, b, u, x, a⟩
  obtain ⟨y, U, M, K, N⟩ := lc G
  rw [M] at a
  refine bg (Wh d (Wa (lr (Wh x (Wh u (Wm (VQ (nM (i := (Q : Int)) (x0 := y) kf.out aF aD rfl rfl c (aH _) K) (fun Z ⟨_, ⟨T, rfl, J⟩, H⟩ => V (kl rfl (kO b.has H bA aD)) (bS a fun n I a => ?_)))))))))
  refine VE (zd y b B (kH.refl _) (BG.mk kz (kf.mk ⟨T, rfl, J⟩) b.kw) rfl (sW rfl) I (fun Y b => ln (CI a rfl (fun D a => ?_) (fun D a => ?_))))
  ·refine sg (Wm (Wa (lt (mB (kU (mB (kU ?_)))))))
   obtain rfl := sj a
   exact rP b
  exact lE (kY (ku ⟨d, _, ⟨rfl, m⟩, (b.kh St), u, x, (by rw [N]; exact a)⟩))
 rintro E W ⟨k, ⟨d, m⟩, b, u, x, a⟩
 rw [aI] at a
 exact ku (sg (Wa (lt (rQ a b))))
theorem vg (a : Value) (g : List Formula) (c : Value) (i : Formula → Option Bool) (r : Bool) (w : World) (j : Sl kf 5 (hp w) a g) (k : xX pg0 c (hp w) (BG kf) (fun (r : Bool) => (.bool r)) i) (hm : ov g i = some r) :
  kN false pg0 194 [a, c] w (.bool r) := by
 refine cG 9 func194 rfl (fun b => sg (Wa (lr (Wm (Wm (bS hm fun x t hm => VE (Eg b call249 (Aw a g c i _ _ (j.mono kz.mono b.kw) (k.mono b.kw) t) (fun u b => Wi rfl (Wa (kQ ?_))))))))))
 exact ku (kM (rQ hm b))
theorem EA (i : Formula → Option Bool) (t : ∀ (c : Formula) (a : Value) (r : Bool) (w : World) (g : Sl kf 5 (hp w) a c.Kids), i c = some r → kN false pg0 135 [(.agg #[(.int .i64 c.Op), (.int .i64 c.K), (.string c.kd.kj), (.string c.kd.kq), a])] w (.bool r)) (c : Formula) (a : Value) (r : Bool) (w : World) (g : Sl kf 5 (hp w) a c.Kids) (hm : uO i c = some r) :
  kN false pg0 195 [(.agg #[(.int .i64 c.Op), (.int .i64 c.K), (.string c.kd.kj), (.string c.kd.kq), a])] w (.bool r) := by
 refine cG 6 func195 rfl (fun b => sg ?_)
 obtain ⟨j, k, rfl⟩ := g.form
 refine VE (kX b rfl (fun x z b => Wa (lr (VA b Mh (C1 c.Op c.K c.kd.kj c.kd.kq j c.Kids.length k) bA aD (bS hm fun B u hm => VE (Eg b call135 (t c (.slice j c.Kids.length k) _ _ (g.mono kz.mono b.kw) u) (fun y b => V (nT rfl) (Wa (ln ?_)))))))))
 exact kM (rQ hm b)
theorem Dx (z : Formula → Option Bool) (T : ∀ (a : Formula) (g : Value) (r : Bool) (w : World) (c : Sl kf 5 (hp w) g a.Kids), z a = some r → kN false pg0 135 [(.agg #[(.int .i64 a.Op), (.int .i64 a.K), (.string a.kd.kj), (.string a.kd.kq), g])] w (.bool r)) (a : Formula) (g : Value) (r : Bool) (w : World) (c : Sl kf 5 (hp w) g a.Kids) (hm : vT z a = some r) :
  kN false pg0 135 [(.agg #[(.int .i64 a.Op), (.int .i64 a.K), (.string a.kd.kj), (.string a.kd.kq), g])] w (.bool r) := by
 refine cG 17 func135 rfl (fun b => sg ?_)
 obtain ⟨B, D, rfl⟩ := c.form
 let a0 := (C1 a.Op a.K a.kd.kj a.kd.kq B a.Kids.length D)
 refine VE (kX b rfl (fun W4 U b => Wa (lr (VA b Mh a0 bA aD (bS hm fun s a3 hm => VE (Eg b call193 (kN.lZ (HD a (.slice B a.Kids.length D) _ _ (c.mono kz.mono b.kw) a3)) (fun W7 b => Wm (LJ hm (fun K E W => ∃ G, ST false lM w W (hp w) ((U, Ol a0 58) :: G) ∧ E 1 = (.pointer (some ⟨U, 0, none⟩)) ∧ E 2 = (.bool false) ∧ E 10 = (.bool K)) 5 ?_ (fun K t y => ?_)))))))))
 ·rintro v E W ⟨G, b, Y, I, Z⟩ M
  refine Wh Z (LJ M (fun J E W => ∃ H, ST false lM w W (hp w) H ∧ E 2 = (.bool false) ∧ E 16 = (.bool J)) 5 ?_ (fun J k u => ?_))
  ·rintro p E W ⟨H, b, n, d⟩ N
   exact Wg d (lt (rQ N b))
  refine bC k (fun i k => ?_) (fun i k => ?_)
  ·refine ug i (ky sK Y) (ug i (kl rfl (kK b.has Mh rfl fl)) (bS k fun o Q k => vn i (Eg b call194 (vg (.slice B a.Kids.length D) a.Kids (.func (.func 195) #[] #[]) (fun (x : Formula) => uO z x) _ _ (c.mono kz.mono b.kw) ⟨195, #[], #[], rfl, call195, fun W x vs r q h hm => by obtain ⟨_, rfl, a2⟩ := h; obtain ⟨m, rfl, l⟩ := a2.out; exact EA z T x m r W l hm⟩ Q) (fun a5 b => ug i (nT rfl) (V (lg (cB i) rfl) ?_)))))
   obtain rfl := sj k
   exact u _ _ ⟨_, (b.kh (Db St)), I, rfl⟩
  refine un i (un i (un i (un i (V (li (cB i) rfl) ?_))))
  obtain rfl := sj k
  exact u _ _ ⟨_, (b.kh (Db St)), I, rfl⟩
 refine bC t (fun j t => ?_) (fun j t => ?_)
 ·refine ug j (ky sK rfl) (ug j (kl rfl (kK b.has Mh rfl fl)) (ug j (lT aF rfl c) (ug j (lW rfl rfl rfl) (V (lg (cB j) rfl) ?_))))
  obtain rfl := sj t
  exact y _ _ ⟨_, (b.kh St), rfl, rfl, rfl⟩
 refine un j (un j (un j (un j (V (li (cB j) rfl) ?_))))
 obtain rfl := sj t
 exact y _ _ ⟨_, (b.kh St), rfl, rfl, rfl⟩
theorem B4 : ∀ (n : Nat) (c : Formula) (a : Value) (r : Bool) (w : World) (g : Sl kf 5 (hp w) a c.Kids) (_ : rE n c = some r),
  kN false pg0 135 [(.agg #[(.int .i64 c.Op), (.int .i64 c.K), (.string c.kd.kj), (.string c.kd.kq), a])] w (.bool r)
 | 0 => by intros; rename_i h; simp only [rE] at h; cases h
 | n + 1 => Dx (rE n) (B4 n)
theorem uN (a : Formula) (k : Value) (r : Bool) (w : World) (c : Sl kf 5 (hp w) k a.Kids) (hm : ql a = some r) :
  kN false pg0 72 [(.agg #[(.int .i64 a.Op), (.int .i64 a.K), (.string a.kd.kj), (.string a.kd.kq), k])] w (.bool r) := by
 refine cG 24 func72 rfl (fun b => sg ?_)
 obtain ⟨y, z, rfl⟩ := c.form
 let a0 := (C1 a.Op a.K a.kd.kj a.kd.kq y a.Kids.length z)
 refine VE (kX b rfl (fun W4 H b => Wa (lr (VA b Mh a0 bA aD (bS hm fun n a9 hm => VE (Eg b call134 (HK a (.slice y a.Kids.length z) _ _ (c.mono kz.mono b.kw) a9) (fun W7 b => Wm (Wx rfl (Wx rfl (Wa (Wa (kQ ?_))))))))))))
 refine ku (sg (Wm (Wi rfl (Wm (LJ hm (fun Y E W => ∃ I, ST false lM w W (hp w) ((H, Ol a0 58) :: I) ∧ E 1 = (.pointer (some ⟨H, 0, none⟩)) ∧ E 2 = (.bool false) ∧ E 4 = (.int .i64 n.2) ∧ E 15 = (.bool Y)) 3 ?_ (fun Y x G => ?_))))))
 ·rintro A E W ⟨I, b, M, N, a4, a5⟩ Z
  refine Wh a5 (LJ Z (fun U E W => ∃ J, ST false lM w W (hp w) ((H, Ol a0 58) :: J) ∧ E 1 = (.pointer (some ⟨H, 0, none⟩)) ∧ E 2 = (.bool false) ∧ E 19 = (.bool U)) 3 ?_ (fun U u D => ?_))
  ·rintro s E W ⟨J, b, h, Q, l⟩ d
   refine Wh l (LJ d (fun T E W => ∃ K, ST false lM w W (hp w) K ∧ E 2 = (.bool false) ∧ E 23 = (.bool T)) 3 ?_ (fun T j B => ?_))
   ·rintro v E W ⟨K, b, p, m⟩ a2
    exact Wg m (lt (rQ a2 b))
   refine bC j (fun i j => ?_) (fun i j => ?_)
   ·refine ug i (kl h (kx b.has Mh a0 rfl bA aD)) (bS j fun q a3 j => vn i (Eg b call135 ((B4 kT) a (.slice y a.Kids.length z) _ _ (c.mono kz.mono b.kw) a3) (fun o b => V (lg (cB i) rfl) ?_)))
    obtain rfl := sj j
    exact B _ _ ⟨_, (b.kh (Db St)), Q, rfl⟩
   refine un i (un i (V (li (cB i) rfl) ?_))
   obtain rfl := sj j
   exact B _ _ ⟨_, (b.kh (Db St)), Q, rfl⟩
  refine bC u (fun g u => ?_) (fun g u => ?_)
  ·refine ug g (ko a4) (ug g (lW rfl rfl rfl) (V (lg (cB g) rfl) ?_))
   obtain rfl := sj u
   exact D _ _ ⟨_, (b.kh St), M, N, rfl⟩
  refine un g (un g (V (li (cB g) rfl) ?_))
  obtain rfl := sj u
  exact D _ _ ⟨_, (b.kh St), M, N, rfl⟩
 refine bC x (fun t x => ?_) (fun t x => ?_)
 ·refine ug t (ko rfl) (ug t (lW rfl rfl rfl) (V (lg (cB t) rfl) ?_))
  obtain rfl := sj x
  exact G _ _ ⟨_, (b.kh St), rfl, rfl, rfl, rfl⟩
 refine un t (un t (V (li (cB t) rfl) ?_))
 obtain rfl := sj x
 exact G _ _ ⟨_, (b.kh St), rfl, rfl, rfl, rfl⟩
theorem zL (i : Formula) (g : Value) (x : Int) (r : Bool) (w : World) (c : Sl kf 5 (hp w) g i.Kids) (hm : tU i x = some r) :
  kN true pg0 285 [(.agg #[(.int .i64 i.Op), (.int .i64 i.K), (.string i.kd.kj), (.string i.kd.kq), g]), (.int .i64 x)] w (.bool r) := by
 refine cG 15 func285 rfl (fun b => sg ?_)
 obtain ⟨B, D, rfl⟩ := c.form
 refine VE (kX b rfl (fun G H b => Wa (lr (Wf uf (VB b Mh rfl rfl dz (Wm (Wi rfl (Wm (LJ hm (fun t E W => ∃ u, ST true lM w W (hp w) u ∧ E 4 = (.bool false) ∧ E 14 = (.bool t)) 5 ?_ (fun t j k => ?_))))))))))
 ·rintro J E W ⟨u, b, I, y⟩ z
  exact Wg y (lt (rQ z b))
 refine bC j (fun a j => ?_) (fun a j => ?_)
 ·refine ug a (ky sK rfl) (ug a (kl rfl (kK b.has Mh rfl fl)) (ug a (lT aF rfl c) (ug a (lW rfl rfl rfl) (V (lg (cB a) rfl) ?_))))
  obtain rfl := sj j
  exact k _ _ ⟨_, (b.kh (Db St)), rfl, rfl⟩
 refine un a (un a (un a (un a (V (li (cB a) rfl) ?_))))
 obtain rfl := sj j
 exact k _ _ ⟨_, (b.kh (Db St)), rfl, rfl⟩
theorem GH (r : Formula) (w : World) {c : kL} (i : nN c [] w) (hm : zi  = some r) :
  mj true pg0 286 [] w c [] (fun v g j => ∃ a, v = (.agg #[(.int .i64 ((r).Op)), (.int .i64 ((r).K)), (.string (((r).kd).kj)), (.string (((r).kd).kq)), a]) ∧ g = [] ∧ Sl kf 5 j a ((r).Kids)) := by
 refine vt i 2 func286 rfl (fun b => sg (VE (ll b bK (fun k u b => lr (V (mK (v := (.agg C9.toArray)) (nh rfl) (me bK cD (Ar _ cD) kr)) (VO (kJ (.agg C9.toArray) (C9.toArray) b rfl rfl aD oc nb rfl (fun t b => lt ?_))))))))
 obtain rfl := sj hm
 exact qh (v := (.agg C9.toArray)) rfl rfl (kx b.has Mh C9 rfl bA aD) ⟨_, _, _, rfl, (b.mI Sn), (kH.refl _), Lo.refl, (ST.lO b (nm.mem Sn)), (.slice none 0 0), rfl, rfl, (Sl.nil _ _ _)⟩
theorem HC (r : Formula) (w : World) {c : kL} (i : nN c [] w) (hm : zI  = some r) :
  mj true pg0 287 [] w c [] (fun v g j => ∃ a, v = (.agg #[(.int .i64 ((r).Op)), (.int .i64 ((r).K)), (.string (((r).kd).kj)), (.string (((r).kd).kq)), a]) ∧ g = [] ∧ Sl kf 5 j a ((r).Kids)) := by
 refine vt i 2 func287 rfl (fun b => sg (VE (ll b bK (fun k u b => lr (V (mK (v := (.agg Nx.toArray)) (nh rfl) (me bK cD (Ar _ cD) kr)) (VO (kJ (.agg Nx.toArray) (Nx.toArray) b rfl rfl aD oc nb rfl (fun t b => lt ?_))))))))
 obtain rfl := sj hm
 exact qh (v := (.agg Nx.toArray)) rfl rfl (kx b.has Mh Nx rfl bA aD) ⟨_, _, _, rfl, (b.mI Sn), (kH.refl _), Lo.refl, (ST.lO b (nm.mem Sn)), (.slice none 0 0), rfl, rfl, (Sl.nil _ _ _)⟩
theorem IW (T : Int) (J : Value) (M r : List Formula) (w : World) {Q : kL} (h0 : nN Q [] w) (I : Sl kf 5 Q J M) (hm : Az T M = some r) :
  mj true pg0 289 [(.int .i64 T), J] w Q [] (fun v L1 μ1 => ∃ p, v = p ∧ L1 = [] ∧ Sl kf 5 μ1 p (r)) := by
 refine vt h0 28 func289 rfl (fun b => sg (Wa (lr (Wa (lS (Wm ?_))))))
 refine V (lT aF rfl I) (Wm (ln (lu (fun i E W => ∃ t G k H, (E 10 = .int .i64 (i : Nat) ∧ E 9 = .int .i64 (M.length : Nat)) ∧ ST true (keys []) w W Q (k ++ H) ∧ E 0 = (.int .i64 T) ∧ E 5 = t ∧ E 8 = J ∧ lC 58 kf 5 Q t G k ∧ qN T (M.drop i) G = some r) M.length I.len ⟨(.slice none 0 0), ([]), [], _, ⟨rfl, rfl⟩, (b.kh St), rfl, rfl, rfl, (lC.nil _ _ _ _), hm⟩ dc dc dc (fun _ _ _ h => by obtain ⟨_, _, _, _, n, _⟩ := h; exact n) ?_ ?_)))
 ·rintro b5 E W a4 ⟨t, G, k, H, ⟨m, o⟩, b, x, y, z, u, c⟩
  obtain ⟨a, b7, A, s, K⟩ := lc a4
  rw [A] at c
  refine bg (VQ (nM (i := (b5 : Int)) (x0 := a) kf.out aF aD z m I (aH _) s) (fun c8 ⟨_, ⟨c9, rfl, D⟩, a5⟩ => V (kl rfl (kO b.has a5 bA aD)) (VE (ll b bK (fun c0 c5 b => ?_)))))
  obtain ⟨g, j, rfl⟩ := D.form
  let a0 := (C1 a.Op a.K a.kd.kj a.kd.kq g a.Kids.length j)
  refine VO (kJ (.agg a0.toArray) (a0.toArray) b rfl rfl aD oc nb rfl (fun c1 b => lr (Wf uf (VB b Mh rfl rfl dz (Wh x (Wi rfl (ln (CI c rfl (fun Z c => ?_) (fun Z c => ?_)))))))))
  ·refine kB (Wh y (Wf sK (VB b Mh rfl rfl fl ?_)))
   replace b := b.perm (Nr (Qb Qz) Nz)
   refine bS c fun L a2 c => VE (vK (B := k) kz b dc aF pt.1 pt.2.1 rfl pt.2.2.1 pt.2.2.2 rfl rfl u (Dc.sl kz D b.kw) a2 (fun c2 P a9 b U => Wa (kQ (kY (ku ?_)))))
   replace b := b.kh (Kr (Db St))
   exact ⟨m, P, L, a9, _, ⟨rfl, o⟩, (b.kh St), x, rfl, z, U, (by rw [K]; exact c)⟩
  refine kB (Wh y (VA b Mh a0 bA aD (VE (kV (cs := a0.toArray) b (nh rfl) (nc aF aD bK) (fun c3 c6 b => ?_)))))
  replace b := b.perm (Nr (Qb (Qb Qz)) Nz)
  refine bS c fun O a3 c => VE (vK (B := k) kz b dc aF pt.1 pt.2.1 rfl pt.2.2.1 pt.2.2.2 rfl rfl u (Dc.lit kz (l := [a]) (.cons (ys := C1 a.Op a.K a.kd.kj a.kd.kq g a.Kids.length j) (kf.mk ⟨(.slice g a.Kids.length j), rfl, D⟩) .nil) rfl nb (b.at_ (Ma Mh))) a3 (fun c4 R F b Y => Wa (kQ (kY (ku ?_)))))
  replace b := b.kh (Kr (Db (Db St)))
  exact ⟨m, R, O, F, _, ⟨rfl, o⟩, (b.kh St), x, rfl, z, Y, (by rw [K]; exact c)⟩
 rintro E W ⟨t, G, k, H, ⟨m, o⟩, b, x, y, z, u, c⟩
 rw [aI] at c
 refine ku (sg (Wh y (Wa (lt ?_))))
 obtain rfl := sj c
 refine lB (v := t) rfl rfl ?_
 obtain ⟨d1, b, N, d, q⟩ := ST.xR kz b u
 exact ⟨_, _, _, rfl, (b.mI Sn), N, d, (ST.lO b (nm.mem Sn)), t, rfl, rfl, q⟩
theorem AQ (a : Formula) (g : Value) (i : Nat) (j : Int) (r : Bool) (w : World) (c : Sl kf 5 (hp w) g a.Kids) (k : At (hp w) (.pointer (some ⟨i, 0, none⟩)) [(.int .i64 j)]) (hm : qU a j = some r) :
  kN true pg0 290 [(.agg #[(.int .i64 a.Op), (.int .i64 a.K), (.string a.kd.kj), (.string a.kd.kq), g]), (.pointer (some ⟨i, 0, none⟩))] w (.bool r) := by
 refine cG 7 func290 rfl (fun b => sg ?_)
 obtain ⟨t, u, rfl⟩ := c.form
 refine VE (kX b rfl (fun z D b => Wa (lr (VA b Mh (C1 a.Op a.K a.kd.kj a.kd.kq t a.Kids.length u) bA aD (V (kl rfl (ns b.has (y := (.int .i64 j)) k dz)) (bS hm fun G x hm => VE (Eg b call285 (zL a (.slice t a.Kids.length u) j _ _ (c.mono kz.mono b.kw) x) (fun B b => Wa (ln ?_)))))))))
 exact kM (rQ hm b)
theorem Cp (c : Value) (u r : List Formula) (w : World) {j : kL} (I : nN j [] w) (a : Sl kf 5 j c u) (hm : sD u = some r) :
  mj true pg0 320 [c] w j [] (fun v G J => ∃ z t, v = z ∧ G = (t ++ []) ∧ lC 58 kf 5 J z r t) := by
 unfold sD at hm
 refine vt I 8 func320 rfl (fun b => sg (Wa (lS (Wm ?_))))
 obtain ⟨D, Q, rfl⟩ := a.form
 refine V (yM aF rfl rfl) (ln ?_)
 rcases D with _ | M
 ·have y := a.isNil
  replace hm : some [] = some r := by rw [y] at hm; simpa [mZ, maxLen] using hm
  refine vO (rfl) (sg (Wa (lt (kU ?_))))
  obtain rfl := sj hm
  refine lB (v := (.slice none 0 0)) rfl rfl ?_
  replace b := b.HU
  exact ⟨_, _, _, rfl, (b.mI (Kr Sn)), (kH.refl _), Lo.refl, (ST.lO b (nm.mem (Kr Sn))), (.slice none 0 0), [], rfl, rfl, (lC.nil _ _ _ _)⟩
 ·refine qZ (rfl) (kg (VE (kV (cs := #[]) b uw (zU [] aF aD bK dc rfl (by simp) rfl rfl) (fun N H b => Wm (bS hm fun T x hm => VE (vK (B := [(H, Ob #[] 58)]) kz b dc aF pt.1 pt.2.1 rfl pt.2.2.1 pt.2.2.2 rfl rfl (lC.lit kz (l := []) .nil rfl nb rfl) (Dc.sl kz a b.kw) x (fun K g k b i => Wa (lt ?_))))))))
  obtain rfl := sj hm
  exact lB (v := g) rfl rfl ⟨_, _, _, rfl, (b.mI (Kr Sn)), (kH.refl _), Lo.refl, (ST.lO b (nm.mem (Kr Sn))), g, k, rfl, rfl, i⟩
theorem sv (y : Value) (a0 : List Formula) (D : LO) (q a2 : Int) (T : Value) (f3 : (Formula × Formula) → Option Int) (r : List Formula) (w : World) {μ0 : kL} (h0 : nN μ0 (D ++ []) w) (h4 : lC 58 kf 5 μ0 y a0 D) (h5 : xX pg0 T μ0 (vX kf kf) (fun (r : Int) => (.int .i64 r)) f3) (hm : nq a0 q a2 f3 = some r) :
  mj false pg0 356 [y, (.int .i64 q), (.int .i64 a2), T] w μ0 (D ++ []) (fun v L1 μ1 => ∃ S1, v = (.tuple #[]) ∧ L1 = (S1 ++ []) ∧ lC 58 kf 5 μ1 y r S1) := by
 refine vt h0 53 func356 rfl (fun n => sg (Wm (Wi rfl (Wa (ln (tS (lR (np (fun m E W => ∃ Y J x c9, ST false (keys (D ++ [])) w W μ0 (J ++ c9) ∧ E 0 = y ∧ E 1 = (.int .i64 q) ∧ E 2 = (.int .i64 a2) ∧ E 3 = T ∧ E 8 = (.int .i64 x) ∧ lC 58 kf 5 μ0 y Y J ∧ mf a2 q f3 m Y x = some r) kT ⟨a0, D, (wi0 .i64 (q + 1)), _, (n.kh St), rfl, rfl, rfl, rfl, rfl, h4, hm⟩ ?_))))))))
 rintro m E W ⟨Y, J, x, c9, n, f9, g0, d1, g1, L, c6, u⟩
 cases m with
 | zero => rw [mf] at u; cases u
 | succ h2 =>
  refine kA (sg (Wh L (Wh d1 (Wi rfl (ln (CI u rfl (fun e9 u => ?_) (fun e9 u => ?_)))))))
  ·refine kn (kA (bg (Wh L (Wa (ln (tS (CJ u (fun O E W => ∃ U d0, ST false (keys (D ++ [])) w W μ0 (U ++ d0) ∧ E 0 = y ∧ E 1 = (.int .i64 q) ∧ E 2 = (.int .i64 a2) ∧ E 3 = T ∧ E 8 = (.int .i64 x) ∧ lC 58 kf 5 μ0 y O U) (fun O f1 => ?_) ?_)))))))
   ·refine lR (np (fun m E W => ∃ M B j b7, ST false (keys (D ++ [])) w W μ0 (B ++ b7) ∧ E 0 = y ∧ E 1 = (.int .i64 q) ∧ E 2 = (.int .i64 a2) ∧ E 3 = T ∧ E 8 = (.int .i64 x) ∧ E 9 = (.int .i64 j) ∧ lC 58 kf 5 μ0 y M B ∧ mw q f3 m M j = some O) kT ⟨Y, J, x, _, (n.kh St), f9, g0, d1, g1, L, rfl, c6, f1⟩ ?_)
    rintro m E W ⟨M, B, j, b7, n, K, Z, c0, a3, c1, G, t, I⟩
    cases m with
    | zero => rw [mw] at I; cases I
    | succ f4 =>
     refine kA (kA ?_)
     replace n := n.drew
     have d := n.has.kh (Kr Sn)
     refine lm d kP (X 0 rfl d (ko G) (X 1 rfl d (ko Z) (X 2 rfl d (lW rfl rfl rfl) (X 3 rfl d (ko rfl) (PJ I (fun c7 E W => ∃ b9, ST false (keys (D ++ [])) w W μ0 (B ++ b9) ∧ E 0 = y ∧ E 1 = (.int .i64 q) ∧ E 2 = (.int .i64 a2) ∧ E 3 = T ∧ E 8 = (.int .i64 x) ∧ E 9 = (.int .i64 j) ∧ E 34 = (.bool c7)) (bm 17 131071) 0 ?_ (fun c7 g a4 => ?_))))))
     ·rintro k2 E W ⟨b9, n, z, c2, c3, c4, c5, H, e8⟩ c
      have d := n.has.kh (Kr Sn)
      refine lF kr (ku (CI c e8 (fun d3 c => ?_) (fun d3 c => ?_)))
      ·refine kn (kA (lR ?_))
       replace n := n.drew
       have d := n.has.kh Sn
       have p := n.has.kh (Kr Sn)
       refine vI 15 d p kP (lJ 0 rfl kr (.inl rfl) rfl dc (fun _ _ h => ⟨h.1, mn br h.2⟩) ⟨d, fun _ => p⟩ (fun _ _ _ _ => ko z) (lJ 1 rfl kr (.inl rfl) rfl dc (fun _ _ h => ⟨h.1, mn br h.2⟩) ⟨d, fun _ => p⟩ (fun _ _ _ _ => ko H) (lJ 2 rfl kr (.inl rfl) rfl dc (fun _ _ h => ⟨h.1, mn br h.2⟩) ⟨d, fun _ => p⟩ (fun _ _ _ _ => ko z) (lJ 3 rfl kr (.inl rfl) rfl dc (fun _ _ h => ⟨h.1, mn br h.2⟩) ⟨d, fun _ => p⟩ (fun _ _ _ _ => ko H) (lJ 4 rfl kr (.inl rfl) rfl dc (fun _ _ h => ⟨h.1, mn br h.2⟩) ⟨d, fun _ => p⟩ (fun _ _ _ _ => lW rfl rfl rfl) (lJ 5 rfl kr (.inl rfl) rfl dc (fun _ _ h => ⟨h.1, mn br h.2⟩) ⟨d, fun _ => p⟩ (fun _ _ _ _ => ko z) (lJ 6 rfl kr (.inl rfl) rfl dc (fun _ _ h => ⟨h.1, mn br h.2⟩) ⟨d, fun _ => p⟩ (fun _ _ _ _ => ko H) (lJ 7 rfl kr (.inl rfl) rfl dc (fun _ _ h => ⟨h.1, mn br h.2⟩) ⟨d, fun _ => p⟩ (fun _ _ _ _ => lW rfl rfl rfl) (bS c fun a5 b0 c => uE 8 rfl kr (.inl rfl) rfl dc (fun _ _ h => ⟨h.1, mn br h.2⟩) ⟨d, fun _ => p⟩ (mr (i := (wi0 .i64 (j - 1))) kf.out aF aD rfl rfl t (kI b0) (kF b0)) (fun i9 ⟨_, ⟨j8, rfl, a8⟩, d6, h6⟩ => lJ 9 rfl kr (.inl rfl) rfl dc (fun _ _ h => ⟨h.1, mn br h.2⟩) ⟨d, fun _ => p⟩ (fun l W A P => have s := (P.2 (A.D7 15 [9] kr rfl)); kl rfl (kO (og.hp _) (d6.mono (mE (fun b o F => s.2 b o (Ml F)))) bA aD)) (lJ 10 rfl kr (.inl rfl) rfl dc (fun _ _ h => ⟨h.1, mn br h.2⟩) ⟨d, fun _ => p⟩ (fun _ _ _ _ => ko z) (lJ 11 rfl kr (.inl rfl) rfl dc (fun _ _ h => ⟨h.1, mn br h.2⟩) ⟨d, fun _ => p⟩ (fun _ _ _ _ => ko H) (bS c fun k b1 c => ?_)))))))))))))
       refine uE 12 rfl kr (.inl rfl) rfl dc (fun _ _ h => ⟨h.1, mn br h.2⟩) ⟨d, fun _ => p⟩ (mr (i := j) kf.out aF aD rfl rfl t (kI b1) (kF b1)) (fun j0 ⟨_, ⟨j9, rfl, a9⟩, d7, h7⟩ => lJ 13 rfl kr (.inl rfl) rfl dc (fun _ _ h => ⟨h.1, mn br h.2⟩) ⟨d, fun _ => p⟩ (fun l W A P => have s := (P.2 (A.D7 15 [13] kr rfl)); kl rfl (kO (og.hp _) (d7.mono (mE (fun b o F => s.2 b o (Ml F)))) bA aD)) (bS c fun k3 N c => uE 14 rfl kr (.inl rfl) rfl dc (fun _ _ h => ⟨h.1, mn br h.2⟩) ⟨d, fun _ => p⟩ (mr (i := j) kf.out aF aD rfl rfl t (kI N) (kF N)) (fun j3 ⟨_, ⟨k0, rfl, i2⟩, i0, d4⟩ => ?_)))
       obtain ⟨e3, e6, rfl⟩ := a8.form
       refine XO 15 rfl (ra (x1 := a5) kz n t rfl rfl (kf.mk ⟨(.slice e3 a5.Kids.length e6), rfl, a8⟩) d4 (kF N) aD (fun i6 i4 n R => ?_))
       have d := n.has.kh Sn
       refine ⟨⟨d, fun h => Ah kr h⟩, (bS c fun k4 Q c => uE 16 rfl kr (.inl rfl) rfl dc (fun _ _ h => ⟨h.1, mn br h.2⟩) ⟨d, fun h => Ah kr h⟩ (mr (i := (wi0 .i64 (j - 1))) kf.out aF aD rfl rfl R (kI Q) (kF Q)) (fun j4 ⟨_, ⟨k1, rfl, i3⟩, i1, d5⟩ => ?_))⟩
       obtain ⟨e4, e7, rfl⟩ := a9.form
       refine XO 17 rfl (ra (x1 := (⟨k.Op, k.K, k.kd, k.Kids⟩ : Formula)) kz n R rfl rfl (kf.mk ⟨(.slice e4 k.Kids.length e7), rfl, a9⟩) d5 (kF Q) aD (fun i7 e5 n d2 => ?_))
       have d := n.has.kh Sn
       exact ⟨⟨d, fun h => Ah kr h⟩, (lF kr (kY (ku (kB (Wh H (Wi rfl (Wa (ln ⟨f4, bD _, ((M.set (Int.toNat j) a5).set (Int.toNat (wi0 .i64 (j - 1))) (⟨k.Op, k.K, k.kd, k.Kids⟩ : Formula)), e5, (wi0 .i64 (j - 1)), _, (n.kh St), z, c2, c3, c4, c5, rfl, d2, c⟩))))))))⟩
      refine nf (mO (mO (pZ (ku ?_))))
      obtain rfl := sj c
      exact ⟨B, _, (n.kh St), z, c2, c3, c4, c5, t⟩
     refine bC g (fun a g => ?_) (fun a g => ?_)
     ·refine Xg 4 rfl rfl (cB a) d (ko a3) (Xg 5 rfl rfl (cB a) d (ko K) (Xg 6 rfl rfl (cB a) d (ko G) (bS g fun f7 b2 g => uE 7 rfl kr (.inr ⟨3, true, 21, rfl, rfl, by decide, (cB a)⟩) rfl dc (fun _ _ h => h) d (mr (i := j) kf.out aF aD rfl rfl t (kI b2) (kF b2)) (fun j5 ⟨_, ⟨f5, rfl, e1⟩, d8, h8⟩ => xf 8 rfl rfl (cB a) d (fun _ s => kl rfl (kO (og.hp _) (d8.mono (mE (fun b o F => s.2 b o (Ml F)))) bA aD)) (Xg 9 rfl rfl (cB a) d (ko K) (Xg 10 rfl rfl (cB a) d (ko G) (Xg 11 rfl rfl (cB a) d (lW rfl rfl rfl) (bS g fun f8 b3 g => uE 12 rfl kr (.inr ⟨3, true, 21, rfl, rfl, by decide, (cB a)⟩) rfl dc (fun _ _ h => h) d (mr (i := (wi0 .i64 (j - 1))) kf.out aF aD rfl rfl t (kI b3) (kF b3)) (fun j6 ⟨_, ⟨f6, rfl, e2⟩, d9, h9⟩ => xf 13 rfl rfl (cB a) d (fun _ s => kl rfl (kO (og.hp _) (d9.mono (mE (fun b o F => s.2 b o (Ml F)))) bA aD)) (bS g fun j7 e0 g => Iu 14 rfl rfl (cB a) (zd (f7, f8) n h5 (kH.refl _) (vX.mk kz kz (kf.mk ⟨f5, rfl, e1⟩) (kf.mk ⟨f6, rfl, e2⟩) n.kw) rfl (ta rfl rfl) e0 (fun i8 n => ?_))))))))))))
      have d := n.has.kh (Kr Sn)
      refine ⟨d, (Xg 15 rfl rfl (cB a) d (lW rfl rfl rfl) (X 16 rfl d (lg (cB a) rfl) ?_))⟩
      obtain rfl := sj g
      refine pf kr (a4 _ _ ⟨_, (n.kh St), K, Z, c0, a3, c1, G, rfl⟩)
     refine Xn 4 rfl rfl (cB a) d (Xn 5 rfl rfl (cB a) d (Xn 6 rfl rfl (cB a) d (Xn 7 rfl rfl (cB a) d (Xn 8 rfl rfl (cB a) d (Xn 9 rfl rfl (cB a) d (Xn 10 rfl rfl (cB a) d (Xn 11 rfl rfl (cB a) d (Xn 12 rfl rfl (cB a) d (Xn 13 rfl rfl (cB a) d (Xn 14 rfl rfl (cB a) d (Xn 15 rfl rfl (cB a) d (X 16 rfl d (li (cB a) rfl) ?_))))))))))))
     obtain rfl := sj g
     refine pf kr (a4 _ _ ⟨_, (n.kh St), K, Z, c0, a3, c1, G, rfl⟩)
   rintro h1 E W ⟨U, d0, n, g2, g3, g4, g7, g8, f2⟩ f0
   exact kY (ku (kB (Wh g8 (Wi rfl (Wa (ln ⟨h2, bD _, h1, U, (wi0 .i64 (x + 1)), _, (n.kh St), g2, g3, g4, g7, rfl, f2, f0⟩))))))
  refine nf (mO (mO (pZ (ku (qT ?_)))))
  obtain rfl := sj u
  exact pu rfl ⟨_, _, _, rfl, (n.mI (Kr Sn)), (kH.refl _), Lo.refl, (ST.lO n (nm.mem (Kr Sn))), J, rfl, rfl, c6⟩
theorem qC (x : Value) (a0 : List Formula) (t : LO) (G H a3 : Int) (a5 : Value) (f4 : (Formula × Formula) → Option Int) (r : List Formula) (w : World) {Y : kL} (h0 : nN Y (t ++ []) w) (c0 : lC 58 kf 5 Y x a0 t) (d5 : xX pg0 a5 Y (vX kf kf) (fun (r : Int) => (.int .i64 r)) f4) (hm : nk a0 G H a3 f4 = some r) :
  mj true pg0 367 [x, (.int .i64 G), (.int .i64 H), (.int .i64 a3), a5] w Y (t ++ []) (fun v L1 μ1 => ∃ S1, v = (.tuple #[]) ∧ L1 = (S1 ++ []) ∧ lC 58 kf 5 μ1 x r S1) := by
 refine vt h0 38 func367 rfl (fun p => sg (Wa (ln (tS (lR (np (fun m E W => ∃ D y c Z, ST true (keys (t ++ [])) w W Y (y ++ Z) ∧ E 0 = x ∧ E 1 = (.int .i64 G) ∧ E 2 = (.int .i64 H) ∧ E 3 = (.int .i64 a3) ∧ E 10 = (.int .i64 c) ∧ lC 58 kf 5 Y x D y ∧ mF a3 H G m D c = some r) kT ⟨a0, t, 0, _, (p.kh St), rfl, rfl, rfl, rfl, rfl, c0, hm⟩ ?_))))))
 rintro m E W ⟨D, y, c, Z, p, u, I, J, a4, k, j, a⟩
 cases m with
 | zero => rw [mF] at a; cases a
 | succ c1 =>
  refine kA (sg (Wh k (Wh a4 (Wi rfl (ln (CI a rfl (fun P a => ?_) (fun P a => ?_)))))))
  ·refine kn (kA (lR ?_))
   replace p := p.drew
   have d := p.has.kh Sn
   have n := p.has.kh (Kr Sn)
   refine vI 21 d n kP (lJ 0 rfl kr (.inl rfl) rfl dc (fun _ _ h => ⟨h.1, mn br h.2⟩) ⟨d, fun _ => n⟩ (fun _ _ _ _ => ko u) (lJ 1 rfl kr (.inl rfl) rfl dc (fun _ _ h => ⟨h.1, mn br h.2⟩) ⟨d, fun _ => n⟩ (fun _ _ _ _ => ko I) (lJ 2 rfl kr (.inl rfl) rfl dc (fun _ _ h => ⟨h.1, mn br h.2⟩) ⟨d, fun _ => n⟩ (fun _ _ _ _ => ko k) (lJ 3 rfl kr (.inl rfl) rfl dc (fun _ _ h => ⟨h.1, mn br h.2⟩) ⟨d, fun _ => n⟩ (fun _ _ _ _ => lW rfl rfl rfl) (lJ 4 rfl kr (.inl rfl) rfl dc (fun _ _ h => ⟨h.1, mn br h.2⟩) ⟨d, fun _ => n⟩ (fun _ _ _ _ => ko u) (lJ 5 rfl kr (.inl rfl) rfl dc (fun _ _ h => ⟨h.1, mn br h.2⟩) ⟨d, fun _ => n⟩ (fun _ _ _ _ => ko J) (lJ 6 rfl kr (.inl rfl) rfl dc (fun _ _ h => ⟨h.1, mn br h.2⟩) ⟨d, fun _ => n⟩ (fun _ _ _ _ => ko k) (lJ 7 rfl kr (.inl rfl) rfl dc (fun _ _ h => ⟨h.1, mn br h.2⟩) ⟨d, fun _ => n⟩ (fun _ _ _ _ => lW rfl rfl rfl) (lJ 8 rfl kr (.inl rfl) rfl dc (fun _ _ h => ⟨h.1, mn br h.2⟩) ⟨d, fun _ => n⟩ (fun _ _ _ _ => ko u) (lJ 9 rfl kr (.inl rfl) rfl dc (fun _ _ h => ⟨h.1, mn br h.2⟩) ⟨d, fun _ => n⟩ (fun _ _ _ _ => ko J) (lJ 10 rfl kr (.inl rfl) rfl dc (fun _ _ h => ⟨h.1, mn br h.2⟩) ⟨d, fun _ => n⟩ (fun _ _ _ _ => ko k) (lJ 11 rfl kr (.inl rfl) rfl dc (fun _ _ h => ⟨h.1, mn br h.2⟩) ⟨d, fun _ => n⟩ (fun _ _ _ _ => lW rfl rfl rfl) (bS a fun K T a => uE 12 rfl kr (.inl rfl) rfl dc (fun _ _ h => ⟨h.1, mn br h.2⟩) ⟨d, fun _ => n⟩ (mr (i := (wi0 .i64 (H + c))) kf.out aF aD rfl rfl j (kI T) (kF T)) (fun d6 ⟨_, ⟨e0, rfl, N⟩, b1, c4⟩ => ?_))))))))))))))
   refine lJ 13 rfl kr (.inl rfl) rfl dc (fun _ _ h => ⟨h.1, mn br h.2⟩) ⟨d, fun _ => n⟩ (fun l W q F => have s := (F.2 (q.D7 21 [13] kr rfl)); kl rfl (kO (og.hp _) (b1.mono (mE (fun b o A => s.2 b o (Ml A)))) bA aD)) (lJ 14 rfl kr (.inl rfl) rfl dc (fun _ _ h => ⟨h.1, mn br h.2⟩) ⟨d, fun _ => n⟩ (fun _ _ _ _ => ko u) (lJ 15 rfl kr (.inl rfl) rfl dc (fun _ _ h => ⟨h.1, mn br h.2⟩) ⟨d, fun _ => n⟩ (fun _ _ _ _ => ko I) (lJ 16 rfl kr (.inl rfl) rfl dc (fun _ _ h => ⟨h.1, mn br h.2⟩) ⟨d, fun _ => n⟩ (fun _ _ _ _ => ko k) (lJ 17 rfl kr (.inl rfl) rfl dc (fun _ _ h => ⟨h.1, mn br h.2⟩) ⟨d, fun _ => n⟩ (fun _ _ _ _ => lW rfl rfl rfl) (bS a fun g U a => uE 18 rfl kr (.inl rfl) rfl dc (fun _ _ h => ⟨h.1, mn br h.2⟩) ⟨d, fun _ => n⟩ (mr (i := (wi0 .i64 (G + c))) kf.out aF aD rfl rfl j (kI U) (kF U)) (fun d7 ⟨_, ⟨e1, rfl, Q⟩, b2, c5⟩ => lJ 19 rfl kr (.inl rfl) rfl dc (fun _ _ h => ⟨h.1, mn br h.2⟩) ⟨d, fun _ => n⟩ (fun l W q F => have s := (F.2 (q.D7 21 [19] kr rfl)); kl rfl (kO (og.hp _) (b2.mono (mE (fun b o A => s.2 b o (Ml A)))) bA aD)) (bS a fun e5 z a => uE 20 rfl kr (.inl rfl) rfl dc (fun _ _ h => ⟨h.1, mn br h.2⟩) ⟨d, fun _ => n⟩ (mr (i := (wi0 .i64 (G + c))) kf.out aF aD rfl rfl j (kI z) (kF z)) (fun d8 ⟨_, ⟨e2, rfl, c8⟩, c6, a9⟩ => ?_))))))))
   let L := (⟨g.Op, g.K, g.kd, g.Kids⟩ : Formula)
   obtain ⟨b3, b7, rfl⟩ := N.form
   refine XO 21 rfl (ra (x1 := K) kz p j rfl rfl (kf.mk ⟨(.slice b3 K.Kids.length b7), rfl, N⟩) a9 (kF z) aD (fun d2 d1 p M => ?_))
   have d := p.has.kh Sn
   refine ⟨⟨d, fun h => Ah kr h⟩, (bS a fun e6 B a => uE 22 rfl kr (.inl rfl) rfl dc (fun _ _ h => ⟨h.1, mn br h.2⟩) ⟨d, fun h => Ah kr h⟩ (mr (i := (wi0 .i64 (H + c))) kf.out aF aD rfl rfl M (kI B) (kF B)) (fun d9 ⟨_, ⟨e3, rfl, c9⟩, c7, R⟩ => ?_))⟩
   obtain ⟨b4, b9, rfl⟩ := Q.form
   refine XO 23 rfl (ra (x1 := L) kz p M rfl rfl (kf.mk ⟨(.slice b4 g.Kids.length b9), rfl, Q⟩) R (kF B) aD (fun d3 b5 p O => ?_))
   have d := p.has.kh Sn
   exact ⟨⟨d, fun h => Ah kr h⟩, (lF kr (kY (ku (kB (Wh k (Wi rfl (Wa (ln ⟨c1, bD _, ((D.set (Int.toNat (wi0 .i64 (G + c))) K).set (Int.toNat (wi0 .i64 (H + c))) L), b5, (wi0 .i64 (c + 1)), _, (p.kh St), u, I, J, a4, rfl, O, a⟩))))))))⟩
  refine nf (mO (mO (pZ (ku (qT ?_)))))
  obtain rfl := sj a
  exact pu rfl ⟨_, _, _, rfl, (p.mI (Kr Sn)), (kH.refl _), Lo.refl, (ST.lO p (nm.mem (Kr Sn))), y, rfl, rfl, j⟩
theorem yW (k : Value) (a0 : List Formula) (y : LO) (p D a3 : Int) (B : Value) (U : (Formula × Formula) → Option Int) (r : List Formula) (w : World) {T : kL} (h0 : nN T (y ++ []) w) (c5 : lC 58 kf 5 T k a0 y) (Q : xX pg0 B T (vX kf kf) (fun (r : Int) => (.int .i64 r)) U) (hm : na a0 p D a3 U = some r) :
  mj true pg0 364 [k, (.int .i64 p), (.int .i64 D), (.int .i64 a3), B] w T (y ++ []) (fun v L1 μ1 => ∃ S1, v = (.tuple #[]) ∧ L1 = (S1 ++ []) ∧ lC 58 kf 5 μ1 k r S1) := by
 refine vt h0 58 func364 rfl (fun b => sg (Wm (Wm (Wi rfl (Wa (lr (Wm (Wm (Wi rfl (Wa ?_))))))))))
 refine ln (kA (lR (np (fun m E W => ∃ z x c t I Y, kH T I ∧ Lo (keys (y ++ [])) w T I ∧ ST true (keys (y ++ [])) w W I (x ++ Y) ∧ E 0 = k ∧ E 2 = (.int .i64 D) ∧ E 4 = B ∧ E 10 = (.int .i64 c) ∧ E 11 = (.int .i64 t) ∧ lC 58 kf 5 I k z x ∧ mQ D U m z c t = some r) kT ⟨a0, y, (wi0 .i64 (D - p)), (wi0 .i64 (a3 - D)), T, _, (kH.refl _), Lo.refl, (b.kh St), rfl, rfl, rfl, rfl, rfl, c5, hm⟩ ?_)))
 rintro m E W ⟨z, x, c, t, I, Y, i, d, b, G, j, H, g, u, J, a⟩
 let a2 := (wi0 .i64 (D - c))
 cases m with
 | zero => rw [mQ] at a; cases a
 | succ q =>
  refine kA (sg (Wh g (Wh u (Wi rfl (ln (CI a rfl (fun s a => ?_) (fun s a => ?_)))))))
  ·refine kn (bg (Wh g (Wh u (Wi rfl (ln (CI a rfl (fun A a => ?_) (fun A a => ?_)))))))
   ·refine sg (Wh G (Wh j (Wh g (Wi rfl (Wh j (Wh u (Wh H (bS a fun c6 F a => ?_))))))))
    refine VE (eD b (Cr Qz Cn) call367 (fun o => (qC k z x a2 D t B U _ _ o J (Q.mono i) F)) ?_)
    rintro _ e0 c8 d2 b Z h ⟨b9, K, rfl, P⟩
    obtain rfl := K.symm
    replace b := b.perm (Tr Tn)
    exact ln (kB (Wh g (Wh u (Wi rfl (Wa (kQ (kY (ku ⟨q, bD _, c6, b9, (wi0 .i64 (c - t)), t, c8, _, (i.trans Z), (d.trans h), (b.kh St), G, j, H, rfl, u, P, a⟩))))))))
   refine sg (Wh G (Wh j (Wh g (Wi rfl (Wh j (Wh u (Wi rfl (Wh g (Wi rfl (Wh g (Wh H (bS a fun c7 L a => ?_))))))))))))
   refine VE (eD b (Cr Qz Cn) call367 (fun o => (qC k z x a2 (wi0 .i64 ((wi0 .i64 (D + t)) - c)) c B U _ _ o J (Q.mono i) L)) ?_)
   rintro _ e1 c9 d3 b a4 l ⟨c0, M, rfl, R⟩
   obtain rfl := M.symm
   replace b := b.perm (Tr Tn)
   exact ln (kB (Wh u (Wh g (Wi rfl (Wa (kQ (kY (ku ⟨q, bD _, c7, c0, c, (wi0 .i64 (t - c)), c9, _, (i.trans a4), (d.trans l), (b.kh St), G, j, H, g, rfl, R, a⟩))))))))
  refine nf (mO (mO (pZ (ku (kB (Wh G (Wh j (Wh g (Wi rfl (Wh j (Wh g (Wh H (bS a fun d9 O a => ?_)))))))))))))
  refine VE (eD b (Cr Qz Cn) call367 (fun o => (qC k z x a2 D c B U _ _ o J (Q.mono i) O)) ?_)
  rintro _ e2 e4 d4 b a5 n ⟨c1, N, rfl, b7⟩
  obtain rfl := N.symm
  replace b := b.perm (Tr Tn)
  refine kQ (qT ?_)
  obtain rfl := sj a
  exact pu rfl ⟨_, _, _, rfl, (b.mI (Kr Sn)), (i.trans a5), (d.trans n), (ST.lO b (nm.mem (Kr Sn))), c1, rfl, rfl, b7⟩
set_option maxHeartbeats 1000000 in
theorem wY (t6 : (List Formula) → Int → Int → Int → ((Formula × Formula) → Option Int) → Option (List Formula)) (s6 : ∀ (t : Value) (a0 : List Formula) (c : LO) (z : Int) (M : Int) (B : Int) (D : Value) (f4 : (Formula × Formula) → Option Int) (r : List Formula) (w : World) {U : kL} (h0 : nN U (c ++ []) w) (a5 : lC 58 kf 5 U t a0 c) (c6 : xX pg0 D U (vX kf kf) (fun (r : Int) => (.int .i64 r)) f4), t6 a0 z M B f4 = some r → mj false pg0 357 [t, (.int .i64 z), (.int .i64 M), (.int .i64 B), D] w U (c ++ []) (fun v L1 μ1 => ∃ S1, v = (.tuple #[]) ∧ L1 = (S1 ++ []) ∧ lC 58 kf 5 μ1 t r S1)) (t : Value) (a0 : List Formula) (c : LO) (z M B : Int) (D : Value) (f4 : (Formula × Formula) → Option Int) (r : List Formula) (w : World) {U : kL} (h0 : nN U (c ++ []) w) (a5 : lC 58 kf 5 U t a0 c) (c6 : xX pg0 D U (vX kf kf) (fun (r : Int) => (.int .i64 r)) f4) (hm : pw t6 a0 z M B f4 = some r) :
  mj false pg0 357 [t, (.int .i64 z), (.int .i64 M), (.int .i64 B), D] w U (c ++ []) (fun v L1 μ1 => ∃ S1, v = (.tuple #[]) ∧ L1 = (S1 ++ []) ∧ lC 58 kf 5 μ1 t r S1) := by
 refine vt h0 220 func357 rfl (fun d => kA (sg (Wm (Wm (Wi rfl (Wi rfl (ln (CI hm rfl (fun ae hm => ?_) (fun ae hm => ?_)))))))))
 ·refine sg (Wm (Wa (lr (Wm (Wa (ln (kA (lR (np (fun m E W => ∃ T a9 o3, ST false (keys (c ++ [])) w W U (c ++ o3) ∧ E 0 = t ∧ E 1 = (.int .i64 z) ∧ E 4 = D ∧ E 10 = (.int .i64 T) ∧ E 11 = (.int .i64 a9) ∧ lP a0 z f4 m T a9 = some r) kT ⟨M, B, _, (d.kh St), rfl, rfl, rfl, rfl, rfl, hm⟩ ?_)))))))))
  rintro m E W ⟨T, a9, o3, d, e4, h8, k3, h9, k4, y⟩
  cases m with
  | zero => rw [lP] at y; cases y
  | succ t5 =>
   refine kA (sg (Wh h9 (Wh k4 (Wi rfl (ln (CI y rfl (fun w9 y => ?_) (fun w9 y => ?_)))))))
   ·refine kn (bg (Wh h9 (Wh k4 (Wi rfl (V (tP (k' := .i64) (a := (wi0 .i64 (T + a9))) eB fj rfl) (V (DR (a := (IntKind.u64.wrap (wi0 .i64 (T + a9)))) (b := 1) rfl rfl dc) (V (tP (k' := .u64) (a := (Int.fdiv (IntKind.u64.wrap (wi0 .i64 (T + a9))) (2 ^ min (Int.toNat 1) (IntKind.bits .u64)))) fj eB rfl) (Wa (ln (kA ?_))))))))))
    let e3 := (Int.fdiv (IntKind.u64.wrap (wi0 .i64 (T + a9))) (2 ^ min (Int.toNat 1) (IntKind.bits .u64)))
    replace d := d.drew
    have n := d.has.kh (Kr Sn)
    refine lm n kP (X 0 rfl n (ko k3) (X 1 rfl n (ko e4) (X 2 rfl n (ko rfl) (bS y fun aa n1 y => XQ 3 rfl n (mr (i := (wi0 .i64 e3)) kf.out aF aD rfl rfl a5 (kI n1) (kF n1)) (fun di ⟨_, ⟨z7, rfl, x7⟩, x4, bp⟩ => XH 4 rfl n (fun _ s => kl rfl (kO (og.hp _) (x4.mono (mE (fun b o A => s.2 b o (Ml A)))) bA aD)) (X 5 rfl n (ko e4) (X 6 rfl n (ko h8) (bS y fun ab n2 y => XQ 7 rfl n (mr (i := z) kf.out aF aD rfl rfl a5 (kI n2) (kF n2)) (fun dj ⟨_, ⟨z8, rfl, x8⟩, x5, bq⟩ => XH 8 rfl n (fun _ s => kl rfl (kO (og.hp _) (x5.mono (mE (fun b o A => s.2 b o (Ml A)))) bA aD)) (bS y fun dk x6 y => XE 9 rfl (zd (aa, ab) d c6 (kH.refl _) (vX.mk kz kz (kf.mk ⟨z7, rfl, x7⟩) (kf.mk ⟨z8, rfl, x8⟩) d.kw) rfl (ta rfl rfl) x6 (fun dg d => ?_))))))))))))
    have n := d.has.kh (Kr Sn)
    refine ⟨n, (X 10 rfl n (lW rfl rfl rfl) (lF kr (ku (CI y rfl (fun x0 y => ?_) (fun x0 y => ?_)))))⟩
    ·exact kB (Wm (Wi rfl (Wa (kQ (kY (ku ⟨t5, bD _, (wi0 .i64 ((wi0 .i64 e3) + 1)), a9, _, (d.kh St), e4, h8, k3, rfl, k4, y⟩))))))
    exact kB (Wm (Wa (kQ (kY (ku ⟨t5, bD _, T, (wi0 .i64 e3), _, (d.kh St), e4, h8, k3, h9, rfl, y⟩)))))
   refine nf (mO (mO (pZ (ku (kA (sg (Wh h8 (Wa (ln (CJ y (fun k5 E W => ∃ f7 o4, ST false (keys (c ++ [])) w W U (f7 ++ o4) ∧ lC 58 kf 5 U t k5 f7) (fun k5 x3 => ?_) ?_))))))))))
   ·refine lR (np (fun m E W => ∃ i0 f8 R k6, ST false (keys (c ++ [])) w W U (f8 ++ k6) ∧ E 0 = t ∧ E 10 = (.int .i64 T) ∧ E 13 = (.int .i64 R) ∧ lC 58 kf 5 U t i0 f8 ∧ mM T m i0 R = some k5) kT ⟨a0, c, z, _, (d.kh St), e4, h9, rfl, a5, x3⟩ ?_)
    rintro m E W ⟨i0, f8, R, k6, d, c7, l7, c0, d1, u⟩
    cases m with
    | zero => rw [mM] at u; cases u
    | succ y2 =>
     refine kA (sg (Wh c0 (Wh l7 (Wi rfl (Wi rfl (ln (CI u rfl (fun p1 u => ?_) (fun p1 u => ?_))))))))
     ·refine kn (kA (lR ?_))
      replace d := d.drew
      have n := d.has.kh Sn
      have p := d.has.kh (Kr Sn)
      refine vI 15 n p kP (lJ 0 rfl kr (.inl rfl) rfl dc (fun _ _ h => ⟨h.1, mn (by rfl) h.2⟩) ⟨n, fun _ => p⟩ (fun _ _ _ _ => ko c7) (lJ 1 rfl kr (.inl rfl) rfl dc (fun _ _ h => ⟨h.1, mn (by rfl) h.2⟩) ⟨n, fun _ => p⟩ (fun _ _ _ _ => ko c0) (lJ 2 rfl kr (.inl rfl) rfl dc (fun _ _ h => ⟨h.1, mn (by rfl) h.2⟩) ⟨n, fun _ => p⟩ (fun _ _ _ _ => ko c7) (lJ 3 rfl kr (.inl rfl) rfl dc (fun _ _ h => ⟨h.1, mn (by rfl) h.2⟩) ⟨n, fun _ => p⟩ (fun _ _ _ _ => ko c0) (lJ 4 rfl kr (.inl rfl) rfl dc (fun _ _ h => ⟨h.1, mn (by rfl) h.2⟩) ⟨n, fun _ => p⟩ (fun _ _ _ _ => lW rfl rfl rfl) (lJ 5 rfl kr (.inl rfl) rfl dc (fun _ _ h => ⟨h.1, mn (by rfl) h.2⟩) ⟨n, fun _ => p⟩ (fun _ _ _ _ => ko c7) (lJ 6 rfl kr (.inl rfl) rfl dc (fun _ _ h => ⟨h.1, mn (by rfl) h.2⟩) ⟨n, fun _ => p⟩ (fun _ _ _ _ => ko c0) (lJ 7 rfl kr (.inl rfl) rfl dc (fun _ _ h => ⟨h.1, mn (by rfl) h.2⟩) ⟨n, fun _ => p⟩ (fun _ _ _ _ => lW rfl rfl rfl) (bS u fun i3 j5 u => uE 8 rfl kr (.inl rfl) rfl dc (fun _ _ h => ⟨h.1, mn (by rfl) h.2⟩) ⟨n, fun _ => p⟩ (mr (i := (wi0 .i64 (R + 1))) kf.out aF aD rfl rfl d1 (kI j5) (kF j5)) (fun bt ⟨_, ⟨cl, rfl, i7⟩, r3, af⟩ => lJ 9 rfl kr (.inl rfl) rfl dc (fun _ _ h => ⟨h.1, mn (by rfl) h.2⟩) ⟨n, fun _ => p⟩ (fun l W F hs => have s := (hs.2 (F.D7 15 [9] kr rfl)); kl rfl (kO (og.hp _) (r3.mono (mE (fun b o A => s.2 b o (Ml A)))) bA aD)) (lJ 10 rfl kr (.inl rfl) rfl dc (fun _ _ h => ⟨h.1, mn (by rfl) h.2⟩) ⟨n, fun _ => p⟩ (fun _ _ _ _ => ko c7) (lJ 11 rfl kr (.inl rfl) rfl dc (fun _ _ h => ⟨h.1, mn (by rfl) h.2⟩) ⟨n, fun _ => p⟩ (fun _ _ _ _ => ko c0) (bS u fun Y j6 u => ?_)))))))))))))
      refine uE 12 rfl kr (.inl rfl) rfl dc (fun _ _ h => ⟨h.1, mn (by rfl) h.2⟩) ⟨n, fun _ => p⟩ (mr (i := R) kf.out aF aD rfl rfl d1 (kI j6) (kF j6)) (fun bu ⟨_, ⟨cm, rfl, i8⟩, r4, ag⟩ => lJ 13 rfl kr (.inl rfl) rfl dc (fun _ _ h => ⟨h.1, mn (by rfl) h.2⟩) ⟨n, fun _ => p⟩ (fun l W F hs => have s := (hs.2 (F.D7 15 [13] kr rfl)); kl rfl (kO (og.hp _) (r4.mono (mE (fun b o A => s.2 b o (Ml A)))) bA aD)) (bS u fun cw e9 u => uE 14 rfl kr (.inl rfl) rfl dc (fun _ _ h => ⟨h.1, mn (by rfl) h.2⟩) ⟨n, fun _ => p⟩ (mr (i := R) kf.out aF aD rfl rfl d1 (kI e9) (kF e9)) (fun bv ⟨_, ⟨cn, rfl, ar⟩, an, q2⟩ => ?_)))
      obtain ⟨t7, u6, rfl⟩ := i7.form
      refine XO 15 rfl (ra (x1 := i3) kz d d1 rfl rfl (kf.mk ⟨(.slice t7 i3.Kids.length u6), rfl, i7⟩) q2 (kF e9) aD (fun be bc d i5 => ?_))
      have n := d.has.kh Sn
      refine ⟨⟨n, fun h => Ah kr h⟩, (bS u fun cx f0 u => uE 16 rfl kr (.inl rfl) rfl dc (fun _ _ h => ⟨h.1, mn (by rfl) h.2⟩) ⟨n, fun h => Ah kr h⟩ (mr (i := (wi0 .i64 (R + 1))) kf.out aF aD rfl rfl i5 (kI f0) (kF f0)) (fun bw ⟨_, ⟨co, rfl, au⟩, ao, q3⟩ => ?_))⟩
      obtain ⟨t8, u7, rfl⟩ := i8.form
      refine XO 17 rfl (ra (x1 := (⟨Y.Op, Y.K, Y.kd, Y.Kids⟩ : Formula)) kz d i5 rfl rfl (kf.mk ⟨(.slice t8 Y.Kids.length u7), rfl, i8⟩) q3 (kF f0) aD (fun bf u1 d o9 => ?_))
      have n := d.has.kh Sn
      exact ⟨⟨n, fun h => Ah kr h⟩, (lF kr (kY (ku (kB (Wh c0 (Wi rfl (Wa (ln ⟨y2, bD _, ((i0.set (Int.toNat R) i3).set (Int.toNat (wi0 .i64 (R + 1))) (⟨Y.Op, Y.K, Y.kd, Y.Kids⟩ : Formula)), u1, (wi0 .i64 (R + 1)), _, (d.kh St), c7, l7, rfl, o9, u⟩))))))))⟩
     refine nf (mO (mO (pZ (ku ?_))))
     have q := sj u; subst q
     exact ⟨f8, _, (d.kh St), d1⟩
   rintro dh E W ⟨f7, o4, d, x9⟩ x2
   refine kM (kU ?_)
   have q := sj x2; subst q
   exact pu rfl ⟨_, _, _, rfl, (d.mI (Kr Sn)), (kH.refl _), Lo.refl, (ST.lO d (nm.mem (Kr Sn))), f7, rfl, rfl, x9⟩
 refine kS (Wm (Wm (Wi rfl (Wi rfl (ln (CI hm rfl (fun p2 hm => ?_) (fun p2 hm => ?_)))))))
 ·refine sg (Wm (Wa (lr (Wm (Wa (ln (kA (lR (np (fun m E W => ∃ G N k7, ST false (keys (c ++ [])) w W U (c ++ k7) ∧ E 0 = t ∧ E 2 = (.int .i64 M) ∧ E 4 = D ∧ E 14 = (.int .i64 G) ∧ E 15 = (.int .i64 N) ∧ lQ a0 M f4 m G N = some r) kT ⟨z, M, _, (d.kh St), rfl, rfl, rfl, rfl, rfl, hm⟩ ?_)))))))))
  rintro m E W ⟨G, N, k7, d, c8, d5, f9, d6, g0, j⟩
  let j1 := (IntKind.u64.wrap (wi0 .i64 (G + N)))
  let b8 := (Int.fdiv j1 (2 ^ min (Int.toNat 1) (IntKind.bits .u64)))
  cases m with
  | zero => rw [lQ] at j; cases j
  | succ n3 =>
   refine kA (sg (Wh d6 (Wh g0 (Wi rfl (ln (CI j rfl (fun p3 j => ?_) (fun p3 j => ?_)))))))
   ·refine kn (bg (Wh d6 (Wh g0 (Wi rfl (V (tP (k' := .i64) (a := (wi0 .i64 (G + N))) eB fj rfl) (V (DR (a := j1) (b := 1) rfl rfl dc) (V (tP (k' := .u64) (a := (Int.fdiv j1 (2 ^ min (Int.toNat 1) (IntKind.bits .u64)))) fj eB rfl) (Wa (ln (kA ?_))))))))))
    replace d := d.drew
    have n := d.has.kh (Kr Sn)
    refine lm n kP (X 0 rfl n (ko f9) (X 1 rfl n (ko c8) (X 2 rfl n (ko d5) (bS j fun y8 j7 j => XQ 3 rfl n (mr (i := M) kf.out aF aD rfl rfl a5 (kI j7) (kF j7)) (fun bx ⟨_, ⟨y4, rfl, s7⟩, r5, ah⟩ => XH 4 rfl n (fun _ s => kl rfl (kO (og.hp _) (r5.mono (mE (fun b o A => s.2 b o (Ml A)))) bA aD)) (X 5 rfl n (ko c8) (X 6 rfl n (ko rfl) (bS j fun y9 j8 j => XQ 7 rfl n (mr (i := (wi0 .i64 b8)) kf.out aF aD rfl rfl a5 (kI j8) (kF j8)) (fun bz ⟨_, ⟨y5, rfl, s8⟩, r6, ai⟩ => XH 8 rfl n (fun _ s => kl rfl (kO (og.hp _) (r6.mono (mE (fun b o A => s.2 b o (Ml A)))) bA aD)) (bS j fun cg s1 j => XE 9 rfl (zd (y8, y9) d c6 (kH.refl _) (vX.mk kz kz (kf.mk ⟨y4, rfl, s7⟩) (kf.mk ⟨y5, rfl, s8⟩) d.kw) rfl (ta rfl rfl) s1 (fun bh d => ?_))))))))))))
    have n := d.has.kh (Kr Sn)
    refine ⟨n, (X 10 rfl n (lW rfl rfl rfl) (X 11 rfl n (nT rfl) (lF kr (ku (CI j rfl (fun p4 j => ?_) (fun p4 j => ?_))))))⟩
    ·exact kB (Wm (Wi rfl (Wa (kQ (kY (ku ⟨n3, bD _, (wi0 .i64 ((wi0 .i64 b8) + 1)), N, _, (d.kh St), c8, d5, f9, rfl, g0, j⟩))))))
    exact kB (Wm (Wa (kQ (kY (ku ⟨n3, bD _, G, (wi0 .i64 b8), _, (d.kh St), c8, d5, f9, d6, rfl, j⟩)))))
   refine nf (mO (mO (pZ (ku (kA (sg (Wh d5 (Wa (ln (CJ j (fun i1 E W => ∃ d3 k8, ST false (keys (c ++ [])) w W U (d3 ++ k8) ∧ lC 58 kf 5 U t i1 d3) (fun i1 q7 => ?_) ?_))))))))))
   ·refine lR (np (fun m E W => ∃ e2 d4 Q k9, ST false (keys (c ++ [])) w W U (d4 ++ k9) ∧ E 0 = t ∧ E 14 = (.int .i64 G) ∧ E 17 = (.int .i64 Q) ∧ lC 58 kf 5 U t e2 d4 ∧ mL G m e2 Q = some i1) kT ⟨a0, c, M, _, (d.kh St), c8, d6, rfl, a5, q7⟩ ?_)
    rintro m E W ⟨e2, d4, Q, k9, d, c9, l8, c1, b6, x⟩
    cases m with
    | zero => rw [mL] at x; cases x
    | succ y3 =>
     refine kA (sg (Wh c1 (Wh l8 (Wi rfl (ln (CI x rfl (fun p5 x => ?_) (fun p5 x => ?_)))))))
     ·refine kn (kA (lR ?_))
      replace d := d.drew
      have n := d.has.kh Sn
      have p := d.has.kh (Kr Sn)
      refine vI 15 n p kP (lJ 0 rfl kr (.inl rfl) rfl dc (fun _ _ h => ⟨h.1, mn (by rfl) h.2⟩) ⟨n, fun _ => p⟩ (fun _ _ _ _ => ko c9) (lJ 1 rfl kr (.inl rfl) rfl dc (fun _ _ h => ⟨h.1, mn (by rfl) h.2⟩) ⟨n, fun _ => p⟩ (fun _ _ _ _ => ko c1) (lJ 2 rfl kr (.inl rfl) rfl dc (fun _ _ h => ⟨h.1, mn (by rfl) h.2⟩) ⟨n, fun _ => p⟩ (fun _ _ _ _ => ko c9) (lJ 3 rfl kr (.inl rfl) rfl dc (fun _ _ h => ⟨h.1, mn (by rfl) h.2⟩) ⟨n, fun _ => p⟩ (fun _ _ _ _ => ko c1) (lJ 4 rfl kr (.inl rfl) rfl dc (fun _ _ h => ⟨h.1, mn (by rfl) h.2⟩) ⟨n, fun _ => p⟩ (fun _ _ _ _ => lW rfl rfl rfl) (lJ 5 rfl kr (.inl rfl) rfl dc (fun _ _ h => ⟨h.1, mn (by rfl) h.2⟩) ⟨n, fun _ => p⟩ (fun _ _ _ _ => ko c9) (lJ 6 rfl kr (.inl rfl) rfl dc (fun _ _ h => ⟨h.1, mn (by rfl) h.2⟩) ⟨n, fun _ => p⟩ (fun _ _ _ _ => ko c1) (lJ 7 rfl kr (.inl rfl) rfl dc (fun _ _ h => ⟨h.1, mn (by rfl) h.2⟩) ⟨n, fun _ => p⟩ (fun _ _ _ _ => lW rfl rfl rfl) (bS x fun i4 j9 x => uE 8 rfl kr (.inl rfl) rfl dc (fun _ _ h => ⟨h.1, mn (by rfl) h.2⟩) ⟨n, fun _ => p⟩ (mr (i := (wi0 .i64 (Q - 1))) kf.out aF aD rfl rfl b6 (kI j9) (kF j9)) (fun ca ⟨_, ⟨cp, rfl, i9⟩, r7, aj⟩ => lJ 9 rfl kr (.inl rfl) rfl dc (fun _ _ h => ⟨h.1, mn (by rfl) h.2⟩) ⟨n, fun _ => p⟩ (fun l W F hs => have s := (hs.2 (F.D7 15 [9] kr rfl)); kl rfl (kO (og.hp _) (r7.mono (mE (fun b o A => s.2 b o (Ml A)))) bA aD)) (lJ 10 rfl kr (.inl rfl) rfl dc (fun _ _ h => ⟨h.1, mn (by rfl) h.2⟩) ⟨n, fun _ => p⟩ (fun _ _ _ _ => ko c9) (lJ 11 rfl kr (.inl rfl) rfl dc (fun _ _ h => ⟨h.1, mn (by rfl) h.2⟩) ⟨n, fun _ => p⟩ (fun _ _ _ _ => ko c1) (bS x fun Z k0 x => ?_)))))))))))))
      refine uE 12 rfl kr (.inl rfl) rfl dc (fun _ _ h => ⟨h.1, mn (by rfl) h.2⟩) ⟨n, fun _ => p⟩ (mr (i := Q) kf.out aF aD rfl rfl b6 (kI k0) (kF k0)) (fun cb ⟨_, ⟨cq, rfl, j0⟩, r8, ak⟩ => lJ 13 rfl kr (.inl rfl) rfl dc (fun _ _ h => ⟨h.1, mn (by rfl) h.2⟩) ⟨n, fun _ => p⟩ (fun l W F hs => have s := (hs.2 (F.D7 15 [13] kr rfl)); kl rfl (kO (og.hp _) (r8.mono (mE (fun b o A => s.2 b o (Ml A)))) bA aD)) (bS x fun cy f1 x => uE 14 rfl kr (.inl rfl) rfl dc (fun _ _ h => ⟨h.1, mn (by rfl) h.2⟩) ⟨n, fun _ => p⟩ (mr (i := Q) kf.out aF aD rfl rfl b6 (kI f1) (kF f1)) (fun cc ⟨_, ⟨cr, rfl, av⟩, ap, q4⟩ => ?_)))
      obtain ⟨t9, u8, rfl⟩ := i9.form
      refine XO 15 rfl (ra (x1 := i4) kz d b6 rfl rfl (kf.mk ⟨(.slice t9 i4.Kids.length u8), rfl, i9⟩) q4 (kF f1) aD (fun bi bd d i6 => ?_))
      have n := d.has.kh Sn
      refine ⟨⟨n, fun h => Ah kr h⟩, (bS x fun cz f2 x => uE 16 rfl kr (.inl rfl) rfl dc (fun _ _ h => ⟨h.1, mn (by rfl) h.2⟩) ⟨n, fun h => Ah kr h⟩ (mr (i := (wi0 .i64 (Q - 1))) kf.out aF aD rfl rfl i6 (kI f2) (kF f2)) (fun cd ⟨_, ⟨cs, rfl, aw⟩, aq, q5⟩ => ?_))⟩
      obtain ⟨u0, u9, rfl⟩ := j0.form
      refine XO 17 rfl (ra (x1 := (⟨Z.Op, Z.K, Z.kd, Z.Kids⟩ : Formula)) kz d i6 rfl rfl (kf.mk ⟨(.slice u0 Z.Kids.length u9), rfl, j0⟩) q5 (kF f2) aD (fun bj u2 d p0 => ?_))
      have n := d.has.kh Sn
      exact ⟨⟨n, fun h => Ah kr h⟩, (lF kr (kY (ku (kB (Wh c1 (Wi rfl (Wa (ln ⟨y3, bD _, ((e2.set (Int.toNat Q) i4).set (Int.toNat (wi0 .i64 (Q - 1))) (⟨Z.Op, Z.K, Z.kd, Z.Kids⟩ : Formula)), u2, (wi0 .i64 (Q - 1)), _, (d.kh St), c9, l8, rfl, p0, x⟩))))))))⟩
     refine nf (mO (mO (pZ (ku ?_))))
     have q := sj x; subst q
     exact ⟨d4, _, (d.kh St), b6⟩
   rintro bs E W ⟨d3, k8, d, s9⟩ q6
   refine kM (kU ?_)
   have q := sj q6; subst q
   exact pu rfl ⟨_, _, _, rfl, (d.mI (Kr Sn)), (kH.refl _), Lo.refl, (ST.lO d (nm.mem (Kr Sn))), d3, rfl, rfl, s9⟩
 let g5 := (IntKind.u64.wrap (wi0 .i64 (z + B)))
 refine kg (Wm (Wm (Wi rfl (V (tP (k' := .i64) (a := (wi0 .i64 (z + B))) eB fj rfl) (V (DR (a := g5) (b := 1) rfl rfl dc) (V (tP (k' := .u64) (a := (Int.fdiv g5 (2 ^ min (Int.toNat 1) (IntKind.bits .u64)))) fj eB rfl) (Wa (lr ?_))))))))
 let P := (wi0 .i64 (Int.fdiv g5 (2 ^ min (Int.toNat 1) (IntKind.bits .u64))))
 let e5 := (wi0 .i64 (P + M))
 refine Wm (Wm (Wi rfl (Wa (lr (Wa (Wa (ln (kA (CJ hm (fun i2 E W => ∃ l0, ST false (keys (c ++ [])) w W U (c ++ l0) ∧ E 0 = t ∧ E 1 = (.int .i64 z) ∧ E 2 = (.int .i64 M) ∧ E 3 = (.int .i64 B) ∧ E 4 = D ∧ E 18 = (.int .i64 P) ∧ E 19 = (.int .i64 e5) ∧ E 20 = (.int .i64 i2.1) ∧ E 21 = (.int .i64 i2.2)) (fun i2 b5 => ?_) ?_)))))))))
 ·refine sg (Wm (Wm (Wi rfl (ln (CI b5 rfl (fun q1 b5 => ?_) (fun q1 b5 => ?_))))))
  ·refine sg (Wm (Wm (Wi rfl (Wa (ln (kB (Wm (Wa (ln ?_)))))))))
   have q := sj b5; subst q
   exact ⟨_, (d.kh St), rfl, rfl, rfl, rfl, rfl, rfl, rfl, rfl, rfl⟩
  refine sg (Wm (Wa (ln (kB (Wm (Wa (ln ?_)))))))
  have q := sj b5; subst q
  exact ⟨_, (d.kh St), rfl, rfl, rfl, rfl, rfl, rfl, rfl, rfl, rfl⟩
 rintro ⟨z0, z1⟩ E W ⟨l0, d, v0, v1, v2, v3, v4, v5, l9, v6, v7⟩ q8
 refine sg (Wh l9 (Wi rfl (Wa (ln (kA (lR (np (fun m E W => ∃ g K l1, ST false (keys (c ++ [])) w W U (c ++ l1) ∧ E 0 = t ∧ E 1 = (.int .i64 z) ∧ E 2 = (.int .i64 M) ∧ E 3 = (.int .i64 B) ∧ E 4 = D ∧ E 18 = (.int .i64 P) ∧ E 19 = (.int .i64 e5) ∧ E 20 = (.int .i64 g) ∧ E 21 = (.int .i64 K) ∧ E 22 = (.int .i64 (wi0 .i64 (e5 - 1))) ∧ lz a0 z B M f4 t6 m g K = some r) kT ⟨z0, z1, _, (d.kh St), v0, v1, v2, v3, v4, v5, l9, v6, v7, rfl, q8⟩ ?_)))))))
 rintro m E W ⟨g, K, l1, d, c2, d7, c3, d8, d0, d9, g1, b1, g2, g3, k⟩
 let g6 := (IntKind.u64.wrap (wi0 .i64 (g + K)))
 let a3 := (Int.fdiv g6 (2 ^ min (Int.toNat 1) (IntKind.bits .u64)))
 let j2 := (wi0 .i64 a3)
 let a2 := (wi0 .i64 (e5 - g))
 cases m with
 | zero => rw [lz] at k; cases k
 | succ n4 =>
  refine kA (sg (Wh b1 (Wh g2 (Wi rfl (ln (CI k rfl (fun p6 k => ?_) (fun p6 k => ?_)))))))
  ·refine kn (bg (Wh b1 (Wh g2 (Wi rfl (V (tP (k' := .i64) (a := (wi0 .i64 (g + K))) eB fj rfl) (V (DR (a := g6) (b := 1) rfl rfl dc) (V (tP (k' := .u64) (a := (Int.fdiv g6 (2 ^ min (Int.toNat 1) (IntKind.bits .u64)))) fj eB rfl) (Wa (ln (kA ?_))))))))))
   replace d := d.drew
   have n := d.has.kh (Kr Sn)
   refine lm n kP (X 0 rfl n (ko d0) (X 1 rfl n (ko c2) (X 2 rfl n (ko g3) (X 3 rfl n (ko rfl) (X 4 rfl n (lW rfl rfl rfl) (bS k fun z2 k1 k => XQ 5 rfl n (mr (i := (wi0 .i64 ((wi0 .i64 (e5 - 1)) - j2))) kf.out aF aD rfl rfl a5 (kI k1) (kF k1)) (fun ce ⟨_, ⟨y6, rfl, t0⟩, r9, al⟩ => XH 6 rfl n (fun _ s => kl rfl (kO (og.hp _) (r9.mono (mE (fun b o A => s.2 b o (Ml A)))) bA aD)) (X 7 rfl n (ko c2) (X 8 rfl n (ko rfl) (bS k fun z3 k2 k => XQ 9 rfl n (mr (i := (wi0 .i64 a3)) kf.out aF aD rfl rfl a5 (kI k2) (kF k2)) (fun cf ⟨_, ⟨y7, rfl, t1⟩, s0, am⟩ => XH 10 rfl n (fun _ s => kl rfl (kO (og.hp _) (s0.mono (mE (fun b o A => s.2 b o (Ml A)))) bA aD)) (bS k fun ch s2 k => ?_))))))))))))
   refine XE 11 rfl (zd (z2, z3) d c6 (kH.refl _) (vX.mk kz kz (kf.mk ⟨y6, rfl, t0⟩) (kf.mk ⟨y7, rfl, t1⟩) d.kw) rfl (ta rfl rfl) s2 (fun bk d => ?_))
   have n := d.has.kh (Kr Sn)
   refine ⟨n, (X 12 rfl n (lW rfl rfl rfl) (X 13 rfl n (nT rfl) (lF kr (ku (CI k rfl (fun p7 k => ?_) (fun p7 k => ?_))))))⟩
   ·exact kB (Wm (Wi rfl (Wa (kQ (kY (ku ⟨n4, bD _, (wi0 .i64 (j2 + 1)), K, _, (d.kh St), c2, d7, c3, d8, d0, d9, g1, rfl, g2, g3, k⟩))))))
   exact kB (Wm (Wa (kQ (kY (ku ⟨n4, bD _, g, j2, _, (d.kh St), c2, d7, c3, d8, d0, d9, g1, b1, rfl, g3, k⟩)))))
  refine nf (mO (mO (pZ (ku (sg (Wh g1 (Wh b1 (Wi rfl (Wa (ln (kA (CJ k (fun n8 E W => ∃ b7 a4 l2, kH U a4 ∧ Lo (keys (c ++ [])) w U a4 ∧ ST false (keys (c ++ [])) w W a4 (b7 ++ l2) ∧ E 0 = t ∧ E 1 = (.int .i64 z) ∧ E 3 = (.int .i64 B) ∧ E 4 = D ∧ E 18 = (.int .i64 P) ∧ E 20 = (.int .i64 g) ∧ E 24 = (.int .i64 a2) ∧ lC 58 kf 5 a4 t n8 b7) (fun n8 r2 => ?_) ?_))))))))))))
  ·refine sg (Wh b1 (Wh c3 (Wi rfl (Wm (LJ r2 (fun n9 E W => ∃ l6, ST false (keys (c ++ [])) w W U (c ++ l6) ∧ E 0 = t ∧ E 1 = (.int .i64 z) ∧ E 2 = (.int .i64 M) ∧ E 3 = (.int .i64 B) ∧ E 4 = D ∧ E 18 = (.int .i64 P) ∧ E 20 = (.int .i64 g) ∧ E 24 = (.int .i64 a2) ∧ E 185 = (.bool n9)) 4 ?_ (fun n9 b4 f6 => ?_))))))
   ·rintro de E W ⟨l6, d, h4, m8, w7, m9, h5, n0, h6, h7, w8⟩ a8
    refine ln (CI a8 w8 (fun q0 a8 => ?_) (fun q0 a8 => ?_))
    ·refine kB (Wh h4 (Wh h6 (Wh w7 (Wh h7 (Wh h5 (bS a8 fun ck s5 a8 => ?_))))))
     refine VE (eD d (Cr Qz Cn) call364 (fun hh => mj.lZ (yW t a0 c g M a2 D f4 _ _ hh a5 (c6.mono (kH.refl _)) s5)) ?_)
     rintro _ cv z5 ba d o2 bl ⟨u5, e8, rfl, t4⟩
     obtain rfl := e8.symm
     replace d := d.perm (Tr Tn)
     refine ln ?_
     have q := sj a8; subst q
     exact ⟨u5, z5, _, o2, bl, (d.kh St), h4, m8, m9, h5, n0, h6, h7, t4⟩
    refine kn ?_
    have q := sj a8; subst q
    exact ⟨c, U, _, (kH.refl _), Lo.refl, (d.kh St), h4, m8, m9, h5, n0, h6, h7, a5⟩
   refine bC b4 (fun J b4 => ?_) (fun J b4 => ?_)
   ·refine ug J (ko c3) (ug J (ko rfl) (ug J (lW rfl rfl rfl) (V (lg (cB J) rfl) ?_)))
    have q := sj b4; subst q
    exact f6 _ _ ⟨_, (d.kh St), c2, d7, c3, d8, d0, d9, b1, rfl, rfl⟩
   refine un J (un J (un J (V (li (cB J) rfl) ?_)))
   have q := sj b4; subst q
   exact f6 _ _ ⟨_, (d.kh St), c2, d7, c3, d8, d0, d9, b1, rfl, rfl⟩
  rintro y0 E W ⟨b7, a4, l2, c4, L, d, m0, g4, m1, m2, g7, e0, m3, j3⟩ q9
  refine kA (CJ q9 (fun n6 E W => ∃ b9 c5 l3, kH a4 c5 ∧ Lo (keys (c ++ [])) w a4 c5 ∧ ST false (keys (c ++ [])) w W c5 (b9 ++ l3) ∧ E 0 = t ∧ E 3 = (.int .i64 B) ∧ E 4 = D ∧ E 18 = (.int .i64 P) ∧ E 24 = (.int .i64 a2) ∧ lC 58 kf 5 c5 t n6 b9) (fun n6 r1 => ?_) ?_)
  ·refine sg (Wh g4 (Wh e0 (Wi rfl (Wm (LJ r1 (fun n7 E W => ∃ l5, ST false (keys (c ++ [])) w W a4 (b7 ++ l5) ∧ E 0 = t ∧ E 1 = (.int .i64 z) ∧ E 3 = (.int .i64 B) ∧ E 4 = D ∧ E 18 = (.int .i64 P) ∧ E 20 = (.int .i64 g) ∧ E 24 = (.int .i64 a2) ∧ E 199 = (.bool n7)) 4 ?_ (fun n7 b3 f5 => ?_))))))
   ·rintro db E W ⟨l5, d, h1, w4, m6, h2, h3, w5, m7, w6⟩ a7
    refine ln (CI a7 w6 (fun p9 a7 => ?_) (fun p9 a7 => ?_))
    ·refine kB (Wh h1 (Wh w4 (Wh w5 (Wh h3 (Wh h2 (bS a7 fun cj s4 a7 => ?_))))))
     refine VE (eD d (Cr Qz Cn) call357 (fun hh => (s6 t y0 b7 z g P D f4 _ _ hh j3 (c6.mono c4) s4)) ?_)
     rintro _ cu z4 az d o1 aE ⟨u4, e7, rfl, t3⟩
     obtain rfl := e7.symm
     replace d := d.perm (Tr Tn)
     refine ln ?_
     have q := sj a7; subst q
     exact ⟨u4, z4, _, o1, aE, (d.kh St), h1, m6, h2, h3, m7, t3⟩
    refine kn ?_
    have q := sj a7; subst q
    exact ⟨b7, a4, _, (kH.refl _), Lo.refl, (d.kh St), h1, m6, h2, h3, m7, j3⟩
   refine bC b3 (fun I b3 => ?_) (fun I b3 => ?_)
   ·refine ug I (ko e0) (ug I (ko g7) (ug I (lW rfl rfl rfl) (V (lg (cB I) rfl) ?_)))
    have q := sj b3; subst q
    exact f5 _ _ ⟨_, (d.kh St), m0, g4, m1, m2, g7, e0, m3, rfl⟩
   refine un I (un I (un I (V (li (cB I) rfl) ?_)))
   have q := sj b3; subst q
   exact f5 _ _ ⟨_, (d.kh St), m0, g4, m1, m2, g7, e0, m3, rfl⟩
  rintro y1 E W ⟨b9, c5, l3, d2, O, d, m4, g8, m5, g9, e1, j4⟩ r0
  refine sg (Wh g9 (Wh e1 (Wi rfl (Wm (LJ r0 (fun n5 E W => ∃ l4, ST false (keys (c ++ [])) w W c5 (b9 ++ l4) ∧ E 0 = t ∧ E 3 = (.int .i64 B) ∧ E 4 = D ∧ E 18 = (.int .i64 P) ∧ E 24 = (.int .i64 a2) ∧ E 213 = (.bool n5)) 4 ?_ (fun n5 b2 f3 => ?_))))))
  ·rintro da E W ⟨l4, d, v8, v9, w0, w1, w2, w3⟩ a6
   refine ln (CI a6 w3 (fun p8 a6 => ?_) (fun p8 a6 => ?_))
   ·refine kB (Wh v8 (Wh w1 (Wh w2 (Wh v9 (Wh w0 (bS a6 fun ci s3 a6 => ?_))))))
    refine VE (eD d (Cr Qz Cn) call357 (fun hh => (s6 t y1 b9 P a2 B D f4 _ _ hh j4 (c6.mono (c4.trans d2)) s3)) ?_)
    rintro _ ct df ay d o0 ad ⟨u3, e6, rfl, t2⟩
    obtain rfl := e6.symm
    replace d := d.perm (Tr Tn)
    refine kQ (qT ?_)
    have q := sj a6; subst q
    exact pu rfl ⟨_, _, _, rfl, (d.mI (Kr Sn)), ((c4.trans d2).trans o0), ((L.trans O).trans ad), (ST.lO d (nm.mem (Kr Sn))), u3, rfl, rfl, t2⟩
   refine lE (qT ?_)
   have q := sj a6; subst q
   exact pu rfl ⟨_, _, _, rfl, (d.mI (Kr Sn)), (c4.trans d2), (L.trans O), (ST.lO d (nm.mem (Kr Sn))), b9, rfl, rfl, j4⟩
  refine bC b2 (fun H b2 => ?_) (fun H b2 => ?_)
  ·refine ug H (ko e1) (ug H (ko g8) (ug H (lW rfl rfl rfl) (V (lg (cB H) rfl) ?_)))
   have q := sj b2; subst q
   exact f3 _ _ ⟨_, (d.kh St), m4, g8, m5, g9, e1, rfl⟩
  refine un H (un H (un H (V (li (cB H) rfl) ?_)))
  have q := sj b2; subst q
  exact f3 _ _ ⟨_, (d.kh St), m4, g8, m5, g9, e1, rfl⟩
theorem qH : ∀ (n : Nat) (c : Value) (k : List Formula) (a : LO) (t : Int) (u : Int) (x : Int) (g : Value) (y : (Formula × Formula) → Option Int) (r : List Formula) (w : World) {i : kL} (H : nN i (a ++ []) w) (B : lC 58 kf 5 i c k a) (D : xX pg0 g i (vX kf kf) (fun (r : Int) => (.int .i64 r)) y) (_ : mg n k t u x y = some r),
  mj false pg0 357 [c, (.int .i64 t), (.int .i64 u), (.int .i64 x), g] w i (a ++ []) (fun v z G => ∃ j, v = (.tuple #[]) ∧ z = (j ++ []) ∧ lC 58 kf 5 G c r j)
 | 0 => by intros; rename_i h; simp only [mg] at h; cases h
 | n + 1 => wY (mg n) (qH n)
theorem zm (a : Value) (a0 : List Formula) (c : LO) (Q : Int) (x : Value) (f2 : (Formula × Formula) → Option Int) (r : List Formula) (w : World) {μ0 : kL} (h0 : nN μ0 (c ++ []) w) (k4 : lC 58 kf 5 μ0 a a0 c) (c7 : xX pg0 x μ0 (vX kf kf) (fun (r : Int) => (.int .i64 r)) f2) (hm : rz a0 Q f2 = some r) :
  mj false pg0 338 [a, (.int .i64 Q), x] w μ0 (c ++ []) (fun v L1 μ1 => ∃ S1, v = (.tuple #[]) ∧ L1 = (S1 ++ []) ∧ lC 58 kf 5 μ1 a r S1) := by
 refine vt h0 63 func338 rfl (fun b => sg (Wa (lr (Wm (Wa (Wa (ln (kA (lR (np (fun m E W => ∃ d4 d0 d5 O d6 f1, kH μ0 d6 ∧ Lo (keys (c ++ [])) w μ0 d6 ∧ ST false (keys (c ++ [])) w W d6 (d0 ++ f1) ∧ E 0 = a ∧ E 1 = (.int .i64 Q) ∧ E 2 = x ∧ E 6 = (.int .i64 20) ∧ E 7 = (.int .i64 d5) ∧ E 8 = (.int .i64 O) ∧ lC 58 kf 5 d6 a d4 d0 ∧ mD Q f2 m d4 d5 O = some r) kT ⟨a0, c, 0, 20, μ0, _, (kH.refl _), Lo.refl, (b.kh St), rfl, rfl, rfl, rfl, rfl, rfl, k4, hm⟩ ?_))))))))))
 rintro m E W ⟨d4, d0, d5, O, d6, f1, z, l, b, b4, b5, b6, d7, f4, b7, h1, i⟩
 cases m with
 | zero => rw [mD] at i; cases i
 | succ k5 =>
  refine kA (sg (Wh b7 (Wh b5 (Wi rfl (ln (CI i rfl (fun i4 i => ?_) (fun i4 i => ?_)))))))
  ·refine kn (bg (Wh b4 (Wh f4 (Wh b7 (Wh b6 (bS i fun k6 i7 i => ?_))))))
   refine VE (eD b (Cr Qz Cn) call356 (fun s => (sv a d4 d0 d5 O x f2 _ _ s h1 (c7.mono z) i7)) ?_)
   rintro _ m4 k8 l8 b g0 A ⟨k1, c8, rfl, j0⟩
   obtain rfl := c8.symm
   replace b := b.perm (Tr Tn)
   refine lr (Wh b7 (Wa (ln (kB (Wh b7 (Wh d7 (Wi rfl (Wa (kQ (kY ?_))))))))))
   exact ku ⟨k5, bD _, k6, k1, O, (wi0 .i64 (O + 20)), k8, _, (z.trans g0), (l.trans A), (b.kh St), b4, b5, b6, d7, rfl, rfl, j0, i⟩
  refine nf (mO (mO (pZ (ku (sg (Wh b4 (Wh f4 (Wh b5 (Wh b6 (bS i fun k7 i8 i => ?_))))))))))
  refine VE (eD b (Cr Qz Cn) call356 (fun s => (sv a d4 d0 d5 Q x f2 _ _ s h1 (c7.mono z) i8)) ?_)
  rintro _ m5 P l9 b a5 F ⟨k2, c9, rfl, j3⟩
  obtain rfl := c9.symm
  replace b := b.perm (Tr Tn)
  refine ln (tS (CJ i (fun d8 E W => ∃ R a9 f3, kH P a9 ∧ Lo (keys (c ++ [])) w P a9 ∧ ST false (keys (c ++ [])) w W a9 (R ++ f3) ∧ lC 58 kf 5 a9 a d8 R) (fun d8 i6 => ?_) ?_))
  ·refine lR (np (fun m E W => ∃ a2 I j k e0, kH P k ∧ Lo (keys (c ++ [])) w P k ∧ ST false (keys (c ++ [])) w W k (I ++ e0) ∧ E 0 = a ∧ E 1 = (.int .i64 Q) ∧ E 2 = x ∧ E 6 = (.int .i64 j) ∧ lC 58 kf 5 k a a2 I ∧ mC Q f2 m a2 j = some d8) kT ⟨k7, k2, 20, P, _, (kH.refl _), Lo.refl, (b.kh St), b4, b5, b6, d7, j3, i6⟩ ?_)
   rintro m E W ⟨a2, I, j, k, e0, B, d, b, h6, e4, h7, b3, d1, t⟩
   cases m with
   | zero => rw [mC] at t; cases t
   | succ j6 =>
    refine kA (sg (Wh b3 (Wh e4 (Wi rfl (ln (CI t rfl (fun f7 t => ?_) (fun f7 t => ?_)))))))
    ·refine kn (bg (Wh b3 (Wi rfl (Wa (Wa (ln (kA (CJ t (fun a4 E W => ∃ J y e1, kH k y ∧ Lo (keys (c ++ [])) w k y ∧ ST false (keys (c ++ [])) w W y (J ++ e1) ∧ E 0 = a ∧ E 1 = (.int .i64 Q) ∧ E 2 = x ∧ E 6 = (.int .i64 j) ∧ E 7 = (.int .i64 a4.2) ∧ lC 58 kf 5 y a a4.1 J) (fun a4 g4 => ?_) ?_))))))))
     ·refine lR (np (fun m E W => ∃ a3 K M D H e3, kH k H ∧ Lo (keys (c ++ [])) w k H ∧ ST false (keys (c ++ [])) w W H (K ++ e3) ∧ E 0 = a ∧ E 1 = (.int .i64 Q) ∧ E 2 = x ∧ E 6 = (.int .i64 j) ∧ E 7 = (.int .i64 M) ∧ E 8 = (.int .i64 D) ∧ lC 58 kf 5 H a a3 K ∧ mP Q j f2 m a3 M D = some a4) kT ⟨a2, I, 0, (wi0 .i64 (2 * j)), k, _, (kH.refl _), Lo.refl, (b.kh St), h6, e4, h7, b3, rfl, rfl, d1, g4⟩ ?_)
      rintro m E W ⟨a3, K, M, D, H, e3, N, h, b, c2, c3, c4, Y, c5, Z, d3, g⟩
      cases m with
      | zero => rw [mP] at g; cases g
      | succ j7 =>
       refine kA (sg (Wh Z (Wh c3 (Wi rfl (ln (CI g rfl (fun f9 g => ?_) (fun f9 g => ?_)))))))
       ·refine kn (bg (Wh c2 (Wh c5 (Wh c5 (Wh Y (Wi rfl (Wh Z (Wh c4 (bS g fun j8 g8 g => ?_)))))))))
        refine VE (eD b (Cr Qz Cn) call357 (fun s => ((qH kT) a a3 K M (wi0 .i64 (M + j)) D x f2 _ _ s d3 (c7.mono (((z.trans a5).trans B).trans N)) g8)) ?_)
        rintro _ l6 k0 l1 b f0 q ⟨h5, a7, rfl, h3⟩
        obtain rfl := a7.symm
        replace b := b.perm (Tr Tn)
        refine lr (Wh Z (Wa (ln (kB (Wh Z (Wh Y (Wi rfl (Wi rfl (Wa (kQ ?_))))))))))
        exact kY (ku ⟨j7, bD _, j8, h5, D, (wi0 .i64 (D + (wi0 .i64 (2 * j)))), k0, _, (N.trans f0), (h.trans q), (b.kh St), c2, c3, c4, Y, rfl, rfl, h3, g⟩)
       refine nf (mO (mO (pZ (ku ?_))))
       obtain rfl := sj g
       exact ⟨K, H, _, N, h, (b.kh St), c2, c3, c4, Y, c5, d3⟩
     rintro ⟨j4, e7⟩ E W ⟨J, y, e1, b0, n, b, b9, U, c0, c1, e5, d2⟩ g2
     refine kA (CJ g2 (fun e6 E W => ∃ T G e2, kH y G ∧ Lo (keys (c ++ [])) w y G ∧ ST false (keys (c ++ [])) w W G (T ++ e2) ∧ E 0 = a ∧ E 1 = (.int .i64 Q) ∧ E 2 = x ∧ E 6 = (.int .i64 j) ∧ lC 58 kf 5 G a e6 T) (fun e6 u => ?_) ?_)
     ·refine sg (Wh e5 (Wh c1 (Wi rfl (Wa (lr (Wm (Wh U (Wi rfl (ln ?_)))))))))
      refine CI u rfl (fun f8 u => ?_) (fun f8 u => ?_)
      ·refine kB (Wh b9 (Wh e5 (Wm (Wh U (Wh c0 (bS u fun l4 g7 u => ?_))))))
       refine VE (eD b (Cr Qz Cn) call357 (fun s => ((qH kT) a j4 J e7 (wi0 .i64 (e7 + j)) Q x f2 _ _ s d2 (c7.mono (((z.trans a5).trans B).trans b0)) g7)) ?_)
       rintro _ l5 j9 l0 b e9 p ⟨h4, a6, rfl, h2⟩
       obtain rfl := a6.symm
       replace b := b.perm (Tr Tn)
       refine ln ?_
       obtain rfl := sj u
       exact ⟨h4, j9, _, e9, p, (b.kh St), b9, U, c0, c1, h2⟩
      refine kn ?_
      obtain rfl := sj u
      exact ⟨J, y, _, (kH.refl _), Lo.refl, (b.kh St), b9, U, c0, c1, d2⟩
     rintro j5 E W ⟨T, G, e2, e8, o, b, h8, h9, i0, i1, g9⟩ g3
     exact kB (Wh i1 (Wi rfl (Wa (kQ (kY (ku ⟨j6, bD _, j5, T, (wi0 .i64 (j * 2)), G, _, ((B.trans b0).trans e8), ((d.trans n).trans o), (b.kh St), h8, h9, i0, rfl, g9, g3⟩))))))
    refine nf (mO (mO (pZ (ku ?_))))
    obtain rfl := sj t
    exact ⟨I, k, _, B, d, (b.kh St), d1⟩
  rintro m3 E W ⟨R, a9, f3, g1, L, b, i9⟩ i5
  refine qT ?_
  obtain rfl := sj i5
  exact pu rfl ⟨_, _, _, rfl, (b.mI (Kr Sn)), ((z.trans a5).trans g1), ((l.trans F).trans L), (ST.lO b (nm.mem (Kr Sn))), R, rfl, rfl, i9⟩
theorem yR (c : Value) (k : List Formula) (a : LO) (i : Value) (u : (Formula × Formula) → Option Int) (r : List Formula) (w : World) {t : kL} (J : nN t (a ++ []) w) (j : lC 58 kf 5 t c k a) (x : xX pg0 i t (vX kf kf) (fun (r : Int) => (.int .i64 r)) u) (hm : pg k u = some r) :
  mj false pg0 321 [c, i] w t (a ++ []) (fun v I K => ∃ B, v = (.tuple #[]) ∧ I = (B ++ []) ∧ lC 58 kf 5 K c r B) := by
 refine vt J 9 func321 rfl (fun b => kB (Wm (Wm (V (xq aF rfl j) (Wm (bS hm fun Q H hm => ?_))))))
 refine VE (eD b (Cr Qz Cn) call338 (fun h => (zm c k a (k.length : Int) i u _ _ h j (x.mono (kH.refl _)) H)) ?_)
 rintro _ T U M b y d ⟨D, g, rfl, z⟩
 obtain rfl := g.symm
 replace b := b.perm (Tr Tn)
 refine kQ (qT ?_)
 obtain rfl := sj hm
 exact pu rfl ⟨_, _, _, rfl, (b.mI (Kr Sn)), y, d, (ST.lO b (nm.mem (Kr Sn))), D, rfl, rfl, z⟩
theorem rU (t : Nat) (j : Value) (G : List Int) (i : LO) (h : Int) (r : (Bool × (List Int))) (w : World) {μ0 : kL} (s : nN μ0 ((t, Ob #[j] 239) :: (i ++ [])) w) (y : kC 5 (mc .u8) 1 j G i) (hm : ox G h = some r) :
  lH true pg0 181 [(.pointer (some ⟨t, 0, none⟩)), (.int .i64 h)] w ((t, Ob #[j] 239) :: (i ++ [])) (fun v L1 W' => ∃ n S2, v = (.bool (r.1)) ∧ L1 = ((t, Ob #[n] 239) :: (S2 ++ [])) ∧ kC 5 (mc .u8) 1 n r.2 S2) := by
 refine yN s 38 func181 rfl (fun d => sg (Wa (lS (Wm (V (xI fY rfl rfl) (Wm (Vg rfl rfl (ko rfl) (Vg rfl rfl (lW rfl rfl rfl) (V (li rfl rfl) ?_)))))))))
 refine ln (CI hm rfl (fun a9 hm => ?_) (fun a9 hm => ?_))
 ·refine sg (Wa (lt (kU ?_)))
  obtain rfl := sj hm
  exact lB (v := (.bool false)) rfl rfl ⟨_, _, rfl, (d.mI (Kb (Kr Sn))), j, i, rfl, rfl, y⟩
 refine kn (kA (lR (np (fun m E W => ∃ c z U u a0, ST true (keys ((t, Ob #[j] 239) :: (i ++ []))) w W μ0 ((t, Ob #[z] 239) :: (u ++ a0)) ∧ E 0 = (.pointer (some ⟨t, 0, none⟩)) ∧ E 1 = (.int .i64 c) ∧ kC 5 (mc .u8) 1 z U u ∧ qx m c U = some r) kT ⟨h, j, G, i, _, (d.kh St), rfl, rfl, y, hm⟩ ?_)))
 rintro m E W ⟨c, z, U, u, a0, d, x, K, T, g⟩
 cases m with
 | zero => rw [qx] at g; cases g
 | succ q =>
  refine kA (sg (Wh K (Wi rfl (ln (CI g rfl (fun o g => ?_) (fun o g => ?_))))))
  ·refine kn (kA (lR (kB (Wh x (Wh x (Wn (Wf zz (VB d Mh rfl rfl isAgg53 (Wh K (V (tP (k' := .i64) (a := c) eB jY rfl) (V (I6 (k := .u8) (a := (IntKind.u8.wrap c)) (b := 128) (v := (.int .u8 (IntKind.u8.wrap (BitVec.ofInt (IntKind.bits .u8) (IntKind.u8.wrap c) ||| BitVec.ofInt (IntKind.bits .u8) 128).toNat))) rfl rfl dc rfl) (VE (kV (cs := [(.int .u8 (IntKind.u8.wrap (BitVec.ofInt (IntKind.bits .u8) (IntKind.u8.wrap c) ||| BitVec.ofInt (IntKind.bits .u8) 128).toNat))].toArray) d (nh rfl) (nc dE sizeOf5 zeroValue5) (fun c3 p d => ?_))))))))))))))
   replace d := d.perm (Nr (Qb (Qb Qz)) Nz)
   refine bS g fun Q Y g => VE (ny (enc := (mc .u8)) (v := z) (vs := (.slice (some ⟨p, 0, none⟩) 1 1)) (R := u) d (fun _ => rfl) dc (E5 _) dE sS.1 sS.2.1 rfl sS.2.2.1 sS.2.2.2 rfl rfl T (Sl.lit (enc := (mc .u8)) (l := [(IntKind.u8.wrap (BitVec.ofInt (IntKind.bits .u8) (IntKind.u8.wrap c) ||| BitVec.ofInt (IntKind.bits .u8) 128).toNat)]) (fun _ => rfl) rfl nb rfl (d.at_ (Ma Mh))) Y (fun A c1 a2 d M => Wn (Wf zz ?_)))
   obtain ⟨B, H, rfl⟩ := M.form
   replace d := d.perm (Nb (Pr (Pb Pz)) Nz)
   refine VO (kJ (.slice B Q.length H) (#[(.slice B Q.length H)]) d rfl rfl jW oc nb rfl (fun F d => kQ (kY (ku ?_))))
   replace d := d.kh (Kb (Kr (Db St)))
   exact kB (Wh K (V (DR (a := c) (b := 7) rfl rfl dc) (Wa (ln ⟨q, bD _, (Int.fdiv c (2 ^ min (Int.toNat 7) (IntKind.bits .i64))), (.slice B Q.length H), Q, a2, _, (d.kh St), x, rfl, M, g⟩))))
  refine nf (mO (mO (pZ (ku (sg (Wh x (Wh x (Wn (Wf zz (VB d Mh rfl rfl isAgg53 (Wh K (V (tP (k' := .i64) (a := c) eB jY rfl) (VE (kV (cs := [(.int .u8 (IntKind.u8.wrap c))].toArray) d (nh rfl) (nc dE sizeOf5 zeroValue5) (fun L a5 d => ?_)))))))))))))))
  replace d := d.perm (Nr (Qb (Qb Qz)) Nz)
  refine bS g fun J Z g => VE (ny (enc := (mc .u8)) (v := z) (vs := (.slice (some ⟨a5, 0, none⟩) 1 1)) (R := u) d (fun _ => rfl) dc (E5 _) dE sS.1 sS.2.1 rfl sS.2.2.1 sS.2.2.2 rfl rfl T (Sl.lit (enc := (mc .u8)) (l := [(IntKind.u8.wrap c)]) (fun _ => rfl) rfl nb rfl (d.at_ (Ma Mh))) Z (fun O c2 a3 d N => Wn (Wf zz ?_)))
  obtain ⟨D, I, rfl⟩ := N.form
  replace d := d.perm (Nb (Pr (Pb Pz)) Nz)
  refine VO (kJ (.slice D J.length I) (#[(.slice D J.length I)]) d rfl rfl jW oc nb rfl (fun P d => ln ?_))
  replace d := d.kh (Kb (Kr (Db St)))
  refine sg (Wa (lt ?_))
  obtain rfl := sj g
  exact lB (v := (.bool true)) rfl rfl ⟨_, _, rfl, (d.mI (Kb (Kr Sn))), (.slice D J.length I), a3, rfl, rfl, N⟩
theorem FC (g : Nat) (c : Value) (j : List Int) (a : LO) (u : Value) (D : List Int) (r : (Bool × (List Int))) (w : World) {Z : kL} (h : nN Z ((g, Ob #[c] 239) :: (a ++ [])) w) (i : kC 5 (mc .u8) 1 c j a) (k : Sl (Pl (mc .u8)) 1 Z u D) (hm : xT j D = some r) :
  lH true pg0 241 [(.pointer (some ⟨g, 0, none⟩)), u] w ((g, Ob #[c] 239) :: (a ++ [])) (fun v L1 W' => ∃ U M, v = (.bool (r.1)) ∧ L1 = ((g, Ob #[U] 239) :: (M ++ [])) ∧ kC 5 (mc .u8) 1 U r.2 M) := by
 refine yN h 25 func241 rfl (fun b => sg (Wa (lS (Wm (V (xI fY rfl rfl) (Wm (Vg rfl rfl (ko rfl) (Vg rfl rfl (lT dE rfl k) (Vg rfl rfl (lW rfl rfl rfl) ?_)))))))))
 refine V (li rfl rfl) (ln (CI hm rfl (fun Q hm => ?_) (fun Q hm => ?_)))
 ·refine sg (Wa (lt (kU ?_)))
  obtain rfl := sj hm
  exact lB (v := (.bool false)) rfl rfl ⟨_, _, rfl, (b.mI (Kb (Kr Sn))), c, a, rfl, rfl, i⟩
 refine kg (Wm (Wm (V (lT dE rfl k) (bS hm fun p T hm => ?_))))
 refine VE (eM b (Cb Pz (Cr Qz Cn)) call181 (fun l _ => (rU g c j a (D.length : Int) _ _ l i T)) ?_)
 rintro _ v8 n a3 b H m d ⟨Y, K, t, rfl, I⟩
 obtain rfl := t.symm
 replace b := b.perm (Tb (Tr Tn))
 refine lr (Wm (Wm (Wn (Wf zz (VB b Mh rfl rfl isAgg53 (Wm ?_))))))
 replace b := b.perm (Nr (Qb Qz) Nz)
 refine bS hm fun B G hm => VE (ny (enc := (mc .u8)) (v := Y) (vs := u) (R := K) b (fun _ => rfl) dc (E5 _) dE sS.1 sS.2.1 rfl sS.2.2.1 sS.2.2.2 rfl rfl I (k.mono (Pl.mono _) (H.trans b.kw)) G (fun a4 o J b z => Wn (Wf zz ?_)))
 obtain ⟨x, y, rfl⟩ := z.form
 replace b := b.perm (Nb (Pr Pz) Nz)
 refine VO (kJ (.slice x B.length y) (#[(.slice x B.length y)]) b rfl rfl jW oc nb rfl (fun a5 b => lr (Wa (lt ?_))))
 obtain rfl := sj hm
 exact lB (v := (.bool true)) rfl rfl ⟨_, _, rfl, (b.mI (Kb (Kr Sn))), (.slice x B.length y), J, rfl, rfl, z⟩
theorem yY (j : Nat) (c : Value) (t : List Int) (a : LO) (J : ByteArray) (r : (Bool × (List Int))) (w : World) {Z : kL} (s : nN Z ((j, Ob #[c] 239) :: (a ++ [])) w) (k : kC 5 (mc .u8) 1 c t a) (hm : uu t J = some r) :
  lH true pg0 183 [(.pointer (some ⟨j, 0, none⟩)), (.string J)] w ((j, Ob #[c] 239) :: (a ++ [])) (fun v L1 W' => ∃ n S2, v = (.bool (r.1)) ∧ L1 = ((j, Ob #[n] 239) :: (S2 ++ [])) ∧ kC 5 (mc .u8) 1 n r.2 S2) := by
 refine yN s 17 func183 rfl (fun b => sg (Wa (lr (Wm (V (DT fY rfl rfl) (Wm (Vg rfl rfl (ko rfl) (bS hm fun r1 a4 hm => N3 rfl rfl (Eg b call57 (vm J _ _  a4) (fun W3 b => V (lg rfl rfl) ?_))))))))))
 refine Wm (LJ hm (fun B E W => ∃ z x D I, kH Z D ∧ ST true (keys ((j, Ob #[c] 239) :: (a ++ []))) w W D ((j, Ob #[z] 239) :: (x ++ I)) ∧ E 4 = (.bool false) ∧ E 16 = (.bool B.1) ∧ kC 5 (mc .u8) 1 z B.2 x) 5 ?_ (fun B g y => ?_))
 ·rintro ⟨p, c0⟩ E W ⟨z, x, D, I, F, b, R, a3, T⟩ M
  refine Wg a3 (lt ?_)
  obtain rfl := sj M
  exact lB (v := (.bool p)) rfl rfl ⟨_, _, rfl, (b.mI (Kb (Kr Sn))), z, x, rfl, rfl, T⟩
 refine bC g (fun i g => ?_) (fun i g => ?_)
 ·refine ug i (ko rfl) (ug i (ko rfl) (bS g fun a5 N g => vn i (IB b cJ dE jY rfl N (fun P o c3 b G l U L => bS g fun c1 Q g => ?_))))
  refine vn i (eM b (Cb Pz (Cr Qz Cn)) call241 (fun A h => (FC j c t a o a5 _ _ A k (U.mono (Pl.mono _) h) Q)) ?_)
  rintro _ c2 q O b H m d ⟨a9, a2, u, rfl, Y⟩
  obtain rfl := u.symm
  replace b := b.perm (Tb (Tr Tn))
  refine V (lg (cB i) rfl) ?_
  obtain rfl := sj g
  exact y _ _ ⟨a9, a2, q, _, (G.trans H), (b.kh St), rfl, rfl, Y⟩
 refine un i (un i (un i (un i (V (li (cB i) rfl) ?_))))
 obtain rfl := sj g
 exact y _ _ ⟨c, a, Z, _, (kH.refl _), (b.kh St), rfl, rfl, k⟩
theorem vA (c : Nat) (i : Value) (D : List Int) (a : LO) (x : kd) (r : (Bool × (List Int))) (w : World) {μ0 : kL} (h0 : nN μ0 ((c, Ob #[i] 239) :: (a ++ [])) w) (y : kC 5 (mc .u8) 1 i D a) (hm : qy D x = some r) :
  lH true pg0 182 [(.pointer (some ⟨c, 0, none⟩)), (.agg (ki x).toArray)] w ((c, Ob #[i] 239) :: (a ++ [])) (fun v L1 W' => ∃ p S2, v = (.bool (r.1)) ∧ L1 = ((c, Ob #[p] 239) :: (S2 ++ [])) ∧ kC 5 (mc .u8) 1 p r.2 S2) := by
 let l := ((c, Ob #[i] 239) :: (a ++ []))
 refine yN h0 23 func182 rfl (fun b => sg (VE (kX b rfl (fun W2 m b => Wa (lr (Wm (V (DT fY rfl rfl) (Wm (Vg rfl rfl (kl rfl (kx b.has Mh (ki x) rfl bo aG)) (bS hm fun r3 c4 hm => N3 rfl rfl (Eg b jO (sM x _ _  c4) (fun W5 b => ?_))))))))))))
 refine V (lg rfl rfl) (Wm (LJ hm (fun T E W => ∃ z u B a0, kH μ0 B ∧ ST true (keys l) w W B ((m, Ol (ki x) 50) :: ((c, Ob #[z] 239) :: (u ++ a0))) ∧ E 0 = (.pointer (some ⟨c, 0, none⟩)) ∧ E 3 = (.pointer (some ⟨m, 0, none⟩)) ∧ E 4 = (.bool false) ∧ E 16 = (.bool T.1) ∧ kC 5 (mc .u8) 1 z T.2 u) 5 ?_ (fun T t K => ?_)))
 ·rintro ⟨e6, c5⟩ E W ⟨z, u, B, a0, d2, b, c0, c1, a3, c2, N⟩ q
  refine Wh c2 (LJ q (fun Q E W => ∃ M I U a2, kH B U ∧ ST true (keys l) w W U ((c, Ob #[M] 239) :: (I ++ a2)) ∧ E 4 = (.bool false) ∧ E 22 = (.bool Q.1) ∧ kC 5 (mc .u8) 1 M Q.2 I) 5 ?_ (fun Q k J => ?_))
  ·rintro ⟨c6, e1⟩ E W ⟨M, I, U, a2, d3, b, e0, c3, F⟩ s
   refine Wg c3 (lt ?_)
   obtain rfl := sj s
   exact lB (v := (.bool c6)) rfl rfl ⟨_, _, rfl, (b.mI (Kb (Kr Sn))), M, I, rfl, rfl, F⟩
  refine bC k (fun g k => ?_) (fun g k => ?_)
  ·refine ug g (ko c0) (ug g (ky xV c1) (ug g (kl rfl (kK b.has Mh rfl bT)) (bS k fun e2 A k => ?_)))
   refine vn g (eM b (Cb (Pb Pz) (Cr (Qb Qz) Cn)) call183 (fun h _ => (yY c z c5 u x.kq _ _ h N A)) ?_)
   rintro _ e4 d0 d6 b Y n d ⟨c8, P, G, rfl, L⟩
   obtain rfl := G.symm
   replace b := b.perm (Tb (Tr Tn))
   refine V (lg (cB g) rfl) ?_
   obtain rfl := sj k
   exact J _ _ ⟨c8, P, d0, _, Y, (b.kh (Kb (Kr (Db St)))), a3, rfl, L⟩
  refine un g (un g (un g (un g (V (li (cB g) rfl) ?_))))
  obtain rfl := sj k
  exact J _ _ ⟨z, u, B, _, (kH.refl _), (b.kh (Db St)), a3, rfl, N⟩
 refine bC t (fun j t => ?_) (fun j t => ?_)
 ·refine ug j (ko rfl) (ug j (ky ub rfl) (ug j (kl rfl (kK b.has Mh rfl bT)) (bS t fun e3 a9 t => ?_)))
  refine vn j (eM b (Cb (Pb Pz) (Cr (Qb Qz) Cn)) call183 (fun h _ => (yY c i D a x.kj _ _ h y a9)) ?_)
  rintro _ e5 d1 d7 b Z o d ⟨c9, R, H, rfl, O⟩
  obtain rfl := H.symm
  replace b := b.perm (Tb (Tr Tn))
  refine V (lg (cB j) rfl) ?_
  obtain rfl := sj t
  exact K _ _ ⟨c9, R, d1, _, Z, (b.kh (Sb (Pb (Pr Pz)) St)), rfl, rfl, rfl, rfl, O⟩
 refine un j (un j (un j (un j (V (li (cB j) rfl) ?_))))
 obtain rfl := sj t
 exact K _ _ ⟨i, a, μ0, _, (kH.refl _), (b.kh St), rfl, rfl, rfl, rfl, y⟩
theorem DN (s : (List Int) → Formula → Option (List Int)) (f2 : ∀ (a : Nat) (k : Value) (B : List Int) (g : LO) (j : Formula) (u : Value) (r : List Int) (w : World) {μ0 : kL} (h0 : nN μ0 ((a, Ob #[k] 239) :: (g ++ [])) w) (T : kC 5 (mc .u8) 1 k B g) (t : Sl kf 5 μ0 u j.Kids), s B j = some r → lH false pg0 365 [(.pointer (some ⟨a, 0, none⟩)), (.agg #[(.int .i64 j.Op), (.int .i64 j.K), (.string j.kd.kj), (.string j.kd.kq), u])] w ((a, Ob #[k] 239) :: (g ++ [])) (fun v L1 W' => ∃ m S2, v = (.tuple #[]) ∧ L1 = ((a, Ob #[m] 239) :: (S2 ++ [])) ∧ kC 5 (mc .u8) 1 m r S2)) (a : Nat) (k : Value) (B : List Int) (g : LO) (j : Formula) (u : Value) (r : List Int) (w : World) {μ0 : kL} (h0 : nN μ0 ((a, Ob #[k] 239) :: (g ++ [])) w) (T : kC 5 (mc .u8) 1 k B g) (t : Sl kf 5 μ0 u j.Kids) (hm : vY s B j = some r) :
  lH false pg0 365 [(.pointer (some ⟨a, 0, none⟩)), (.agg #[(.int .i64 j.Op), (.int .i64 j.K), (.string j.kd.kj), (.string j.kd.kq), u])] w ((a, Ob #[k] 239) :: (g ++ [])) (fun v L1 W' => ∃ m S2, v = (.tuple #[]) ∧ L1 = ((a, Ob #[m] 239) :: (S2 ++ [])) ∧ kC 5 (mc .u8) 1 m r S2) := by
 let b0 := ((a, Ob #[k] 239) :: (g ++ []))
 refine yN h0 40 func365 rfl (fun b => sg ?_)
 obtain ⟨A1, c2, rfl⟩ := t.form
 refine VE (kX b rfl (fun W4 b3 b => lr (Wm (Wf uf (VB b Mh rfl rfl dz (bS hm fun r5 g8 hm => ?_))))))
 refine VE (eM b (Cb (Pb Pz) (Cr (Qb Qz) Cn)) call181 (fun l _ => lH.lZ (rU a k B g j.Op _ _ l T g8)) ?_)
 rintro _ j8 n j0 b e9 ab d ⟨A, a9, a2, rfl, a5⟩
 obtain rfl := a2.symm
 replace b := b.perm (Tb (Tr Tn))
 refine lS (Wf uf (VB b (Mt (Ma Mh)) rfl rfl dz (Wi rfl (ln (CI hm rfl (fun e8 hm => ?_) (fun e8 hm => ?_))))))
 ·refine sg (Wm (Wf yb (VA b (Mt (Ma Mh)) (ki j.kd) bo aG (bS hm fun j7 f0 hm => ?_))))
  refine VE (eM b (Cb Pz (Cr Qz Cn)) call182 (fun l _ => lH.lZ (vA a A r5.2 a9 j.kd _ _ l a5 f0)) ?_)
  rintro _ j9 k1 j3 b h6 ad d ⟨h3, g2, a3, rfl, f4⟩
  obtain rfl := a3.symm
  replace b := b.perm (Tb (Tr Tn))
  refine ln ?_
  replace b := b.kh (Kb (Kr (Db St)))
  refine kM (kU ?_)
  obtain rfl := sj hm
  exact pu rfl ⟨_, _, rfl, (b.mI (Kb (Kr Sn))), h3, g2, rfl, rfl, f4⟩
 refine kn (kA (CJ hm (fun b5 E W => ∃ p o F d6, kH n F ∧ ST false (keys b0) w W F ((a, Ob #[p] 239) :: ((b3, Ol (C1 j.Op j.K j.kd.kj j.kd.kq A1 j.Kids.length c2) 58) :: (o ++ d6))) ∧ E 0 = (.pointer (some ⟨a, 0, none⟩)) ∧ E 3 = (.pointer (some ⟨b3, 0, none⟩)) ∧ kC 5 (mc .u8) 1 p b5 o) (fun b5 y => ?_) ?_))
 ·refine sg (Wf uf (VB b (Mt (Ma Mh)) rfl rfl dz (Wi rfl (ln (CI y rfl (fun c4 y => ?_) (fun c4 y => ?_))))))
  ·refine kB (Wm (Wf zf (VB b (Mt (Ma Mh)) rfl rfl dz (bS y fun i6 d0 y => ?_))))
   refine VE (eM b (Cb Pz (Cr Qz Cn)) call181 (fun l _ => lH.lZ (rU a A r5.2 a9 j.K _ _ l a5 d0)) ?_)
   rintro _ i9 g1 h9 b b2 R d ⟨f9, e3, N, rfl, d5⟩
   obtain rfl := N.symm
   replace b := b.perm (Tb (Tr Tn))
   refine ln ?_
   obtain rfl := sj y
   exact ⟨f9, e3, g1, _, b2, (b.kh (Kb (Sb (Pr Pz) St))), rfl, rfl, d5⟩
  refine kn ?_
  obtain rfl := sj y
  exact ⟨A, a9, n, _, (kH.refl _), (b.kh (Kb (Sb (Pr Pz) St))), rfl, rfl, a5⟩
 rintro g9 E W ⟨p, o, F, d6, c6, b, d7, d8, f3⟩ a0
 refine sg (Wh d7 (V (ky sK d8) (VB b (Mt Mh) rfl rfl fl (V (lT aF rfl t) (bS a0 fun h2 f1 a0 => ?_)))))
 refine VE (eM b (Cb Pz (Cr (Qb Qz) Cn)) call181 (fun l _ => lH.lZ (rU a p g9 o (j.Kids.length : Int) _ _ l f3 f1)) ?_)
 rintro _ k0 d9 j4 b c7 ae d ⟨h4, g3, a4, rfl, f5⟩
 obtain rfl := a4.symm
 replace b := b.perm (Tb (Tr Tn))
 refine lr (V (ky sK d8) (VB b (Mt (Ma Mh)) rfl rfl fl (V (lT aF rfl t) (Wm (ln ?_)))))
 replace b := b.kh (Kb (Kr (Db St)))
 refine tS (lu (fun i E W => ∃ D H z Q U, (E 32 = .int .i64 (i : Nat) ∧ E 31 = .int .i64 (j.Kids.length : Nat)) ∧ kH d9 Q ∧ ST false (keys b0) w W Q ((a, Ob #[D] 239) :: (z ++ U)) ∧ E 0 = (.pointer (some ⟨a, 0, none⟩)) ∧ E 30 = (.slice A1 j.Kids.length c2) ∧ kC 5 (mc .u8) 1 D H z ∧ qO s (j.Kids.drop i) H = some r) j.Kids.length t.len ⟨h4, h2.2, g3, d9, _, ⟨rfl, rfl⟩, (kH.refl _), (b.kh St), d7, rfl, f5, a0⟩ dc dc dc (fun _ _ _ h => by obtain ⟨_, _, _, _, _, O, _⟩ := h; exact O) ?_ ?_)
 ·rintro f6 E W c5 ⟨D, H, z, Q, U, ⟨L, eN⟩, G, b, Y, Z, K, x⟩
  obtain ⟨c, h7, d2, d1, d3⟩ := lc c5
  rw [d2] at x
  refine bg (VQ (nM (i := (f6 : Int)) (x0 := c) kf.out aF aD Z L (t.mono kz.mono (((e9.trans c6).trans c7).trans G)) (aH _) d1) (fun i5 ⟨_, ⟨i7, rfl, a7⟩, c8⟩ => V (kl rfl (kO b.has c8 bA aD)) (VE (ll b bK (fun i0 i4 b => ?_)))))
  obtain ⟨I, J, rfl⟩ := a7.form
  let q := (C1 c.Op c.K c.kd.kj c.kd.kq I c.Kids.length J)
  refine VO (kJ (.agg q.toArray) (q.toArray) b rfl rfl aD oc nb rfl (fun i1 b => ln (kB (Wh Y (VA b Mh q bA aD (bS x fun f7 c9 x => ?_))))))
  refine VE (eM b (Cb (Pb Pz) (Cr (Qb Qz) Cn)) call365 (fun l aa => (f2 a D H z c (.slice I c.Kids.length J) _ _ l K (a7.mono kz.mono aa) c9)) ?_)
  rintro _ i8 g0 h8 b b1 P d ⟨f8, e2, M, rfl, d4⟩
  obtain rfl := M.symm
  replace b := b.perm (Tb (Tr Tn))
  refine kQ (kY (ku ?_))
  replace b := b.kh (Kb (Kr (Db St)))
  exact ⟨L, f8, f7, e2, g0, _, ⟨rfl, eN⟩, (G.trans b1), (b.kh St), Y, Z, d4, (by rw [d3]; exact x)⟩
 rintro E W ⟨D, H, z, Q, U, ⟨L, eN⟩, G, b, Y, Z, K, x⟩
 rw [aI] at x
 refine ku (qT ?_)
 obtain rfl := sj x
 exact pu rfl ⟨_, _, rfl, (b.mI (Kb (Kr Sn))), D, z, rfl, rfl, K⟩
theorem Cd : ∀ (n : Nat) (i : Nat) (g : Value) (k : List Int) (c : LO) (j : Formula) (a : Value) (r : List Int) (w : World) {z : kL} (D : nN z ((i, Ob #[g] 239) :: (c ++ [])) w) (x : kC 5 (mc .u8) 1 g k c) (t : Sl kf 5 z a j.Kids) (_ : qg n k j = some r),
  lH false pg0 365 [(.pointer (some ⟨i, 0, none⟩)), (.agg #[(.int .i64 j.Op), (.int .i64 j.K), (.string j.kd.kj), (.string j.kd.kq), a])] w ((i, Ob #[g] 239) :: (c ++ [])) (fun v B W' => ∃ y u, v = (.tuple #[]) ∧ B = ((i, Ob #[y] 239) :: (u ++ [])) ∧ kC 5 (mc .u8) 1 y r u)
 | 0 => by intros; rename_i h; simp only [qg] at h; cases h
 | n + 1 => DN (qg n) (Cd n)
theorem G2 (k : Nat) (i : Value) (u : List Int) (c : LO) (a : Formula) (j : Value) (r : (Bool × (List Int))) (w : World) {Q : kL} (Y : nN Q ((k, Ob #[i] 239) :: (c ++ [])) w) (t : kC 5 (mc .u8) 1 i u c) (g : Sl kf 5 Q j a.Kids) (hm : wS u a = some r) :
  lH false pg0 358 [(.pointer (some ⟨k, 0, none⟩)), (.agg #[(.int .i64 a.Op), (.int .i64 a.K), (.string a.kd.kj), (.string a.kd.kq), j])] w ((k, Ob #[i] 239) :: (c ++ [])) (fun v U W' => ∃ M I, v = (.bool (r.1)) ∧ U = ((k, Ob #[M] 239) :: (I ++ [])) ∧ kC 5 (mc .u8) 1 M r.2 I) := by
 refine yN Y 15 func358 rfl (fun b => sg ?_)
 obtain ⟨y, z, rfl⟩ := g.form
 let B := (C1 a.Op a.K a.kd.kj a.kd.kq y a.Kids.length z)
 refine VE (kX b rfl (fun W4 n b => Wa (lS (Wm (V (xI fY rfl rfl) (Wm (Vg rfl rfl (kl rfl (kx b.has Mh B rfl bA aD)) (bS hm fun o K hm => N3 rfl rfl (Eg b call72 (uN a (.slice y a.Kids.length z) _ _ (g.mono kz.mono b.kw) K) (fun W7 b => Vg rfl rfl (nT rfl) (V (li rfl rfl) ?_)))))))))))
 refine ln (CI hm rfl (fun J hm => ?_) (fun J hm => ?_))
 ·refine sg (Wa (ln ?_))
  replace b := b.kh (Db St)
  refine kM (kU ?_)
  obtain rfl := sj hm
  exact lB (v := (.bool false)) rfl rfl ⟨_, _, rfl, (b.mI (Kb (Kr Sn))), i, c, rfl, rfl, t⟩
 refine kg (Wm (VA b Mh B bA aD (bS hm fun p D hm => ?_)))
 refine VE (eM b (Cb (Pb Pz) (Cr (Qb Qz) Cn)) call365 (fun m h => ((Cd kT) k i u c a (.slice y a.Kids.length z) _ _ m t (g.mono kz.mono h) D)) ?_)
 rintro _ a2 a3 Z b T l d ⟨N, H, x, rfl, G⟩
 obtain rfl := x.symm
 replace b := b.perm (Tb (Tr Tn))
 refine ln ?_
 replace b := b.kh (Kb (Kr (Db St)))
 refine sg (Wa (lt ?_))
 obtain rfl := sj hm
 exact lB (v := (.bool true)) rfl rfl ⟨_, _, rfl, (b.mI (Kb (Kr Sn))), N, H, rfl, rfl, G⟩
theorem IQ (g : Value) (i r : List Int) (w : World) (a : Sl (Pl (mc .u8)) 1 (hp w) g i) (hm : uM i = some r) :
  ma true pg0 58 [g] w 5 (mc .u8) 1 r := by
 unfold uM at hm
 refine uk 8 func58 rfl (fun b => sg (Wa (lS (Wm ?_))))
 obtain ⟨y, B, rfl⟩ := a.form
 refine V (yM dE rfl rfl) (ln ?_)
 rcases y with _ | z
 ·have u := a.isNil
  replace hm : some [] = some r := by rw [u] at hm; simpa [mZ, maxLen] using hm
  refine vO (rfl) (sg (Wa (lt (kU ?_))))
  obtain rfl := sj hm
  exact lB (v := (.slice none 0 0)) rfl rfl ⟨_, [], rfl, b.nn (fun p d => by cases d) (by simp), kC.nil _ _ _⟩
 ·refine qZ (rfl) (kg (VE (kV (cs := #[]) b uw (zU [] dE sizeOf5 zeroValue5 dc rfl (by simp) rfl rfl) (fun G k b => Wm (bS hm fun H t hm => VE (ny (enc := (mc .u8)) (v := (.slice (some ⟨k, 0, none⟩) 0 0)) (vs := (.slice (some z) i.length B)) (R := [(k, Ob #[] 5)]) b (fun _ => rfl) dc (E5 _) dE sS.1 sS.2.1 rfl sS.2.2.1 sS.2.2.2 rfl rfl (kC.lit (l := []) (enc := (mc .u8)) rfl dc rfl rfl) (a.mono (Pl.mono _) b.kw) t (fun D x j b c => Wa (lt ?_))))))))
  obtain rfl := sj hm
  exact lB (v := x) rfl rfl ⟨_, j, rfl, b.nn (fun p d => (Ml d)) c.nd, c⟩
theorem Bn (g : Nat) (a : Value) (c r : List Int) (w : World) (j : Sl (Pl (mc .u8)) 1 (hp w) a c) (k : At (hp w) (.pointer (some ⟨g, 0, none⟩)) [a]) (hm : uq c = some r) :
  ma true pg0 184 [(.pointer (some ⟨g, 0, none⟩))] w 5 (mc .u8) 1 r := by
 refine uk 10 func184 rfl (fun b => sg (Wa (lS (Wm (V (xI fY rfl rfl) (ln (qZ rfl (lE ?_))))))))
 refine ku (sg (Wm (Wn (VQ (xn [a] zz rfl k rfl) (fun G u => V (kl rfl (ns b.has (y := a) u isAgg53)) (bS hm fun H x hm => VE (rW b call58 (IQ a c _ _ (j.mono (Pl.mono _) b.kw) x) (fun D z I t b B d i => Wa (lt ?_)))))))))
 obtain rfl := sj hm
 exact lB (v := z) rfl rfl ⟨_, t, rfl, b.nn (fun p h => (Ml h)) i.nd, i⟩
theorem AI (a : Formula) (g : Value) (r : List Int) (w : World) (c : Sl kf 5 (hp w) g a.Kids) (hm : tE a = some r) :
  ma false pg0 339 [(.agg #[(.int .i64 a.Op), (.int .i64 a.K), (.string a.kd.kj), (.string a.kd.kq), g])] w 5 (mc .u8) 1 r := by
 refine uk 11 func339 rfl (fun d => sg ?_)
 obtain ⟨k, t, rfl⟩ := c.form
 refine VE (kX d rfl (fun W4 u d => Wa (lr (V (mK (v := (.agg #[(.slice none 0 0)])) uw (me zeroValue239 fX (PD _ fX) kr)) (VE (kX d rfl (fun W6 B d => Wa (lr (Wm (VA d (Mt Mh) (C1 a.Op a.K a.kd.kj a.kd.kq k a.Kids.length t) bA aD ?_))))))))))
 refine bS hm fun K D hm => ?_
 refine VE (eM d (Cb Pz (C0 Cn)) call358 (fun s m => (G2 B (.slice none 0 0) ([]) [] a (.slice k a.Kids.length t) _ _ s (kC.nil _ _ _) (c.mono kz.mono m) D)) ?_)
 rintro _ U Y M d I n h ⟨H, N, i, rfl, y⟩
 obtain rfl := i.symm
 replace d := d.perm (Tb (Tr Tn))
 refine ln ?_
 replace d := d.kh (Kb (Kr (Db St)))
 refine sg (Wm (bS hm fun T x hm => VE (rW d call184 (ma.lZ (Bn B H K.2 _ _ (y.sl (fun _ => rfl) (fun b o l => d.at_ (Mt (Ml l)))) (At.of (d.at_ Mh) _ rfl) x)) (fun Q G Z z d J q j => Wa (ln ?_)))))
 replace d := d.kh (Kr (Db (Dr St)))
 refine kM ?_
 obtain rfl := sj hm
 exact lB (v := G) rfl rfl ⟨_, z, rfl, d.nn (fun p l => (Ml l)) j.nd, j⟩
theorem Rc (w : World) {c d : Value} {a b : List Int} (h1 : Sl (Pl (mc .u8)) 1 (hp w) c a) (g : Sl (Pl (mc .u8)) 1 (hp w) d b) : (callFunc 240 [c, d].toArray).run pg0 w = .ok (.value (.int .i64 (yK a b))) w := Pd func240 (by kernel_rfl) (by kernel_rfl) (by kernel_rfl) (by kernel_rfl) h1 g
theorem BX (a : Value) (g : List Int) (c : Value) (i : List Int) (r : Int) (w : World) (j : Sl (Pl (mc .u8)) 1 (hp w) a g) (k : Sl (Pl (mc .u8)) 1 (hp w) c i) (hm : wX g i = some r) :
  kN true pg0 178 [a, c] w (.int .i64 r) := by
 exact cG 8 func178 rfl (fun b => sg (Wa (lr (Wm (Wm (VE (Ms (args := [a, c]) (v := .int .i64 (yK g i)) rfl (by exact ta rfl rfl) (Rc _ (j.mono (Pl.mono _) b.kw) (k.mono (Pl.mono _) b.kw)) (Wa (lt (rQ hm b))))))))))
theorem Fx (a : Formula) (j : Value) (c : Formula) (k : Value) (r : Int) (w : World) (g : Sl kf 5 (hp w) j a.Kids) (i : Sl kf 5 (hp w) k c.Kids) (hm : tw a c = some r) :
  kN false pg0 322 [(.agg #[(.int .i64 a.Op), (.int .i64 a.K), (.string a.kd.kj), (.string a.kd.kq), j]), (.agg #[(.int .i64 c.Op), (.int .i64 c.K), (.string c.kd.kj), (.string c.kd.kq), k])] w (.int .i64 r) := by
 refine cG 10 func322 rfl (fun d => sg ?_)
 obtain ⟨x, z, rfl⟩ := g.form
 refine VE (kX d rfl (fun W4 q d => ?_))
 obtain ⟨y, B, rfl⟩ := i.form
 refine VE (kX d rfl (fun W8 s d => Wa (ln (kA ?_))))
 replace d := d.drew
 have h := d.has.kh (Kb (Kb Sn))
 refine lm h kP (XH 0 rfl h (fun _ l => kl rfl (kx l (Mt Mh) (C1 a.Op a.K a.kd.kj a.kd.kq x a.Kids.length z) rfl bA aD)) (XH 2 rfl h (fun _ l => kl rfl (kx l Mh (C1 c.Op c.K c.kd.kj c.kd.kq y c.Kids.length B) rfl bA aD)) (bS hm fun K H hm => XE 1 rfl (rW d call339 (AI a (.slice x a.Kids.length z) _ _ (g.mono kz.mono d.kw) H) (fun Y N a4 T d t n D => ?_)))))
 have h := d.has.qe t (Dr (Kb (Kb Sn)))
 refine ⟨h, (bS hm fun M I hm => XE 3 rfl (rW d call339 (AI c (.slice y c.Kids.length B) _ _ (i.mono kz.mono (t.trans d.kw)) I) (fun Z Q a5 U d u p G => ?_)))⟩
 have h := d.has.qe (t.trans u) (Dr (Dr (Kb (Kb Sn))))
 refine ⟨h, (bS hm fun a3 J hm => XE 4 rfl (Eg d call178 (kN.lZ (BX N K Q M _ _ (D.sl (fun _ => rfl) (fun b o m => d.at_ (Ma (Ml m)))) (G.sl (fun _ => rfl) (fun b o m => d.at_ (Ml m))) J)) (fun a2 d => ?_)))⟩
 have h := d.has.qe (t.trans u) (Dr (Dr (Kb (Kb Sn))))
 refine ⟨h, (X 5 rfl h (ol rfl) (lF kr (ku ?_)))⟩
 exact kM (rQ hm d)
theorem CQ (g : Value) (k r : List Formula) (w : World) {G : kL} (Y : nN G [] w) (u : Sl kf 5 G g k) (hm : vw k = some r) :
  mj false pg0 288 [g] w G [] (fun v U μ1 => ∃ T I, v = T ∧ U = (I ++ []) ∧ lC 58 kf 5 μ1 T r I) := by
 refine vt Y 9 func288 rfl (fun b => sg (Wa (lr (Wm (bS hm fun Z Q hm => ?_)))))
 refine VE (eD b (bI _) call320 (fun h => mj.lZ (Cp g k _ _ h (u.mono kz.mono (kH.refl _)) Q)) ?_ (L0 := []))
 rintro _ v7 q L9 b y l ⟨i, H, a, rfl, B⟩
 obtain rfl := a.symm
 replace b := b.perm (Tr Tn)
 refine Wa (lr (Wm (bS hm fun a5 z hm => ?_)))
 refine VE (eD b (Cr Qz Cn) call321 (fun h => (yR i Z H (.func (.func 322) #[] #[]) (fun (x : (Formula × Formula)) => tw x.1 x.2) _ _ h B ⟨322, #[], #[], rfl, call322, fun W x vs r A m hm => by obtain ⟨_, _, rfl, M, N⟩ := m; obtain ⟨p, rfl, o⟩ := M.out; obtain ⟨t0, rfl, n⟩ := N.out; exact Fx x.1 p x.2 t0 r W o n hm⟩ z)) ?_)
 rintro _ s t a3 b j d ⟨J, c, rfl, D⟩
 obtain rfl := c.symm
 replace b := b.perm (Tr Tn)
 refine lr (Wm (Wa (lt ?_)))
 obtain rfl := sj hm
 exact lB (v := i) rfl rfl ⟨_, _, _, rfl, (b.mI (Kr Sn)), (y.trans j), (l.trans d), (ST.lO b (nm.mem (Kr Sn))), i, J, rfl, rfl, D⟩
theorem zK (g : Value) (a0 : List Formula) (x : LO) (Z : Value) (f1 : (Formula × Formula) → Option Bool) (r : List Formula) (w : World) {μ0 : kL} (h0 : nN μ0 (x ++ []) w) (B : lC 58 kf 5 μ0 g a0 x) (d2 : xX pg0 Z μ0 (vX kf kf) (fun (r : Bool) => (.bool r)) f1) (hm : pQ a0 f1 = some r) :
  mj false pg0 291 [g, Z] w μ0 (x ++ []) (fun v L1 μ1 => ∃ y1, v = y1 ∧ L1 = [] ∧ Sl kf 5 μ1 y1 (r)) := by
 refine vt h0 66 func291 rfl (fun d => sg (Wa (lS (Wm (V (xq aF rfl B) (Wi rfl (ln (CI hm rfl (fun i3 hm => ?_) (fun i3 hm => ?_)))))))))
 ·refine sg (Wm (Wa (lt (kU ?_))))
  obtain rfl := sj hm
  refine lB (v := g) rfl rfl ?_
  obtain ⟨a1, d, i2, A, j0⟩ := ST.xR kz d B
  exact ⟨_, _, _, rfl, (d.mI Sn), i2, A, (ST.lO d (nm.mem Sn)), g, rfl, rfl, j0⟩
 refine kS (Wa (ln (lR (np (fun m E W => ∃ t b7, ST false (keys (x ++ [])) w W μ0 (x ++ b7) ∧ E 0 = g ∧ E 1 = Z ∧ E 5 = (.int .i64 t) ∧ mV a0 f1 m t = some r) kT ⟨1, _, (d.kh St), rfl, rfl, rfl, hm⟩ ?_))))
 rintro m E W ⟨t, b7, d, y, a3, G, a⟩
 cases m with
 | zero => rw [mV] at a; cases a
 | succ h1 =>
  refine kA (sg (Wh G (Wh y (V (xq aF rfl B) (Wi rfl (ln (CI a rfl (fun d3 a => ?_) (fun d3 a => ?_))))))))
  ·refine kn (kA (lR (kA ?_)))
   replace d := d.drew
   have h := d.has.kh (Kr Sn)
   refine lm h kP (X 0 rfl h (ko a3) (X 1 rfl h (ko y) (X 2 rfl h (ko G) (bS a fun h7 R a => XQ 3 rfl h (mr (i := t) kf.out aF aD rfl rfl B (kI R) (kF R)) (fun k1 ⟨_, ⟨h3, rfl, e7⟩, e0, i4⟩ => XH 4 rfl h (fun _ q => kl rfl (kO (og.hp _) (e0.mono (mE (fun b o p => q.2 b o (Ml p)))) bA aD)) (X 5 rfl h (ko y) (X 6 rfl h (ko G) (X 7 rfl h (lW rfl rfl rfl) (bS a fun h8 b3 a => XQ 8 rfl h (mr (i := (wi0 .i64 (t - 1))) kf.out aF aD rfl rfl B (kI b3) (kF b3)) (fun k2 ⟨_, ⟨h4, rfl, e8⟩, e1, i5⟩ => XH 9 rfl h (fun _ q => kl rfl (kO (og.hp _) (e1.mono (mE (fun b o p => q.2 b o (Ml p)))) bA aD)) (bS a fun k7 e5 a => XE 10 rfl (zd (h7, h8) d d2 (kH.refl _) (vX.mk kz kz (kf.mk ⟨h3, rfl, e7⟩) (kf.mk ⟨h4, rfl, e8⟩) d.kw) rfl (ta rfl rfl) e5 (fun j6 d => ?_)))))))))))))
   have h := d.has.kh (Kr Sn)
   refine ⟨h, (lF kr (ku (CI a rfl (fun d4 a => ?_) (fun d4 a => ?_))))⟩
   ·refine sg (Wh y (Wh G (bS a fun _ F a => VQ (Bk (i := t) aF aD rfl rfl B (qm F) (qf F)) (fun c4 K => Wa (lS (Wa (ln ?_)))))))
    refine CJ a (fun T E W => ∃ a2 b9, ST false (keys (x ++ [])) w W μ0 (a2 ++ b9) ∧ E 0 = g ∧ E 5 = (.int .i64 T.2) ∧ lC 58 kf 5 μ0 g T.1 a2) (fun T d8 => ?_) ?_
    ·refine lR (np (fun m E W => ∃ a5 J U u c0, ST false (keys (x ++ [])) w W μ0 (J ++ c0) ∧ E 0 = g ∧ E 1 = Z ∧ E 5 = (.int .i64 U) ∧ E 6 = c4 ∧ E 7 = (.int .i64 u) ∧ lC 58 kf 5 μ0 g a5 J ∧ mX t f1 m a5 U u = some T) kT ⟨a0, x, t, 1, _, (d.kh St), y, a3, G, rfl, rfl, B, d8⟩ ?_)
     rintro m E W ⟨a5, J, U, u, c0, d, N, a4, Q, H, I, k, j⟩
     cases m with
     | zero => rw [mX] at j; cases j
     | succ h2 =>
      refine kA (sg (Wh I (Wh H (V (Md aF rfl K k) (Wi rfl (ln (CI j rfl (fun d5 j => ?_) (fun d5 j => ?_))))))))
      ·refine kn (kA (CJ j (fun s E W => ∃ M c1, ST false (keys (x ++ [])) w W μ0 (M ++ c1) ∧ E 0 = g ∧ E 1 = Z ∧ E 5 = (.int .i64 s.2) ∧ E 6 = c4 ∧ E 7 = (.int .i64 u) ∧ lC 58 kf 5 μ0 g s.1 M) (fun s c => ?_) ?_))
       ·refine lR (kA ?_)
        replace d := d.drew
        have h := d.has.kh (Kr Sn)
        refine lm h kP (X 0 rfl h (ko a4) (X 1 rfl h (ko H) (X 2 rfl h (ko I) (bS c fun i0 b4 c => XQ 3 rfl h (Bw (i := u) kf.out aF aD rfl rfl k K (kI b4) (kF b4)) (fun k3 ⟨_, ⟨h5, rfl, f4⟩, e2, i6⟩ => XH 4 rfl h (fun _ q => kl rfl (kO (og.hp _) (e2.mono (mE (fun b o p => q.2 b o (Ml p)))) bA aD)) (X 5 rfl h (ko H) (X 6 rfl h (ko I) (X 7 rfl h (lW rfl rfl rfl) (bS c fun i1 b5 c => XQ 8 rfl h (Bw (i := (wi0 .i64 (u - 1))) kf.out aF aD rfl rfl k K (kI b5) (kF b5)) (fun k4 ⟨_, ⟨h6, rfl, f5⟩, e3, i7⟩ => XH 9 rfl h (fun _ q => kl rfl (kO (og.hp _) (e3.mono (mE (fun b o p => q.2 b o (Ml p)))) bA aD)) (bS c fun k8 e6 c => XE 10 rfl (zd (i0, i1) d d2 (kH.refl _) (vX.mk kz kz (kf.mk ⟨h5, rfl, f4⟩) (kf.mk ⟨h6, rfl, f5⟩) d.kw) rfl (ta rfl rfl) e6 (fun j8 d => ?_)))))))))))))
        have h := d.has.kh (Kr Sn)
        refine ⟨h, (X 11 rfl h (nT rfl) (lF kr (ku (CI c rfl (fun d6 c => ?_) (fun d6 c => ?_)))))⟩
        ·refine sg (Wh N (Wh Q (Wh H (Wh I (bS c fun c7 b6 c => VQ (Bw (i := u) kf.out aF aD rfl rfl k K (kI b6) (kF b6)) (fun k5 ⟨_, ⟨l0, rfl, P⟩, e4, i8⟩ => V (kl rfl (kO (og.hp _) (e4.mono (mE (fun b o p => d.has.2 b o (Ml p)))) bA aD)) (bS c fun l2 Y c => VQ (mr (i := U) kf.out aF aD rfl rfl k (kI Y) (kF Y)) (fun k6 ⟨_, ⟨l1, rfl, j3⟩, i9, d7⟩ => ?_))))))))
         obtain ⟨f7, g0, rfl⟩ := P.form
         refine VO (ra (x1 := c7) kz d k rfl rfl (kf.mk ⟨(.slice f7 c7.Kids.length g0), rfl, P⟩) d7 (kF Y) aD (fun j9 f8 d d1 => ln (kB (Wh Q (Wi rfl (Wa (kQ (kY (ku ?_)))))))))
         obtain rfl := sj c
         exact ⟨f8, _, (d.kh St), N, a4, rfl, H, I, d1⟩
        refine lE (kY (ku ?_))
        obtain rfl := sj c
        exact ⟨J, _, (d.kh St), N, a4, Q, H, I, k⟩
       rintro ⟨g9, h9⟩ E W ⟨M, c1, d, g1, g2, g3, g4, g7, f3⟩ d9
       exact kB (Wh g7 (Wi rfl (Wa (ln ⟨h2, bD _, g9, M, h9, (wi0 .i64 (u + 1)), _, (d.kh St), g1, g2, g3, g4, rfl, f3, d9⟩))))
      refine nf (mO (mO (pZ (ku ?_))))
      obtain rfl := sj j
      exact ⟨J, _, (d.kh St), N, Q, k⟩
    rintro ⟨k0, c6⟩ E W ⟨a2, b9, d, c2, c3, O⟩ D
    refine sg (Wh c2 (Wh c3 (bS D fun _ L D => VQ (Bk (i := c6) aF aD rfl rfl O (qm L) (qf L)) (fun k9 e9 => VO (Em (z := (⟨0, 0, K0, []⟩ : Formula)) (zs := C5) kz d O (kf.mk ⟨(.slice none 0 0), rfl, (Sl.nil _ _ _)⟩) aF bK e9 rfl rfl (fun j7 j5 d d0 => lr (Wh c2 (Wh c3 (bS D fun _ a9 D => VQ (GW (i := c6) aF aD rfl rfl d0 (qm a9) (qf a9)) (fun c5 f0 => ?_))))))))))
    refine Wa (lt (mB (kU (kU (mB (kU ?_))))))
    obtain rfl := sj D
    refine lB (v := c5) rfl rfl ?_
    obtain ⟨l3, d, c8, l, f2⟩ := ST.xR kz d f0
    exact ⟨_, _, _, rfl, (d.mI Sn), c8, l, (ST.lO d (nm.mem Sn)), c5, rfl, rfl, f2⟩
   exact lE (kY (ku (kB (Wh G (Wi rfl (Wa (ln ⟨h1, bD _, (wi0 .i64 (t + 1)), _, (d.kh St), y, a3, rfl, a⟩)))))))
  refine nf (mO (mO (pZ (ku (sg (Wh y (Wa (lt ?_))))))))
  obtain rfl := sj a
  refine lB (v := g) rfl rfl ?_
  obtain ⟨l4, d, c9, n, f6⟩ := ST.xR kz d B
  exact ⟨_, _, _, rfl, (d.mI Sn), c9, n, (ST.lO d (nm.mem Sn)), g, rfl, rfl, f6⟩
theorem qY (G : Value) (N : List Formula) (H : Value) (l : List Formula) (I : Value) (f2 : (Formula × Formula) → Option Bool) (r : Bool) (w : World) (x : Sl kf 5 (hp w) G N) (Q : Sl kf 5 (hp w) H l) (o : xX pg0 I (hp w) (vX kf kf) (fun (r : Bool) => (.bool r)) f2) (hm : mW N l f2 = some r) :
  kN false pg0 323 [G, H, I] w (.bool r) := by
 refine cG 32 func323 rfl (fun b => sg (Wa (lS (Wm (V (lT aF rfl x) (Wm (V (lT aF rfl Q) (Wi rfl (kQ ?_)))))))))
 refine ku (CI hm rfl (fun q hm => ?_) (fun q hm => ?_))
 ·refine sg (Wa (lt (kU ?_)))
  obtain rfl := sj hm
  exact rP b
 refine kS (Wm (V (lT aF rfl x) (Wm (ln (lu (fun i E W => ∃ y, (E 17 = .int .i64 (i : Nat) ∧ E 16 = .int .i64 (N.length : Nat)) ∧ ST false lM w W (hp w) y ∧ E 1 = H ∧ E 2 = I ∧ E 15 = G ∧ lL l f2 (N.drop i) i = some r) N.length x.len ⟨_, ⟨rfl, rfl⟩, (b.kh St), rfl, rfl, rfl, hm⟩ dc dc dc (fun _ _ _ h => by obtain ⟨_, m, _⟩ := h; exact m) ?_ ?_)))))
 ·rintro a4 E W U ⟨y, ⟨d, n⟩, b, z, B, D, a⟩
  obtain ⟨g, c5, a9, p, a3⟩ := lc U
  rw [a9] at a
  refine bg (Wh d (VQ (nM (i := (a4 : Int)) (x0 := g) kf.out aF aD D d x (aH _) p) (fun R ⟨_, ⟨c2, rfl, J⟩, Y⟩ => V (kl rfl (kO b.has Y bA aD)) (VE (ll b bK (fun s O b => Wa ?_))))))
  obtain ⟨j, t, rfl⟩ := J.form
  let a0 := (C1 g.Op g.K g.kd.kj g.kd.kq j g.Kids.length t)
  refine VO (kJ (.agg a0.toArray) (a0.toArray) b rfl rfl aD oc nb rfl (fun v b => lr (Wh z (Wm (bS a fun c M a => VQ (nM (i := (a4 : Int)) (x0 := c) kf.out aF aD rfl rfl Q (kI M) (kF M)) (fun c0 ⟨_, ⟨c3, rfl, K⟩, Z⟩ => V (kl rfl (kO b.has Z bA aD)) (VE (ll b bK (fun A P b => ?_)))))))))
  obtain ⟨k, u, rfl⟩ := K.form
  let a5 := (C1 c.Op c.K c.kd.kj c.kd.kq k c.Kids.length u)
  refine VO (kJ (.agg a5.toArray) (a5.toArray) b rfl rfl aD oc nb rfl (fun F b => lr (Wh B (VA b (Mt Mh) a0 bA aD (VA b Mh a5 bA aD (bS a fun c1 a2 a => VE (zd (g, c) b o (kH.refl _) (vX.mk kz kz (kf.mk ⟨(.slice j g.Kids.length t), rfl, J⟩) (kf.mk ⟨(.slice k c.Kids.length u), rfl, K⟩) b.kw) rfl (ta rfl rfl) a2 (fun L b => V (nT rfl) (ln ?_)))))))))
  replace b := b.kh (Db (Db St))
  refine CI a rfl (fun T a => ?_) (fun T a => ?_)
  ·refine sg (Wa (lt (mB (kU (mB (kU ?_))))))
   obtain rfl := sj a
   exact rP b
  exact lE (kY (ku ⟨d, _, ⟨rfl, n⟩, (b.kh St), z, B, D, (by rw [a3]; exact a)⟩))
 rintro E W ⟨y, ⟨d, n⟩, b, z, B, D, a⟩
 rw [aI] at a
 exact ku (sg (Wa (lt (rQ a b))))
theorem Ed (M : Formula → Formula → Option Bool) (s : ∀ (a : Formula) (j : Value) (c : Formula) (k : Value) (r : Bool) (w : World) (u : Sl kf 5 (hp w) j a.Kids) (y : Sl kf 5 (hp w) k c.Kids), M a c = some r → kN false pg0 292 [(.agg #[(.int .i64 a.Op), (.int .i64 a.K), (.string a.kd.kj), (.string a.kd.kq), j]), (.agg #[(.int .i64 c.Op), (.int .i64 c.K), (.string c.kd.kj), (.string c.kd.kq), k])] w (.bool r)) (a : Formula) (j : Value) (c : Formula) (k : Value) (r : Bool) (w : World) (u : Sl kf 5 (hp w) j a.Kids) (y : Sl kf 5 (hp w) k c.Kids) (hm : wK M a c = some r) :
  kN false pg0 292 [(.agg #[(.int .i64 a.Op), (.int .i64 a.K), (.string a.kd.kj), (.string a.kd.kq), j]), (.agg #[(.int .i64 c.Op), (.int .i64 c.K), (.string c.kd.kj), (.string c.kd.kq), k])] w (.bool r) := by
 refine cG 31 func292 rfl (fun b => sg ?_)
 obtain ⟨N, Y, rfl⟩ := u.form
 let d := (C1 a.Op a.K a.kd.kj a.kd.kq N a.Kids.length Y)
 refine VE (kX b rfl (fun W4 T b => ?_))
 obtain ⟨Q, Z, rfl⟩ := y.form
 let a0 := (C1 c.Op c.K c.kd.kj c.kd.kq Q c.Kids.length Z)
 refine VE (kX b rfl (fun W8 U b => Wa (lr (Wf uf (VB b (Mt Mh) rfl rfl dz (Wf uf (VB b Mh rfl rfl dz (Wi rfl (Wm (LJ hm (fun a9 E W => ∃ a2, ST false lM w W (hp w) ((U, Ol a0 58) :: ((T, Ol d 58) :: a2)) ∧ E 2 = (.pointer (some ⟨T, 0, none⟩)) ∧ E 3 = (.pointer (some ⟨U, 0, none⟩)) ∧ E 4 = (.bool false) ∧ E 16 = (.bool a9)) 6 ?_ (fun a9 D I => ?_)))))))))))
 ·rintro d1 E W ⟨a2, b, J, K, a5, v⟩ n
  refine Wh v (LJ n (fun m E W => ∃ a3, ST false lM w W (hp w) ((U, Ol a0 58) :: ((T, Ol d 58) :: a3)) ∧ E 2 = (.pointer (some ⟨T, 0, none⟩)) ∧ E 3 = (.pointer (some ⟨U, 0, none⟩)) ∧ E 4 = (.bool false) ∧ E 23 = (.bool m)) 6 ?_ (fun m B H => ?_))
  ·rintro d2 E W ⟨a3, b, A, F, h, c1⟩ o
   refine Wh c1 (LJ o (fun l E W => ∃ a4, ST false lM w W (hp w) a4 ∧ E 4 = (.bool false) ∧ E 30 = (.bool l)) 6 ?_ (fun l z G => ?_))
   ·rintro d3 E W ⟨a4, b, c9, L⟩ p
    exact Wg L (lt (rQ p b))
   refine bC z (fun i z => ?_) (fun i z => ?_)
   ·refine ug i (ky sK A) (ug i (kl rfl (kK b.has (Mt Mh) rfl fl)) (ug i (ky sK F) (ug i (kl rfl (kK b.has Mh rfl fl)) (bS z fun d0 q z => vn i (Eg b call323 (qY (.slice N a.Kids.length Y) a.Kids (.slice Q c.Kids.length Z) c.Kids (.func (.func 292) #[] #[]) (fun (x : (Formula × Formula)) => M x.1 x.2) _ _ (u.mono kz.mono b.kw) (y.mono kz.mono b.kw) ⟨292, #[], #[], rfl, call292, fun W x vs r hs R hm => by obtain ⟨_, _, rfl, O, P⟩ := R; obtain ⟨u0, rfl, k0⟩ := O.out; obtain ⟨t0, rfl, j0⟩ := P.out; exact s x.1 u0 x.2 t0 r W k0 j0 hm⟩ q) (fun c8 b => V (lg (cB i) rfl) ?_))))))
    obtain rfl := sj z
    exact G _ _ ⟨_, (b.kh (Db (Db St))), h, rfl⟩
   refine un i (un i (un i (un i (un i (V (li (cB i) rfl) ?_)))))
   obtain rfl := sj z
   exact G _ _ ⟨_, (b.kh (Db (Db St))), h, rfl⟩
  refine bC B (fun g B => ?_) (fun g B => ?_)
  ·refine ug g (ky yb J) (ug g (kl rfl (kx b.has (Mt Mh) (ki a.kd) rfl bo aG)) (ug g (ky yb K) (ug g (kl rfl (kx b.has Mh (ki c.kd) rfl bo aG)) (ug g (wQ rfl rfl (ow fi) (sU (rY _ a.kd c.kd))) (V (lg (cB g) rfl) ?_)))))
   obtain rfl := sj B
   exact H _ _ ⟨_, (b.kh St), J, K, a5, rfl⟩
  refine un g (un g (un g (un g (un g (V (li (cB g) rfl) ?_)))))
  obtain rfl := sj B
  exact H _ _ ⟨_, (b.kh St), J, K, a5, rfl⟩
 refine bC D (fun t D => ?_) (fun t D => ?_)
 ·refine ug t (ky zf rfl) (ug t (kl rfl (kK b.has (Mt Mh) rfl dz)) (ug t (ky zf rfl) (ug t (kl rfl (kK b.has Mh rfl dz)) (ug t (lW rfl rfl rfl) (V (lg (cB t) rfl) ?_)))))
  obtain rfl := sj D
  exact I _ _ ⟨_, (b.kh St), rfl, rfl, rfl, rfl⟩
 refine un t (un t (un t (un t (un t (V (li (cB t) rfl) ?_)))))
 obtain rfl := sj D
 exact I _ _ ⟨_, (b.kh St), rfl, rfl, rfl, rfl⟩
theorem CX : ∀ (n : Nat) (g : Formula) (a : Value) (i : Formula) (c : Value) (r : Bool) (w : World) (j : Sl kf 5 (hp w) a g.Kids) (k : Sl kf 5 (hp w) c i.Kids) (_ : oC n g i = some r),
  kN false pg0 292 [(.agg #[(.int .i64 g.Op), (.int .i64 g.K), (.string g.kd.kj), (.string g.kd.kq), a]), (.agg #[(.int .i64 i.Op), (.int .i64 i.K), (.string i.kd.kj), (.string i.kd.kq), c])] w (.bool r)
 | 0 => by intros; rename_i h; simp only [oC] at h; cases h
 | n + 1 => Ed (oC n) (CX n)
end Go.Proofs.YtklbhegeiijbjaaGreat
