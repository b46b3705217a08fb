/- a part of a proof of LeastStays -/
import Derived.Test.YtmlncblocfcmiaaGreatL5Ms
import Derived.Test.YtmlncblocfcmiaaGreatProg
set_option linter.all false
namespace Go.Proofs.YtmlncblocfcmiaaGreat
open Go.RowKit
set_option maxRecDepth 10000
open Tryz
def aC := @sizeOf113
def aF := @underlying111
def aS := @isAgg113
def aW := @sizeOf53
def bE := @zeroValue113
def bF := @underlying22
def bG := @sizeOf28
def bJ := @underlying107
def bX := @sizeOf116
def bY := @isAgg28
def bZ := @underlying113
def cC := @underlying9
def cN := @isAgg53
def cO := @isAgg9
def cR := @sizeOf138
def cV := @isAgg3
def cZ := @isAgg116
def dN := @underlying28
def dO := @underlying54
def dR := @underlying110
def dS := @underlying108
def dT := @zeroValue53
def dW := @underlying53
def dZ := @underlying116
def eA := @sizeOf110
def eF := @zeroValue138
def eO := @zeroValue116
def eP := @isAgg107
def eX := @underlying3
def eY := @sizeOf263
def fC := @isAgg110
def fH := @underlying114
def fK := @sizeOf3
def fL := @underlying294
def fM := @underlying290
def fN := @underlying126
def fR := @isAgg111
def gE := @underlying353
def gK := @underlying34
def gL := @zeroValue296
def gO := @underlying138
def gP := @underlying256
def gQ := @underlying296
def iA := @zeroValue28
def iH := @underlying38
def iM := @eqGuardType53
def iN := @underlying135
def jf := @sizeOf9
def jg := @underlying92
def jh := @underlying90
def ji := @zeroValue114
def js := @zeroValue4
def jt := @sizeOf134
def jw := @isAgg138
def jx := @isAgg290
def jI := @underlying56
def jJ := @underlying68
def jK := @zeroValue263
def jL := @zeroValue110
def jM := @sizeOf114
def jY := @underlying376
def jZ := @underlying136
def kd := @underlying134
def kj := @sizeOf56
def kk := @sizeOf107
def kp := @underlying82
def kq := @underlying50
def kz := @sizeOf54
def kA := @zeroValue56
def kB := @underlying5
def kC := @zeroValue22
def kD := @zeroValue38
def kE := @sizeOf38
def kF := @isAgg263
def kH := @call254
abbrev K0 : kI := ⟨zS, zS⟩
abbrev K1 : ByteArray := ⟨#[120]⟩
abbrev K2 : ByteArray := ⟨#[121]⟩
abbrev K3 : ByteArray := ⟨#[99, 108, 105]⟩
abbrev K4 : ByteArray := ⟨#[111, 119, 110]⟩
abbrev K5 : ByteArray := ⟨#[122]⟩
abbrev K6 : lQ := ⟨0⟩
abbrev K7 : kI := ⟨K1, K2⟩
abbrev K9 : Formula := ⟨0, 0, K0, []⟩
abbrev Re : kJ := ⟨0, K0, zS, K0, K0, zS⟩
abbrev Di : kJ := ⟨1, K7, K3, K0, K0, zS⟩
abbrev C1 (y : ByteArray) (z : Option Addr) (A D : Nat) (E : Option Addr) (F G : Nat) (I : ByteArray) (J : Option Addr) (L a : Nat) (b : Option Addr) (d g : Nat) (h i : Int) (j k : ByteArray) (l : Option Addr) (m n : Nat) (p q r s t u : Int) (v : Option Addr) (w x : Nat) : List Value := [(.string y), (.slice z A D), (.slice E F G), (.string I), (.slice J L a), (.slice b d g), (.int .i64 h), (.int .i64 i), (.string j), (.string k), (.slice l m n), (.int .i64 p), (.int .i64 q), (.int .i64 r), (.int .i64 s), (.int .i64 t), (.int .i64 u), (.slice v w x)]
abbrev C2 (a b : Int) (d g : ByteArray) (h : Option Addr) (i j : Nat) : List Value := [(.int .i64 a), (.int .i64 b), (.string d), (.string g), (.slice h i j)]
abbrev C3 (m : Int) (n p q r s t u v : ByteArray) (w : Option Addr) (a b : Nat) (d g : Int) (h i : ByteArray) (j : Option Addr) (k l : Nat) : List Value := [(.int .i64 m), (.string n), (.string p), (.string q), (.string r), (.string s), (.string t), (.string u), (.string v), (.slice w a b), (.int .i64 d), (.int .i64 g), (.string h), (.string i), (.slice j k l)]
abbrev C4 : List Value := [(.string zS), (.slice none 0 0), (.slice none 0 0), (.string zS), (.slice none 0 0), (.slice none 0 0), (.int .i64 0), (.int .i64 0), (.string zS), (.string zS), (.slice none 0 0), (.int .i64 0), (.int .i64 0), (.int .i64 0), (.int .i64 0), (.int .i64 0), (.int .i64 0), (.slice none 0 0)]
abbrev C5 (d : Int) (g h i j k l m n : ByteArray) (p : Option Addr) (a b : Nat) : List Value := [(.int .i64 d), (.string g), (.string h), (.string i), (.string j), (.string k), (.string l), (.string m), (.string n), (.slice p a b)]
abbrev C6 (a : ByteArray) (b : Option Addr) (d g : Nat) (h : Option Addr) (i j : Nat) : List Value := [(.string a), (.slice b d g), (.slice h i j)]
abbrev C7 : List Value := [(.int .i64 0), (.int .i64 0), (.string zS), (.string zS), (.slice none 0 0)]
abbrev C8 : List Value := [(.int .i64 0), (.string (K0.kK)), (.string (K0.kP)), (.string zS), (.string (K0.kK)), (.string (K0.kP)), (.string (K0.kK)), (.string (K0.kP)), (.string zS), (.slice none 0 0), (.int .i64 0), (.int .i64 0), (.string zS), (.string zS), (.slice none 0 0)]
abbrev C9 (a : Nat) : List Value := [(.string K4), (.slice none 0 0), (.slice none 0 0), (.string K3), (.slice (some ⟨a, 0, none⟩) 2 2), (.slice none 0 0), (.int .i64 1), (.int .i64 0), (.string (K7.kK)), (.string (K7.kP)), (.slice none 0 0), (.int .i64 0), (.int .i64 0), (.int .i64 0), (.int .i64 0), (.int .i64 0), (.int .i64 0), (.slice none 0 0)]
abbrev R5 (d g : ByteArray) (h i : Int) (j k : ByteArray) (l : Option Addr) (m n : Nat) (p : Option Addr) (a b : Nat) : List Value := [(.string d), (.string g), (.int .i64 h), (.int .i64 i), (.string j), (.string k), (.slice l m n), (.slice p a b)]
abbrev TS (d : Int) (g h i j k l m n : ByteArray) (p : Option Addr) (a b : Nat) : List Value := [(.int .i64 d), (.string g), (.string h), (.string i), (.string j), (.string k), (.string l), (.string m), (.string n), (.slice p a b), (.int .i64 2), (.int .i64 0), (.string zS), (.string zS), (.slice none 0 0)]
abbrev Pt (a : Nat) : List Value := [(.string K3), (.slice (some ⟨a, 0, none⟩) 2 2), (.slice none 0 0)]
abbrev KG : List Value := [(.int .i64 2), (.int .i64 0), (.string zS), (.string zS), (.slice none 0 0)]
abbrev TP : List Value := [(.int .i64 1), (.int .i64 0), (.string (K7.kK)), (.string (K7.kP)), (.slice none 0 0)]
abbrev Rq (a : Int) : List Value := [(.int .i64 a), (.int .i64 0), (.string zS), (.string zS), (.slice none 0 0)]
abbrev NH : List Value := [(.int .i64 3), (.int .i64 0), (.string zS), (.string zS), (.slice none 0 0)]
abbrev TJ : List Value := [(.string K4), (.slice none 0 0), (.slice none 0 0)]
theorem lL : Tryz.prog.follows .mixedOrders = true := by rfl
theorem Sq : Tryz.prog.info? 3 = some Tryz.t3 ∧ Tryz.t3.zero = some (.int .i64 0) ∧ Tryz.t3.size = 1 ∧ Tryz.t3.bytes = 8 := ⟨by kernel_rfl, by kernel_rfl, by kernel_rfl, by kernel_rfl⟩
theorem tG : Tryz.prog.info? 5 = some Tryz.t5 ∧ Tryz.t5.zero = some (.int .u8 0) ∧ Tryz.t5.size = 1 ∧ Tryz.t5.bytes = 1 := ⟨by kernel_rfl, by kernel_rfl, by kernel_rfl, by kernel_rfl⟩
theorem As : Tryz.prog.info? 28 = some Tryz.t28 ∧ Tryz.t28.zero = some (.agg #[(.string ⟨#[]⟩), (.string ⟨#[]⟩)]) ∧ Tryz.t28.size = 2 ∧ Tryz.t28.bytes = 32 := ⟨by kernel_rfl, by kernel_rfl, by kernel_rfl, by kernel_rfl⟩
theorem GY : Tryz.prog.info? 38 = some Tryz.t38 ∧ Tryz.t38.zero = some (.agg #[(.string ⟨#[]⟩), (.string ⟨#[]⟩), (.string ⟨#[]⟩)]) ∧ Tryz.t38.size = 3 ∧ Tryz.t38.bytes = 48 := ⟨by kernel_rfl, by kernel_rfl, by kernel_rfl, by kernel_rfl⟩
theorem rD : Tryz.prog.info? 53 = some Tryz.t53 ∧ Tryz.t53.zero = some (.agg #[(.int .i64 0), (.string ⟨#[]⟩), (.string ⟨#[]⟩), (.string ⟨#[]⟩), (.string ⟨#[]⟩), (.string ⟨#[]⟩), (.string ⟨#[]⟩), (.string ⟨#[]⟩), (.string ⟨#[]⟩)]) ∧ Tryz.t53.size = 9 ∧ Tryz.t53.bytes = 136 := ⟨by kernel_rfl, by kernel_rfl, by kernel_rfl, by kernel_rfl⟩
theorem oS : Tryz.prog.info? 113 = some Tryz.t113 ∧ Tryz.t113.zero = some (.agg #[(.int .i64 0), (.int .i64 0), (.string ⟨#[]⟩), (.string ⟨#[]⟩), (.slice none 0 0)]) ∧ Tryz.t113.size = 5 ∧ Tryz.t113.bytes = 72 := ⟨by kernel_rfl, by kernel_rfl, by kernel_rfl, by kernel_rfl⟩
theorem yW : Tryz.prog.info? 114 = some Tryz.t114 ∧ Tryz.t114.zero = some (.agg #[(.int .i64 0), (.int .i64 0)]) ∧ Tryz.t114.size = 2 ∧ Tryz.t114.bytes = 16 := ⟨by kernel_rfl, by kernel_rfl, by kernel_rfl, by kernel_rfl⟩
theorem Bh : Tryz.prog.info? 138 = some Tryz.t138 ∧ Tryz.t138.zero = some (.agg #[(.int .i64 0), (.string ⟨#[]⟩), (.string ⟨#[]⟩), (.string ⟨#[]⟩), (.string ⟨#[]⟩), (.string ⟨#[]⟩), (.string ⟨#[]⟩), (.string ⟨#[]⟩), (.string ⟨#[]⟩), (.slice none 0 0), (.int .i64 0), (.int .i64 0), (.string ⟨#[]⟩), (.string ⟨#[]⟩), (.slice none 0 0)]) ∧ Tryz.t138.size = 15 ∧ Tryz.t138.bytes = 232 := ⟨by kernel_rfl, by kernel_rfl, by kernel_rfl, by kernel_rfl⟩
theorem Fp : Tryz.prog.info? 263 = some Tryz.t263 ∧ Tryz.t263.zero = some (.agg #[(.string ⟨#[]⟩), (.string ⟨#[]⟩), (.int .i64 0), (.int .i64 0), (.string ⟨#[]⟩), (.string ⟨#[]⟩), (.slice none 0 0), (.slice none 0 0)]) ∧ Tryz.t263.size = 8 ∧ Tryz.t263.bytes = 128 := ⟨by kernel_rfl, by kernel_rfl, by kernel_rfl, by kernel_rfl⟩
theorem wv : na Tryz.prog 28 0 0 := ms dN rfl jf (by decide) rfl
theorem xm : na Tryz.prog 28 1 1 := ms dN rfl jf (by decide) rfl
theorem Pe : (Tryz.prog.fieldsOf 28).toList = (match Tryz.prog.underlying 28 with | some (.struct fs) => fs.toList | _ => []) := by rw [dN]; simp [Program.fieldsOf, dN]
theorem yB (d : Nat) (x y : kI) (W : World) : (Op.equalIn (d + 2) 28 (.agg (kW x).toArray) (.agg (kW y).toArray)).run Tryz.prog W = .ok (lu x y) W := by
 rw [run_equalIn_struct W (d + 1) 28 _ _ (by kernel_rfl) Tryz.stoodInHeld28, Pe, dN]
 exact (sm (by decide) (ob cO rfl) (ob cO rfl) (Ps cC _ _ _ _) (sm (by decide) (ob cO rfl) (ob cO rfl) (Ps cC _ _ _ _) (EK _ _ _)))
theorem Ot : ∀ fs, Tryz.prog.underlying 28 = some (.struct fs) → ∀ w, (fs.mapM (fun (f : Field) => do pure (f.offset, ← sizeOf f.type)) : Sem (Array (Nat × Nat))).run Tryz.prog w = .ok #[(0, 1), (1, 1)] w := by
 intro fs h w
 rw [dN] at h
 cases h
 kernel_rfl
theorem za : na Tryz.prog 53 0 0 := ms dW rfl fK (by decide) rfl
theorem vn : na Tryz.prog 53 1 1 := ms dW rfl bG (by decide) rfl
theorem Dk : na Tryz.prog 53 2 3 := ms dW rfl jf (by decide) rfl
theorem qV : na Tryz.prog 53 3 4 := ms dW rfl bG (by decide) rfl
theorem zr : na Tryz.prog 53 4 6 := ms dW rfl bG (by decide) rfl
theorem Ay : na Tryz.prog 53 5 8 := ms dW rfl jf (by decide) rfl
theorem O5 : (Tryz.prog.fieldsOf 53).toList = (match Tryz.prog.underlying 53 with | some (.struct fs) => fs.toList | _ => []) := by rw [dW]; simp [Program.fieldsOf, dW]
theorem yK (d : Nat) (x y : kJ) (W : World) : (Op.equalIn (d + 3) 53 (.agg (kN x).toArray) (.agg (kN y).toArray)).run Tryz.prog W = .ok (lV x y) W := by
 rw [run_equalIn_struct W (d + 2) 53 _ _ (by kernel_rfl) Tryz.stoodInHeld53, O5, dW]
 exact (sm (by decide) (ob cV rfl) (ob cV rfl) (Ry eX _ _ _ _) (sm (by decide) (we bY bG rfl) (we bY bG rfl) (yB _ x.Head y.Head W) (sm (by decide) (ob cO rfl) (ob cO rfl) (Ps cC _ _ _ _) (sm (by decide) (we bY bG rfl) (we bY bG rfl) (yB _ x.B y.B W) (sm (by decide) (we bY bG rfl) (we bY bG rfl) (yB _ x.C y.C W) (sm (by decide) (ob cO rfl) (ob cO rfl) (Ps cC _ _ _ _) (EK _ _ _)))))))
theorem Rx : ∀ fs, Tryz.prog.underlying 53 = some (.struct fs) → ∀ w, (fs.mapM (fun (f : Field) => do pure (f.offset, ← sizeOf f.type)) : Sem (Array (Nat × Nat))).run Tryz.prog w = .ok #[(0, 1), (1, 2), (3, 1), (4, 2), (6, 2), (8, 1)] w := by
 intro fs h w
 rw [dW] at h
 cases h
 kernel_rfl
theorem Jz : na Tryz.prog 38 0 0 := ms iH rfl bG (by decide) rfl
theorem Dx : na Tryz.prog 38 1 2 := ms iH rfl jf (by decide) rfl
theorem QQ : ∀ fs, Tryz.prog.underlying 38 = some (.struct fs) → ∀ w, (fs.mapM (fun (f : Field) => do pure (f.offset, ← sizeOf f.type)) : Sem (Array (Nat × Nat))).run Tryz.prog w = .ok #[(0, 2), (2, 1)] w := by
 intro fs h w
 rw [iH] at h
 cases h
 kernel_rfl
theorem Qa : Tryz.prog.cellsOf 3 = 1 := by kernel_rfl
theorem Ky (d : Nat) (x y : mM) (W : World) : (Op.equalIn (d + 2) 114 (.agg (nC x).toArray) (.agg (nC y).toArray)).run Tryz.prog W = .ok (ze x y) W :=
 LV fH Sq.1 Qa (E2 (ob cV rfl) (ob cV rfl) (Ry eX _ _ _ _) (E2 (ob cV rfl) (ob cV rfl) (Ry eX _ _ _ _) (Ku _ _ _ _ _)))
theorem LA : na Tryz.prog 376 0 0 := ms jY rfl sizeOf57 (by decide) rfl
theorem Sw : ∀ fs, Tryz.prog.underlying 376 = some (.struct fs) → ∀ w, (fs.mapM (fun (f : Field) => do pure (f.offset, ← sizeOf f.type)) : Sem (Array (Nat × Nat))).run Tryz.prog w = .ok #[(0, 1)] w := by
 intro fs h w
 rw [jY] at h
 cases h
 kernel_rfl
theorem PR : na Tryz.prog 196 0 0 := ms underlying196 rfl jf (by decide) rfl
theorem Qf : na Tryz.prog 196 1 1 := ms underlying196 rfl kz (by decide) rfl
theorem zD : na Tryz.prog 56 0 0 := ms jI rfl aW (by decide) rfl
theorem Rz : na Tryz.prog 56 1 9 := ms jI rfl kz (by decide) rfl
theorem To : ∀ fs, Tryz.prog.underlying 56 = some (.struct fs) → ∀ w, (fs.mapM (fun (f : Field) => do pure (f.offset, ← sizeOf f.type)) : Sem (Array (Nat × Nat))).run Tryz.prog w = .ok #[(0, 9), (9, 1)] w := by
 intro fs h w
 rw [jI] at h
 cases h
 kernel_rfl
theorem Bw : na Tryz.prog 92 0 0 := ms jg rfl kz (by decide) rfl
theorem R7 : ∀ fs, Tryz.prog.underlying 92 = some (.struct fs) → ∀ w, (fs.mapM (fun (f : Field) => do pure (f.offset, ← sizeOf f.type)) : Sem (Array (Nat × Nat))).run Tryz.prog w = .ok #[(0, 1)] w := by
 intro fs h w
 rw [jg] at h
 cases h
 kernel_rfl
theorem tD : na Tryz.prog 113 0 0 := ms bZ rfl fK (by decide) rfl
theorem xE : na Tryz.prog 113 1 1 := ms bZ rfl fK (by decide) rfl
theorem xJ : na Tryz.prog 113 2 2 := ms bZ rfl bG (by decide) rfl
theorem se : na Tryz.prog 113 3 4 := ms bZ rfl sizeOf111 (by decide) rfl
theorem yn : ∀ fs, Tryz.prog.underlying 113 = some (.struct fs) → ∀ w, (fs.mapM (fun (f : Field) => do pure (f.offset, ← sizeOf f.type)) : Sem (Array (Nat × Nat))).run Tryz.prog w = .ok #[(0, 1), (1, 1), (2, 2), (4, 1)] w := by
 intro fs h w
 rw [bZ] at h
 cases h
 kernel_rfl
theorem xG : na Tryz.prog 138 0 0 := ms gO rfl kj (by decide) rfl
theorem KI : na Tryz.prog 138 1 10 := ms gO rfl aC (by decide) rfl
theorem Pw : ∀ fs, Tryz.prog.underlying 138 = some (.struct fs) → ∀ w, (fs.mapM (fun (f : Field) => do pure (f.offset, ← sizeOf f.type)) : Sem (Array (Nat × Nat))).run Tryz.prog w = .ok #[(0, 10), (10, 5)] w := by
 intro fs h w
 rw [gO] at h
 cases h
 kernel_rfl
theorem KV : na Tryz.prog 263 0 0 := ms underlying263 rfl bG (by decide) rfl
theorem LC : na Tryz.prog 263 1 2 := ms underlying263 rfl aC (by decide) rfl
theorem KN : na Tryz.prog 263 2 7 := ms underlying263 rfl sizeOf22 (by decide) rfl
theorem Ft : na Tryz.prog 110 0 0 := ms dR rfl jf (by decide) rfl
theorem pt : na Tryz.prog 110 1 1 := ms dR rfl kk (by decide) rfl
theorem LB : na Tryz.prog 110 2 2 := ms dR rfl sizeOf108 (by decide) rfl
theorem Gx : ∀ fs, Tryz.prog.underlying 110 = some (.struct fs) → ∀ w, (fs.mapM (fun (f : Field) => do pure (f.offset, ← sizeOf f.type)) : Sem (Array (Nat × Nat))).run Tryz.prog w = .ok #[(0, 1), (1, 1), (2, 1)] w := by
 intro fs h w
 rw [dR] at h
 cases h
 kernel_rfl
theorem xz : na Tryz.prog 116 0 0 := ms dZ rfl eA (by decide) rfl
theorem vI : na Tryz.prog 116 1 3 := ms dZ rfl eA (by decide) rfl
theorem Fj : na Tryz.prog 116 2 6 := ms dZ rfl aC (by decide) rfl
theorem Qe : na Tryz.prog 116 8 17 := ms dZ rfl sizeOf49 (by decide) rfl
theorem IS : ∀ fs, Tryz.prog.underlying 116 = some (.struct fs) → ∀ w, (fs.mapM (fun (f : Field) => do pure (f.offset, ← sizeOf f.type)) : Sem (Array (Nat × Nat))).run Tryz.prog w = .ok #[(0, 3), (3, 3), (6, 5), (11, 1), (12, 2), (14, 1), (15, 1), (16, 1), (17, 1)] w := by
 intro fs h w
 rw [dZ] at h
 cases h
 kernel_rfl
theorem xP : na Tryz.prog 294 0 0 := ms fL rfl sizeOf290 (by decide) rfl
theorem HU : na Tryz.prog 294 1 1 := ms fL rfl sizeOf22 (by decide) rfl
theorem LF : na Tryz.prog 294 2 2 := ms fL rfl sizeOf291 (by decide) rfl
theorem HL : na Tryz.prog 294 3 3 := ms fL rfl sizeOf292 (by decide) rfl
theorem Bm : na Tryz.prog 294 4 4 := ms fL rfl sizeOf68 (by decide) rfl
theorem Fu : na Tryz.prog 294 5 5 := ms fL rfl fK (by decide) rfl
theorem Sy : ∀ fs, Tryz.prog.underlying 294 = some (.struct fs) → ∀ w, (fs.mapM (fun (f : Field) => do pure (f.offset, ← sizeOf f.type)) : Sem (Array (Nat × Nat))).run Tryz.prog w = .ok #[(0, 1), (1, 1), (2, 1), (3, 1), (4, 1), (5, 1)] w := by
 intro fs h w
 rw [fL] at h
 cases h
 kernel_rfl
def pq : rr Key := fun μ ys x => ∃ (v0 : Value), ys = [.string x.lH, v0] ∧ Sl (Pl (mJ .u8)) 1 μ v0 x.Key
theorem pq.out {μ : lG} {ys : List Value} {x : Key} (h : pq μ ys x) : ∃ (v0 : Value), ys = [.string x.lH, v0] ∧ Sl (Pl (mJ .u8)) 1 μ v0 x.Key := h
theorem pq.mk {μ : lG} {ys : List Value} {x : Key} (h : ∃ (v0 : Value), ys = [.string x.lH, v0] ∧ Sl (Pl (mJ .u8)) 1 μ v0 x.Key) : pq μ ys x := h
theorem qX : Deep pq 2 where
 mono := by rintro _ _ _ _ b ⟨v0, rfl, a⟩; exact ⟨v0, rfl, a.mono (Pl.mono _) b⟩
 len := by rintro _ _ _ ⟨v0, rfl, a⟩; rfl
 one := by
  rintro _ _ _ ⟨v0, rfl, a⟩
  intro u hu; simp only [aK, dG, gM] at hu; rcases hu with rfl | rfl
  ·rfl
  ·exact a.A8
def ub : rr Signed := fun μ ys x => ∃ (v0 : Value), ys = [.int .i64 x.kJ.Kind, .string x.kJ.Head.kK, .string x.kJ.Head.kP, .string x.kJ.lH, .string x.kJ.B.kK, .string x.kJ.B.kP, .string x.kJ.C.kK, .string x.kJ.C.kP, .string x.kJ.lM, v0] ∧ Sl (Pl (mJ .u8)) 1 μ v0 x.Tag
theorem ub.out {μ : lG} {ys : List Value} {x : Signed} (h : ub μ ys x) : ∃ (v0 : Value), ys = [.int .i64 x.kJ.Kind, .string x.kJ.Head.kK, .string x.kJ.Head.kP, .string x.kJ.lH, .string x.kJ.B.kK, .string x.kJ.B.kP, .string x.kJ.C.kK, .string x.kJ.C.kP, .string x.kJ.lM, v0] ∧ Sl (Pl (mJ .u8)) 1 μ v0 x.Tag := h
theorem ub.mk {μ : lG} {ys : List Value} {x : Signed} (h : ∃ (v0 : Value), ys = [.int .i64 x.kJ.Kind, .string x.kJ.Head.kK, .string x.kJ.Head.kP, .string x.kJ.lH, .string x.kJ.B.kK, .string x.kJ.B.kP, .string x.kJ.C.kK, .string x.kJ.C.kP, .string x.kJ.lM, v0] ∧ Sl (Pl (mJ .u8)) 1 μ v0 x.Tag) : ub μ ys x := h
theorem Bf : Deep ub 10 where
 mono := by rintro _ _ _ _ b ⟨v0, rfl, a⟩; exact ⟨v0, rfl, a.mono (Pl.mono _) b⟩
 len := by rintro _ _ _ ⟨v0, rfl, a⟩; rfl
 one := by
  rintro _ _ _ ⟨v0, rfl, a⟩
  intro u hu; simp only [aK, dG, gM] at hu; rcases hu with rfl | rfl | rfl | rfl | rfl | rfl | rfl | rfl | rfl | rfl
  ·rfl
  ·rfl
  ·rfl
  ·rfl
  ·rfl
  ·rfl
  ·rfl
  ·rfl
  ·rfl
  ·exact a.A8
def yg : Nat → rr Formula
 | 0 => fun _ _ _ => False
 | n + 1 => fun μ ys x => ∃ (v0 : Value), ys = [.int .i64 x.Op, .int .i64 x.K, .string x.kI.kK, .string x.kI.kP, v0] ∧ Sl (yg n) 5 μ v0 x.Kids
def kL : rr Formula := fun μ ys x => ∃ n, yg n μ ys x
theorem Ey : ∀ n, IU (yg n)
 | 0 => fun _ _ _ _ _ h => h
 | n + 1 => by rintro _ _ _ _ b ⟨v0, rfl, a⟩; exact ⟨v0, rfl, a.mono (Ey n) b⟩
theorem GR : ∀ n m (μ : lG) (ys : List Value) (x : Formula), n ≤ m → yg n μ ys x → yg m μ ys x
 | 0, _, _, _, _, _, h => h.elim
 | n + 1, 0, _, _, _, a, _ => absurd a (by omega)
 | n + 1, m + 1, μ, ys, x, a, h => by
  obtain ⟨v0, rfl, b⟩ := h
  exact ⟨v0, rfl, b.imp fun ys x h => GR n m μ ys x (by omega) h⟩
theorem kL.out {μ : lG} {ys : List Value} {x : Formula} (h : kL μ ys x) : ∃ (v0 : Value), ys = [.int .i64 x.Op, .int .i64 x.K, .string x.kI.kK, .string x.kI.kP, v0] ∧ Sl kL 5 μ v0 x.Kids := by
 obtain ⟨n, h⟩ := h
 cases n with
 | zero => exact h.elim
 | succ n =>
  obtain ⟨v0, rfl, a⟩ := h
  exact ⟨v0, rfl, a.imp fun ys x h => ⟨n, h⟩⟩
theorem kL.mk {μ : lG} {ys : List Value} {x : Formula} (h : ∃ (v0 : Value), ys = [.int .i64 x.Op, .int .i64 x.K, .string x.kI.kK, .string x.kI.kP, v0] ∧ Sl kL 5 μ v0 x.Kids) : kL μ ys x := by
 obtain ⟨v0, rfl, d⟩ := h
 obtain ⟨n, i⟩ := d.SK (fun _ _ h => h) (fun a b ys x g h => GR a b _ ys x g h)
 exact ⟨n + 1, v0, rfl, i⟩
theorem kT : Deep kL 5 where
 mono := fun _ _ _ _ b ⟨n, h⟩ => ⟨n, Ey n _ _ _ _ b h⟩
 len := by rintro _ _ _ h; obtain ⟨v0, rfl, a⟩ := h.out; rfl
 one := by
  rintro _ _ _ h
  obtain ⟨v0, rfl, a⟩ := h.out
  intro u hu; simp only [aK, dG, gM] at hu; rcases hu with rfl | rfl | rfl | rfl | rfl
  ·rfl
  ·rfl
  ·rfl
  ·rfl
  ·exact a.A8
def lm : rr kY := fun μ ys x => ∃ (v0 : Value) (v1 : Value), ys = [.int .i64 x.Signed.kJ.Kind, .string x.Signed.kJ.Head.kK, .string x.Signed.kJ.Head.kP, .string x.Signed.kJ.lH, .string x.Signed.kJ.B.kK, .string x.Signed.kJ.B.kP, .string x.Signed.kJ.C.kK, .string x.Signed.kJ.C.kP, .string x.Signed.kJ.lM, v0, .int .i64 x.kO.Op, .int .i64 x.kO.K, .string x.kO.kI.kK, .string x.kO.kI.kP, v1] ∧ Sl (Pl (mJ .u8)) 1 μ v0 x.Signed.Tag ∧ Sl kL 5 μ v1 x.kO.Kids
theorem lm.out {μ : lG} {ys : List Value} {x : kY} (h : lm μ ys x) : ∃ (v0 : Value) (v1 : Value), ys = [.int .i64 x.Signed.kJ.Kind, .string x.Signed.kJ.Head.kK, .string x.Signed.kJ.Head.kP, .string x.Signed.kJ.lH, .string x.Signed.kJ.B.kK, .string x.Signed.kJ.B.kP, .string x.Signed.kJ.C.kK, .string x.Signed.kJ.C.kP, .string x.Signed.kJ.lM, v0, .int .i64 x.kO.Op, .int .i64 x.kO.K, .string x.kO.kI.kK, .string x.kO.kI.kP, v1] ∧ Sl (Pl (mJ .u8)) 1 μ v0 x.Signed.Tag ∧ Sl kL 5 μ v1 x.kO.Kids := h
theorem lm.mk {μ : lG} {ys : List Value} {x : kY} (h : ∃ (v0 : Value) (v1 : Value), ys = [.int .i64 x.Signed.kJ.Kind, .string x.Signed.kJ.Head.kK, .string x.Signed.kJ.Head.kP, .string x.Signed.kJ.lH, .string x.Signed.kJ.B.kK, .string x.Signed.kJ.B.kP, .string x.Signed.kJ.C.kK, .string x.Signed.kJ.C.kP, .string x.Signed.kJ.lM, v0, .int .i64 x.kO.Op, .int .i64 x.kO.K, .string x.kO.kI.kK, .string x.kO.kI.kP, v1] ∧ Sl (Pl (mJ .u8)) 1 μ v0 x.Signed.Tag ∧ Sl kL 5 μ v1 x.kO.Kids) : lm μ ys x := h
theorem ll : Deep lm 15 where
 mono := by rintro _ _ _ _ b ⟨v0, v1, rfl, a, h1⟩; exact ⟨v0, v1, rfl, a.mono (Pl.mono _) b, h1.mono kT.mono b⟩
 len := by rintro _ _ _ ⟨v0, v1, rfl, a, h1⟩; rfl
 one := by
  rintro _ _ _ ⟨v0, v1, rfl, a, h1⟩
  intro u hu; simp only [aK, dG, gM] at hu; rcases hu with rfl | rfl | rfl | rfl | rfl | rfl | rfl | rfl | rfl | rfl | rfl | rfl | rfl | rfl | rfl
  ·rfl
  ·rfl
  ·rfl
  ·rfl
  ·rfl
  ·rfl
  ·rfl
  ·rfl
  ·rfl
  ·exact a.A8
  ·rfl
  ·rfl
  ·rfl
  ·rfl
  ·exact h1.A8
def lX : rr nS := fun μ ys x => ∃ (v0 : Value) (v1 : Value), ys = [.string x.kI.kK, .string x.kI.kP, .int .i64 x.kO.Op, .int .i64 x.kO.K, .string x.kO.kI.kK, .string x.kO.kI.kP, v0, v1] ∧ Sl kL 5 μ v0 x.kO.Kids ∧ Sl (Pl kN) 9 μ v1 x.nM
theorem lX.out {μ : lG} {ys : List Value} {x : nS} (h : lX μ ys x) : ∃ (v0 : Value) (v1 : Value), ys = [.string x.kI.kK, .string x.kI.kP, .int .i64 x.kO.Op, .int .i64 x.kO.K, .string x.kO.kI.kK, .string x.kO.kI.kP, v0, v1] ∧ Sl kL 5 μ v0 x.kO.Kids ∧ Sl (Pl kN) 9 μ v1 x.nM := h
theorem lX.mk {μ : lG} {ys : List Value} {x : nS} (h : ∃ (v0 : Value) (v1 : Value), ys = [.string x.kI.kK, .string x.kI.kP, .int .i64 x.kO.Op, .int .i64 x.kO.K, .string x.kO.kI.kK, .string x.kO.kI.kP, v0, v1] ∧ Sl kL 5 μ v0 x.kO.Kids ∧ Sl (Pl kN) 9 μ v1 x.nM) : lX μ ys x := h
theorem mr : Deep lX 8 where
 mono := by rintro _ _ _ _ b ⟨v0, v1, rfl, a, h1⟩; exact ⟨v0, v1, rfl, a.mono kT.mono b, h1.mono (Pl.mono _) b⟩
 len := by rintro _ _ _ ⟨v0, v1, rfl, a, h1⟩; rfl
 one := by
  rintro _ _ _ ⟨v0, v1, rfl, a, h1⟩
  intro u hu; simp only [aK, dG, gM] at hu; rcases hu with rfl | rfl | rfl | rfl | rfl | rfl | rfl | rfl
  ·rfl
  ·rfl
  ·rfl
  ·rfl
  ·rfl
  ·rfl
  ·exact a.A8
  ·exact h1.A8
theorem G2 : pD Tryz.prog 9 Value.string mn := pD.string cC
theorem AF : pD Tryz.prog 28 (fun (x : kI) => (.agg (kW x).toArray)) lu :=
 pD.struct dN (fun d x y W => yB (d + 8) x y W) (fun b k W => vl dN rfl (cM.2 ⟨fun _ => ⟨.string k.kK, ob cO rfl, oH cC _ _ _ _⟩, (cM.2 ⟨fun _ => ⟨.string k.kP, ob cO rfl, oH cC _ _ _ _⟩, (fun _ h => by cases h)⟩)⟩))
  (fun k x h => (lx.1 h).symm) (fun k => by simp [Instr.sameBits, kW, B5, nh])
theorem LH : pD Tryz.prog 53 (fun (x : kJ) => (.agg (kN x).toArray)) lV :=
 pD.struct dW (fun d x y W => yK (d + 7) x y W) (fun b k W => vl dW rfl (cM.2 ⟨fun _ => ⟨.int .i64 k.Kind, ob cV rfl, I6 eX _ _ _ _ _⟩, (cM.2 ⟨fun _ => ⟨.agg (kW k.Head).toArray, we bY bG rfl, vl dN rfl (cM.2 ⟨fun _ => ⟨.string k.Head.kK, ob cO rfl, oH cC _ _ _ _⟩, (cM.2 ⟨fun _ => ⟨.string k.Head.kP, ob cO rfl, oH cC _ _ _ _⟩, (fun _ h => by cases h)⟩)⟩)⟩, (cM.2 ⟨fun _ => ⟨.string k.lH, ob cO rfl, oH cC _ _ _ _⟩, (cM.2 ⟨fun _ => ⟨.agg (kW k.B).toArray, we bY bG rfl, vl dN rfl (cM.2 ⟨fun _ => ⟨.string k.B.kK, ob cO rfl, oH cC _ _ _ _⟩, (cM.2 ⟨fun _ => ⟨.string k.B.kP, ob cO rfl, oH cC _ _ _ _⟩, (fun _ h => by cases h)⟩)⟩)⟩, (cM.2 ⟨fun _ => ⟨.agg (kW k.C).toArray, we bY bG rfl, vl dN rfl (cM.2 ⟨fun _ => ⟨.string k.C.kK, ob cO rfl, oH cC _ _ _ _⟩, (cM.2 ⟨fun _ => ⟨.string k.C.kP, ob cO rfl, oH cC _ _ _ _⟩, (fun _ h => by cases h)⟩)⟩)⟩, (cM.2 ⟨fun _ => ⟨.string k.lM, ob cO rfl, oH cC _ _ _ _⟩, (fun _ h => by cases h)⟩)⟩)⟩)⟩)⟩)⟩))
  (fun k x h => (mC.1 h).symm) (fun k => by simp [Instr.sameBits, kN, B5, nh])
theorem uF (a : kJ) (r : kY) (w : World) {B : lG} (H : oW B [] w) (hm : py a = some r) :
  mE true Tryz.prog 187 [(.agg (kN a).toArray)] w B [] (fun v G D => ∃ x y, v = (.agg #[(.int .i64 ((((r).Signed).kJ).Kind)), (.string (((((r).Signed).kJ).Head).kK)), (.string (((((r).Signed).kJ).Head).kP)), (.string ((((r).Signed).kJ).lH)), (.string (((((r).Signed).kJ).B).kK)), (.string (((((r).Signed).kJ).B).kP)), (.string (((((r).Signed).kJ).C).kK)), (.string (((((r).Signed).kJ).C).kP)), (.string ((((r).Signed).kJ).lM)), x, (.int .i64 (((r).kO).Op)), (.int .i64 (((r).kO).K)), (.string ((((r).kO).kI).kK)), (.string ((((r).kO).kI).kP)), y]) ∧ G = [] ∧ Sl (Pl (mJ .u8)) 1 D x (((r).Signed).Tag) ∧ Sl kL 5 D y (((r).kO).Kids)) := by
 refine vd H 8 func187 rfl (fun b => sg (VE (mx b rfl (fun Q U b => VE (lZ b eF (fun T Y b => ln (lj ?_)))))))
 replace b := b.drew
 have d := b.has.kM (Db (Kb Sn))
 refine mA d lL (XH 0 rfl d (fun _ l => kQ rfl (kX l Mh (kN a) rfl cN aW)) (X 3 rfl d (ns (v := (.agg KG.toArray)) (ot rfl) (mP bE bZ (yn _ bZ) kr)) (bS hm fun i t hm => XE 1 rfl (Kj (enc := (mJ .u8)) (z := 0) b (fun _ => rfl) dc dO tG.1 tG.2.1 tG.2.2.1 tG.2.2.2 rfl rfl rfl t (fun J M I b j => ?_)))))
 have d := b.has.kM (Dr (Db (Kb Sn)))
 refine ⟨d, ?_⟩
 obtain ⟨c, g, rfl⟩ := j.form
 let Z := (TS a.Kind a.Head.kK a.Head.kP a.lH a.B.kK a.B.kP a.C.kK a.C.kP a.lM c i.length g)
 refine X 2 rfl d (ns (v := (.agg (C5 a.Kind a.Head.kK a.Head.kP a.lH a.B.kK a.B.kP a.C.kK a.C.kP a.lM c i.length g).toArray)) (pE rfl rfl) (mP kA jI (To _ jI) kr)) (X 4 rfl d (ns (v := (.agg Z.toArray)) (pE rfl rfl) (mP eF gO (Pw _ gO) kr)) ?_)
 replace b := b.perm (Nb (Pr Pz) Nz)
 refine XO 5 rfl (lA (.agg Z.toArray) (Z.toArray) b rfl rfl cR oc nb rfl (fun K b => ?_))
 have d := b.has.kM (Db (Dr (Kb Sn)))
 refine ⟨d, (mH kr (li ?_))⟩
 replace b := b.kM (Kb (Kr (Db St)))
 refine ma ?_
 obtain rfl := sj hm
 refine oI (v := (.agg Z.toArray)) rfl rfl (kX b.has Mh Z rfl jw cR) ?_
 replace b := b.perm (Nr (Qb Qz) Nz)
 obtain ⟨N, b, k, h, u⟩ := ST.Ou b j (fun _ => rfl)
 exact ⟨_, _, _, rfl, (b.ny Sn), k, h, (ST.mf b (nL.mem Sn)), (.slice c i.length g), (.slice none 0 0), rfl, rfl, u, (Sl.nil _ _ _)⟩
theorem RU (w : World) (s : ByteArray) (c : Int) : (callFunc 395 [Value.string s, .int .u8 c].toArray).run Tryz.prog w = .ok (.value (.int .i64 (xT s c))) w := Hs func395 (by kernel_rfl) (by kernel_rfl) (by kernel_rfl) (by kernel_rfl) s c w
theorem yJ (a : ByteArray) (c r : Int) (w : World) (hm : px a c = some r) :
  mi true Tryz.prog 341 [(.string a), (.int .u8 c)] w (.int .i64 r) := by
 exact cG 8 func341 rfl (fun b => sg (Wa (lr (Wm (Wm (VE (Mo (args := [(.string a), (.int .u8 c)]) (v := .int .i64 (xT a c)) rfl (by exact xR rfl rfl) (RU _ a c) (Wa (lt (rQ hm b))))))))))
theorem zH (a : ByteArray) (c r : Int) (w : World) (hm : sK a c = some r) :
  mi true Tryz.prog 266 [(.string a), (.int .u8 c)] w (.int .i64 r) := by
 refine cG 8 func266 rfl (fun b => sg (Wa (lr (Wm (Wm (bS hm fun j g hm => VE (Eg b call341 (yJ a c _ _  g) (fun i b => Wa (ln ?_)))))))))
 exact ma (rQ hm b)
theorem Kw (I : ByteArray) (r : Bool) (w : World) (hm : Cw I = some r) :
  mi true Tryz.prog 267 [(.string I)] w (.bool r) := by
 refine cG 16 func267 rfl (fun b => sg (Wa (lS (Wm (bS hm fun H J hm => VE (Iv b cC dO kB rfl J (fun W3 N T b M n j Y => V (nn dO rfl j) (Wm (lY ?_)))))))))
 refine li (nm (fun i E W => ∃ c, (E 8 = .int .i64 (i : Nat) ∧ E 7 = .int .i64 (H.length : Nat)) ∧ ST true nl w W T c ∧ E 6 = N ∧ vK (H.drop i) = some r) H.length j.len ⟨_, ⟨rfl, rfl⟩, (b.kM St), rfl, hm⟩ dc dc dc (fun _ _ _ h => by obtain ⟨_, l, _⟩ := h; exact l) ?_ ?_)
 ·rintro K E W u ⟨c, ⟨d, m⟩, b, g, a⟩
  obtain ⟨k, Q, D, B, G⟩ := mT u
  rw [D] at a
  refine bg (VQ (vt (enc := (mJ .u8)) (i := (K : Int)) (x0 := k) dO sizeOf5 g d j (bA _) B) (fun Z x => V (kQ rfl (vv b.has (y := (.int .u8 k)) x isAgg5)) (Wa (lr (Wm (bS a fun p z a => VE (Eg b call266 (zH (⟨#[97, 98, 99, 100, 101, 102, 103, 104, 105, 106, 107, 108, 109, 110, 111, 112, 113, 114, 115, 116, 117, 118, 119, 120, 121, 122, 48, 49, 50, 51, 52, 53, 54, 55, 56, 57, 45]⟩ : ByteArray) k _ _  z) (fun U b => Wi rfl (lY ?_)))))))))
  refine li (CI a rfl (fun t a => ?_) (fun t a => ?_))
  ·refine sg (Wa (lt (qI (mV (qI (mV ?_))))))
   obtain rfl := sj a
   exact rP b
  exact nt (me (li ⟨d, _, ⟨rfl, m⟩, (b.kM St), g, (by rw [G]; exact a)⟩))
 rintro E W ⟨c, ⟨d, m⟩, b, g, a⟩
 rw [bD] at a
 exact li (sg (Wa (lt (rQ a b))))
theorem xd (z : ByteArray) (r : Bool) (w : World) (hm : tC z = some r) :
  mi true Tryz.prog 152 [(.string z)] w (.bool r) := by
 refine cG 21 func152 rfl (fun b => sg (Wa (lr (Wm (V (qz cC rfl) (Wi rfl (Wm (LJ hm (fun K E W => ∃ Y, ST true nl w W (hp w) Y ∧ E 0 = (.string z) ∧ E 2 = (.bool false) ∧ E 10 = (.bool K)) 4 ?_ (fun K t y => ?_)))))))))
 ·rintro x2 E W ⟨Y, b, M, d, l⟩ a5
  refine Wh l (LJ a5 (fun J E W => ∃ D, ST true nl w W (hp w) D ∧ E 0 = (.string z) ∧ E 2 = (.bool false) ∧ E 16 = (.bool J)) 5 ?_ (fun J a x => ?_))
  ·rintro s E W ⟨D, b, h, H, a2⟩ N
   refine Wh a2 (LJ N (fun I E W => ∃ G, ST true nl w W (hp w) G ∧ E 2 = (.bool false) ∧ E 20 = (.bool I)) 3 ?_ (fun I j u => ?_))
   ·rintro v E W ⟨G, b, a9, a3⟩ Q
    exact Wg a3 (lt (rQ Q b))
   refine bC j (fun g j => ?_) (fun g j => ?_)
   ·refine ug g (kZ h) (bS j fun p T j => zG g (Eg b call267 (Kw z _ _  T) (fun m b => V (mh (cB g) rfl) ?_)))
    obtain rfl := sj j
    exact u _ _ ⟨_, (b.kM St), H, rfl⟩
   refine un g (un g (V (mg (cB g) rfl) ?_))
   obtain rfl := sj j
   exact u _ _ ⟨_, (b.kM St), H, rfl⟩
  refine bC a (fun c a => ?_) (fun c a => ?_)
  ·refine ug c (kZ M) (bS a fun Z B a => ug c (MN (i := 0) cC rfl rfl (Ks B) (OK B)) (bS a fun q U a => zG c (Eg b call266 (zH (⟨#[97, 98, 99, 100, 101, 102, 103, 104, 105, 106, 107, 108, 109, 110, 111, 112, 113, 114, 115, 116, 117, 118, 119, 120, 121, 122]⟩ : ByteArray) (Z.toNat : Int) _ _  U) (fun n b => ug c (lW rfl rfl rfl) (V (mh (cB c) rfl) ?_)))))
   obtain rfl := sj a
   exact x _ _ ⟨_, (b.kM St), M, d, rfl⟩
  refine un c (un c (un c (un c (V (mg (cB c) rfl) ?_))))
  obtain rfl := sj a
  exact x _ _ ⟨_, (b.kM St), M, d, rfl⟩
 refine bC t (fun k t => ?_) (fun k t => ?_)
 ·refine ug k (kZ rfl) (ug k (qz cC rfl) (ug k (lW rfl rfl rfl) (V (mh (cB k) rfl) ?_)))
  obtain rfl := sj t
  exact y _ _ ⟨_, (b.kM St), rfl, rfl, rfl⟩
 refine un k (un k (un k (V (mg (cB k) rfl) ?_)))
 obtain rfl := sj t
 exact y _ _ ⟨_, (b.kM St), rfl, rfl, rfl⟩
theorem uD (i : kI) (r : Bool) (w : World) (hm : rf i = some r) :
  mi true Tryz.prog 254 [(.agg (kW i).toArray)] w (.bool r) := by
 refine cG 11 func254 rfl (fun b => sg (VE (mx b rfl (fun H J b => Wa (lr (Wf wv (VB b Mh rfl rfl cO (bS hm fun K y hm => VE (Eg b call152 (xd i.kK _ _  y) (fun I b => Wm (LJ hm (fun k E W => ∃ j, ST true nl w W (hp w) j ∧ E 2 = (.bool false) ∧ E 10 = (.bool k)) 4 ?_ (fun k a g => ?_))))))))))))
 ·rintro G E W ⟨j, b, B, x⟩ t
  exact Wg x (lt (rQ t b))
 refine bC a (fun c a => ?_) (fun c a => ?_)
 ·refine ug c (lg xm rfl) (ug c (kQ rfl (lB b.has Mh rfl cO)) (bS a fun D u a => zG c (Eg b call152 (xd i.kP _ _  u) (fun z b => V (mh (cB c) rfl) ?_))))
  obtain rfl := sj a
  exact g _ _ ⟨_, (b.kM (Db St)), rfl, rfl⟩
 refine un c (un c (un c (V (mg (cB c) rfl) ?_)))
 obtain rfl := sj a
 exact g _ _ ⟨_, (b.kM (Db St)), rfl, rfl⟩
theorem Q8 (w : World) (a b : ByteArray) : (callFunc 380 [Value.string a, .string b].toArray).run Tryz.prog w = .ok (.value (.int .i64 (qe a b))) w := N6 func380 (by kernel_rfl) (by kernel_rfl) (by kernel_rfl) (by kernel_rfl) a b w
theorem yC (a c : ByteArray) (r : Int) (w : World) (hm : oA a c = some r) :
  mi true Tryz.prog 330 [(.string a), (.string c)] w (.int .i64 r) := by
 exact cG 8 func330 rfl (fun b => sg (Wa (lr (Wm (Wm (VE (Mo (args := [(.string a), (.string c)]) (v := .int .i64 (qe a c)) rfl (by exact xR rfl rfl) (Q8 _ a c) (Wa (lt (rQ hm b))))))))))
theorem AX (a c : ByteArray) (r : Int) (w : World) (hm : qC a c = some r) :
  mi true Tryz.prog 239 [(.string a), (.string c)] w (.int .i64 r) := by
 refine cG 8 func239 rfl (fun b => sg (Wa (lr (Wm (Wm (bS hm fun j g hm => VE (Eg b call330 (yC a c _ _  g) (fun i b => Wa (ln ?_)))))))))
 exact ma (rQ hm b)
theorem JX (g : Value) (t : List Int) (r : Int) (w : World) (c : Sl (Pl (mJ .i64)) 1 (hp w) g t) (hm : vE t = some r) :
  mi true Tryz.prog 238 [g] w (.int .i64 r) := by
 refine cG 18 func238 rfl (fun b => sg (Wa (lr (Wa (lS (Wm ?_))))))
 refine V (nn gP rfl c) (Wm (ln (nm (fun i E W => ∃ k, (E 8 = .int .i64 (i : Nat) ∧ E 7 = .int .i64 (t.length : Nat)) ∧ ST true nl w W (hp w) k ∧ E 3 = (.int .i64 0) ∧ E 6 = g ∧ tE (t.drop i) = some r) t.length c.len ⟨_, ⟨rfl, rfl⟩, (b.kM St), rfl, rfl, hm⟩ dc dc dc (fun _ _ _ h => by obtain ⟨_, l, _⟩ := h; exact l) ?_ ?_)))
 ·rintro J E W B ⟨k, ⟨d, m⟩, b, j, u, a⟩
  obtain ⟨x, K, H, G, I⟩ := mT B
  rw [H] at a
  refine bg (VQ (vt (enc := (mJ .i64)) (i := (J : Int)) (x0 := x) gP fK u d c (bA _) G) (fun M D => V (kQ rfl (vv b.has (y := (.int .i64 x)) D cV)) (Wa (lr (Wm (Wh j (Wi rfl (ln ?_))))))))
  refine CI a rfl (fun z a => ?_) (fun z a => ?_)
  ·refine sg (Wm (Wa (lt (qI (mV (qI (mV ?_)))))))
   obtain rfl := sj a
   exact rP b
  exact nt (me (li ⟨d, _, ⟨rfl, m⟩, (b.kM St), j, u, (by rw [I]; exact a)⟩))
 rintro E W ⟨k, ⟨d, m⟩, b, j, u, a⟩
 rw [bD] at a
 exact li (sg (Wh j (Wa (lt (rQ a b)))))
theorem Ht (g i : kI) (r : Int) (w : World) (hm : sV g i = some r) :
  mi true Tryz.prog 123 [(.agg (kW g).toArray), (.agg (kW i).toArray)] w (.int .i64 r) := by
 refine cG 17 func123 rfl (fun b => sg (VE (mx b rfl (fun G I b => VE (mx b rfl (fun H J b => Wa (ln (lj ?_))))))))
 replace b := b.drew
 have d := b.has.kM (Kb (Kb Sn))
 refine mA d lL (X 0 rfl d (lg wv rfl) (XH 1 rfl d (fun _ h => kQ rfl (lB h (Mt Mh) rfl cO)) (X 2 rfl d (lg wv rfl) (XH 3 rfl d (fun _ h => kQ rfl (lB h Mh rfl cO)) (X 5 rfl d (lg xm rfl) (XH 6 rfl d (fun _ h => kQ rfl (lB h (Mt Mh) rfl cO)) (X 7 rfl d (lg xm rfl) (XH 8 rfl d (fun _ h => kQ rfl (lB h Mh rfl cO)) (bS hm fun a j hm => XE 4 rfl (Eg b call239 (AX g.kK i.kK _ _  j) (fun x b => ?_)))))))))))
 have d := b.has.kM (Kb (Kb Sn))
 refine ⟨d, (bS hm fun c k hm => XE 9 rfl (Eg b call239 (AX g.kP i.kP _ _  k) (fun y b => ?_)))⟩
 have d := b.has.kM (Kb (Kb Sn))
 refine ⟨d, (XE 10 rfl (lO (cs := #[(.int .i64 a), (.int .i64 c)]) b (pE rfl rfl) (nZ gP fK zeroValue3) (fun z u b => ?_)))⟩
 have d := b.has.kM (Db (Kb (Kb Sn)))
 refine ⟨d, (bS hm fun D t hm => XE 11 rfl (Eg b call238 (JX (.slice (some ⟨u, 0, none⟩) 2 2) ([a, c]) _ _ (Sl.lit (enc := (mJ .i64)) (l := [a, c]) (fun _ => rfl) rfl nb rfl (b.at_ Mh)) t) (fun B b => ?_)))⟩
 have d := b.has.kM (Db (Kb (Kb Sn)))
 refine ⟨d, (X 12 rfl d (oM rfl) (mH kr (li ?_)))⟩
 exact ma (rQ hm b)
set_option maxHeartbeats 1000000 in
theorem zy (a : kJ) (r : Bool) (w : World) (hm : uC a = some r) :
  mi true Tryz.prog 137 [(.agg (kN a).toArray)] w (.bool r) := by
 let m9 := (⟨a.Kind, a.Head, zS, a.B, a.C, zS⟩ : kJ)
 let j2 := (⟨a.Kind, a.Head, zS, a.B, K0, a.lM⟩ : kJ)
 let j1 : Value := (.agg (kW a.B).toArray)
 let g6 := ((kN (⟨a.Kind, a.Head, zS, a.B, K0, zS⟩ : kJ)).toArray)
 let p := (⟨a.Kind, a.Head, zS, K0, K0, zS⟩ : kJ)
 refine cG 98 func137 rfl (fun b => sg (VE (mx b rfl (fun W2 N b => Wa (lr (Wf za (VB b Mh rfl rfl cV (Wf vn (VA b Mh (kW a.Head) bY bG (V (ns (v := (.agg (kN p).toArray)) (pE rfl rfl) (mP dT dW (Rx _ dW) kr)) (VE (lZ b dT (fun W4 B b => ?_)))))))))))))
 refine VO (lA (.agg (kN p).toArray) ((kN p).toArray) b rfl rfl aW (qQ p) nb rfl (fun W5 b => lr (Wf vn (VA b (Mt Mh) (kW a.Head) bY bG (bS hm fun n j4 hm => VE (Eg b kH (uD a.Head _ _  j4) (fun W8 b => Wa (ln (lj (Tf hm (fun A E W => ∃ R, ST true nl w W (hp w) ((B, Ol (kN A.2) 53) :: ((N, Ol (kN a) 53) :: R)) ∧ E 1 = (.pointer (some ⟨N, 0, none⟩)) ∧ E 3 = (.pointer (some ⟨B, 0, none⟩)) ∧ E 4 = (.bool A.1)) (fun A g Z => ?_) ?_))))))))))
 ·let g5 := ((kN m9).toArray : Array Value)
  let b8 := ((kN j2).toArray : Array Value)
  let m : Value := (.pointer (some ⟨B, 0, none⟩))
  let l : Value := (.pointer (some ⟨N, 0, none⟩))
  let a0 := ((kN a).toArray : Array Value)
  refine sg (Wf za (VB b (Mt Mh) rfl rfl cV (ln (bg (Wi rfl (Wa (ln (CI g rfl (fun e5 g => ?_) (fun e5 g => ?_)))))))))
  ·replace b := b.drew
   have d := b.has.kM (Db (Kb Sn))
   refine mA d lL (X 0 rfl d (lg Dk rfl) (XH 1 rfl d (fun _ h => kQ rfl (lB h Mh rfl cO)) (X 2 rfl d (kZ rfl) (X 3 rfl d (kZ rfl) (X 8 rfl d (lg Dk rfl) (PJ g (fun d6 E W => ∃ b9, ST true nl w W (hp w) ((B, Ol (kN p) 53) :: ((N, Obj.cells a0 53 (0, 0)) :: b9)) ∧ E 1 = l ∧ E 3 = m ∧ E 4 = (.bool n) ∧ E 18 = (.string a.lH) ∧ E 24 = (.bool d6) ∧ E 25 = (.pointer (some ⟨B, 3, none⟩))) (bm 11 511) 2 ?_ (fun d6 D a2 => ?_)))))))
   ·rintro m1 E W ⟨b9, b, h2, h3, k8, h4, h5, h6⟩ f1
    refine XO 9 rfl (lA (.string a.lH) ((kN (⟨a.Kind, a.Head, a.lH, K0, K0, zS⟩ : kJ)).toArray) b h6 h4 jf (OP a.lH) nb rfl (fun j5 b => ?_))
    have d := b.has.kM (Db (Kb Sn))
    refine ⟨d, (X 10 rfl d (oM h5) (mH kr (me (li ?_))))⟩
    obtain rfl := sj f1
    exact ⟨_, rfl, _, (b.kM St), h2, h3, rfl⟩
   refine bC D (fun k D => ?_) (fun k D => ?_)
   ·refine Xg 4 rfl rfl (cB k) d (lg Dk rfl) (te 5 rfl rfl (cB k) d (fun _ h => kQ rfl (lB h Mh rfl cO)) (bS D fun l2 f9 D => It 6 rfl rfl (cB k) (Eg b call152 (xd a.lH _ _  f9) (fun j6 b => ?_))))
    have d := b.has.kM (Db (Kb Sn))
    refine ⟨d, (X 7 rfl d (mh (cB k) rfl) ?_)⟩
    obtain rfl := sj D
    refine oa kr (a2 _ _ ⟨_, (b.kM St), rfl, rfl, rfl, rfl, rfl, rfl⟩)
   refine Xn 4 rfl rfl (cB k) d (Xn 5 rfl rfl (cB k) d (Xn 6 rfl rfl (cB k) d (X 7 rfl d (mg (cB k) rfl) ?_)))
   obtain rfl := sj D
   refine oa kr (a2 _ _ ⟨_, (b.kM St), rfl, rfl, rfl, rfl, rfl, rfl⟩)
  refine sg (Wi rfl (Wa (ln (CI g rfl (fun e6 g => ?_) (fun e6 g => ?_)))))
  ·replace b := b.drew
   have d := b.has.kM (Db (Kb Sn))
   refine mA d lL (X 0 rfl d (lg qV rfl) (XH 1 rfl d (fun _ h => kQ rfl (kX h Mh (kW a.B) rfl bY bG)) (X 2 rfl d (kZ rfl) (X 3 rfl d (kZ rfl) (X 8 rfl d (lg qV rfl) (PJ g (fun d7 E W => ∃ c0, ST true nl w W (hp w) ((B, Ol (kN p) 53) :: ((N, Obj.cells a0 53 (0, 0)) :: c0)) ∧ E 1 = l ∧ E 3 = m ∧ E 4 = (.bool n) ∧ E 29 = j1 ∧ E 35 = (.bool d7) ∧ E 36 = (.pointer (some ⟨B, 4, none⟩))) (bm 11 511) 2 ?_ (fun d7 G a3 => ?_)))))))
   ·rintro m2 E W ⟨c0, b, h7, h8, k9, h9, i0, i1⟩ f2
    refine XO 9 rfl (lA j1 g6 b i1 h9 bG (yX a.B) nb rfl (fun j7 b => ?_))
    have d := b.has.kM (Db (Kb Sn))
    refine ⟨d, (X 10 rfl d (oM i0) (mH kr (me (li ?_))))⟩
    obtain rfl := sj f2
    exact ⟨_, rfl, _, (b.kM St), h7, h8, rfl⟩
   refine bC G (fun t G => ?_) (fun t G => ?_)
   ·refine Xg 4 rfl rfl (cB t) d (lg qV rfl) (te 5 rfl rfl (cB t) d (fun _ h => kQ rfl (kX h Mh (kW a.B) rfl bY bG)) (bS G fun l3 g0 G => It 6 rfl rfl (cB t) (Eg b kH (uD a.B _ _  g0) (fun j8 b => ?_))))
    have d := b.has.kM (Db (Kb Sn))
    refine ⟨d, (X 7 rfl d (mh (cB t) rfl) ?_)⟩
    obtain rfl := sj G
    refine oa kr (a3 _ _ ⟨_, (b.kM St), rfl, rfl, rfl, rfl, rfl, rfl⟩)
   refine Xn 4 rfl rfl (cB t) d (Xn 5 rfl rfl (cB t) d (Xn 6 rfl rfl (cB t) d (X 7 rfl d (mg (cB t) rfl) ?_)))
   obtain rfl := sj G
   refine oa kr (a3 _ _ ⟨_, (b.kM St), rfl, rfl, rfl, rfl, rfl, rfl⟩)
  refine sg (Wi rfl (Wa (ln (CI g rfl (fun e7 g => ?_) (fun e7 g => ?_)))))
  ·refine lj ?_
   replace b := b.drew
   have d := b.has.kM (Db (Kb Sn))
   refine mA d lL (X 0 rfl d (lg qV rfl) (XH 1 rfl d (fun _ h => kQ rfl (kX h Mh (kW a.B) rfl bY bG)) (X 2 rfl d (lg Ay rfl) (XH 3 rfl d (fun _ h => kQ rfl (lB h Mh rfl cO)) (X 4 rfl d (lg qV rfl) (XO 5 rfl (lA j1 g6 b rfl rfl bG (yX a.B) nb rfl (fun j9 b => ?_))))))))
   have d := b.has.kM (Db (Kb Sn))
   refine ⟨d, (X 6 rfl d (lg Ay rfl) (XO 7 rfl (lA (.string a.lM) ((kN j2).toArray) b rfl rfl jf (OP a.lM) nb rfl (fun k0 b => ?_))))⟩
   have d := b.has.kM (Db (Kb Sn))
   refine ⟨d, (mH kr (li (lh (Wm (Wm (LJ g (fun e0 E W => ∃ c1, ST true nl w W (hp w) ((B, Obj.cells b8 53 (0, 0)) :: ((N, Obj.cells a0 53 (0, 0)) :: c1)) ∧ E 1 = l ∧ E 3 = m ∧ E 4 = (.bool n) ∧ E 50 = (.bool e0)) 4 ?_ (fun e0 I L => ?_)))))))⟩
   ·rintro m3 E W ⟨c1, b, U, c7, c8, i2⟩ f3
    refine Wh i2 (LJ f3 (fun d9 E W => ∃ c2, ST true nl w W (hp w) ((B, Obj.cells b8 53 (0, 0)) :: ((N, Obj.cells a0 53 (0, 0)) :: c2)) ∧ E 1 = l ∧ E 3 = m ∧ E 4 = (.bool n) ∧ E 59 = (.bool d9)) 8 ?_ (fun d9 T a5 => ?_))
    ·rintro m4 E W ⟨c2, b, q, c9, d0, i3⟩ f4
     refine Wh i3 (LJ f4 (fun d8 E W => ∃ c3, ST true nl w W (hp w) ((B, Obj.cells b8 53 (0, 0)) :: ((N, Obj.cells a0 53 (0, 0)) :: c3)) ∧ E 1 = l ∧ E 3 = m ∧ E 4 = (.bool n) ∧ E 64 = (.bool d8)) 4 ?_ (fun d8 H a4 => ?_))
     ·rintro m5 E W ⟨c3, b, i4, i5, l0, i6⟩ f5
      refine Wg i6 (lY (me (li ?_)))
      obtain rfl := sj f5
      exact ⟨_, rfl, _, (b.kM St), i4, i5, rfl⟩
     refine bC H (fun x H => ?_) (fun x H => ?_)
     ·refine ug x (lg Ay q) (ug x (kQ rfl (lB b.has (Mt Mh) rfl cO)) (bS H fun l4 g1 H => zG x (Eg b call152 (xd a.lM _ _  g1) (fun k1 b => V (mh (cB x) rfl) ?_))))
      obtain rfl := sj H
      exact a4 _ _ ⟨_, (b.kM St), q, c9, d0, rfl⟩
     refine un x (un x (un x (V (mg (cB x) rfl) ?_)))
     obtain rfl := sj H
     exact a4 _ _ ⟨_, (b.kM St), q, c9, d0, rfl⟩
    refine bC T (fun c T => ?_) (fun c T => ?_)
    ·refine ug c (lg qV U) (ug c (lg wv rfl) (ug c (kQ rfl (lB b.has (Mt Mh) rfl cO)) (ug c (lg vn U) (ug c (lg wv rfl) (ug c (kQ rfl (lB b.has (Mt Mh) rfl cO)) (ug c (SO rfl rfl rfl) (V (mh (cB c) rfl) ?_)))))))
     obtain rfl := sj T
     exact a5 _ _ ⟨_, (b.kM St), U, c7, c8, rfl⟩
    refine un c (un c (un c (un c (un c (un c (un c (V (mg (cB c) rfl) ?_)))))))
    obtain rfl := sj T
    exact a5 _ _ ⟨_, (b.kM St), U, c7, c8, rfl⟩
   refine bC I (fun u I => ?_) (fun u I => ?_)
   ·refine ug u (lg qV rfl) (ug u (kQ rfl (kX b.has (Mt Mh) (kW a.B) rfl bY bG)) (bS I fun l5 g2 I => zG u (Eg b kH (uD a.B _ _  g2) (fun k2 b => V (mh (cB u) rfl) ?_))))
    obtain rfl := sj I
    exact L _ _ ⟨_, (b.kM St), rfl, rfl, rfl, rfl⟩
   refine un u (un u (un u (V (mg (cB u) rfl) ?_)))
   obtain rfl := sj I
   exact L _ _ ⟨_, (b.kM St), rfl, rfl, rfl, rfl⟩
  refine sg (Wi rfl (Wa (ln (CI g rfl (fun e8 g => ?_) (fun e8 g => ?_)))))
  ·refine lj ?_
   replace b := b.drew
   have d := b.has.kM (Db (Kb Sn))
   refine mA d lL (X 0 rfl d (lg qV rfl) (XH 1 rfl d (fun _ h => kQ rfl (kX h Mh (kW a.B) rfl bY bG)) (X 2 rfl d (lg zr rfl) (XH 3 rfl d (fun _ h => kQ rfl (kX h Mh (kW a.C) rfl bY bG)) (X 4 rfl d (lg qV rfl) (XO 5 rfl (lA j1 g6 b rfl rfl bG (yX a.B) nb rfl (fun k3 b => ?_))))))))
   have d := b.has.kM (Db (Kb Sn))
   refine ⟨d, (X 6 rfl d (lg zr rfl) (XO 7 rfl (lA (.agg (kW a.C).toArray) ((kN m9).toArray) b rfl rfl bG (yX a.C) nb rfl (fun k4 b => ?_))))⟩
   have d := b.has.kM (Db (Kb Sn))
   refine ⟨d, (mH kr (li (lh (Wm (Wm (LJ g (fun e3 E W => ∃ c4, ST true nl w W (hp w) ((B, Obj.cells g5 53 (0, 0)) :: ((N, Obj.cells a0 53 (0, 0)) :: c4)) ∧ E 1 = l ∧ E 3 = m ∧ E 4 = (.bool n) ∧ E 78 = (.bool e3)) 4 ?_ (fun e3 M a9 => ?_)))))))⟩
   ·rintro m6 E W ⟨c4, b, s, d1, d2, i7⟩ f6
    refine Wh i7 (LJ f6 (fun e2 E W => ∃ c5, ST true nl w W (hp w) ((B, Obj.cells g5 53 (0, 0)) :: ((N, Obj.cells a0 53 (0, 0)) :: c5)) ∧ E 1 = l ∧ E 3 = m ∧ E 4 = (.bool n) ∧ E 83 = (.bool e2)) 4 ?_ (fun e2 K P => ?_))
    ·rintro m7 E W ⟨c5, b, Y, d3, d4, i8⟩ f7
     refine Wh i8 (LJ f7 (fun e1 E W => ∃ c6, ST true nl w W (hp w) ((B, Obj.cells g5 53 (0, 0)) :: ((N, Obj.cells a0 53 (0, 0)) :: c6)) ∧ E 1 = l ∧ E 3 = m ∧ E 4 = (.bool n) ∧ E 91 = (.bool e1)) 7 ?_ (fun e1 J O => ?_))
     ·rintro m8 E W ⟨c6, b, i9, j0, l1, j3⟩ f8
      refine Wg j3 (lY (me (li ?_)))
      obtain rfl := sj f8
      exact ⟨_, rfl, _, (b.kM St), i9, j0, rfl⟩
     refine bC J (fun i J => ?_) (fun i J => ?_)
     ·refine ug i (lg qV Y) (ug i (kQ rfl (kX b.has (Mt Mh) (kW a.B) rfl bY bG)) (ug i (lg zr Y) (ug i (kQ rfl (kX b.has (Mt Mh) (kW a.C) rfl bY bG)) (bS J fun l6 g3 J => zG i (Eg b call123 (Ht a.B a.C _ _  g3) (fun k5 b => ug i (lW rfl rfl rfl) (V (mh (cB i) rfl) ?_)))))))
      obtain rfl := sj J
      exact O _ _ ⟨_, (b.kM St), Y, d3, d4, rfl⟩
     refine un i (un i (un i (un i (un i (un i (V (mg (cB i) rfl) ?_))))))
     obtain rfl := sj J
     exact O _ _ ⟨_, (b.kM St), Y, d3, d4, rfl⟩
    refine bC K (fun z K => ?_) (fun z K => ?_)
    ·refine ug z (lg zr s) (ug z (kQ rfl (kX b.has (Mt Mh) (kW a.C) rfl bY bG)) (bS K fun l7 g4 K => zG z (Eg b kH (uD a.C _ _  g4) (fun k6 b => V (mh (cB z) rfl) ?_))))
     obtain rfl := sj K
     exact P _ _ ⟨_, (b.kM St), s, d1, d2, rfl⟩
    refine un z (un z (un z (V (mg (cB z) rfl) ?_)))
    obtain rfl := sj K
    exact P _ _ ⟨_, (b.kM St), s, d1, d2, rfl⟩
   refine bC M (fun y M => ?_) (fun y M => ?_)
   ·refine ug y (lg qV rfl) (ug y (kQ rfl (kX b.has (Mt Mh) (kW a.B) rfl bY bG)) (bS M fun l8 g7 M => zG y (Eg b kH (uD a.B _ _  g7) (fun k7 b => V (mh (cB y) rfl) ?_))))
    obtain rfl := sj M
    exact a9 _ _ ⟨_, (b.kM St), rfl, rfl, rfl, rfl⟩
   refine un y (un y (un y (V (mg (cB y) rfl) ?_)))
   obtain rfl := sj M
   exact a9 _ _ ⟨_, (b.kM St), rfl, rfl, rfl, rfl⟩
  refine sg (Wa (ln ?_))
  replace b := b.kM (Db (Db St))
  refine ma (qI (mV ?_))
  obtain rfl := sj g
  replace Z : some false = some r := Z
  obtain rfl := sj Z
  exact rP b
 rintro ⟨l9, e4⟩ E W ⟨R, b, g8, g9, h0⟩ e9
 refine sg (Wh h0 (Wm (LJ e9 (fun d5 E W => ∃ b7, ST true nl w W (hp w) b7 ∧ E 97 = (.bool d5)) 4 ?_ (fun d5 Q F => ?_))))
 ·rintro m0 E W ⟨b7, b, h1⟩ f0
  exact Wg h1 (lt (rQ f0 b))
 refine bC Q (fun j Q => ?_) (fun j Q => ?_)
 ·refine ug j (kQ g9 (kX b.has Mh (kN e4) rfl cN aW)) (ug j (kQ g8 (kX b.has (Mt Mh) (kN a) rfl cN aW)) (ug j (A6 rfl rfl (ue iM) (xN (yK _ e4 a))) (V (mh (cB j) rfl) ?_)))
  obtain rfl := sj Q
  exact F _ _ ⟨_, (b.kM (Db (Db St))), rfl⟩
 refine un j (un j (un j (V (mg (cB j) rfl) ?_)))
 obtain rfl := sj Q
 exact F _ _ ⟨_, (b.kM (Db (Db St))), rfl⟩
theorem Eu (j : Value) (t : List kJ) (c : kJ) (r : Int) (w : World) (g : Sl (Pl kN) 9 (hp w) j t) (hm : wO t c = some r) :
  mi true Tryz.prog 339 [j, (.agg (kN c).toArray)] w (.int .i64 r) := by
 refine cG 19 func339 rfl (fun b => sg (VE (mx b rfl (fun Q J b => Wa (lS (Wm (V (nn bF rfl g) (Wm (ln ?_)))))))))
 refine nm (fun i E W => ∃ k, (E 8 = .int .i64 (i : Nat) ∧ E 7 = .int .i64 (t.length : Nat)) ∧ ST true nl w W (hp w) ((J, Ol (kN c) 53) :: k) ∧ E 0 = j ∧ E 3 = (.pointer (some ⟨J, 0, none⟩)) ∧ qT c (t.drop i) i = some r) t.length g.len ⟨_, ⟨rfl, rfl⟩, (b.kM St), rfl, rfl, hm⟩ dc dc dc (fun _ _ _ h => by obtain ⟨_, m, _⟩ := h; exact m) ?_ ?_
 ·rintro K E W B ⟨k, ⟨l, p⟩, b, u, x, a⟩
  obtain ⟨y, M, H, G, I⟩ := mT B
  rw [H] at a
  refine bg (Wh l (Wa (ln (lj ?_))))
  replace b := b.drew
  have d := b.has.kM (Kb Sn)
  refine mA d lL (XH 0 rfl d (fun _ n => kQ x (kX n Mh (kN c) rfl cN aW)) (X 1 rfl d (kZ u) (X 2 rfl d (kZ rfl) (XQ 3 rfl d (vt (enc := kN) (i := (K : Int)) (x0 := y) bF aW rfl rfl g (bA _) G) (fun N D => XH 4 rfl d (fun _ n => kQ rfl (lR n D cN aW)) (X 5 rfl d (A6 rfl rfl (ue iM) (xN (yK _ c y))) (mH kr (li (CI a rfl (fun z a => ?_) (fun z a => ?_))))))))))
  ·refine sg (Wm (Wa (ln ?_)))
   replace b := b.kM (Db St)
   refine ma (qI (mV (qI (mV ?_))))
   obtain rfl := sj a
   exact rP b
  exact nt (me (li ⟨l, _, ⟨rfl, p⟩, (b.kM St), u, x, (by rw [I]; exact a)⟩))
 rintro E W ⟨k, ⟨l, p⟩, b, u, x, a⟩
 rw [bD] at a
 refine li ?_
 replace b := b.kM (Db St)
 exact sg (Wa (lt (rQ a b)))
theorem Cv (a : Value) (g : List kJ) (c : kJ) (r : Bool) (w : World) (i : Sl (Pl kN) 9 (hp w) a g) (hm : tm g c = some r) :
  mi true Tryz.prog 262 [a, (.agg (kN c).toArray)] w (.bool r) := by
 refine cG 9 func262 rfl (fun b => sg (VE (mx b rfl (fun k u b => Wa (lr (Wm (VA b Mh (kN c) cN aW (bS hm fun x j hm => VE (Eg b call339 (Eu a g c _ _ (i.mono (Pl.mono _) b.kV) j) (fun t b => Wi rfl (Wa ?_)))))))))))
 refine ln ?_
 exact ma (rQ hm b)
theorem GP (a : Value) (g : List kJ) (c : kJ) (r : Bool) (w : World) (i : Sl (Pl kN) 9 (hp w) a g) (hm : wo g c = some r) :
  mi true Tryz.prog 201 [a, (.agg (kN c).toArray)] w (.bool r) := by
 refine cG 8 func201 rfl (fun b => sg (VE (mx b rfl (fun k u b => Wa (lr (Wm (VA b Mh (kN c) cN aW (bS hm fun x j hm => VE (Eg b call262 (Cv a g c _ _ (i.mono (Pl.mono _) b.kV) j) (fun t b => Wa (lY ?_)))))))))))
 refine li ?_
 exact ma (rQ hm b)
theorem Kc (a : kJ) (r : List kI) (w : World) (hm : zj a = some r) :
  pd true Tryz.prog 118 [(.agg (kN a).toArray)] w 28 kW 2 r := by
 refine BG 27 func118 rfl (fun b => sg (VE (mx b rfl (fun W2 h b => Wa (lS (VA b Mh (kN a) cN aW (bS hm fun r3 q hm => VE (Eg b call137 (zy a _ _  q) (fun W5 b => V (qp rfl) (lY ?_))))))))))
 refine li (CI hm rfl (fun n hm => ?_) (fun n hm => ?_))
 ·refine sg (Wa (ln ?_))
  replace b := b.kM (Db St)
  refine ma (mV ?_)
  obtain rfl := sj hm
  exact mS (v := (.slice none 0 0)) rfl rfl ⟨_, [], rfl, b.sU (fun p d => by cases d) (by simp), lD.nil _ _ _⟩
 refine kg (Wf vn (VA b Mh (kW a.Head) bY bG (VE (lO (cs := (kW a.Head).toArray) b (ot rfl) (nZ gK bG iA) (fun W8 y b => Wa (ln (lj (CJ hm (fun I E W => ∃ j i z, ST true nl w W (hp w) ((h, Ol (kN a) 53) :: (i ++ z)) ∧ E 1 = (.pointer (some ⟨h, 0, none⟩)) ∧ E 3 = j ∧ lD 28 kW 2 j I i) (fun I g => ?_) ?_))))))))
 ·refine sg (Wf za (VB b (Mt Mh) rfl rfl cV (Wi rfl (ln (CI g rfl (fun Q g => ?_) (fun Q g => ?_))))))
  ·refine lh (Wm (Wf qV (VA b (Mt Mh) (kW a.B) bY bG (VE (lO (cs := (kW a.B).toArray) b (ot rfl) (nZ gK bG iA) (fun L a4 b => ?_))))))
   replace b := b.perm (Nb (Pb Pz) Nz)
   refine bS g fun c0 T g => VE (rM (enc := kW) (v := (.slice (some ⟨y, 0, none⟩) 1 1)) (vs := (.slice (some ⟨a4, 0, none⟩) 1 1)) (R := [(y, Ol (kW a.Head) 28)]) b Dm dc yX gK As.1 As.2.1 rfl As.2.2.1 As.2.2.2 rfl rfl (lD.lit (l := [a.Head]) (enc := kW) rfl dc rfl rfl) (Sl.lit (enc := kW) (l := [a.B]) Dm rfl nb rfl (b.at_ (Mt Mh))) T (fun O a9 m b K => Wa (ln ?_)))
   obtain rfl := sj g
   exact ⟨a9, m, _, (b.kM (Sb (Pr (Pb Pz)) (Kr (Db St)))), rfl, rfl, K⟩
  refine kn ?_
  obtain rfl := sj g
  replace b := b.AN
  exact ⟨(.slice (some ⟨y, 0, none⟩) 1 1), [(y, Ol (kW a.Head) 28)], _, (b.kM (Sb (Pr Pz) St)), rfl, rfl, (lD.lit (l := [a.Head]) (enc := kW) rfl dc rfl rfl)⟩
 rintro P E W ⟨j, i, z, b, D, G, u⟩ U
 refine lj (CJ U (fun H E W => ∃ t k B, ST true nl w W (hp w) (k ++ B) ∧ E 3 = t ∧ lD 28 kW 2 t H k) (fun H c => ?_) ?_)
 ·refine sg (V (lg za D) (VB b Mh rfl rfl cV (Wi rfl (ln (CI c rfl (fun M c => ?_) (fun M c => ?_))))))
  ·refine lh (Wh G (V (lg zr D) (VA b Mh (kW a.C) bY bG (VE (lO (cs := (kW a.C).toArray) b (ot rfl) (nZ gK bG iA) (fun A a3 b => ?_))))))
   replace b := b.perm (Nr (Qb (Qb Qz)) Nz)
   refine bS c fun b9 N c => VE (rM (enc := kW) (v := j) (vs := (.slice (some ⟨a3, 0, none⟩) 1 1)) (R := i) b Dm dc yX gK As.1 As.2.1 rfl As.2.2.1 As.2.2.2 rfl rfl u (Sl.lit (enc := kW) (l := [a.C]) Dm rfl nb rfl (b.at_ (Ma Mh))) N (fun F s Z b J => Wa (ln ?_)))
   obtain rfl := sj c
   exact ⟨s, Z, _, (b.kM (Kr (Db (Db St)))), rfl, J⟩
  refine kn ?_
  obtain rfl := sj c
  exact ⟨j, i, _, (b.kM (Db St)), G, u⟩
 rintro b6 E W ⟨t, k, B, b, a5, x⟩ Y
 refine sg (Wh a5 (Wa (lt ?_)))
 obtain rfl := sj Y
 exact mS (v := t) rfl rfl ⟨_, k, rfl, b.sU (fun p d => (Ml d)) x.nd, x⟩
theorem D9 (M : Nat) (u : Value) (a9 : List (kI × (List (ByteArray × Bool)))) (G : LO) (D : Value) (a0 : List kJ) (B : LO) (a : Value) (Y : List (kI × (List kJ))) (I : LO) (c : Value) (K : List (ByteArray × (List kJ))) (t : LO) (j : Value) (a4 : List lf) (y : LO) (J : Int) (H : kJ) (r : ((List kJ) × (List (kI × (List kJ))) × (List (ByteArray × (List kJ))))) (w : World) {μ0 : lG} (h0 : oW μ0 ((M, Ob #[u, D, a, c, j, (.int .i64 J)] 294) :: (G ++ (B ++ (I ++ (t ++ (y ++ [])))))) w) (e9 : mW (fun (x : kI) => (.agg (kW x).toArray)) (mL Value.string (fun (x : Bool) => (Value.bool x))) u a9 G) (a6 : lD 53 kN 9 D a0 B) (b2 : mW (fun (x : kI) => (.agg (kW x).toArray)) (lD 53 kN 9) a Y I) (T : mW Value.string (lD 53 kN 9) c K t) (e1 : rp 38 mY 3 j a4 y) (hm : ua a9 a0 Y K a4 J H = some r) :
  mU true Tryz.prog 324 [(.pointer (some ⟨M, 0, none⟩)), (.agg (kN H).toArray)] w ((M, Ob #[u, D, a, c, j, (.int .i64 J)] 294) :: (G ++ (B ++ (I ++ (t ++ (y ++ [])))))) (fun v L1 W' => ∃ y1 S2 S4 S6, v = (.tuple #[]) ∧ L1 = ((M, Ob #[u, y1, a, c, j, (.int .i64 J)] 294) :: (G ++ (S2 ++ (S4 ++ (S6 ++ (y ++ [])))))) ∧ lD 53 kN 9 y1 r.1 S2 ∧ mW (fun (x : kI) => (.agg (kW x).toArray)) (lD 53 kN 9) a r.2.1 S4 ∧ mW Value.string (lD 53 kN 9) c r.2.2 S6) := by
 refine By h0 55 func324 rfl (fun d => sg (VE (mx d rfl (fun W2 b1 d => ln (lj ?_)))))
 replace d := d.drew
 have m := d.has.kM (Kb Sn)
 have n := d.has.kM (Db (Kb Sn))
 refine vT 10 m n lL (ml 0 rfl kr (.inl rfl) rfl dc (fun _ _ h => ⟨h.1, mN br h.2⟩) ⟨m, fun _ => n⟩ (fun _ _ _ _ => kZ rfl) (ml 1 rfl kr (.inl rfl) rfl dc (fun _ _ h => ⟨h.1, mN br h.2⟩) ⟨m, fun _ => n⟩ (fun _ _ _ _ => kZ rfl) (ml 2 rfl kr (.inl rfl) rfl dc (fun _ _ h => ⟨h.1, mN br h.2⟩) ⟨m, fun _ => n⟩ (fun _ _ _ _ => nu rfl) (ml 3 rfl kr (.inl rfl) rfl dc (fun _ _ h => ⟨h.1, mN br h.2⟩) ⟨m, fun _ => n⟩ (fun _ _ _ _ => lg HU rfl) (ml 4 rfl kr (.inl rfl) rfl dc (fun _ _ h => ⟨h.1, mN br h.2⟩) ⟨m, fun _ => n⟩ (fun l W q s => have p := (s.2 (q.Em 10 [4] kr rfl)); kQ rfl (lB p Mh rfl isAgg22)) (ml 5 rfl kr (.inl rfl) rfl dc (fun _ _ h => ⟨h.1, mN br h.2⟩) ⟨m, fun _ => n⟩ (fun l W q s => have p := s.1; kQ rfl (kX p Mh (kN H) rfl cN aW)) (XE 6 rfl (lO (cs := (kN H).toArray) d (ot rfl) (nZ bF aW dT) (fun k0 g0 d => ?_)))))))))
 have m := d.has.kM (Db (Kb Sn))
 have n := d.has.kM (Db (Db (Kb Sn)))
 refine ⟨⟨m, fun _ => n⟩, ?_⟩
 replace d := d.perm (Nr (Qb (Qb (Qb (Qr Qz)))) Nz)
 refine bS hm fun a5 f0 hm => XE 7 rfl (rM (enc := kN) (v := D) (vs := (.slice (some ⟨g0, 0, none⟩) 1 1)) (R := B) d np dc qQ bF rD.1 rD.2.1 rfl rD.2.2.1 rD.2.2.2 rfl rfl a6 (Sl.lit (enc := kN) (l := [H]) np rfl nb rfl (d.at_ (Ma Mh))) f0 (fun k1 k4 b7 d P => ?_))
 have m := d.has.kM (Dr (Db (Kb Sn)))
 have n := d.has.kM (Dr (Db (Db (Kb Sn))))
 refine ⟨⟨m, fun _ => n⟩, (ml 8 rfl kr (.inl rfl) rfl dc (fun _ _ h => ⟨h.1, mN br h.2⟩) ⟨m, fun _ => n⟩ (fun _ _ _ _ => nu rfl) (ml 9 rfl kr (.inl rfl) rfl dc (fun _ _ h => ⟨h.1, mN br h.2⟩) ⟨m, fun _ => n⟩ (fun _ _ _ _ => lg HU rfl) ?_))⟩
 obtain ⟨a8, b0, rfl⟩ := P.form
 let A : Value := (.slice a8 a5.length b0)
 replace d := d.perm (Nb (Pr (Pb (Pb Pz))) Nz)
 refine XO 10 rfl (lA A (#[u, A, a, c, j, (.int .i64 J)]) d rfl rfl sizeOf22 oc nb rfl (fun k2 d => ?_))
 have m := d.has.kM (Db (Dr (Db (Kb Sn))))
 refine ⟨⟨m, fun h => Aw kr h⟩, (mH kr (li ?_))⟩
 replace d := d.kM (Kb (Kr (Db St)))
 refine lj (sg (VA d (Mt (Ma Mh)) (kN H) cN aW (bS hm fun c1 f1 hm => VE (zK d call118 (Kc H _ _  f1) (fun k3 k5 k6 j9 d g4 ab e8 => ?_)))))
 let b8 := (c1.drop (Int.toNat 1))
 obtain ⟨g3, d, g7, ad, f2⟩ := ST.Ou d e8 Dm
 refine bS hm fun _ b9 hm => VQ (FM (i := 1) gK bG rfl rfl f2 (wq b9) (vZ b9)) (fun g1 b6 => V (nn gK rfl b6.1) (Wm (ln (nm (fun i E W => ∃ a3 U L, (E 20 = .int .i64 (i : Nat) ∧ E 19 = .int .i64 (b8.length : Nat)) ∧ ST true (keys ((M, Ob #[u, D, a, c, j, (.int .i64 J)] 294) :: (G ++ (B ++ (I ++ (t ++ (y ++ []))))))) w W g3 ((M, Ob #[u, A, a, c, j, (.int .i64 J)] 294) :: ((b1, Ol (kN H) 53) :: (U ++ (b7 ++ (G ++ (t ++ (y ++ L))))))) ∧ E 0 = (.pointer (some ⟨M, 0, none⟩)) ∧ E 3 = (.pointer (some ⟨b1, 0, none⟩)) ∧ E 18 = g1 ∧ mW (fun (x : kI) => (.agg (kW x).toArray)) (lD 53 kN 9) a a3 U ∧ pv H K a5 (b8.drop i) a3 = some r) b8.length b6.1.len ⟨Y, I, _, ⟨rfl, rfl⟩, (d.kM (Kb (Sb (Pr Pz) (Sr (Qr (Qr Qz)) St)))), rfl, rfl, rfl, b2, hm⟩ dc dc dc (fun _ _ _ h => by obtain ⟨_, _, _, aa, _⟩ := h; exact aa) ?_ ?_))))
 ·rintro f3 E W d3 ⟨a3, U, L, ⟨eI, eN⟩, d, a2, N, O, Z, g⟩
  obtain ⟨Q, h4, d8, d7, d9⟩ := mT d3
  rw [d8] at g
  refine bg (VQ (vt (enc := kW) (i := (f3 : Int)) (x0 := Q) gK bG O eI b6.1 (bA _) d7) (fun j4 d4 => V (kQ rfl (lR d.has d4 bY bG)) (VE (lZ d iA (fun i1 j0 d => VO (lA (.agg (kW Q).toArray) ((kW Q).toArray) d rfl rfl bG (yX Q) nb rfl (fun i2 d => ln ?_)))))))
  replace d := d.drew
  have m := d.has.kM (Kb (Kb (Kb Sn)))
  refine mA m lL (X 0 rfl m (kZ a2) (X 1 rfl m (nu rfl) (X 2 rfl m (lg LF rfl) (XH 3 rfl m (fun _ p => kQ rfl (lB p (Mt Mh) rfl isAgg291)) (XH 4 rfl m (fun _ p => kQ rfl (kX p Mh (kW Q) rfl bY bG)) (XH 5 rfl m (fun _ p => kQ N (kX p (Mt (Mt Mh)) (kN H) rfl cN aW)) (XE 6 rfl (lO (cs := (kN H).toArray) d (ot rfl) (nZ bF aW dT) (fun i3 e6 d => ?_)))))))))
  have m := d.has.kM (Db (Kb (Kb (Kb Sn))))
  refine ⟨m, ?_⟩
  obtain ⟨h1, d1⟩ := Z
  replace d := d.perm (Nr (Qb (Qb (Qb (Qb Qz)))) Nz)
  refine XE 7 rfl (Mi (k := Q) (x0 := [])  lx AF underlying291 kC (lD.nil _ _ _) d d1 rfl rfl (fun i4 f5 h3 h6 e2 d c3 c2 => ?_))
  have m := d.has.kM (Dr (Dr (Db (Kb (Kb (Kb Sn))))))
  refine ⟨m, (X 8 rfl m (E3 rfl rfl) (X 10 rfl m (E3 rfl rfl) ?_))⟩
  replace d := d.perm (Nr (Qr Qz) Nz)
  refine bS g fun c0 c8 g => XE 9 rfl (rM (enc := kN) (v := f5) (vs := (.slice (some ⟨e6, 0, none⟩) 1 1)) (R := e2) d np dc qQ bF rD.1 rD.2.1 rfl rD.2.2.1 rD.2.2.2 rfl rfl c3 (Sl.lit (enc := kN) (l := [H]) np rfl nb rfl (d.at_ (Ma (Ma Mh)))) c8 (fun i5 j5 h7 d c4 => ?_))
  have m := d.has.kM (Dr (Dr (Db (Kb (Kb (Kb Sn))))))
  refine ⟨m, ?_⟩
  replace d := d.perm (Nr (Qr Qz) Nz)
  refine XO 11 rfl (J8 (e := 0) (z := c0)  lx AF d c2 rfl rfl rfl c4 (fun i6 h2 e3 d c5 => ?_))
  have m := d.has.kM (Dr (Db (Kb (Kb (Kb Sn)))))
  refine ⟨m, (mH kr (me (li ?_)))⟩
  replace d := d.kM (Kr (Db (Db St)))
  exact ⟨eI, (oy lu a3 Q c0), e3, _, ⟨rfl, eN⟩, (d.kM (Sb (Pr Pz) (Sb (Pr Pz) St))), a2, N, O, c5.e, (by rw [d9]; exact g)⟩
 rintro E W ⟨a3, U, L, ⟨eI, eN⟩, d, a2, N, O, Z, g⟩
 rw [bD] at g
 refine li (sg (V (lg za N) (VB d (Mt Mh) rfl rfl cV (Wi rfl (ln (CI g rfl (fun c9 g => ?_) (fun c9 g => ?_)))))))
 ·replace d := d.drew
  have m := d.has.kM (Kb (Kb Sn))
  have n := d.has.kM (Db (Db (Dr (Dr (Dr (Kr Sn))))))
  refine vT 15 m n lL (ml 0 rfl kr (.inl rfl) rfl dc (fun _ _ h => ⟨h.1, mN br h.2⟩) ⟨m, fun _ => n⟩ (fun _ _ _ _ => kZ a2) (ml 1 rfl kr (.inl rfl) rfl dc (fun _ _ h => ⟨h.1, mN br h.2⟩) ⟨m, fun _ => n⟩ (fun _ _ _ _ => nu rfl) (ml 2 rfl kr (.inl rfl) rfl dc (fun _ _ h => ⟨h.1, mN br h.2⟩) ⟨m, fun _ => n⟩ (fun _ _ _ _ => lg HL rfl) (ml 3 rfl kr (.inl rfl) rfl dc (fun _ _ h => ⟨h.1, mN br h.2⟩) ⟨m, fun _ => n⟩ (fun l W q s => have p := s.1; kQ rfl (lB p Mh rfl isAgg292)) (ml 4 rfl kr (.inl rfl) rfl dc (fun _ _ h => ⟨h.1, mN br h.2⟩) ⟨m, fun _ => n⟩ (fun _ _ _ _ => lg Ay N) (ml 5 rfl kr (.inl rfl) rfl dc (fun _ _ h => ⟨h.1, mN br h.2⟩) ⟨m, fun _ => n⟩ (fun l W q s => have p := s.1; kQ rfl (lB p (Mt Mh) rfl cO)) (ml 6 rfl kr (.inl rfl) rfl dc (fun _ _ h => ⟨h.1, mN br h.2⟩) ⟨m, fun _ => n⟩ (fun _ _ _ _ => kZ a2) (ml 7 rfl kr (.inl rfl) rfl dc (fun _ _ h => ⟨h.1, mN br h.2⟩) ⟨m, fun _ => n⟩ (fun _ _ _ _ => nu rfl) (ml 8 rfl kr (.inl rfl) rfl dc (fun _ _ h => ⟨h.1, mN br h.2⟩) ⟨m, fun _ => n⟩ (fun _ _ _ _ => lg HL rfl) (ml 9 rfl kr (.inl rfl) rfl dc (fun _ _ h => ⟨h.1, mN br h.2⟩) ⟨m, fun _ => n⟩ (fun l W q s => have p := s.1; kQ rfl (lB p Mh rfl isAgg292)) (ml 10 rfl kr (.inl rfl) rfl dc (fun _ _ h => ⟨h.1, mN br h.2⟩) ⟨m, fun _ => n⟩ (fun _ _ _ _ => lg Ay N) (ml 11 rfl kr (.inl rfl) rfl dc (fun _ _ h => ⟨h.1, mN br h.2⟩) ⟨m, fun _ => n⟩ (fun l W q s => have p := s.1; kQ rfl (lB p (Mt Mh) rfl cO)) ?_))))))))))))
  obtain ⟨e0, F⟩ := T
  obtain ⟨h8, g8, g9⟩ := nO.rowAt nh.1 F H.lM
  refine ml 12 rfl kr (.inl rfl) rfl dc (fun _ _ h => ⟨h.1, mN br h.2⟩) ⟨m, fun _ => n⟩ (fun l W q s => have p := (s.2 (q.Em 15 [12] kr rfl)); qb (k := H.lM) (z := (.slice none 0 0)) G2 underlying292 kC rfl rfl F (fun b o hq => p.2 b o (Ml hq))) (ml 13 rfl kr (.inl rfl) rfl dc (fun _ _ h => ⟨h.1, mN br h.2⟩) ⟨m, fun _ => n⟩ (fun l W q s => have p := s.1; kQ N (kX p (Mt Mh) (kN H) rfl cN aW)) (XE 14 rfl (lO (cs := (kN H).toArray) d (ot rfl) (nZ bF aW dT) (fun i7 e7 d => ?_))))
  have m := d.has.kM (Db (Kb (Kb Sn)))
  have n := d.has.kM (Db (Db (Db (Dr (Dr (Dr (Kr Sn)))))))
  refine ⟨⟨m, fun _ => n⟩, ?_⟩
  replace d := d.perm (Nr (Qb (Qb (Qb (Qr (Qr (Qr Qz)))))) Nz)
  obtain ⟨h9, e4, d5, d6, d2⟩ := nO.open nh.1 (lD.nil _ _ _) F H.lM
  replace d := d.perm (TL d5)
  replace d := d.perm (Nr (Qr Qz) Nz)
  refine bS g fun f4 d0 g => XE 15 rfl (rM (enc := kN) (v := (sC mn e0 H.lM (.slice none 0 0))) (vs := (.slice (some ⟨e7, 0, none⟩) 1 1)) (R := e4) d np dc qQ bF rD.1 rD.2.1 rfl rD.2.2.1 rD.2.2.2 rfl rfl d6 (Sl.lit (enc := kN) (l := [H]) np rfl nb rfl (d.at_ (Ma (Ma Mh)))) d0 (fun i8 j6 i0 d c6 => ?_))
  have m := d.has.kM (Dr (Dr (Db (Kb (Kb Sn)))))
  refine ⟨⟨m, fun h => Aw kr h⟩, ?_⟩
  replace d := d.perm (Nr (Qr Qz) Nz)
  refine XO 16 rfl (Q3 (k := H.lM) (z := f4)  G2 underlying292 d d2 rfl rfl rfl c6 (fun i9 e5 d c7 => ?_))
  have m := d.has.kM (Dr (Db (Kb (Kb Sn))))
  refine ⟨⟨m, fun h => Aw kr h⟩, (mH kr (rG ?_))⟩
  obtain rfl := sj g
  exact pT rfl ⟨_, _, rfl, (d.ny (Sb (Pr (Pb Pz)) (Sr (Qr (Qb (Qb (Qr (Qr Qz))))) (Sr (Qr (Qb (Qb (Qr Qz)))) (Sr (Qr (Qb (Qb Qz))) (Kr (Db (Db (Kr Sn))))))))), A, b7, U, e5, rfl, rfl, P, Z, c7.e⟩
 refine nt (rG ?_)
 obtain rfl := sj g
 exact pT rfl ⟨_, _, rfl, (d.ny (Kb (Db (Sr (Qr (Qr Qz)) (Sr (Qr Qz) (Kr (Kr (Kr Sn)))))))), A, b7, U, t, rfl, rfl, P, Z, T⟩
theorem rU (J : Nat) (g : Value) (a0 : List (kI × (List (ByteArray × Bool)))) (D : LO) (a : Value) (M : List kJ) (u : LO) (j : Value) (Z : List (kI × (List kJ))) (B : LO) (c : Value) (N : List (ByteArray × (List kJ))) (y : LO) (i : Value) (Y : List lf) (t : LO) (H : Int) (G : kI) (U : ByteArray) (r : ((List (kI × (List (ByteArray × Bool)))) × (List lf) × Int)) (w : World) {μ0 : lG} (h0 : oW μ0 ((J, Ob #[g, a, j, c, i, (.int .i64 H)] 294) :: (D ++ (u ++ (B ++ (y ++ (t ++ [])))))) w) (a5 : mW (fun (x : kI) => (.agg (kW x).toArray)) (mL Value.string (fun (x : Bool) => (Value.bool x))) g a0 D) (b5 : lD 53 kN 9 a M u) (c3 : mW (fun (x : kI) => (.agg (kW x).toArray)) (lD 53 kN 9) j Z B) (b6 : mW Value.string (lD 53 kN 9) c N y) (K : rp 38 mY 3 i Y t) (hm : oJ a0 M Z N Y H G U = some r) :
  mU true Tryz.prog 370 [(.pointer (some ⟨J, 0, none⟩)), (.agg (kW G).toArray), (.string U)] w ((J, Ob #[g, a, j, c, i, (.int .i64 H)] 294) :: (D ++ (u ++ (B ++ (y ++ (t ++ [])))))) (fun v L1 W' => ∃ S1 y3 S4, v = (.tuple #[]) ∧ L1 = ((J, Ob #[g, a, j, c, y3, (.int .i64 (r.2.2))] 294) :: (S1 ++ (u ++ (B ++ (y ++ (S4 ++ [])))))) ∧ mW (fun (x : kI) => (.agg (kW x).toArray)) (mL Value.string (fun (x : Bool) => (Value.bool x))) g r.1 S1 ∧ rp 38 mY 3 y3 r.2.1 S4) := by
 let O := (#[g, a, j, c, i, (.int .i64 H)] : Array Value)
 refine By h0 53 func370 rfl (fun m => sg (VE (mx m rfl (fun W2 b1 m => ln (lj (lj ?_))))))
 replace m := m.drew
 have d := m.has.kM (Kb (Kb (Kr Sn)))
 refine mA d lL (X 0 rfl d (kZ rfl) (X 1 rfl d (nu rfl) (X 2 rfl d (lg xP rfl) (XH 3 rfl d (fun _ p => kQ rfl (lB p (Mt Mh) rfl jx)) (XH 4 rfl d (fun _ p => kQ rfl (kX p Mh (kW G) rfl bY bG)) ?_)))))
 obtain ⟨f4, Q⟩ := a5
 refine XH 5 rfl d (fun _ p => qb (k := G) (z := (.map none)) AF fM gL rfl rfl Q (fun b o A => p.2 b o (Mt (Mt (Ml A))))) (X 6 rfl d (kZ rfl) (XH 7 rfl d (fun _ p => xe (k := U) (z := false) (vf := (fun (x : Bool) => (Value.bool x))) G2 gQ js rfl rfl (nO.DZ (μ := hp _) lx.1 Q G (fun b o A => p.2 b o (Mt (Mt (Ml A)))))) (mH kr (li (CI hm rfl (fun d5 hm => ?_) (fun d5 hm => ?_))))))
 ·refine ma (mV ?_)
  obtain rfl := sj hm
  exact pT rfl ⟨_, _, rfl, (m.ny (Db (Kb (Kr (Kr (Kr (Kr (Kr Sn)))))))), D, i, t, rfl, rfl, Q.e, K⟩
 refine kn (lj (CJ hm (fun b2 E W => ∃ L c0, ST true (keys ((J, Obj.cells O 294 (0, 0)) :: (D ++ (u ++ (B ++ (y ++ (t ++ []))))))) w W μ0 ((b1, Ol (kW G) 28) :: ((J, Obj.cells O 294 (0, 0)) :: (L ++ (u ++ (B ++ (y ++ (t ++ c0))))))) ∧ E 0 = (.pointer (some ⟨J, 0, none⟩)) ∧ E 2 = (.string U) ∧ E 4 = (.pointer (some ⟨b1, 0, none⟩)) ∧ mW (fun (x : kI) => (.agg (kW x).toArray)) (mL Value.string (fun (x : Bool) => (Value.bool x))) g b2 L) (fun b2 I => ?_) ?_))
 ·refine lj ?_
  replace m := m.drew
  have d := m.has.kM (Kb (Kb (Kr Sn)))
  refine mA d lL (X 0 rfl d (kZ rfl) (X 1 rfl d (nu rfl) (X 2 rfl d (lg xP rfl) (XH 3 rfl d (fun _ p => kQ rfl (lB p (Mt Mh) rfl jx)) (XH 4 rfl d (fun _ p => kQ rfl (kX p Mh (kW G) rfl bY bG)) (XH 5 rfl d (fun _ p => qb (k := G) (z := (.map none)) AF fM gL rfl rfl Q (fun b o A => p.2 b o (Mt (Mt (Ml A))))) (X 6 rfl d (Kp lx.1 gQ Q rfl rfl) (mH kr (li (CI I rfl (fun b7 I => ?_) (fun b7 I => ?_)))))))))))
  ·replace m := m.drew
   have d := m.has.kM (Kb (Kb Sn))
   refine mA d lL (X 0 rfl d (kZ rfl) (X 1 rfl d (nu rfl) (X 2 rfl d (lg xP rfl) (XH 3 rfl d (fun _ p => kQ rfl (lB p (Mt Mh) rfl jx)) (XH 4 rfl d (fun _ p => kQ rfl (kX p Mh (kW G) rfl bY bG)) (XE 5 rfl (B7 (P := Tryz.prog) Value.string (fun (x : Bool) => (Value.bool x)) m (fun e1 e7 d9 m b3 => ?_))))))))
   have d := m.has.kM (Dr (Kb (Kb Sn)))
   refine ⟨d, ?_⟩
   replace m := m.perm (Nr (Qr (Qb (Qb Qz))) Nz)
   refine bS I fun e4 b9 I => XO 6 rfl (N5 (k := G) (z := ([]))  AF fM m Q rfl rfl rfl b3 b9 (fun e2 c4 m b4 => ?_))
   have d := m.has.kM (Dr (Kb (Kb Sn)))
   refine ⟨d, (mH kr (li ?_))⟩
   obtain rfl := sj I
   exact ⟨c4, _, (m.kM (Sb (Pr Pz) (Sb (Pr Pz) St))), rfl, rfl, rfl, b4.e⟩
  refine kn ?_
  obtain rfl := sj I
  exact ⟨D, _, (m.kM St), rfl, rfl, rfl, Q.e⟩
 rintro f2 E W ⟨L, c0, m, F, c1, c2, c8⟩ T
 refine lj ?_
 replace m := m.drew
 have d := m.has.kM (Kb (Kb Sn))
 have n := m.has.kM (Db (Db (Kr Sn)))
 refine vT 7 d n lL (ml 0 rfl kr (.inl rfl) rfl dc (fun _ _ h => ⟨h.1, mN br h.2⟩) ⟨d, fun _ => n⟩ (fun _ _ _ _ => kZ F) (ml 1 rfl kr (.inl rfl) rfl dc (fun _ _ h => ⟨h.1, mN br h.2⟩) ⟨d, fun _ => n⟩ (fun _ _ _ _ => nu rfl) (ml 2 rfl kr (.inl rfl) rfl dc (fun _ _ h => ⟨h.1, mN br h.2⟩) ⟨d, fun _ => n⟩ (fun _ _ _ _ => lg xP rfl) (ml 3 rfl kr (.inl rfl) rfl dc (fun _ _ h => ⟨h.1, mN br h.2⟩) ⟨d, fun _ => n⟩ (fun l W q s => have p := s.1; kQ rfl (lB p (Mt Mh) rfl jx)) (ml 4 rfl kr (.inl rfl) rfl dc (fun _ _ h => ⟨h.1, mN br h.2⟩) ⟨d, fun _ => n⟩ (fun l W q s => have p := s.1; kQ c2 (kX p Mh (kW G) rfl bY bG)) ?_)))))
 obtain ⟨e5, a9⟩ := c8
 refine ml 5 rfl kr (.inl rfl) rfl dc (fun _ _ h => ⟨h.1, mN br h.2⟩) ⟨d, fun _ => n⟩ (fun l W q s => have p := (s.2 (q.Em 7 [5] kr rfl)); qb (k := G) (z := (.map none)) AF fM gL rfl rfl a9 (fun b o A => p.2 b o (Ml A))) (ml 6 rfl kr (.inl rfl) rfl dc (fun _ _ h => ⟨h.1, mN br h.2⟩) ⟨d, fun _ => n⟩ (fun _ _ _ _ => kZ c1) ?_)
 replace m := m.perm (Nr (Qb (Qb Qz)) Nz)
 refine bS T fun f3 c7 T => XO 7 rfl (MP (k := G) (v := true) (vf := (fun (x : Bool) => (Value.bool x)))  lx.1 G2 gQ m a9 rfl rfl rfl c7 (fun e8 c9 m c5 => ?_))
 have d := m.has.kM (Dr (Kb (Kb Sn)))
 refine ⟨⟨d, fun h => Aw kr h⟩, (mH kr (li (sg (Wh F (Wn (Wf Fu (VB m (Ma (Mt Mh)) rfl rfl cV (Wi rfl (Wn (Wf Fu ?_))))))))))⟩
 replace m := m.perm (Nb (Pr (Pb Pz)) Nz)
 refine VO (lA (.int .i64 (IntKind.i64.wrap (H + 1))) (#[g, a, j, c, i, (.int .i64 (IntKind.i64.wrap (H + 1)))]) m rfl rfl fK (Gv _ (IntKind.i64.wrap (H + 1))) nb rfl (fun e9 m => ln ?_))
 replace m := m.drew
 have d := m.has.kM (Db (Dr (Kb Sn)))
 have n := m.has.kM (Kb Sn)
 refine vT 12 d n lL (ml 0 rfl kr (.inl rfl) rfl dc (fun _ _ h => ⟨h.1, mN br h.2⟩) ⟨d, fun _ => n⟩ (fun _ _ _ _ => kZ F) (ml 1 rfl kr (.inl rfl) rfl dc (fun _ _ h => ⟨h.1, mN br h.2⟩) ⟨d, fun _ => n⟩ (fun _ _ _ _ => kZ F) (ml 2 rfl kr (.inl rfl) rfl dc (fun _ _ h => ⟨h.1, mN br h.2⟩) ⟨d, fun _ => n⟩ (fun _ _ _ _ => nu rfl) (ml 3 rfl kr (.inl rfl) rfl dc (fun _ _ h => ⟨h.1, mN br h.2⟩) ⟨d, fun _ => n⟩ (fun _ _ _ _ => lg Bm rfl) (ml 4 rfl kr (.inl rfl) rfl dc (fun _ _ h => ⟨h.1, mN br h.2⟩) ⟨d, fun _ => n⟩ (fun l W q s => have p := (s.2 (q.Em 12 [4] kr rfl)); kQ rfl (lB p Mh rfl isAgg68)) (ml 5 rfl kr (.inl rfl) rfl dc (fun _ _ h => ⟨h.1, mN br h.2⟩) ⟨d, fun _ => n⟩ (fun l W q s => have p := s.1; kQ c2 (kX p Mh (kW G) rfl bY bG)) (ml 6 rfl kr (.inl rfl) rfl dc (fun _ _ h => ⟨h.1, mN br h.2⟩) ⟨d, fun _ => n⟩ (fun _ _ _ _ => kZ c1) (ml 7 rfl kr (.inl rfl) rfl dc (fun _ _ h => ⟨h.1, mN br h.2⟩) ⟨d, fun _ => n⟩ (fun _ _ _ _ => ns (v := (.agg (mY (⟨G, U⟩ : lf)).toArray)) (pE rfl rfl) (mP kD iH (QQ _ iH) kr)) (XE 8 rfl (lO (cs := (mY (⟨G, U⟩ : lf)).toArray) m (ot rfl) (nZ jJ kE kD) (fun f0 d4 m => ?_)))))))))))
 have d := m.has.kM (Db (Db (Dr (Kb Sn))))
 have n := m.has.kM (Db (Kb Sn))
 refine ⟨⟨d, fun _ => n⟩, ?_⟩
 replace m := m.perm (Nr (Qb (Qb (Qr (Qb (Qr (Qr (Qr Qz))))))) Nz)
 refine bS T fun b0 c6 T => XE 9 rfl (Kv (enc := mY) (v := i) (vs := (.slice (some ⟨d4, 0, none⟩) 1 1)) (R := t) m yT dc KL jJ GY.1 GY.2.1 rfl GY.2.2.1 GY.2.2.2 rfl rfl K (Sl.lit (enc := mY) (l := [(⟨G, U⟩ : lf)]) yT rfl nb rfl (m.at_ (Ma Mh))) c6 (fun f1 e6 d0 m a7 => ?_))
 have d := m.has.kM (Dr (Db (Db (Dr (Kb Sn)))))
 have n := m.has.kM (Dr (Db (Kb Sn)))
 refine ⟨⟨d, fun _ => n⟩, (ml 10 rfl kr (.inl rfl) rfl dc (fun _ _ h => ⟨h.1, mN br h.2⟩) ⟨d, fun _ => n⟩ (fun _ _ _ _ => nu rfl) (ml 11 rfl kr (.inl rfl) rfl dc (fun _ _ h => ⟨h.1, mN br h.2⟩) ⟨d, fun _ => n⟩ (fun _ _ _ _ => lg Bm rfl) ?_))⟩
 obtain ⟨a3, a4, rfl⟩ := a7.form
 let a2 : Value := (.slice a3 b0.length a4)
 replace m := m.perm (Nb (Pr (Pb Pz)) Nz)
 refine XO 12 rfl (lA a2 (#[g, a, j, c, a2, (.int .i64 (IntKind.i64.wrap (H + 1)))]) m rfl rfl sizeOf68 oc nb rfl (fun e0 m => ?_))
 have d := m.has.kM (Db (Dr (Db (Dr (Kb Sn)))))
 refine ⟨⟨d, fun h => Aw kr h⟩, (mH kr (rG ?_))⟩
 obtain rfl := sj T
 exact pT rfl ⟨_, _, rfl, (m.ny (Kb (Sr (Qr (Qb Qz)) (Sr (Qr (Qb (Qb Qz))) (Sr (Qr (Qb (Qb Qz))) (Sr (Qr (Qb (Qb Qz))) (Kr Sn))))))), c9, a2, d0, rfl, rfl, c5.e, a7⟩
theorem wy (a : Value) (g : List (ByteArray × Bool)) (r : Unit) (w : World) (c : wY Value.string (fun (x : Bool) => (Value.bool x)) (hp w) a g) (hm : pF g = some r) :
  mU true Tryz.prog 234 [a] w [] (fun v k W' => ∃ i, v = (.func (.func 327) #[] #[(.pointer (some ⟨i, 0, none⟩))]) ∧ k = ((i, Ob #[a] 296) :: [])) := by
 refine BG 4 func234 rfl (fun b => sg ?_)
 obtain ⟨t, rfl⟩ := c.form
 refine VE (mx b rfl (fun u j b => Wa (lr (V (wI (by exact wk rfl) rfl) (Wa (lt ?_))))))
 obtain rfl := sj hm
 exact mS (v := (.func (.func 327) #[] #[(.pointer (some ⟨j, 0, none⟩))])) rfl rfl ⟨_, _, rfl, (b.Nq (Kb Sn)), j, rfl, rfl⟩
theorem HK {β : Type} {vf : β → Value} {l : List (ByteArray × β)} {b : Nat} {a : Value} {W : World} {r : List ByteArray} (d : W.heap[b]? = some (.cells #[a] 296 (0, 0))) (hm : wY Value.string vf (hp W) a l) (hk : GG l = some r) : pd false Tryz.prog 159 [.func (.func 327) #[] #[.pointer (some ⟨b, 0, none⟩)]] W 9 DN 1 r := Kh (P := Tryz.prog) Qo QE Rr rfl cC call327 call273 d hm hk
theorem yL (T : Nat) (a : Value) (u : List (kI × (List (ByteArray × Bool)))) (c : Value) (t : List kJ) (j : Value) (G : List (kI × (List kJ))) (g : Value) (B : List (ByteArray × (List kJ))) (i : Value) (D : List lf) (Q : Int) (H : kI) (r : List ByteArray) (w : World) (J : sG (fun (x : kI) => (.agg (kW x).toArray)) (mL Value.string (fun (x : Bool) => (Value.bool x))) (hp w) a u) (Z : Sl (Pl kN) 9 (hp w) c t) (a4 : sG (fun (x : kI) => (.agg (kW x).toArray)) (lD 53 kN 9) (hp w) j G) (a0 : sG Value.string (lD 53 kN 9) (hp w) g B) (a3 : Sl (Pl mY) 3 (hp w) i D) (Y : At (hp w) (.pointer (some ⟨T, 0, none⟩)) [a, c, j, g, i, (.int .i64 Q)]) (hm : rF u t G B D Q H = some r) :
  pd false Tryz.prog 119 [(.pointer (some ⟨T, 0, none⟩)), (.agg (kW H).toArray)] w 9 DN 1 r := by
 refine BG 15 func119 rfl (fun d => sg (VE (mx d rfl (fun W2 P d => Wa (lS (Wm (V (xQ underlying171 rfl rfl) (ln (qR rfl ?_)))))))))
 refine kn (lj ?_)
 replace d := d.drew
 have h := d.has.kM (Kb Sn)
 refine mA h lL (X 0 rfl h (kZ rfl) (X 1 rfl h (nu rfl) (XQ 2 rfl h (uf [a] xP rfl Y rfl) (fun b9 A => XH 3 rfl h (fun _ l => kQ rfl (vv l (y := a) A jx)) (XH 4 rfl h (fun _ l => kQ rfl (kX l Mh (kW H) rfl bY bG)) ?_)))))
 obtain ⟨a9, W, K, M⟩ := J
 refine XH 5 rfl h (fun _ l => qb (k := H) (z := (.map none)) AF fM gL rfl rfl K (fun b o m => l.1 b o (M b o m))) (bS hm fun c0 E hm => ?_)
 refine XE 6 rfl (Im d (bM _) call234 (fun _ _ _ _ => mU.nB (wy (sC lu a9 H (.map none)) ((mz lu u H).getD []) _ _ ((nO.DZ lx.1 K H M).mono d.kV) E)) (fun b5 c2 c3 R d I q n a5 => ?_) (L0 := []))
 obtain ⟨b7, N, rfl⟩ := a5
 replace N := N.symm; subst N
 replace d := d.perm (Tb Tn)
 have h := d.has.sW I (Db (Kb Sn))
 refine ⟨h, (bS hm fun c1 F hm => XE 7 rfl (zK d call159 (HK (vf := (fun (x : Bool) => (Value.bool x))) (d.has.2 _ _ Mh) ((nO.DZ lx.1 K H M).mono (fun b o m => d.has.1 b o (I b o m))) F) (fun b6 O c4 L d a2 s U => ?_)))⟩
 have h := d.has.sW (I.trans a2) (Dr (Db (Kb Sn)))
 refine ⟨h, (X 8 rfl h (oM rfl) (mH kr (li ?_)))⟩
 replace d := d.kM (Kr (Db (Db St)))
 refine ma ?_
 obtain rfl := sj hm
 exact mS (v := O) rfl rfl ⟨_, L, rfl, d.sU (fun p m => (Ml m)) U.nd, U⟩
theorem Er (K : Nat) (g : Value) (N : List (kI × (List (ByteArray × Bool)))) (G : LO) (a : Value) (H : List kJ) (k : LO) (j : Value) (J : List (kI × (List kJ))) (u : LO) (c : Value) (I : List (ByteArray × (List kJ))) (t : LO) (z : Value) (M : List lf) (B : LO) (Z : Int) (A a2 : kI) (r : ((List (kI × (List (ByteArray × Bool)))) × (List lf) × Int)) (w : World) {μ0 : lG} (h0 : oW μ0 ((K, Ob #[g, a, j, c, z, (.int .i64 Z)] 294) :: (G ++ (k ++ (u ++ (t ++ (B ++ [])))))) w) (a5 : mW (fun (x : kI) => (.agg (kW x).toArray)) (mL Value.string (fun (x : Bool) => (Value.bool x))) g N G) (Q : lD 53 kN 9 a H k) (a4 : mW (fun (x : kI) => (.agg (kW x).toArray)) (lD 53 kN 9) j J u) (T : mW Value.string (lD 53 kN 9) c I t) (a3 : rp 38 mY 3 z M B) (hm : uI N H J I M Z A a2 = some r) :
  mU false Tryz.prog 415 [(.pointer (some ⟨K, 0, none⟩)), (.agg (kW A).toArray), (.agg (kW a2).toArray)] w ((K, Ob #[g, a, j, c, z, (.int .i64 Z)] 294) :: (G ++ (k ++ (u ++ (t ++ (B ++ [])))))) (fun v L1 W' => ∃ S1 y3 S4, v = (.tuple #[]) ∧ L1 = ((K, Ob #[g, a, j, c, y3, (.int .i64 (r.2.2))] 294) :: (S1 ++ (k ++ (u ++ (t ++ (S4 ++ [])))))) ∧ mW (fun (x : kI) => (.agg (kW x).toArray)) (mL Value.string (fun (x : Bool) => (Value.bool x))) g r.1 S1 ∧ rp 38 mY 3 y3 r.2.1 S4) := by
 refine By h0 21 func415 rfl (fun d => sg (VE (mx d rfl (fun W2 b1 d => VE (mx d rfl (fun W4 b3 d => lr (Wm (VA d (Mt Mh) (kW A) bY bG (bS hm fun r5 e6 hm => VE (zK d call119 (yL K g N a H j J c I z M Z A _ _ (a5.at (fun b o l => d.at_ (Mt (Mt (Mt (Ml l)))))) (Q.sl np (fun b o l => d.at_ (Mt (Mt (Mt (Ma (Ml l))))))) (a4.at (fun b o l => d.at_ (Mt (Mt (Mt (Ma (Ma (Ml l)))))))) (T.at (fun b o l => d.at_ (Mt (Mt (Mt (Ma (Ma (Ma (Ml l))))))))) ((a3.Ej yT).mono (Pl.mono _) (nv (fun b o l => d.at_ (Mt (Mt (Mt (Ma (Ma (Ma (Ma (Ml l))))))))))) (At.of (d.at_ (Mt (Mt Mh))) _ rfl) e6) (fun W7 e7 s e2 d f5 ae a9 => V (rY kp rfl a9) (Wm ?_))))))))))))
 refine ln ?_
 replace d := d.kM (Kr (Kb (Db St)))
 refine sf (nm (fun i E W => ∃ m U a0 n Y q F P, (E 12 = .int .i64 (i : Nat) ∧ E 11 = .int .i64 (r5.length : Nat)) ∧ lz s F ∧ ST false (keys ((K, Ob #[g, a, j, c, z, (.int .i64 Z)] 294) :: (G ++ (k ++ (u ++ (t ++ (B ++ []))))))) w W F ((K, Ob #[g, a, j, c, a0, (.int .i64 q)] 294) :: ((b3, Ol (kW a2) 28) :: (U ++ (k ++ (u ++ (t ++ (Y ++ (e2 ++ P)))))))) ∧ E 0 = (.pointer (some ⟨K, 0, none⟩)) ∧ E 5 = (.pointer (some ⟨b3, 0, none⟩)) ∧ E 10 = e7 ∧ mW (fun (x : kI) => (.agg (kW x).toArray)) (mL Value.string (fun (x : Bool) => (Value.bool x))) g m U ∧ rp 38 mY 3 a0 n Y ∧ qU H J I a2 (r5.drop i) m n q = some r) r5.length a9.len ⟨N, G, z, M, B, Z, s, _, ⟨rfl, rfl⟩, (lz.refl _), (d.kM (Sb (Pr (Pb Pz)) (Sb (Pr Pz) (Sr (Qr Qz) (Sr (Qr Qz) (Sr (Qr Qz) (Sr (Qr Qz) (Sr (Qr Qz) St)))))))), rfl, rfl, rfl, a5, a3, hm⟩ dc dc dc (fun _ _ _ h => by obtain ⟨_, _, _, _, _, _, _, _, aa, _⟩ := h; exact aa) ?_ ?_)
 ·rintro d8 E W c9 ⟨m, U, a0, n, Y, q, F, P, ⟨eI, eN⟩, b6, d, R, c1, c2, L, O, D⟩
  obtain ⟨c4, f0, d2, c5, d3⟩ := mT c9
  rw [d2] at D
  refine bg (VQ (th (i := (d8 : Int)) (x0 := c4) kp jf c2 eI a9 (bA _) c5) (fun f6 d0 => V (kQ rfl (I8 d.has (fun p l => (Mt (Mt (Ma (Ma (Ma (Ma (Ma (Ml l))))))))) a9 (fun _ => rfl) d0 c5 (y := (.string c4)) rfl cO)) (Wa (ln (lh (Wh R (V (kQ c1 (kX d.has (Mt Mh) (kW a2) rfl bY bG)) (Wm (bS D fun c3 d1 D => ?_)))))))))
  refine VE (eM d (Cb Pz (Cr (Qb Qz) (Cr (Qb Qz) (Cr (Qb Qz) (Cr (Qb Qz) (Cr (Qb Qz) Cn)))))) call370 (fun hh _ => mU.nB (rU K g m U a H k j J u c I t a0 n Y q a2 c4 _ _ hh L Q a4 T O d1)) ?_)
  rintro _ f7 e1 f2 d c7 ab ad ⟨d6, e0, d7, b4, rfl, d4, d5⟩
  obtain rfl := b4.symm
  replace d := d.perm (Tb (Tr (Tr (Tr (Tr (Tr Tn))))))
  exact lY (me (li ⟨eI, c3.1, d6, e0, c3.2.1, d7, c3.2.2, e1, _, ⟨rfl, eN⟩, (b6.trans c7), (d.kM (Kb (Sb (Pr (Pr (Pr (Pr (Pr Pz))))) St))), R, c1, c2, d4, d5, (by rw [d3]; exact D)⟩))
 rintro E W ⟨m, U, a0, n, Y, q, F, P, ⟨eI, eN⟩, b6, d, R, c1, c2, L, O, D⟩
 rw [bD] at D
 refine li ?_
 replace d := d.kM (Kb (Db (Kr (Kr (Kr (Kr (Kr (Dr St))))))))
 refine rG ?_
 obtain rfl := sj D
 exact pT rfl ⟨_, _, rfl, (d.ny (Kb (Kr (Kr (Kr (Kr (Kr Sn))))))), U, a0, Y, rfl, rfl, L, O⟩
theorem zL (K : Nat) (G : Value) (Z : List (kI × (List (ByteArray × Bool)))) (D : LO) (g : Value) (I : List kJ) (a : LO) (B : Value) (N : List (kI × (List kJ))) (y : LO) (i : Value) (J : List (ByteArray × (List kJ))) (c : LO) (t : Value) (M : List lf) (j : LO) (a0 : Int) (Q : kJ) (a2 : lf) (r : ((List (kI × (List (ByteArray × Bool)))) × (List lf) × Int)) (w : World) {μ0 : lG} (h0 : oW μ0 ((K, Ob #[G, g, B, i, t, (.int .i64 a0)] 294) :: (D ++ (a ++ (y ++ (c ++ (j ++ [])))))) w) (U : mW (fun (x : kI) => (.agg (kW x).toArray)) (mL Value.string (fun (x : Bool) => (Value.bool x))) G Z D) (T : lD 53 kN 9 g I a) (a3 : mW (fun (x : kI) => (.agg (kW x).toArray)) (lD 53 kN 9) B N y) (Y : mW Value.string (lD 53 kN 9) i J c) (H : rp 38 mY 3 t M j) (hm : sF Z I N J M a0 Q a2 = some r) :
  mU false Tryz.prog 371 [(.pointer (some ⟨K, 0, none⟩)), (.agg (kN Q).toArray), (.agg (mY a2).toArray)] w ((K, Ob #[G, g, B, i, t, (.int .i64 a0)] 294) :: (D ++ (a ++ (y ++ (c ++ (j ++ [])))))) (fun v L1 W' => ∃ S1 y3 S4, v = (.tuple #[]) ∧ L1 = ((K, Ob #[G, g, B, i, y3, (.int .i64 (r.2.2))] 294) :: (S1 ++ (a ++ (y ++ (c ++ (S4 ++ [])))))) ∧ mW (fun (x : kI) => (.agg (kW x).toArray)) (mL Value.string (fun (x : Bool) => (Value.bool x))) G r.1 S1 ∧ rp 38 mY 3 y3 r.2.1 S4) := by
 let s := (#[G, g, B, i, t, (.int .i64 a0)] : Array Value)
 refine By h0 57 func371 rfl (fun d => sg (VE (mx d rfl (fun W2 A d => VE (mx d rfl (fun W4 L d => lr (Wf za (VB d (Mt Mh) rfl rfl cV (ln (mR (lj ?_)))))))))))
 refine lh (Wi rfl (Wa (ln (CI hm rfl (fun e5 hm => ?_) (fun e5 hm => ?_)))))
 ·refine lh (Wm (Wf vn (VA d (Mt Mh) (kW Q.Head) bY bG (Wf Dx (VB d Mh rfl rfl cO (bS hm fun r6 e6 hm => ?_))))))
  refine VE (eM d (Cb (Pb (Pb Pz)) (Cr (Qb (Qb Qz)) (Cr (Qb (Qb Qz)) (Cr (Qb (Qb Qz)) (Cr (Qb (Qb Qz)) (Cr (Qb (Qb Qz)) Cn)))))) call370 (fun q _ => mU.nB (rU K G Z D g I a B N y i J c t M j a0 Q.Head a2.lH _ _ q U T a3 Y H e6)) ?_)
  rintro _ g7 ab f8 d f2 R m ⟨d2, e7, d3, a8, rfl, c5, c6⟩
  obtain rfl := a8.symm
  replace d := d.perm (Tb (Tr (Tr (Tr (Tr (Tr Tn))))))
  refine lY (me (rG ?_))
  obtain rfl := sj hm
  exact pT rfl ⟨_, _, rfl, (d.ny (Kb (Kr (Kr (Kr (Kr (Kr Sn))))))), d2, e7, d3, rfl, rfl, c5, c6⟩
 refine sg (Wi rfl (Wa (ln (CI hm rfl (fun c0 hm => ?_) (fun c0 hm => ?_)))))
 ·refine lh (Wm (Wf Dx (VB d Mh rfl rfl cO (Wf Ay (VB d (Mt Mh) rfl rfl cO (V (ns (v := (.agg (kW (⟨a2.lH, Q.lM⟩ : kI)).toArray)) (pE rfl rfl) (mP iA dN (Ot _ dN) kr)) (Wf vn (VA d (Mt Mh) (kW Q.Head) bY bG (bS hm fun g3 c3 hm => ?_)))))))))
  refine VE (eM d (Cb (Pb (Pb Pz)) (Cr (Qb (Qb Qz)) (Cr (Qb (Qb Qz)) (Cr (Qb (Qb Qz)) (Cr (Qb (Qb Qz)) (Cr (Qb (Qb Qz)) Cn)))))) call415 (fun q _ => (Er K G Z D g I a B N y i J c t M j a0 (⟨a2.lH, Q.lM⟩ : kI) Q.Head _ _ q U T a3 Y H c3)) ?_)
  rintro _ g8 h2 f9 d f3 a6 m ⟨d4, e9, d5, a9, rfl, c7, c8⟩
  obtain rfl := a9.symm
  replace d := d.perm (Tb (Tr (Tr (Tr (Tr (Tr Tn))))))
  refine lY (me (rG ?_))
  obtain rfl := sj hm
  exact pT rfl ⟨_, _, rfl, (d.ny (Kb (Kr (Kr (Kr (Kr (Kr Sn))))))), d4, e9, d5, rfl, rfl, c7, c8⟩
 refine sg (Wi rfl (Wa (ln (CI hm rfl (fun c1 hm => ?_) (fun c1 hm => ?_)))))
 ·refine lj ?_
  replace d := d.drew
  have h := d.has.kM (Kb (Kb (Kb (Kr Sn))))
  refine mA h lL (X 0 rfl h (kZ rfl) (X 1 rfl h (nu rfl) (X 2 rfl h (lg xP rfl) (XH 3 rfl h (fun _ l => kQ rfl (lB l (Mt (Mt Mh)) rfl jx)) (X 4 rfl h (lg qV rfl) (XH 5 rfl h (fun _ l => kQ rfl (kX l (Mt Mh) (kW Q.B) rfl bY bG)) ?_))))))
  obtain ⟨f7, a5⟩ := U
  refine XH 6 rfl h (fun _ l => qb (k := Q.B) (z := (.map none)) AF fM gL rfl rfl a5 (fun b o n => l.2 b o (Mt (Mt (Mt (Ml n)))))) (X 7 rfl h (lg Dx rfl) (XH 8 rfl h (fun _ l => kQ rfl (lB l Mh rfl cO)) (XH 9 rfl h (fun _ l => xe (k := a2.lH) (z := false) (vf := (fun (x : Bool) => (Value.bool x))) G2 gQ js rfl rfl (nO.DZ (μ := hp _) lx.1 a5 Q.B (fun b o n => l.2 b o (Mt (Mt (Mt (Ml n))))))) (X 10 rfl h (kZ rfl) (PJ hm (fun P E W => ∃ O, ST false (keys ((K, Obj.cells s 294 (0, 0)) :: (D ++ (a ++ (y ++ (c ++ (j ++ []))))))) w W μ0 ((L, Ol (mY a2) 38) :: ((A, Ol (kN Q) 53) :: ((K, Obj.cells s 294 (0, 0)) :: (D ++ (a ++ (y ++ (c ++ (j ++ O)))))))) ∧ E 0 = (.pointer (some ⟨K, 0, none⟩)) ∧ E 4 = (.pointer (some ⟨A, 0, none⟩)) ∧ E 5 = (.pointer (some ⟨L, 0, none⟩)) ∧ E 50 = (.bool P)) (bm 22 4194303) 0 ?_ (fun P p F => ?_))))))
  ·rintro h1 E W ⟨O, d, e1, e2, e3, e4⟩ a4
   refine mH kr (li (CI a4 e4 (fun c2 a4 => ?_) (fun c2 a4 => ?_)))
   ·refine lh (Wh e1 (V (lg vn e2) (VA d (Mt Mh) (kW Q.Head) bY bG (V (lg Dx e3) (VB d Mh rfl rfl cO (bS a4 fun g4 c4 a4 => ?_))))))
    refine VE (eM d (Cb (Pb (Pb Pz)) (Cr (Qb (Qb Qz)) (Cr (Qb (Qb Qz)) (Cr (Qb (Qb Qz)) (Cr (Qb (Qb Qz)) (Cr (Qb (Qb Qz)) Cn)))))) call370 (fun q _ => mU.nB (rU K G Z D g I a B N y i J c t M j a0 Q.Head a2.lH _ _ q a5.e T a3 Y H c4)) ?_)
    rintro _ g9 h3 g0 d f4 aa m ⟨d7, f0, d8, b0, rfl, c9, d0⟩
    obtain rfl := b0.symm
    replace d := d.perm (Tb (Tr (Tr (Tr (Tr (Tr Tn))))))
    refine lY (me (rG ?_))
    obtain rfl := sj a4
    exact pT rfl ⟨_, _, rfl, (d.ny (Kb (Kr (Kr (Kr (Kr (Kr Sn))))))), d7, f0, d8, rfl, rfl, c9, d0⟩
   refine nt (me (rG ?_))
   obtain rfl := sj a4
   exact pT rfl ⟨_, _, rfl, (d.ny (Db (Db (Kb (Kr (Kr (Kr (Kr (Kr Sn))))))))), D, t, j, rfl, rfl, a5.e, H⟩
  refine bC p (fun u p => ?_) (fun u p => ?_)
  ·refine Xg 11 rfl rfl (cB u) h (kZ rfl) (Xg 12 rfl rfl (cB u) h (nu rfl) (Xg 13 rfl rfl (cB u) h (lg xP rfl) (te 14 rfl rfl (cB u) h (fun _ l => kQ rfl (lB l (Mt (Mt Mh)) rfl jx)) (Xg 15 rfl rfl (cB u) h (lg zr rfl) (te 16 rfl rfl (cB u) h (fun _ l => kQ rfl (kX l (Mt Mh) (kW Q.C) rfl bY bG)) (te 17 rfl rfl (cB u) h (fun _ l => qb (k := Q.C) (z := (.map none)) AF fM gL rfl rfl a5 (fun b o n => l.2 b o (Mt (Mt (Mt (Ml n)))))) (Xg 18 rfl rfl (cB u) h (lg Dx rfl) (te 19 rfl rfl (cB u) h (fun _ l => kQ rfl (lB l Mh rfl cO)) (te 20 rfl rfl (cB u) h (fun _ l => xe (k := a2.lH) (z := false) (vf := (fun (x : Bool) => (Value.bool x))) G2 gQ js rfl rfl (nO.DZ (μ := hp _) lx.1 a5 Q.C (fun b o n => l.2 b o (Mt (Mt (Mt (Ml n))))))) (X 21 rfl h (mh (cB u) rfl) ?_))))))))))
   obtain rfl := sj p
   refine oa kr (F _ _ ⟨_, (d.kM St), rfl, rfl, rfl, rfl⟩)
  refine Xn 11 rfl rfl (cB u) h (Xn 12 rfl rfl (cB u) h (Xn 13 rfl rfl (cB u) h (Xn 14 rfl rfl (cB u) h (Xn 15 rfl rfl (cB u) h (Xn 16 rfl rfl (cB u) h (Xn 17 rfl rfl (cB u) h (Xn 18 rfl rfl (cB u) h (Xn 19 rfl rfl (cB u) h (Xn 20 rfl rfl (cB u) h (X 21 rfl h (mg (cB u) rfl) ?_))))))))))
  obtain rfl := sj p
  refine oa kr (F _ _ ⟨_, (d.kM St), rfl, rfl, rfl, rfl⟩)
 refine nt (me (rG ?_))
 obtain rfl := sj hm
 exact pT rfl ⟨_, _, rfl, (d.ny (Db (Db (Kb (Kr (Kr (Kr (Kr (Kr Sn))))))))), D, t, j, rfl, rfl, U, H⟩
theorem Dv (K : Nat) (g : Value) (T : List (kI × (List (ByteArray × Bool)))) (D : LO) (a : Value) (G : List kJ) (j : LO) (t : Value) (J : List (kI × (List kJ))) (u : LO) (c : Value) (H : List (ByteArray × (List kJ))) (k : LO) (z : Value) (M : List lf) (B : LO) (a0 : Int) (Z : kJ) (r : ((List (kI × (List (ByteArray × Bool)))) × (List lf) × Int)) (w : World) {μ0 : lG} (h0 : oW μ0 ((K, Ob #[g, a, t, c, z, (.int .i64 a0)] 294) :: (D ++ (j ++ (u ++ (k ++ (B ++ [])))))) w) (a2 : mW (fun (x : kI) => (.agg (kW x).toArray)) (mL Value.string (fun (x : Bool) => (Value.bool x))) g T D) (N : lD 53 kN 9 a G j) (Y : mW (fun (x : kI) => (.agg (kW x).toArray)) (lD 53 kN 9) t J u) (Q : mW Value.string (lD 53 kN 9) c H k) (U : rp 38 mY 3 z M B) (hm : tF T G J H M a0 Z = some r) :
  mU false Tryz.prog 325 [(.pointer (some ⟨K, 0, none⟩)), (.agg (kN Z).toArray)] w ((K, Ob #[g, a, t, c, z, (.int .i64 a0)] 294) :: (D ++ (j ++ (u ++ (k ++ (B ++ [])))))) (fun v L1 W' => ∃ S1 y3 S4, v = (.tuple #[]) ∧ L1 = ((K, Ob #[g, a, t, c, y3, (.int .i64 (r.2.2))] 294) :: (S1 ++ (j ++ (u ++ (k ++ (S4 ++ [])))))) ∧ mW (fun (x : kI) => (.agg (kW x).toArray)) (mL Value.string (fun (x : Bool) => (Value.bool x))) g r.1 S1 ∧ rp 38 mY 3 y3 r.2.1 S4) := by
 refine By h0 33 func325 rfl (fun d => sg (VE (mx d rfl (fun W2 b1 d => lr (Wf za (VB d Mh rfl rfl cV (ln (bg ?_))))))))
 refine Wi rfl (Wa (ln (CI hm rfl (fun f1 hm => ?_) (fun f1 hm => ?_))))
 ·refine lh (Wm (Wf vn (VA d Mh (kW Z.Head) bY bG (Wf Dk (VB d Mh rfl rfl cO (bS hm fun r4 f2 hm => ?_))))))
  refine VE (eM d (Cb (Pb Pz) (Cr (Qb Qz) (Cr (Qb Qz) (Cr (Qb Qz) (Cr (Qb Qz) (Cr (Qb Qz) Cn)))))) call370 (fun hh _ => mU.nB (rU K g T D a G j t J u c H k z M B a0 Z.Head Z.lH _ _ hh a2 N Y Q U f2)) ?_)
  rintro _ h1 ae g8 d g2 ad m ⟨e7, f4, e8, c2, rfl, e0, e1⟩
  obtain rfl := c2.symm
  replace d := d.perm (Tb (Tr (Tr (Tr (Tr (Tr Tn))))))
  refine lY (me (rG ?_))
  obtain rfl := sj hm
  exact pT rfl ⟨_, _, rfl, (d.ny (Kb (Kr (Kr (Kr (Kr (Kr Sn))))))), e7, f4, e8, rfl, rfl, e0, e1⟩
 refine sg (Wm (Wf qV (VA d Mh (kW Z.B) bY bG (bS hm fun c6 d9 hm => VE (zK d call119 (yL K g T a G t J c H z M a0 Z.B _ _ (a2.at (fun b o l => d.at_ (Mt (Mt (Ml l))))) (N.sl np (fun b o l => d.at_ (Mt (Mt (Ma (Ml l)))))) (Y.at (fun b o l => d.at_ (Mt (Mt (Ma (Ma (Ml l))))))) (Q.at (fun b o l => d.at_ (Mt (Mt (Ma (Ma (Ma (Ml l)))))))) ((U.Ej yT).mono (Pl.mono _) (nv (fun b o l => d.at_ (Mt (Mt (Ma (Ma (Ma (Ma (Ml l)))))))))) (At.of (d.at_ (Mt Mh)) _ rfl) d9) (fun g9 f3 d5 e5 d f6 ab F => V (rY kp rfl F) (Wm (ln (sf (nm (fun i E W => ∃ n a3 a5 q a4 a9 L R, (E 13 = .int .i64 (i : Nat) ∧ E 12 = .int .i64 (c6.length : Nat)) ∧ lz d5 L ∧ ST false (keys ((K, Ob #[g, a, t, c, z, (.int .i64 a0)] 294) :: (D ++ (j ++ (u ++ (k ++ (B ++ []))))))) w W L ((K, Ob #[g, a, t, c, a5, (.int .i64 a9)] 294) :: ((b1, Ol (kN Z) 53) :: (a3 ++ (j ++ (u ++ (k ++ (a4 ++ (e5 ++ R)))))))) ∧ E 0 = (.pointer (some ⟨K, 0, none⟩)) ∧ E 3 = (.pointer (some ⟨b1, 0, none⟩)) ∧ E 11 = f3 ∧ mW (fun (x : kI) => (.agg (kW x).toArray)) (mL Value.string (fun (x : Bool) => (Value.bool x))) g n a3 ∧ rp 38 mY 3 a5 q a4 ∧ qc G J H Z (c6.drop i) n q a9 = some r) c6.length F.len ⟨T, D, z, M, B, a0, d5, _, ⟨rfl, rfl⟩, (lz.refl _), (d.kM (Sb (Pr (Pb Pz)) (Sb (Pr Pz) (Sr (Qr Qz) (Sr (Qr Qz) (Sr (Qr Qz) (Sr (Qr Qz) (Sr (Qr Qz) St)))))))), rfl, rfl, rfl, a2, U, hm⟩ dc dc dc (fun _ _ _ h => by obtain ⟨_, _, _, _, _, _, _, _, a1, _⟩ := h; exact a1) ?_ ?_))))))))))
 ·rintro e2 E W c8 ⟨n, a3, a5, q, a4, a9, L, R, ⟨eI, eN⟩, b7, d, c0, A, c1, O, P, I⟩
  obtain ⟨s, f7, d1, c4, d2⟩ := mT c8
  rw [d1] at I
  refine bg (VQ (th (i := (e2 : Int)) (x0 := s) kp jf c1 eI F (bA _) c4) (fun g3 c9 => V (kQ rfl (I8 d.has (fun p l => (Mt (Mt (Ma (Ma (Ma (Ma (Ma (Ml l))))))))) F (fun _ => rfl) c9 c4 (y := (.string s)) rfl cO)) (Wa (ln (lh (Wh c0 (V (kQ A (kX d.has (Mt Mh) (kN Z) rfl cN aW)) (V (lg qV A) (VA d (Mt Mh) (kW Z.B) bY bG (Wm (V (ns (v := (.agg (mY (⟨Z.B, s⟩ : lf)).toArray)) (pE rfl rfl) (mP kD iH (QQ _ iH) kr)) ?_)))))))))))
  refine bS I fun c3 d0 I => ?_
  refine VE (eM d (Cb Pz (Cr (Qb Qz) (Cr (Qb Qz) (Cr (Qb Qz) (Cr (Qb Qz) (Cr (Qb Qz) Cn)))))) call371 (fun hh _ => (zL K g n a3 a G j t J u c H k a5 q a4 a9 Z (⟨Z.B, s⟩ : lf) _ _ hh O N Y Q P d0)) ?_)
  rintro _ g4 e4 f9 d c5 aa m ⟨d6, e3, d7, b5, rfl, d3, d4⟩
  obtain rfl := b5.symm
  replace d := d.perm (Tb (Tr (Tr (Tr (Tr (Tr Tn))))))
  exact lY (me (li ⟨eI, c3.1, d6, e3, c3.2.1, d7, c3.2.2, e4, _, ⟨rfl, eN⟩, (b7.trans c5), (d.kM (Kb (Sb (Pr (Pr (Pr (Pr (Pr Pz))))) St))), c0, A, c1, d3, d4, (by rw [d2]; exact I)⟩))
 rintro E W ⟨n, a3, a5, q, a4, a9, L, R, ⟨eI, eN⟩, b7, d, c0, A, c1, O, P, I⟩
 rw [bD] at I
 refine li ?_
 replace d := d.kM (Kb (Db (Kr (Kr (Kr (Kr (Kr (Dr St))))))))
 refine me (rG ?_)
 obtain rfl := sj I
 exact pT rfl ⟨_, _, rfl, (d.ny (Kb (Kr (Kr (Kr (Kr (Kr Sn))))))), a3, a5, a4, rfl, rfl, O, P⟩
theorem CP (I : Nat) (a : Value) (e8 : List (kI × (List (ByteArray × Bool)))) (K : LO) (c : Value) (Q : List kJ) (j : LO) (u : Value) (N : List (kI × (List kJ))) (y : LO) (g : Value) (H : List (ByteArray × (List kJ))) (t : LO) (G : Value) (d4 : List lf) (D : LO) (a0 : Int) (r : ((List (kI × (List (ByteArray × Bool)))) × (List lf) × Int)) (w : World) {μ0 : lG} (h0 : oW μ0 ((I, Ob #[a, c, u, g, G, (.int .i64 a0)] 294) :: (K ++ (j ++ (y ++ (t ++ (D ++ [])))))) w) (h4 : mW (fun (x : kI) => (.agg (kW x).toArray)) (mL Value.string (fun (x : Bool) => (Value.bool x))) a e8 K) (c1 : lD 53 kN 9 c Q j) (g7 : mW (fun (x : kI) => (.agg (kW x).toArray)) (lD 53 kN 9) u N y) (c2 : mW Value.string (lD 53 kN 9) g H t) (g4 : rp 38 mY 3 G d4 D) (hm : vu e8 Q N H d4 a0 = some r) :
  mU false Tryz.prog 326 [(.pointer (some ⟨I, 0, none⟩))] w ((I, Ob #[a, c, u, g, G, (.int .i64 a0)] 294) :: (K ++ (j ++ (y ++ (t ++ (D ++ [])))))) (fun v L1 W' => ∃ S1 y3 S4, v = (.tuple #[]) ∧ L1 = ((I, Ob #[a, c, u, g, y3, (.int .i64 (r.2.2))] 294) :: (S1 ++ (j ++ (y ++ (t ++ (S4 ++ [])))))) ∧ mW (fun (x : kI) => (.agg (kW x).toArray)) (mL Value.string (fun (x : Bool) => (Value.bool x))) a r.1 S1 ∧ rp 38 mY 3 y3 r.2.1 S4) := by
 let g5 : Value := (.pointer (some ⟨I, 0, none⟩))
 let b8 := ((I, Ob #[a, c, u, g, G, (.int .i64 a0)] 294) :: (K ++ (j ++ (y ++ (t ++ (D ++ []))))))
 refine By h0 75 func326 rfl (fun d => sf (mR (oG (fun m E W => ∃ e3 b7 e4 a1 b9 d1 b4 h5, lz μ0 b4 ∧ ST false (keys b8) w W b4 ((I, Ob #[a, c, u, g, e4, (.int .i64 d1)] 294) :: (b7 ++ (j ++ (y ++ (t ++ (b9 ++ h5)))))) ∧ E 0 = g5 ∧ mW (fun (x : kI) => (.agg (kW x).toArray)) (mL Value.string (fun (x : Bool) => (Value.bool x))) a e3 b7 ∧ rp 38 mY 3 e4 a1 b9 ∧ om Q N H m e3 a1 d1 = some r) lE ⟨e8, K, G, d4, D, a0, μ0, _, (lz.refl _), (d.kM St), rfl, h4, g4, hm⟩ ?_)))
 rintro m E W ⟨e3, b7, e4, a1, b9, d1, b4, h5, i0, d, F, g9, c5, M⟩
 cases m with
 | zero => rw [om] at M; cases M
 | succ n0 =>
  refine lj (sg (Wh F (Wn (Wf Bm (VB d Mh rfl rfl isAgg68 (V (Pc jJ rfl c5) (Wi rfl (ln (CI M rfl (fun i7 M => ?_) (fun i7 M => ?_))))))))))
  ·refine kn (bg (Wh F (Wn (Wf Bm (VB d Mh rfl rfl isAgg68 (bS M fun B h2 M => VQ (vt (enc := mY) (i := 0) (x0 := B) jJ kE rfl rfl (c5.Ej yT) (lK h2) (lI h2)) (fun q0 j7 => V (kQ rfl (lR (oT.hp _) (j7.mono (nv (fun b o p => d.has.2 b o (Mt (Ma (Ma (Ma (Ma (Ml p))))))))) isAgg38 kE)) (VE (lZ d kD (fun o9 a5 d => VO (lA (.agg (mY B).toArray) ((mY B).toArray) d rfl rfl kE (KL B) nb rfl (fun p0 d => lY ?_))))))))))))
   let j2 := ((mz lu N B.kI).getD [])
   let j1 : Value := (.pointer (some ⟨a5, 0, none⟩))
   let i6 := ((mY B).toArray : Array Value)
   let i5 := ((mz mn H B.kI.kP).getD [])
   refine li (sg (Wh F (Wh F (Wn (Wf Bm (VB d (Mt Mh) rfl rfl isAgg68 (bS M fun _ g8 M => VQ (Me (i := 1) jJ kE rfl rfl yT c5 (wq g8) (vZ g8)) (fun q3 h1 => Wn (Wf Bm ?_)))))))))
   obtain ⟨f7, g0, rfl⟩ := h1.form
   let g6 : Value := (.slice f7 (a1.drop (Int.toNat 1)).length g0)
   replace d := d.perm (Nb (Pb Pz) Nz)
   refine VO (lA g6 (#[a, c, u, g, g6, (.int .i64 d1)]) d rfl rfl sizeOf68 oc nb rfl (fun p1 d => ln (lj (lj ?_))))
   replace d := d.drew
   have l := d.has.kM (Kb (Kb (Dr (Dr (Kr Sn)))))
   refine mA l lL (X 0 rfl l (kZ F) (X 1 rfl l (nu rfl) (X 2 rfl l (lg LF rfl) (XH 3 rfl l (fun _ n => kQ rfl (lB n Mh rfl isAgg291)) (X 4 rfl l (lg Jz rfl) (XH 5 rfl l (fun _ n => kQ rfl (kX n (Mt Mh) (kW B.kI) rfl bY bG)) ?_))))))
   obtain ⟨l7, c3⟩ := g7
   obtain ⟨o7, f0, k2⟩ := nO.rowAt lx.1 c3 B.kI
   refine XH 6 rfl l (fun _ n => qb (k := B.kI) (z := (.slice none 0 0)) AF underlying291 kC rfl rfl c3 (fun b o p => n.2 b o (Mt (Mt (Ml p))))) (X 7 rfl l (nn bF rfl (f0.Ej np)) (X 8 rfl l (kZ rfl) (mH kr (li (CJ M (fun d0 E W => ∃ d6 e5 d7 b5 h6, lz b4 b5 ∧ ST false (keys b8) w W b5 ((I, Ob #[a, c, u, g, e5, (.int .i64 d0.2.2)] 294) :: ((a5, Obj.cells i6 38 (0, 0)) :: (d6 ++ (j ++ (y ++ (t ++ (d7 ++ h6))))))) ∧ E 0 = g5 ∧ E 2 = j1 ∧ mW (fun (x : kI) => (.agg (kW x).toArray)) (mL Value.string (fun (x : Bool) => (Value.bool x))) a d0.1 d6 ∧ rp 38 mY 3 e5 d0.2.1 d7) (fun d0 j6 => ?_) ?_)))))
   ·refine nm (fun i E W => ∃ c7 a3 P c8 a4 d2 d3 f9, (E 35 = .int .i64 (i : Nat) ∧ E 34 = .int .i64 (j2.length : Nat)) ∧ lz b4 d3 ∧ ST false (keys b8) w W d3 ((I, Ob #[a, c, u, g, P, (.int .i64 d2)] 294) :: ((a5, Obj.cells i6 38 (0, 0)) :: (a3 ++ (j ++ (y ++ (t ++ (a4 ++ f9))))))) ∧ E 0 = g5 ∧ E 2 = j1 ∧ E 33 = (sC lu l7 B.kI (.slice none 0 0)) ∧ mW (fun (x : kI) => (.agg (kW x).toArray)) (mL Value.string (fun (x : Bool) => (Value.bool x))) a c7 a3 ∧ rp 38 mY 3 P c8 a4 ∧ pS Q N H B (j2.drop i) c7 c8 d2 = some d0) j2.length (f0.Ej np).len ⟨e3, b7, g6, (a1.drop (Int.toNat 1)), b9, d1, b4, _, ⟨rfl, rfl⟩, (lz.refl _), (d.kM St), F, rfl, rfl, g9, h1, j6⟩ dc dc dc (fun _ _ _ h => by obtain ⟨_, _, _, _, _, _, _, _, s, _⟩ := h; exact s) ?_ ?_
    ·rintro m5 E W j0 ⟨c7, a3, P, c8, a4, d2, d3, f9, ⟨q, eN⟩, d5, d, e1, e2, g1, f3, f4, T⟩
     obtain ⟨b3, o3, l1, l0, l2⟩ := mT j0
     rw [l1] at T
     refine bg (VQ (vt (enc := kN) (i := (m5 : Int)) (x0 := b3) bF aW g1 q (f0.Ej np) (bA _) l0) (fun q2 j9 => V (kQ rfl (lR (oT.hp _) (j9.mono (nv (fun b o p => d.has.2 b o (Mt (Mt (Ma (Ma (Ml (k2 b o p))))))))) cN aW)) (VE (lZ d dT (fun p5 p9 d => VO (lA (.agg (kN b3).toArray) ((kN b3).toArray) d rfl rfl aW (qQ b3) nb rfl (fun p6 d => ln (lh (Wh e1 (VA d Mh (kN b3) cN aW (V (kQ e2 (kX d.has (Mt (Mt Mh)) (mY B) rfl isAgg38 kE)) (bS T fun g3 k1 T => ?_))))))))))))
     refine VE (eM d (Cb (Pb Pz) (Cr (Qb (Qb Qz)) (Cr (Qb (Qb Qz)) (Cr (Qb (Qb Qz)) (Cr (Qb (Qb Qz)) (Cr (Qb (Qb Qz)) Cn)))))) call371 (fun hh _ => (zL I a c7 a3 c Q j u N y g H t P c8 a4 d2 b3 B _ _ hh f3 c1 c3.e c2 f4 k1)) ?_)
     rintro _ q5 n6 o6 d i4 ab A ⟨m1, n4, m2, f6, rfl, l5, l6⟩
     obtain rfl := f6.symm
     replace d := d.perm (Tb (Tr (Tr (Tr (Tr (Tr Tn))))))
     refine lY (me (li ?_))
     replace d := d.kM (Kb (Kr (Kr (Kr (Kr (Kr (Db St)))))))
     exact ⟨q, g3.1, m1, n4, g3.2.1, m2, g3.2.2, n6, _, ⟨rfl, eN⟩, (d5.trans i4), (d.kM (Kb (Sb (Pr (Pr (Pr (Pr (Pr Pz))))) St))), e1, e2, g1, l5, l6, (by rw [l2]; exact T)⟩
    rintro E W ⟨c7, a3, P, c8, a4, d2, d3, f9, ⟨q, eN⟩, d5, d, e1, e2, g1, f3, f4, T⟩
    rw [bD] at T
    refine li ?_
    obtain rfl := sj T
    exact ⟨a3, P, a4, d3, _, d5, (d.kM St), e1, e2, f3, f4⟩
   rintro ⟨m6, m7, n1⟩ E W ⟨d6, e5, d7, b5, h6, i1, d, h8, h9, k3, k4⟩ j3
   refine lj ?_
   replace d := d.drew
   have l := d.has.kM (Kb (Kb (Dr (Dr (Dr (Kr Sn))))))
   refine mA l lL (X 0 rfl l (kZ h8) (X 1 rfl l (nu rfl) (X 2 rfl l (lg HL rfl) (XH 3 rfl l (fun _ n => kQ rfl (lB n Mh rfl isAgg292)) (X 4 rfl l (lg Jz h9) (X 5 rfl l (lg xm rfl) (XH 6 rfl l (fun _ n => kQ rfl (lB n (Mt Mh) rfl cO)) ?_)))))))
   obtain ⟨l8, e9⟩ := c2
   obtain ⟨o8, f1, k5⟩ := nO.rowAt nh.1 e9 B.kI.kP
   refine XH 7 rfl l (fun _ n => qb (k := B.kI.kP) (z := (.slice none 0 0)) G2 underlying292 kC rfl rfl e9 (fun b o p => n.2 b o (Mt (Mt (Ml p))))) (X 8 rfl l (nn bF rfl (f1.Ej np)) (X 9 rfl l (kZ rfl) (mH kr (li (sf (CJ j3 (fun c9 E W => ∃ d8 e6 d9 e7 h7, lz b5 e7 ∧ ST false (keys b8) w W e7 ((I, Ob #[a, c, u, g, e6, (.int .i64 c9.2.2)] 294) :: (d8 ++ (j ++ (y ++ (t ++ (d9 ++ h7)))))) ∧ E 0 = g5 ∧ mW (fun (x : kI) => (.agg (kW x).toArray)) (mL Value.string (fun (x : Bool) => (Value.bool x))) a c9.1 d8 ∧ rp 38 mY 3 e6 c9.2.1 d9) (fun c9 j5 => ?_) ?_))))))
   ·refine nm (fun i E W => ∃ a9 Y a2 O Z R b6 f8, (E 53 = .int .i64 (i : Nat) ∧ E 52 = .int .i64 (i5.length : Nat)) ∧ lz b5 b6 ∧ ST false (keys b8) w W b6 ((I, Ob #[a, c, u, g, a2, (.int .i64 R)] 294) :: ((a5, Obj.cells i6 38 (0, 0)) :: (Y ++ (j ++ (y ++ (t ++ (Z ++ f8))))))) ∧ E 0 = g5 ∧ E 2 = j1 ∧ E 51 = (sC mn l8 B.kI.kP (.slice none 0 0)) ∧ mW (fun (x : kI) => (.agg (kW x).toArray)) (mL Value.string (fun (x : Bool) => (Value.bool x))) a a9 Y ∧ rp 38 mY 3 a2 O Z ∧ oO B Q N H (i5.drop i) a9 O R = some c9) i5.length (f1.Ej np).len ⟨m6, d6, e5, m7, d7, n1, b5, _, ⟨rfl, rfl⟩, (lz.refl _), (d.kM St), h8, h9, rfl, k3, k4, j5⟩ dc dc dc (fun _ _ _ h => by obtain ⟨_, _, _, _, _, _, _, _, s, _⟩ := h; exact s) ?_ ?_
    ·rintro m4 E W i9 ⟨a9, Y, a2, O, Z, R, b6, f8, ⟨q, eN⟩, a8, d, L, c0, e0, f2, c6, J⟩
     obtain ⟨U, o2, k9, k8, h3⟩ := mT i9
     rw [k9] at J
     refine bg (VQ (vt (enc := kN) (i := (m4 : Int)) (x0 := U) bF aW e0 q (f1.Ej np) (bA _) k8) (fun q1 j8 => V (kQ rfl (lR (oT.hp _) (j8.mono (nv (fun b o p => d.has.2 b o (Mt (Mt (Ma (Ma (Ma (Ml (k5 b o p)))))))))) cN aW)) (VE (lZ d dT (fun p2 p8 d => VO (lA (.agg (kN U).toArray) ((kN U).toArray) d rfl rfl aW (qQ U) nb rfl (fun p3 d => ln (lj ?_))))))))
     replace d := d.drew
     have l := d.has.kM (Kb (Kb (Kb (Kr Sn))))
     refine mA l lL (X 0 rfl l (kZ L) (X 1 rfl l (nu rfl) (X 2 rfl l (lg xP rfl) (XH 3 rfl l (fun _ n => kQ rfl (lB n (Mt Mh) rfl jx)) (X 4 rfl l (lg qV rfl) (XH 5 rfl l (fun _ n => kQ rfl (kX n Mh (kW U.B) rfl bY bG)) ?_))))))
     obtain ⟨o0, c4⟩ := f2
     refine XH 6 rfl l (fun _ n => qb (k := U.B) (z := (.map none)) AF fM gL rfl rfl c4 (fun b o p => n.2 b o (Mt (Mt (Mt (Ml p)))))) (X 7 rfl l (lg Jz c0) (X 8 rfl l (lg wv rfl) (XH 9 rfl l (fun _ n => kQ rfl (lB n (Mt (Mt Mh)) rfl cO)) (XH 10 rfl l (fun _ n => xe (k := B.kI.kK) (z := false) (vf := (fun (x : Bool) => (Value.bool x))) G2 gQ js rfl rfl (nO.DZ (μ := hp _) lx.1 c4 U.B (fun b o p => n.2 b o (Mt (Mt (Mt (Ml p))))))) (mH kr (li (CI J rfl (fun i8 J => ?_) (fun i8 J => ?_))))))))
     ·refine lh (Wh L (Wf vn (VA d Mh (kW U.Head) bY bG (V (lg Dx c0) (VB d (Mt (Mt Mh)) rfl rfl cO (bS J fun g2 k0 J => ?_))))))
      refine VE (eM d (Cb (Pb Pz) (Cr (Qb (Qb Qz)) (Cr (Qb (Qb Qz)) (Cr (Qb (Qb Qz)) (Cr (Qb (Qb Qz)) (Cr (Qb (Qb Qz)) Cn)))))) call370 (fun hh _ => mU.nB (rU I a a9 Y c Q j u N y g H t a2 O Z R U.Head B.lH _ _ hh c4.e c1 c3.e e9.e c6 k0)) ?_)
      rintro _ q4 n5 o5 d i3 aa A ⟨l9, n3, m0, f5, rfl, l3, l4⟩
      obtain rfl := f5.symm
      replace d := d.perm (Tb (Tr (Tr (Tr (Tr (Tr Tn))))))
      refine lY (me (li ?_))
      replace d := d.kM (Kb (Kr (Kr (Kr (Kr (Kr (Db St)))))))
      exact ⟨q, g2.1, l9, n3, g2.2.1, m0, g2.2.2, n5, _, ⟨rfl, eN⟩, (a8.trans i3), (d.kM (Kb (Sb (Pr (Pr (Pr (Pr (Pr Pz))))) St))), L, c0, e0, l3, l4, (by rw [h3]; exact J)⟩
     refine nt (me (li ?_))
     replace d := d.kM (Db St)
     exact ⟨q, a9, Y, a2, O, Z, R, b6, _, ⟨rfl, eN⟩, a8, (d.kM St), L, c0, e0, c4.e, c6, (by rw [h3]; exact J)⟩
    rintro E W ⟨a9, Y, a2, O, Z, R, b6, f8, ⟨q, eN⟩, a8, d, L, c0, e0, f2, c6, J⟩
    rw [bD] at J
    refine li ?_
    obtain rfl := sj J
    exact ⟨Y, a2, Z, b6, _, a8, (d.kM (Kb (Db St))), L, f2, c6⟩
   rintro ⟨m8, m9, n2⟩ E W ⟨d8, e6, d9, e7, h7, i2, d, m3, k6, k7⟩ j4
   exact me (li ⟨n0, bL _, m8, d8, e6, m9, d9, n2, e7, _, ((i0.trans i1).trans i2), (d.kM St), m3, k6, k7, j4⟩)
  refine og (nT (nT (su (li (rG ?_)))))
  obtain rfl := sj M
  exact pT rfl ⟨_, _, rfl, (d.ny (Kb (Kr (Kr (Kr (Kr (Kr Sn))))))), b7, e4, b9, rfl, rfl, g9, c5⟩
theorem Ev (H : Nat) (g : Value) (c2 : List (kI × (List (ByteArray × Bool)))) (G : LO) (u : Value) (a7 : List kJ) (k : LO) (c : Value) (b7 : List (kI × (List kJ))) (z : LO) (a : Value) (a8 : List (ByteArray × (List kJ))) (t : LO) (B : Value) (b6 : List lf) (y : LO) (K : Int) (d1 : Value) (p : List kJ) (r : (Int × (List (kI × (List (ByteArray × Bool)))) × (List kJ) × (List (kI × (List kJ))) × (List (ByteArray × (List kJ))) × (List lf) × Int)) (w : World) {μ0 : lG} (h0 : oW μ0 ((H, Ob #[g, u, c, a, B, (.int .i64 K)] 294) :: (G ++ (k ++ (z ++ (t ++ (y ++ [])))))) w) (d6 : mW (fun (x : kI) => (.agg (kW x).toArray)) (mL Value.string (fun (x : Bool) => (Value.bool x))) g c2 G) (c6 : lD 53 kN 9 u a7 k) (d3 : mW (fun (x : kI) => (.agg (kW x).toArray)) (lD 53 kN 9) c b7 z) (c7 : mW Value.string (lD 53 kN 9) a a8 t) (d2 : rp 38 mY 3 B b6 y) (d7 : Sl (Pl kN) 9 μ0 d1 p) (hm : uH c2 a7 b7 a8 b6 K p = some r) :
  mU false Tryz.prog 233 [(.pointer (some ⟨H, 0, none⟩)), d1] w ((H, Ob #[g, u, c, a, B, (.int .i64 K)] 294) :: (G ++ (k ++ (z ++ (t ++ (y ++ [])))))) (fun v L1 W' => ∃ S1 y3 S4 S6 S8 i1 i0, v = (.int .i64 (r.1)) ∧ L1 = ((H, Ob #[g, y3, c, a, i1, (.int .i64 (r.2.2.2.2.2.2))] 294) :: (S1 ++ (S4 ++ (S6 ++ (S8 ++ (i0 ++ [])))))) ∧ mW (fun (x : kI) => (.agg (kW x).toArray)) (mL Value.string (fun (x : Bool) => (Value.bool x))) g r.2.1 S1 ∧ lD 53 kN 9 y3 r.2.2.1 S4 ∧ mW (fun (x : kI) => (.agg (kW x).toArray)) (lD 53 kN 9) c r.2.2.2.1 S6 ∧ mW Value.string (lD 53 kN 9) a r.2.2.2.2.1 S8 ∧ rp 38 mY 3 i1 r.2.2.2.2.2.1 i0) := by
 let b8 := ((H, Ob #[g, u, c, a, B, (.int .i64 K)] 294) :: (G ++ (k ++ (z ++ (t ++ (y ++ []))))))
 refine By h0 46 func233 rfl (fun d => sg (Wa (lS (Wm (V (xQ underlying171 rfl rfl) (ln (qR rfl (nt ?_))))))))
 refine li (sg (Wm (Wn (Wf Fu (VB d Mh rfl rfl cV (Wa (lS (Wm (V (nn bF rfl d7) ?_)))))))))
 refine Wm (ln (nm (fun i E W => ∃ a3 N M a4 Q a9 T n U a0 a5 Y a2 c1 d5, (E 16 = .int .i64 (i : Nat) ∧ E 15 = .int .i64 (p.length : Nat)) ∧ lz μ0 c1 ∧ ST false (keys b8) w W c1 ((H, Ob #[g, M, c, a, a0, (.int .i64 a2)] 294) :: (N ++ (Q ++ (T ++ (U ++ (Y ++ d5)))))) ∧ E 0 = (.pointer (some ⟨H, 0, none⟩)) ∧ E 5 = (.int .i64 K) ∧ E 14 = d1 ∧ mW (fun (x : kI) => (.agg (kW x).toArray)) (mL Value.string (fun (x : Bool) => (Value.bool x))) g a3 N ∧ lD 53 kN 9 M a4 Q ∧ mW (fun (x : kI) => (.agg (kW x).toArray)) (lD 53 kN 9) c a9 T ∧ mW Value.string (lD 53 kN 9) a n U ∧ rp 38 mY 3 a0 a5 Y ∧ oL K (p.drop i) a3 a4 a9 n a5 a2 = some r) p.length d7.len ⟨c2, G, u, a7, k, b7, z, a8, t, B, b6, y, K, μ0, _, ⟨rfl, rfl⟩, (lz.refl _), (d.kM St), rfl, rfl, rfl, d6, c6, d3, c7, d2, hm⟩ dc dc dc (fun _ _ _ h => by obtain ⟨_, _, _, _, _, _, _, _, _, _, _, _, _, _, _, aa, _⟩ := h; exact aa) ?_ ?_))
 ·rintro f6 E W g3 ⟨a3, N, M, a4, Q, a9, T, n, U, a0, a5, Y, a2, c1, d5, ⟨eI, eN⟩, b1, d, s, c3, c4, F, q, L, O, P, D⟩
  obtain ⟨I, j8, h4, h3, d9⟩ := mT g3
  rw [h4] at D
  refine bg (VQ (vt (enc := kN) (i := (f6 : Int)) (x0 := I) bF aW c4 eI (d7.mono (Pl.mono _) b1) (bA _) h3) (fun l1 g4 => V (kQ rfl (lR d.has g4 cN aW)) (VE (lZ d dT (fun k3 e8 d => VO (lA (.agg (kN I).toArray) ((kN I).toArray) d rfl rfl aW (qQ I) nb rfl (fun k4 d => ln (lj ?_))))))))
  replace d := d.drew
  have l := d.has.kM (Kb (Kb Sn))
  refine mA l lL (XH 0 rfl l (fun _ R => kQ rfl (kX R Mh (kN I) rfl cN aW)) (bS D fun l2 g7 D => XE 1 rfl (Eg d call137 (mi.nB (zy I _ _  g7)) (fun k5 d => ?_))))
  have l := d.has.kM (Kb (Kb Sn))
  refine ⟨l, (X 2 rfl l (kZ rfl) (PJ D (fun f7 E W => ∃ e4, ST false (keys b8) w W c1 ((e8, Ol (kN I) 53) :: ((H, Ob #[g, M, c, a, a0, (.int .i64 a2)] 294) :: (N ++ (Q ++ (T ++ (U ++ (Y ++ e4))))))) ∧ E 0 = (.pointer (some ⟨H, 0, none⟩)) ∧ E 5 = (.int .i64 K) ∧ E 7 = (.pointer (some ⟨e8, 0, none⟩)) ∧ E 14 = d1 ∧ E 15 = (.int .i64 (p.length : Int)) ∧ E 16 = (.int .i64 (f6 : Int)) ∧ E 30 = (.bool f7)) (bm 11 2047) 0 ?_ (fun f7 Z d4 => ?_)))⟩
  ·rintro l7 E W ⟨e4, d, c5, e9, f0, f1, f2, f3, i6⟩ J
   refine mH kr (li (CI J i6 (fun g2 J => ?_) (fun g2 J => ?_)))
   ·refine sg (Wh c5 (V (kQ f0 (kX d.has Mh (kN I) rfl cN aW)) (bS J fun A g8 J => ?_)))
    refine VE (eM d (Cb (Pb Pz) (Cr (Qb Qz) (Cr (Qb Qz) (Cr (Qb Qz) (Cr (Qb Qz) (Cr (Qb Qz) Cn)))))) call324 (fun hh _ => mU.nB (D9 H g a3 N M a4 Q c a9 T a n U a0 a5 Y a2 I _ _ hh F q L O P g8)) ?_)
    rintro _ l4 l8 k0 d f4 ab m ⟨f8, e5, e6, e7, c8, rfl, e0, e1, e2⟩
    obtain rfl := c8.symm
    replace d := d.perm (Tb (Tr (Tr (Tr (Tr (Tr Tn))))))
    refine ln (lh (Wh c5 (V (kQ f0 (kX d.has (Mt (Ma (Ma (Ma (Ma (Ma Mh)))))) (kN I) rfl cN aW)) (bS J fun d8 g9 J => ?_))))
    refine VE (eM d (Cb Pz (Cr Qz (Cr Qz (Cr Qz (Cr Qz (Cr Qz Cn)))))) call325 (fun hh _ => (Dv H g a3 N f8 A.1 e5 c A.2.1 e6 a A.2.2 e7 a0 a5 Y a2 I _ _ hh F e0 e1 e2 P g9)) ?_)
    rintro _ l5 j0 k1 d f5 ad m ⟨i2, i8, i3, c9, rfl, h5, h6⟩
    obtain rfl := c9.symm
    replace d := d.perm (Tb (Tr (Tr (Tr (Tr (Tr Tn))))))
    refine lY (me (li ?_))
    replace d := d.kM (Kb (Kr (Kr (Kr (Kr (Kr (Db St)))))))
    exact ⟨f3, d8.1, i2, f8, A.1, e5, A.2.1, e6, A.2.2, e7, i8, d8.2.1, i3, d8.2.2, j0, _, ⟨rfl, f2⟩, ((b1.trans f4).trans f5), (d.kM St), c5, e9, f1, h5, e0, e1, e2, h6, (by rw [d9]; exact J)⟩
   refine nt (me (li ?_))
   replace d := d.kM (Db St)
   exact ⟨f3, a3, N, M, a4, Q, a9, T, n, U, a0, a5, Y, a2, c1, _, ⟨rfl, f2⟩, b1, (d.kM St), c5, e9, f1, F, q, L, O, P, (by rw [d9]; exact J)⟩
  refine bC Z (fun j Z => ?_) (fun j Z => ?_)
  ·refine Xg 3 rfl rfl (cB j) l (kZ s) (Xg 4 rfl rfl (cB j) l (nu rfl) (Xg 5 rfl rfl (cB j) l (lg HU rfl) (te 6 rfl rfl (cB j) l (fun _ R => kQ rfl (lB R (Mt Mh) rfl isAgg22)) (te 7 rfl rfl (cB j) l (fun _ R => kQ rfl (kX R Mh (kN I) rfl cN aW)) (bS Z fun l3 h1 Z => It 8 rfl rfl (cB j) (Eg d call201 (mi.nB (GP M a4 I _ _ (q.sl np (fun b o hq => d.at_ (Mt (Mt (Ma (Ml hq)))))) h1)) (fun k8 d => ?_)))))))
   have l := d.has.kM (Kb (Kb Sn))
   refine ⟨l, (Xg 9 rfl rfl (cB j) l (qp rfl) (X 10 rfl l (mh (cB j) rfl) ?_))⟩
   obtain rfl := sj Z
   refine oa kr (d4 _ _ ⟨_, (d.kM St), s, c3, rfl, c4, eN, eI, rfl⟩)
  refine Xn 3 rfl rfl (cB j) l (Xn 4 rfl rfl (cB j) l (Xn 5 rfl rfl (cB j) l (Xn 6 rfl rfl (cB j) l (Xn 7 rfl rfl (cB j) l (Xn 8 rfl rfl (cB j) l (Xn 9 rfl rfl (cB j) l (X 10 rfl l (mg (cB j) rfl) ?_)))))))
  obtain rfl := sj Z
  refine oa kr (d4 _ _ ⟨_, (d.kM St), s, c3, rfl, c4, eN, eI, rfl⟩)
 rintro E W ⟨a3, N, M, a4, Q, a9, T, n, U, a0, a5, Y, a2, c1, d5, ⟨eI, eN⟩, b1, d, s, c3, c4, F, q, L, O, P, D⟩
 rw [bD] at D
 refine li (sg (Wh s (bS D fun i7 h2 D => ?_)))
 refine VE (eM d (Cb Pz (Cr Qz (Cr Qz (Cr Qz (Cr Qz (Cr Qz Cn)))))) call326 (fun hh _ => (CP H g a3 N M a4 Q c a9 T a n U a0 a5 Y a2 _ _ hh F q L O P h2)) ?_)
 rintro _ l6 l9 k2 d j6 ae m ⟨i4, i9, i5, d0, rfl, h7, h8⟩
 obtain rfl := d0.symm
 replace d := d.perm (Tb (Tr (Tr (Tr (Tr (Tr Tn))))))
 refine lr (Wh s (Wn (Wf Fu (VB d Mh rfl rfl cV (Wh c3 (Wi rfl (Wa (lt ?_))))))))
 obtain rfl := sj D
 exact mS (v := (.int .i64 (IntKind.i64.wrap (i7.2.2 - K)))) rfl rfl ⟨_, _, rfl, (d.ny (Kb (Kr (Kr (Kr (Kr (Kr Sn))))))), i4, M, Q, T, U, i9, i5, rfl, rfl, h7, q, L, O, h8⟩
theorem Hi (j : Value) (H : List kJ) (r : ((List (kI × (List (ByteArray × Bool)))) × (List kJ) × (List (kI × (List kJ))) × (List (ByteArray × (List kJ))) × (List lf) × Int)) (w : World) (J : Sl (Pl kN) 9 (hp w) j H) (hm : xB H = some r) :
  mU false Tryz.prog 117 [j] w [] (fun v L1 W' => ∃ l n S3 p S6 q S9 D u G y, v = (.pointer (some ⟨l, 0, none⟩)) ∧ L1 = ((l, Ob #[n, p, q, D, G, (.int .i64 (r.2.2.2.2.2))] 294) :: (S3 ++ (S6 ++ (S9 ++ (u ++ (y ++ [])))))) ∧ mW (fun (x : kI) => (.agg (kW x).toArray)) (mL Value.string (fun (x : Bool) => (Value.bool x))) n r.1 S3 ∧ lD 53 kN 9 p r.2.1 S6 ∧ mW (fun (x : kI) => (.agg (kW x).toArray)) (lD 53 kN 9) q r.2.2.1 S9 ∧ mW Value.string (lD 53 kN 9) D r.2.2.2.1 u ∧ rp 38 mY 3 G r.2.2.2.2.1 y) := by
 refine BG 13 func117 rfl (fun b => sg (Wa (lr (VE (DI (P := Tryz.prog) (fun (x : kI) => (.agg (kW x).toArray)) (mL Value.string (fun (x : Bool) => (Value.bool x))) b (fun W1 v4 R2 b z => VE (DI (P := Tryz.prog) (fun (x : kI) => (.agg (kW x).toArray)) (lD 53 kN 9) b (fun W5 v8 R6 b B => VE (DI (P := Tryz.prog) Value.string (lD 53 kN 9) b (fun W9 O Y b t => ?_))))))))))
 obtain ⟨a, rfl⟩ := z.form
 obtain ⟨c, rfl⟩ := B.form
 obtain ⟨g, rfl⟩ := t.form
 refine V (ns (v := (.agg #[(.map (some a)), (.slice none 0 0), (.map (some c)), (.map (some g)), (.slice none 0 0), (.int .i64 0)])) (BX rfl rfl rfl) (mP zeroValue294 fL (Sy _ fL) kr)) (VE (mx b rfl (fun c1 k b => Wa (lr (Wm (Wm (bS hm fun L K hm => ?_)))))))
 refine VE (eM b (Cb Pz (Cr (Qr (Qr Qz)) (C0 (Cr (Qr Qz) (Cr Qz (C0 Cn)))))) call233 (fun E h => (Ev k (.map (some a)) ([]) R2 (.slice none 0 0) ([]) [] (.map (some c)) ([]) R6 (.map (some g)) ([]) Y (.slice none 0 0) ([]) [] 0 j H _ _ E z (lD.nil _ _ _) B t (rp.nil _ _ _) (J.mono (Pl.mono _) h) K)) ?_)
 rintro _ R W I b F m d ⟨Z, s, a2, a3, a4, A, a5, i, rfl, M, N, Q, T, U⟩
 obtain rfl := i.symm
 replace b := b.perm (Tb (Tr (Tr (Tr (Tr (Tr Tn))))))
 refine lr (Wm (Wa (lt ?_)))
 obtain rfl := sj hm
 exact mS (v := (.pointer (some ⟨k, 0, none⟩))) rfl rfl ⟨_, _, rfl, (b.Nq (Kb (Kr (Kr (Kr (Kr (Kr Sn))))))), k, (.map (some a)), Z, s, a2, (.map (some c)), a3, (.map (some g)), a4, A, a5, rfl, rfl, M, N, Q, T, U⟩
theorem JR (c : Value) (D : List kJ) (G : ByteArray) (r : ((List (kI × (List (ByteArray × Bool)))) × (List kJ) × (List (kI × (List kJ))) × (List (ByteArray × (List kJ))) × (List lf) × Int × ByteArray)) (w : World) (I : Sl (Pl kN) 9 (hp w) c D) (hm : vJ D G = some r) :
  mU false Tryz.prog 182 [c, (.string G)] w [] (fun v L1 W' => ∃ g h l S4 m S7 n j z k B t u, v = (.func (.func 287) #[] #[(.pointer (some ⟨g, 0, none⟩)), (.pointer (some ⟨u, 0, none⟩))]) ∧ L1 = ((g, Ob #[(.pointer (some ⟨h, 0, none⟩))] 171) :: ((h, Ob #[l, m, n, z, B, (.int .i64 (r.2.2.2.2.2.1))] 294) :: ((u, Ob #[(.string (r.2.2.2.2.2.2))] 9) :: (S4 ++ (S7 ++ (j ++ (k ++ (t ++ [])))))))) ∧ mW (fun (x : kI) => (.agg (kW x).toArray)) (mL Value.string (fun (x : Bool) => (Value.bool x))) l r.1 S4 ∧ lD 53 kN 9 m r.2.1 S7 ∧ mW (fun (x : kI) => (.agg (kW x).toArray)) (lD 53 kN 9) n r.2.2.1 j ∧ mW Value.string (lD 53 kN 9) z r.2.2.2.1 k ∧ rp 38 mY 3 B r.2.2.2.2.1 t) := by
 refine BG 9 func182 rfl (fun b => sg (VE (mx b rfl (fun W2 g b => Wa (lr (Wm (bS hm fun R p hm => ?_)))))))
 refine VE (Im b (bM _) call117 (fun _ _ _ _ => (Hi c D _ _ (I.mono (Pl.mono _) b.kV) p)) (fun W5 v9 L P b O F d H => ?_) (L0 := []))
 obtain ⟨i, q, T, s, U, a9, Y, A, Z, E, a2, a, rfl, J, K, M, N, Q⟩ := H
 replace a := a.symm; subst a
 replace b := b.perm (Tb (Tr (Tr (Tr (Tr (Tr Tn))))))
 refine VE (lZ b zeroValue171 (fun c1 y b => VO (lA (.pointer (some ⟨i, 0, none⟩)) (#[(.pointer (some ⟨i, 0, none⟩))]) b rfl rfl sizeOf171 oc nb rfl (fun c2 b => lr (V (wI (by exact xR rfl rfl) rfl) (Wa (lt ?_)))))))
 obtain rfl := sj hm
 exact mS (v := (.func (.func 287) #[] #[(.pointer (some ⟨y, 0, none⟩)), (.pointer (some ⟨g, 0, none⟩))])) rfl rfl ⟨_, _, rfl, (b.Nq (Kb (Kb (Sb (Pr (Pr (Pr (Pr (Pr Pz))))) (Kr (Kr (Kr (Kr (Kr Sn))))))))), y, i, q, T, s, U, a9, Y, A, Z, E, a2, g, rfl, rfl, J, K, M, N, Q⟩
theorem AK (g : Value) (t : List kY) (j : Value) (z : kY → Option Bool) (r : Int) (w : World) (c : Sl lm 15 (hp w) g t) (B : ye Tryz.prog j (hp w) (BW lm) (fun (r : Bool) => (.bool r)) z) (hm : tP t z = some r) :
  mi false Tryz.prog 184 [g, j] w (.int .i64 r) := by
 refine cG 19 func184 rfl (fun b => sg (Wa (lS (Wm (V (nn bJ rfl c) (Wm (ln (nm (fun i E W => ∃ k, (E 8 = .int .i64 (i : Nat) ∧ E 7 = .int .i64 (t.length : Nat)) ∧ ST false nl w W (hp w) k ∧ E 0 = g ∧ E 1 = j ∧ oh z (t.drop i) i = some r) t.length c.len ⟨_, ⟨rfl, rfl⟩, (b.kM St), rfl, rfl, hm⟩ dc dc dc (fun _ _ _ h => by obtain ⟨_, l, _⟩ := h; exact l) ?_ ?_))))))))
 ·rintro T E W G ⟨k, ⟨d, m⟩, b, u, x, a⟩
  obtain ⟨y, Z, N, M, Q⟩ := mT G
  rw [N] at a
  refine bg (Wh d (Wa (lr (Wh x (Wh u (Wm (VQ (nX (i := (T : Int)) (x0 := y) lm.out bJ cR rfl rfl c (bA _) M) (fun a2 ⟨_, ⟨U, Y, rfl, J, K⟩, H⟩ => V (kQ rfl (lR b.has H jw cR)) (bS a fun a3 I a => ?_)))))))))
  refine VE (zl y b B (lz.refl _) (BW.mk ll (lm.mk ⟨U, Y, rfl, J, K⟩) b.kV) rfl (wk rfl) I (fun n b => ln (CI a rfl (fun D a => ?_) (fun D a => ?_))))
  ·refine sg (Wm (Wa (lt (qI (mV (qI (mV ?_)))))))
   obtain rfl := sj a
   exact rP b
  exact nt (me (li ⟨d, _, ⟨rfl, m⟩, (b.kM St), u, x, (by rw [Q]; exact a)⟩))
 rintro E W ⟨k, ⟨d, m⟩, b, u, x, a⟩
 rw [bD] at a
 exact li (sg (Wa (lt (rQ a b))))
theorem GI (a : kY) (g c : Value) (k : Nat) (u : kJ) (r : Bool) (w : World) (j : Sl (Pl (mJ .u8)) 1 (hp w) g a.Signed.Tag) (i : Sl kL 5 (hp w) c a.kO.Kids) (t : At (hp w) (.pointer (some ⟨k, 0, none⟩)) (kN u)) (hm : wS a u = some r) :
  mi true Tryz.prog 305 [(.agg #[(.int .i64 a.Signed.kJ.Kind), (.string a.Signed.kJ.Head.kK), (.string a.Signed.kJ.Head.kP), (.string a.Signed.kJ.lH), (.string a.Signed.kJ.B.kK), (.string a.Signed.kJ.B.kP), (.string a.Signed.kJ.C.kK), (.string a.Signed.kJ.C.kP), (.string a.Signed.kJ.lM), g, (.int .i64 a.kO.Op), (.int .i64 a.kO.K), (.string a.kO.kI.kK), (.string a.kO.kI.kP), c]), (.pointer (some ⟨k, 0, none⟩))] w (.bool r) := by
 refine cG 9 func305 rfl (fun b => sg ?_)
 obtain ⟨x, z, rfl⟩ := j.form
 obtain ⟨y, B, rfl⟩ := i.form
 refine VE (mx b rfl (fun D G b => Wa (lr (Wf xG (Wf zD (VA b Mh (kN a.Signed.kJ) cN aW (V (kQ rfl (lR b.has t cN aW)) (V (A6 rfl rfl (ue iM) (xN (yK _ a.Signed.kJ u))) (Wa (ln ?_))))))))))
 exact ma (rQ hm b)
theorem J7 (k : lT) (g j : Value) (D : kJ) (r : (kY × Bool)) (w : World) {J : lG} (l : oW J [] w) (c : Sl lm 15 J g k.kR) (B : Sl lX 8 J j k.lC) (hm : zh k D = some r) :
  mE false Tryz.prog 212 [(.agg #[(.string k.Name), g, j]), (.agg (kN D).toArray)] w J [] (fun v L1 μ1 => ∃ d h, v = (.tuple #[(.agg #[(.int .i64 ((((r.1).Signed).kJ).Kind)), (.string (((((r.1).Signed).kJ).Head).kK)), (.string (((((r.1).Signed).kJ).Head).kP)), (.string ((((r.1).Signed).kJ).lH)), (.string (((((r.1).Signed).kJ).B).kK)), (.string (((((r.1).Signed).kJ).B).kP)), (.string (((((r.1).Signed).kJ).C).kK)), (.string (((((r.1).Signed).kJ).C).kP)), (.string ((((r.1).Signed).kJ).lM)), d, (.int .i64 (((r.1).kO).Op)), (.int .i64 (((r.1).kO).K)), (.string ((((r.1).kO).kI).kK)), (.string ((((r.1).kO).kI).kP)), h]), (.bool (r.2))]) ∧ L1 = [] ∧ Sl (Pl (mJ .u8)) 1 μ1 d (((r.1).Signed).Tag) ∧ Sl kL 5 μ1 h (((r.1).kO).Kids)) := by
 refine vd l 19 func212 rfl (fun b => sg ?_)
 obtain ⟨T, U, rfl⟩ := c.form
 obtain ⟨A3, c4, rfl⟩ := B.form
 refine VE (mx b rfl (fun W6 L b => VE (mx b rfl (fun W8 K b => VE (lZ b eF (fun E P b => Wa (lr (Wf pt (VB b (Mt (Mt Mh)) rfl rfl eP (V (wI (by exact wk rfl) rfl) (bS hm fun Z Q hm => VE (Eg b call184 (AK (.slice T k.kR.length U) k.kR (.func (.func 305) #[] #[(.pointer (some ⟨K, 0, none⟩))]) (fun (x : kY) => wS x D) _ _ (c.mono ll.mono b.kV) ⟨305, #[], #[(.pointer (some ⟨K, 0, none⟩))], rfl, call305, fun W x vs r n m hm => by obtain ⟨_, rfl, Y⟩ := m; obtain ⟨s, A, rfl, p, q⟩ := Y.out; exact (GI x s A K D r W p q (At.of (n _ _ (b.at_ (Mt Mh))) _ rfl) hm).nB⟩ Q) (fun F b => Wa (lY ?_))))))))))))))
 refine li ?_
 replace b := b.kM (Kb (Db St))
 refine lj (sg (Wm (Wi rfl (ln (CI hm rfl (fun M hm => ?_) (fun M hm => ?_))))))
 ·refine sg (V (ns (v := (.agg C8.toArray)) vm (mP eF gO (Pw _ gO) kr)) (VO (lA (.agg C8.toArray) (C8.toArray) b rfl rfl cR oc nb rfl (fun O b => Wa (ln ?_)))))
  replace b := b.kM (Kb (Db St))
  refine ma (mV ?_)
  obtain rfl := sj hm
  exact uS (v0 := (.agg C8.toArray)) (v1 := (.bool false)) rfl rfl (kX b.has Mh C8 rfl jw cR) rfl ⟨_, _, _, rfl, (b.ny Sn), (lz.refl _), Lo.refl, (ST.mf b (nL.mem Sn)), (.slice none 0 0), (.slice none 0 0), rfl, rfl, (Sl.nil _ _ _), (Sl.nil _ _ _)⟩
 refine kg (Wf pt (VB b (Mt Mh) rfl rfl eP (Wm (bS hm fun a I hm => VQ (nX (i := Z) (x0 := a) lm.out bJ cR rfl rfl c (lK I) (lI I)) (fun c1 ⟨_, ⟨c3, c5, rfl, G, H⟩, N⟩ => V (kQ rfl (lR b.has N jw cR)) ?_)))))
 obtain ⟨t, y, rfl⟩ := G.form
 obtain ⟨u, z, rfl⟩ := H.form
 let a0 := (C3 a.Signed.kJ.Kind a.Signed.kJ.Head.kK a.Signed.kJ.Head.kP a.Signed.kJ.lH a.Signed.kJ.B.kK a.Signed.kJ.B.kP a.Signed.kJ.C.kK a.Signed.kJ.C.kP a.Signed.kJ.lM t a.Signed.Tag.length y a.kO.Op a.kO.K a.kO.kI.kK a.kO.kI.kP u a.kO.Kids.length z)
 refine VO (lA (.agg a0.toArray) (a0.toArray) b rfl rfl cR oc nb rfl (fun R b => Wa (ln ?_)))
 replace b := b.kM (Kb (Db St))
 refine ma ?_
 obtain rfl := sj hm
 exact uS (v0 := (.agg a0.toArray)) (v1 := (.bool true)) rfl rfl (kX b.has Mh a0 rfl jw cR) rfl ⟨_, _, _, rfl, (b.ny Sn), (lz.refl _), Lo.refl, (ST.mf b (nL.mem Sn)), (.slice t a.Signed.Tag.length y), (.slice u a.kO.Kids.length z), rfl, rfl, G, H⟩
theorem ER (c : Value) (u r : List nS) (w : World) {j : lG} (I : oW j [] w) (a : Sl lX 8 j c u) (hm : vg u = some r) :
  mE true Tryz.prog 302 [c] w j [] (fun v G J => ∃ z t, v = z ∧ G = (t ++ []) ∧ lN 263 lX 8 J z r t) := by
 unfold vg at hm
 refine vd I 8 func302 rfl (fun b => sg (Wa (lS (Wm ?_))))
 obtain ⟨D, Q, rfl⟩ := a.form
 refine V (Aq dS rfl rfl) (ln ?_)
 rcases D with _ | M
 ·have y := a.isNil
  replace hm : some [] = some r := by rw [y] at hm; simpa [nE, maxLen] using hm
  refine tg (rfl) (sg (Wa (lt (mV ?_))))
  obtain rfl := sj hm
  refine mS (v := (.slice none 0 0)) rfl rfl ?_
  replace b := b.OJ
  exact ⟨_, _, _, rfl, (b.ny (Kr Sn)), (lz.refl _), Lo.refl, (ST.mf b (nL.mem (Kr Sn))), (.slice none 0 0), [], rfl, rfl, (lN.nil _ _ _ _)⟩
 ·refine qR (rfl) (kg (VE (lO (cs := #[]) b vm (Bp [] dS eY jK dc rfl (by simp) rfl rfl) (fun N H b => Wm (bS hm fun T x hm => VE (vW (B := [(H, Ob #[] 263)]) mr b dc dS Fp.1 Fp.2.1 rfl Fp.2.2.1 Fp.2.2.2 rfl rfl (lN.lit mr (l := []) .nil rfl nb rfl) (Du.sl mr a b.kV) x (fun K g k b i => Wa (lt ?_))))))))
  obtain rfl := sj hm
  exact mS (v := g) rfl rfl ⟨_, _, _, rfl, (b.ny (Kr Sn)), (lz.refl _), Lo.refl, (ST.mf b (nL.mem (Kr Sn))), g, k, rfl, rfl, i⟩
theorem CE (g : Value) (t : List nS) (j : Value) (z : nS → Option Bool) (r : Int) (w : World) (c : Sl lX 8 (hp w) g t) (B : ye Tryz.prog j (hp w) (BW lX) (fun (r : Bool) => (.bool r)) z) (hm : vy t z = some r) :
  mi false Tryz.prog 304 [g, j] w (.int .i64 r) := by
 refine cG 19 func304 rfl (fun b => sg (Wa (lS (Wm (V (nn dS rfl c) (Wm (ln (nm (fun i E W => ∃ k, (E 8 = .int .i64 (i : Nat) ∧ E 7 = .int .i64 (t.length : Nat)) ∧ ST false nl w W (hp w) k ∧ E 0 = g ∧ E 1 = j ∧ oQ z (t.drop i) i = some r) t.length c.len ⟨_, ⟨rfl, rfl⟩, (b.kM St), rfl, rfl, hm⟩ dc dc dc (fun _ _ _ h => by obtain ⟨_, l, _⟩ := h; exact l) ?_ ?_))))))))
 ·rintro T E W G ⟨k, ⟨d, m⟩, b, u, x, a⟩
  obtain ⟨y, Z, N, M, Q⟩ := mT G
  rw [N] at a
  refine bg (Wh d (Wa (lr (Wh x (Wh u (Wm (VQ (nX (i := (T : Int)) (x0 := y) lX.out dS eY rfl rfl c (bA _) M) (fun a2 ⟨_, ⟨U, Y, rfl, J, K⟩, H⟩ => V (kQ rfl (lR b.has H kF eY)) (bS a fun a3 I a => ?_)))))))))
  refine VE (zl y b B (lz.refl _) (BW.mk mr (lX.mk ⟨U, Y, rfl, J, K⟩) b.kV) rfl (wk rfl) I (fun n b => ln (CI a rfl (fun D a => ?_) (fun D a => ?_))))
  ·refine sg (Wm (Wa (lt (qI (mV (qI (mV ?_)))))))
   obtain rfl := sj a
   exact rP b
  exact nt (me (li ⟨d, _, ⟨rfl, m⟩, (b.kM St), u, x, (by rw [Q]; exact a)⟩))
 rintro E W ⟨k, ⟨d, m⟩, b, u, x, a⟩
 rw [bD] at a
 exact li (sg (Wa (lt (rQ a b))))
theorem B3 (k : Value) (a0 : List nS) (y : LO) (J : Value) (f1 : nS → Option Bool) (r : List nS) (w : World) {Y : lG} (h0 : oW Y (y ++ []) w) (n : lN 263 lX 8 Y k a0 y) (a9 : ye Tryz.prog J Y (BW lX) (fun (r : Bool) => (.bool r)) f1) (hm : sE a0 f1 = some r) :
  mE false Tryz.prog 301 [k, J] w Y (y ++ []) (fun v L1 μ1 => ∃ P, v = P ∧ L1 = [] ∧ Sl lX 8 μ1 P (r)) := by
 refine vd h0 42 func301 rfl (fun d => sg (Wa (lr (Wm (Wm (bS hm fun O d7 hm => VE (Eg d call304 (CE k a0 J f1 _ _ (n.sl mr d.kV (fun b o q => d.at_ (Ml q))) (a9.mono d.kV) d7) (fun W3 d => Wa (ln ?_)))))))))
 refine lj (sg (Wm (Wi rfl (ln (CI hm rfl (fun d6 hm => ?_) (fun d6 hm => ?_))))))
 ·refine sg (Wm (Wa (lt (mV ?_))))
  obtain rfl := sj hm
  refine mS (v := k) rfl rfl ?_
  obtain ⟨aa, d, d2, p, d8⟩ := ST.xn mr d n
  exact ⟨_, _, _, rfl, (d.ny Sn), d2, p, (ST.mf d (nL.mem Sn)), k, rfl, rfl, d8⟩
 refine kS (Wm (Wi rfl (Wa (ln (mR (oG (fun m E W => ∃ a2 K G H A, ST false (keys (y ++ [])) w W Y (K ++ A) ∧ E 0 = k ∧ E 1 = J ∧ E 5 = (.int .i64 G) ∧ E 6 = (.int .i64 H) ∧ lN 263 lX 8 Y k a2 K ∧ oE f1 m a2 G H = some r) lE ⟨a0, y, O, (IntKind.i64.wrap (O + 1)), _, (d.kM St), rfl, rfl, rfl, rfl, n, hm⟩ ?_))))))
 rintro m E W ⟨a2, K, G, H, A, d, t, Z, I, N, j, c⟩
 cases m with
 | zero => rw [oE] at c; cases c
 | succ d4 =>
  refine lj (sg (Wh N (Wh t (V (vr dS rfl j) (Wi rfl (ln (CI c rfl (fun b6 c => ?_) (fun b6 c => ?_))))))))
  ·refine kn (lj (CJ c (fun a3 E W => ∃ M F, ST false (keys (y ++ [])) w W Y (M ++ F) ∧ E 0 = k ∧ E 1 = J ∧ E 5 = (.int .i64 a3.2) ∧ E 6 = (.int .i64 H) ∧ lN 263 lX 8 Y k a3.1 M) (fun a3 g => ?_) ?_))
   ·refine bg (Wh t (Wh N (bS g fun a s g => VQ (mO (i := H) lX.out dS eY rfl rfl j (lK s) (lI s)) (fun f5 ⟨_, ⟨f8, f9, rfl, Q, T⟩, c1, e1⟩ => V (kQ rfl (lR (oT.hp _) (c1.mono (nv (fun b o q => d.has.2 b o (Ml q)))) kF eY)) (VE (lZ d jK (fun e7 f3 d => ?_)))))))
    obtain ⟨u, B, rfl⟩ := Q.form
    obtain ⟨x, D, rfl⟩ := T.form
    let l := (R5 a.kI.kK a.kI.kP a.kO.Op a.kO.K a.kO.kI.kK a.kO.kI.kP u a.kO.Kids.length B x a.nM.length D)
    refine VO (lA (.agg l.toArray) (l.toArray) d rfl rfl eY oc nb rfl (fun e8 d => lr (Wh Z (VA d Mh l kF eY (bS g fun f7 c2 g => VE (zl a d a9 (lz.refl _) (BW.mk mr (lX.mk ⟨(.slice u a.kO.Kids.length B), (.slice x a.nM.length D), rfl, Q, T⟩) d.kV) rfl (wk rfl) c2 (fun e9 d => V (qp rfl) (ln (CI g rfl (fun b7 g => ?_) (fun b7 g => ?_))))))))))
    ·refine sg (Wh t (Wh I (VA d Mh l kF eY (bS g fun g3 U g => VQ (mO (i := G) lX.out dS eY rfl rfl j (lK U) (lI U)) (fun f6 ⟨_, ⟨g0, g1, rfl, e3, e4⟩, e2, b9⟩ => ?_)))))
     replace d := d.perm (Nr (Qb Qz) Nz)
     refine VO (rL (x1 := a) mr d j rfl rfl (lX.mk ⟨(.slice u a.kO.Kids.length B), (.slice x a.nM.length D), rfl, Q, T⟩) b9 (lI U) eY (fun f0 c7 d b4 => ln ?_))
     replace d := d.kM (Kr (Db St))
     refine lh (Wh I (Wi rfl (Wa (lY (me (li ?_))))))
     obtain rfl := sj g
     exact ⟨c7, _, (d.kM St), t, Z, rfl, N, b4⟩
    refine nt (me (li ?_))
    obtain rfl := sj g
    exact ⟨K, _, (d.kM (Db St)), t, Z, I, N, j⟩
   rintro ⟨d3, d5⟩ E W ⟨M, F, d, c8, c9, d0, d1, c3⟩ c0
   exact lh (Wh d1 (Wi rfl (Wa (ln ⟨d4, bL _, d3, M, d5, (IntKind.i64.wrap (H + 1)), _, (d.kM St), c8, c9, d0, rfl, c3, c0⟩))))
  refine og (nT (nT (su (li (sg (Wh t (Wh I (bS c fun _ a4 c => VQ (zk (i := G) dS eY rfl rfl j (wq a4) (vZ a4)) (fun g2 c4 => VO (Bt (z := (⟨K0, K9, []⟩ : nS)) (zs := [(.string zS), (.string zS), (.int .i64 0), (.int .i64 0), (.string zS), (.string zS), (.slice none 0 0), (.slice none 0 0)]) mr d j (lX.mk ⟨(.slice none 0 0), (.slice none 0 0), rfl, (Sl.nil _ _ _), (Sl.nil _ _ _)⟩) dS jK c4 rfl rfl (fun f2 e6 d b5 => lr (Wh t ?_))))))))))))
  refine Wh I (bS c fun _ a5 c => VQ (DP (i := G) dS eY rfl rfl b5 (wq a5) (vZ a5)) (fun L c5 => Wa (lt ?_)))
  obtain rfl := sj c
  refine mS (v := L) rfl rfl ?_
  obtain ⟨g7, d, R, h, c6⟩ := ST.xn mr d c5
  exact ⟨_, _, _, rfl, (d.ny Sn), R, h, (ST.mf d (nL.mem Sn)), L, rfl, rfl, c6⟩
theorem F2 (c : nS) (a i : Value) (k : Nat) (u : kJ) (r : Bool) (w : World) (j : Sl kL 5 (hp w) a c.kO.Kids) (g : Sl (Pl kN) 9 (hp w) i c.nM) (t : At (hp w) (.pointer (some ⟨k, 0, none⟩)) (kN u)) (hm : ta c u = some r) :
  mi true Tryz.prog 303 [(.agg #[(.string c.kI.kK), (.string c.kI.kP), (.int .i64 c.kO.Op), (.int .i64 c.kO.K), (.string c.kO.kI.kK), (.string c.kO.kI.kP), a, i]), (.pointer (some ⟨k, 0, none⟩))] w (.bool r) := by
 refine cG 9 func303 rfl (fun b => sg ?_)
 obtain ⟨B, D, rfl⟩ := j.form
 obtain ⟨x, y, rfl⟩ := g.form
 refine VE (mx b rfl (fun G I b => Wa (lr (Wf KN (VB b Mh rfl rfl isAgg22 (V (kQ rfl (lR b.has t cN aW)) (bS hm fun J z hm => VE (Eg b call201 (GP (.slice x c.nM.length y) c.nM u _ _ (g.mono (Pl.mono _) b.kV) z) (fun H b => V (qp rfl) (Wa (ln ?_)))))))))))
 exact ma (rQ hm b)
theorem IL (i : lT) (a g : Value) (y : kJ) (r : List nS) (w : World) {G : lG} (q : oW G [] w) (j : Sl lm 15 G a i.kR) (c : Sl lX 8 G g i.lC) (hm : yu i y = some r) :
  mE false Tryz.prog 209 [(.agg #[(.string i.Name), a, g]), (.agg (kN y).toArray)] w G [] (fun v L1 μ1 => ∃ n, v = n ∧ L1 = [] ∧ Sl lX 8 μ1 n (r)) := by
 refine vd q 10 func209 rfl (fun b => sg ?_)
 obtain ⟨A1, c2, rfl⟩ := j.form
 obtain ⟨Y, p, rfl⟩ := c.form
 refine VE (mx b rfl (fun W6 P b => VE (mx b rfl (fun W8 z b => Wa (lr (Wf LB (VB b (Mt Mh) rfl rfl isAgg108 (bS hm fun I N hm => ?_))))))))
 refine VE (eD b (bM _) call302 (fun m => mE.nB (ER (.slice Y i.lC.length p) i.lC _ _ m (c.mono mr.mono (lz.refl _)) N)) ?_ (L0 := []))
 rintro _ c3 c6 O b B d ⟨a5, Z, k, rfl, T⟩
 obtain rfl := k.symm
 replace b := b.perm (Tr Tn)
 refine V (wI (by exact wk rfl) rfl) ?_
 replace b := b.perm (Nb (Pr Pz) Nz)
 obtain ⟨c7, b, u, h, M⟩ := ST.Jc (R := [(z, Ol (kN y) 53)]) b
 have K := At.of (M _ _ (.head _)) _ rfl
 refine bS hm fun c1 Q hm => ?_
 refine VE (eD b (Cr Qz Cn) call301 (fun m => (B3 a5 I Z (.func (.func 303) #[] #[(.pointer (some ⟨z, 0, none⟩))]) (fun (x : nS) => ta x y) _ _ m (T.mono mr u) ⟨303, #[], #[(.pointer (some ⟨z, 0, none⟩))], rfl, call303, fun W x vs r A s hm => by obtain ⟨_, rfl, a3⟩ := s; obtain ⟨J, L, rfl, E, F⟩ := a3.out; exact (F2 x J L z y r W E F (K.mono ((lz.refl _).trans A)) hm).nB⟩ Q)) ?_)
 rintro _ c5 c8 b6 b D l ⟨H, t, rfl, U⟩
 obtain rfl := t.symm
 refine Wa (ln ?_)
 replace b := b.kM (Db St)
 refine ma ?_
 obtain rfl := sj hm
 exact mS (v := H) rfl rfl ⟨_, _, _, rfl, (b.ny Sn), ((B.trans u).trans D), ((d.trans h).trans l), (ST.mf b (nL.mem Sn)), H, rfl, rfl, U⟩
theorem Ef (T : Formula → Int → Option (Int × Int)) (n : ∀ (t : Formula) (j : Value) (I : Int) (r : (Int × Int)) (w : World) (g : Sl kL 5 (hp w) j t.Kids), T t I = some r → mi false Tryz.prog 308 [(.agg #[(.int .i64 t.Op), (.int .i64 t.K), (.string t.kI.kK), (.string t.kI.kP), j]), (.int .i64 I)] w (.tuple #[(.int .i64 r.1), (.int .i64 r.2)])) (t : Formula) (j : Value) (I : Int) (r : (Int × Int)) (w : World) (g : Sl kL 5 (hp w) j t.Kids) (hm : vY T t I = some r) :
  mi false Tryz.prog 308 [(.agg #[(.int .i64 t.Op), (.int .i64 t.K), (.string t.kI.kK), (.string t.kI.kP), j]), (.int .i64 I)] w (.tuple #[(.int .i64 r.1), (.int .i64 r.2)]) := by
 refine cG 40 func308 rfl (fun b => sg ?_)
 obtain ⟨A1, c2, rfl⟩ := g.form
 refine VE (mx b rfl (fun W4 P b => Wa (Wa (lr (Wa (Wa (lS (Wf se ?_))))))))
 refine VB b Mh rfl rfl fR (V (nn aF rfl g) (Wm (ln ?_)))
 replace b := b.kM (Db St)
 refine CJ hm (fun Q E W => ∃ a2, ST false nl w W (hp w) a2 ∧ E 6 = (.int .i64 Q.1) ∧ E 7 = (.int .i64 Q.2)) (fun Q a5 => ?_) ?_
 ·refine nm (fun i E W => ∃ y z J, (E 15 = .int .i64 (i : Nat) ∧ E 14 = .int .i64 (t.Kids.length : Nat)) ∧ ST false nl w W (hp w) J ∧ E 1 = (.int .i64 I) ∧ E 6 = (.int .i64 y) ∧ E 7 = (.int .i64 z) ∧ E 13 = (.slice A1 t.Kids.length c2) ∧ qh I T (t.Kids.drop i) y z = some Q) t.Kids.length g.len ⟨1, 0, _, ⟨rfl, rfl⟩, (b.kM St), rfl, rfl, rfl, rfl, a5⟩ dc dc dc (fun _ _ _ h => by obtain ⟨_, _, _, l, _⟩ := h; exact l) ?_ ?_
  ·rintro F E W a3 ⟨y, z, J, ⟨d, m⟩, b, G, x, H, K, a⟩
   obtain ⟨c, c6, q, p, a9⟩ := mT a3
   rw [q] at a
   refine bg (VQ (nX (i := (F : Int)) (x0 := c) kL.out aF aC K d g (bA _) p) (fun c4 ⟨_, ⟨c5, rfl, N⟩, Y⟩ => V (kQ rfl (lR b.has Y aS aC)) (VE (lZ b bE (fun R c3 b => ?_)))))
   obtain ⟨B, D, rfl⟩ := N.form
   let a0 := (C2 c.Op c.K c.kI.kK c.kI.kP B c.Kids.length D)
   refine VO (lA (.agg a0.toArray) (a0.toArray) b rfl rfl aC oc nb rfl (fun c0 b => lS (Wh x (Wh G (Wi rfl (ln (CI a rfl (fun U a => ?_) (fun U a => ?_))))))))
   ·refine og (nT (RV (by simp) (nT (su (li ?_)))))
    obtain rfl := sj a
    exact ⟨_, (b.kM (Db St)), x, H⟩
   refine kg (VA b Mh a0 aS aC (Wh G (Wh x (Wi rfl (bS a fun M Z a => VE (Eg b call308 (n c (.slice B c.Kids.length D) (IntKind.i64.wrap (I - y)) _ _ (N.mono kT.mono b.kV) Z) (fun c1 b => Wm (Wx rfl (Wx rfl (Wa (Wa ?_)))))))))))
   refine ln ?_
   replace b := b.kM (Db St)
   exact lh (Wh x (Wm (Wi rfl (Wh H (Wm (V (RO (k := .i64) rfl rfl) (Wa (Wa (lY (me (li ⟨d, (IntKind.i64.wrap (y + M.1)), (if M.2 > z then M.2 else z), _, ⟨rfl, m⟩, (b.kM St), G, rfl, rfl, K, (by rw [a9]; exact a)⟩)))))))))))
  rintro E W ⟨y, z, J, ⟨d, m⟩, b, G, x, H, K, a⟩
  rw [bD] at a
  refine li ?_
  obtain rfl := sj a
  exact ⟨_, (b.kM St), x, H⟩
 rintro ⟨L, O⟩ E W ⟨a2, b, s, A⟩ a4
 refine sg (Wh s (Wh A (Wi rfl (Wa (Wa (lt ?_))))))
 obtain rfl := sj a4
 exact GL (v := (.int .i64 L)) (u := (.int .i64 (IntKind.i64.wrap (O + 1)))) rfl rfl rfl ⟨rfl, b.ex⟩
theorem B6 : ∀ (n : Nat) (c : Formula) (a : Value) (i : Int) (r : (Int × Int)) (w : World) (g : Sl kL 5 (hp w) a c.Kids) (_ : ph n c i = some r),
  mi false Tryz.prog 308 [(.agg #[(.int .i64 c.Op), (.int .i64 c.K), (.string c.kI.kK), (.string c.kI.kP), a]), (.int .i64 i)] w (.tuple #[(.int .i64 r.1), (.int .i64 r.2)])
 | 0 => by intros; rename_i h; simp only [ph] at h; cases h
 | n + 1 => Ef (ph n) (B6 n)
theorem HG (a : Formula) (g : Value) (r : (Int × Int)) (w : World) (c : Sl kL 5 (hp w) g a.Kids) (hm : xI a = some r) :
  mi false Tryz.prog 214 [(.agg #[(.int .i64 a.Op), (.int .i64 a.K), (.string a.kI.kK), (.string a.kI.kP), g])] w (.tuple #[(.int .i64 r.1), (.int .i64 r.2)]) := by
 refine cG 15 func214 rfl (fun b => sg ?_)
 obtain ⟨i, j, rfl⟩ := c.form
 refine VE (mx b rfl (fun y B b => Wa (Wa (lr (VA b Mh (C2 a.Op a.K a.kI.kK a.kI.kP i a.Kids.length j) aS aC (bS hm fun x t hm => VE (Eg b call308 ((B6 lE) a (.slice i a.Kids.length j) 4096 _ _ (c.mono kT.mono b.kV) t) (fun z b => Wm (Wx rfl (Wx rfl (Wa (Wa ?_))))))))))))
 refine ln ?_
 replace b := b.kM (Db St)
 refine lj (sg (Wm (Wi rfl (ln (CI hm rfl (fun k hm => ?_) (fun k hm => ?_))))))
 ·refine sg (Wa (Wa (lt (mV ?_))))
  obtain rfl := sj hm
  exact GL (v := (.int .i64 0)) (u := (.int .i64 0)) rfl rfl rfl ⟨rfl, b.ex⟩
 refine kg (Wm (Wm (Wa (Wa (lt ?_)))))
 obtain rfl := sj hm
 exact GL (v := (.int .i64 x.1)) (u := (.int .i64 x.2)) rfl rfl rfl ⟨rfl, b.ex⟩
theorem Hz (a : Formula) (H : Value) (r : Bool) (w : World) (t : Sl kL 5 (hp w) H a.Kids) (hm : xH a = some r) :
  mi true Tryz.prog 309 [(.agg #[(.int .i64 a.Op), (.int .i64 a.K), (.string a.kI.kK), (.string a.kI.kP), H])] w (.bool r) := by
 refine cG 63 func309 rfl (fun b => sg ?_)
 obtain ⟨A1, c2, rfl⟩ := t.form
 let l := (C2 a.Op a.K a.kI.kK a.kI.kP A1 a.Kids.length c2)
 refine VE (mx b rfl (fun W4 N b => Wa (lr (V (ns (v := (.agg (kW K0).toArray)) vm (mP iA dN (Ot _ dN) kr)) (VE (lZ b iA (fun W6 A b => VO (lA (.agg (kW K0).toArray) ((kW K0).toArray) b rfl rfl bG (yX K0) nb rfl (fun W7 b => lS (Wf tD ?_))))))))))
 refine VB b (Mt Mh) rfl rfl cV (ln (bg (Wi rfl (Wa (ln (CI hm rfl (fun d9 hm => ?_) (fun d9 hm => ?_)))))))
 ·refine sg (Wf xJ (VA b (Mt Mh) (kW a.kI) bY bG (bS hm fun f7 e5 hm => VE (Eg b kH (uD a.kI _ _  e5) (fun f5 b => Wm (LJ hm (fun d2 E W => ∃ O, ST true nl w W (hp w) ((N, Ol l 113) :: O) ∧ E 1 = (.pointer (some ⟨N, 0, none⟩)) ∧ E 2 = (.bool false) ∧ E 17 = (.bool d2)) 5 ?_ (fun d2 J a4 => ?_)))))))
  ·rintro f8 E W ⟨O, b, e7, c9, e8⟩ e1
   refine Wh e8 (LJ e1 (fun d1 E W => ∃ P, ST true nl w W (hp w) P ∧ E 2 = (.bool false) ∧ E 22 = (.bool d1)) 4 ?_ (fun d1 I a3 => ?_))
   ·rintro f9 E W ⟨P, b, f6, e9⟩ e2
    refine Wg e9 (lt (qI (mV ?_)))
    obtain rfl := sj e2
    exact rP b
   refine bC I (fun u I => ?_) (fun u I => ?_)
   ·refine ug u (lg xE e7) (ug u (kQ rfl (lB b.has Mh rfl cV)) (ug u (lW rfl rfl rfl) (V (mh (cB u) rfl) ?_)))
    obtain rfl := sj I
    exact a3 _ _ ⟨_, (b.kM (Db St)), c9, rfl⟩
   refine un u (un u (un u (V (mg (cB u) rfl) ?_)))
   obtain rfl := sj I
   exact a3 _ _ ⟨_, (b.kM (Db St)), c9, rfl⟩
  refine bC J (fun j J => ?_) (fun j J => ?_)
  ·refine ug j (lg se rfl) (ug j (kQ rfl (lB b.has (Mt Mh) rfl fR)) (ug j (nn aF rfl t) (ug j (lW rfl rfl rfl) (V (mh (cB j) rfl) ?_))))
   obtain rfl := sj J
   exact a4 _ _ ⟨_, (b.kM (Db St)), rfl, rfl, rfl⟩
  refine un j (un j (un j (un j (V (mg (cB j) rfl) ?_))))
  obtain rfl := sj J
  exact a4 _ _ ⟨_, (b.kM (Db St)), rfl, rfl, rfl⟩
 let a0 := (l.toArray : Array Value)
 let d : Value := (.pointer (some ⟨N, 0, none⟩))
 refine lj (CJ hm (fun L E W => ∃ R, ST true nl w W (hp w) ((A, Ol (kW K0) 28) :: ((N, Obj.cells a0 113 (0, 0)) :: R)) ∧ E 1 = d ∧ E 3 = (.pointer (some ⟨A, 0, none⟩)) ∧ E 23 = (.bool L)) (fun L G => ?_) ?_)
 ·refine sg (Wi rfl (Wa (ln (CI G rfl (fun b9 G => ?_) (fun b9 G => ?_)))))
  ·refine kn ?_
   obtain rfl := sj G
   exact ⟨_, (b.kM St), rfl, rfl, rfl⟩
  refine lh (Wi rfl (Wa (ln ?_)))
  obtain rfl := sj G
  exact ⟨_, (b.kM St), rfl, rfl, rfl⟩
 rintro g0 E W ⟨R, b, Q, d0, f0⟩ K
 refine CI K f0 (fun e0 K => ?_) (fun e0 K => ?_)
 ·refine sg (V (lg xJ Q) (VA b (Mt Mh) (kW a.kI) bY bG (V (kQ d0 (kX b.has Mh (kW K0) rfl bY bG)) (V (A6 rfl rfl (ue eqGuardType28) (xN (yB _ a.kI K0))) (Wm (LJ K (fun d3 E W => ∃ c7, ST true nl w W (hp w) c7 ∧ E 34 = (.bool d3)) 4 ?_ (fun d3 M a5 => ?_)))))))
  ·rintro g1 E W ⟨c7, b, f1⟩ e3
   refine Wg f1 (lt (qI (mV ?_)))
   obtain rfl := sj e3
   exact rP b
  refine bC M (fun x M => ?_) (fun x M => ?_)
  ·refine ug x (lg xE Q) (ug x (kQ rfl (lB b.has (Mt Mh) rfl cV)) (ug x (lW rfl rfl rfl) (V (mh (cB x) rfl) ?_)))
   obtain rfl := sj M
   exact a5 _ _ ⟨_, (b.kM (Db (Db St))), rfl⟩
  refine un x (un x (un x (V (mg (cB x) rfl) ?_)))
  obtain rfl := sj M
  exact a5 _ _ ⟨_, (b.kM (Db (Db St))), rfl⟩
 refine nt (me (li (sg (V (lg tD Q) (VB b (Mt Mh) rfl rfl cV (Wi rfl (Wm (LJ K (fun F E W => ∃ c8, ST true nl w W (hp w) ((N, Obj.cells a0 113 (0, 0)) :: c8) ∧ E 1 = d ∧ E 43 = (.bool F)) 5 ?_ (fun F D h => ?_)))))))))
 ·rintro g2 E W ⟨c8, b, a2, d4⟩ e4
  refine Wh d4 (LJ e4 (fun s E W => ∃ m, ST true nl w W (hp w) ((N, Obj.cells a0 113 (0, 0)) :: m) ∧ E 1 = d ∧ E 48 = (.bool s)) 4 ?_ (fun s B Z => ?_))
  ·rintro f2 E W ⟨m, b, T, d5⟩ c0
   refine Wh d5 (LJ c0 (fun q E W => ∃ a9, ST true nl w W (hp w) ((N, Obj.cells a0 113 (0, 0)) :: a9) ∧ E 1 = d ∧ E 56 = (.bool q)) 7 ?_ (fun q z Y => ?_))
   ·rintro f3 E W ⟨a9, b, d6, d7⟩ c1
    refine Wh d7 (LJ c1 (fun p E W => ∃ n, ST true nl w W (hp w) n ∧ E 62 = (.bool p)) 5 ?_ (fun p y U => ?_))
    ·rintro f4 E W ⟨n, b, d8⟩ c3
     exact Wg d8 (lt (rQ c3 b))
    refine bC y (fun g y => ?_) (fun g y => ?_)
    ·refine ug g (lg se d6) (ug g (kQ rfl (lB b.has Mh rfl fR)) (ug g (nn aF rfl t) (ug g (lW rfl rfl rfl) (V (mh (cB g) rfl) ?_))))
     obtain rfl := sj y
     exact U _ _ ⟨_, (b.kM (Db St)), rfl⟩
    refine un g (un g (un g (un g (V (mg (cB g) rfl) ?_))))
    obtain rfl := sj y
    exact U _ _ ⟨_, (b.kM (Db St)), rfl⟩
   refine bC z (fun c z => ?_) (fun c z => ?_)
   ·refine ug c (lg xE T) (ug c (kQ rfl (lB b.has Mh rfl cV)) (ug c (lg se T) (ug c (kQ rfl (lB b.has Mh rfl fR)) (ug c (nn aF rfl t) (ug c (lW rfl rfl rfl) (V (mh (cB c) rfl) ?_))))))
    obtain rfl := sj z
    exact Y _ _ ⟨_, (b.kM St), T, rfl⟩
   refine un c (un c (un c (un c (un c (un c (V (mg (cB c) rfl) ?_))))))
   obtain rfl := sj z
   exact Y _ _ ⟨_, (b.kM St), T, rfl⟩
  refine bC B (fun i B => ?_) (fun i B => ?_)
  ·refine ug i (lg xE a2) (ug i (kQ rfl (lB b.has Mh rfl cV)) (ug i (lW rfl rfl rfl) (V (mh (cB i) rfl) ?_)))
   obtain rfl := sj B
   exact Z _ _ ⟨_, (b.kM St), a2, rfl⟩
  refine un i (un i (un i (V (mg (cB i) rfl) ?_)))
  obtain rfl := sj B
  exact Z _ _ ⟨_, (b.kM St), a2, rfl⟩
 refine bC D (fun k D => ?_) (fun k D => ?_)
 ·refine ug k (lg xJ Q) (ug k (kQ rfl (kX b.has (Mt Mh) (kW a.kI) rfl bY bG)) (ug k (kQ d0 (kX b.has Mh (kW K0) rfl bY bG)) (ug k (A6 rfl rfl (ue eqGuardType28) (xN (yB _ a.kI K0))) (V (mh (cB k) rfl) ?_))))
  obtain rfl := sj D
  exact h _ _ ⟨_, (b.kM (Db St)), Q, rfl⟩
 refine un k (un k (un k (un k (V (mg (cB k) rfl) ?_))))
 obtain rfl := sj D
 exact h _ _ ⟨_, (b.kM (Db St)), Q, rfl⟩
theorem AM (g : Value) (t : List Formula) (j : Value) (z : Formula → Option Bool) (r : Int) (w : World) (c : Sl kL 5 (hp w) g t) (B : ye Tryz.prog j (hp w) (BW kL) (fun (r : Bool) => (.bool r)) z) (hm : tL t z = some r) :
  mi false Tryz.prog 352 [g, j] w (.int .i64 r) := by
 refine cG 19 func352 rfl (fun b => sg (Wa (lS (Wm (V (nn aF rfl c) (Wm (ln (nm (fun i E W => ∃ k, (E 8 = .int .i64 (i : Nat) ∧ E 7 = .int .i64 (t.length : Nat)) ∧ ST false nl w W (hp w) k ∧ E 0 = g ∧ E 1 = j ∧ ol z (t.drop i) i = some r) t.length c.len ⟨_, ⟨rfl, rfl⟩, (b.kM St), rfl, rfl, hm⟩ dc dc dc (fun _ _ _ h => by obtain ⟨_, l, _⟩ := h; exact l) ?_ ?_))))))))
 ·rintro Q E W G ⟨k, ⟨d, m⟩, b, u, x, a⟩
  obtain ⟨y, U, M, K, N⟩ := mT G
  rw [M] at a
  refine bg (Wh d (Wa (lr (Wh x (Wh u (Wm (VQ (nX (i := (Q : Int)) (x0 := y) kL.out aF aC rfl rfl c (bA _) K) (fun Z ⟨_, ⟨T, rfl, J⟩, H⟩ => V (kQ rfl (lR b.has H aS aC)) (bS a fun n I a => ?_)))))))))
  refine VE (zl y b B (lz.refl _) (BW.mk kT (kL.mk ⟨T, rfl, J⟩) b.kV) rfl (wk rfl) I (fun Y b => ln (CI a rfl (fun D a => ?_) (fun D a => ?_))))
  ·refine sg (Wm (Wa (lt (qI (mV (qI (mV ?_)))))))
   obtain rfl := sj a
   exact rP b
  exact nt (me (li ⟨d, _, ⟨rfl, m⟩, (b.kM St), u, x, (by rw [N]; exact a)⟩))
 rintro E W ⟨k, ⟨d, m⟩, b, u, x, a⟩
 rw [bD] at a
 exact li (sg (Wa (lt (rQ a b))))
theorem vz (a : Value) (g : List Formula) (c : Value) (i : Formula → Option Bool) (r : Bool) (w : World) (j : Sl kL 5 (hp w) a g) (k : ye Tryz.prog c (hp w) (BW kL) (fun (r : Bool) => (.bool r)) i) (hm : oU g i = some r) :
  mi false Tryz.prog 310 [a, c] w (.bool r) := by
 refine cG 9 func310 rfl (fun b => sg (Wa (lr (Wm (Wm (bS hm fun x t hm => VE (Eg b call352 (AM a g c i _ _ (j.mono kT.mono b.kV) (k.mono b.kV) t) (fun u b => Wi rfl (Wa (lY ?_))))))))))
 exact li (ma (rQ hm b))
theorem EG (i : Formula → Option Bool) (t : ∀ (c : Formula) (a : Value) (r : Bool) (w : World) (g : Sl kL 5 (hp w) a c.Kids), i c = some r → mi false Tryz.prog 215 [(.agg #[(.int .i64 c.Op), (.int .i64 c.K), (.string c.kI.kK), (.string c.kI.kP), a])] w (.bool r)) (c : Formula) (a : Value) (r : Bool) (w : World) (g : Sl kL 5 (hp w) a c.Kids) (hm : uY i c = some r) :
  mi false Tryz.prog 311 [(.agg #[(.int .i64 c.Op), (.int .i64 c.K), (.string c.kI.kK), (.string c.kI.kP), a])] w (.bool r) := by
 refine cG 6 func311 rfl (fun b => sg ?_)
 obtain ⟨j, k, rfl⟩ := g.form
 refine VE (mx b rfl (fun x z b => Wa (lr (VA b Mh (C2 c.Op c.K c.kI.kK c.kI.kP j c.Kids.length k) aS aC (bS hm fun B u hm => VE (Eg b call215 (t c (.slice j c.Kids.length k) _ _ (g.mono kT.mono b.kV) u) (fun y b => V (qp rfl) (Wa (ln ?_)))))))))
 exact ma (rQ hm b)
theorem DK (z : Formula → Option Bool) (T : ∀ (a : Formula) (g : Value) (r : Bool) (w : World) (c : Sl kL 5 (hp w) g a.Kids), z a = some r → mi false Tryz.prog 215 [(.agg #[(.int .i64 a.Op), (.int .i64 a.K), (.string a.kI.kK), (.string a.kI.kP), g])] w (.bool r)) (a : Formula) (g : Value) (r : Bool) (w : World) (c : Sl kL 5 (hp w) g a.Kids) (hm : wg z a = some r) :
  mi false Tryz.prog 215 [(.agg #[(.int .i64 a.Op), (.int .i64 a.K), (.string a.kI.kK), (.string a.kI.kP), g])] w (.bool r) := by
 refine cG 17 func215 rfl (fun b => sg ?_)
 obtain ⟨B, D, rfl⟩ := c.form
 let a0 := (C2 a.Op a.K a.kI.kK a.kI.kP B a.Kids.length D)
 refine VE (mx b rfl (fun W4 U b => Wa (lr (VA b Mh a0 aS aC (bS hm fun v a3 hm => VE (Eg b call309 (mi.nB (Hz a (.slice B a.Kids.length D) _ _ (c.mono kT.mono b.kV) a3)) (fun W7 b => Wm (LJ hm (fun K E W => ∃ G, ST false nl w W (hp w) ((U, Ol a0 113) :: G) ∧ E 1 = (.pointer (some ⟨U, 0, none⟩)) ∧ E 2 = (.bool false) ∧ E 10 = (.bool K)) 5 ?_ (fun K t y => ?_)))))))))
 ·rintro A E W ⟨G, b, Y, I, Z⟩ M
  refine Wh Z (LJ M (fun J E W => ∃ H, ST false nl w W (hp w) H ∧ E 2 = (.bool false) ∧ E 16 = (.bool J)) 5 ?_ (fun J k u => ?_))
  ·rintro q E W ⟨H, b, n, d⟩ N
   exact Wg d (lt (rQ N b))
  refine bC k (fun i k => ?_) (fun i k => ?_)
  ·refine ug i (lg se Y) (ug i (kQ rfl (lB b.has Mh rfl fR)) (bS k fun p Q k => zG i (Eg b call310 (vz (.slice B a.Kids.length D) a.Kids (.func (.func 311) #[] #[]) (fun (x : Formula) => uY z x) _ _ (c.mono kT.mono b.kV) ⟨311, #[], #[], rfl, call311, fun W x vs r s h hm => by obtain ⟨_, rfl, a2⟩ := h; obtain ⟨m, rfl, l⟩ := a2.out; exact EG z T x m r W l hm⟩ Q) (fun a5 b => ug i (qp rfl) (V (mh (cB i) rfl) ?_)))))
   obtain rfl := sj k
   exact u _ _ ⟨_, (b.kM (Db St)), I, rfl⟩
  refine un i (un i (un i (un i (V (mg (cB i) rfl) ?_))))
  obtain rfl := sj k
  exact u _ _ ⟨_, (b.kM (Db St)), I, rfl⟩
 refine bC t (fun j t => ?_) (fun j t => ?_)
 ·refine ug j (lg se rfl) (ug j (kQ rfl (lB b.has Mh rfl fR)) (ug j (nn aF rfl c) (ug j (lW rfl rfl rfl) (V (mh (cB j) rfl) ?_))))
  obtain rfl := sj t
  exact y _ _ ⟨_, (b.kM St), rfl, rfl, rfl⟩
 refine un j (un j (un j (un j (V (mg (cB j) rfl) ?_))))
 obtain rfl := sj t
 exact y _ _ ⟨_, (b.kM St), rfl, rfl, rfl⟩
theorem Ck : ∀ (n : Nat) (c : Formula) (a : Value) (r : Bool) (w : World) (g : Sl kL 5 (hp w) a c.Kids) (_ : sd n c = some r),
  mi false Tryz.prog 215 [(.agg #[(.int .i64 c.Op), (.int .i64 c.K), (.string c.kI.kK), (.string c.kI.kP), a])] w (.bool r)
 | 0 => by intros; rename_i h; simp only [sd] at h; cases h
 | n + 1 => DK (sd n) (Ck n)
theorem wP (a : Formula) (k : Value) (r : Bool) (w : World) (c : Sl kL 5 (hp w) k a.Kids) (hm : sb a = some r) :
  mi false Tryz.prog 107 [(.agg #[(.int .i64 a.Op), (.int .i64 a.K), (.string a.kI.kK), (.string a.kI.kP), k])] w (.bool r) := by
 refine cG 24 func107 rfl (fun b => sg ?_)
 obtain ⟨y, z, rfl⟩ := c.form
 let a0 := (C2 a.Op a.K a.kI.kK a.kI.kP y a.Kids.length z)
 refine VE (mx b rfl (fun W4 H b => Wa (lr (VA b Mh a0 aS aC (bS hm fun n a9 hm => VE (Eg b call214 (HG a (.slice y a.Kids.length z) _ _ (c.mono kT.mono b.kV) a9) (fun W7 b => Wm (Wx rfl (Wx rfl (Wa (Wa (lY ?_))))))))))))
 refine li (sg (Wm (Wi rfl (Wm (LJ hm (fun Y E W => ∃ I, ST false nl w W (hp w) ((H, Ol a0 113) :: I) ∧ E 1 = (.pointer (some ⟨H, 0, none⟩)) ∧ E 2 = (.bool false) ∧ E 4 = (.int .i64 n.2) ∧ E 15 = (.bool Y)) 3 ?_ (fun Y x G => ?_))))))
 ·rintro F E W ⟨I, b, M, N, a4, a5⟩ Z
  refine Wh a5 (LJ Z (fun U E W => ∃ J, ST false nl w W (hp w) ((H, Ol a0 113) :: J) ∧ E 1 = (.pointer (some ⟨H, 0, none⟩)) ∧ E 2 = (.bool false) ∧ E 19 = (.bool U)) 3 ?_ (fun U u D => ?_))
  ·rintro v E W ⟨J, b, h, Q, l⟩ d
   refine Wh l (LJ d (fun T E W => ∃ K, ST false nl w W (hp w) K ∧ E 2 = (.bool false) ∧ E 23 = (.bool T)) 3 ?_ (fun T j B => ?_))
   ·rintro A E W ⟨K, b, q, m⟩ a2
    exact Wg m (lt (rQ a2 b))
   refine bC j (fun i j => ?_) (fun i j => ?_)
   ·refine ug i (kQ h (kX b.has Mh a0 rfl aS aC)) (bS j fun s a3 j => zG i (Eg b call215 ((Ck lE) a (.slice y a.Kids.length z) _ _ (c.mono kT.mono b.kV) a3) (fun p b => V (mh (cB i) rfl) ?_)))
    obtain rfl := sj j
    exact B _ _ ⟨_, (b.kM (Db St)), Q, rfl⟩
   refine un i (un i (V (mg (cB i) rfl) ?_))
   obtain rfl := sj j
   exact B _ _ ⟨_, (b.kM (Db St)), Q, rfl⟩
  refine bC u (fun g u => ?_) (fun g u => ?_)
  ·refine ug g (kZ a4) (ug g (lW rfl rfl rfl) (V (mh (cB g) rfl) ?_))
   obtain rfl := sj u
   exact D _ _ ⟨_, (b.kM St), M, N, rfl⟩
  refine un g (un g (V (mg (cB g) rfl) ?_))
  obtain rfl := sj u
  exact D _ _ ⟨_, (b.kM St), M, N, rfl⟩
 refine bC x (fun t x => ?_) (fun t x => ?_)
 ·refine ug t (kZ rfl) (ug t (lW rfl rfl rfl) (V (mh (cB t) rfl) ?_))
  obtain rfl := sj x
  exact G _ _ ⟨_, (b.kM St), rfl, rfl, rfl, rfl⟩
 refine un t (un t (V (mg (cB t) rfl) ?_))
 obtain rfl := sj x
 exact G _ _ ⟨_, (b.kM St), rfl, rfl, rfl, rfl⟩
theorem zZ (i : Formula) (g : Value) (x : Int) (r : Bool) (w : World) (c : Sl kL 5 (hp w) g i.Kids) (hm : ul i x = some r) :
  mi true Tryz.prog 433 [(.agg #[(.int .i64 i.Op), (.int .i64 i.K), (.string i.kI.kK), (.string i.kI.kP), g]), (.int .i64 x)] w (.bool r) := by
 refine cG 15 func433 rfl (fun b => sg ?_)
 obtain ⟨B, D, rfl⟩ := c.form
 refine VE (mx b rfl (fun G H b => Wa (lr (Wf tD (VB b Mh rfl rfl cV (Wm (Wi rfl (Wm (LJ hm (fun t E W => ∃ u, ST true nl w W (hp w) u ∧ E 4 = (.bool false) ∧ E 14 = (.bool t)) 5 ?_ (fun t j k => ?_))))))))))
 ·rintro J E W ⟨u, b, I, y⟩ z
  exact Wg y (lt (rQ z b))
 refine bC j (fun a j => ?_) (fun a j => ?_)
 ·refine ug a (lg se rfl) (ug a (kQ rfl (lB b.has Mh rfl fR)) (ug a (nn aF rfl c) (ug a (lW rfl rfl rfl) (V (mh (cB a) rfl) ?_))))
  obtain rfl := sj j
  exact k _ _ ⟨_, (b.kM (Db St)), rfl, rfl⟩
 refine un a (un a (un a (un a (V (mg (cB a) rfl) ?_))))
 obtain rfl := sj j
 exact k _ _ ⟨_, (b.kM (Db St)), rfl, rfl⟩
theorem GF (r : Formula) (w : World) {c : lG} (i : oW c [] w) (hm : zp  = some r) :
  mE true Tryz.prog 434 [] w c [] (fun v g j => ∃ a, v = (.agg #[(.int .i64 ((r).Op)), (.int .i64 ((r).K)), (.string (((r).kI).kK)), (.string (((r).kI).kP)), a]) ∧ g = [] ∧ Sl kL 5 j a ((r).Kids)) := by
 refine vd i 2 func434 rfl (fun b => sg (VE (lZ b bE (fun k u b => lr (V (ns (v := (.agg KG.toArray)) (ot rfl) (mP bE bZ (yn _ bZ) kr)) (VO (lA (.agg KG.toArray) (KG.toArray) b rfl rfl aC oc nb rfl (fun t b => lt ?_))))))))
 obtain rfl := sj hm
 exact oI (v := (.agg KG.toArray)) rfl rfl (kX b.has Mh KG rfl aS aC) ⟨_, _, _, rfl, (b.ny Sn), (lz.refl _), Lo.refl, (ST.mf b (nL.mem Sn)), (.slice none 0 0), rfl, rfl, (Sl.nil _ _ _)⟩
theorem Hx (r : Formula) (w : World) {c : lG} (i : oW c [] w) (hm : zW  = some r) :
  mE true Tryz.prog 435 [] w c [] (fun v g j => ∃ a, v = (.agg #[(.int .i64 ((r).Op)), (.int .i64 ((r).K)), (.string (((r).kI).kK)), (.string (((r).kI).kP)), a]) ∧ g = [] ∧ Sl kL 5 j a ((r).Kids)) := by
 refine vd i 2 func435 rfl (fun b => sg (VE (lZ b bE (fun k u b => lr (V (ns (v := (.agg NH.toArray)) (ot rfl) (mP bE bZ (yn _ bZ) kr)) (VO (lA (.agg NH.toArray) (NH.toArray) b rfl rfl aC oc nb rfl (fun t b => lt ?_))))))))
 obtain rfl := sj hm
 exact oI (v := (.agg NH.toArray)) rfl rfl (kX b.has Mh NH rfl aS aC) ⟨_, _, _, rfl, (b.ny Sn), (lz.refl _), Lo.refl, (ST.mf b (nL.mem Sn)), (.slice none 0 0), rfl, rfl, (Sl.nil _ _ _)⟩
theorem IJ (T : Int) (J : Value) (M r : List Formula) (w : World) {Q : lG} (h0 : oW Q [] w) (I : Sl kL 5 Q J M) (hm : AP T M = some r) :
  mE true Tryz.prog 437 [(.int .i64 T), J] w Q [] (fun v L1 μ1 => ∃ q, v = q ∧ L1 = [] ∧ Sl kL 5 μ1 q (r)) := by
 refine vd h0 28 func437 rfl (fun b => sg (Wa (lr (Wa (lS (Wm ?_))))))
 refine V (nn aF rfl I) (Wm (ln (nm (fun i E W => ∃ t G k H, (E 10 = .int .i64 (i : Nat) ∧ E 9 = .int .i64 (M.length : Nat)) ∧ ST true (keys []) w W Q (k ++ H) ∧ E 0 = (.int .i64 T) ∧ E 5 = t ∧ E 8 = J ∧ lN 113 kL 5 Q t G k ∧ rB T (M.drop i) G = some r) M.length I.len ⟨(.slice none 0 0), ([]), [], _, ⟨rfl, rfl⟩, (b.kM St), rfl, rfl, rfl, (lN.nil _ _ _ _), hm⟩ dc dc dc (fun _ _ _ h => by obtain ⟨_, _, _, _, n, _⟩ := h; exact n) ?_ ?_)))
 ·rintro b5 E W a4 ⟨t, G, k, H, ⟨m, p⟩, b, x, y, z, u, c⟩
  obtain ⟨a, b7, F, A, K⟩ := mT a4
  rw [F] at c
  refine bg (VQ (nX (i := (b5 : Int)) (x0 := a) kL.out aF aC z m I (bA _) A) (fun c8 ⟨_, ⟨c9, rfl, D⟩, a5⟩ => V (kQ rfl (lR b.has a5 aS aC)) (VE (lZ b bE (fun c0 c5 b => ?_)))))
  obtain ⟨g, j, rfl⟩ := D.form
  let a0 := (C2 a.Op a.K a.kI.kK a.kI.kP g a.Kids.length j)
  refine VO (lA (.agg a0.toArray) (a0.toArray) b rfl rfl aC oc nb rfl (fun c1 b => lr (Wf tD (VB b Mh rfl rfl cV (Wh x (Wi rfl (ln (CI c rfl (fun Z c => ?_) (fun Z c => ?_)))))))))
  ·refine lh (Wh y (Wf se (VB b Mh rfl rfl fR ?_)))
   replace b := b.perm (Nr (Qb Qz) Nz)
   refine bS c fun O a2 c => VE (vW (B := k) kT b dc aF oS.1 oS.2.1 rfl oS.2.2.1 oS.2.2.2 rfl rfl u (Du.sl kT D b.kV) a2 (fun c2 R a9 b U => Wa (lY (me (li ?_)))))
   replace b := b.kM (Kr (Db St))
   exact ⟨m, R, O, a9, _, ⟨rfl, p⟩, (b.kM St), x, rfl, z, U, (by rw [K]; exact c)⟩
  refine lh (Wh y (VA b Mh a0 aS aC (VE (lO (cs := a0.toArray) b (ot rfl) (nZ aF aC bE) (fun c3 c6 b => ?_)))))
  replace b := b.perm (Nr (Qb (Qb Qz)) Nz)
  refine bS c fun P a3 c => VE (vW (B := k) kT b dc aF oS.1 oS.2.1 rfl oS.2.2.1 oS.2.2.2 rfl rfl u (Du.lit kT (l := [a]) (.cons (ys := C2 a.Op a.K a.kI.kK a.kI.kP g a.Kids.length j) (kL.mk ⟨(.slice g a.Kids.length j), rfl, D⟩) .nil) rfl nb (b.at_ (Ma Mh))) a3 (fun c4 b4 L b Y => Wa (lY (me (li ?_)))))
  replace b := b.kM (Kr (Db (Db St)))
  exact ⟨m, b4, P, L, _, ⟨rfl, p⟩, (b.kM St), x, rfl, z, Y, (by rw [K]; exact c)⟩
 rintro E W ⟨t, G, k, H, ⟨m, p⟩, b, x, y, z, u, c⟩
 rw [bD] at c
 refine li (sg (Wh y (Wa (lt ?_))))
 obtain rfl := sj c
 refine mS (v := t) rfl rfl ?_
 obtain ⟨d1, b, N, d, s⟩ := ST.xn kT b u
 exact ⟨_, _, _, rfl, (b.ny Sn), N, d, (ST.mf b (nL.mem Sn)), t, rfl, rfl, s⟩
theorem Ba (a : Formula) (g : Value) (i : Nat) (j : Int) (r : Bool) (w : World) (c : Sl kL 5 (hp w) g a.Kids) (k : At (hp w) (.pointer (some ⟨i, 0, none⟩)) [(.int .i64 j)]) (hm : rH a j = some r) :
  mi true Tryz.prog 438 [(.agg #[(.int .i64 a.Op), (.int .i64 a.K), (.string a.kI.kK), (.string a.kI.kP), g]), (.pointer (some ⟨i, 0, none⟩))] w (.bool r) := by
 refine cG 7 func438 rfl (fun b => sg ?_)
 obtain ⟨t, u, rfl⟩ := c.form
 refine VE (mx b rfl (fun z D b => Wa (lr (VA b Mh (C2 a.Op a.K a.kI.kK a.kI.kP t a.Kids.length u) aS aC (V (kQ rfl (vv b.has (y := (.int .i64 j)) k cV)) (bS hm fun G x hm => VE (Eg b call433 (zZ a (.slice t a.Kids.length u) j _ _ (c.mono kT.mono b.kV) x) (fun B b => Wa (ln ?_)))))))))
 exact ma (rQ hm b)
theorem CC (c : Value) (u r : List Formula) (w : World) {j : lG} (I : oW j [] w) (a : Sl kL 5 j c u) (hm : tj u = some r) :
  mE true Tryz.prog 456 [c] w j [] (fun v G J => ∃ z t, v = z ∧ G = (t ++ []) ∧ lN 113 kL 5 J z r t) := by
 unfold tj at hm
 refine vd I 8 func456 rfl (fun b => sg (Wa (lS (Wm ?_))))
 obtain ⟨D, Q, rfl⟩ := a.form
 refine V (Aq aF rfl rfl) (ln ?_)
 rcases D with _ | M
 ·have y := a.isNil
  replace hm : some [] = some r := by rw [y] at hm; simpa [nE, maxLen] using hm
  refine tg (rfl) (sg (Wa (lt (mV ?_))))
  obtain rfl := sj hm
  refine mS (v := (.slice none 0 0)) rfl rfl ?_
  replace b := b.OJ
  exact ⟨_, _, _, rfl, (b.ny (Kr Sn)), (lz.refl _), Lo.refl, (ST.mf b (nL.mem (Kr Sn))), (.slice none 0 0), [], rfl, rfl, (lN.nil _ _ _ _)⟩
 ·refine qR (rfl) (kg (VE (lO (cs := #[]) b vm (Bp [] aF aC bE dc rfl (by simp) rfl rfl) (fun N H b => Wm (bS hm fun T x hm => VE (vW (B := [(H, Ob #[] 113)]) kT b dc aF oS.1 oS.2.1 rfl oS.2.2.1 oS.2.2.2 rfl rfl (lN.lit kT (l := []) .nil rfl nb rfl) (Du.sl kT a b.kV) x (fun K g k b i => Wa (lt ?_))))))))
  obtain rfl := sj hm
  exact mS (v := g) rfl rfl ⟨_, _, _, rfl, (b.ny (Kr Sn)), (lz.refl _), Lo.refl, (ST.mf b (nL.mem (Kr Sn))), g, k, rfl, rfl, i⟩
theorem tf (y : Value) (a0 : List Formula) (D : LO) (q a2 : Int) (T : Value) (f3 : (Formula × Formula) → Option Int) (r : List Formula) (w : World) {μ0 : lG} (h0 : oW μ0 (D ++ []) w) (h4 : lN 113 kL 5 μ0 y a0 D) (h5 : ye Tryz.prog T μ0 (wj kL kL) (fun (r : Int) => (.int .i64 r)) f3) (hm : nY a0 q a2 f3 = some r) :
  mE false Tryz.prog 467 [y, (.int .i64 q), (.int .i64 a2), T] w μ0 (D ++ []) (fun v L1 μ1 => ∃ S1, v = (.tuple #[]) ∧ L1 = (S1 ++ []) ∧ lN 113 kL 5 μ1 y r S1) := by
 refine vd h0 53 func467 rfl (fun n => sg (Wm (Wi rfl (Wa (ln (sf (mR (oG (fun m E W => ∃ Y J x c9, ST false (keys (D ++ [])) w W μ0 (J ++ c9) ∧ E 0 = y ∧ E 1 = (.int .i64 q) ∧ E 2 = (.int .i64 a2) ∧ E 3 = T ∧ E 8 = (.int .i64 x) ∧ lN 113 kL 5 μ0 y Y J ∧ mD a2 q f3 m Y x = some r) lE ⟨a0, D, (IntKind.i64.wrap (q + 1)), _, (n.kM St), rfl, rfl, rfl, rfl, rfl, h4, hm⟩ ?_))))))))
 rintro m E W ⟨Y, J, x, c9, n, f9, g0, d1, g1, L, c6, u⟩
 cases m with
 | zero => rw [mD] at u; cases u
 | succ h2 =>
  refine lj (sg (Wh L (Wh d1 (Wi rfl (ln (CI u rfl (fun e9 u => ?_) (fun e9 u => ?_)))))))
  ·refine kn (lj (bg (Wh L (Wa (ln (sf (CJ u (fun O E W => ∃ U d0, ST false (keys (D ++ [])) w W μ0 (U ++ d0) ∧ E 0 = y ∧ E 1 = (.int .i64 q) ∧ E 2 = (.int .i64 a2) ∧ E 3 = T ∧ E 8 = (.int .i64 x) ∧ lN 113 kL 5 μ0 y O U) (fun O f1 => ?_) ?_)))))))
   ·refine mR (oG (fun m E W => ∃ M B j b7, ST false (keys (D ++ [])) w W μ0 (B ++ b7) ∧ E 0 = y ∧ E 1 = (.int .i64 q) ∧ E 2 = (.int .i64 a2) ∧ E 3 = T ∧ E 8 = (.int .i64 x) ∧ E 9 = (.int .i64 j) ∧ lN 113 kL 5 μ0 y M B ∧ mQ q f3 m M j = some O) lE ⟨Y, J, x, _, (n.kM St), f9, g0, d1, g1, L, rfl, c6, f1⟩ ?_)
    rintro m E W ⟨M, B, j, b7, n, K, Z, c0, a3, c1, G, t, I⟩
    cases m with
    | zero => rw [mQ] at I; cases I
    | succ f4 =>
     refine lj (lj ?_)
     replace n := n.drew
     have d := n.has.kM (Kr Sn)
     refine mA d lL (X 0 rfl d (kZ G) (X 1 rfl d (kZ Z) (X 2 rfl d (lW rfl rfl rfl) (X 3 rfl d (kZ rfl) (PJ I (fun c7 E W => ∃ b9, ST false (keys (D ++ [])) w W μ0 (B ++ b9) ∧ E 0 = y ∧ E 1 = (.int .i64 q) ∧ E 2 = (.int .i64 a2) ∧ E 3 = T ∧ E 8 = (.int .i64 x) ∧ E 9 = (.int .i64 j) ∧ E 34 = (.bool c7)) (bm 17 131071) 0 ?_ (fun c7 g a4 => ?_))))))
     ·rintro k2 E W ⟨b9, n, z, c2, c3, c4, c5, H, e8⟩ c
      have d := n.has.kM (Kr Sn)
      refine mH kr (li (CI c e8 (fun d3 c => ?_) (fun d3 c => ?_)))
      ·refine kn (lj (mR ?_))
       replace n := n.drew
       have d := n.has.kM Sn
       have p := n.has.kM (Kr Sn)
       refine vT 15 d p lL (ml 0 rfl kr (.inl rfl) rfl dc (fun _ _ h => ⟨h.1, mN br h.2⟩) ⟨d, fun _ => p⟩ (fun _ _ _ _ => kZ z) (ml 1 rfl kr (.inl rfl) rfl dc (fun _ _ h => ⟨h.1, mN br h.2⟩) ⟨d, fun _ => p⟩ (fun _ _ _ _ => kZ H) (ml 2 rfl kr (.inl rfl) rfl dc (fun _ _ h => ⟨h.1, mN br h.2⟩) ⟨d, fun _ => p⟩ (fun _ _ _ _ => kZ z) (ml 3 rfl kr (.inl rfl) rfl dc (fun _ _ h => ⟨h.1, mN br h.2⟩) ⟨d, fun _ => p⟩ (fun _ _ _ _ => kZ H) (ml 4 rfl kr (.inl rfl) rfl dc (fun _ _ h => ⟨h.1, mN br h.2⟩) ⟨d, fun _ => p⟩ (fun _ _ _ _ => lW rfl rfl rfl) (ml 5 rfl kr (.inl rfl) rfl dc (fun _ _ h => ⟨h.1, mN br h.2⟩) ⟨d, fun _ => p⟩ (fun _ _ _ _ => kZ z) (ml 6 rfl kr (.inl rfl) rfl dc (fun _ _ h => ⟨h.1, mN br h.2⟩) ⟨d, fun _ => p⟩ (fun _ _ _ _ => kZ H) (ml 7 rfl kr (.inl rfl) rfl dc (fun _ _ h => ⟨h.1, mN br h.2⟩) ⟨d, fun _ => p⟩ (fun _ _ _ _ => lW rfl rfl rfl) (bS c fun a5 b0 c => rJ 8 rfl kr (.inl rfl) rfl dc (fun _ _ h => ⟨h.1, mN br h.2⟩) ⟨d, fun _ => p⟩ (mO (i := (IntKind.i64.wrap (j - 1))) kL.out aF aC rfl rfl t (lK b0) (lI b0)) (fun i9 ⟨_, ⟨j8, rfl, a8⟩, d6, h6⟩ => ml 9 rfl kr (.inl rfl) rfl dc (fun _ _ h => ⟨h.1, mN br h.2⟩) ⟨d, fun _ => p⟩ (fun l W A P => have s := (P.2 (A.Em 15 [9] kr rfl)); kQ rfl (lR (oT.hp _) (d6.mono (nv (fun b o F => s.2 b o (Ml F)))) aS aC)) (ml 10 rfl kr (.inl rfl) rfl dc (fun _ _ h => ⟨h.1, mN br h.2⟩) ⟨d, fun _ => p⟩ (fun _ _ _ _ => kZ z) (ml 11 rfl kr (.inl rfl) rfl dc (fun _ _ h => ⟨h.1, mN br h.2⟩) ⟨d, fun _ => p⟩ (fun _ _ _ _ => kZ H) (bS c fun k b1 c => ?_)))))))))))))
       refine rJ 12 rfl kr (.inl rfl) rfl dc (fun _ _ h => ⟨h.1, mN br h.2⟩) ⟨d, fun _ => p⟩ (mO (i := j) kL.out aF aC rfl rfl t (lK b1) (lI b1)) (fun j0 ⟨_, ⟨j9, rfl, a9⟩, d7, h7⟩ => ml 13 rfl kr (.inl rfl) rfl dc (fun _ _ h => ⟨h.1, mN br h.2⟩) ⟨d, fun _ => p⟩ (fun l W A P => have s := (P.2 (A.Em 15 [13] kr rfl)); kQ rfl (lR (oT.hp _) (d7.mono (nv (fun b o F => s.2 b o (Ml F)))) aS aC)) (bS c fun k3 N c => rJ 14 rfl kr (.inl rfl) rfl dc (fun _ _ h => ⟨h.1, mN br h.2⟩) ⟨d, fun _ => p⟩ (mO (i := j) kL.out aF aC rfl rfl t (lK N) (lI N)) (fun j3 ⟨_, ⟨k0, rfl, i2⟩, i0, d4⟩ => ?_)))
       obtain ⟨e3, e6, rfl⟩ := a8.form
       refine XO 15 rfl (rL (x1 := a5) kT n t rfl rfl (kL.mk ⟨(.slice e3 a5.Kids.length e6), rfl, a8⟩) d4 (lI N) aC (fun i6 i4 n R => ?_))
       have d := n.has.kM Sn
       refine ⟨⟨d, fun h => Aw kr h⟩, (bS c fun k4 Q c => rJ 16 rfl kr (.inl rfl) rfl dc (fun _ _ h => ⟨h.1, mN br h.2⟩) ⟨d, fun h => Aw kr h⟩ (mO (i := (IntKind.i64.wrap (j - 1))) kL.out aF aC rfl rfl R (lK Q) (lI Q)) (fun j4 ⟨_, ⟨k1, rfl, i3⟩, i1, d5⟩ => ?_))⟩
       obtain ⟨e4, e7, rfl⟩ := a9.form
       refine XO 17 rfl (rL (x1 := (⟨k.Op, k.K, k.kI, k.Kids⟩ : Formula)) kT n R rfl rfl (kL.mk ⟨(.slice e4 k.Kids.length e7), rfl, a9⟩) d5 (lI Q) aC (fun i7 e5 n d2 => ?_))
       have d := n.has.kM Sn
       exact ⟨⟨d, fun h => Aw kr h⟩, (mH kr (me (li (lh (Wh H (Wi rfl (Wa (ln ⟨f4, bL _, ((M.set (Int.toNat j) a5).set (Int.toNat (IntKind.i64.wrap (j - 1))) (⟨k.Op, k.K, k.kI, k.Kids⟩ : Formula)), e5, (IntKind.i64.wrap (j - 1)), _, (n.kM St), z, c2, c3, c4, c5, rfl, d2, c⟩))))))))⟩
      refine og (nT (nT (su (li ?_))))
      obtain rfl := sj c
      exact ⟨B, _, (n.kM St), z, c2, c3, c4, c5, t⟩
     refine bC g (fun a g => ?_) (fun a g => ?_)
     ·refine Xg 4 rfl rfl (cB a) d (kZ a3) (Xg 5 rfl rfl (cB a) d (kZ K) (Xg 6 rfl rfl (cB a) d (kZ G) (bS g fun f7 b2 g => rJ 7 rfl kr (.inr ⟨3, true, 21, rfl, rfl, by decide, (cB a)⟩) rfl dc (fun _ _ h => h) d (mO (i := j) kL.out aF aC rfl rfl t (lK b2) (lI b2)) (fun j5 ⟨_, ⟨f5, rfl, e1⟩, d8, h8⟩ => te 8 rfl rfl (cB a) d (fun _ s => kQ rfl (lR (oT.hp _) (d8.mono (nv (fun b o F => s.2 b o (Ml F)))) aS aC)) (Xg 9 rfl rfl (cB a) d (kZ K) (Xg 10 rfl rfl (cB a) d (kZ G) (Xg 11 rfl rfl (cB a) d (lW rfl rfl rfl) (bS g fun f8 b3 g => rJ 12 rfl kr (.inr ⟨3, true, 21, rfl, rfl, by decide, (cB a)⟩) rfl dc (fun _ _ h => h) d (mO (i := (IntKind.i64.wrap (j - 1))) kL.out aF aC rfl rfl t (lK b3) (lI b3)) (fun j6 ⟨_, ⟨f6, rfl, e2⟩, d9, h9⟩ => te 13 rfl rfl (cB a) d (fun _ s => kQ rfl (lR (oT.hp _) (d9.mono (nv (fun b o F => s.2 b o (Ml F)))) aS aC)) (bS g fun j7 e0 g => It 14 rfl rfl (cB a) (zl (f7, f8) n h5 (lz.refl _) (wj.mk kT kT (kL.mk ⟨f5, rfl, e1⟩) (kL.mk ⟨f6, rfl, e2⟩) n.kV) rfl (xR rfl rfl) e0 (fun i8 n => ?_))))))))))))
      have d := n.has.kM (Kr Sn)
      refine ⟨d, (Xg 15 rfl rfl (cB a) d (lW rfl rfl rfl) (X 16 rfl d (mh (cB a) rfl) ?_))⟩
      obtain rfl := sj g
      refine oa kr (a4 _ _ ⟨_, (n.kM St), K, Z, c0, a3, c1, G, rfl⟩)
     refine Xn 4 rfl rfl (cB a) d (Xn 5 rfl rfl (cB a) d (Xn 6 rfl rfl (cB a) d (Xn 7 rfl rfl (cB a) d (Xn 8 rfl rfl (cB a) d (Xn 9 rfl rfl (cB a) d (Xn 10 rfl rfl (cB a) d (Xn 11 rfl rfl (cB a) d (Xn 12 rfl rfl (cB a) d (Xn 13 rfl rfl (cB a) d (Xn 14 rfl rfl (cB a) d (Xn 15 rfl rfl (cB a) d (X 16 rfl d (mg (cB a) rfl) ?_))))))))))))
     obtain rfl := sj g
     refine oa kr (a4 _ _ ⟨_, (n.kM St), K, Z, c0, a3, c1, G, rfl⟩)
   rintro h1 E W ⟨U, d0, n, g2, g3, g4, g7, g8, f2⟩ f0
   exact me (li (lh (Wh g8 (Wi rfl (Wa (ln ⟨h2, bL _, h1, U, (IntKind.i64.wrap (x + 1)), _, (n.kM St), g2, g3, g4, g7, rfl, f2, f0⟩))))))
  refine og (nT (nT (su (li (rG ?_)))))
  obtain rfl := sj u
  exact pT rfl ⟨_, _, _, rfl, (n.ny (Kr Sn)), (lz.refl _), Lo.refl, (ST.mf n (nL.mem (Kr Sn))), J, rfl, rfl, c6⟩
theorem ri (x : Value) (a0 : List Formula) (t : LO) (G H a3 : Int) (a5 : Value) (f4 : (Formula × Formula) → Option Int) (r : List Formula) (w : World) {Y : lG} (h0 : oW Y (t ++ []) w) (c0 : lN 113 kL 5 Y x a0 t) (d5 : ye Tryz.prog a5 Y (wj kL kL) (fun (r : Int) => (.int .i64 r)) f4) (hm : nQ a0 G H a3 f4 = some r) :
  mE true Tryz.prog 472 [x, (.int .i64 G), (.int .i64 H), (.int .i64 a3), a5] w Y (t ++ []) (fun v L1 μ1 => ∃ S1, v = (.tuple #[]) ∧ L1 = (S1 ++ []) ∧ lN 113 kL 5 μ1 x r S1) := by
 refine vd h0 38 func472 rfl (fun p => sg (Wa (ln (sf (mR (oG (fun m E W => ∃ D y c Z, ST true (keys (t ++ [])) w W Y (y ++ Z) ∧ E 0 = x ∧ E 1 = (.int .i64 G) ∧ E 2 = (.int .i64 H) ∧ E 3 = (.int .i64 a3) ∧ E 10 = (.int .i64 c) ∧ lN 113 kL 5 Y x D y ∧ nk a3 H G m D c = some r) lE ⟨a0, t, 0, _, (p.kM St), rfl, rfl, rfl, rfl, rfl, c0, hm⟩ ?_))))))
 rintro m E W ⟨D, y, c, Z, p, u, I, J, a4, k, j, a⟩
 cases m with
 | zero => rw [nk] at a; cases a
 | succ c1 =>
  refine lj (sg (Wh k (Wh a4 (Wi rfl (ln (CI a rfl (fun P a => ?_) (fun P a => ?_)))))))
  ·refine kn (lj (mR ?_))
   replace p := p.drew
   have d := p.has.kM Sn
   have n := p.has.kM (Kr Sn)
   refine vT 21 d n lL (ml 0 rfl kr (.inl rfl) rfl dc (fun _ _ h => ⟨h.1, mN br h.2⟩) ⟨d, fun _ => n⟩ (fun _ _ _ _ => kZ u) (ml 1 rfl kr (.inl rfl) rfl dc (fun _ _ h => ⟨h.1, mN br h.2⟩) ⟨d, fun _ => n⟩ (fun _ _ _ _ => kZ I) (ml 2 rfl kr (.inl rfl) rfl dc (fun _ _ h => ⟨h.1, mN br h.2⟩) ⟨d, fun _ => n⟩ (fun _ _ _ _ => kZ k) (ml 3 rfl kr (.inl rfl) rfl dc (fun _ _ h => ⟨h.1, mN br h.2⟩) ⟨d, fun _ => n⟩ (fun _ _ _ _ => lW rfl rfl rfl) (ml 4 rfl kr (.inl rfl) rfl dc (fun _ _ h => ⟨h.1, mN br h.2⟩) ⟨d, fun _ => n⟩ (fun _ _ _ _ => kZ u) (ml 5 rfl kr (.inl rfl) rfl dc (fun _ _ h => ⟨h.1, mN br h.2⟩) ⟨d, fun _ => n⟩ (fun _ _ _ _ => kZ J) (ml 6 rfl kr (.inl rfl) rfl dc (fun _ _ h => ⟨h.1, mN br h.2⟩) ⟨d, fun _ => n⟩ (fun _ _ _ _ => kZ k) (ml 7 rfl kr (.inl rfl) rfl dc (fun _ _ h => ⟨h.1, mN br h.2⟩) ⟨d, fun _ => n⟩ (fun _ _ _ _ => lW rfl rfl rfl) (ml 8 rfl kr (.inl rfl) rfl dc (fun _ _ h => ⟨h.1, mN br h.2⟩) ⟨d, fun _ => n⟩ (fun _ _ _ _ => kZ u) (ml 9 rfl kr (.inl rfl) rfl dc (fun _ _ h => ⟨h.1, mN br h.2⟩) ⟨d, fun _ => n⟩ (fun _ _ _ _ => kZ J) (ml 10 rfl kr (.inl rfl) rfl dc (fun _ _ h => ⟨h.1, mN br h.2⟩) ⟨d, fun _ => n⟩ (fun _ _ _ _ => kZ k) (ml 11 rfl kr (.inl rfl) rfl dc (fun _ _ h => ⟨h.1, mN br h.2⟩) ⟨d, fun _ => n⟩ (fun _ _ _ _ => lW rfl rfl rfl) (bS a fun K T a => rJ 12 rfl kr (.inl rfl) rfl dc (fun _ _ h => ⟨h.1, mN br h.2⟩) ⟨d, fun _ => n⟩ (mO (i := (IntKind.i64.wrap (H + c))) kL.out aF aC rfl rfl j (lK T) (lI T)) (fun d6 ⟨_, ⟨e0, rfl, N⟩, b1, c4⟩ => ?_))))))))))))))
   refine ml 13 rfl kr (.inl rfl) rfl dc (fun _ _ h => ⟨h.1, mN br h.2⟩) ⟨d, fun _ => n⟩ (fun l W q F => have s := (F.2 (q.Em 21 [13] kr rfl)); kQ rfl (lR (oT.hp _) (b1.mono (nv (fun b o A => s.2 b o (Ml A)))) aS aC)) (ml 14 rfl kr (.inl rfl) rfl dc (fun _ _ h => ⟨h.1, mN br h.2⟩) ⟨d, fun _ => n⟩ (fun _ _ _ _ => kZ u) (ml 15 rfl kr (.inl rfl) rfl dc (fun _ _ h => ⟨h.1, mN br h.2⟩) ⟨d, fun _ => n⟩ (fun _ _ _ _ => kZ I) (ml 16 rfl kr (.inl rfl) rfl dc (fun _ _ h => ⟨h.1, mN br h.2⟩) ⟨d, fun _ => n⟩ (fun _ _ _ _ => kZ k) (ml 17 rfl kr (.inl rfl) rfl dc (fun _ _ h => ⟨h.1, mN br h.2⟩) ⟨d, fun _ => n⟩ (fun _ _ _ _ => lW rfl rfl rfl) (bS a fun g U a => rJ 18 rfl kr (.inl rfl) rfl dc (fun _ _ h => ⟨h.1, mN br h.2⟩) ⟨d, fun _ => n⟩ (mO (i := (IntKind.i64.wrap (G + c))) kL.out aF aC rfl rfl j (lK U) (lI U)) (fun d7 ⟨_, ⟨e1, rfl, Q⟩, b2, c5⟩ => ml 19 rfl kr (.inl rfl) rfl dc (fun _ _ h => ⟨h.1, mN br h.2⟩) ⟨d, fun _ => n⟩ (fun l W q F => have s := (F.2 (q.Em 21 [19] kr rfl)); kQ rfl (lR (oT.hp _) (b2.mono (nv (fun b o A => s.2 b o (Ml A)))) aS aC)) (bS a fun e5 z a => rJ 20 rfl kr (.inl rfl) rfl dc (fun _ _ h => ⟨h.1, mN br h.2⟩) ⟨d, fun _ => n⟩ (mO (i := (IntKind.i64.wrap (G + c))) kL.out aF aC rfl rfl j (lK z) (lI z)) (fun d8 ⟨_, ⟨e2, rfl, c8⟩, c6, a9⟩ => ?_))))))))
   let L := (⟨g.Op, g.K, g.kI, g.Kids⟩ : Formula)
   obtain ⟨b3, b7, rfl⟩ := N.form
   refine XO 21 rfl (rL (x1 := K) kT p j rfl rfl (kL.mk ⟨(.slice b3 K.Kids.length b7), rfl, N⟩) a9 (lI z) aC (fun d2 d1 p M => ?_))
   have d := p.has.kM Sn
   refine ⟨⟨d, fun h => Aw kr h⟩, (bS a fun e6 B a => rJ 22 rfl kr (.inl rfl) rfl dc (fun _ _ h => ⟨h.1, mN br h.2⟩) ⟨d, fun h => Aw kr h⟩ (mO (i := (IntKind.i64.wrap (H + c))) kL.out aF aC rfl rfl M (lK B) (lI B)) (fun d9 ⟨_, ⟨e3, rfl, c9⟩, c7, R⟩ => ?_))⟩
   obtain ⟨b4, b9, rfl⟩ := Q.form
   refine XO 23 rfl (rL (x1 := L) kT p M rfl rfl (kL.mk ⟨(.slice b4 g.Kids.length b9), rfl, Q⟩) R (lI B) aC (fun d3 b5 p O => ?_))
   have d := p.has.kM Sn
   exact ⟨⟨d, fun h => Aw kr h⟩, (mH kr (me (li (lh (Wh k (Wi rfl (Wa (ln ⟨c1, bL _, ((D.set (Int.toNat (IntKind.i64.wrap (G + c))) K).set (Int.toNat (IntKind.i64.wrap (H + c))) L), b5, (IntKind.i64.wrap (c + 1)), _, (p.kM St), u, I, J, a4, rfl, O, a⟩))))))))⟩
  refine og (nT (nT (su (li (rG ?_)))))
  obtain rfl := sj a
  exact pT rfl ⟨_, _, _, rfl, (p.ny (Kr Sn)), (lz.refl _), Lo.refl, (ST.mf p (nL.mem (Kr Sn))), y, rfl, rfl, j⟩
theorem zd (k : Value) (a0 : List Formula) (y : LO) (q D a3 : Int) (B : Value) (U : (Formula × Formula) → Option Int) (r : List Formula) (w : World) {T : lG} (h0 : oW T (y ++ []) w) (c5 : lN 113 kL 5 T k a0 y) (Q : ye Tryz.prog B T (wj kL kL) (fun (r : Int) => (.int .i64 r)) U) (hm : nK a0 q D a3 U = some r) :
  mE true Tryz.prog 470 [k, (.int .i64 q), (.int .i64 D), (.int .i64 a3), B] w T (y ++ []) (fun v L1 μ1 => ∃ S1, v = (.tuple #[]) ∧ L1 = (S1 ++ []) ∧ lN 113 kL 5 μ1 k r S1) := by
 refine vd h0 58 func470 rfl (fun b => sg (Wm (Wm (Wi rfl (Wa (lr (Wm (Wm (Wi rfl (Wa ?_))))))))))
 refine ln (lj (mR (oG (fun m E W => ∃ z x c t I Y, lz T I ∧ Lo (keys (y ++ [])) w T I ∧ ST true (keys (y ++ [])) w W I (x ++ Y) ∧ E 0 = k ∧ E 2 = (.int .i64 D) ∧ E 4 = B ∧ E 10 = (.int .i64 c) ∧ E 11 = (.int .i64 t) ∧ lN 113 kL 5 I k z x ∧ nz D U m z c t = some r) lE ⟨a0, y, (IntKind.i64.wrap (D - q)), (IntKind.i64.wrap (a3 - D)), T, _, (lz.refl _), Lo.refl, (b.kM St), rfl, rfl, rfl, rfl, rfl, c5, hm⟩ ?_)))
 rintro m E W ⟨z, x, c, t, I, Y, i, d, b, G, j, H, g, u, J, a⟩
 let a2 := (IntKind.i64.wrap (D - c))
 cases m with
 | zero => rw [nz] at a; cases a
 | succ s =>
  refine lj (sg (Wh g (Wh u (Wi rfl (ln (CI a rfl (fun A a => ?_) (fun A a => ?_)))))))
  ·refine kn (bg (Wh g (Wh u (Wi rfl (ln (CI a rfl (fun F a => ?_) (fun F a => ?_)))))))
   ·refine sg (Wh G (Wh j (Wh g (Wi rfl (Wh j (Wh u (Wh H (bS a fun c6 L a => ?_))))))))
    refine VE (eD b (Cr Qz Cn) call472 (fun p => (ri k z x a2 D t B U _ _ p J (Q.mono i) L)) ?_)
    rintro _ e0 c8 d2 b Z h ⟨b9, K, rfl, R⟩
    obtain rfl := K.symm
    replace b := b.perm (Tr Tn)
    exact ln (lh (Wh g (Wh u (Wi rfl (Wa (lY (me (li ⟨s, bL _, c6, b9, (IntKind.i64.wrap (c - t)), t, c8, _, (i.trans Z), (d.trans h), (b.kM St), G, j, H, rfl, u, R, a⟩))))))))
   refine sg (Wh G (Wh j (Wh g (Wi rfl (Wh j (Wh u (Wi rfl (Wh g (Wi rfl (Wh g (Wh H (bS a fun c7 O a => ?_))))))))))))
   refine VE (eD b (Cr Qz Cn) call472 (fun p => (ri k z x a2 (IntKind.i64.wrap ((IntKind.i64.wrap (D + t)) - c)) c B U _ _ p J (Q.mono i) O)) ?_)
   rintro _ e1 c9 d3 b a4 l ⟨c0, M, rfl, b6⟩
   obtain rfl := M.symm
   replace b := b.perm (Tr Tn)
   exact ln (lh (Wh u (Wh g (Wi rfl (Wa (lY (me (li ⟨s, bL _, c7, c0, c, (IntKind.i64.wrap (t - c)), c9, _, (i.trans a4), (d.trans l), (b.kM St), G, j, H, g, rfl, b6, a⟩))))))))
  refine og (nT (nT (su (li (lh (Wh G (Wh j (Wh g (Wi rfl (Wh j (Wh g (Wh H (bS a fun d9 P a => ?_)))))))))))))
  refine VE (eD b (Cr Qz Cn) call472 (fun p => (ri k z x a2 D c B U _ _ p J (Q.mono i) P)) ?_)
  rintro _ e2 e4 d4 b a5 n ⟨c1, N, rfl, b7⟩
  obtain rfl := N.symm
  replace b := b.perm (Tr Tn)
  refine lY (rG ?_)
  obtain rfl := sj a
  exact pT rfl ⟨_, _, _, rfl, (b.ny (Kr Sn)), (i.trans a5), (d.trans n), (ST.mf b (nL.mem (Kr Sn))), c1, rfl, rfl, b7⟩
set_option maxHeartbeats 1000000 in
theorem xc (t6 : (List Formula) → Int → Int → Int → ((Formula × Formula) → Option Int) → Option (List Formula)) (s6 : ∀ (t : Value) (a0 : List Formula) (c : LO) (z : Int) (M : Int) (B : Int) (D : Value) (f4 : (Formula × Formula) → Option Int) (r : List Formula) (w : World) {U : lG} (h0 : oW U (c ++ []) w) (a5 : lN 113 kL 5 U t a0 c) (c6 : ye Tryz.prog D U (wj kL kL) (fun (r : Int) => (.int .i64 r)) f4), t6 a0 z M B f4 = some r → mE false Tryz.prog 468 [t, (.int .i64 z), (.int .i64 M), (.int .i64 B), D] w U (c ++ []) (fun v L1 μ1 => ∃ S1, v = (.tuple #[]) ∧ L1 = (S1 ++ []) ∧ lN 113 kL 5 μ1 t r S1)) (t : Value) (a0 : List Formula) (c : LO) (z M B : Int) (D : Value) (f4 : (Formula × Formula) → Option Int) (r : List Formula) (w : World) {U : lG} (h0 : oW U (c ++ []) w) (a5 : lN 113 kL 5 U t a0 c) (c6 : ye Tryz.prog D U (wj kL kL) (fun (r : Int) => (.int .i64 r)) f4) (hm : pW t6 a0 z M B f4 = some r) :
  mE false Tryz.prog 468 [t, (.int .i64 z), (.int .i64 M), (.int .i64 B), D] w U (c ++ []) (fun v L1 μ1 => ∃ S1, v = (.tuple #[]) ∧ L1 = (S1 ++ []) ∧ lN 113 kL 5 μ1 t r S1) := by
 refine vd h0 220 func468 rfl (fun d => lj (sg (Wm (Wm (Wi rfl (Wi rfl (ln (CI hm rfl (fun ae hm => ?_) (fun ae hm => ?_)))))))))
 ·refine sg (Wm (Wa (lr (Wm (Wa (ln (lj (mR (oG (fun m E W => ∃ T a9 o3, ST false (keys (c ++ [])) w W U (c ++ o3) ∧ E 0 = t ∧ E 1 = (.int .i64 z) ∧ E 4 = D ∧ E 10 = (.int .i64 T) ∧ E 11 = (.int .i64 a9) ∧ mw a0 z f4 m T a9 = some r) lE ⟨M, B, _, (d.kM St), rfl, rfl, rfl, rfl, rfl, hm⟩ ?_)))))))))
  rintro m E W ⟨T, a9, o3, d, e4, h8, k3, h9, k4, y⟩
  cases m with
  | zero => rw [mw] at y; cases y
  | succ t5 =>
   refine lj (sg (Wh h9 (Wh k4 (Wi rfl (ln (CI y rfl (fun w9 y => ?_) (fun w9 y => ?_)))))))
   ·refine kn (bg (Wh h9 (Wh k4 (Wi rfl (V (uh (k' := .i64) (a := (IntKind.i64.wrap (T + a9))) eX gE rfl) (V (Hj (a := (IntKind.u64.wrap (IntKind.i64.wrap (T + a9)))) (b := 1) rfl rfl dc) (V (uh (k' := .u64) (a := (Int.fdiv (IntKind.u64.wrap (IntKind.i64.wrap (T + a9))) (2 ^ min (Int.toNat 1) (IntKind.bits .u64)))) gE eX rfl) (Wa (ln (lj ?_))))))))))
    let e3 := (Int.fdiv (IntKind.u64.wrap (IntKind.i64.wrap (T + a9))) (2 ^ min (Int.toNat 1) (IntKind.bits .u64)))
    replace d := d.drew
    have n := d.has.kM (Kr Sn)
    refine mA n lL (X 0 rfl n (kZ k3) (X 1 rfl n (kZ e4) (X 2 rfl n (kZ rfl) (bS y fun aa n1 y => XQ 3 rfl n (mO (i := (IntKind.i64.wrap e3)) kL.out aF aC rfl rfl a5 (lK n1) (lI n1)) (fun di ⟨_, ⟨z7, rfl, x7⟩, x4, bp⟩ => XH 4 rfl n (fun _ s => kQ rfl (lR (oT.hp _) (x4.mono (nv (fun b o A => s.2 b o (Ml A)))) aS aC)) (X 5 rfl n (kZ e4) (X 6 rfl n (kZ h8) (bS y fun ab n2 y => XQ 7 rfl n (mO (i := z) kL.out aF aC rfl rfl a5 (lK n2) (lI n2)) (fun dj ⟨_, ⟨z8, rfl, x8⟩, x5, bq⟩ => XH 8 rfl n (fun _ s => kQ rfl (lR (oT.hp _) (x5.mono (nv (fun b o A => s.2 b o (Ml A)))) aS aC)) (bS y fun dk x6 y => XE 9 rfl (zl (aa, ab) d c6 (lz.refl _) (wj.mk kT kT (kL.mk ⟨z7, rfl, x7⟩) (kL.mk ⟨z8, rfl, x8⟩) d.kV) rfl (xR rfl rfl) x6 (fun dg d => ?_))))))))))))
    have n := d.has.kM (Kr Sn)
    refine ⟨n, (X 10 rfl n (lW rfl rfl rfl) (mH kr (li (CI y rfl (fun x0 y => ?_) (fun x0 y => ?_)))))⟩
    ·exact lh (Wm (Wi rfl (Wa (lY (me (li ⟨t5, bL _, (IntKind.i64.wrap ((IntKind.i64.wrap e3) + 1)), a9, _, (d.kM St), e4, h8, k3, rfl, k4, y⟩))))))
    exact lh (Wm (Wa (lY (me (li ⟨t5, bL _, T, (IntKind.i64.wrap e3), _, (d.kM St), e4, h8, k3, h9, rfl, y⟩)))))
   refine og (nT (nT (su (li (lj (sg (Wh h8 (Wa (ln (CJ y (fun k5 E W => ∃ f7 o4, ST false (keys (c ++ [])) w W U (f7 ++ o4) ∧ lN 113 kL 5 U t k5 f7) (fun k5 x3 => ?_) ?_))))))))))
   ·refine mR (oG (fun m E W => ∃ i0 f8 R k6, ST false (keys (c ++ [])) w W U (f8 ++ k6) ∧ E 0 = t ∧ E 10 = (.int .i64 T) ∧ E 13 = (.int .i64 R) ∧ lN 113 kL 5 U t i0 f8 ∧ nr T m i0 R = some k5) lE ⟨a0, c, z, _, (d.kM St), e4, h9, rfl, a5, x3⟩ ?_)
    rintro m E W ⟨i0, f8, R, k6, d, c7, l7, c0, d1, u⟩
    cases m with
    | zero => rw [nr] at u; cases u
    | succ y2 =>
     refine lj (sg (Wh c0 (Wh l7 (Wi rfl (Wi rfl (ln (CI u rfl (fun p1 u => ?_) (fun p1 u => ?_))))))))
     ·refine kn (lj (mR ?_))
      replace d := d.drew
      have n := d.has.kM Sn
      have p := d.has.kM (Kr Sn)
      refine vT 15 n p lL (ml 0 rfl kr (.inl rfl) rfl dc (fun _ _ h => ⟨h.1, mN (by rfl) h.2⟩) ⟨n, fun _ => p⟩ (fun _ _ _ _ => kZ c7) (ml 1 rfl kr (.inl rfl) rfl dc (fun _ _ h => ⟨h.1, mN (by rfl) h.2⟩) ⟨n, fun _ => p⟩ (fun _ _ _ _ => kZ c0) (ml 2 rfl kr (.inl rfl) rfl dc (fun _ _ h => ⟨h.1, mN (by rfl) h.2⟩) ⟨n, fun _ => p⟩ (fun _ _ _ _ => kZ c7) (ml 3 rfl kr (.inl rfl) rfl dc (fun _ _ h => ⟨h.1, mN (by rfl) h.2⟩) ⟨n, fun _ => p⟩ (fun _ _ _ _ => kZ c0) (ml 4 rfl kr (.inl rfl) rfl dc (fun _ _ h => ⟨h.1, mN (by rfl) h.2⟩) ⟨n, fun _ => p⟩ (fun _ _ _ _ => lW rfl rfl rfl) (ml 5 rfl kr (.inl rfl) rfl dc (fun _ _ h => ⟨h.1, mN (by rfl) h.2⟩) ⟨n, fun _ => p⟩ (fun _ _ _ _ => kZ c7) (ml 6 rfl kr (.inl rfl) rfl dc (fun _ _ h => ⟨h.1, mN (by rfl) h.2⟩) ⟨n, fun _ => p⟩ (fun _ _ _ _ => kZ c0) (ml 7 rfl kr (.inl rfl) rfl dc (fun _ _ h => ⟨h.1, mN (by rfl) h.2⟩) ⟨n, fun _ => p⟩ (fun _ _ _ _ => lW rfl rfl rfl) (bS u fun i3 j5 u => rJ 8 rfl kr (.inl rfl) rfl dc (fun _ _ h => ⟨h.1, mN (by rfl) h.2⟩) ⟨n, fun _ => p⟩ (mO (i := (IntKind.i64.wrap (R + 1))) kL.out aF aC rfl rfl d1 (lK j5) (lI j5)) (fun bt ⟨_, ⟨cl, rfl, i7⟩, r3, af⟩ => ml 9 rfl kr (.inl rfl) rfl dc (fun _ _ h => ⟨h.1, mN (by rfl) h.2⟩) ⟨n, fun _ => p⟩ (fun l W F hs => have s := (hs.2 (F.Em 15 [9] kr rfl)); kQ rfl (lR (oT.hp _) (r3.mono (nv (fun b o A => s.2 b o (Ml A)))) aS aC)) (ml 10 rfl kr (.inl rfl) rfl dc (fun _ _ h => ⟨h.1, mN (by rfl) h.2⟩) ⟨n, fun _ => p⟩ (fun _ _ _ _ => kZ c7) (ml 11 rfl kr (.inl rfl) rfl dc (fun _ _ h => ⟨h.1, mN (by rfl) h.2⟩) ⟨n, fun _ => p⟩ (fun _ _ _ _ => kZ c0) (bS u fun Y j6 u => ?_)))))))))))))
      refine rJ 12 rfl kr (.inl rfl) rfl dc (fun _ _ h => ⟨h.1, mN (by rfl) h.2⟩) ⟨n, fun _ => p⟩ (mO (i := R) kL.out aF aC rfl rfl d1 (lK j6) (lI j6)) (fun bu ⟨_, ⟨cm, rfl, i8⟩, r4, ag⟩ => ml 13 rfl kr (.inl rfl) rfl dc (fun _ _ h => ⟨h.1, mN (by rfl) h.2⟩) ⟨n, fun _ => p⟩ (fun l W F hs => have s := (hs.2 (F.Em 15 [13] kr rfl)); kQ rfl (lR (oT.hp _) (r4.mono (nv (fun b o A => s.2 b o (Ml A)))) aS aC)) (bS u fun cw e9 u => rJ 14 rfl kr (.inl rfl) rfl dc (fun _ _ h => ⟨h.1, mN (by rfl) h.2⟩) ⟨n, fun _ => p⟩ (mO (i := R) kL.out aF aC rfl rfl d1 (lK e9) (lI e9)) (fun bv ⟨_, ⟨cn, rfl, ar⟩, an, q2⟩ => ?_)))
      obtain ⟨t7, u6, rfl⟩ := i7.form
      refine XO 15 rfl (rL (x1 := i3) kT d d1 rfl rfl (kL.mk ⟨(.slice t7 i3.Kids.length u6), rfl, i7⟩) q2 (lI e9) aC (fun be bc d i5 => ?_))
      have n := d.has.kM Sn
      refine ⟨⟨n, fun h => Aw kr h⟩, (bS u fun cx f0 u => rJ 16 rfl kr (.inl rfl) rfl dc (fun _ _ h => ⟨h.1, mN (by rfl) h.2⟩) ⟨n, fun h => Aw kr h⟩ (mO (i := (IntKind.i64.wrap (R + 1))) kL.out aF aC rfl rfl i5 (lK f0) (lI f0)) (fun bw ⟨_, ⟨co, rfl, au⟩, ao, q3⟩ => ?_))⟩
      obtain ⟨t8, u7, rfl⟩ := i8.form
      refine XO 17 rfl (rL (x1 := (⟨Y.Op, Y.K, Y.kI, Y.Kids⟩ : Formula)) kT d i5 rfl rfl (kL.mk ⟨(.slice t8 Y.Kids.length u7), rfl, i8⟩) q3 (lI f0) aC (fun bf u1 d o9 => ?_))
      have n := d.has.kM Sn
      exact ⟨⟨n, fun h => Aw kr h⟩, (mH kr (me (li (lh (Wh c0 (Wi rfl (Wa (ln ⟨y2, bL _, ((i0.set (Int.toNat R) i3).set (Int.toNat (IntKind.i64.wrap (R + 1))) (⟨Y.Op, Y.K, Y.kI, Y.Kids⟩ : Formula)), u1, (IntKind.i64.wrap (R + 1)), _, (d.kM St), c7, l7, rfl, o9, u⟩))))))))⟩
     refine og (nT (nT (su (li ?_))))
     have q := sj u; subst q
     exact ⟨f8, _, (d.kM St), d1⟩
   rintro dh E W ⟨f7, o4, d, x9⟩ x2
   refine ma (mV ?_)
   have q := sj x2; subst q
   exact pT rfl ⟨_, _, _, rfl, (d.ny (Kr Sn)), (lz.refl _), Lo.refl, (ST.mf d (nL.mem (Kr Sn))), f7, rfl, rfl, x9⟩
 refine kS (Wm (Wm (Wi rfl (Wi rfl (ln (CI hm rfl (fun p2 hm => ?_) (fun p2 hm => ?_)))))))
 ·refine sg (Wm (Wa (lr (Wm (Wa (ln (lj (mR (oG (fun m E W => ∃ G N k7, ST false (keys (c ++ [])) w W U (c ++ k7) ∧ E 0 = t ∧ E 2 = (.int .i64 M) ∧ E 4 = D ∧ E 14 = (.int .i64 G) ∧ E 15 = (.int .i64 N) ∧ my a0 M f4 m G N = some r) lE ⟨z, M, _, (d.kM St), rfl, rfl, rfl, rfl, rfl, hm⟩ ?_)))))))))
  rintro m E W ⟨G, N, k7, d, c8, d5, f9, d6, g0, j⟩
  let j1 := (IntKind.u64.wrap (IntKind.i64.wrap (G + N)))
  let b8 := (Int.fdiv j1 (2 ^ min (Int.toNat 1) (IntKind.bits .u64)))
  cases m with
  | zero => rw [my] at j; cases j
  | succ n3 =>
   refine lj (sg (Wh d6 (Wh g0 (Wi rfl (ln (CI j rfl (fun p3 j => ?_) (fun p3 j => ?_)))))))
   ·refine kn (bg (Wh d6 (Wh g0 (Wi rfl (V (uh (k' := .i64) (a := (IntKind.i64.wrap (G + N))) eX gE rfl) (V (Hj (a := j1) (b := 1) rfl rfl dc) (V (uh (k' := .u64) (a := (Int.fdiv j1 (2 ^ min (Int.toNat 1) (IntKind.bits .u64)))) gE eX rfl) (Wa (ln (lj ?_))))))))))
    replace d := d.drew
    have n := d.has.kM (Kr Sn)
    refine mA n lL (X 0 rfl n (kZ f9) (X 1 rfl n (kZ c8) (X 2 rfl n (kZ d5) (bS j fun y8 j7 j => XQ 3 rfl n (mO (i := M) kL.out aF aC rfl rfl a5 (lK j7) (lI j7)) (fun bx ⟨_, ⟨y4, rfl, s7⟩, r5, ah⟩ => XH 4 rfl n (fun _ s => kQ rfl (lR (oT.hp _) (r5.mono (nv (fun b o A => s.2 b o (Ml A)))) aS aC)) (X 5 rfl n (kZ c8) (X 6 rfl n (kZ rfl) (bS j fun y9 j8 j => XQ 7 rfl n (mO (i := (IntKind.i64.wrap b8)) kL.out aF aC rfl rfl a5 (lK j8) (lI j8)) (fun bz ⟨_, ⟨y5, rfl, s8⟩, r6, ai⟩ => XH 8 rfl n (fun _ s => kQ rfl (lR (oT.hp _) (r6.mono (nv (fun b o A => s.2 b o (Ml A)))) aS aC)) (bS j fun cg s1 j => XE 9 rfl (zl (y8, y9) d c6 (lz.refl _) (wj.mk kT kT (kL.mk ⟨y4, rfl, s7⟩) (kL.mk ⟨y5, rfl, s8⟩) d.kV) rfl (xR rfl rfl) s1 (fun bh d => ?_))))))))))))
    have n := d.has.kM (Kr Sn)
    refine ⟨n, (X 10 rfl n (lW rfl rfl rfl) (X 11 rfl n (qp rfl) (mH kr (li (CI j rfl (fun p4 j => ?_) (fun p4 j => ?_))))))⟩
    ·exact lh (Wm (Wi rfl (Wa (lY (me (li ⟨n3, bL _, (IntKind.i64.wrap ((IntKind.i64.wrap b8) + 1)), N, _, (d.kM St), c8, d5, f9, rfl, g0, j⟩))))))
    exact lh (Wm (Wa (lY (me (li ⟨n3, bL _, G, (IntKind.i64.wrap b8), _, (d.kM St), c8, d5, f9, d6, rfl, j⟩)))))
   refine og (nT (nT (su (li (lj (sg (Wh d5 (Wa (ln (CJ j (fun i1 E W => ∃ d3 k8, ST false (keys (c ++ [])) w W U (d3 ++ k8) ∧ lN 113 kL 5 U t i1 d3) (fun i1 q7 => ?_) ?_))))))))))
   ·refine mR (oG (fun m E W => ∃ e2 d4 Q k9, ST false (keys (c ++ [])) w W U (d4 ++ k9) ∧ E 0 = t ∧ E 14 = (.int .i64 G) ∧ E 17 = (.int .i64 Q) ∧ lN 113 kL 5 U t e2 d4 ∧ nq G m e2 Q = some i1) lE ⟨a0, c, M, _, (d.kM St), c8, d6, rfl, a5, q7⟩ ?_)
    rintro m E W ⟨e2, d4, Q, k9, d, c9, l8, c1, b6, x⟩
    cases m with
    | zero => rw [nq] at x; cases x
    | succ y3 =>
     refine lj (sg (Wh c1 (Wh l8 (Wi rfl (ln (CI x rfl (fun p5 x => ?_) (fun p5 x => ?_)))))))
     ·refine kn (lj (mR ?_))
      replace d := d.drew
      have n := d.has.kM Sn
      have p := d.has.kM (Kr Sn)
      refine vT 15 n p lL (ml 0 rfl kr (.inl rfl) rfl dc (fun _ _ h => ⟨h.1, mN (by rfl) h.2⟩) ⟨n, fun _ => p⟩ (fun _ _ _ _ => kZ c9) (ml 1 rfl kr (.inl rfl) rfl dc (fun _ _ h => ⟨h.1, mN (by rfl) h.2⟩) ⟨n, fun _ => p⟩ (fun _ _ _ _ => kZ c1) (ml 2 rfl kr (.inl rfl) rfl dc (fun _ _ h => ⟨h.1, mN (by rfl) h.2⟩) ⟨n, fun _ => p⟩ (fun _ _ _ _ => kZ c9) (ml 3 rfl kr (.inl rfl) rfl dc (fun _ _ h => ⟨h.1, mN (by rfl) h.2⟩) ⟨n, fun _ => p⟩ (fun _ _ _ _ => kZ c1) (ml 4 rfl kr (.inl rfl) rfl dc (fun _ _ h => ⟨h.1, mN (by rfl) h.2⟩) ⟨n, fun _ => p⟩ (fun _ _ _ _ => lW rfl rfl rfl) (ml 5 rfl kr (.inl rfl) rfl dc (fun _ _ h => ⟨h.1, mN (by rfl) h.2⟩) ⟨n, fun _ => p⟩ (fun _ _ _ _ => kZ c9) (ml 6 rfl kr (.inl rfl) rfl dc (fun _ _ h => ⟨h.1, mN (by rfl) h.2⟩) ⟨n, fun _ => p⟩ (fun _ _ _ _ => kZ c1) (ml 7 rfl kr (.inl rfl) rfl dc (fun _ _ h => ⟨h.1, mN (by rfl) h.2⟩) ⟨n, fun _ => p⟩ (fun _ _ _ _ => lW rfl rfl rfl) (bS x fun i4 j9 x => rJ 8 rfl kr (.inl rfl) rfl dc (fun _ _ h => ⟨h.1, mN (by rfl) h.2⟩) ⟨n, fun _ => p⟩ (mO (i := (IntKind.i64.wrap (Q - 1))) kL.out aF aC rfl rfl b6 (lK j9) (lI j9)) (fun ca ⟨_, ⟨cp, rfl, i9⟩, r7, aj⟩ => ml 9 rfl kr (.inl rfl) rfl dc (fun _ _ h => ⟨h.1, mN (by rfl) h.2⟩) ⟨n, fun _ => p⟩ (fun l W F hs => have s := (hs.2 (F.Em 15 [9] kr rfl)); kQ rfl (lR (oT.hp _) (r7.mono (nv (fun b o A => s.2 b o (Ml A)))) aS aC)) (ml 10 rfl kr (.inl rfl) rfl dc (fun _ _ h => ⟨h.1, mN (by rfl) h.2⟩) ⟨n, fun _ => p⟩ (fun _ _ _ _ => kZ c9) (ml 11 rfl kr (.inl rfl) rfl dc (fun _ _ h => ⟨h.1, mN (by rfl) h.2⟩) ⟨n, fun _ => p⟩ (fun _ _ _ _ => kZ c1) (bS x fun Z k0 x => ?_)))))))))))))
      refine rJ 12 rfl kr (.inl rfl) rfl dc (fun _ _ h => ⟨h.1, mN (by rfl) h.2⟩) ⟨n, fun _ => p⟩ (mO (i := Q) kL.out aF aC rfl rfl b6 (lK k0) (lI k0)) (fun cb ⟨_, ⟨cq, rfl, j0⟩, r8, ak⟩ => ml 13 rfl kr (.inl rfl) rfl dc (fun _ _ h => ⟨h.1, mN (by rfl) h.2⟩) ⟨n, fun _ => p⟩ (fun l W F hs => have s := (hs.2 (F.Em 15 [13] kr rfl)); kQ rfl (lR (oT.hp _) (r8.mono (nv (fun b o A => s.2 b o (Ml A)))) aS aC)) (bS x fun cy f1 x => rJ 14 rfl kr (.inl rfl) rfl dc (fun _ _ h => ⟨h.1, mN (by rfl) h.2⟩) ⟨n, fun _ => p⟩ (mO (i := Q) kL.out aF aC rfl rfl b6 (lK f1) (lI f1)) (fun cc ⟨_, ⟨cr, rfl, av⟩, ap, q4⟩ => ?_)))
      obtain ⟨t9, u8, rfl⟩ := i9.form
      refine XO 15 rfl (rL (x1 := i4) kT d b6 rfl rfl (kL.mk ⟨(.slice t9 i4.Kids.length u8), rfl, i9⟩) q4 (lI f1) aC (fun bi bd d i6 => ?_))
      have n := d.has.kM Sn
      refine ⟨⟨n, fun h => Aw kr h⟩, (bS x fun cz f2 x => rJ 16 rfl kr (.inl rfl) rfl dc (fun _ _ h => ⟨h.1, mN (by rfl) h.2⟩) ⟨n, fun h => Aw kr h⟩ (mO (i := (IntKind.i64.wrap (Q - 1))) kL.out aF aC rfl rfl i6 (lK f2) (lI f2)) (fun cd ⟨_, ⟨cs, rfl, aw⟩, aq, q5⟩ => ?_))⟩
      obtain ⟨u0, u9, rfl⟩ := j0.form
      refine XO 17 rfl (rL (x1 := (⟨Z.Op, Z.K, Z.kI, Z.Kids⟩ : Formula)) kT d i6 rfl rfl (kL.mk ⟨(.slice u0 Z.Kids.length u9), rfl, j0⟩) q5 (lI f2) aC (fun bj u2 d p0 => ?_))
      have n := d.has.kM Sn
      exact ⟨⟨n, fun h => Aw kr h⟩, (mH kr (me (li (lh (Wh c1 (Wi rfl (Wa (ln ⟨y3, bL _, ((e2.set (Int.toNat Q) i4).set (Int.toNat (IntKind.i64.wrap (Q - 1))) (⟨Z.Op, Z.K, Z.kI, Z.Kids⟩ : Formula)), u2, (IntKind.i64.wrap (Q - 1)), _, (d.kM St), c9, l8, rfl, p0, x⟩))))))))⟩
     refine og (nT (nT (su (li ?_))))
     have q := sj x; subst q
     exact ⟨d4, _, (d.kM St), b6⟩
   rintro bs E W ⟨d3, k8, d, s9⟩ q6
   refine ma (mV ?_)
   have q := sj q6; subst q
   exact pT rfl ⟨_, _, _, rfl, (d.ny (Kr Sn)), (lz.refl _), Lo.refl, (ST.mf d (nL.mem (Kr Sn))), d3, rfl, rfl, s9⟩
 let g5 := (IntKind.u64.wrap (IntKind.i64.wrap (z + B)))
 refine kg (Wm (Wm (Wi rfl (V (uh (k' := .i64) (a := (IntKind.i64.wrap (z + B))) eX gE rfl) (V (Hj (a := g5) (b := 1) rfl rfl dc) (V (uh (k' := .u64) (a := (Int.fdiv g5 (2 ^ min (Int.toNat 1) (IntKind.bits .u64)))) gE eX rfl) (Wa (lr ?_))))))))
 let P := (IntKind.i64.wrap (Int.fdiv g5 (2 ^ min (Int.toNat 1) (IntKind.bits .u64))))
 let e5 := (IntKind.i64.wrap (P + M))
 refine Wm (Wm (Wi rfl (Wa (lr (Wa (Wa (ln (lj (CJ hm (fun i2 E W => ∃ l0, ST false (keys (c ++ [])) w W U (c ++ l0) ∧ E 0 = t ∧ E 1 = (.int .i64 z) ∧ E 2 = (.int .i64 M) ∧ E 3 = (.int .i64 B) ∧ E 4 = D ∧ E 18 = (.int .i64 P) ∧ E 19 = (.int .i64 e5) ∧ E 20 = (.int .i64 i2.1) ∧ E 21 = (.int .i64 i2.2)) (fun i2 b5 => ?_) ?_)))))))))
 ·refine sg (Wm (Wm (Wi rfl (ln (CI b5 rfl (fun q1 b5 => ?_) (fun q1 b5 => ?_))))))
  ·refine sg (Wm (Wm (Wi rfl (Wa (ln (lh (Wm (Wa (ln ?_)))))))))
   have q := sj b5; subst q
   exact ⟨_, (d.kM St), rfl, rfl, rfl, rfl, rfl, rfl, rfl, rfl, rfl⟩
  refine sg (Wm (Wa (ln (lh (Wm (Wa (ln ?_)))))))
  have q := sj b5; subst q
  exact ⟨_, (d.kM St), rfl, rfl, rfl, rfl, rfl, rfl, rfl, rfl, rfl⟩
 rintro ⟨z0, z1⟩ E W ⟨l0, d, v0, v1, v2, v3, v4, v5, l9, v6, v7⟩ q8
 refine sg (Wh l9 (Wi rfl (Wa (ln (lj (mR (oG (fun m E W => ∃ g K l1, ST false (keys (c ++ [])) w W U (c ++ l1) ∧ E 0 = t ∧ E 1 = (.int .i64 z) ∧ E 2 = (.int .i64 M) ∧ E 3 = (.int .i64 B) ∧ E 4 = D ∧ E 18 = (.int .i64 P) ∧ E 19 = (.int .i64 e5) ∧ E 20 = (.int .i64 g) ∧ E 21 = (.int .i64 K) ∧ E 22 = (.int .i64 (IntKind.i64.wrap (e5 - 1))) ∧ lU a0 z B M f4 t6 m g K = some r) lE ⟨z0, z1, _, (d.kM St), v0, v1, v2, v3, v4, v5, l9, v6, v7, rfl, q8⟩ ?_)))))))
 rintro m E W ⟨g, K, l1, d, c2, d7, c3, d8, d0, d9, g1, b1, g2, g3, k⟩
 let g6 := (IntKind.u64.wrap (IntKind.i64.wrap (g + K)))
 let a3 := (Int.fdiv g6 (2 ^ min (Int.toNat 1) (IntKind.bits .u64)))
 let j2 := (IntKind.i64.wrap a3)
 let a2 := (IntKind.i64.wrap (e5 - g))
 cases m with
 | zero => rw [lU] at k; cases k
 | succ n4 =>
  refine lj (sg (Wh b1 (Wh g2 (Wi rfl (ln (CI k rfl (fun p6 k => ?_) (fun p6 k => ?_)))))))
  ·refine kn (bg (Wh b1 (Wh g2 (Wi rfl (V (uh (k' := .i64) (a := (IntKind.i64.wrap (g + K))) eX gE rfl) (V (Hj (a := g6) (b := 1) rfl rfl dc) (V (uh (k' := .u64) (a := (Int.fdiv g6 (2 ^ min (Int.toNat 1) (IntKind.bits .u64)))) gE eX rfl) (Wa (ln (lj ?_))))))))))
   replace d := d.drew
   have n := d.has.kM (Kr Sn)
   refine mA n lL (X 0 rfl n (kZ d0) (X 1 rfl n (kZ c2) (X 2 rfl n (kZ g3) (X 3 rfl n (kZ rfl) (X 4 rfl n (lW rfl rfl rfl) (bS k fun z2 k1 k => XQ 5 rfl n (mO (i := (IntKind.i64.wrap ((IntKind.i64.wrap (e5 - 1)) - j2))) kL.out aF aC rfl rfl a5 (lK k1) (lI k1)) (fun ce ⟨_, ⟨y6, rfl, t0⟩, r9, al⟩ => XH 6 rfl n (fun _ s => kQ rfl (lR (oT.hp _) (r9.mono (nv (fun b o A => s.2 b o (Ml A)))) aS aC)) (X 7 rfl n (kZ c2) (X 8 rfl n (kZ rfl) (bS k fun z3 k2 k => XQ 9 rfl n (mO (i := (IntKind.i64.wrap a3)) kL.out aF aC rfl rfl a5 (lK k2) (lI k2)) (fun cf ⟨_, ⟨y7, rfl, t1⟩, s0, am⟩ => XH 10 rfl n (fun _ s => kQ rfl (lR (oT.hp _) (s0.mono (nv (fun b o A => s.2 b o (Ml A)))) aS aC)) (bS k fun ch s2 k => ?_))))))))))))
   refine XE 11 rfl (zl (z2, z3) d c6 (lz.refl _) (wj.mk kT kT (kL.mk ⟨y6, rfl, t0⟩) (kL.mk ⟨y7, rfl, t1⟩) d.kV) rfl (xR rfl rfl) s2 (fun bk d => ?_))
   have n := d.has.kM (Kr Sn)
   refine ⟨n, (X 12 rfl n (lW rfl rfl rfl) (X 13 rfl n (qp rfl) (mH kr (li (CI k rfl (fun p7 k => ?_) (fun p7 k => ?_))))))⟩
   ·exact lh (Wm (Wi rfl (Wa (lY (me (li ⟨n4, bL _, (IntKind.i64.wrap (j2 + 1)), K, _, (d.kM St), c2, d7, c3, d8, d0, d9, g1, rfl, g2, g3, k⟩))))))
   exact lh (Wm (Wa (lY (me (li ⟨n4, bL _, g, j2, _, (d.kM St), c2, d7, c3, d8, d0, d9, g1, b1, rfl, g3, k⟩)))))
  refine og (nT (nT (su (li (sg (Wh g1 (Wh b1 (Wi rfl (Wa (ln (lj (CJ k (fun n8 E W => ∃ b7 a4 l2, lz U a4 ∧ Lo (keys (c ++ [])) w U a4 ∧ ST false (keys (c ++ [])) w W a4 (b7 ++ l2) ∧ E 0 = t ∧ E 1 = (.int .i64 z) ∧ E 3 = (.int .i64 B) ∧ E 4 = D ∧ E 18 = (.int .i64 P) ∧ E 20 = (.int .i64 g) ∧ E 24 = (.int .i64 a2) ∧ lN 113 kL 5 a4 t n8 b7) (fun n8 r2 => ?_) ?_))))))))))))
  ·refine sg (Wh b1 (Wh c3 (Wi rfl (Wm (LJ r2 (fun n9 E W => ∃ l6, ST false (keys (c ++ [])) w W U (c ++ l6) ∧ E 0 = t ∧ E 1 = (.int .i64 z) ∧ E 2 = (.int .i64 M) ∧ E 3 = (.int .i64 B) ∧ E 4 = D ∧ E 18 = (.int .i64 P) ∧ E 20 = (.int .i64 g) ∧ E 24 = (.int .i64 a2) ∧ E 185 = (.bool n9)) 4 ?_ (fun n9 b4 f6 => ?_))))))
   ·rintro de E W ⟨l6, d, h4, m8, w7, m9, h5, n0, h6, h7, w8⟩ a8
    refine ln (CI a8 w8 (fun q0 a8 => ?_) (fun q0 a8 => ?_))
    ·refine lh (Wh h4 (Wh h6 (Wh w7 (Wh h7 (Wh h5 (bS a8 fun ck s5 a8 => ?_))))))
     refine VE (eD d (Cr Qz Cn) call470 (fun hh => mE.nB (zd t a0 c g M a2 D f4 _ _ hh a5 (c6.mono (lz.refl _)) s5)) ?_)
     rintro _ cv z5 ba d o2 bl ⟨u5, e8, rfl, t4⟩
     obtain rfl := e8.symm
     replace d := d.perm (Tr Tn)
     refine ln ?_
     have q := sj a8; subst q
     exact ⟨u5, z5, _, o2, bl, (d.kM St), h4, m8, m9, h5, n0, h6, h7, t4⟩
    refine kn ?_
    have q := sj a8; subst q
    exact ⟨c, U, _, (lz.refl _), Lo.refl, (d.kM St), h4, m8, m9, h5, n0, h6, h7, a5⟩
   refine bC b4 (fun J b4 => ?_) (fun J b4 => ?_)
   ·refine ug J (kZ c3) (ug J (kZ rfl) (ug J (lW rfl rfl rfl) (V (mh (cB J) rfl) ?_)))
    have q := sj b4; subst q
    exact f6 _ _ ⟨_, (d.kM St), c2, d7, c3, d8, d0, d9, b1, rfl, rfl⟩
   refine un J (un J (un J (V (mg (cB J) rfl) ?_)))
   have q := sj b4; subst q
   exact f6 _ _ ⟨_, (d.kM St), c2, d7, c3, d8, d0, d9, b1, rfl, rfl⟩
  rintro y0 E W ⟨b7, a4, l2, c4, L, d, m0, g4, m1, m2, g7, e0, m3, j3⟩ q9
  refine lj (CJ q9 (fun n6 E W => ∃ b9 c5 l3, lz a4 c5 ∧ Lo (keys (c ++ [])) w a4 c5 ∧ ST false (keys (c ++ [])) w W c5 (b9 ++ l3) ∧ E 0 = t ∧ E 3 = (.int .i64 B) ∧ E 4 = D ∧ E 18 = (.int .i64 P) ∧ E 24 = (.int .i64 a2) ∧ lN 113 kL 5 c5 t n6 b9) (fun n6 r1 => ?_) ?_)
  ·refine sg (Wh g4 (Wh e0 (Wi rfl (Wm (LJ r1 (fun n7 E W => ∃ l5, ST false (keys (c ++ [])) w W a4 (b7 ++ l5) ∧ E 0 = t ∧ E 1 = (.int .i64 z) ∧ E 3 = (.int .i64 B) ∧ E 4 = D ∧ E 18 = (.int .i64 P) ∧ E 20 = (.int .i64 g) ∧ E 24 = (.int .i64 a2) ∧ E 199 = (.bool n7)) 4 ?_ (fun n7 b3 f5 => ?_))))))
   ·rintro db E W ⟨l5, d, h1, w4, m6, h2, h3, w5, m7, w6⟩ a7
    refine ln (CI a7 w6 (fun p9 a7 => ?_) (fun p9 a7 => ?_))
    ·refine lh (Wh h1 (Wh w4 (Wh w5 (Wh h3 (Wh h2 (bS a7 fun cj s4 a7 => ?_))))))
     refine VE (eD d (Cr Qz Cn) call468 (fun hh => (s6 t y0 b7 z g P D f4 _ _ hh j3 (c6.mono c4) s4)) ?_)
     rintro _ cu z4 az d o1 aE ⟨u4, e7, rfl, t3⟩
     obtain rfl := e7.symm
     replace d := d.perm (Tr Tn)
     refine ln ?_
     have q := sj a7; subst q
     exact ⟨u4, z4, _, o1, aE, (d.kM St), h1, m6, h2, h3, m7, t3⟩
    refine kn ?_
    have q := sj a7; subst q
    exact ⟨b7, a4, _, (lz.refl _), Lo.refl, (d.kM St), h1, m6, h2, h3, m7, j3⟩
   refine bC b3 (fun I b3 => ?_) (fun I b3 => ?_)
   ·refine ug I (kZ e0) (ug I (kZ g7) (ug I (lW rfl rfl rfl) (V (mh (cB I) rfl) ?_)))
    have q := sj b3; subst q
    exact f5 _ _ ⟨_, (d.kM St), m0, g4, m1, m2, g7, e0, m3, rfl⟩
   refine un I (un I (un I (V (mg (cB I) rfl) ?_)))
   have q := sj b3; subst q
   exact f5 _ _ ⟨_, (d.kM St), m0, g4, m1, m2, g7, e0, m3, rfl⟩
  rintro y1 E W ⟨b9, c5, l3, d2, O, d, m4, g8, m5, g9, e1, j4⟩ r0
  refine sg (Wh g9 (Wh e1 (Wi rfl (Wm (LJ r0 (fun n5 E W => ∃ l4, ST false (keys (c ++ [])) w W c5 (b9 ++ l4) ∧ E 0 = t ∧ E 3 = (.int .i64 B) ∧ E 4 = D ∧ E 18 = (.int .i64 P) ∧ E 24 = (.int .i64 a2) ∧ E 213 = (.bool n5)) 4 ?_ (fun n5 b2 f3 => ?_))))))
  ·rintro da E W ⟨l4, d, v8, v9, w0, w1, w2, w3⟩ a6
   refine ln (CI a6 w3 (fun p8 a6 => ?_) (fun p8 a6 => ?_))
   ·refine lh (Wh v8 (Wh w1 (Wh w2 (Wh v9 (Wh w0 (bS a6 fun ci s3 a6 => ?_))))))
    refine VE (eD d (Cr Qz Cn) call468 (fun hh => (s6 t y1 b9 P a2 B D f4 _ _ hh j4 (c6.mono (c4.trans d2)) s3)) ?_)
    rintro _ ct df ay d o0 ad ⟨u3, e6, rfl, t2⟩
    obtain rfl := e6.symm
    replace d := d.perm (Tr Tn)
    refine lY (rG ?_)
    have q := sj a6; subst q
    exact pT rfl ⟨_, _, _, rfl, (d.ny (Kr Sn)), ((c4.trans d2).trans o0), ((L.trans O).trans ad), (ST.mf d (nL.mem (Kr Sn))), u3, rfl, rfl, t2⟩
   refine nt (rG ?_)
   have q := sj a6; subst q
   exact pT rfl ⟨_, _, _, rfl, (d.ny (Kr Sn)), (c4.trans d2), (L.trans O), (ST.mf d (nL.mem (Kr Sn))), b9, rfl, rfl, j4⟩
  refine bC b2 (fun H b2 => ?_) (fun H b2 => ?_)
  ·refine ug H (kZ e1) (ug H (kZ g8) (ug H (lW rfl rfl rfl) (V (mh (cB H) rfl) ?_)))
   have q := sj b2; subst q
   exact f3 _ _ ⟨_, (d.kM St), m4, g8, m5, g9, e1, rfl⟩
  refine un H (un H (un H (V (mg (cB H) rfl) ?_)))
  have q := sj b2; subst q
  exact f3 _ _ ⟨_, (d.kM St), m4, g8, m5, g9, e1, rfl⟩
theorem ry : ∀ (n : Nat) (c : Value) (k : List Formula) (a : LO) (t : Int) (u : Int) (x : Int) (g : Value) (y : (Formula × Formula) → Option Int) (r : List Formula) (w : World) {i : lG} (H : oW i (a ++ []) w) (B : lN 113 kL 5 i c k a) (D : ye Tryz.prog g i (wj kL kL) (fun (r : Int) => (.int .i64 r)) y) (_ : mG n k t u x y = some r),
  mE false Tryz.prog 468 [c, (.int .i64 t), (.int .i64 u), (.int .i64 x), g] w i (a ++ []) (fun v z G => ∃ j, v = (.tuple #[]) ∧ z = (j ++ []) ∧ lN 113 kL 5 G c r j)
 | 0 => by intros; rename_i h; simp only [mG] at h; cases h
 | n + 1 => xc (mG n) (ry n)
theorem zu (a : Value) (a0 : List Formula) (c : LO) (Q : Int) (x : Value) (f2 : (Formula × Formula) → Option Int) (r : List Formula) (w : World) {μ0 : lG} (h0 : oW μ0 (c ++ []) w) (k4 : lN 113 kL 5 μ0 a a0 c) (c7 : ye Tryz.prog x μ0 (wj kL kL) (fun (r : Int) => (.int .i64 r)) f2) (hm : rW a0 Q f2 = some r) :
  mE false Tryz.prog 464 [a, (.int .i64 Q), x] w μ0 (c ++ []) (fun v L1 μ1 => ∃ S1, v = (.tuple #[]) ∧ L1 = (S1 ++ []) ∧ lN 113 kL 5 μ1 a r S1) := by
 refine vd h0 63 func464 rfl (fun b => sg (Wa (lr (Wm (Wa (Wa (ln (lj (mR (oG (fun m E W => ∃ d4 d0 d5 P d6 f1, lz μ0 d6 ∧ Lo (keys (c ++ [])) w μ0 d6 ∧ ST false (keys (c ++ [])) w W d6 (d0 ++ f1) ∧ E 0 = a ∧ E 1 = (.int .i64 Q) ∧ E 2 = x ∧ E 6 = (.int .i64 20) ∧ E 7 = (.int .i64 d5) ∧ E 8 = (.int .i64 P) ∧ lN 113 kL 5 d6 a d4 d0 ∧ ng Q f2 m d4 d5 P = some r) lE ⟨a0, c, 0, 20, μ0, _, (lz.refl _), Lo.refl, (b.kM St), rfl, rfl, rfl, rfl, rfl, rfl, k4, hm⟩ ?_))))))))))
 rintro m E W ⟨d4, d0, d5, P, d6, f1, z, l, b, b4, b5, b6, d7, f4, b7, h1, i⟩
 cases m with
 | zero => rw [ng] at i; cases i
 | succ k5 =>
  refine lj (sg (Wh b7 (Wh b5 (Wi rfl (ln (CI i rfl (fun i4 i => ?_) (fun i4 i => ?_)))))))
  ·refine kn (bg (Wh b4 (Wh f4 (Wh b7 (Wh b6 (bS i fun k6 i7 i => ?_))))))
   refine VE (eD b (Cr Qz Cn) call467 (fun A => (tf a d4 d0 d5 P x f2 _ _ A h1 (c7.mono z) i7)) ?_)
   rintro _ m4 k8 l8 b g0 F ⟨k1, c8, rfl, j0⟩
   obtain rfl := c8.symm
   replace b := b.perm (Tr Tn)
   refine lr (Wh b7 (Wa (ln (lh (Wh b7 (Wh d7 (Wi rfl (Wa (lY (me ?_))))))))))
   exact li ⟨k5, bL _, k6, k1, P, (IntKind.i64.wrap (P + 20)), k8, _, (z.trans g0), (l.trans F), (b.kM St), b4, b5, b6, d7, rfl, rfl, j0, i⟩
  refine og (nT (nT (su (li (sg (Wh b4 (Wh f4 (Wh b5 (Wh b6 (bS i fun k7 i8 i => ?_))))))))))
  refine VE (eD b (Cr Qz Cn) call467 (fun A => (tf a d4 d0 d5 Q x f2 _ _ A h1 (c7.mono z) i8)) ?_)
  rintro _ m5 R l9 b a5 L ⟨k2, c9, rfl, j3⟩
  obtain rfl := c9.symm
  replace b := b.perm (Tr Tn)
  refine ln (sf (CJ i (fun d8 E W => ∃ b2 a9 f3, lz R a9 ∧ Lo (keys (c ++ [])) w R a9 ∧ ST false (keys (c ++ [])) w W a9 (b2 ++ f3) ∧ lN 113 kL 5 a9 a d8 b2) (fun d8 i6 => ?_) ?_))
  ·refine mR (oG (fun m E W => ∃ a2 I j k e0, lz R k ∧ Lo (keys (c ++ [])) w R k ∧ ST false (keys (c ++ [])) w W k (I ++ e0) ∧ E 0 = a ∧ E 1 = (.int .i64 Q) ∧ E 2 = x ∧ E 6 = (.int .i64 j) ∧ lN 113 kL 5 k a a2 I ∧ nf Q f2 m a2 j = some d8) lE ⟨k7, k2, 20, R, _, (lz.refl _), Lo.refl, (b.kM St), b4, b5, b6, d7, j3, i6⟩ ?_)
   rintro m E W ⟨a2, I, j, k, e0, B, d, b, h6, e4, h7, b3, d1, t⟩
   cases m with
   | zero => rw [nf] at t; cases t
   | succ j6 =>
    refine lj (sg (Wh b3 (Wh e4 (Wi rfl (ln (CI t rfl (fun f7 t => ?_) (fun f7 t => ?_)))))))
    ·refine kn (bg (Wh b3 (Wi rfl (Wa (Wa (ln (lj (CJ t (fun a4 E W => ∃ J y e1, lz k y ∧ Lo (keys (c ++ [])) w k y ∧ ST false (keys (c ++ [])) w W y (J ++ e1) ∧ E 0 = a ∧ E 1 = (.int .i64 Q) ∧ E 2 = x ∧ E 6 = (.int .i64 j) ∧ E 7 = (.int .i64 a4.2) ∧ lN 113 kL 5 y a a4.1 J) (fun a4 g4 => ?_) ?_))))))))
     ·refine mR (oG (fun m E W => ∃ a3 K M D H e3, lz k H ∧ Lo (keys (c ++ [])) w k H ∧ ST false (keys (c ++ [])) w W H (K ++ e3) ∧ E 0 = a ∧ E 1 = (.int .i64 Q) ∧ E 2 = x ∧ E 6 = (.int .i64 j) ∧ E 7 = (.int .i64 M) ∧ E 8 = (.int .i64 D) ∧ lN 113 kL 5 H a a3 K ∧ nx Q j f2 m a3 M D = some a4) lE ⟨a2, I, 0, (IntKind.i64.wrap (2 * j)), k, _, (lz.refl _), Lo.refl, (b.kM St), h6, e4, h7, b3, rfl, rfl, d1, g4⟩ ?_)
      rintro m E W ⟨a3, K, M, D, H, e3, N, h, b, c2, c3, c4, Y, c5, Z, d3, g⟩
      cases m with
      | zero => rw [nx] at g; cases g
      | succ j7 =>
       refine lj (sg (Wh Z (Wh c3 (Wi rfl (ln (CI g rfl (fun f9 g => ?_) (fun f9 g => ?_)))))))
       ·refine kn (bg (Wh c2 (Wh c5 (Wh c5 (Wh Y (Wi rfl (Wh Z (Wh c4 (bS g fun j8 g8 g => ?_)))))))))
        refine VE (eD b (Cr Qz Cn) call468 (fun A => ((ry lE) a a3 K M (IntKind.i64.wrap (M + j)) D x f2 _ _ A d3 (c7.mono (((z.trans a5).trans B).trans N)) g8)) ?_)
        rintro _ l6 k0 l1 b f0 s ⟨h5, a7, rfl, h3⟩
        obtain rfl := a7.symm
        replace b := b.perm (Tr Tn)
        refine lr (Wh Z (Wa (ln (lh (Wh Z (Wh Y (Wi rfl (Wi rfl (Wa (lY ?_))))))))))
        exact me (li ⟨j7, bL _, j8, h5, D, (IntKind.i64.wrap (D + (IntKind.i64.wrap (2 * j)))), k0, _, (N.trans f0), (h.trans s), (b.kM St), c2, c3, c4, Y, rfl, rfl, h3, g⟩)
       refine og (nT (nT (su (li ?_))))
       obtain rfl := sj g
       exact ⟨K, H, _, N, h, (b.kM St), c2, c3, c4, Y, c5, d3⟩
     rintro ⟨j4, e7⟩ E W ⟨J, y, e1, b0, n, b, b9, U, c0, c1, e5, d2⟩ g2
     refine lj (CJ g2 (fun e6 E W => ∃ T G e2, lz y G ∧ Lo (keys (c ++ [])) w y G ∧ ST false (keys (c ++ [])) w W G (T ++ e2) ∧ E 0 = a ∧ E 1 = (.int .i64 Q) ∧ E 2 = x ∧ E 6 = (.int .i64 j) ∧ lN 113 kL 5 G a e6 T) (fun e6 u => ?_) ?_)
     ·refine sg (Wh e5 (Wh c1 (Wi rfl (Wa (lr (Wm (Wh U (Wi rfl (ln ?_)))))))))
      refine CI u rfl (fun f8 u => ?_) (fun f8 u => ?_)
      ·refine lh (Wh b9 (Wh e5 (Wm (Wh U (Wh c0 (bS u fun l4 g7 u => ?_))))))
       refine VE (eD b (Cr Qz Cn) call468 (fun A => ((ry lE) a j4 J e7 (IntKind.i64.wrap (e7 + j)) Q x f2 _ _ A d2 (c7.mono (((z.trans a5).trans B).trans b0)) g7)) ?_)
       rintro _ l5 j9 l0 b e9 q ⟨h4, a6, rfl, h2⟩
       obtain rfl := a6.symm
       replace b := b.perm (Tr Tn)
       refine ln ?_
       obtain rfl := sj u
       exact ⟨h4, j9, _, e9, q, (b.kM St), b9, U, c0, c1, h2⟩
      refine kn ?_
      obtain rfl := sj u
      exact ⟨J, y, _, (lz.refl _), Lo.refl, (b.kM St), b9, U, c0, c1, d2⟩
     rintro j5 E W ⟨T, G, e2, e8, p, b, h8, h9, i0, i1, g9⟩ g3
     exact lh (Wh i1 (Wi rfl (Wa (lY (me (li ⟨j6, bL _, j5, T, (IntKind.i64.wrap (j * 2)), G, _, ((B.trans b0).trans e8), ((d.trans n).trans p), (b.kM St), h8, h9, i0, rfl, g9, g3⟩))))))
    refine og (nT (nT (su (li ?_))))
    obtain rfl := sj t
    exact ⟨I, k, _, B, d, (b.kM St), d1⟩
  rintro m3 E W ⟨b2, a9, f3, g1, O, b, i9⟩ i5
  refine rG ?_
  obtain rfl := sj i5
  exact pT rfl ⟨_, _, _, rfl, (b.ny (Kr Sn)), ((z.trans a5).trans g1), ((l.trans L).trans O), (ST.mf b (nL.mem (Kr Sn))), b2, rfl, rfl, i9⟩
theorem yZ (c : Value) (k : List Formula) (a : LO) (i : Value) (u : (Formula × Formula) → Option Int) (r : List Formula) (w : World) {t : lG} (J : oW t (a ++ []) w) (j : lN 113 kL 5 t c k a) (x : ye Tryz.prog i t (wj kL kL) (fun (r : Int) => (.int .i64 r)) u) (hm : pI k u = some r) :
  mE false Tryz.prog 457 [c, i] w t (a ++ []) (fun v I K => ∃ B, v = (.tuple #[]) ∧ I = (B ++ []) ∧ lN 113 kL 5 K c r B) := by
 refine vd J 9 func457 rfl (fun b => lh (Wm (Wm (V (vr aF rfl j) (Wm (bS hm fun Q H hm => ?_))))))
 refine VE (eD b (Cr Qz Cn) call464 (fun h => (zu c k a (k.length : Int) i u _ _ h j (x.mono (lz.refl _)) H)) ?_)
 rintro _ T U M b y d ⟨D, g, rfl, z⟩
 obtain rfl := g.symm
 replace b := b.perm (Tr Tn)
 refine lY (rG ?_)
 obtain rfl := sj hm
 exact pT rfl ⟨_, _, _, rfl, (b.ny (Kr Sn)), y, d, (ST.mf b (nL.mem (Kr Sn))), D, rfl, rfl, z⟩
theorem sH (t : Nat) (j : Value) (G : List Int) (i : LO) (h : Int) (r : (Bool × (List Int))) (w : World) {μ0 : lG} (A : oW μ0 ((t, Ob #[j] 92) :: (i ++ [])) w) (y : lD 5 (mJ .u8) 1 j G i) (hm : oX G h = some r) :
  mU true Tryz.prog 268 [(.pointer (some ⟨t, 0, none⟩)), (.int .i64 h)] w ((t, Ob #[j] 92) :: (i ++ [])) (fun v L1 W' => ∃ n S2, v = (.bool (r.1)) ∧ L1 = ((t, Ob #[n] 92) :: (S2 ++ [])) ∧ lD 5 (mJ .u8) 1 n r.2 S2) := by
 refine By A 38 func268 rfl (fun d => sg (Wa (lS (Wm (V (xQ jh rfl rfl) (Wm (Vg rfl rfl (kZ rfl) (Vg rfl rfl (lW rfl rfl rfl) (V (mg rfl rfl) ?_)))))))))
 refine ln (CI hm rfl (fun a9 hm => ?_) (fun a9 hm => ?_))
 ·refine sg (Wa (lt (mV ?_)))
  obtain rfl := sj hm
  exact mS (v := (.bool false)) rfl rfl ⟨_, _, rfl, (d.ny (Kb (Kr Sn))), j, i, rfl, rfl, y⟩
 refine kn (lj (mR (oG (fun m E W => ∃ c z U u a0, ST true (keys ((t, Ob #[j] 92) :: (i ++ []))) w W μ0 ((t, Ob #[z] 92) :: (u ++ a0)) ∧ E 0 = (.pointer (some ⟨t, 0, none⟩)) ∧ E 1 = (.int .i64 c) ∧ lD 5 (mJ .u8) 1 z U u ∧ qY m c U = some r) lE ⟨h, j, G, i, _, (d.kM St), rfl, rfl, y, hm⟩ ?_)))
 rintro m E W ⟨c, z, U, u, a0, d, x, K, T, g⟩
 cases m with
 | zero => rw [qY] at g; cases g
 | succ s =>
  refine lj (sg (Wh K (Wi rfl (ln (CI g rfl (fun p g => ?_) (fun p g => ?_))))))
  ·refine kn (lj (mR (lh (Wh x (Wh x (Wn (Wf Bw (VB d Mh rfl rfl isAgg54 (Wh K (V (uh (k' := .i64) (a := c) eX kB rfl) (V (Mm (k := .u8) (a := (IntKind.u8.wrap c)) (b := 128) (v := (.int .u8 (IntKind.u8.wrap (BitVec.ofInt (IntKind.bits .u8) (IntKind.u8.wrap c) ||| BitVec.ofInt (IntKind.bits .u8) 128).toNat))) rfl rfl dc rfl) (VE (lO (cs := [(.int .u8 (IntKind.u8.wrap (BitVec.ofInt (IntKind.bits .u8) (IntKind.u8.wrap c) ||| BitVec.ofInt (IntKind.bits .u8) 128).toNat))].toArray) d (ot rfl) (nZ dO sizeOf5 zeroValue5) (fun c3 q d => ?_))))))))))))))
   replace d := d.perm (Nr (Qb (Qb Qz)) Nz)
   refine bS g fun Q Y g => VE (rM (enc := (mJ .u8)) (v := z) (vs := (.slice (some ⟨q, 0, none⟩) 1 1)) (R := u) d (fun _ => rfl) dc (Gv _) dO tG.1 tG.2.1 rfl tG.2.2.1 tG.2.2.2 rfl rfl T (Sl.lit (enc := (mJ .u8)) (l := [(IntKind.u8.wrap (BitVec.ofInt (IntKind.bits .u8) (IntKind.u8.wrap c) ||| BitVec.ofInt (IntKind.bits .u8) 128).toNat)]) (fun _ => rfl) rfl nb rfl (d.at_ (Ma Mh))) Y (fun F c1 a2 d M => Wn (Wf Bw ?_)))
   obtain ⟨B, H, rfl⟩ := M.form
   replace d := d.perm (Nb (Pr (Pb Pz)) Nz)
   refine VO (lA (.slice B Q.length H) (#[(.slice B Q.length H)]) d rfl rfl kz oc nb rfl (fun L d => lY (me (li ?_))))
   replace d := d.kM (Kb (Kr (Db St)))
   exact lh (Wh K (V (Hj (a := c) (b := 7) rfl rfl dc) (Wa (ln ⟨s, bL _, (Int.fdiv c (2 ^ min (Int.toNat 7) (IntKind.bits .i64))), (.slice B Q.length H), Q, a2, _, (d.kM St), x, rfl, M, g⟩))))
  refine og (nT (nT (su (li (sg (Wh x (Wh x (Wn (Wf Bw (VB d Mh rfl rfl isAgg54 (Wh K (V (uh (k' := .i64) (a := c) eX kB rfl) (VE (lO (cs := [(.int .u8 (IntKind.u8.wrap c))].toArray) d (ot rfl) (nZ dO sizeOf5 zeroValue5) (fun O a5 d => ?_)))))))))))))))
  replace d := d.perm (Nr (Qb (Qb Qz)) Nz)
  refine bS g fun J Z g => VE (rM (enc := (mJ .u8)) (v := z) (vs := (.slice (some ⟨a5, 0, none⟩) 1 1)) (R := u) d (fun _ => rfl) dc (Gv _) dO tG.1 tG.2.1 rfl tG.2.2.1 tG.2.2.2 rfl rfl T (Sl.lit (enc := (mJ .u8)) (l := [(IntKind.u8.wrap c)]) (fun _ => rfl) rfl nb rfl (d.at_ (Ma Mh))) Z (fun P c2 a3 d N => Wn (Wf Bw ?_)))
  obtain ⟨D, I, rfl⟩ := N.form
  replace d := d.perm (Nb (Pr (Pb Pz)) Nz)
  refine VO (lA (.slice D J.length I) (#[(.slice D J.length I)]) d rfl rfl kz oc nb rfl (fun b9 d => ln ?_))
  replace d := d.kM (Kb (Kr (Db St)))
  refine sg (Wa (lt ?_))
  obtain rfl := sj g
  exact mS (v := (.bool true)) rfl rfl ⟨_, _, rfl, (d.ny (Kb (Kr Sn))), (.slice D J.length I), a3, rfl, rfl, N⟩
theorem FC (g : Nat) (c : Value) (j : List Int) (a : LO) (u : Value) (D : List Int) (r : (Bool × (List Int))) (w : World) {Z : lG} (h : oW Z ((g, Ob #[c] 92) :: (a ++ [])) w) (i : lD 5 (mJ .u8) 1 c j a) (k : Sl (Pl (mJ .u8)) 1 Z u D) (hm : yb j D = some r) :
  mU true Tryz.prog 165 [(.pointer (some ⟨g, 0, none⟩)), u] w ((g, Ob #[c] 92) :: (a ++ [])) (fun v L1 W' => ∃ U M, v = (.bool (r.1)) ∧ L1 = ((g, Ob #[U] 92) :: (M ++ [])) ∧ lD 5 (mJ .u8) 1 U r.2 M) := by
 refine By h 25 func165 rfl (fun b => sg (Wa (lS (Wm (V (xQ jh rfl rfl) (Wm (Vg rfl rfl (kZ rfl) (Vg rfl rfl (nn dO rfl k) (Vg rfl rfl (lW rfl rfl rfl) ?_)))))))))
 refine V (mg rfl rfl) (ln (CI hm rfl (fun Q hm => ?_) (fun Q hm => ?_)))
 ·refine sg (Wa (lt (mV ?_)))
  obtain rfl := sj hm
  exact mS (v := (.bool false)) rfl rfl ⟨_, _, rfl, (b.ny (Kb (Kr Sn))), c, a, rfl, rfl, i⟩
 refine kg (Wm (Wm (V (nn dO rfl k) (bS hm fun q T hm => ?_))))
 refine VE (eM b (Cb Pz (Cr Qz Cn)) call268 (fun l _ => (sH g c j a (D.length : Int) _ _ l i T)) ?_)
 rintro _ v8 n a3 b H m d ⟨Y, K, t, rfl, I⟩
 obtain rfl := t.symm
 replace b := b.perm (Tb (Tr Tn))
 refine lr (Wm (Wm (Wn (Wf Bw (VB b Mh rfl rfl isAgg54 (Wm ?_))))))
 replace b := b.perm (Nr (Qb Qz) Nz)
 refine bS hm fun B G hm => VE (rM (enc := (mJ .u8)) (v := Y) (vs := u) (R := K) b (fun _ => rfl) dc (Gv _) dO tG.1 tG.2.1 rfl tG.2.2.1 tG.2.2.2 rfl rfl I (k.mono (Pl.mono _) (H.trans b.kV)) G (fun a4 p J b z => Wn (Wf Bw ?_)))
 obtain ⟨x, y, rfl⟩ := z.form
 replace b := b.perm (Nb (Pr Pz) Nz)
 refine VO (lA (.slice x B.length y) (#[(.slice x B.length y)]) b rfl rfl kz oc nb rfl (fun a5 b => lr (Wa (lt ?_))))
 obtain rfl := sj hm
 exact mS (v := (.bool true)) rfl rfl ⟨_, _, rfl, (b.ny (Kb (Kr Sn))), (.slice x B.length y), J, rfl, rfl, z⟩
theorem zg (j : Nat) (c : Value) (t : List Int) (a : LO) (J : ByteArray) (r : (Bool × (List Int))) (w : World) {Z : lG} (A : oW Z ((j, Ob #[c] 92) :: (a ++ [])) w) (k : lD 5 (mJ .u8) 1 c t a) (hm : uA t J = some r) :
  mU true Tryz.prog 270 [(.pointer (some ⟨j, 0, none⟩)), (.string J)] w ((j, Ob #[c] 92) :: (a ++ [])) (fun v L1 W' => ∃ n S2, v = (.bool (r.1)) ∧ L1 = ((j, Ob #[n] 92) :: (S2 ++ [])) ∧ lD 5 (mJ .u8) 1 n r.2 S2) := by
 refine By A 17 func270 rfl (fun b => sg (Wa (lr (Wm (V (D8 jh rfl rfl) (Wm (Vg rfl rfl (kZ rfl) (bS hm fun r1 a4 hm => NR rfl rfl (Eg b call152 (xd J _ _  a4) (fun W3 b => V (mh rfl rfl) ?_))))))))))
 refine Wm (LJ hm (fun B E W => ∃ z x D I, lz Z D ∧ ST true (keys ((j, Ob #[c] 92) :: (a ++ []))) w W D ((j, Ob #[z] 92) :: (x ++ I)) ∧ E 4 = (.bool false) ∧ E 16 = (.bool B.1) ∧ lD 5 (mJ .u8) 1 z B.2 x) 5 ?_ (fun B g y => ?_))
 ·rintro ⟨q, c0⟩ E W ⟨z, x, D, I, L, b, b9, a3, T⟩ M
  refine Wg a3 (lt ?_)
  obtain rfl := sj M
  exact mS (v := (.bool q)) rfl rfl ⟨_, _, rfl, (b.ny (Kb (Kr Sn))), z, x, rfl, rfl, T⟩
 refine bC g (fun i g => ?_) (fun i g => ?_)
 ·refine ug i (kZ rfl) (ug i (kZ rfl) (bS g fun a5 N g => zG i (Iv b cC dO kB rfl N (fun R p c3 b G l U O => bS g fun c1 Q g => ?_))))
  refine zG i (eM b (Cb Pz (Cr Qz Cn)) call165 (fun F h => (FC j c t a p a5 _ _ F k (U.mono (Pl.mono _) h) Q)) ?_)
  rintro _ c2 s P b H m d ⟨a9, a2, u, rfl, Y⟩
  obtain rfl := u.symm
  replace b := b.perm (Tb (Tr Tn))
  refine V (mh (cB i) rfl) ?_
  obtain rfl := sj g
  exact y _ _ ⟨a9, a2, s, _, (G.trans H), (b.kM St), rfl, rfl, Y⟩
 refine un i (un i (un i (un i (V (mg (cB i) rfl) ?_))))
 obtain rfl := sj g
 exact y _ _ ⟨c, a, Z, _, (lz.refl _), (b.kM St), rfl, rfl, k⟩
theorem vQ (c : Nat) (i : Value) (D : List Int) (a : LO) (x : kI) (r : (Bool × (List Int))) (w : World) {μ0 : lG} (h0 : oW μ0 ((c, Ob #[i] 92) :: (a ++ [])) w) (y : lD 5 (mJ .u8) 1 i D a) (hm : re D x = some r) :
  mU true Tryz.prog 269 [(.pointer (some ⟨c, 0, none⟩)), (.agg (kW x).toArray)] w ((c, Ob #[i] 92) :: (a ++ [])) (fun v L1 W' => ∃ q S2, v = (.bool (r.1)) ∧ L1 = ((c, Ob #[q] 92) :: (S2 ++ [])) ∧ lD 5 (mJ .u8) 1 q r.2 S2) := by
 let l := ((c, Ob #[i] 92) :: (a ++ []))
 refine By h0 23 func269 rfl (fun b => sg (VE (mx b rfl (fun W2 m b => Wa (lr (Wm (V (D8 jh rfl rfl) (Wm (Vg rfl rfl (kQ rfl (kX b.has Mh (kW x) rfl bY bG)) (bS hm fun r3 c4 hm => NR rfl rfl (Eg b kH (uD x _ _  c4) (fun W5 b => ?_))))))))))))
 refine V (mh rfl rfl) (Wm (LJ hm (fun T E W => ∃ z u B a0, lz μ0 B ∧ ST true (keys l) w W B ((m, Ol (kW x) 28) :: ((c, Ob #[z] 92) :: (u ++ a0))) ∧ E 0 = (.pointer (some ⟨c, 0, none⟩)) ∧ E 3 = (.pointer (some ⟨m, 0, none⟩)) ∧ E 4 = (.bool false) ∧ E 16 = (.bool T.1) ∧ lD 5 (mJ .u8) 1 z T.2 u) 5 ?_ (fun T t K => ?_)))
 ·rintro ⟨e6, c5⟩ E W ⟨z, u, B, a0, d2, b, c0, c1, a3, c2, N⟩ s
  refine Wh c2 (LJ s (fun Q E W => ∃ M I U a2, lz B U ∧ ST true (keys l) w W U ((c, Ob #[M] 92) :: (I ++ a2)) ∧ E 4 = (.bool false) ∧ E 22 = (.bool Q.1) ∧ lD 5 (mJ .u8) 1 M Q.2 I) 5 ?_ (fun Q k J => ?_))
  ·rintro ⟨c6, e1⟩ E W ⟨M, I, U, a2, d3, b, e0, c3, L⟩ A
   refine Wg c3 (lt ?_)
   obtain rfl := sj A
   exact mS (v := (.bool c6)) rfl rfl ⟨_, _, rfl, (b.ny (Kb (Kr Sn))), M, I, rfl, rfl, L⟩
  refine bC k (fun g k => ?_) (fun g k => ?_)
  ·refine ug g (kZ c0) (ug g (lg xm c1) (ug g (kQ rfl (lB b.has Mh rfl cO)) (bS k fun e2 F k => ?_)))
   refine zG g (eM b (Cb (Pb Pz) (Cr (Qb Qz) Cn)) call270 (fun h _ => (zg c z c5 u x.kP _ _ h N F)) ?_)
   rintro _ e4 d0 d6 b Y n d ⟨c8, R, G, rfl, O⟩
   obtain rfl := G.symm
   replace b := b.perm (Tb (Tr Tn))
   refine V (mh (cB g) rfl) ?_
   obtain rfl := sj k
   exact J _ _ ⟨c8, R, d0, _, Y, (b.kM (Kb (Kr (Db St)))), a3, rfl, O⟩
  refine un g (un g (un g (un g (V (mg (cB g) rfl) ?_))))
  obtain rfl := sj k
  exact J _ _ ⟨z, u, B, _, (lz.refl _), (b.kM (Db St)), a3, rfl, N⟩
 refine bC t (fun j t => ?_) (fun j t => ?_)
 ·refine ug j (kZ rfl) (ug j (lg wv rfl) (ug j (kQ rfl (lB b.has Mh rfl cO)) (bS t fun e3 a9 t => ?_)))
  refine zG j (eM b (Cb (Pb Pz) (Cr (Qb Qz) Cn)) call270 (fun h _ => (zg c i D a x.kK _ _ h y a9)) ?_)
  rintro _ e5 d1 d7 b Z p d ⟨c9, b7, H, rfl, P⟩
  obtain rfl := H.symm
  replace b := b.perm (Tb (Tr Tn))
  refine V (mh (cB j) rfl) ?_
  obtain rfl := sj t
  exact K _ _ ⟨c9, b7, d1, _, Z, (b.kM (Sb (Pb (Pr Pz)) St)), rfl, rfl, rfl, rfl, P⟩
 refine un j (un j (un j (un j (V (mg (cB j) rfl) ?_))))
 obtain rfl := sj t
 exact K _ _ ⟨i, a, μ0, _, (lz.refl _), (b.kM St), rfl, rfl, rfl, rfl, y⟩
theorem D5 (A : (List Int) → Formula → Option (List Int)) (f2 : ∀ (a : Nat) (k : Value) (B : List Int) (g : LO) (j : Formula) (u : Value) (r : List Int) (w : World) {μ0 : lG} (h0 : oW μ0 ((a, Ob #[k] 92) :: (g ++ [])) w) (T : lD 5 (mJ .u8) 1 k B g) (t : Sl kL 5 μ0 u j.Kids), A B j = some r → mU false Tryz.prog 471 [(.pointer (some ⟨a, 0, none⟩)), (.agg #[(.int .i64 j.Op), (.int .i64 j.K), (.string j.kI.kK), (.string j.kI.kP), u])] w ((a, Ob #[k] 92) :: (g ++ [])) (fun v L1 W' => ∃ m S2, v = (.tuple #[]) ∧ L1 = ((a, Ob #[m] 92) :: (S2 ++ [])) ∧ lD 5 (mJ .u8) 1 m r S2)) (a : Nat) (k : Value) (B : List Int) (g : LO) (j : Formula) (u : Value) (r : List Int) (w : World) {μ0 : lG} (h0 : oW μ0 ((a, Ob #[k] 92) :: (g ++ [])) w) (T : lD 5 (mJ .u8) 1 k B g) (t : Sl kL 5 μ0 u j.Kids) (hm : wm A B j = some r) :
  mU false Tryz.prog 471 [(.pointer (some ⟨a, 0, none⟩)), (.agg #[(.int .i64 j.Op), (.int .i64 j.K), (.string j.kI.kK), (.string j.kI.kP), u])] w ((a, Ob #[k] 92) :: (g ++ [])) (fun v L1 W' => ∃ m S2, v = (.tuple #[]) ∧ L1 = ((a, Ob #[m] 92) :: (S2 ++ [])) ∧ lD 5 (mJ .u8) 1 m r S2) := by
 let b0 := ((a, Ob #[k] 92) :: (g ++ []))
 refine By h0 40 func471 rfl (fun b => sg ?_)
 obtain ⟨A1, c2, rfl⟩ := t.form
 refine VE (mx b rfl (fun W4 b3 b => lr (Wm (Wf tD (VB b Mh rfl rfl cV (bS hm fun r5 g8 hm => ?_))))))
 refine VE (eM b (Cb (Pb Pz) (Cr (Qb Qz) Cn)) call268 (fun l _ => mU.nB (sH a k B g j.Op _ _ l T g8)) ?_)
 rintro _ j8 n j0 b e9 ad d ⟨F, a9, a2, rfl, a5⟩
 obtain rfl := a2.symm
 replace b := b.perm (Tb (Tr Tn))
 refine lS (Wf tD (VB b (Mt (Ma Mh)) rfl rfl cV (Wi rfl (ln (CI hm rfl (fun e8 hm => ?_) (fun e8 hm => ?_))))))
 ·refine sg (Wm (Wf xJ (VA b (Mt (Ma Mh)) (kW j.kI) bY bG (bS hm fun j7 f0 hm => ?_))))
  refine VE (eM b (Cb Pz (Cr Qz Cn)) call269 (fun l _ => mU.nB (vQ a F r5.2 a9 j.kI _ _ l a5 f0)) ?_)
  rintro _ j9 k1 j3 b h6 ae d ⟨h3, g2, a3, rfl, f4⟩
  obtain rfl := a3.symm
  replace b := b.perm (Tb (Tr Tn))
  refine ln ?_
  replace b := b.kM (Kb (Kr (Db St)))
  refine ma (mV ?_)
  obtain rfl := sj hm
  exact pT rfl ⟨_, _, rfl, (b.ny (Kb (Kr Sn))), h3, g2, rfl, rfl, f4⟩
 refine kn (lj (CJ hm (fun b5 E W => ∃ q p L d6, lz n L ∧ ST false (keys b0) w W L ((a, Ob #[q] 92) :: ((b3, Ol (C2 j.Op j.K j.kI.kK j.kI.kP A1 j.Kids.length c2) 113) :: (p ++ d6))) ∧ E 0 = (.pointer (some ⟨a, 0, none⟩)) ∧ E 3 = (.pointer (some ⟨b3, 0, none⟩)) ∧ lD 5 (mJ .u8) 1 q b5 p) (fun b5 y => ?_) ?_))
 ·refine sg (Wf tD (VB b (Mt (Ma Mh)) rfl rfl cV (Wi rfl (ln (CI y rfl (fun c4 y => ?_) (fun c4 y => ?_))))))
  ·refine lh (Wm (Wf xE (VB b (Mt (Ma Mh)) rfl rfl cV (bS y fun i6 d0 y => ?_))))
   refine VE (eM b (Cb Pz (Cr Qz Cn)) call268 (fun l _ => mU.nB (sH a F r5.2 a9 j.K _ _ l a5 d0)) ?_)
   rintro _ i9 g1 h9 b b2 aa d ⟨f9, e3, N, rfl, d5⟩
   obtain rfl := N.symm
   replace b := b.perm (Tb (Tr Tn))
   refine ln ?_
   obtain rfl := sj y
   exact ⟨f9, e3, g1, _, b2, (b.kM (Kb (Sb (Pr Pz) St))), rfl, rfl, d5⟩
  refine kn ?_
  obtain rfl := sj y
  exact ⟨F, a9, n, _, (lz.refl _), (b.kM (Kb (Sb (Pr Pz) St))), rfl, rfl, a5⟩
 rintro g9 E W ⟨q, p, L, d6, c6, b, d7, d8, f3⟩ a0
 refine sg (Wh d7 (V (lg se d8) (VB b (Mt Mh) rfl rfl fR (V (nn aF rfl t) (bS a0 fun h2 f1 a0 => ?_)))))
 refine VE (eM b (Cb Pz (Cr (Qb Qz) Cn)) call268 (fun l _ => mU.nB (sH a q g9 p (j.Kids.length : Int) _ _ l f3 f1)) ?_)
 rintro _ k0 d9 j4 b c7 af d ⟨h4, g3, a4, rfl, f5⟩
 obtain rfl := a4.symm
 replace b := b.perm (Tb (Tr Tn))
 refine lr (V (lg se d8) (VB b (Mt (Ma Mh)) rfl rfl fR (V (nn aF rfl t) (Wm (ln ?_)))))
 replace b := b.kM (Kb (Kr (Db St)))
 refine sf (nm (fun i E W => ∃ D H z Q U, (E 32 = .int .i64 (i : Nat) ∧ E 31 = .int .i64 (j.Kids.length : Nat)) ∧ lz d9 Q ∧ ST false (keys b0) w W Q ((a, Ob #[D] 92) :: (z ++ U)) ∧ E 0 = (.pointer (some ⟨a, 0, none⟩)) ∧ E 30 = (.slice A1 j.Kids.length c2) ∧ lD 5 (mJ .u8) 1 D H z ∧ rC A (j.Kids.drop i) H = some r) j.Kids.length t.len ⟨h4, h2.2, g3, d9, _, ⟨rfl, rfl⟩, (lz.refl _), (b.kM St), d7, rfl, f5, a0⟩ dc dc dc (fun _ _ _ h => by obtain ⟨_, _, _, _, _, P, _⟩ := h; exact P) ?_ ?_)
 ·rintro f6 E W c5 ⟨D, H, z, Q, U, ⟨O, eN⟩, G, b, Y, Z, K, x⟩
  obtain ⟨c, h7, d2, d1, d3⟩ := mT c5
  rw [d2] at x
  refine bg (VQ (nX (i := (f6 : Int)) (x0 := c) kL.out aF aC Z O (t.mono kT.mono (((e9.trans c6).trans c7).trans G)) (bA _) d1) (fun i5 ⟨_, ⟨i7, rfl, a7⟩, c8⟩ => V (kQ rfl (lR b.has c8 aS aC)) (VE (lZ b bE (fun i0 i4 b => ?_)))))
  obtain ⟨I, J, rfl⟩ := a7.form
  let s := (C2 c.Op c.K c.kI.kK c.kI.kP I c.Kids.length J)
  refine VO (lA (.agg s.toArray) (s.toArray) b rfl rfl aC oc nb rfl (fun i1 b => ln (lh (Wh Y (VA b Mh s aS aC (bS x fun f7 c9 x => ?_))))))
  refine VE (eM b (Cb (Pb Pz) (Cr (Qb Qz) Cn)) call471 (fun l ab => (f2 a D H z c (.slice I c.Kids.length J) _ _ l K (a7.mono kT.mono ab) c9)) ?_)
  rintro _ i8 g0 h8 b b1 R d ⟨f8, e2, M, rfl, d4⟩
  obtain rfl := M.symm
  replace b := b.perm (Tb (Tr Tn))
  refine lY (me (li ?_))
  replace b := b.kM (Kb (Kr (Db St)))
  exact ⟨O, f8, f7, e2, g0, _, ⟨rfl, eN⟩, (G.trans b1), (b.kM St), Y, Z, d4, (by rw [d3]; exact x)⟩
 rintro E W ⟨D, H, z, Q, U, ⟨O, eN⟩, G, b, Y, Z, K, x⟩
 rw [bD] at x
 refine li (rG ?_)
 obtain rfl := sj x
 exact pT rfl ⟨_, _, rfl, (b.ny (Kb (Kr Sn))), D, z, rfl, rfl, K⟩
theorem Ct : ∀ (n : Nat) (i : Nat) (g : Value) (k : List Int) (c : LO) (j : Formula) (a : Value) (r : List Int) (w : World) {z : lG} (D : oW z ((i, Ob #[g] 92) :: (c ++ [])) w) (x : lD 5 (mJ .u8) 1 g k c) (t : Sl kL 5 z a j.Kids) (_ : qK n k j = some r),
  mU false Tryz.prog 471 [(.pointer (some ⟨i, 0, none⟩)), (.agg #[(.int .i64 j.Op), (.int .i64 j.K), (.string j.kI.kK), (.string j.kI.kP), a])] w ((i, Ob #[g] 92) :: (c ++ [])) (fun v B W' => ∃ y u, v = (.tuple #[]) ∧ B = ((i, Ob #[y] 92) :: (u ++ [])) ∧ lD 5 (mJ .u8) 1 y r u)
 | 0 => by intros; rename_i h; simp only [qK] at h; cases h
 | n + 1 => D5 (qK n) (Ct n)
theorem GW (k : Nat) (i : Value) (u : List Int) (c : LO) (a : Formula) (j : Value) (r : (Bool × (List Int))) (w : World) {Q : lG} (Y : oW Q ((k, Ob #[i] 92) :: (c ++ [])) w) (t : lD 5 (mJ .u8) 1 i u c) (g : Sl kL 5 Q j a.Kids) (hm : wT u a = some r) :
  mU false Tryz.prog 469 [(.pointer (some ⟨k, 0, none⟩)), (.agg #[(.int .i64 a.Op), (.int .i64 a.K), (.string a.kI.kK), (.string a.kI.kP), j])] w ((k, Ob #[i] 92) :: (c ++ [])) (fun v U W' => ∃ M I, v = (.bool (r.1)) ∧ U = ((k, Ob #[M] 92) :: (I ++ [])) ∧ lD 5 (mJ .u8) 1 M r.2 I) := by
 refine By Y 15 func469 rfl (fun b => sg ?_)
 obtain ⟨y, z, rfl⟩ := g.form
 let B := (C2 a.Op a.K a.kI.kK a.kI.kP y a.Kids.length z)
 refine VE (mx b rfl (fun W4 n b => Wa (lS (Wm (V (xQ jh rfl rfl) (Wm (Vg rfl rfl (kQ rfl (kX b.has Mh B rfl aS aC)) (bS hm fun p K hm => NR rfl rfl (Eg b call107 (wP a (.slice y a.Kids.length z) _ _ (g.mono kT.mono b.kV) K) (fun W7 b => Vg rfl rfl (qp rfl) (V (mg rfl rfl) ?_)))))))))))
 refine ln (CI hm rfl (fun J hm => ?_) (fun J hm => ?_))
 ·refine sg (Wa (ln ?_))
  replace b := b.kM (Db St)
  refine ma (mV ?_)
  obtain rfl := sj hm
  exact mS (v := (.bool false)) rfl rfl ⟨_, _, rfl, (b.ny (Kb (Kr Sn))), i, c, rfl, rfl, t⟩
 refine kg (Wm (VA b Mh B aS aC (bS hm fun q D hm => ?_)))
 refine VE (eM b (Cb (Pb Pz) (Cr (Qb Qz) Cn)) call471 (fun m h => ((Ct lE) k i u c a (.slice y a.Kids.length z) _ _ m t (g.mono kT.mono h) D)) ?_)
 rintro _ a2 a3 Z b T l d ⟨N, H, x, rfl, G⟩
 obtain rfl := x.symm
 replace b := b.perm (Tb (Tr Tn))
 refine ln ?_
 replace b := b.kM (Kb (Kr (Db St)))
 refine sg (Wa (lt ?_))
 obtain rfl := sj hm
 exact mS (v := (.bool true)) rfl rfl ⟨_, _, rfl, (b.ny (Kb (Kr Sn))), N, H, rfl, rfl, G⟩
theorem IF (g : Value) (i r : List Int) (w : World) (a : Sl (Pl (mJ .u8)) 1 (hp w) g i) (hm : uV i = some r) :
  pd true Tryz.prog 153 [g] w 5 (mJ .u8) 1 r := by
 unfold uV at hm
 refine BG 8 func153 rfl (fun b => sg (Wa (lS (Wm ?_))))
 obtain ⟨y, B, rfl⟩ := a.form
 refine V (Aq dO rfl rfl) (ln ?_)
 rcases y with _ | z
 ·have u := a.isNil
  replace hm : some [] = some r := by rw [u] at hm; simpa [nE, maxLen] using hm
  refine tg (rfl) (sg (Wa (lt (mV ?_))))
  obtain rfl := sj hm
  exact mS (v := (.slice none 0 0)) rfl rfl ⟨_, [], rfl, b.sU (fun p d => by cases d) (by simp), lD.nil _ _ _⟩
 ·refine qR (rfl) (kg (VE (lO (cs := #[]) b vm (Bp [] dO sizeOf5 zeroValue5 dc rfl (by simp) rfl rfl) (fun G k b => Wm (bS hm fun H t hm => VE (rM (enc := (mJ .u8)) (v := (.slice (some ⟨k, 0, none⟩) 0 0)) (vs := (.slice (some z) i.length B)) (R := [(k, Ob #[] 5)]) b (fun _ => rfl) dc (Gv _) dO tG.1 tG.2.1 rfl tG.2.2.1 tG.2.2.2 rfl rfl (lD.lit (l := []) (enc := (mJ .u8)) rfl dc rfl rfl) (a.mono (Pl.mono _) b.kV) t (fun D x j b c => Wa (lt ?_))))))))
  obtain rfl := sj hm
  exact mS (v := x) rfl rfl ⟨_, j, rfl, b.sU (fun p d => (Ml d)) c.nd, c⟩
theorem BC (g : Nat) (a : Value) (c r : List Int) (w : World) (j : Sl (Pl (mJ .u8)) 1 (hp w) a c) (k : At (hp w) (.pointer (some ⟨g, 0, none⟩)) [a]) (hm : uz c = some r) :
  pd true Tryz.prog 66 [(.pointer (some ⟨g, 0, none⟩))] w 5 (mJ .u8) 1 r := by
 refine BG 10 func66 rfl (fun b => sg (Wa (lS (Wm (V (xQ jh rfl rfl) (ln (qR rfl (nt ?_))))))))
 refine li (sg (Wm (Wn (VQ (uf [a] Bw rfl k rfl) (fun G u => V (kQ rfl (vv b.has (y := a) u isAgg54)) (bS hm fun H x hm => VE (zK b call153 (IF a c _ _ (j.mono (Pl.mono _) b.kV) x) (fun D z I t b B d i => Wa (lt ?_)))))))))
 obtain rfl := sj hm
 exact mS (v := z) rfl rfl ⟨_, t, rfl, b.sU (fun p h => (Ml h)) i.nd, i⟩
theorem AW (a : Formula) (g : Value) (r : List Int) (w : World) (c : Sl kL 5 (hp w) g a.Kids) (hm : tU a = some r) :
  pd false Tryz.prog 465 [(.agg #[(.int .i64 a.Op), (.int .i64 a.K), (.string a.kI.kK), (.string a.kI.kP), g])] w 5 (mJ .u8) 1 r := by
 refine BG 11 func465 rfl (fun d => sg ?_)
 obtain ⟨k, t, rfl⟩ := c.form
 refine VE (mx d rfl (fun W4 u d => Wa (lr (V (ns (v := (.agg #[(.slice none 0 0)])) vm (mP zeroValue92 jg (R7 _ jg) kr)) (VE (mx d rfl (fun W6 B d => Wa (lr (Wm (VA d (Mt Mh) (C2 a.Op a.K a.kI.kK a.kI.kP k a.Kids.length t) aS aC ?_))))))))))
 refine bS hm fun K D hm => ?_
 refine VE (eM d (Cb Pz (C0 Cn)) call469 (fun s m => (GW B (.slice none 0 0) ([]) [] a (.slice k a.Kids.length t) _ _ s (lD.nil _ _ _) (c.mono kT.mono m) D)) ?_)
 rintro _ U Y M d I n h ⟨H, N, i, rfl, y⟩
 obtain rfl := i.symm
 replace d := d.perm (Tb (Tr Tn))
 refine ln ?_
 replace d := d.kM (Kb (Kr (Db St)))
 refine sg (Wm (bS hm fun T x hm => VE (zK d call66 (pd.nB (BC B H K.2 _ _ (y.sl (fun _ => rfl) (fun b o l => d.at_ (Mt (Ml l)))) (At.of (d.at_ Mh) _ rfl) x)) (fun Q G Z z d J q j => Wa (ln ?_)))))
 replace d := d.kM (Kr (Db (Dr St)))
 refine ma ?_
 obtain rfl := sj hm
 exact mS (v := G) rfl rfl ⟨_, z, rfl, d.sU (fun p l => (Ml l)) j.nd, j⟩
theorem Q1 (w : World) {d g : Value} {a b : List Int} (h1 : Sl (Pl (mJ .u8)) 1 (hp w) d a) (h : Sl (Pl (mJ .u8)) 1 (hp w) g b) : (callFunc 369 [d, g].toArray).run Tryz.prog w = .ok (.value (.int .i64 (yM a b))) w := OX func369 (by kernel_rfl) (by kernel_rfl) (by kernel_rfl) (by kernel_rfl) h1 h
theorem Cf (a : Value) (g : List Int) (c : Value) (i : List Int) (r : Int) (w : World) (j : Sl (Pl (mJ .u8)) 1 (hp w) a g) (k : Sl (Pl (mJ .u8)) 1 (hp w) c i) (hm : xb g i = some r) :
  mi true Tryz.prog 323 [a, c] w (.int .i64 r) := by
 exact cG 8 func323 rfl (fun b => sg (Wa (lr (Wm (Wm (VE (Mo (args := [a, c]) (v := .int .i64 (yM g i)) rfl (by exact xR rfl rfl) (Q1 _ (j.mono (Pl.mono _) b.kV) (k.mono (Pl.mono _) b.kV)) (Wa (lt (rQ hm b))))))))))
theorem FA (a : Formula) (j : Value) (c : Formula) (k : Value) (r : Int) (w : World) (g : Sl kL 5 (hp w) j a.Kids) (i : Sl kL 5 (hp w) k c.Kids) (hm : tR a c = some r) :
  mi false Tryz.prog 458 [(.agg #[(.int .i64 a.Op), (.int .i64 a.K), (.string a.kI.kK), (.string a.kI.kP), j]), (.agg #[(.int .i64 c.Op), (.int .i64 c.K), (.string c.kI.kK), (.string c.kI.kP), k])] w (.int .i64 r) := by
 refine cG 10 func458 rfl (fun d => sg ?_)
 obtain ⟨x, z, rfl⟩ := g.form
 refine VE (mx d rfl (fun W4 q d => ?_))
 obtain ⟨y, B, rfl⟩ := i.form
 refine VE (mx d rfl (fun W8 s d => Wa (ln (lj ?_))))
 replace d := d.drew
 have h := d.has.kM (Kb (Kb Sn))
 refine mA h lL (XH 0 rfl h (fun _ l => kQ rfl (kX l (Mt Mh) (C2 a.Op a.K a.kI.kK a.kI.kP x a.Kids.length z) rfl aS aC)) (XH 2 rfl h (fun _ l => kQ rfl (kX l Mh (C2 c.Op c.K c.kI.kK c.kI.kP y c.Kids.length B) rfl aS aC)) (bS hm fun K H hm => XE 1 rfl (zK d call465 (AW a (.slice x a.Kids.length z) _ _ (g.mono kT.mono d.kV) H) (fun Y N a4 T d t n D => ?_)))))
 have h := d.has.sW t (Dr (Kb (Kb Sn)))
 refine ⟨h, (bS hm fun M I hm => XE 3 rfl (zK d call465 (AW c (.slice y c.Kids.length B) _ _ (i.mono kT.mono (t.trans d.kV)) I) (fun Z Q a5 U d u p G => ?_)))⟩
 have h := d.has.sW (t.trans u) (Dr (Dr (Kb (Kb Sn))))
 refine ⟨h, (bS hm fun a3 J hm => XE 4 rfl (Eg d call323 (mi.nB (Cf N K Q M _ _ (D.sl (fun _ => rfl) (fun b o m => d.at_ (Ma (Ml m)))) (G.sl (fun _ => rfl) (fun b o m => d.at_ (Ml m))) J)) (fun a2 d => ?_)))⟩
 have h := d.has.sW (t.trans u) (Dr (Dr (Kb (Kb Sn))))
 refine ⟨h, (X 5 rfl h (oM rfl) (mH kr (li ?_)))⟩
 exact ma (rQ hm d)
theorem Dg (g : Value) (k r : List Formula) (w : World) {G : lG} (Y : oW G [] w) (u : Sl kL 5 G g k) (hm : vN k = some r) :
  mE false Tryz.prog 436 [g] w G [] (fun v U μ1 => ∃ T I, v = T ∧ U = (I ++ []) ∧ lN 113 kL 5 μ1 T r I) := by
 refine vd Y 9 func436 rfl (fun b => sg (Wa (lr (Wm (bS hm fun Z Q hm => ?_)))))
 refine VE (eD b (bM _) call456 (fun h => mE.nB (CC g k _ _ h (u.mono kT.mono (lz.refl _)) Q)) ?_ (L0 := []))
 rintro _ v7 s L9 b y l ⟨i, H, a, rfl, B⟩
 obtain rfl := a.symm
 replace b := b.perm (Tr Tn)
 refine Wa (lr (Wm (bS hm fun a5 z hm => ?_)))
 refine VE (eD b (Cr Qz Cn) call457 (fun h => (yZ i Z H (.func (.func 458) #[] #[]) (fun (x : (Formula × Formula)) => tR x.1 x.2) _ _ h B ⟨458, #[], #[], rfl, call458, fun W x vs r E m hm => by obtain ⟨_, _, rfl, M, N⟩ := m; obtain ⟨q, rfl, p⟩ := M.out; obtain ⟨t0, rfl, n⟩ := N.out; exact FA x.1 q x.2 t0 r W p n hm⟩ z)) ?_)
 rintro _ t A a3 b j d ⟨J, c, rfl, D⟩
 obtain rfl := c.symm
 replace b := b.perm (Tr Tn)
 refine lr (Wm (Wa (lt ?_)))
 obtain rfl := sj hm
 exact mS (v := i) rfl rfl ⟨_, _, _, rfl, (b.ny (Kr Sn)), (y.trans j), (l.trans d), (ST.mf b (nL.mem (Kr Sn))), i, J, rfl, rfl, D⟩
theorem zY (g : Value) (a0 : List Formula) (x : LO) (Z : Value) (f1 : (Formula × Formula) → Option Bool) (r : List Formula) (w : World) {μ0 : lG} (h0 : oW μ0 (x ++ []) w) (B : lN 113 kL 5 μ0 g a0 x) (d2 : ye Tryz.prog Z μ0 (wj kL kL) (fun (r : Bool) => (.bool r)) f1) (hm : qt a0 f1 = some r) :
  mE false Tryz.prog 439 [g, Z] w μ0 (x ++ []) (fun v L1 μ1 => ∃ y1, v = y1 ∧ L1 = [] ∧ Sl kL 5 μ1 y1 (r)) := by
 refine vd h0 66 func439 rfl (fun d => sg (Wa (lS (Wm (V (vr aF rfl B) (Wi rfl (ln (CI hm rfl (fun i3 hm => ?_) (fun i3 hm => ?_)))))))))
 ·refine sg (Wm (Wa (lt (mV ?_))))
  obtain rfl := sj hm
  refine mS (v := g) rfl rfl ?_
  obtain ⟨a1, d, i2, A, j0⟩ := ST.xn kT d B
  exact ⟨_, _, _, rfl, (d.ny Sn), i2, A, (ST.mf d (nL.mem Sn)), g, rfl, rfl, j0⟩
 refine kS (Wa (ln (mR (oG (fun m E W => ∃ t b7, ST false (keys (x ++ [])) w W μ0 (x ++ b7) ∧ E 0 = g ∧ E 1 = Z ∧ E 5 = (.int .i64 t) ∧ nF a0 f1 m t = some r) lE ⟨1, _, (d.kM St), rfl, rfl, rfl, hm⟩ ?_))))
 rintro m E W ⟨t, b7, d, y, a3, G, a⟩
 cases m with
 | zero => rw [nF] at a; cases a
 | succ h1 =>
  refine lj (sg (Wh G (Wh y (V (vr aF rfl B) (Wi rfl (ln (CI a rfl (fun d3 a => ?_) (fun d3 a => ?_))))))))
  ·refine kn (lj (mR (lj ?_)))
   replace d := d.drew
   have h := d.has.kM (Kr Sn)
   refine mA h lL (X 0 rfl h (kZ a3) (X 1 rfl h (kZ y) (X 2 rfl h (kZ G) (bS a fun h7 R a => XQ 3 rfl h (mO (i := t) kL.out aF aC rfl rfl B (lK R) (lI R)) (fun k1 ⟨_, ⟨h3, rfl, e7⟩, e0, i4⟩ => XH 4 rfl h (fun _ q => kQ rfl (lR (oT.hp _) (e0.mono (nv (fun b o p => q.2 b o (Ml p)))) aS aC)) (X 5 rfl h (kZ y) (X 6 rfl h (kZ G) (X 7 rfl h (lW rfl rfl rfl) (bS a fun h8 b3 a => XQ 8 rfl h (mO (i := (IntKind.i64.wrap (t - 1))) kL.out aF aC rfl rfl B (lK b3) (lI b3)) (fun k2 ⟨_, ⟨h4, rfl, e8⟩, e1, i5⟩ => XH 9 rfl h (fun _ q => kQ rfl (lR (oT.hp _) (e1.mono (nv (fun b o p => q.2 b o (Ml p)))) aS aC)) (bS a fun k7 e5 a => XE 10 rfl (zl (h7, h8) d d2 (lz.refl _) (wj.mk kT kT (kL.mk ⟨h3, rfl, e7⟩) (kL.mk ⟨h4, rfl, e8⟩) d.kV) rfl (xR rfl rfl) e5 (fun j6 d => ?_)))))))))))))
   have h := d.has.kM (Kr Sn)
   refine ⟨h, (mH kr (li (CI a rfl (fun d4 a => ?_) (fun d4 a => ?_))))⟩
   ·refine sg (Wh y (Wh G (bS a fun _ F a => VQ (zk (i := t) aF aC rfl rfl B (wq F) (vZ F)) (fun c4 K => Wa (lS (Wa (ln ?_)))))))
    refine CJ a (fun T E W => ∃ a2 b9, ST false (keys (x ++ [])) w W μ0 (a2 ++ b9) ∧ E 0 = g ∧ E 5 = (.int .i64 T.2) ∧ lN 113 kL 5 μ0 g T.1 a2) (fun T d8 => ?_) ?_
    ·refine mR (oG (fun m E W => ∃ a5 J U u c0, ST false (keys (x ++ [])) w W μ0 (J ++ c0) ∧ E 0 = g ∧ E 1 = Z ∧ E 5 = (.int .i64 U) ∧ E 6 = c4 ∧ E 7 = (.int .i64 u) ∧ lN 113 kL 5 μ0 g a5 J ∧ nH t f1 m a5 U u = some T) lE ⟨a0, x, t, 1, _, (d.kM St), y, a3, G, rfl, rfl, B, d8⟩ ?_)
     rintro m E W ⟨a5, J, U, u, c0, d, N, a4, Q, H, I, k, j⟩
     cases m with
     | zero => rw [nH] at j; cases j
     | succ h2 =>
      refine lj (sg (Wh I (Wh H (V (L4 aF rfl K k) (Wi rfl (ln (CI j rfl (fun d5 j => ?_) (fun d5 j => ?_))))))))
      ·refine kn (lj (CJ j (fun s E W => ∃ M c1, ST false (keys (x ++ [])) w W μ0 (M ++ c1) ∧ E 0 = g ∧ E 1 = Z ∧ E 5 = (.int .i64 s.2) ∧ E 6 = c4 ∧ E 7 = (.int .i64 u) ∧ lN 113 kL 5 μ0 g s.1 M) (fun s c => ?_) ?_))
       ·refine mR (lj ?_)
        replace d := d.drew
        have h := d.has.kM (Kr Sn)
        refine mA h lL (X 0 rfl h (kZ a4) (X 1 rfl h (kZ H) (X 2 rfl h (kZ I) (bS c fun i0 b4 c => XQ 3 rfl h (BM (i := u) kL.out aF aC rfl rfl k K (lK b4) (lI b4)) (fun k3 ⟨_, ⟨h5, rfl, f4⟩, e2, i6⟩ => XH 4 rfl h (fun _ q => kQ rfl (lR (oT.hp _) (e2.mono (nv (fun b o p => q.2 b o (Ml p)))) aS aC)) (X 5 rfl h (kZ H) (X 6 rfl h (kZ I) (X 7 rfl h (lW rfl rfl rfl) (bS c fun i1 b5 c => XQ 8 rfl h (BM (i := (IntKind.i64.wrap (u - 1))) kL.out aF aC rfl rfl k K (lK b5) (lI b5)) (fun k4 ⟨_, ⟨h6, rfl, f5⟩, e3, i7⟩ => XH 9 rfl h (fun _ q => kQ rfl (lR (oT.hp _) (e3.mono (nv (fun b o p => q.2 b o (Ml p)))) aS aC)) (bS c fun k8 e6 c => XE 10 rfl (zl (i0, i1) d d2 (lz.refl _) (wj.mk kT kT (kL.mk ⟨h5, rfl, f4⟩) (kL.mk ⟨h6, rfl, f5⟩) d.kV) rfl (xR rfl rfl) e6 (fun j8 d => ?_)))))))))))))
        have h := d.has.kM (Kr Sn)
        refine ⟨h, (X 11 rfl h (qp rfl) (mH kr (li (CI c rfl (fun d6 c => ?_) (fun d6 c => ?_)))))⟩
        ·refine sg (Wh N (Wh Q (Wh H (Wh I (bS c fun c7 b6 c => VQ (BM (i := u) kL.out aF aC rfl rfl k K (lK b6) (lI b6)) (fun k5 ⟨_, ⟨l0, rfl, P⟩, e4, i8⟩ => V (kQ rfl (lR (oT.hp _) (e4.mono (nv (fun b o p => d.has.2 b o (Ml p)))) aS aC)) (bS c fun l2 Y c => VQ (mO (i := U) kL.out aF aC rfl rfl k (lK Y) (lI Y)) (fun k6 ⟨_, ⟨l1, rfl, j3⟩, i9, d7⟩ => ?_))))))))
         obtain ⟨f7, g0, rfl⟩ := P.form
         refine VO (rL (x1 := c7) kT d k rfl rfl (kL.mk ⟨(.slice f7 c7.Kids.length g0), rfl, P⟩) d7 (lI Y) aC (fun j9 f8 d d1 => ln (lh (Wh Q (Wi rfl (Wa (lY (me (li ?_)))))))))
         obtain rfl := sj c
         exact ⟨f8, _, (d.kM St), N, a4, rfl, H, I, d1⟩
        refine nt (me (li ?_))
        obtain rfl := sj c
        exact ⟨J, _, (d.kM St), N, a4, Q, H, I, k⟩
       rintro ⟨g9, h9⟩ E W ⟨M, c1, d, g1, g2, g3, g4, g7, f3⟩ d9
       exact lh (Wh g7 (Wi rfl (Wa (ln ⟨h2, bL _, g9, M, h9, (IntKind.i64.wrap (u + 1)), _, (d.kM St), g1, g2, g3, g4, rfl, f3, d9⟩))))
      refine og (nT (nT (su (li ?_))))
      obtain rfl := sj j
      exact ⟨J, _, (d.kM St), N, Q, k⟩
    rintro ⟨k0, c6⟩ E W ⟨a2, b9, d, c2, c3, O⟩ D
    refine sg (Wh c2 (Wh c3 (bS D fun _ L D => VQ (zk (i := c6) aF aC rfl rfl O (wq L) (vZ L)) (fun k9 e9 => VO (Bt (z := K9) (zs := C7) kT d O (kL.mk ⟨(.slice none 0 0), rfl, (Sl.nil _ _ _)⟩) aF bE e9 rfl rfl (fun j7 j5 d d0 => lr (Wh c2 (Wh c3 (bS D fun _ a9 D => VQ (DP (i := c6) aF aC rfl rfl d0 (wq a9) (vZ a9)) (fun c5 f0 => ?_))))))))))
    refine Wa (lt (qI (mV (mV (qI (mV ?_))))))
    obtain rfl := sj D
    refine mS (v := c5) rfl rfl ?_
    obtain ⟨l3, d, c8, l, f2⟩ := ST.xn kT d f0
    exact ⟨_, _, _, rfl, (d.ny Sn), c8, l, (ST.mf d (nL.mem Sn)), c5, rfl, rfl, f2⟩
   exact nt (me (li (lh (Wh G (Wi rfl (Wa (ln ⟨h1, bL _, (IntKind.i64.wrap (t + 1)), _, (d.kM St), y, a3, rfl, a⟩)))))))
  refine og (nT (nT (su (li (sg (Wh y (Wa (lt ?_))))))))
  obtain rfl := sj a
  refine mS (v := g) rfl rfl ?_
  obtain ⟨l4, d, c9, n, f6⟩ := ST.xn kT d B
  exact ⟨_, _, _, rfl, (d.ny Sn), c9, n, (ST.mf d (nL.mem Sn)), g, rfl, rfl, f6⟩
theorem rK (G : Value) (N : List Formula) (H : Value) (l : List Formula) (I : Value) (f2 : (Formula × Formula) → Option Bool) (r : Bool) (w : World) (x : Sl kL 5 (hp w) G N) (Q : Sl kL 5 (hp w) H l) (p : ye Tryz.prog I (hp w) (wj kL kL) (fun (r : Bool) => (.bool r)) f2) (hm : nG N l f2 = some r) :
  mi false Tryz.prog 459 [G, H, I] w (.bool r) := by
 refine cG 32 func459 rfl (fun b => sg (Wa (lS (Wm (V (nn aF rfl x) (Wm (V (nn aF rfl Q) (Wi rfl (lY ?_)))))))))
 refine li (CI hm rfl (fun s hm => ?_) (fun s hm => ?_))
 ·refine sg (Wa (lt (mV ?_)))
  obtain rfl := sj hm
  exact rP b
 refine kS (Wm (V (nn aF rfl x) (Wm (ln (nm (fun i E W => ∃ y, (E 17 = .int .i64 (i : Nat) ∧ E 16 = .int .i64 (N.length : Nat)) ∧ ST false nl w W (hp w) y ∧ E 1 = H ∧ E 2 = I ∧ E 15 = G ∧ mu l f2 (N.drop i) i = some r) N.length x.len ⟨_, ⟨rfl, rfl⟩, (b.kM St), rfl, rfl, rfl, hm⟩ dc dc dc (fun _ _ _ h => by obtain ⟨_, m, _⟩ := h; exact m) ?_ ?_)))))
 ·rintro a4 E W U ⟨y, ⟨d, n⟩, b, z, B, D, a⟩
  obtain ⟨g, c5, a9, q, a3⟩ := mT U
  rw [a9] at a
  refine bg (Wh d (VQ (nX (i := (a4 : Int)) (x0 := g) kL.out aF aC D d x (bA _) q) (fun b9 ⟨_, ⟨c2, rfl, J⟩, Y⟩ => V (kQ rfl (lR b.has Y aS aC)) (VE (lZ b bE (fun v P b => Wa ?_))))))
  obtain ⟨j, t, rfl⟩ := J.form
  let a0 := (C2 g.Op g.K g.kI.kK g.kI.kP j g.Kids.length t)
  refine VO (lA (.agg a0.toArray) (a0.toArray) b rfl rfl aC oc nb rfl (fun A b => lr (Wh z (Wm (bS a fun c M a => VQ (nX (i := (a4 : Int)) (x0 := c) kL.out aF aC rfl rfl Q (lK M) (lI M)) (fun c0 ⟨_, ⟨c3, rfl, K⟩, Z⟩ => V (kQ rfl (lR b.has Z aS aC)) (VE (lZ b bE (fun F R b => ?_)))))))))
  obtain ⟨k, u, rfl⟩ := K.form
  let a5 := (C2 c.Op c.K c.kI.kK c.kI.kP k c.Kids.length u)
  refine VO (lA (.agg a5.toArray) (a5.toArray) b rfl rfl aC oc nb rfl (fun L b => lr (Wh B (VA b (Mt Mh) a0 aS aC (VA b Mh a5 aS aC (bS a fun c1 a2 a => VE (zl (g, c) b p (lz.refl _) (wj.mk kT kT (kL.mk ⟨(.slice j g.Kids.length t), rfl, J⟩) (kL.mk ⟨(.slice k c.Kids.length u), rfl, K⟩) b.kV) rfl (xR rfl rfl) a2 (fun O b => V (qp rfl) (ln ?_)))))))))
  replace b := b.kM (Db (Db St))
  refine CI a rfl (fun T a => ?_) (fun T a => ?_)
  ·refine sg (Wa (lt (qI (mV (qI (mV ?_))))))
   obtain rfl := sj a
   exact rP b
  exact nt (me (li ⟨d, _, ⟨rfl, n⟩, (b.kM St), z, B, D, (by rw [a3]; exact a)⟩))
 rintro E W ⟨y, ⟨d, n⟩, b, z, B, D, a⟩
 rw [bD] at a
 exact li (sg (Wa (lt (rQ a b))))
theorem Es (M : Formula → Formula → Option Bool) (v : ∀ (a : Formula) (j : Value) (c : Formula) (k : Value) (r : Bool) (w : World) (u : Sl kL 5 (hp w) j a.Kids) (y : Sl kL 5 (hp w) k c.Kids), M a c = some r → mi false Tryz.prog 440 [(.agg #[(.int .i64 a.Op), (.int .i64 a.K), (.string a.kI.kK), (.string a.kI.kP), j]), (.agg #[(.int .i64 c.Op), (.int .i64 c.K), (.string c.kI.kK), (.string c.kI.kP), k])] w (.bool r)) (a : Formula) (j : Value) (c : Formula) (k : Value) (r : Bool) (w : World) (u : Sl kL 5 (hp w) j a.Kids) (y : Sl kL 5 (hp w) k c.Kids) (hm : wM M a c = some r) :
  mi false Tryz.prog 440 [(.agg #[(.int .i64 a.Op), (.int .i64 a.K), (.string a.kI.kK), (.string a.kI.kP), j]), (.agg #[(.int .i64 c.Op), (.int .i64 c.K), (.string c.kI.kK), (.string c.kI.kP), k])] w (.bool r) := by
 refine cG 31 func440 rfl (fun b => sg ?_)
 obtain ⟨N, Y, rfl⟩ := u.form
 let d := (C2 a.Op a.K a.kI.kK a.kI.kP N a.Kids.length Y)
 refine VE (mx b rfl (fun W4 T b => ?_))
 obtain ⟨Q, Z, rfl⟩ := y.form
 let a0 := (C2 c.Op c.K c.kI.kK c.kI.kP Q c.Kids.length Z)
 refine VE (mx b rfl (fun W8 U b => Wa (lr (Wf tD (VB b (Mt Mh) rfl rfl cV (Wf tD (VB b Mh rfl rfl cV (Wi rfl (Wm (LJ hm (fun a9 E W => ∃ a2, ST false nl w W (hp w) ((U, Ol a0 113) :: ((T, Ol d 113) :: a2)) ∧ E 2 = (.pointer (some ⟨T, 0, none⟩)) ∧ E 3 = (.pointer (some ⟨U, 0, none⟩)) ∧ E 4 = (.bool false) ∧ E 16 = (.bool a9)) 6 ?_ (fun a9 D I => ?_)))))))))))
 ·rintro d1 E W ⟨a2, b, J, K, a5, A⟩ n
  refine Wh A (LJ n (fun m E W => ∃ a3, ST false nl w W (hp w) ((U, Ol a0 113) :: ((T, Ol d 113) :: a3)) ∧ E 2 = (.pointer (some ⟨T, 0, none⟩)) ∧ E 3 = (.pointer (some ⟨U, 0, none⟩)) ∧ E 4 = (.bool false) ∧ E 23 = (.bool m)) 6 ?_ (fun m B H => ?_))
  ·rintro d2 E W ⟨a3, b, F, L, h, c1⟩ p
   refine Wh c1 (LJ p (fun l E W => ∃ a4, ST false nl w W (hp w) a4 ∧ E 4 = (.bool false) ∧ E 30 = (.bool l)) 6 ?_ (fun l z G => ?_))
   ·rintro d3 E W ⟨a4, b, c9, O⟩ q
    exact Wg O (lt (rQ q b))
   refine bC z (fun i z => ?_) (fun i z => ?_)
   ·refine ug i (lg se F) (ug i (kQ rfl (lB b.has (Mt Mh) rfl fR)) (ug i (lg se L) (ug i (kQ rfl (lB b.has Mh rfl fR)) (bS z fun d0 s z => zG i (Eg b call459 (rK (.slice N a.Kids.length Y) a.Kids (.slice Q c.Kids.length Z) c.Kids (.func (.func 440) #[] #[]) (fun (x : (Formula × Formula)) => M x.1 x.2) _ _ (u.mono kT.mono b.kV) (y.mono kT.mono b.kV) ⟨440, #[], #[], rfl, call440, fun W x vs r hs hR hm => by obtain ⟨_, _, rfl, P, R⟩ := hR; obtain ⟨u0, rfl, k0⟩ := P.out; obtain ⟨t0, rfl, j0⟩ := R.out; exact v x.1 u0 x.2 t0 r W k0 j0 hm⟩ s) (fun c8 b => V (mh (cB i) rfl) ?_))))))
    obtain rfl := sj z
    exact G _ _ ⟨_, (b.kM (Db (Db St))), h, rfl⟩
   refine un i (un i (un i (un i (un i (V (mg (cB i) rfl) ?_)))))
   obtain rfl := sj z
   exact G _ _ ⟨_, (b.kM (Db (Db St))), h, rfl⟩
  refine bC B (fun g B => ?_) (fun g B => ?_)
  ·refine ug g (lg xJ J) (ug g (kQ rfl (kX b.has (Mt Mh) (kW a.kI) rfl bY bG)) (ug g (lg xJ K) (ug g (kQ rfl (kX b.has Mh (kW c.kI) rfl bY bG)) (ug g (A6 rfl rfl (ue eqGuardType28) (xN (yB _ a.kI c.kI))) (V (mh (cB g) rfl) ?_)))))
   obtain rfl := sj B
   exact H _ _ ⟨_, (b.kM St), J, K, a5, rfl⟩
  refine un g (un g (un g (un g (un g (V (mg (cB g) rfl) ?_)))))
  obtain rfl := sj B
  exact H _ _ ⟨_, (b.kM St), J, K, a5, rfl⟩
 refine bC D (fun t D => ?_) (fun t D => ?_)
 ·refine ug t (lg xE rfl) (ug t (kQ rfl (lB b.has (Mt Mh) rfl cV)) (ug t (lg xE rfl) (ug t (kQ rfl (lB b.has Mh rfl cV)) (ug t (lW rfl rfl rfl) (V (mh (cB t) rfl) ?_)))))
  obtain rfl := sj D
  exact I _ _ ⟨_, (b.kM St), rfl, rfl, rfl, rfl⟩
 refine un t (un t (un t (un t (un t (V (mg (cB t) rfl) ?_)))))
 obtain rfl := sj D
 exact I _ _ ⟨_, (b.kM St), rfl, rfl, rfl, rfl⟩
theorem Dn : ∀ (n : Nat) (g : Formula) (a : Value) (i : Formula) (c : Value) (r : Bool) (w : World) (j : Sl kL 5 (hp w) a g.Kids) (k : Sl kL 5 (hp w) c i.Kids) (_ : oZ n g i = some r),
  mi false Tryz.prog 440 [(.agg #[(.int .i64 g.Op), (.int .i64 g.K), (.string g.kI.kK), (.string g.kI.kP), a]), (.agg #[(.int .i64 i.Op), (.int .i64 i.K), (.string i.kI.kK), (.string i.kI.kP), c])] w (.bool r)
 | 0 => by intros; rename_i h; simp only [oZ] at h; cases h
 | n + 1 => Es (oZ n) (Dn n)
end Go.Proofs.YtmlncblocfcmiaaGreat
