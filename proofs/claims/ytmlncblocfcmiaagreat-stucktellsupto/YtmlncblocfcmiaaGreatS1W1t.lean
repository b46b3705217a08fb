/- a part of a proof of StuckTells -/
import Derived.Test.YtmlncblocfcmiaaGreatS1Mt
import Derived.Test.YtmlncblocfcmiaaGreatProg
set_option linter.all false
namespace Go.Proofs.YtmlncblocfcmiaaGreat
open Go.RowKit
set_option maxRecDepth 10000
open Tryz
def aB := @sizeOf113
def aD := @underlying111
def aG := @isAgg113
def aI := @underlying22
def aJ := @sizeOf53
def aM := @zeroValue113
def aQ := @sizeOf28
def aX := @underlying113
def bG := @isAgg28
def bM := @isAgg53
def bV := @isAgg9
def bZ := @underlying9
def cC := @isAgg3
def cH := @zeroValue53
def cP := @underlying107
def cQ := @sizeOf116
def cU := @sizeOf138
def cW := @underlying54
def cX := @underlying68
def cZ := @underlying28
def dB := @isAgg111
def dE := @underlying108
def dP := @underlying82
def dS := @sizeOf110
def dX := @underlying53
def ei := @underlying110
def ep := @sizeOf38
def er := @isAgg116
def eu := @sizeOf263
def eA := @eqGuardType28
def eB := @isAgg110
def eH := @zeroValue28
def eL := @underlying116
def eP := @zeroValue138
def eQ := @underlying34
def eS := @underlying3
def fh := @underlying294
def fi := @eqGuardType53
def fj := @underlying290
def fA := @underlying38
def fB := @zeroValue38
def fC := @zeroValue116
def fD := @underlying353
def fG := @sizeOf9
def fK := @isAgg107
def fN := @zeroValue296
def fS := @underlying138
def fT := @underlying296
def gf := @underlying5
def gI := @underlying92
def gJ := @underlying90
def gK := @isAgg138
def gL := @zeroValue263
def ic := @isAgg290
def iy := @underlying56
def iz := @isAgg38
def iA := @zeroValue110
def iO := @underlying376
def iP := @underlying415
def iQ := @underlying246
def iW := @sizeOf56
def iX := @isAgg263
def ja := @sizeOf3
def jb := @zeroValue5
def jc := @zeroValue4
def jd := @underlying50
def ji := @sizeOf54
def jj := @zeroValue56
def jk := @zeroValue22
def jm := @call254
def jo := @isAgg22
abbrev K0 : jq := ⟨zS, zS⟩
abbrev K1 : ByteArray := ⟨#[120]⟩
abbrev K2 : ByteArray := ⟨#[99, 108, 105]⟩
abbrev K3 : ByteArray := ⟨#[121]⟩
abbrev K4 : ByteArray := ⟨#[111, 119, 110]⟩
abbrev K5 : ByteArray := ⟨#[122]⟩
abbrev K6 : kC := ⟨0⟩
abbrev K7 : jq := ⟨K1, K3⟩
abbrev K9 : jq := ⟨K1, K5⟩
abbrev Qt : jr := ⟨0, K0, zS, K0, K0, zS⟩
abbrev Dd : jr := ⟨1, K7, K2, K0, K0, zS⟩
abbrev IH : jr := ⟨1, K9, K4, K0, K0, zS⟩
abbrev C1 (a b : Int) (d g : ByteArray) (h : Option Addr) (i j : Nat) : List Value := [(.int .i64 a), (.int .i64 b), (.string d), (.string g), (.slice h i j)]
abbrev C2 (y : ByteArray) (z : Option Addr) (A D : Nat) (E : Option Addr) (F G : Nat) (I : ByteArray) (J : Option Addr) (L a : Nat) (b : Option Addr) (d g : Nat) (h i : Int) (j k : ByteArray) (l : Option Addr) (m n : Nat) (p q r s t u : Int) (v : Option Addr) (w x : Nat) : List Value := [(.string y), (.slice z A D), (.slice E F G), (.string I), (.slice J L a), (.slice b d g), (.int .i64 h), (.int .i64 i), (.string j), (.string k), (.slice l m n), (.int .i64 p), (.int .i64 q), (.int .i64 r), (.int .i64 s), (.int .i64 t), (.int .i64 u), (.slice v w x)]
abbrev C3 (m : Int) (n p q r s t u v : ByteArray) (w : Option Addr) (a b : Nat) (d g : Int) (h i : ByteArray) (j : Option Addr) (k l : Nat) : List Value := [(.int .i64 m), (.string n), (.string p), (.string q), (.string r), (.string s), (.string t), (.string u), (.string v), (.slice w a b), (.int .i64 d), (.int .i64 g), (.string h), (.string i), (.slice j k l)]
abbrev C4 : List Value := [(.int .i64 0), (.int .i64 0), (.string zS), (.string zS), (.slice none 0 0)]
abbrev C5 (a : ByteArray) (b : Option Addr) (d g : Nat) (h : Option Addr) (i j : Nat) : List Value := [(.string a), (.slice b d g), (.slice h i j)]
abbrev C6 (d : Int) (g h i j k l m n : ByteArray) (p : Option Addr) (a b : Nat) : List Value := [(.int .i64 d), (.string g), (.string h), (.string i), (.string j), (.string k), (.string l), (.string m), (.string n), (.slice p a b)]
abbrev C7 (d g : ByteArray) (h i : Int) (j k : ByteArray) (l : Option Addr) (m n : Nat) (p : Option Addr) (a b : Nat) : List Value := [(.string d), (.string g), (.int .i64 h), (.int .i64 i), (.string j), (.string k), (.slice l m n), (.slice p a b)]
abbrev C8 (h : Int) (i j k l m n p q : ByteArray) (r : Option Addr) (a b : Nat) (d g : ByteArray) : List Value := [(.int .i64 h), (.string i), (.string j), (.string k), (.string l), (.string m), (.string n), (.string p), (.string q), (.slice r a b), (.int .i64 1), (.int .i64 0), (.string d), (.string g), (.slice none 0 0)]
abbrev C9 : List Value := [(.int .i64 0), (.string (K0.js)), (.string (K0.jy)), (.string zS), (.string (K0.js)), (.string (K0.jy)), (.string (K0.js)), (.string (K0.jy)), (.string zS), (.slice none 0 0), (.int .i64 0), (.int .i64 0), (.string zS), (.string zS), (.slice none 0 0)]
abbrev FK (a : Int) : List Value := [(.int .i64 a), (.int .i64 0), (.string zS), (.string zS), (.slice none 0 0)]
abbrev Bj : List Value := [(.int .i64 2), (.int .i64 0), (.string zS), (.string zS), (.slice none 0 0)]
abbrev QF (a : Option Addr) (b d : Nat) (g : Option Addr) (h i : Nat) : List Value := [(.string K4), (.slice a b d), (.slice none 0 0), (.string K2), (.slice g h i), (.slice none 0 0), (.int .i64 0), (.int .i64 0), (.string zS), (.string zS), (.slice none 0 0), (.int .i64 0), (.int .i64 0), (.int .i64 0), (.int .i64 0), (.int .i64 0), (.int .i64 0), (.slice none 0 0)]
abbrev Rt (a : Int) (b : Option Addr) (d g : Nat) : List Value := [(.int .i64 a), (.int .i64 0), (.string zS), (.string zS), (.slice b d g)]
abbrev Rq (a : Int) (b : Option Addr) (d g : Nat) : List Value := [(.int .i64 4), (.int .i64 a), (.string zS), (.string zS), (.slice b d g)]
abbrev E6 : List Value := [(.int .i64 3), (.int .i64 0), (.string zS), (.string zS), (.slice none 0 0)]
theorem kw : Tryz.prog.follows .mixedOrders = true := by rfl
theorem se : Tryz.prog.info? 5 = some Tryz.t5 ∧ Tryz.t5.zero = some (.int .u8 0) ∧ Tryz.t5.size = 1 ∧ Tryz.t5.bytes = 1 := ⟨by kernel_rfl, by kernel_rfl, by kernel_rfl, by kernel_rfl⟩
theorem Ba : Tryz.prog.info? 9 = some Tryz.t9 ∧ Tryz.t9.zero = some (.string ⟨#[]⟩) ∧ Tryz.t9.size = 1 ∧ Tryz.t9.bytes = 16 := ⟨by kernel_rfl, by kernel_rfl, by kernel_rfl, by kernel_rfl⟩
theorem vH : Tryz.prog.info? 28 = some Tryz.t28 ∧ Tryz.t28.zero = some (.agg #[(.string ⟨#[]⟩), (.string ⟨#[]⟩)]) ∧ Tryz.t28.size = 2 ∧ Tryz.t28.bytes = 32 := ⟨by kernel_rfl, by kernel_rfl, by kernel_rfl, by kernel_rfl⟩
theorem vq : Tryz.prog.info? 38 = some Tryz.t38 ∧ Tryz.t38.zero = some (.agg #[(.string ⟨#[]⟩), (.string ⟨#[]⟩), (.string ⟨#[]⟩)]) ∧ Tryz.t38.size = 3 ∧ Tryz.t38.bytes = 48 := ⟨by kernel_rfl, by kernel_rfl, by kernel_rfl, by kernel_rfl⟩
theorem mh : Tryz.prog.info? 53 = some Tryz.t53 ∧ Tryz.t53.zero = some (.agg #[(.int .i64 0), (.string ⟨#[]⟩), (.string ⟨#[]⟩), (.string ⟨#[]⟩), (.string ⟨#[]⟩), (.string ⟨#[]⟩), (.string ⟨#[]⟩), (.string ⟨#[]⟩), (.string ⟨#[]⟩)]) ∧ Tryz.t53.size = 9 ∧ Tryz.t53.bytes = 136 := ⟨by kernel_rfl, by kernel_rfl, by kernel_rfl, by kernel_rfl⟩
theorem lh : Tryz.prog.info? 113 = some Tryz.t113 ∧ Tryz.t113.zero = some (.agg #[(.int .i64 0), (.int .i64 0), (.string ⟨#[]⟩), (.string ⟨#[]⟩), (.slice none 0 0)]) ∧ Tryz.t113.size = 5 ∧ Tryz.t113.bytes = 72 := ⟨by kernel_rfl, by kernel_rfl, by kernel_rfl, by kernel_rfl⟩
theorem Ev : Tryz.prog.info? 138 = some Tryz.t138 ∧ Tryz.t138.zero = some (.agg #[(.int .i64 0), (.string ⟨#[]⟩), (.string ⟨#[]⟩), (.string ⟨#[]⟩), (.string ⟨#[]⟩), (.string ⟨#[]⟩), (.string ⟨#[]⟩), (.string ⟨#[]⟩), (.string ⟨#[]⟩), (.slice none 0 0), (.int .i64 0), (.int .i64 0), (.string ⟨#[]⟩), (.string ⟨#[]⟩), (.slice none 0 0)]) ∧ Tryz.t138.size = 15 ∧ Tryz.t138.bytes = 232 := ⟨by kernel_rfl, by kernel_rfl, by kernel_rfl, by kernel_rfl⟩
theorem Ep : Tryz.prog.info? 263 = some Tryz.t263 ∧ Tryz.t263.zero = some (.agg #[(.string ⟨#[]⟩), (.string ⟨#[]⟩), (.int .i64 0), (.int .i64 0), (.string ⟨#[]⟩), (.string ⟨#[]⟩), (.slice none 0 0), (.slice none 0 0)]) ∧ Tryz.t263.size = 8 ∧ Tryz.t263.bytes = 128 := ⟨by kernel_rfl, by kernel_rfl, by kernel_rfl, by kernel_rfl⟩
theorem oQ : lI Tryz.prog 28 0 0 := kL cZ rfl fG (by decide) rfl
theorem uj : lI Tryz.prog 28 1 1 := kL cZ rfl fG (by decide) rfl
theorem Ng : (Tryz.prog.fieldsOf 28).toList = (match Tryz.prog.underlying 28 with | some (.struct fs) => fs.toList | _ => []) := by rw [cZ]; simp [Program.fieldsOf, cZ]
theorem po (d : Nat) (x y : jq) (W : World) : (Op.equalIn (d + 2) 28 (.agg (jA x).toArray) (.agg (jA y).toArray)).run Tryz.prog W = .ok (jP x y) W := by
 rw [run_equalIn_struct W (d + 1) 28 _ _ (by kernel_rfl) Tryz.stoodInHeld28, Ng, cZ]
 exact (qQ (by decide) (sF bV rfl) (sF bV rfl) (On bZ _ _ _ _) (qQ (by decide) (sF bV rfl) (sF bV rfl) (On bZ _ _ _ _) (DE _ _ _)))
theorem G7 : ∀ fs, Tryz.prog.underlying 28 = some (.struct fs) → ∀ w, (fs.mapM (fun (f : Field) => do pure (f.offset, ← sizeOf f.type)) : Sem (Array (Nat × Nat))).run Tryz.prog w = .ok #[(0, 1), (1, 1)] w := by
 intro fs h w
 rw [cZ] at h
 cases h
 kernel_rfl
theorem qj : lI Tryz.prog 53 0 0 := kL dX rfl ja (by decide) rfl
theorem qf : lI Tryz.prog 53 1 1 := kL dX rfl aQ (by decide) rfl
theorem wm : lI Tryz.prog 53 2 3 := kL dX rfl fG (by decide) rfl
theorem nz : lI Tryz.prog 53 3 4 := kL dX rfl aQ (by decide) rfl
theorem rR : lI Tryz.prog 53 4 6 := kL dX rfl aQ (by decide) rfl
theorem uf : lI Tryz.prog 53 5 8 := kL dX rfl fG (by decide) rfl
theorem ND : (Tryz.prog.fieldsOf 53).toList = (match Tryz.prog.underlying 53 with | some (.struct fs) => fs.toList | _ => []) := by rw [dX]; simp [Program.fieldsOf, dX]
theorem vh (d : Nat) (x y : jr) (W : World) : (Op.equalIn (d + 3) 53 (.agg (jv x).toArray) (.agg (jv y).toArray)).run Tryz.prog W = .ok (kh x y) W := by
 rw [run_equalIn_struct W (d + 2) 53 _ _ (by kernel_rfl) Tryz.stoodInHeld53, ND, dX]
 exact (qQ (by decide) (sF cC rfl) (sF cC rfl) (Se eS _ _ _ _) (qQ (by decide) (yP bG aQ rfl) (yP bG aQ rfl) (po _ x.Head y.Head W) (qQ (by decide) (sF bV rfl) (sF bV rfl) (On bZ _ _ _ _) (qQ (by decide) (yP bG aQ rfl) (yP bG aQ rfl) (po _ x.B y.B W) (qQ (by decide) (yP bG aQ rfl) (yP bG aQ rfl) (po _ x.C y.C W) (qQ (by decide) (sF bV rfl) (sF bV rfl) (On bZ _ _ _ _) (DE _ _ _)))))))
theorem NL : ∀ fs, Tryz.prog.underlying 53 = some (.struct fs) → ∀ w, (fs.mapM (fun (f : Field) => do pure (f.offset, ← sizeOf f.type)) : Sem (Array (Nat × Nat))).run Tryz.prog w = .ok #[(0, 1), (1, 2), (3, 1), (4, 2), (6, 2), (8, 1)] w := by
 intro fs h w
 rw [dX] at h
 cases h
 kernel_rfl
theorem yD : lI Tryz.prog 38 0 0 := kL fA rfl aQ (by decide) rfl
theorem xq : lI Tryz.prog 38 1 2 := kL fA rfl fG (by decide) rfl
theorem NW : ∀ fs, Tryz.prog.underlying 38 = some (.struct fs) → ∀ w, (fs.mapM (fun (f : Field) => do pure (f.offset, ← sizeOf f.type)) : Sem (Array (Nat × Nat))).run Tryz.prog w = .ok #[(0, 2), (2, 1)] w := by
 intro fs h w
 rw [fA] at h
 cases h
 kernel_rfl
theorem KA : lI Tryz.prog 376 0 0 := kL iO rfl sizeOf57 (by decide) rfl
theorem Q8 : ∀ fs, Tryz.prog.underlying 376 = some (.struct fs) → ∀ w, (fs.mapM (fun (f : Field) => do pure (f.offset, ← sizeOf f.type)) : Sem (Array (Nat × Nat))).run Tryz.prog w = .ok #[(0, 1)] w := by
 intro fs h w
 rw [iO] at h
 cases h
 kernel_rfl
theorem Ho : lI Tryz.prog 415 0 0 := kL iP rfl sizeOf4 (by decide) rfl
theorem QM : ∀ fs, Tryz.prog.underlying 415 = some (.struct fs) → ∀ w, (fs.mapM (fun (f : Field) => do pure (f.offset, ← sizeOf f.type)) : Sem (Array (Nat × Nat))).run Tryz.prog w = .ok #[(0, 1)] w := by
 intro fs h w
 rw [iP] at h
 cases h
 kernel_rfl
theorem Pc : lI Tryz.prog 196 0 0 := kL underlying196 rfl fG (by decide) rfl
theorem Pn : lI Tryz.prog 196 1 1 := kL underlying196 rfl ji (by decide) rfl
theorem xj : lI Tryz.prog 56 0 0 := kL iy rfl aJ (by decide) rfl
theorem Qw : lI Tryz.prog 56 1 9 := kL iy rfl ji (by decide) rfl
theorem RU : ∀ fs, Tryz.prog.underlying 56 = some (.struct fs) → ∀ w, (fs.mapM (fun (f : Field) => do pure (f.offset, ← sizeOf f.type)) : Sem (Array (Nat × Nat))).run Tryz.prog w = .ok #[(0, 9), (9, 1)] w := by
 intro fs h w
 rw [iy] at h
 cases h
 kernel_rfl
theorem AF : lI Tryz.prog 92 0 0 := kL gI rfl ji (by decide) rfl
theorem Qi : ∀ fs, Tryz.prog.underlying 92 = some (.struct fs) → ∀ w, (fs.mapM (fun (f : Field) => do pure (f.offset, ← sizeOf f.type)) : Sem (Array (Nat × Nat))).run Tryz.prog w = .ok #[(0, 1)] w := by
 intro fs h w
 rw [gI] at h
 cases h
 kernel_rfl
theorem mN : lI Tryz.prog 113 0 0 := kL aX rfl ja (by decide) rfl
theorem pA : lI Tryz.prog 113 1 1 := kL aX rfl ja (by decide) rfl
theorem rB : lI Tryz.prog 113 2 2 := kL aX rfl aQ (by decide) rfl
theorem mO : lI Tryz.prog 113 3 4 := kL aX rfl sizeOf111 (by decide) rfl
theorem qm : ∀ fs, Tryz.prog.underlying 113 = some (.struct fs) → ∀ w, (fs.mapM (fun (f : Field) => do pure (f.offset, ← sizeOf f.type)) : Sem (Array (Nat × Nat))).run Tryz.prog w = .ok #[(0, 1), (1, 1), (2, 2), (4, 1)] w := by
 intro fs h w
 rw [aX] at h
 cases h
 kernel_rfl
theorem vI : lI Tryz.prog 138 0 0 := kL fS rfl iW (by decide) rfl
theorem BO : lI Tryz.prog 138 1 10 := kL fS rfl aB (by decide) rfl
theorem Of : ∀ fs, Tryz.prog.underlying 138 = some (.struct fs) → ∀ w, (fs.mapM (fun (f : Field) => do pure (f.offset, ← sizeOf f.type)) : Sem (Array (Nat × Nat))).run Tryz.prog w = .ok #[(0, 10), (10, 5)] w := by
 intro fs h w
 rw [fS] at h
 cases h
 kernel_rfl
theorem Kn : lI Tryz.prog 263 0 0 := kL underlying263 rfl aQ (by decide) rfl
theorem GV : lI Tryz.prog 263 1 2 := kL underlying263 rfl aB (by decide) rfl
theorem GZ : lI Tryz.prog 263 2 7 := kL underlying263 rfl sizeOf22 (by decide) rfl
theorem wT : lI Tryz.prog 110 0 0 := kL ei rfl fG (by decide) rfl
theorem qM : lI Tryz.prog 110 1 1 := kL ei rfl sizeOf107 (by decide) rfl
theorem GQ : lI Tryz.prog 110 2 2 := kL ei rfl sizeOf108 (by decide) rfl
theorem FN : ∀ fs, Tryz.prog.underlying 110 = some (.struct fs) → ∀ w, (fs.mapM (fun (f : Field) => do pure (f.offset, ← sizeOf f.type)) : Sem (Array (Nat × Nat))).run Tryz.prog w = .ok #[(0, 1), (1, 1), (2, 1)] w := by
 intro fs h w
 rw [ei] at h
 cases h
 kernel_rfl
theorem vO : lI Tryz.prog 116 0 0 := kL eL rfl dS (by decide) rfl
theorem vM : lI Tryz.prog 116 1 3 := kL eL rfl dS (by decide) rfl
theorem OK : lI Tryz.prog 116 2 6 := kL eL rfl aB (by decide) rfl
theorem OR : lI Tryz.prog 116 8 17 := kL eL rfl sizeOf49 (by decide) rfl
theorem KE : ∀ fs, Tryz.prog.underlying 116 = some (.struct fs) → ∀ w, (fs.mapM (fun (f : Field) => do pure (f.offset, ← sizeOf f.type)) : Sem (Array (Nat × Nat))).run Tryz.prog w = .ok #[(0, 3), (3, 3), (6, 5), (11, 1), (12, 2), (14, 1), (15, 1), (16, 1), (17, 1)] w := by
 intro fs h w
 rw [eL] at h
 cases h
 kernel_rfl
theorem wU : lI Tryz.prog 294 0 0 := kL fh rfl sizeOf290 (by decide) rfl
theorem G0 : lI Tryz.prog 294 1 1 := kL fh rfl sizeOf22 (by decide) rfl
theorem J3 : lI Tryz.prog 294 2 2 := kL fh rfl sizeOf291 (by decide) rfl
theorem Hn : lI Tryz.prog 294 3 3 := kL fh rfl sizeOf292 (by decide) rfl
theorem Au : lI Tryz.prog 294 4 4 := kL fh rfl sizeOf68 (by decide) rfl
theorem Ew : lI Tryz.prog 294 5 5 := kL fh rfl ja (by decide) rfl
theorem Rg : ∀ fs, Tryz.prog.underlying 294 = some (.struct fs) → ∀ w, (fs.mapM (fun (f : Field) => do pure (f.offset, ← sizeOf f.type)) : Sem (Array (Nat × Nat))).run Tryz.prog w = .ok #[(0, 1), (1, 1), (2, 1), (3, 1), (4, 1), (5, 1)] w := by
 intro fs h w
 rw [fh] at h
 cases h
 kernel_rfl
def qa : pE Key := fun μ ys x => ∃ (v0 : Value), ys = [.string x.ky, v0] ∧ Sl (Pl (lu .u8)) 1 μ v0 x.Key
theorem qa.out {μ : kl} {ys : List Value} {x : Key} (h : qa μ ys x) : ∃ (v0 : Value), ys = [.string x.ky, v0] ∧ Sl (Pl (lu .u8)) 1 μ v0 x.Key := h
theorem qa.mk {μ : kl} {ys : List Value} {x : Key} (h : ∃ (v0 : Value), ys = [.string x.ky, v0] ∧ Sl (Pl (lu .u8)) 1 μ v0 x.Key) : qa μ ys x := h
theorem vT : Deep qa 2 where
 mono := by rintro _ _ _ _ b ⟨v0, rfl, a⟩; exact ⟨v0, rfl, a.mono (Pl.mono _) b⟩
 len := by rintro _ _ _ ⟨v0, rfl, a⟩; rfl
 one := by
  rintro _ _ _ ⟨v0, rfl, a⟩
  intro u hu; simp only [aR, dR, gd] at hu; rcases hu with rfl | rfl
  ·rfl
  ·exact a.Ac
def ta : pE Signed := fun μ ys x => ∃ (v0 : Value), ys = [.int .i64 x.jr.Kind, .string x.jr.Head.js, .string x.jr.Head.jy, .string x.jr.ky, .string x.jr.B.js, .string x.jr.B.jy, .string x.jr.C.js, .string x.jr.C.jy, .string x.jr.kF, v0] ∧ Sl (Pl (lu .u8)) 1 μ v0 x.Tag
theorem ta.out {μ : kl} {ys : List Value} {x : Signed} (h : ta μ ys x) : ∃ (v0 : Value), ys = [.int .i64 x.jr.Kind, .string x.jr.Head.js, .string x.jr.Head.jy, .string x.jr.ky, .string x.jr.B.js, .string x.jr.B.jy, .string x.jr.C.js, .string x.jr.C.jy, .string x.jr.kF, v0] ∧ Sl (Pl (lu .u8)) 1 μ v0 x.Tag := h
theorem ta.mk {μ : kl} {ys : List Value} {x : Signed} (h : ∃ (v0 : Value), ys = [.int .i64 x.jr.Kind, .string x.jr.Head.js, .string x.jr.Head.jy, .string x.jr.ky, .string x.jr.B.js, .string x.jr.B.jy, .string x.jr.C.js, .string x.jr.C.jy, .string x.jr.kF, v0] ∧ Sl (Pl (lu .u8)) 1 μ v0 x.Tag) : ta μ ys x := h
theorem Ap : Deep ta 10 where
 mono := by rintro _ _ _ _ b ⟨v0, rfl, a⟩; exact ⟨v0, rfl, a.mono (Pl.mono _) b⟩
 len := by rintro _ _ _ ⟨v0, rfl, a⟩; rfl
 one := by
  rintro _ _ _ ⟨v0, rfl, a⟩
  intro u hu; simp only [aR, dR, gd] at hu; rcases hu with rfl | rfl | rfl | rfl | rfl | rfl | rfl | rfl | rfl | rfl
  ·rfl
  ·rfl
  ·rfl
  ·rfl
  ·rfl
  ·rfl
  ·rfl
  ·rfl
  ·rfl
  ·exact a.Ac
def xm : Nat → pE Formula
 | 0 => fun _ _ _ => False
 | n + 1 => fun μ ys x => ∃ (v0 : Value), ys = [.int .i64 x.Op, .int .i64 x.K, .string x.jq.js, .string x.jq.jy, v0] ∧ Sl (xm n) 5 μ v0 x.Kids
def jt : pE Formula := fun μ ys x => ∃ n, xm n μ ys x
theorem DN : ∀ n, Il (xm n)
 | 0 => fun _ _ _ _ _ h => h
 | n + 1 => by rintro _ _ _ _ b ⟨v0, rfl, a⟩; exact ⟨v0, rfl, a.mono (DN n) b⟩
theorem GC : ∀ n m (μ : kl) (ys : List Value) (x : Formula), n ≤ m → xm n μ ys x → xm m μ ys x
 | 0, _, _, _, _, _, h => h.elim
 | n + 1, 0, _, _, _, a, _ => absurd a (by omega)
 | n + 1, m + 1, μ, ys, x, a, h => by
  obtain ⟨v0, rfl, b⟩ := h
  exact ⟨v0, rfl, b.imp fun ys x h => GC n m μ ys x (by omega) h⟩
theorem jt.out {μ : kl} {ys : List Value} {x : Formula} (h : jt μ ys x) : ∃ (v0 : Value), ys = [.int .i64 x.Op, .int .i64 x.K, .string x.jq.js, .string x.jq.jy, v0] ∧ Sl jt 5 μ v0 x.Kids := by
 obtain ⟨n, h⟩ := h
 cases n with
 | zero => exact h.elim
 | succ n =>
  obtain ⟨v0, rfl, a⟩ := h
  exact ⟨v0, rfl, a.imp fun ys x h => ⟨n, h⟩⟩
theorem jt.mk {μ : kl} {ys : List Value} {x : Formula} (h : ∃ (v0 : Value), ys = [.int .i64 x.Op, .int .i64 x.K, .string x.jq.js, .string x.jq.jy, v0] ∧ Sl jt 5 μ v0 x.Kids) : jt μ ys x := by
 obtain ⟨v0, rfl, d⟩ := h
 obtain ⟨n, i⟩ := d.QS (fun _ _ h => h) (fun a b ys x g h => GC a b _ ys x g h)
 exact ⟨n + 1, v0, rfl, i⟩
theorem jB : Deep jt 5 where
 mono := fun _ _ _ _ b ⟨n, h⟩ => ⟨n, DN n _ _ _ _ b h⟩
 len := by rintro _ _ _ h; obtain ⟨v0, rfl, a⟩ := h.out; rfl
 one := by
  rintro _ _ _ h
  obtain ⟨v0, rfl, a⟩ := h.out
  intro u hu; simp only [aR, dR, gd] at hu; rcases hu with rfl | rfl | rfl | rfl | rfl
  ·rfl
  ·rfl
  ·rfl
  ·rfl
  ·exact a.Ac
def kc : pE kz := fun μ ys x => ∃ (v0 : Value) (v1 : Value), ys = [.int .i64 x.Signed.jr.Kind, .string x.Signed.jr.Head.js, .string x.Signed.jr.Head.jy, .string x.Signed.jr.ky, .string x.Signed.jr.B.js, .string x.Signed.jr.B.jy, .string x.Signed.jr.C.js, .string x.Signed.jr.C.jy, .string x.Signed.jr.kF, v0, .int .i64 x.jx.Op, .int .i64 x.jx.K, .string x.jx.jq.js, .string x.jx.jq.jy, v1] ∧ Sl (Pl (lu .u8)) 1 μ v0 x.Signed.Tag ∧ Sl jt 5 μ v1 x.jx.Kids
theorem kc.out {μ : kl} {ys : List Value} {x : kz} (h : kc μ ys x) : ∃ (v0 : Value) (v1 : Value), ys = [.int .i64 x.Signed.jr.Kind, .string x.Signed.jr.Head.js, .string x.Signed.jr.Head.jy, .string x.Signed.jr.ky, .string x.Signed.jr.B.js, .string x.Signed.jr.B.jy, .string x.Signed.jr.C.js, .string x.Signed.jr.C.jy, .string x.Signed.jr.kF, v0, .int .i64 x.jx.Op, .int .i64 x.jx.K, .string x.jx.jq.js, .string x.jx.jq.jy, v1] ∧ Sl (Pl (lu .u8)) 1 μ v0 x.Signed.Tag ∧ Sl jt 5 μ v1 x.jx.Kids := h
theorem kc.mk {μ : kl} {ys : List Value} {x : kz} (h : ∃ (v0 : Value) (v1 : Value), ys = [.int .i64 x.Signed.jr.Kind, .string x.Signed.jr.Head.js, .string x.Signed.jr.Head.jy, .string x.Signed.jr.ky, .string x.Signed.jr.B.js, .string x.Signed.jr.B.jy, .string x.Signed.jr.C.js, .string x.Signed.jr.C.jy, .string x.Signed.jr.kF, v0, .int .i64 x.jx.Op, .int .i64 x.jx.K, .string x.jx.jq.js, .string x.jx.jq.jy, v1] ∧ Sl (Pl (lu .u8)) 1 μ v0 x.Signed.Tag ∧ Sl jt 5 μ v1 x.jx.Kids) : kc μ ys x := h
theorem jZ : Deep kc 15 where
 mono := by rintro _ _ _ _ b ⟨v0, v1, rfl, a, h1⟩; exact ⟨v0, v1, rfl, a.mono (Pl.mono _) b, h1.mono jB.mono b⟩
 len := by rintro _ _ _ ⟨v0, v1, rfl, a, h1⟩; rfl
 one := by
  rintro _ _ _ ⟨v0, v1, rfl, a, h1⟩
  intro u hu; simp only [aR, dR, gd] at hu; rcases hu with rfl | rfl | rfl | rfl | rfl | rfl | rfl | rfl | rfl | rfl | rfl | rfl | rfl | rfl | rfl
  ·rfl
  ·rfl
  ·rfl
  ·rfl
  ·rfl
  ·rfl
  ·rfl
  ·rfl
  ·rfl
  ·exact a.Ac
  ·rfl
  ·rfl
  ·rfl
  ·rfl
  ·exact h1.Ac
def kX : pE oe := fun μ ys x => ∃ (v0 : Value) (v1 : Value), ys = [.string x.jq.js, .string x.jq.jy, .int .i64 x.jx.Op, .int .i64 x.jx.K, .string x.jx.jq.js, .string x.jx.jq.jy, v0, v1] ∧ Sl jt 5 μ v0 x.jx.Kids ∧ Sl (Pl jv) 9 μ v1 x.ms
theorem kX.out {μ : kl} {ys : List Value} {x : oe} (h : kX μ ys x) : ∃ (v0 : Value) (v1 : Value), ys = [.string x.jq.js, .string x.jq.jy, .int .i64 x.jx.Op, .int .i64 x.jx.K, .string x.jx.jq.js, .string x.jx.jq.jy, v0, v1] ∧ Sl jt 5 μ v0 x.jx.Kids ∧ Sl (Pl jv) 9 μ v1 x.ms := h
theorem kX.mk {μ : kl} {ys : List Value} {x : oe} (h : ∃ (v0 : Value) (v1 : Value), ys = [.string x.jq.js, .string x.jq.jy, .int .i64 x.jx.Op, .int .i64 x.jx.K, .string x.jx.jq.js, .string x.jx.jq.jy, v0, v1] ∧ Sl jt 5 μ v0 x.jx.Kids ∧ Sl (Pl jv) 9 μ v1 x.ms) : kX μ ys x := h
theorem lT : Deep kX 8 where
 mono := by rintro _ _ _ _ b ⟨v0, v1, rfl, a, h1⟩; exact ⟨v0, v1, rfl, a.mono jB.mono b, h1.mono (Pl.mono _) b⟩
 len := by rintro _ _ _ ⟨v0, v1, rfl, a, h1⟩; rfl
 one := by
  rintro _ _ _ ⟨v0, v1, rfl, a, h1⟩
  intro u hu; simp only [aR, dR, gd] at hu; rcases hu with rfl | rfl | rfl | rfl | rfl | rfl | rfl | rfl
  ·rfl
  ·rfl
  ·rfl
  ·rfl
  ·rfl
  ·rfl
  ·exact a.Ac
  ·exact h1.Ac
theorem FO : pk Tryz.prog 9 Value.string kQ := pk.string bZ
theorem zL : pk Tryz.prog 28 (fun (x : jq) => (.agg (jA x).toArray)) jP :=
 pk.struct cZ (fun d x y W => po (d + 8) x y W) (fun b k W => Gj cZ rfl (ib.2 ⟨fun _ => ⟨.string k.js, sF bV rfl, yp bZ _ _ _ _⟩, (ib.2 ⟨fun _ => ⟨.string k.jy, sF bV rfl, yp bZ _ _ _ _⟩, (fun _ h => by cases h)⟩)⟩))
  (fun k x h => (jQ.1 h).symm) (fun k => by simp [Instr.sameBits, jA, Ed, lZ])
theorem tC (a : jr) (c : jq) (r : List kz) (w : World) {I : kl} (K : nB I [] w) (hm : ou a c = some r) :
  lB true Tryz.prog 172 [(.agg (jv a).toArray), (.agg (jA c).toArray)] w I [] (fun v J M => ∃ H, v = H ∧ J = [] ∧ Sl kc 15 M H (r)) := by
 refine tE K 12 func172 rfl (fun b => sg (VE (km b rfl (fun W2 p b => VE (km b rfl (fun W4 q b => Wa (ln (jK ?_))))))))
 replace b := b.drew
 have d := b.has.ju (Kb (Kb Sn))
 refine kJ d kw (XH 0 rfl d (fun _ n => jw rfl (jz n (Mt Mh) (jv a) rfl bM aJ)) (XH 3 rfl d (fun _ n => jw rfl (jz n Mh (jA c) rfl bG aQ)) (X 4 rfl d (kZ (v := (.agg #[(.int .i64 1), (.int .i64 0), (.string c.js), (.string c.jy), (.slice none 0 0)])) (nY rfl rfl) (kE aM aX (qm _ aX) kr)) (bS hm fun g y hm => XE 1 rfl (JO (enc := (lu .u8)) (z := 0) b (fun _ => rfl) dc cW se.1 se.2.1 se.2.2.1 se.2.2.2 rfl rfl rfl y (fun Q U N b u => ?_))))))
 have d := b.has.ju (Dr (Kb (Kb Sn)))
 refine ⟨d, ?_⟩
 obtain ⟨i, j, rfl⟩ := u.form
 let a0 := (C8 a.Kind a.Head.js a.Head.jy a.ky a.B.js a.B.jy a.C.js a.C.jy a.kF i g.length j c.js c.jy)
 refine X 2 rfl d (kZ (v := (.agg (C6 a.Kind a.Head.js a.Head.jy a.ky a.B.js a.B.jy a.C.js a.C.jy a.kF i g.length j).toArray)) (nY rfl rfl) (kE jj iy (RU _ iy) kr)) (X 5 rfl d (kZ (v := (.agg a0.toArray)) (nY rfl rfl) (kE eP fS (Of _ fS) kr)) ?_)
 obtain ⟨Y, b, k, h, D⟩ := ST.NR b u (fun _ => rfl)
 refine XE 6 rfl (jX (cs := a0.toArray) b (lJ rfl) (lW cP cU eP) (fun T t b => ?_))
 have d := b.has.tH k (Db (Kb (Kb Sn)))
 refine ⟨d, (X 7 rfl d (nu rfl) (kW kr (jF ?_)))⟩
 replace b := b.ju (Kb (Db (Db St)))
 refine jU ?_
 obtain rfl := sj hm
 refine kY (v := (.slice (some ⟨t, 0, none⟩) 1 1)) rfl rfl ?_
 obtain ⟨Z, b, x, m, G⟩ := ST.so (B := [(t, Ol a0 138)]) jZ b (kD.lit jZ (l := [(⟨(⟨a, g⟩ : Signed), (⟨1, 0, c, []⟩ : Formula)⟩ : kz)]) (.cons (ys := C8 a.Kind a.Head.js a.Head.jy a.ky a.B.js a.B.jy a.C.js a.C.jy a.kF i g.length j c.js c.jy) (kc.mk ⟨(.slice i g.length j), (.slice none 0 0), rfl, D, (Sl.nil _ _ _)⟩) .nil) rfl nb rfl)
 exact ⟨_, _, _, rfl, (b.lM Sn), (k.trans x), (h.trans m), (ST.kA b (ma.mem Sn)), (.slice (some ⟨t, 0, none⟩) 1 1), rfl, rfl, G⟩
theorem vR (g : Value) (i r : List jr) (w : World) (a : Sl (Pl jv) 9 (hp w) g i) (hm : oI i = some r) :
  lz true Tryz.prog 228 [g] w 53 jv 9 r := by
 unfold oI at hm
 refine tF 8 func228 rfl (fun b => sg (Wa (lS (Wm ?_))))
 obtain ⟨y, B, rfl⟩ := a.form
 refine V (zt aI rfl rfl) (ln ?_)
 rcases y with _ | z
 ·have u := a.isNil
  replace hm : some [] = some r := by rw [u] at hm; simpa [mu, maxLen] using hm
  refine wK (rfl) (sg (Wa (lt (kj ?_))))
  obtain rfl := sj hm
  exact kY (v := (.slice none 0 0)) rfl rfl ⟨_, [], rfl, b.nx (fun p d => by cases d) (by simp), jT.nil _ _ _⟩
 ·refine rE (rfl) (kg (VE (jX (cs := #[]) b pM (yS [] aI aJ cH dc rfl (by simp) rfl rfl) (fun G k b => Wm (bS hm fun H t hm => VE (ns (enc := jv) (v := (.slice (some ⟨k, 0, none⟩) 0 0)) (vs := (.slice (some z) i.length B)) (R := [(k, Ob #[] 53)]) b jV dc mT aI mh.1 mh.2.1 rfl mh.2.2.1 mh.2.2.2 rfl rfl (jT.lit (l := []) (enc := jv) rfl dc rfl rfl) (a.mono (Pl.mono _) b.jD) t (fun D x j b c => Wa (lt ?_))))))))
  obtain rfl := sj hm
  exact kY (v := x) rfl rfl ⟨_, j, rfl, b.nx (fun p d => (Ml d)) c.nd, c⟩
theorem AZ (g : Value) (t : List jr) (j : Value) (B : jr → Option Bool) (r : Int) (w : World) (c : Sl (Pl jv) 9 (hp w) g t) (D : zT Tryz.prog j (hp w) (fun (x : jr) => [(.agg (jv x).toArray)]) (fun (r : Bool) => (.bool r)) B) (hm : tU t B = some r) :
  jS false Tryz.prog 260 [g, j] w (.int .i64 r) := by
 refine cG 19 func260 rfl (fun b => sg (Wa (lS (Wm (V (kK aI rfl c) (Wm (ln (kB (fun i E W => ∃ k, (E 8 = .int .i64 (i : Nat) ∧ E 7 = .int .i64 (t.length : Nat)) ∧ ST false ku w W (hp w) k ∧ E 0 = g ∧ E 1 = j ∧ oA B (t.drop i) i = some r) t.length c.len ⟨_, ⟨rfl, rfl⟩, (b.ju St), rfl, rfl, hm⟩ dc dc dc (fun _ _ _ h => by obtain ⟨_, l, _⟩ := h; exact l) ?_ ?_))))))))
 ·rintro Q E W H ⟨k, ⟨d, m⟩, b, u, y, a⟩
  obtain ⟨z, T, M, K, N⟩ := kq H
  rw [M] at a
  refine bg (Wh d (Wa (lr (Wh y (Wh u (Wm (VQ (na (enc := jv) (i := (Q : Int)) (x0 := z) aI aJ rfl rfl c (aH _) K) (fun Y I => V (jw rfl (jR b.has I bM aJ)) (bS a fun Z J a => ?_)))))))))
  refine VE (N1 z b D (kd.refl _) rfl (ua rfl) J (fun U b => ln (CI a rfl (fun G a => ?_) (fun G a => ?_))))
  ·refine sg (Wm (Wa (lt (me (kj (me (kj ?_)))))))
   obtain rfl := sj a
   exact rP b
  exact kP (ko (jF ⟨d, _, ⟨rfl, m⟩, (b.ju St), u, y, (by rw [N]; exact a)⟩))
 rintro E W ⟨k, ⟨d, m⟩, b, u, y, a⟩
 rw [aN] at a
 exact jF (sg (Wa (lt (rQ a b))))
theorem tz (j : Value) (a0 : List jr) (t : LO) (H : Value) (f1 : jr → Option Bool) (r : List jr) (w : World) {μ0 : kl} (h0 : nB μ0 (t ++ []) w) (T : jT 53 jv 9 j a0 t) (a4 : zT Tryz.prog H μ0 (fun (x : jr) => [(.agg (jv x).toArray)]) (fun (r : Bool) => (.bool r)) f1) (hm : nX a0 f1 = some r) :
  lF false Tryz.prog 143 [j, H] w (t ++ []) (fun v L1 W' => ∃ q S2, v = q ∧ L1 = (S2 ++ []) ∧ jT 53 jv 9 q r S2) := by
 refine AS h0 42 func143 rfl (fun d => sg (Wa (lr (Wm (Wm (bS hm fun n d3 hm => VE (Eg d call260 (AZ j a0 H f1 _ _ (T.sl jV (fun b o h => d.at_ (Ml h))) (a4.mono d.jD) d3) (fun W3 d => Wa (ln ?_)))))))))
 refine jK (sg (Wm (Wi rfl (ln (CI hm rfl (fun d2 hm => ?_) (fun d2 hm => ?_))))))
 ·refine sg (Wm (Wa (lt (kj ?_))))
  obtain rfl := sj hm
  exact kY (v := j) rfl rfl ⟨_, _, rfl, (d.lM (Kr Sn)), j, t, rfl, rfl, T⟩
 refine kS (Wm (Wi rfl (Wa (ln (ll (mU (fun m E W => ∃ U I B D a2, ST false (keys (t ++ [])) w W μ0 (I ++ a2) ∧ E 0 = j ∧ E 1 = H ∧ E 5 = (.int .i64 B) ∧ E 6 = (.int .i64 D) ∧ jT 53 jv 9 j U I ∧ nw f1 m U B D = some r) jY ⟨a0, t, n, (IntKind.i64.wrap (n + 1)), _, (d.ju St), rfl, rfl, rfl, rfl, T, hm⟩ ?_))))))
 rintro m E W ⟨U, I, B, D, a2, d, y, Q, G, K, g, a⟩
 cases m with
 | zero => rw [nw] at a; cases a
 | succ c8 =>
  refine jK (sg (Wh K (Wh y (V (mI aI rfl g) (Wi rfl (ln (CI a rfl (fun A a => ?_) (fun A a => ?_))))))))
  ·refine kn (jK (CJ a (fun Y E W => ∃ J a3, ST false (keys (t ++ [])) w W μ0 (J ++ a3) ∧ E 0 = j ∧ E 1 = H ∧ E 5 = (.int .i64 Y.2) ∧ E 6 = (.int .i64 D) ∧ jT 53 jv 9 j Y.1 J) (fun Y c => ?_) ?_))
   ·refine bg (Wh y (Wh K (bS c fun k M c => VQ (pe (i := D) (x0 := k) aI aJ rfl rfl g (kk M) (ki M)) (fun e4 O => V (jw rfl (vl d.has (fun p h => (Ml h)) g jV O (ki M) bM aJ)) (VE (kf d cH (fun d7 e2 d => VO (jL (.agg (jv k).toArray) ((jv k).toArray) d rfl rfl aJ (mT k) nb rfl (fun d8 d => lr (Wh Q ?_))))))))))
    refine VA d Mh (jv k) bM aJ (bS c fun e6 R c => VE (N1 k d a4 (kd.refl _) rfl (ua rfl) R (fun d9 d => V (nH rfl) (ln (CI c rfl (fun F c => ?_) (fun F c => ?_))))))
    ·refine sg (Wh y (Wh G (VA d Mh (jv k) bM aJ (bS c fun d0 N c => VQ (pe (i := B) (x0 := d0) aI aJ rfl rfl g (kk N) (ki N)) (fun e5 P => ?_)))))
     replace d := d.perm (Nr (Qb Qz) Nz)
     refine VO (Co (u := (.agg (jv k).toArray)) (x1 := k)  d g jV mT rfl rfl rfl P (ki N) aJ (fun e0 c1 d s => ln ?_))
     replace d := d.ju (Kr (Db St))
     refine jI (Wh G (Wi rfl (Wa (jW (ko (jF ?_))))))
     obtain rfl := sj c
     exact ⟨c1, _, (d.ju St), y, Q, rfl, K, s⟩
    refine kP (ko (jF ?_))
    obtain rfl := sj c
    exact ⟨I, _, (d.ju (Db St)), y, Q, G, K, g⟩
   rintro ⟨c7, c9⟩ E W ⟨J, a3, d, c3, c4, c5, c6, b6⟩ L
   exact jI (Wh c6 (Wi rfl (Wa (ln ⟨c8, bE _, c7, J, c9, (IntKind.i64.wrap (D + 1)), _, (d.ju St), c3, c4, c5, rfl, b6, L⟩))))
  refine mZ (mS (mS (qx (jF (sg (Wh y (Wh G (bS a fun _ Z a => VQ (zo (i := B) aI aJ rfl rfl g (vd Z) (vc Z)) (fun e7 b7 => VO (BH (z := Qt)  d g jV mT aI cH b7 rfl rfl (fun e1 c2 d a9 => lr (Wh y ?_))))))))))))
  refine Wh G (bS a fun _ l a => VQ (D9 (i := B) aI aJ rfl rfl a9 jV (vd l) (vc l)) (fun a5 b9 => Wa (lt ?_)))
  obtain rfl := sj a
  exact kY (v := a5) rfl rfl ⟨_, _, rfl, (d.lM (Kr Sn)), a5, c2, rfl, rfl, b9⟩
theorem PC (w : World) (s : ByteArray) (c : Int) : (callFunc 395 [Value.string s, .int .u8 c].toArray).run Tryz.prog w = .ok (.value (.int .i64 (wJ s c))) w := Hh func395 (by kernel_rfl) (by kernel_rfl) (by kernel_rfl) (by kernel_rfl) s c w
theorem xP (a : ByteArray) (c r : Int) (w : World) (hm : ot a c = some r) :
  jS true Tryz.prog 341 [(.string a), (.int .u8 c)] w (.int .i64 r) := by
 exact cG 8 func341 rfl (fun b => sg (Wa (lr (Wm (Wm (VE (KF (args := [(.string a), (.int .u8 c)]) (v := .int .i64 (wJ a c)) rfl (by exact we rfl rfl) (PC _ a c) (Wa (lt (rQ hm b))))))))))
theorem yK (a : ByteArray) (c r : Int) (w : World) (hm : ra a c = some r) :
  jS true Tryz.prog 266 [(.string a), (.int .u8 c)] w (.int .i64 r) := by
 refine cG 8 func266 rfl (fun b => sg (Wa (lr (Wm (Wm (bS hm fun j g hm => VE (Eg b call341 (xP a c _ _  g) (fun i b => Wa (ln ?_)))))))))
 exact jU (rQ hm b)
theorem JG (I : ByteArray) (r : Bool) (w : World) (hm : BM I = some r) :
  jS true Tryz.prog 267 [(.string I)] w (.bool r) := by
 refine cG 16 func267 rfl (fun b => sg (Wa (lS (Wm (bS hm fun H J hm => VE (HJ b bZ cW gf rfl J (fun W3 N T b M n j Y => V (kK cW rfl j) (Wm (jW ?_)))))))))
 refine jF (kB (fun i E W => ∃ c, (E 8 = .int .i64 (i : Nat) ∧ E 7 = .int .i64 (H.length : Nat)) ∧ ST true ku w W T c ∧ E 6 = N ∧ uM (H.drop i) = some r) H.length j.len ⟨_, ⟨rfl, rfl⟩, (b.ju St), rfl, hm⟩ dc dc dc (fun _ _ _ h => by obtain ⟨_, l, _⟩ := h; exact l) ?_ ?_)
 ·rintro K E W u ⟨c, ⟨d, m⟩, b, g, a⟩
  obtain ⟨k, Q, D, B, G⟩ := kq u
  rw [D] at a
  refine bg (VQ (na (enc := (lu .u8)) (i := (K : Int)) (x0 := k) cW sizeOf5 g d j (aH _) B) (fun Z x => V (jw rfl (sG b.has (y := (.int .u8 k)) x isAgg5)) (Wa (lr (Wm (bS a fun p z a => VE (Eg b call266 (yK (⟨#[97, 98, 99, 100, 101, 102, 103, 104, 105, 106, 107, 108, 109, 110, 111, 112, 113, 114, 115, 116, 117, 118, 119, 120, 121, 122, 48, 49, 50, 51, 52, 53, 54, 55, 56, 57, 45]⟩ : ByteArray) k _ _  z) (fun U b => Wi rfl (jW ?_)))))))))
  refine jF (CI a rfl (fun t a => ?_) (fun t a => ?_))
  ·refine sg (Wa (lt (me (kj (me (kj ?_))))))
   obtain rfl := sj a
   exact rP b
  exact kP (ko (jF ⟨d, _, ⟨rfl, m⟩, (b.ju St), g, (by rw [G]; exact a)⟩))
 rintro E W ⟨c, ⟨d, m⟩, b, g, a⟩
 rw [aN] at a
 exact jF (sg (Wa (lt (rQ a b))))
theorem wv (z : ByteArray) (r : Bool) (w : World) (hm : rM z = some r) :
  jS true Tryz.prog 152 [(.string z)] w (.bool r) := by
 refine cG 21 func152 rfl (fun b => sg (Wa (lr (Wm (V (oq bZ rfl) (Wi rfl (Wm (LJ hm (fun K E W => ∃ Y, ST true ku w W (hp w) Y ∧ E 0 = (.string z) ∧ E 2 = (.bool false) ∧ E 10 = (.bool K)) 4 ?_ (fun K t y => ?_)))))))))
 ·rintro x2 E W ⟨Y, b, M, d, l⟩ a5
  refine Wh l (LJ a5 (fun J E W => ∃ D, ST true ku w W (hp w) D ∧ E 0 = (.string z) ∧ E 2 = (.bool false) ∧ E 16 = (.bool J)) 5 ?_ (fun J a x => ?_))
  ·rintro s E W ⟨D, b, h, H, a2⟩ N
   refine Wh a2 (LJ N (fun I E W => ∃ G, ST true ku w W (hp w) G ∧ E 2 = (.bool false) ∧ E 20 = (.bool I)) 3 ?_ (fun I j u => ?_))
   ·rintro v E W ⟨G, b, a9, a3⟩ Q
    exact Wg a3 (lt (rQ Q b))
   refine bC j (fun g j => ?_) (fun g j => ?_)
   ·refine ug g (jE h) (bS j fun p T j => qI g (Eg b call267 (JG z _ _  T) (fun m b => V (jM (cB g) rfl) ?_)))
    obtain rfl := sj j
    exact u _ _ ⟨_, (b.ju St), H, rfl⟩
   refine un g (un g (V (jN (cB g) rfl) ?_))
   obtain rfl := sj j
   exact u _ _ ⟨_, (b.ju St), H, rfl⟩
  refine bC a (fun c a => ?_) (fun c a => ?_)
  ·refine ug c (jE M) (bS a fun Z B a => ug c (Al (i := 0) bZ rfl rfl (ze B) (Ct B)) (bS a fun q U a => qI c (Eg b call266 (yK (⟨#[97, 98, 99, 100, 101, 102, 103, 104, 105, 106, 107, 108, 109, 110, 111, 112, 113, 114, 115, 116, 117, 118, 119, 120, 121, 122]⟩ : ByteArray) (Z.toNat : Int) _ _  U) (fun n b => ug c (kx rfl rfl rfl) (V (jM (cB c) rfl) ?_)))))
   obtain rfl := sj a
   exact x _ _ ⟨_, (b.ju St), M, d, rfl⟩
  refine un c (un c (un c (un c (V (jN (cB c) rfl) ?_))))
  obtain rfl := sj a
  exact x _ _ ⟨_, (b.ju St), M, d, rfl⟩
 refine bC t (fun k t => ?_) (fun k t => ?_)
 ·refine ug k (jE rfl) (ug k (oq bZ rfl) (ug k (kx rfl rfl rfl) (V (jM (cB k) rfl) ?_)))
  obtain rfl := sj t
  exact y _ _ ⟨_, (b.ju St), rfl, rfl, rfl⟩
 refine un k (un k (un k (V (jN (cB k) rfl) ?_)))
 obtain rfl := sj t
 exact y _ _ ⟨_, (b.ju St), rfl, rfl, rfl⟩
theorem tN (i : jq) (r : Bool) (w : World) (hm : pG i = some r) :
  jS true Tryz.prog 254 [(.agg (jA i).toArray)] w (.bool r) := by
 refine cG 11 func254 rfl (fun b => sg (VE (km b rfl (fun H J b => Wa (lr (Wf oQ (VB b Mh rfl rfl bV (bS hm fun K y hm => VE (Eg b call152 (wv i.js _ _  y) (fun I b => Wm (LJ hm (fun k E W => ∃ j, ST true ku w W (hp w) j ∧ E 2 = (.bool false) ∧ E 10 = (.bool k)) 4 ?_ (fun k a g => ?_))))))))))))
 ·rintro G E W ⟨j, b, B, x⟩ t
  exact Wg x (lt (rQ t b))
 refine bC a (fun c a => ?_) (fun c a => ?_)
 ·refine ug c (jC uj rfl) (ug c (jw rfl (jO b.has Mh rfl bV)) (bS a fun D u a => qI c (Eg b call152 (wv i.jy _ _  u) (fun z b => V (jM (cB c) rfl) ?_))))
  obtain rfl := sj a
  exact g _ _ ⟨_, (b.ju (Db St)), rfl, rfl⟩
 refine un c (un c (un c (V (jN (cB c) rfl) ?_)))
 obtain rfl := sj a
 exact g _ _ ⟨_, (b.ju (Db St)), rfl, rfl⟩
theorem Qc (w : World) (a b : ByteArray) : (callFunc 380 [Value.string a, .string b].toArray).run Tryz.prog w = .ok (.value (.int .i64 (oX a b))) w := Nf func380 (by kernel_rfl) (by kernel_rfl) (by kernel_rfl) (by kernel_rfl) a b w
theorem xQ (a c : ByteArray) (r : Int) (w : World) (hm : nt a c = some r) :
  jS true Tryz.prog 330 [(.string a), (.string c)] w (.int .i64 r) := by
 exact cG 8 func330 rfl (fun b => sg (Wa (lr (Wm (Wm (VE (KF (args := [(.string a), (.string c)]) (v := .int .i64 (oX a c)) rfl (by exact we rfl rfl) (Qc _ a c) (Wa (lt (rQ hm b))))))))))
theorem zY (a c : ByteArray) (r : Int) (w : World) (hm : pn a c = some r) :
  jS true Tryz.prog 239 [(.string a), (.string c)] w (.int .i64 r) := by
 refine cG 8 func239 rfl (fun b => sg (Wa (lr (Wm (Wm (bS hm fun j g hm => VE (Eg b call330 (xQ a c _ _  g) (fun i b => Wa (ln ?_)))))))))
 exact jU (rQ hm b)
theorem IP (g : Value) (t : List Int) (r : Int) (w : World) (c : Sl (Pl (lu .i64)) 1 (hp w) g t) (hm : uN t = some r) :
  jS true Tryz.prog 238 [g] w (.int .i64 r) := by
 refine cG 18 func238 rfl (fun b => sg (Wa (lr (Wa (lS (Wm ?_))))))
 refine V (kK underlying256 rfl c) (Wm (ln (kB (fun i E W => ∃ k, (E 8 = .int .i64 (i : Nat) ∧ E 7 = .int .i64 (t.length : Nat)) ∧ ST true ku w W (hp w) k ∧ E 3 = (.int .i64 0) ∧ E 6 = g ∧ sk (t.drop i) = some r) t.length c.len ⟨_, ⟨rfl, rfl⟩, (b.ju St), rfl, rfl, hm⟩ dc dc dc (fun _ _ _ h => by obtain ⟨_, l, _⟩ := h; exact l) ?_ ?_)))
 ·rintro J E W B ⟨k, ⟨d, m⟩, b, j, u, a⟩
  obtain ⟨x, K, H, G, I⟩ := kq B
  rw [H] at a
  refine bg (VQ (na (enc := (lu .i64)) (i := (J : Int)) (x0 := x) underlying256 ja u d c (aH _) G) (fun M D => V (jw rfl (sG b.has (y := (.int .i64 x)) D cC)) (Wa (lr (Wm (Wh j (Wi rfl (ln ?_))))))))
  refine CI a rfl (fun z a => ?_) (fun z a => ?_)
  ·refine sg (Wm (Wa (lt (me (kj (me (kj ?_)))))))
   obtain rfl := sj a
   exact rP b
  exact kP (ko (jF ⟨d, _, ⟨rfl, m⟩, (b.ju St), j, u, (by rw [I]; exact a)⟩))
 rintro E W ⟨k, ⟨d, m⟩, b, j, u, a⟩
 rw [aN] at a
 exact jF (sg (Wh j (Wa (lt (rQ a b)))))
theorem GY (g i : jq) (r : Int) (w : World) (hm : rl g i = some r) :
  jS true Tryz.prog 123 [(.agg (jA g).toArray), (.agg (jA i).toArray)] w (.int .i64 r) := by
 refine cG 17 func123 rfl (fun b => sg (VE (km b rfl (fun G I b => VE (km b rfl (fun H J b => Wa (ln (jK ?_))))))))
 replace b := b.drew
 have d := b.has.ju (Kb (Kb Sn))
 refine kJ d kw (X 0 rfl d (jC oQ rfl) (XH 1 rfl d (fun _ h => jw rfl (jO h (Mt Mh) rfl bV)) (X 2 rfl d (jC oQ rfl) (XH 3 rfl d (fun _ h => jw rfl (jO h Mh rfl bV)) (X 5 rfl d (jC uj rfl) (XH 6 rfl d (fun _ h => jw rfl (jO h (Mt Mh) rfl bV)) (X 7 rfl d (jC uj rfl) (XH 8 rfl d (fun _ h => jw rfl (jO h Mh rfl bV)) (bS hm fun a j hm => XE 4 rfl (Eg b call239 (zY g.js i.js _ _  j) (fun x b => ?_)))))))))))
 have d := b.has.ju (Kb (Kb Sn))
 refine ⟨d, (bS hm fun c k hm => XE 9 rfl (Eg b call239 (zY g.jy i.jy _ _  k) (fun y b => ?_)))⟩
 have d := b.has.ju (Kb (Kb Sn))
 refine ⟨d, (XE 10 rfl (jX (cs := #[(.int .i64 a), (.int .i64 c)]) b (nY rfl rfl) (lW underlying256 ja zeroValue3) (fun z u b => ?_)))⟩
 have d := b.has.ju (Db (Kb (Kb Sn)))
 refine ⟨d, (bS hm fun D t hm => XE 11 rfl (Eg b call238 (IP (.slice (some ⟨u, 0, none⟩) 2 2) ([a, c]) _ _ (Sl.lit (enc := (lu .i64)) (l := [a, c]) (fun _ => rfl) rfl nb rfl (b.at_ Mh)) t) (fun B b => ?_)))⟩
 have d := b.has.ju (Db (Kb (Kb Sn)))
 refine ⟨d, (X 12 rfl d (nu rfl) (kW kr (jF ?_)))⟩
 exact jU (rQ hm b)
set_option maxHeartbeats 1000000 in
theorem yo (a : jr) (r : Bool) (w : World) (hm : tM a = some r) :
  jS true Tryz.prog 137 [(.agg (jv a).toArray)] w (.bool r) := by
 let m9 := (⟨a.Kind, a.Head, zS, a.B, a.C, zS⟩ : jr)
 let j2 := (⟨a.Kind, a.Head, zS, a.B, K0, a.kF⟩ : jr)
 let j1 : Value := (.agg (jA a.B).toArray)
 let g6 := ((jv (⟨a.Kind, a.Head, zS, a.B, K0, zS⟩ : jr)).toArray)
 let p := (⟨a.Kind, a.Head, zS, K0, K0, zS⟩ : jr)
 refine cG 98 func137 rfl (fun b => sg (VE (km b rfl (fun W2 N b => Wa (lr (Wf qj (VB b Mh rfl rfl cC (Wf qf (VA b Mh (jA a.Head) bG aQ (V (kZ (v := (.agg (jv p).toArray)) (nY rfl rfl) (kE cH dX (NL _ dX) kr)) (VE (kf b cH (fun W4 B b => ?_)))))))))))))
 refine VO (jL (.agg (jv p).toArray) ((jv p).toArray) b rfl rfl aJ (mT p) nb rfl (fun W5 b => lr (Wf qf (VA b (Mt Mh) (jA a.Head) bG aQ (bS hm fun n j4 hm => VE (Eg b jm (tN a.Head _ _  j4) (fun W8 b => Wa (ln (jK (Rj hm (fun A E W => ∃ R, ST true ku w W (hp w) ((B, Ol (jv A.2) 53) :: ((N, Ol (jv a) 53) :: R)) ∧ E 1 = (.pointer (some ⟨N, 0, none⟩)) ∧ E 3 = (.pointer (some ⟨B, 0, none⟩)) ∧ E 4 = (.bool A.1)) (fun A g Z => ?_) ?_))))))))))
 ·let g5 := ((jv m9).toArray : Array Value)
  let b8 := ((jv j2).toArray : Array Value)
  let m : Value := (.pointer (some ⟨B, 0, none⟩))
  let l : Value := (.pointer (some ⟨N, 0, none⟩))
  let a0 := ((jv a).toArray : Array Value)
  refine sg (Wf qj (VB b (Mt Mh) rfl rfl cC (ln (bg (Wi rfl (Wa (ln (CI g rfl (fun e5 g => ?_) (fun e5 g => ?_)))))))))
  ·replace b := b.drew
   have d := b.has.ju (Db (Kb Sn))
   refine kJ d kw (X 0 rfl d (jC wm rfl) (XH 1 rfl d (fun _ h => jw rfl (jO h Mh rfl bV)) (X 2 rfl d (jE rfl) (X 3 rfl d (jE rfl) (X 8 rfl d (jC wm rfl) (PJ g (fun d6 E W => ∃ b9, ST true ku w W (hp w) ((B, Ol (jv p) 53) :: ((N, Obj.cells a0 53 (0, 0)) :: b9)) ∧ E 1 = l ∧ E 3 = m ∧ E 4 = (.bool n) ∧ E 18 = (.string a.ky) ∧ E 24 = (.bool d6) ∧ E 25 = (.pointer (some ⟨B, 3, none⟩))) (bm 11 511) 2 ?_ (fun d6 D a2 => ?_)))))))
   ·rintro m1 E W ⟨b9, b, h2, h3, k8, h4, h5, h6⟩ f1
    refine XO 9 rfl (jL (.string a.ky) ((jv (⟨a.Kind, a.Head, a.ky, K0, K0, zS⟩ : jr)).toArray) b h6 h4 fG (KS a.ky) nb rfl (fun j5 b => ?_))
    have d := b.has.ju (Db (Kb Sn))
    refine ⟨d, (X 10 rfl d (nu h5) (kW kr (ko (jF ?_))))⟩
    obtain rfl := sj f1
    exact ⟨_, rfl, _, (b.ju St), h2, h3, rfl⟩
   refine bC D (fun k D => ?_) (fun k D => ?_)
   ·refine Xg 4 rfl rfl (cB k) d (jC wm rfl) (uF 5 rfl rfl (cB k) d (fun _ h => jw rfl (jO h Mh rfl bV)) (bS D fun l2 f9 D => E7 6 rfl rfl (cB k) (Eg b call152 (wv a.ky _ _  f9) (fun j6 b => ?_))))
    have d := b.has.ju (Db (Kb Sn))
    refine ⟨d, (X 7 rfl d (jM (cB k) rfl) ?_)⟩
    obtain rfl := sj D
    refine ni kr (a2 _ _ ⟨_, (b.ju St), rfl, rfl, rfl, rfl, rfl, rfl⟩)
   refine Xn 4 rfl rfl (cB k) d (Xn 5 rfl rfl (cB k) d (Xn 6 rfl rfl (cB k) d (X 7 rfl d (jN (cB k) rfl) ?_)))
   obtain rfl := sj D
   refine ni kr (a2 _ _ ⟨_, (b.ju St), rfl, rfl, rfl, rfl, rfl, rfl⟩)
  refine sg (Wi rfl (Wa (ln (CI g rfl (fun e6 g => ?_) (fun e6 g => ?_)))))
  ·replace b := b.drew
   have d := b.has.ju (Db (Kb Sn))
   refine kJ d kw (X 0 rfl d (jC nz rfl) (XH 1 rfl d (fun _ h => jw rfl (jz h Mh (jA a.B) rfl bG aQ)) (X 2 rfl d (jE rfl) (X 3 rfl d (jE rfl) (X 8 rfl d (jC nz rfl) (PJ g (fun d7 E W => ∃ c0, ST true ku w W (hp w) ((B, Ol (jv p) 53) :: ((N, Obj.cells a0 53 (0, 0)) :: c0)) ∧ E 1 = l ∧ E 3 = m ∧ E 4 = (.bool n) ∧ E 29 = j1 ∧ E 35 = (.bool d7) ∧ E 36 = (.pointer (some ⟨B, 4, none⟩))) (bm 11 511) 2 ?_ (fun d7 G a3 => ?_)))))))
   ·rintro m2 E W ⟨c0, b, h7, h8, k9, h9, i0, i1⟩ f2
    refine XO 9 rfl (jL j1 g6 b i1 h9 aQ (vJ a.B) nb rfl (fun j7 b => ?_))
    have d := b.has.ju (Db (Kb Sn))
    refine ⟨d, (X 10 rfl d (nu i0) (kW kr (ko (jF ?_))))⟩
    obtain rfl := sj f2
    exact ⟨_, rfl, _, (b.ju St), h7, h8, rfl⟩
   refine bC G (fun t G => ?_) (fun t G => ?_)
   ·refine Xg 4 rfl rfl (cB t) d (jC nz rfl) (uF 5 rfl rfl (cB t) d (fun _ h => jw rfl (jz h Mh (jA a.B) rfl bG aQ)) (bS G fun l3 g0 G => E7 6 rfl rfl (cB t) (Eg b jm (tN a.B _ _  g0) (fun j8 b => ?_))))
    have d := b.has.ju (Db (Kb Sn))
    refine ⟨d, (X 7 rfl d (jM (cB t) rfl) ?_)⟩
    obtain rfl := sj G
    refine ni kr (a3 _ _ ⟨_, (b.ju St), rfl, rfl, rfl, rfl, rfl, rfl⟩)
   refine Xn 4 rfl rfl (cB t) d (Xn 5 rfl rfl (cB t) d (Xn 6 rfl rfl (cB t) d (X 7 rfl d (jN (cB t) rfl) ?_)))
   obtain rfl := sj G
   refine ni kr (a3 _ _ ⟨_, (b.ju St), rfl, rfl, rfl, rfl, rfl, rfl⟩)
  refine sg (Wi rfl (Wa (ln (CI g rfl (fun e7 g => ?_) (fun e7 g => ?_)))))
  ·refine jK ?_
   replace b := b.drew
   have d := b.has.ju (Db (Kb Sn))
   refine kJ d kw (X 0 rfl d (jC nz rfl) (XH 1 rfl d (fun _ h => jw rfl (jz h Mh (jA a.B) rfl bG aQ)) (X 2 rfl d (jC uf rfl) (XH 3 rfl d (fun _ h => jw rfl (jO h Mh rfl bV)) (X 4 rfl d (jC nz rfl) (XO 5 rfl (jL j1 g6 b rfl rfl aQ (vJ a.B) nb rfl (fun j9 b => ?_))))))))
   have d := b.has.ju (Db (Kb Sn))
   refine ⟨d, (X 6 rfl d (jC uf rfl) (XO 7 rfl (jL (.string a.kF) ((jv j2).toArray) b rfl rfl fG (KS a.kF) nb rfl (fun k0 b => ?_))))⟩
   have d := b.has.ju (Db (Kb Sn))
   refine ⟨d, (kW kr (jF (jI (Wm (Wm (LJ g (fun e0 E W => ∃ c1, ST true ku w W (hp w) ((B, Obj.cells b8 53 (0, 0)) :: ((N, Obj.cells a0 53 (0, 0)) :: c1)) ∧ E 1 = l ∧ E 3 = m ∧ E 4 = (.bool n) ∧ E 50 = (.bool e0)) 4 ?_ (fun e0 I L => ?_)))))))⟩
   ·rintro m3 E W ⟨c1, b, U, c7, c8, i2⟩ f3
    refine Wh i2 (LJ f3 (fun d9 E W => ∃ c2, ST true ku w W (hp w) ((B, Obj.cells b8 53 (0, 0)) :: ((N, Obj.cells a0 53 (0, 0)) :: c2)) ∧ E 1 = l ∧ E 3 = m ∧ E 4 = (.bool n) ∧ E 59 = (.bool d9)) 8 ?_ (fun d9 T a5 => ?_))
    ·rintro m4 E W ⟨c2, b, q, c9, d0, i3⟩ f4
     refine Wh i3 (LJ f4 (fun d8 E W => ∃ c3, ST true ku w W (hp w) ((B, Obj.cells b8 53 (0, 0)) :: ((N, Obj.cells a0 53 (0, 0)) :: c3)) ∧ E 1 = l ∧ E 3 = m ∧ E 4 = (.bool n) ∧ E 64 = (.bool d8)) 4 ?_ (fun d8 H a4 => ?_))
     ·rintro m5 E W ⟨c3, b, i4, i5, l0, i6⟩ f5
      refine Wg i6 (jW (ko (jF ?_)))
      obtain rfl := sj f5
      exact ⟨_, rfl, _, (b.ju St), i4, i5, rfl⟩
     refine bC H (fun x H => ?_) (fun x H => ?_)
     ·refine ug x (jC uf q) (ug x (jw rfl (jO b.has (Mt Mh) rfl bV)) (bS H fun l4 g1 H => qI x (Eg b call152 (wv a.kF _ _  g1) (fun k1 b => V (jM (cB x) rfl) ?_))))
      obtain rfl := sj H
      exact a4 _ _ ⟨_, (b.ju St), q, c9, d0, rfl⟩
     refine un x (un x (un x (V (jN (cB x) rfl) ?_)))
     obtain rfl := sj H
     exact a4 _ _ ⟨_, (b.ju St), q, c9, d0, rfl⟩
    refine bC T (fun c T => ?_) (fun c T => ?_)
    ·refine ug c (jC nz U) (ug c (jC oQ rfl) (ug c (jw rfl (jO b.has (Mt Mh) rfl bV)) (ug c (jC qf U) (ug c (jC oQ rfl) (ug c (jw rfl (jO b.has (Mt Mh) rfl bV)) (ug c (qX rfl rfl rfl) (V (jM (cB c) rfl) ?_)))))))
     obtain rfl := sj T
     exact a5 _ _ ⟨_, (b.ju St), U, c7, c8, rfl⟩
    refine un c (un c (un c (un c (un c (un c (un c (V (jN (cB c) rfl) ?_)))))))
    obtain rfl := sj T
    exact a5 _ _ ⟨_, (b.ju St), U, c7, c8, rfl⟩
   refine bC I (fun u I => ?_) (fun u I => ?_)
   ·refine ug u (jC nz rfl) (ug u (jw rfl (jz b.has (Mt Mh) (jA a.B) rfl bG aQ)) (bS I fun l5 g2 I => qI u (Eg b jm (tN a.B _ _  g2) (fun k2 b => V (jM (cB u) rfl) ?_))))
    obtain rfl := sj I
    exact L _ _ ⟨_, (b.ju St), rfl, rfl, rfl, rfl⟩
   refine un u (un u (un u (V (jN (cB u) rfl) ?_)))
   obtain rfl := sj I
   exact L _ _ ⟨_, (b.ju St), rfl, rfl, rfl, rfl⟩
  refine sg (Wi rfl (Wa (ln (CI g rfl (fun e8 g => ?_) (fun e8 g => ?_)))))
  ·refine jK ?_
   replace b := b.drew
   have d := b.has.ju (Db (Kb Sn))
   refine kJ d kw (X 0 rfl d (jC nz rfl) (XH 1 rfl d (fun _ h => jw rfl (jz h Mh (jA a.B) rfl bG aQ)) (X 2 rfl d (jC rR rfl) (XH 3 rfl d (fun _ h => jw rfl (jz h Mh (jA a.C) rfl bG aQ)) (X 4 rfl d (jC nz rfl) (XO 5 rfl (jL j1 g6 b rfl rfl aQ (vJ a.B) nb rfl (fun k3 b => ?_))))))))
   have d := b.has.ju (Db (Kb Sn))
   refine ⟨d, (X 6 rfl d (jC rR rfl) (XO 7 rfl (jL (.agg (jA a.C).toArray) ((jv m9).toArray) b rfl rfl aQ (vJ a.C) nb rfl (fun k4 b => ?_))))⟩
   have d := b.has.ju (Db (Kb Sn))
   refine ⟨d, (kW kr (jF (jI (Wm (Wm (LJ g (fun e3 E W => ∃ c4, ST true ku w W (hp w) ((B, Obj.cells g5 53 (0, 0)) :: ((N, Obj.cells a0 53 (0, 0)) :: c4)) ∧ E 1 = l ∧ E 3 = m ∧ E 4 = (.bool n) ∧ E 78 = (.bool e3)) 4 ?_ (fun e3 M a9 => ?_)))))))⟩
   ·rintro m6 E W ⟨c4, b, s, d1, d2, i7⟩ f6
    refine Wh i7 (LJ f6 (fun e2 E W => ∃ c5, ST true ku w W (hp w) ((B, Obj.cells g5 53 (0, 0)) :: ((N, Obj.cells a0 53 (0, 0)) :: c5)) ∧ E 1 = l ∧ E 3 = m ∧ E 4 = (.bool n) ∧ E 83 = (.bool e2)) 4 ?_ (fun e2 K P => ?_))
    ·rintro m7 E W ⟨c5, b, Y, d3, d4, i8⟩ f7
     refine Wh i8 (LJ f7 (fun e1 E W => ∃ c6, ST true ku w W (hp w) ((B, Obj.cells g5 53 (0, 0)) :: ((N, Obj.cells a0 53 (0, 0)) :: c6)) ∧ E 1 = l ∧ E 3 = m ∧ E 4 = (.bool n) ∧ E 91 = (.bool e1)) 7 ?_ (fun e1 J O => ?_))
     ·rintro m8 E W ⟨c6, b, i9, j0, l1, j3⟩ f8
      refine Wg j3 (jW (ko (jF ?_)))
      obtain rfl := sj f8
      exact ⟨_, rfl, _, (b.ju St), i9, j0, rfl⟩
     refine bC J (fun i J => ?_) (fun i J => ?_)
     ·refine ug i (jC nz Y) (ug i (jw rfl (jz b.has (Mt Mh) (jA a.B) rfl bG aQ)) (ug i (jC rR Y) (ug i (jw rfl (jz b.has (Mt Mh) (jA a.C) rfl bG aQ)) (bS J fun l6 g3 J => qI i (Eg b call123 (GY a.B a.C _ _  g3) (fun k5 b => ug i (kx rfl rfl rfl) (V (jM (cB i) rfl) ?_)))))))
      obtain rfl := sj J
      exact O _ _ ⟨_, (b.ju St), Y, d3, d4, rfl⟩
     refine un i (un i (un i (un i (un i (un i (V (jN (cB i) rfl) ?_))))))
     obtain rfl := sj J
     exact O _ _ ⟨_, (b.ju St), Y, d3, d4, rfl⟩
    refine bC K (fun z K => ?_) (fun z K => ?_)
    ·refine ug z (jC rR s) (ug z (jw rfl (jz b.has (Mt Mh) (jA a.C) rfl bG aQ)) (bS K fun l7 g4 K => qI z (Eg b jm (tN a.C _ _  g4) (fun k6 b => V (jM (cB z) rfl) ?_))))
     obtain rfl := sj K
     exact P _ _ ⟨_, (b.ju St), s, d1, d2, rfl⟩
    refine un z (un z (un z (V (jN (cB z) rfl) ?_)))
    obtain rfl := sj K
    exact P _ _ ⟨_, (b.ju St), s, d1, d2, rfl⟩
   refine bC M (fun y M => ?_) (fun y M => ?_)
   ·refine ug y (jC nz rfl) (ug y (jw rfl (jz b.has (Mt Mh) (jA a.B) rfl bG aQ)) (bS M fun l8 g7 M => qI y (Eg b jm (tN a.B _ _  g7) (fun k7 b => V (jM (cB y) rfl) ?_))))
    obtain rfl := sj M
    exact a9 _ _ ⟨_, (b.ju St), rfl, rfl, rfl, rfl⟩
   refine un y (un y (un y (V (jN (cB y) rfl) ?_)))
   obtain rfl := sj M
   exact a9 _ _ ⟨_, (b.ju St), rfl, rfl, rfl, rfl⟩
  refine sg (Wa (ln ?_))
  replace b := b.ju (Db (Db St))
  refine jU (me (kj ?_))
  obtain rfl := sj g
  replace Z : some false = some r := Z
  obtain rfl := sj Z
  exact rP b
 rintro ⟨l9, e4⟩ E W ⟨R, b, g8, g9, h0⟩ e9
 refine sg (Wh h0 (Wm (LJ e9 (fun d5 E W => ∃ b7, ST true ku w W (hp w) b7 ∧ E 97 = (.bool d5)) 4 ?_ (fun d5 Q F => ?_))))
 ·rintro m0 E W ⟨b7, b, h1⟩ f0
  exact Wg h1 (lt (rQ f0 b))
 refine bC Q (fun j Q => ?_) (fun j Q => ?_)
 ·refine ug j (jw g9 (jz b.has Mh (jv e4) rfl bM aJ)) (ug j (jw g8 (jz b.has (Mt Mh) (jv a) rfl bM aJ)) (ug j (uB rfl rfl (nm fi) (qO (vh _ e4 a))) (V (jM (cB j) rfl) ?_)))
  obtain rfl := sj Q
  exact F _ _ ⟨_, (b.ju (Db (Db St))), rfl⟩
 refine un j (un j (un j (V (jN (cB j) rfl) ?_)))
 obtain rfl := sj Q
 exact F _ _ ⟨_, (b.ju (Db (Db St))), rfl⟩
theorem H5 (a : jr) (r : Bool) (w : World) (hm : xF a = some r) :
  jS true Tryz.prog 229 [(.agg (jv a).toArray)] w (.bool r) := by
 refine cG 6 func229 rfl (fun b => sg (VE (km b rfl (fun g j b => Wa (lr (VA b Mh (jv a) bM aJ (bS hm fun k c hm => VE (Eg b call137 (yo a _ _  c) (fun i b => V (nH rfl) (Wa (jW ?_)))))))))))
 refine jF ?_
 exact jU (rQ hm b)
theorem KW (c : Value) (k : List jr) (a : LO) (g : Value) (t : (jr × jr) → Option Int) (r : List jr) (w : World) {y : kl} (u : nB y (a ++ []) w) (i : jT 53 jv 9 c k a) (j : Rz Tryz.prog g y (fun (x : (jr × jr)) => [(.agg (jv x.1).toArray), (.agg (jv x.2).toArray)]) (fun (r : Int) => (.int .i64 r)) t) (hm : zp t k = some r) :
  lF true Tryz.prog 230 [c, g] w (a ++ []) (fun v z W' => ∃ S, v = (.tuple #[]) ∧ z = (S ++ []) ∧ jT 53 jv 9 c r S) := JK (P := Tryz.prog) (ρ := Mr) Qh 9 bM aJ jv jV mT u.H u.S i j hm
theorem rb (t : Nat) (j : Value) (G : List Int) (i : LO) (h : Int) (r : (Bool × (List Int))) (w : World) {μ0 : kl} (A : nB μ0 ((t, Ob #[j] 92) :: (i ++ [])) w) (y : jT 5 (lu .u8) 1 j G i) (hm : nR G h = some r) :
  lF true Tryz.prog 268 [(.pointer (some ⟨t, 0, none⟩)), (.int .i64 h)] w ((t, Ob #[j] 92) :: (i ++ [])) (fun v L1 W' => ∃ n S2, v = (.bool (r.1)) ∧ L1 = ((t, Ob #[n] 92) :: (S2 ++ [])) ∧ jT 5 (lu .u8) 1 n r.2 S2) := by
 refine AS A 38 func268 rfl (fun d => sg (Wa (lS (Wm (V (wO gJ rfl rfl) (Wm (Vg rfl rfl (jE rfl) (Vg rfl rfl (kx rfl rfl rfl) (V (jN rfl rfl) ?_)))))))))
 refine ln (CI hm rfl (fun a9 hm => ?_) (fun a9 hm => ?_))
 ·refine sg (Wa (lt (kj ?_)))
  obtain rfl := sj hm
  exact kY (v := (.bool false)) rfl rfl ⟨_, _, rfl, (d.lM (Kb (Kr Sn))), j, i, rfl, rfl, y⟩
 refine kn (jK (ll (mU (fun m E W => ∃ c z U u a0, ST true (keys ((t, Ob #[j] 92) :: (i ++ []))) w W μ0 ((t, Ob #[z] 92) :: (u ++ a0)) ∧ E 0 = (.pointer (some ⟨t, 0, none⟩)) ∧ E 1 = (.int .i64 c) ∧ jT 5 (lu .u8) 1 z U u ∧ pN m c U = some r) jY ⟨h, j, G, i, _, (d.ju St), rfl, rfl, y, hm⟩ ?_)))
 rintro m E W ⟨c, z, U, u, a0, d, x, K, T, g⟩
 cases m with
 | zero => rw [pN] at g; cases g
 | succ s =>
  refine jK (sg (Wh K (Wi rfl (ln (CI g rfl (fun p g => ?_) (fun p g => ?_))))))
  ·refine kn (jK (ll (jI (Wh x (Wh x (Wn (Wf AF (VB d Mh rfl rfl isAgg54 (Wh K (V (qP (k' := .i64) (a := c) eS gf rfl) (V (Ih (k := .u8) (a := (IntKind.u8.wrap c)) (b := 128) (v := (.int .u8 (IntKind.u8.wrap (BitVec.ofInt (IntKind.bits .u8) (IntKind.u8.wrap c) ||| BitVec.ofInt (IntKind.bits .u8) 128).toNat))) rfl rfl dc rfl) (VE (jX (cs := [(.int .u8 (IntKind.u8.wrap (BitVec.ofInt (IntKind.bits .u8) (IntKind.u8.wrap c) ||| BitVec.ofInt (IntKind.bits .u8) 128).toNat))].toArray) d (lJ rfl) (lW cW sizeOf5 jb) (fun c3 q d => ?_))))))))))))))
   replace d := d.perm (Nr (Qb (Qb Qz)) Nz)
   refine bS g fun Q Y g => VE (ns (enc := (lu .u8)) (v := z) (vs := (.slice (some ⟨q, 0, none⟩) 1 1)) (R := u) d (fun _ => rfl) dc (Fw _) cW se.1 se.2.1 rfl se.2.2.1 se.2.2.2 rfl rfl T (Sl.lit (enc := (lu .u8)) (l := [(IntKind.u8.wrap (BitVec.ofInt (IntKind.bits .u8) (IntKind.u8.wrap c) ||| BitVec.ofInt (IntKind.bits .u8) 128).toNat)]) (fun _ => rfl) rfl nb rfl (d.at_ (Ma Mh))) Y (fun F c1 a2 d M => Wn (Wf AF ?_)))
   obtain ⟨B, H, rfl⟩ := M.form
   replace d := d.perm (Nb (Pr (Pb Pz)) Nz)
   refine VO (jL (.slice B Q.length H) (#[(.slice B Q.length H)]) d rfl rfl ji oc nb rfl (fun L d => jW (ko (jF ?_))))
   replace d := d.ju (Kb (Kr (Db St)))
   exact jI (Wh K (V (Gp (a := c) (b := 7) rfl rfl dc) (Wa (ln ⟨s, bE _, (Int.fdiv c (2 ^ min (Int.toNat 7) (IntKind.bits .i64))), (.slice B Q.length H), Q, a2, _, (d.ju St), x, rfl, M, g⟩))))
  refine mZ (mS (mS (qx (jF (sg (Wh x (Wh x (Wn (Wf AF (VB d Mh rfl rfl isAgg54 (Wh K (V (qP (k' := .i64) (a := c) eS gf rfl) (VE (jX (cs := [(.int .u8 (IntKind.u8.wrap c))].toArray) d (lJ rfl) (lW cW sizeOf5 jb) (fun O a5 d => ?_)))))))))))))))
  replace d := d.perm (Nr (Qb (Qb Qz)) Nz)
  refine bS g fun J Z g => VE (ns (enc := (lu .u8)) (v := z) (vs := (.slice (some ⟨a5, 0, none⟩) 1 1)) (R := u) d (fun _ => rfl) dc (Fw _) cW se.1 se.2.1 rfl se.2.2.1 se.2.2.2 rfl rfl T (Sl.lit (enc := (lu .u8)) (l := [(IntKind.u8.wrap c)]) (fun _ => rfl) rfl nb rfl (d.at_ (Ma Mh))) Z (fun P c2 a3 d N => Wn (Wf AF ?_)))
  obtain ⟨D, I, rfl⟩ := N.form
  replace d := d.perm (Nb (Pr (Pb Pz)) Nz)
  refine VO (jL (.slice D J.length I) (#[(.slice D J.length I)]) d rfl rfl ji oc nb rfl (fun b9 d => ln ?_))
  replace d := d.ju (Kb (Kr (Db St)))
  refine sg (Wa (lt ?_))
  obtain rfl := sj g
  exact kY (v := (.bool true)) rfl rfl ⟨_, _, rfl, (d.lM (Kb (Kr Sn))), (.slice D J.length I), a3, rfl, rfl, N⟩
theorem EM (g : Nat) (c : Value) (j : List Int) (a : LO) (u : Value) (D : List Int) (r : (Bool × (List Int))) (w : World) {Z : kl} (h : nB Z ((g, Ob #[c] 92) :: (a ++ [])) w) (i : jT 5 (lu .u8) 1 c j a) (k : Sl (Pl (lu .u8)) 1 Z u D) (hm : xg j D = some r) :
  lF true Tryz.prog 165 [(.pointer (some ⟨g, 0, none⟩)), u] w ((g, Ob #[c] 92) :: (a ++ [])) (fun v L1 W' => ∃ U M, v = (.bool (r.1)) ∧ L1 = ((g, Ob #[U] 92) :: (M ++ [])) ∧ jT 5 (lu .u8) 1 U r.2 M) := by
 refine AS h 25 func165 rfl (fun b => sg (Wa (lS (Wm (V (wO gJ rfl rfl) (Wm (Vg rfl rfl (jE rfl) (Vg rfl rfl (kK cW rfl k) (Vg rfl rfl (kx rfl rfl rfl) ?_)))))))))
 refine V (jN rfl rfl) (ln (CI hm rfl (fun Q hm => ?_) (fun Q hm => ?_)))
 ·refine sg (Wa (lt (kj ?_)))
  obtain rfl := sj hm
  exact kY (v := (.bool false)) rfl rfl ⟨_, _, rfl, (b.lM (Kb (Kr Sn))), c, a, rfl, rfl, i⟩
 refine kg (Wm (Wm (V (kK cW rfl k) (bS hm fun q T hm => ?_))))
 refine VE (eM b (Cb Pz (Cr Qz Cn)) call268 (fun l _ => (rb g c j a (D.length : Int) _ _ l i T)) ?_)
 rintro _ v8 n a3 b H m d ⟨Y, K, t, rfl, I⟩
 obtain rfl := t.symm
 replace b := b.perm (Tb (Tr Tn))
 refine lr (Wm (Wm (Wn (Wf AF (VB b Mh rfl rfl isAgg54 (Wm ?_))))))
 replace b := b.perm (Nr (Qb Qz) Nz)
 refine bS hm fun B G hm => VE (ns (enc := (lu .u8)) (v := Y) (vs := u) (R := K) b (fun _ => rfl) dc (Fw _) cW se.1 se.2.1 rfl se.2.2.1 se.2.2.2 rfl rfl I (k.mono (Pl.mono _) (H.trans b.jD)) G (fun a4 p J b z => Wn (Wf AF ?_)))
 obtain ⟨x, y, rfl⟩ := z.form
 replace b := b.perm (Nb (Pr Pz) Nz)
 refine VO (jL (.slice x B.length y) (#[(.slice x B.length y)]) b rfl rfl ji oc nb rfl (fun a5 b => lr (Wa (lt ?_))))
 obtain rfl := sj hm
 exact kY (v := (.bool true)) rfl rfl ⟨_, _, rfl, (b.lM (Kb (Kr Sn))), (.slice x B.length y), J, rfl, rfl, z⟩
theorem yF (j : Nat) (c : Value) (t : List Int) (a : LO) (J : ByteArray) (r : (Bool × (List Int))) (w : World) {Z : kl} (A : nB Z ((j, Ob #[c] 92) :: (a ++ [])) w) (k : jT 5 (lu .u8) 1 c t a) (hm : tK t J = some r) :
  lF true Tryz.prog 270 [(.pointer (some ⟨j, 0, none⟩)), (.string J)] w ((j, Ob #[c] 92) :: (a ++ [])) (fun v L1 W' => ∃ n S2, v = (.bool (r.1)) ∧ L1 = ((j, Ob #[n] 92) :: (S2 ++ [])) ∧ jT 5 (lu .u8) 1 n r.2 S2) := by
 refine AS A 17 func270 rfl (fun b => sg (Wa (lr (Wm (V (Cj gJ rfl rfl) (Wm (Vg rfl rfl (jE rfl) (bS hm fun r1 a4 hm => LC rfl rfl (Eg b call152 (wv J _ _  a4) (fun W3 b => V (jM rfl rfl) ?_))))))))))
 refine Wm (LJ hm (fun B E W => ∃ z x D I, kd Z D ∧ ST true (keys ((j, Ob #[c] 92) :: (a ++ []))) w W D ((j, Ob #[z] 92) :: (x ++ I)) ∧ E 4 = (.bool false) ∧ E 16 = (.bool B.1) ∧ jT 5 (lu .u8) 1 z B.2 x) 5 ?_ (fun B g y => ?_))
 ·rintro ⟨q, c0⟩ E W ⟨z, x, D, I, L, b, b9, a3, T⟩ M
  refine Wg a3 (lt ?_)
  obtain rfl := sj M
  exact kY (v := (.bool q)) rfl rfl ⟨_, _, rfl, (b.lM (Kb (Kr Sn))), z, x, rfl, rfl, T⟩
 refine bC g (fun i g => ?_) (fun i g => ?_)
 ·refine ug i (jE rfl) (ug i (jE rfl) (bS g fun a5 N g => qI i (HJ b bZ cW gf rfl N (fun R p c3 b G l U O => bS g fun c1 Q g => ?_))))
  refine qI i (eM b (Cb Pz (Cr Qz Cn)) call165 (fun F h => (EM j c t a p a5 _ _ F k (U.mono (Pl.mono _) h) Q)) ?_)
  rintro _ c2 s P b H m d ⟨a9, a2, u, rfl, Y⟩
  obtain rfl := u.symm
  replace b := b.perm (Tb (Tr Tn))
  refine V (jM (cB i) rfl) ?_
  obtain rfl := sj g
  exact y _ _ ⟨a9, a2, s, _, (G.trans H), (b.ju St), rfl, rfl, Y⟩
 refine un i (un i (un i (un i (V (jN (cB i) rfl) ?_))))
 obtain rfl := sj g
 exact y _ _ ⟨c, a, Z, _, (kd.refl _), (b.ju St), rfl, rfl, k⟩
theorem uG (c : Nat) (i : Value) (D : List Int) (a : LO) (x : jq) (r : (Bool × (List Int))) (w : World) {μ0 : kl} (h0 : nB μ0 ((c, Ob #[i] 92) :: (a ++ [])) w) (y : jT 5 (lu .u8) 1 i D a) (hm : pB D x = some r) :
  lF true Tryz.prog 269 [(.pointer (some ⟨c, 0, none⟩)), (.agg (jA x).toArray)] w ((c, Ob #[i] 92) :: (a ++ [])) (fun v L1 W' => ∃ q S2, v = (.bool (r.1)) ∧ L1 = ((c, Ob #[q] 92) :: (S2 ++ [])) ∧ jT 5 (lu .u8) 1 q r.2 S2) := by
 let l := ((c, Ob #[i] 92) :: (a ++ []))
 refine AS h0 23 func269 rfl (fun b => sg (VE (km b rfl (fun W2 m b => Wa (lr (Wm (V (Cj gJ rfl rfl) (Wm (Vg rfl rfl (jw rfl (jz b.has Mh (jA x) rfl bG aQ)) (bS hm fun r3 c4 hm => LC rfl rfl (Eg b jm (tN x _ _  c4) (fun W5 b => ?_))))))))))))
 refine V (jM rfl rfl) (Wm (LJ hm (fun T E W => ∃ z u B a0, kd μ0 B ∧ ST true (keys l) w W B ((m, Ol (jA x) 28) :: ((c, Ob #[z] 92) :: (u ++ a0))) ∧ E 0 = (.pointer (some ⟨c, 0, none⟩)) ∧ E 3 = (.pointer (some ⟨m, 0, none⟩)) ∧ E 4 = (.bool false) ∧ E 16 = (.bool T.1) ∧ jT 5 (lu .u8) 1 z T.2 u) 5 ?_ (fun T t K => ?_)))
 ·rintro ⟨e6, c5⟩ E W ⟨z, u, B, a0, d2, b, c0, c1, a3, c2, N⟩ s
  refine Wh c2 (LJ s (fun Q E W => ∃ M I U a2, kd B U ∧ ST true (keys l) w W U ((c, Ob #[M] 92) :: (I ++ a2)) ∧ E 4 = (.bool false) ∧ E 22 = (.bool Q.1) ∧ jT 5 (lu .u8) 1 M Q.2 I) 5 ?_ (fun Q k J => ?_))
  ·rintro ⟨c6, e1⟩ E W ⟨M, I, U, a2, d3, b, e0, c3, L⟩ A
   refine Wg c3 (lt ?_)
   obtain rfl := sj A
   exact kY (v := (.bool c6)) rfl rfl ⟨_, _, rfl, (b.lM (Kb (Kr Sn))), M, I, rfl, rfl, L⟩
  refine bC k (fun g k => ?_) (fun g k => ?_)
  ·refine ug g (jE c0) (ug g (jC uj c1) (ug g (jw rfl (jO b.has Mh rfl bV)) (bS k fun e2 F k => ?_)))
   refine qI g (eM b (Cb (Pb Pz) (Cr (Qb Qz) Cn)) call270 (fun h _ => (yF c z c5 u x.jy _ _ h N F)) ?_)
   rintro _ e4 d0 d6 b Y n d ⟨c8, R, G, rfl, O⟩
   obtain rfl := G.symm
   replace b := b.perm (Tb (Tr Tn))
   refine V (jM (cB g) rfl) ?_
   obtain rfl := sj k
   exact J _ _ ⟨c8, R, d0, _, Y, (b.ju (Kb (Kr (Db St)))), a3, rfl, O⟩
  refine un g (un g (un g (un g (V (jN (cB g) rfl) ?_))))
  obtain rfl := sj k
  exact J _ _ ⟨z, u, B, _, (kd.refl _), (b.ju (Db St)), a3, rfl, N⟩
 refine bC t (fun j t => ?_) (fun j t => ?_)
 ·refine ug j (jE rfl) (ug j (jC oQ rfl) (ug j (jw rfl (jO b.has Mh rfl bV)) (bS t fun e3 a9 t => ?_)))
  refine qI j (eM b (Cb (Pb Pz) (Cr (Qb Qz) Cn)) call270 (fun h _ => (yF c i D a x.js _ _ h y a9)) ?_)
  rintro _ e5 d1 d7 b Z p d ⟨c9, b7, H, rfl, P⟩
  obtain rfl := H.symm
  replace b := b.perm (Tb (Tr Tn))
  refine V (jM (cB j) rfl) ?_
  obtain rfl := sj t
  exact K _ _ ⟨c9, b7, d1, _, Z, (b.ju (Sb (Pb (Pr Pz)) St)), rfl, rfl, rfl, rfl, P⟩
 refine un j (un j (un j (un j (V (jN (cB j) rfl) ?_))))
 obtain rfl := sj t
 exact K _ _ ⟨i, a, μ0, _, (kd.refl _), (b.ju St), rfl, rfl, rfl, rfl, y⟩
theorem HW (g : Value) (i r : List Int) (w : World) (a : Sl (Pl (lu .u8)) 1 (hp w) g i) (hm : tY i = some r) :
  lz true Tryz.prog 153 [g] w 5 (lu .u8) 1 r := by
 unfold tY at hm
 refine tF 8 func153 rfl (fun b => sg (Wa (lS (Wm ?_))))
 obtain ⟨y, B, rfl⟩ := a.form
 refine V (zt cW rfl rfl) (ln ?_)
 rcases y with _ | z
 ·have u := a.isNil
  replace hm : some [] = some r := by rw [u] at hm; simpa [mu, maxLen] using hm
  refine wK (rfl) (sg (Wa (lt (kj ?_))))
  obtain rfl := sj hm
  exact kY (v := (.slice none 0 0)) rfl rfl ⟨_, [], rfl, b.nx (fun p d => by cases d) (by simp), jT.nil _ _ _⟩
 ·refine rE (rfl) (kg (VE (jX (cs := #[]) b pM (yS [] cW sizeOf5 jb dc rfl (by simp) rfl rfl) (fun G k b => Wm (bS hm fun H t hm => VE (ns (enc := (lu .u8)) (v := (.slice (some ⟨k, 0, none⟩) 0 0)) (vs := (.slice (some z) i.length B)) (R := [(k, Ob #[] 5)]) b (fun _ => rfl) dc (Fw _) cW se.1 se.2.1 rfl se.2.2.1 se.2.2.2 rfl rfl (jT.lit (l := []) (enc := (lu .u8)) rfl dc rfl rfl) (a.mono (Pl.mono _) b.jD) t (fun D x j b c => Wa (lt ?_))))))))
  obtain rfl := sj hm
  exact kY (v := x) rfl rfl ⟨_, j, rfl, b.nx (fun p d => (Ml d)) c.nd, c⟩
theorem AN (g : Nat) (a : Value) (c r : List Int) (w : World) (j : Sl (Pl (lu .u8)) 1 (hp w) a c) (k : At (hp w) (.pointer (some ⟨g, 0, none⟩)) [a]) (hm : tw c = some r) :
  lz true Tryz.prog 66 [(.pointer (some ⟨g, 0, none⟩))] w 5 (lu .u8) 1 r := by
 refine tF 10 func66 rfl (fun b => sg (Wa (lS (Wm (V (wO gJ rfl rfl) (ln (rE rfl (kP ?_))))))))
 refine jF (sg (Wm (Wn (VQ (Du [a] AF rfl k rfl) (fun G u => V (jw rfl (sG b.has (y := a) u isAgg54)) (bS hm fun H x hm => VE (pv b call153 (HW a c _ _ (j.mono (Pl.mono _) b.jD) x) (fun D z I t b B d i => Wa (lt ?_)))))))))
 obtain rfl := sj hm
 exact kY (v := z) rfl rfl ⟨_, t, rfl, b.nx (fun p h => (Ml h)) i.nd, i⟩
theorem DA (c : jr) (r : List Int) (w : World) (hm : wG c = some r) :
  lz true Tryz.prog 155 [(.agg (jv c).toArray)] w 5 (lu .u8) 1 r := by
 refine tF 53 func155 rfl (fun d => sg (VE (km d rfl (fun W2 b1 d => Wa (lS (VA d Mh (jv c) bM aJ (bS hm fun r3 g3 hm => VE (Eg d call137 (yo c _ _  g3) (fun W5 d => V (nH rfl) (jW ?_))))))))))
 refine jF (CI hm rfl (fun g0 hm => ?_) (fun g0 hm => ?_))
 ·refine sg (Wa (ln ?_))
  replace d := d.ju (Db St)
  refine jU (kj ?_)
  obtain rfl := sj hm
  exact kY (v := (.slice none 0 0)) rfl rfl ⟨_, [], rfl, d.nx (fun p m => by cases m) (by simp), jT.nil _ _ _⟩
 refine kg (V (kZ (v := (.agg #[(.slice none 0 0)])) pM (kE zeroValue92 gI (Qi _ gI) kr)) (VE (km d rfl (fun W8 g d => Wa (lr (Wm (Wf qj (VB d (Mt Mh) rfl rfl cC (bS hm fun r9 e2 hm => ?_)))))))))
 refine VE (eM d (Cb Pz (C0 Cn)) call268 (fun l _ => (rb g (.slice none 0 0) ([]) [] c.Kind _ _ l (jT.nil _ _ _) e2)) ?_)
 rintro _ k3 k5 j9 d g7 P h ⟨g4, f9, I, rfl, e4⟩
 obtain rfl := I.symm
 replace d := d.perm (Tb (Tr Tn))
 refine lr (Wm (Wf qf (VA d (Mt (Ma Mh)) (jA c.Head) bG aQ (bS hm fun N e3 hm => ?_))))
 refine VE (eM d (Cb Pz (Cr Qz Cn)) call269 (fun l _ => (uG g g4 r9.2 f9 c.Head _ _ l e4 e3)) ?_)
 rintro _ k4 d1 k0 d g8 R h ⟨G, D, J, rfl, i⟩
 obtain rfl := J.symm
 replace d := d.perm (Tb (Tr Tn))
 refine ln (jK (CJ hm (fun a3 E W => ∃ B H K Q, kd d1 K ∧ ST true ku w W K ((g, Ob #[B] 92) :: (H ++ Q)) ∧ E 3 = (.pointer (some ⟨g, 0, none⟩)) ∧ jT 5 (lu .u8) 1 B a3 H) (fun a3 a => ?_) ?_))
 ·refine sg (Wf qj (VB d (Mt (Ma Mh)) rfl rfl cC (ln (bg (Wi rfl (Wa (ln (CI a rfl (fun b0 a => ?_) (fun b0 a => ?_)))))))))
  ·refine jI (Wm (Wf wm (VB d (Mt (Ma Mh)) rfl rfl bV (bS a fun i3 b6 a => ?_))))
   refine VE (eM d (Cb Pz (Cr Qz Cn)) call270 (fun l _ => (yF g G N.2 D c.ky _ _ l i b6)) ?_)
   rintro _ i8 f5 g9 d T q h ⟨e9, d3, k, rfl, c5⟩
   obtain rfl := k.symm
   replace d := d.perm (Tb (Tr Tn))
   refine jW (ko (jF ?_))
   obtain rfl := sj a
   exact ⟨e9, d3, f5, _, T, (d.ju (Kb (Kr (Db St)))), rfl, c5⟩
  refine sg (Wi rfl (Wa (ln (CI a rfl (fun b2 a => ?_) (fun b2 a => ?_)))))
  ·refine jI (Wm (Wf nz (VA d (Mt (Ma Mh)) (jA c.B) bG aQ (bS a fun i4 b9 a => ?_))))
   refine VE (eM d (Cb Pz (Cr Qz Cn)) call269 (fun l _ => (uG g G N.2 D c.B _ _ l i b9)) ?_)
   rintro _ i9 f6 h0 d U s h ⟨f0, d4, t, rfl, c6⟩
   obtain rfl := t.symm
   replace d := d.perm (Tb (Tr Tn))
   refine jW (ko (jF ?_))
   obtain rfl := sj a
   exact ⟨f0, d4, f6, _, U, (d.ju (Kb (Kr (Db St)))), rfl, c6⟩
  refine sg (Wi rfl (Wa (ln (CI a rfl (fun b3 a => ?_) (fun b3 a => ?_)))))
  ·refine sg (Wm (Wf nz (VA d (Mt (Ma Mh)) (jA c.B) bG aQ (bS a fun e6 c0 a => ?_))))
   refine VE (eM d (Cb Pz (Cr Qz Cn)) call269 (fun l _ => (uG g G N.2 D c.B _ _ l i c0)) ?_)
   rintro _ j0 j7 h1 d Y A h ⟨f1, d5, u, rfl, c7⟩
   obtain rfl := u.symm
   replace d := d.perm (Tb (Tr Tn))
   refine ln (jI (Wm (Wf uf (VB d (Mt (Ma Mh)) rfl rfl bV (bS a fun i5 c1 a => ?_)))))
   refine VE (eM d (Cb Pz (Cr Qz Cn)) call270 (fun l _ => (yF g f1 e6.2 d5 c.kF _ _ l c7 c1)) ?_)
   rintro _ j3 f7 h2 d Z F h ⟨f2, d6, x, rfl, c8⟩
   obtain rfl := x.symm
   replace d := d.perm (Tb (Tr Tn))
   refine jW (ko (jF ?_))
   obtain rfl := sj a
   exact ⟨f2, d6, f7, _, (Y.trans Z), (d.ju (Kb (Kr (Db St)))), rfl, c8⟩
  refine sg (Wi rfl (Wa (ln (CI a rfl (fun b4 a => ?_) (fun b4 a => ?_)))))
  ·refine sg (Wm (Wf nz (VA d (Mt (Ma Mh)) (jA c.B) bG aQ (bS a fun e7 c2 a => ?_))))
   refine VE (eM d (Cb Pz (Cr Qz Cn)) call269 (fun l _ => (uG g G N.2 D c.B _ _ l i c2)) ?_)
   rintro _ j4 j8 h3 d a1 L h ⟨f3, d7, y, rfl, c9⟩
   obtain rfl := y.symm
   replace d := d.perm (Tb (Tr Tn))
   refine ln (jI (Wm (Wf rR (VA d (Mt (Ma Mh)) (jA c.C) bG aQ (bS a fun i6 c3 a => ?_)))))
   refine VE (eM d (Cb Pz (Cr Qz Cn)) call269 (fun l _ => (uG g f3 e7.2 d7 c.C _ _ l c9 c3)) ?_)
   rintro _ j5 f8 h4 d a2 O h ⟨f4, d8, z, rfl, d0⟩
   obtain rfl := z.symm
   replace d := d.perm (Tb (Tr Tn))
   refine jW (ko (jF ?_))
   obtain rfl := sj a
   exact ⟨f4, d8, f8, _, (a1.trans a2), (d.ju (Kb (Kr (Db St)))), rfl, d0⟩
  refine kP (ko (jF ?_))
  obtain rfl := sj a
  exact ⟨G, D, d1, _, (kd.refl _), (d.ju (Kb (Kr (Db St)))), rfl, i⟩
 rintro e5 E W ⟨B, H, K, Q, g1, d, d9, c4⟩ j
 refine sg (Wh d9 (bS j fun i2 b5 j => VE (pv d call66 (AN g B e5 _ _ (c4.sl (fun _ => rfl) (fun b o m => d.at_ (Mt (Ml m)))) (At.of (d.at_ Mh) _ rfl) b5) (fun h5 e8 j6 d2 d g2 n M => Wa (ln ?_)))))
 replace d := d.ju (Kr (Db (Dr St)))
 refine jU ?_
 obtain rfl := sj j
 exact kY (v := e8) rfl rfl ⟨_, d2, rfl, d.nx (fun p m => (Ml m)) M.nd, M⟩
theorem Qp (w : World) {d g : Value} {a b : List Int} (h1 : Sl (Pl (lu .u8)) 1 (hp w) d a) (h : Sl (Pl (lu .u8)) 1 (hp w) g b) : (callFunc 369 [d, g].toArray).run Tryz.prog w = .ok (.value (.int .i64 (xU a b))) w := N2 func369 (by kernel_rfl) (by kernel_rfl) (by kernel_rfl) (by kernel_rfl) h1 h
theorem Be (a : Value) (g : List Int) (c : Value) (i : List Int) (r : Int) (w : World) (j : Sl (Pl (lu .u8)) 1 (hp w) a g) (k : Sl (Pl (lu .u8)) 1 (hp w) c i) (hm : vU g i = some r) :
  jS true Tryz.prog 323 [a, c] w (.int .i64 r) := by
 exact cG 8 func323 rfl (fun b => sg (Wa (lr (Wm (Wm (VE (KF (args := [a, c]) (v := .int .i64 (xU g i)) rfl (by exact we rfl rfl) (Qp _ (j.mono (Pl.mono _) b.jD) (k.mono (Pl.mono _) b.jD)) (Wa (lt (rQ hm b))))))))))
theorem Hg (g i : jr) (r : Int) (w : World) (hm : th g i = some r) :
  jS true Tryz.prog 231 [(.agg (jv g).toArray), (.agg (jv i).toArray)] w (.int .i64 r) := by
 refine cG 10 func231 rfl (fun d => sg (VE (km d rfl (fun T Y d => VE (km d rfl (fun U Z d => Wa (ln (jK ?_))))))))
 replace d := d.drew
 have h := d.has.ju (Kb (Kb Sn))
 refine kJ h kw (XH 0 rfl h (fun _ l => jw rfl (jz l (Mt Mh) (jv g) rfl bM aJ)) (XH 2 rfl h (fun _ l => jw rfl (jz l Mh (jv i) rfl bM aJ)) (bS hm fun y t hm => XE 1 rfl (pv d call155 (DA g _ _  t) (fun I B N G d a n j => ?_)))))
 have h := d.has.tH a (Dr (Kb (Kb Sn)))
 refine ⟨h, (bS hm fun z u hm => XE 3 rfl (pv d call155 (DA i _ _  u) (fun J D Q H d c p k => ?_)))⟩
 have h := d.has.tH (a.trans c) (Dr (Dr (Kb (Kb Sn))))
 refine ⟨h, (bS hm fun M x hm => XE 4 rfl (Eg d call323 (Be B y D z _ _ (j.sl (fun _ => rfl) (fun b o m => d.at_ (Ma (Ml m)))) (k.sl (fun _ => rfl) (fun b o m => d.at_ (Ml m))) x) (fun K d => ?_)))⟩
 have h := d.has.tH (a.trans c) (Dr (Dr (Kb (Kb Sn))))
 refine ⟨h, (X 5 rfl h (nu rfl) (kW kr (jF ?_)))⟩
 exact jU (rQ hm d)
theorem Ca (j : Value) (a0 : List jr) (x : LO) (r : List jr) (w : World) {μ0 : kl} (h0 : nB μ0 (x ++ []) w) (B : jT 53 jv 9 j a0 x) (hm : rZ a0 = some r) :
  lF true Tryz.prog 232 [j] w (x ++ []) (fun v L1 W' => ∃ y1 S2, v = y1 ∧ L1 = (S2 ++ []) ∧ jT 53 jv 9 y1 r S2) := by
 refine AS h0 61 func232 rfl (fun b => sg (Wa (lS (Wm (V (mI aI rfl B) (Wi rfl (ln (CI hm rfl (fun g0 hm => ?_) (fun g0 hm => ?_)))))))))
 ·refine sg (Wm (Wa (lt (kj ?_))))
  obtain rfl := sj hm
  exact kY (v := j) rfl rfl ⟨_, _, rfl, (b.lM (Kr Sn)), j, x, rfl, rfl, B⟩
 refine kS (Wa (ln (ll (mU (fun m E W => ∃ t R, ST true (keys (x ++ [])) w W μ0 (x ++ R) ∧ E 0 = j ∧ E 3 = (.int .i64 t) ∧ nW a0 m t = some r) jY ⟨1, _, (b.ju St), rfl, rfl, hm⟩ ?_))))
 rintro m E W ⟨t, R, b, D, H, a⟩
 cases m with
 | zero => rw [nW] at a; cases a
 | succ f5 =>
  refine jK (sg (Wh H (Wh D (V (mI aI rfl B) (Wi rfl (ln (CI a rfl (fun d0 a => ?_) (fun d0 a => ?_))))))))
  ·refine kn (jK (ll (jK ?_)))
   replace b := b.drew
   have d := b.has.ju (Kr Sn)
   refine kJ d kw (X 0 rfl d (jE D) (X 1 rfl d (jE H) (bS a fun c3 Z a => XQ 2 rfl d (pe (i := t) (x0 := c3) aI aJ rfl rfl B (kk Z) (ki Z)) (fun g7 d6 => XH 3 rfl d (fun _ l => jw rfl (vl l (fun p h => (Ml h)) B jV d6 (ki Z) bM aJ)) (X 4 rfl d (jE D) (X 5 rfl d (jE H) (X 6 rfl d (kx rfl rfl rfl) (bS a fun c4 n a => XQ 7 rfl d (pe (i := (IntKind.i64.wrap (t - 1))) (x0 := c4) aI aJ rfl rfl B (kk n) (ki n)) (fun g8 d7 => XH 8 rfl d (fun _ l => jw rfl (vl l (fun p h => (Ml h)) B jV d7 (ki n) bM aJ)) (X 9 rfl d (uB rfl rfl (nm fi) (qO (vh _ c3 c4))) (kW kr (jF ?_))))))))))))
   refine CI a rfl (fun d1 a => ?_) (fun d1 a => ?_)
   ·refine sg (Wh D (Wh H (bS a fun _ F a => VQ (zo (i := t) aI aJ rfl rfl B (vd F) (vc F)) (fun c1 M => Wa (lS (Wa (ln ?_)))))))
    refine CJ a (fun U E W => ∃ q b5, ST true (keys (x ++ [])) w W μ0 (q ++ b5) ∧ E 0 = j ∧ E 3 = (.int .i64 U.2) ∧ jT 53 jv 9 j U.1 q) (fun U d4 => ?_) ?_
    ·refine ll (mU (fun m E W => ∃ s K Y y b6, ST true (keys (x ++ [])) w W μ0 (K ++ b6) ∧ E 0 = j ∧ E 3 = (.int .i64 Y) ∧ E 4 = c1 ∧ E 5 = (.int .i64 y) ∧ jT 53 jv 9 j s K ∧ nZ t m s Y y = some U) jY ⟨a0, x, t, 1, _, (b.ju St), D, H, rfl, rfl, B, d4⟩ ?_)
     rintro m E W ⟨s, K, Y, y, b6, b, Q, T, I, J, g, k⟩
     cases m with
     | zero => rw [nZ] at k; cases k
     | succ f6 =>
      refine jK (sg (Wh J (Wh I (V (HR aI rfl M g) (Wi rfl (ln (CI k rfl (fun d2 k => ?_) (fun d2 k => ?_))))))))
      ·refine kn (jK (CJ k (fun A E W => ∃ N b7, ST true (keys (x ++ [])) w W μ0 (N ++ b7) ∧ E 0 = j ∧ E 3 = (.int .i64 A.2) ∧ E 4 = c1 ∧ E 5 = (.int .i64 y) ∧ jT 53 jv 9 j A.1 N) (fun A c => ?_) ?_))
       ·refine ll (jK ?_)
        replace b := b.drew
        have d := b.has.ju (Kr Sn)
        refine kJ d kw (X 0 rfl d (jE I) (X 1 rfl d (jE J) (bS c fun c6 a2 c => XQ 2 rfl d (zg (i := y) (x0 := c6) aI aJ rfl rfl g M (kk a2) (ki a2)) (fun g9 d8 => XH 3 rfl d (fun _ l => jw rfl (vl l (fun p h => (Ml h)) g jV d8 (AB (ki a2)) bM aJ)) (X 4 rfl d (jE I) (X 5 rfl d (jE J) (X 6 rfl d (kx rfl rfl rfl) (bS c fun c7 a3 c => XQ 7 rfl d (zg (i := (IntKind.i64.wrap (y - 1))) (x0 := c7) aI aJ rfl rfl g M (kk a3) (ki a3)) (fun h1 d9 => XH 8 rfl d (fun _ l => jw rfl (vl l (fun p h => (Ml h)) g jV d9 (AB (ki a3)) bM aJ)) (X 9 rfl d (Gm rfl rfl (nm fi) (B9 (vh _ c6 c7))) (kW kr (jF ?_))))))))))))
        refine CI c rfl (fun d3 c => ?_) (fun d3 c => ?_)
        ·refine sg (Wh Q (Wh T (Wh I (Wh J (bS c fun a9 a4 c => VQ (zg (i := y) (x0 := a9) aI aJ rfl rfl g M (kk a4) (ki a4)) (fun h2 e0 => V (jw rfl (vl b.has (fun p h => (Ml h)) g jV e0 (AB (ki a4)) bM aJ)) (bS c fun f8 a5 c => VQ (pe (i := Y) (x0 := f8) aI aJ rfl rfl g (kk a5) (ki a5)) (fun h3 e1 => VO (Co (u := (.agg (jv a9).toArray)) (x1 := a9)  b g jV mT rfl rfl rfl e1 (ki a5) aJ (fun g3 e8 b c9 => ln (jI ?_)))))))))))
         refine Wh T (Wi rfl (Wa (jW (ko (jF ?_)))))
         obtain rfl := sj c
         exact ⟨e8, _, (b.ju St), Q, rfl, I, J, c9⟩
        refine kP (ko (jF ?_))
        obtain rfl := sj c
        exact ⟨K, _, (b.ju St), Q, T, I, J, g⟩
       rintro ⟨f4, f7⟩ E W ⟨N, b7, b, f0, f1, f2, f3, e4⟩ d5
       exact jI (Wh f3 (Wi rfl (Wa (ln ⟨f6, bE _, f4, N, f7, (IntKind.i64.wrap (y + 1)), _, (b.ju St), f0, f1, f2, rfl, e4, d5⟩))))
      refine mZ (mS (mS (qx (jF ?_))))
      obtain rfl := sj k
      exact ⟨K, _, (b.ju St), Q, T, g⟩
    rintro ⟨g4, c5⟩ E W ⟨q, b5, b, b9, c0, P⟩ G
    refine sg (Wh b9 (Wh c0 (bS G fun _ L G => VQ (zo (i := c5) aI aJ rfl rfl P (vd L) (vc L)) (fun h4 e2 => VO (BH (z := Qt)  b P jV mT aI cH e2 rfl rfl (fun g2 e7 b c8 => lr (Wh b9 (Wh c0 (bS G fun _ O G => VQ (D9 (i := c5) aI aJ rfl rfl c8 jV (vd O) (vc O)) (fun c2 e3 => ?_))))))))))
    refine Wa (lt (me (kj (kj (me (kj ?_))))))
    obtain rfl := sj G
    exact kY (v := c2) rfl rfl ⟨_, _, rfl, (b.lM (Kr Sn)), c2, e7, rfl, rfl, e3⟩
   exact kP (ko (jF (jI (Wh H (Wi rfl (Wa (ln ⟨f5, bE _, (IntKind.i64.wrap (t + 1)), _, (b.ju St), D, rfl, a⟩)))))))
  refine mZ (mS (mS (qx (jF (sg (Wh D (Wa (lt ?_))))))))
  obtain rfl := sj a
  exact kY (v := j) rfl rfl ⟨_, _, rfl, (b.lM (Kr Sn)), j, x, rfl, rfl, B⟩
theorem FR (i : Value) (t r : List jr) (w : World) (B : Sl (Pl jv) 9 (hp w) i t) (hm : uh t = some r) :
  lz false Tryz.prog 116 [i] w 53 jv 9 r := by
 refine tF 11 func116 rfl (fun b => sg (Wa (lr (Wm (bS hm fun y T hm => VE (pv b call228 (lz.li (vR i t _ _ (B.mono (Pl.mono _) b.jD) T)) (fun W3 v7 z R8 b a5 q Q => bS hm fun U D hm => ?_)))))))
 refine VE (eM b (Cr Qz Cn) call143 (fun h _ => (tz v7 y R8 (.func (.func 229) #[] #[]) (fun (x : jr) => xF x) _ _ h Q ⟨229, #[], #[], rfl, call229, fun W x r u hm => (H5 x r W  hm).li⟩ D)) ?_)
 rintro _ O b9 E b A l d ⟨k, K, a, rfl, I⟩
 obtain rfl := a.symm
 replace b := b.perm (Tr Tn)
 refine Wa (lr (Wm (bS hm fun Y G hm => ?_)))
 refine VE (eM b (Cr Qz Cn) call230 (fun h _ => lF.li (KW k U K (.func (.func 231) #[] #[]) (fun (x : (jr × jr)) => th x.1 x.2) _ _ h I ⟨231, #[], rfl, call231, fun W x r u hm => Hg x.1 x.2 r W  hm⟩ G)) ?_)
 rintro _ P c0 a9 b a2 m d ⟨M, c, rfl, J⟩
 obtain rfl := c.symm
 replace b := b.perm (Tr Tn)
 refine lr (Wm (bS hm fun L H hm => ?_))
 refine VE (eM b (Cr Qz Cn) call232 (fun h _ => lF.li (Ca k Y M _ _ h J H)) ?_)
 rintro _ R c1 F b a3 n d ⟨Z, N, g, rfl, j⟩
 obtain rfl := g.symm
 replace b := b.perm (Tr Tn)
 refine Wa (lt ?_)
 obtain rfl := sj hm
 exact kY (v := Z) rfl rfl ⟨_, N, rfl, b.nx (fun p s => (Ml s)) j.nd, j⟩
theorem EP (x : kI) (j t : Value) (r : List jr) (w : World) (g : Sl kc 15 (hp w) j x.jH) (B : Sl kX 8 (hp w) t x.ke) (hm : uu x = some r) :
  lz false Tryz.prog 174 [(.agg #[(.string x.Name), j, t])] w 53 jv 9 r := by
 refine tF 22 func174 rfl (fun d => sg ?_)
 obtain ⟨A1, c2, rfl⟩ := g.form
 obtain ⟨A3, c4, rfl⟩ := B.form
 refine VE (km d rfl (fun W6 b5 d => Wa (lr (Wa (lS (Wf qM (VB d Mh rfl rfl fK (V (kK cP rfl g) ?_))))))))
 refine Wm (ln ?_)
 replace d := d.ju (Db St)
 refine kB (fun i E W => ∃ k y u D, (E 9 = .int .i64 (i : Nat) ∧ E 8 = .int .i64 (x.jH.length : Nat)) ∧ ST false ku w W (hp w) (u ++ D) ∧ E 3 = k ∧ E 7 = (.slice A1 x.jH.length c2) ∧ jT 53 jv 9 k y u ∧ pg (x.jH.drop i) y = some r) x.jH.length g.len ⟨(.slice none 0 0), ([]), [], _, ⟨rfl, rfl⟩, (d.ju St), rfl, rfl, (jT.nil _ _ _), hm⟩ dc dc dc (fun _ _ _ h => by obtain ⟨_, _, _, _, n, _⟩ := h; exact n) ?_ ?_
 ·rintro b6 E W U ⟨k, y, u, D, ⟨m, A⟩, d, G, H, z, c⟩
  obtain ⟨a, d2, O, L, P⟩ := kq U
  rw [O] at c
  refine bg (VQ (lK (i := (b6 : Int)) (x0 := a) kc.out cP cU H m g (aH _) L) (fun c8 ⟨_, ⟨d0, d1, rfl, F, a2⟩, Y⟩ => V (jw rfl (jR d.has Y gK cU)) (VE (kf d eP (fun b9 c6 d => ?_)))))
  obtain ⟨J, M, rfl⟩ := F.form
  obtain ⟨K, N, rfl⟩ := a2.form
  let a0 := (C3 a.Signed.jr.Kind a.Signed.jr.Head.js a.Signed.jr.Head.jy a.Signed.jr.ky a.Signed.jr.B.js a.Signed.jr.B.jy a.Signed.jr.C.js a.Signed.jr.C.jy a.Signed.jr.kF J a.Signed.Tag.length M a.jx.Op a.jx.K a.jx.jq.js a.jx.jq.jy K a.jx.Kids.length N)
  refine VO (jL (.agg a0.toArray) (a0.toArray) d rfl rfl cU oc nb rfl (fun c0 d => ln (jI (Wh G (Wf vI (Wf xj (VA d Mh (jv a.Signed.jr) bM aJ (VE (jX (cs := (jv a.Signed.jr).toArray) d (lJ rfl) (lW aI aJ cH) (fun c1 a5 d => ?_))))))))))
  replace d := d.perm (Nr (Qb (Qb Qz)) Nz)
  refine bS c fun a9 T c => VE (ns (enc := jv) (v := k) (vs := (.slice (some ⟨a5, 0, none⟩) 1 1)) (R := u) d jV dc mT aI mh.1 mh.2.1 rfl mh.2.2.1 mh.2.2.2 rfl rfl z (Sl.lit (enc := jv) (l := [a.Signed.jr]) jV rfl nb rfl (d.at_ (Ma Mh))) T (fun c3 b0 a3 d Q => Wa (jW (ko (jF ?_)))))
  replace d := d.ju (Kr (Db (Db St)))
  exact ⟨m, b0, a9, a3, _, ⟨rfl, A⟩, (d.ju St), rfl, H, Q, (by rw [P]; exact c)⟩
 rintro E W ⟨k, y, u, D, ⟨m, A⟩, d, G, H, z, c⟩
 rw [aN] at c
 refine jF (sg (Wh G (bS c fun c9 Z c => VE (pv d call116 (FR k y _ _ (z.sl jV (fun b o s => d.at_ (Ml s))) Z) (fun c5 b1 d3 a4 d b4 q I => Wa (ln ?_))))))
 replace d := d.ju (Kr (Dr St))
 refine jU ?_
 obtain rfl := sj c
 exact kY (v := b1) rfl rfl ⟨_, a4, rfl, d.nx (fun p s => (Ml s)) I.nd, I⟩
theorem Dj (j : Value) (t : List jr) (c : jr) (r : Int) (w : World) (g : Sl (Pl jv) 9 (hp w) j t) (hm : vP t c = some r) :
  jS true Tryz.prog 339 [j, (.agg (jv c).toArray)] w (.int .i64 r) := by
 refine cG 19 func339 rfl (fun b => sg (VE (km b rfl (fun Q J b => Wa (lS (Wm (V (kK aI rfl g) (Wm (ln ?_)))))))))
 refine kB (fun i E W => ∃ k, (E 8 = .int .i64 (i : Nat) ∧ E 7 = .int .i64 (t.length : Nat)) ∧ ST true ku w W (hp w) ((J, Ol (jv c) 53) :: k) ∧ E 0 = j ∧ E 3 = (.pointer (some ⟨J, 0, none⟩)) ∧ pO c (t.drop i) i = some r) t.length g.len ⟨_, ⟨rfl, rfl⟩, (b.ju St), rfl, rfl, hm⟩ dc dc dc (fun _ _ _ h => by obtain ⟨_, m, _⟩ := h; exact m) ?_ ?_
 ·rintro K E W B ⟨k, ⟨l, p⟩, b, u, x, a⟩
  obtain ⟨y, M, H, G, I⟩ := kq B
  rw [H] at a
  refine bg (Wh l (Wa (ln (jK ?_))))
  replace b := b.drew
  have d := b.has.ju (Kb Sn)
  refine kJ d kw (XH 0 rfl d (fun _ n => jw x (jz n Mh (jv c) rfl bM aJ)) (X 1 rfl d (jE u) (X 2 rfl d (jE rfl) (XQ 3 rfl d (na (enc := jv) (i := (K : Int)) (x0 := y) aI aJ rfl rfl g (aH _) G) (fun N D => XH 4 rfl d (fun _ n => jw rfl (jR n D bM aJ)) (X 5 rfl d (uB rfl rfl (nm fi) (qO (vh _ c y))) (kW kr (jF (CI a rfl (fun z a => ?_) (fun z a => ?_))))))))))
  ·refine sg (Wm (Wa (ln ?_)))
   replace b := b.ju (Db St)
   refine jU (me (kj (me (kj ?_))))
   obtain rfl := sj a
   exact rP b
  exact kP (ko (jF ⟨l, _, ⟨rfl, p⟩, (b.ju St), u, x, (by rw [I]; exact a)⟩))
 rintro E W ⟨k, ⟨l, p⟩, b, u, x, a⟩
 rw [aN] at a
 refine jF ?_
 replace b := b.ju (Db St)
 exact sg (Wa (lt (rQ a b)))
theorem BG (a : Value) (g : List jr) (c : jr) (r : Bool) (w : World) (i : Sl (Pl jv) 9 (hp w) a g) (hm : rI g c = some r) :
  jS true Tryz.prog 262 [a, (.agg (jv c).toArray)] w (.bool r) := by
 refine cG 9 func262 rfl (fun b => sg (VE (km b rfl (fun k u b => Wa (lr (Wm (VA b Mh (jv c) bM aJ (bS hm fun x j hm => VE (Eg b call339 (Dj a g c _ _ (i.mono (Pl.mono _) b.jD) j) (fun t b => Wi rfl (Wa ?_)))))))))))
 refine ln ?_
 exact jU (rQ hm b)
theorem Ai (a : Value) (g : List jr) (c : jr) (r : Bool) (w : World) (i : Sl (Pl jv) 9 (hp w) a g) (hm : qK g c = some r) :
  jS true Tryz.prog 201 [a, (.agg (jv c).toArray)] w (.bool r) := by
 refine cG 8 func201 rfl (fun b => sg (VE (km b rfl (fun k u b => Wa (lr (Wm (VA b Mh (jv c) bM aJ (bS hm fun x j hm => VE (Eg b call262 (BG a g c _ _ (i.mono (Pl.mono _) b.jD) j) (fun t b => Wa (jW ?_)))))))))))
 refine jF ?_
 exact jU (rQ hm b)
theorem Jo (a : jr) (r : List jq) (w : World) (hm : yv a = some r) :
  lz true Tryz.prog 118 [(.agg (jv a).toArray)] w 28 jA 2 r := by
 refine tF 27 func118 rfl (fun b => sg (VE (km b rfl (fun W2 h b => Wa (lS (VA b Mh (jv a) bM aJ (bS hm fun r3 q hm => VE (Eg b call137 (yo a _ _  q) (fun W5 b => V (nH rfl) (jW ?_))))))))))
 refine jF (CI hm rfl (fun n hm => ?_) (fun n hm => ?_))
 ·refine sg (Wa (ln ?_))
  replace b := b.ju (Db St)
  refine jU (kj ?_)
  obtain rfl := sj hm
  exact kY (v := (.slice none 0 0)) rfl rfl ⟨_, [], rfl, b.nx (fun p d => by cases d) (by simp), jT.nil _ _ _⟩
 refine kg (Wf qf (VA b Mh (jA a.Head) bG aQ (VE (jX (cs := (jA a.Head).toArray) b (lJ rfl) (lW eQ aQ eH) (fun W8 y b => Wa (ln (jK (CJ hm (fun I E W => ∃ j i z, ST true ku w W (hp w) ((h, Ol (jv a) 53) :: (i ++ z)) ∧ E 1 = (.pointer (some ⟨h, 0, none⟩)) ∧ E 3 = j ∧ jT 28 jA 2 j I i) (fun I g => ?_) ?_))))))))
 ·refine sg (Wf qj (VB b (Mt Mh) rfl rfl cC (Wi rfl (ln (CI g rfl (fun Q g => ?_) (fun Q g => ?_))))))
  ·refine jI (Wm (Wf nz (VA b (Mt Mh) (jA a.B) bG aQ (VE (jX (cs := (jA a.B).toArray) b (lJ rfl) (lW eQ aQ eH) (fun L a4 b => ?_))))))
   replace b := b.perm (Nb (Pb Pz) Nz)
   refine bS g fun c0 T g => VE (ns (enc := jA) (v := (.slice (some ⟨y, 0, none⟩) 1 1)) (vs := (.slice (some ⟨a4, 0, none⟩) 1 1)) (R := [(y, Ol (jA a.Head) 28)]) b xX dc vJ eQ vH.1 vH.2.1 rfl vH.2.2.1 vH.2.2.2 rfl rfl (jT.lit (l := [a.Head]) (enc := jA) rfl dc rfl rfl) (Sl.lit (enc := jA) (l := [a.B]) xX rfl nb rfl (b.at_ (Mt Mh))) T (fun O a9 m b K => Wa (ln ?_)))
   obtain rfl := sj g
   exact ⟨a9, m, _, (b.ju (Sb (Pr (Pb Pz)) (Kr (Db St)))), rfl, rfl, K⟩
  refine kn ?_
  obtain rfl := sj g
  replace b := b.DL
  exact ⟨(.slice (some ⟨y, 0, none⟩) 1 1), [(y, Ol (jA a.Head) 28)], _, (b.ju (Sb (Pr Pz) St)), rfl, rfl, (jT.lit (l := [a.Head]) (enc := jA) rfl dc rfl rfl)⟩
 rintro P E W ⟨j, i, z, b, D, G, u⟩ U
 refine jK (CJ U (fun H E W => ∃ t k B, ST true ku w W (hp w) (k ++ B) ∧ E 3 = t ∧ jT 28 jA 2 t H k) (fun H c => ?_) ?_)
 ·refine sg (V (jC qj D) (VB b Mh rfl rfl cC (Wi rfl (ln (CI c rfl (fun M c => ?_) (fun M c => ?_))))))
  ·refine jI (Wh G (V (jC rR D) (VA b Mh (jA a.C) bG aQ (VE (jX (cs := (jA a.C).toArray) b (lJ rfl) (lW eQ aQ eH) (fun A a3 b => ?_))))))
   replace b := b.perm (Nr (Qb (Qb Qz)) Nz)
   refine bS c fun b9 N c => VE (ns (enc := jA) (v := j) (vs := (.slice (some ⟨a3, 0, none⟩) 1 1)) (R := i) b xX dc vJ eQ vH.1 vH.2.1 rfl vH.2.2.1 vH.2.2.2 rfl rfl u (Sl.lit (enc := jA) (l := [a.C]) xX rfl nb rfl (b.at_ (Ma Mh))) N (fun F s Z b J => Wa (ln ?_)))
   obtain rfl := sj c
   exact ⟨s, Z, _, (b.ju (Kr (Db (Db St)))), rfl, J⟩
  refine kn ?_
  obtain rfl := sj c
  exact ⟨j, i, _, (b.ju (Db St)), G, u⟩
 rintro b6 E W ⟨t, k, B, b, a5, x⟩ Y
 refine sg (Wh a5 (Wa (lt ?_)))
 obtain rfl := sj Y
 exact kY (v := t) rfl rfl ⟨_, k, rfl, b.nx (fun p d => (Ml d)) x.nd, x⟩
theorem Ch (M : Nat) (u : Value) (a9 : List (jq × (List (ByteArray × Bool)))) (G : LO) (D : Value) (a0 : List jr) (B : LO) (a : Value) (Y : List (jq × (List jr))) (I : LO) (c : Value) (K : List (ByteArray × (List jr))) (t : LO) (j : Value) (a4 : List jJ) (y : LO) (J : Int) (H : jr) (r : ((List jr) × (List (jq × (List jr))) × (List (ByteArray × (List jr))))) (w : World) {μ0 : kl} (h0 : nB μ0 ((M, Ob #[u, D, a, c, j, (.int .i64 J)] 294) :: (G ++ (B ++ (I ++ (t ++ (y ++ [])))))) w) (e9 : lR (fun (x : jq) => (.agg (jA x).toArray)) (lL Value.string (fun (x : Bool) => (Value.bool x))) u a9 G) (a6 : jT 53 jv 9 D a0 B) (b2 : lR (fun (x : jq) => (.agg (jA x).toArray)) (jT 53 jv 9) a Y I) (T : lR Value.string (jT 53 jv 9) c K t) (e1 : qc 38 kp 3 j a4 y) (hm : sR a9 a0 Y K a4 J H = some r) :
  lF true Tryz.prog 324 [(.pointer (some ⟨M, 0, none⟩)), (.agg (jv H).toArray)] w ((M, Ob #[u, D, a, c, j, (.int .i64 J)] 294) :: (G ++ (B ++ (I ++ (t ++ (y ++ [])))))) (fun v L1 W' => ∃ y1 S2 S4 S6, v = (.tuple #[]) ∧ L1 = ((M, Ob #[u, y1, a, c, j, (.int .i64 J)] 294) :: (G ++ (S2 ++ (S4 ++ (S6 ++ (y ++ [])))))) ∧ jT 53 jv 9 y1 r.1 S2 ∧ lR (fun (x : jq) => (.agg (jA x).toArray)) (jT 53 jv 9) a r.2.1 S4 ∧ lR Value.string (jT 53 jv 9) c r.2.2 S6) := by
 refine AS h0 55 func324 rfl (fun d => sg (VE (km d rfl (fun W2 b1 d => ln (jK ?_)))))
 replace d := d.drew
 have m := d.has.ju (Kb Sn)
 have n := d.has.ju (Db (Kb Sn))
 refine uQ 10 m n kw (kO 0 rfl kr (.inl rfl) rfl dc (fun _ _ h => ⟨h.1, lG br h.2⟩) ⟨m, fun _ => n⟩ (fun _ _ _ _ => jE rfl) (kO 1 rfl kr (.inl rfl) rfl dc (fun _ _ h => ⟨h.1, lG br h.2⟩) ⟨m, fun _ => n⟩ (fun _ _ _ _ => jE rfl) (kO 2 rfl kr (.inl rfl) rfl dc (fun _ _ h => ⟨h.1, lG br h.2⟩) ⟨m, fun _ => n⟩ (fun _ _ _ _ => mW rfl) (kO 3 rfl kr (.inl rfl) rfl dc (fun _ _ h => ⟨h.1, lG br h.2⟩) ⟨m, fun _ => n⟩ (fun _ _ _ _ => jC G0 rfl) (kO 4 rfl kr (.inl rfl) rfl dc (fun _ _ h => ⟨h.1, lG br h.2⟩) ⟨m, fun _ => n⟩ (fun l W q s => have p := (s.2 (q.Dg 10 [4] kr rfl)); jw rfl (jO p Mh rfl jo)) (kO 5 rfl kr (.inl rfl) rfl dc (fun _ _ h => ⟨h.1, lG br h.2⟩) ⟨m, fun _ => n⟩ (fun l W q s => have p := s.1; jw rfl (jz p Mh (jv H) rfl bM aJ)) (XE 6 rfl (jX (cs := (jv H).toArray) d (lJ rfl) (lW aI aJ cH) (fun k0 g0 d => ?_)))))))))
 have m := d.has.ju (Db (Kb Sn))
 have n := d.has.ju (Db (Db (Kb Sn)))
 refine ⟨⟨m, fun _ => n⟩, ?_⟩
 replace d := d.perm (Nr (Qb (Qb (Qb (Qr Qz)))) Nz)
 refine bS hm fun a5 f0 hm => XE 7 rfl (ns (enc := jv) (v := D) (vs := (.slice (some ⟨g0, 0, none⟩) 1 1)) (R := B) d jV dc mT aI mh.1 mh.2.1 rfl mh.2.2.1 mh.2.2.2 rfl rfl a6 (Sl.lit (enc := jv) (l := [H]) jV rfl nb rfl (d.at_ (Ma Mh))) f0 (fun k1 k4 b7 d P => ?_))
 have m := d.has.ju (Dr (Db (Kb Sn)))
 have n := d.has.ju (Dr (Db (Db (Kb Sn))))
 refine ⟨⟨m, fun _ => n⟩, (kO 8 rfl kr (.inl rfl) rfl dc (fun _ _ h => ⟨h.1, lG br h.2⟩) ⟨m, fun _ => n⟩ (fun _ _ _ _ => mW rfl) (kO 9 rfl kr (.inl rfl) rfl dc (fun _ _ h => ⟨h.1, lG br h.2⟩) ⟨m, fun _ => n⟩ (fun _ _ _ _ => jC G0 rfl) ?_))⟩
 obtain ⟨a8, b0, rfl⟩ := P.form
 let A : Value := (.slice a8 a5.length b0)
 replace d := d.perm (Nb (Pr (Pb (Pb Pz))) Nz)
 refine XO 10 rfl (jL A (#[u, A, a, c, j, (.int .i64 J)]) d rfl rfl sizeOf22 oc nb rfl (fun k2 d => ?_))
 have m := d.has.ju (Db (Dr (Db (Kb Sn))))
 refine ⟨⟨m, fun h => zz kr h⟩, (kW kr (jF ?_))⟩
 replace d := d.ju (Kb (Kr (Db St)))
 refine jK (sg (VA d (Mt (Ma Mh)) (jv H) bM aJ (bS hm fun c1 f1 hm => VE (pv d call118 (Jo H _ _  f1) (fun k3 k5 k6 j9 d g4 ab e8 => ?_)))))
 let b8 := (c1.drop (Int.toNat 1))
 obtain ⟨g3, d, g7, ad, f2⟩ := ST.NR d e8 xX
 refine bS hm fun _ b9 hm => VQ (BL (i := 1) eQ aQ rfl rfl f2 (vd b9) (vc b9)) (fun g1 b6 => V (kK eQ rfl b6.1) (Wm (ln (kB (fun i E W => ∃ a3 U L, (E 20 = .int .i64 (i : Nat) ∧ E 19 = .int .i64 (b8.length : Nat)) ∧ ST true (keys ((M, Ob #[u, D, a, c, j, (.int .i64 J)] 294) :: (G ++ (B ++ (I ++ (t ++ (y ++ []))))))) w W g3 ((M, Ob #[u, A, a, c, j, (.int .i64 J)] 294) :: ((b1, Ol (jv H) 53) :: (U ++ (b7 ++ (G ++ (t ++ (y ++ L))))))) ∧ E 0 = (.pointer (some ⟨M, 0, none⟩)) ∧ E 3 = (.pointer (some ⟨b1, 0, none⟩)) ∧ E 18 = g1 ∧ lR (fun (x : jq) => (.agg (jA x).toArray)) (jT 53 jv 9) a a3 U ∧ og H K a5 (b8.drop i) a3 = some r) b8.length b6.1.len ⟨Y, I, _, ⟨rfl, rfl⟩, (d.ju (Kb (Sb (Pr Pz) (Sr (Qr (Qr Qz)) St)))), rfl, rfl, rfl, b2, hm⟩ dc dc dc (fun _ _ _ h => by obtain ⟨_, _, _, aa, _⟩ := h; exact aa) ?_ ?_))))
 ·rintro f3 E W d3 ⟨a3, U, L, ⟨eI, eN⟩, d, a2, N, O, Z, g⟩
  obtain ⟨Q, h4, d8, d7, d9⟩ := kq d3
  rw [d8] at g
  refine bg (VQ (na (enc := jA) (i := (f3 : Int)) (x0 := Q) eQ aQ O eI b6.1 (aH _) d7) (fun j4 d4 => V (jw rfl (jR d.has d4 bG aQ)) (VE (kf d eH (fun i1 j0 d => VO (jL (.agg (jA Q).toArray) ((jA Q).toArray) d rfl rfl aQ (vJ Q) nb rfl (fun i2 d => ln ?_)))))))
  replace d := d.drew
  have m := d.has.ju (Kb (Kb (Kb Sn)))
  refine kJ m kw (X 0 rfl m (jE a2) (X 1 rfl m (mW rfl) (X 2 rfl m (jC J3 rfl) (XH 3 rfl m (fun _ p => jw rfl (jO p (Mt Mh) rfl isAgg291)) (XH 4 rfl m (fun _ p => jw rfl (jz p Mh (jA Q) rfl bG aQ)) (XH 5 rfl m (fun _ p => jw N (jz p (Mt (Mt Mh)) (jv H) rfl bM aJ)) (XE 6 rfl (jX (cs := (jv H).toArray) d (lJ rfl) (lW aI aJ cH) (fun i3 e6 d => ?_)))))))))
  have m := d.has.ju (Db (Kb (Kb (Kb Sn))))
  refine ⟨m, ?_⟩
  obtain ⟨h1, d1⟩ := Z
  replace d := d.perm (Nr (Qb (Qb (Qb (Qb Qz)))) Nz)
  refine XE 7 rfl (KZ (k := Q) (x0 := [])  jQ zL underlying291 jk (jT.nil _ _ _) d d1 rfl rfl (fun i4 f5 h3 h6 e2 d c3 c2 => ?_))
  have m := d.has.ju (Dr (Dr (Db (Kb (Kb (Kb Sn))))))
  refine ⟨m, (X 8 rfl m (Ek rfl rfl) (X 10 rfl m (Ek rfl rfl) ?_))⟩
  replace d := d.perm (Nr (Qr Qz) Nz)
  refine bS g fun c0 c8 g => XE 9 rfl (ns (enc := jv) (v := f5) (vs := (.slice (some ⟨e6, 0, none⟩) 1 1)) (R := e2) d jV dc mT aI mh.1 mh.2.1 rfl mh.2.2.1 mh.2.2.2 rfl rfl c3 (Sl.lit (enc := jv) (l := [H]) jV rfl nb rfl (d.at_ (Ma (Ma Mh)))) c8 (fun i5 j5 h7 d c4 => ?_))
  have m := d.has.ju (Dr (Dr (Db (Kb (Kb (Kb Sn))))))
  refine ⟨m, ?_⟩
  replace d := d.perm (Nr (Qr Qz) Nz)
  refine XO 11 rfl (I2 (e := 0) (z := c0)  jQ zL d c2 rfl rfl rfl c4 (fun i6 h2 e3 d c5 => ?_))
  have m := d.has.ju (Dr (Db (Kb (Kb (Kb Sn)))))
  refine ⟨m, (kW kr (ko (jF ?_)))⟩
  replace d := d.ju (Kr (Db (Db St)))
  exact ⟨eI, (nU jP a3 Q c0), e3, _, ⟨rfl, eN⟩, (d.ju (Sb (Pr Pz) (Sb (Pr Pz) St))), a2, N, O, c5.e, (by rw [d9]; exact g)⟩
 rintro E W ⟨a3, U, L, ⟨eI, eN⟩, d, a2, N, O, Z, g⟩
 rw [aN] at g
 refine jF (sg (V (jC qj N) (VB d (Mt Mh) rfl rfl cC (Wi rfl (ln (CI g rfl (fun c9 g => ?_) (fun c9 g => ?_)))))))
 ·replace d := d.drew
  have m := d.has.ju (Kb (Kb Sn))
  have n := d.has.ju (Db (Db (Dr (Dr (Dr (Kr Sn))))))
  refine uQ 15 m n kw (kO 0 rfl kr (.inl rfl) rfl dc (fun _ _ h => ⟨h.1, lG br h.2⟩) ⟨m, fun _ => n⟩ (fun _ _ _ _ => jE a2) (kO 1 rfl kr (.inl rfl) rfl dc (fun _ _ h => ⟨h.1, lG br h.2⟩) ⟨m, fun _ => n⟩ (fun _ _ _ _ => mW rfl) (kO 2 rfl kr (.inl rfl) rfl dc (fun _ _ h => ⟨h.1, lG br h.2⟩) ⟨m, fun _ => n⟩ (fun _ _ _ _ => jC Hn rfl) (kO 3 rfl kr (.inl rfl) rfl dc (fun _ _ h => ⟨h.1, lG br h.2⟩) ⟨m, fun _ => n⟩ (fun l W q s => have p := s.1; jw rfl (jO p Mh rfl isAgg292)) (kO 4 rfl kr (.inl rfl) rfl dc (fun _ _ h => ⟨h.1, lG br h.2⟩) ⟨m, fun _ => n⟩ (fun _ _ _ _ => jC uf N) (kO 5 rfl kr (.inl rfl) rfl dc (fun _ _ h => ⟨h.1, lG br h.2⟩) ⟨m, fun _ => n⟩ (fun l W q s => have p := s.1; jw rfl (jO p (Mt Mh) rfl bV)) (kO 6 rfl kr (.inl rfl) rfl dc (fun _ _ h => ⟨h.1, lG br h.2⟩) ⟨m, fun _ => n⟩ (fun _ _ _ _ => jE a2) (kO 7 rfl kr (.inl rfl) rfl dc (fun _ _ h => ⟨h.1, lG br h.2⟩) ⟨m, fun _ => n⟩ (fun _ _ _ _ => mW rfl) (kO 8 rfl kr (.inl rfl) rfl dc (fun _ _ h => ⟨h.1, lG br h.2⟩) ⟨m, fun _ => n⟩ (fun _ _ _ _ => jC Hn rfl) (kO 9 rfl kr (.inl rfl) rfl dc (fun _ _ h => ⟨h.1, lG br h.2⟩) ⟨m, fun _ => n⟩ (fun l W q s => have p := s.1; jw rfl (jO p Mh rfl isAgg292)) (kO 10 rfl kr (.inl rfl) rfl dc (fun _ _ h => ⟨h.1, lG br h.2⟩) ⟨m, fun _ => n⟩ (fun _ _ _ _ => jC uf N) (kO 11 rfl kr (.inl rfl) rfl dc (fun _ _ h => ⟨h.1, lG br h.2⟩) ⟨m, fun _ => n⟩ (fun l W q s => have p := s.1; jw rfl (jO p (Mt Mh) rfl bV)) ?_))))))))))))
  obtain ⟨e0, F⟩ := T
  obtain ⟨h8, g8, g9⟩ := mK.rowAt lZ.1 F H.kF
  refine kO 12 rfl kr (.inl rfl) rfl dc (fun _ _ h => ⟨h.1, lG br h.2⟩) ⟨m, fun _ => n⟩ (fun l W q s => have p := (s.2 (q.Dg 15 [12] kr rfl)); oZ (k := H.kF) (z := (.slice none 0 0)) FO underlying292 jk rfl rfl F (fun b o hq => p.2 b o (Ml hq))) (kO 13 rfl kr (.inl rfl) rfl dc (fun _ _ h => ⟨h.1, lG br h.2⟩) ⟨m, fun _ => n⟩ (fun l W q s => have p := s.1; jw N (jz p (Mt Mh) (jv H) rfl bM aJ)) (XE 14 rfl (jX (cs := (jv H).toArray) d (lJ rfl) (lW aI aJ cH) (fun i7 e7 d => ?_))))
  have m := d.has.ju (Db (Kb (Kb Sn)))
  have n := d.has.ju (Db (Db (Db (Dr (Dr (Dr (Kr Sn)))))))
  refine ⟨⟨m, fun _ => n⟩, ?_⟩
  replace d := d.perm (Nr (Qb (Qb (Qb (Qr (Qr (Qr Qz)))))) Nz)
  obtain ⟨h9, e4, d5, d6, d2⟩ := mK.open lZ.1 (jT.nil _ _ _) F H.kF
  replace d := d.perm (R0 d5)
  replace d := d.perm (Nr (Qr Qz) Nz)
  refine bS g fun f4 d0 g => XE 15 rfl (ns (enc := jv) (v := (qY kQ e0 H.kF (.slice none 0 0))) (vs := (.slice (some ⟨e7, 0, none⟩) 1 1)) (R := e4) d jV dc mT aI mh.1 mh.2.1 rfl mh.2.2.1 mh.2.2.2 rfl rfl d6 (Sl.lit (enc := jv) (l := [H]) jV rfl nb rfl (d.at_ (Ma (Ma Mh)))) d0 (fun i8 j6 i0 d c6 => ?_))
  have m := d.has.ju (Dr (Dr (Db (Kb (Kb Sn)))))
  refine ⟨⟨m, fun h => zz kr h⟩, ?_⟩
  replace d := d.perm (Nr (Qr Qz) Nz)
  refine XO 16 rfl (QC (k := H.kF) (z := f4)  FO underlying292 d d2 rfl rfl rfl c6 (fun i9 e5 d c7 => ?_))
  have m := d.has.ju (Dr (Db (Kb (Kb Sn))))
  refine ⟨⟨m, fun h => zz kr h⟩, (kW kr (qh ?_))⟩
  obtain rfl := sj g
  exact oL rfl ⟨_, _, rfl, (d.lM (Sb (Pr (Pb Pz)) (Sr (Qr (Qb (Qb (Qr (Qr Qz))))) (Sr (Qr (Qb (Qb (Qr Qz)))) (Sr (Qr (Qb (Qb Qz))) (Kr (Db (Db (Kr Sn))))))))), A, b7, U, e5, rfl, rfl, P, Z, c7.e⟩
 refine kP (qh ?_)
 obtain rfl := sj g
 exact oL rfl ⟨_, _, rfl, (d.lM (Kb (Db (Sr (Qr (Qr Qz)) (Sr (Qr Qz) (Kr (Kr (Kr Sn)))))))), A, b7, U, t, rfl, rfl, P, Z, T⟩
theorem qE (J : Nat) (g : Value) (a0 : List (jq × (List (ByteArray × Bool)))) (D : LO) (a : Value) (M : List jr) (u : LO) (j : Value) (Z : List (jq × (List jr))) (B : LO) (c : Value) (N : List (ByteArray × (List jr))) (y : LO) (i : Value) (Y : List jJ) (t : LO) (H : Int) (G : jq) (U : ByteArray) (r : ((List (jq × (List (ByteArray × Bool)))) × (List jJ) × Int)) (w : World) {μ0 : kl} (h0 : nB μ0 ((J, Ob #[g, a, j, c, i, (.int .i64 H)] 294) :: (D ++ (u ++ (B ++ (y ++ (t ++ [])))))) w) (a5 : lR (fun (x : jq) => (.agg (jA x).toArray)) (lL Value.string (fun (x : Bool) => (Value.bool x))) g a0 D) (b5 : jT 53 jv 9 a M u) (c3 : lR (fun (x : jq) => (.agg (jA x).toArray)) (jT 53 jv 9) j Z B) (b6 : lR Value.string (jT 53 jv 9) c N y) (K : qc 38 kp 3 i Y t) (hm : nF a0 M Z N Y H G U = some r) :
  lF true Tryz.prog 370 [(.pointer (some ⟨J, 0, none⟩)), (.agg (jA G).toArray), (.string U)] w ((J, Ob #[g, a, j, c, i, (.int .i64 H)] 294) :: (D ++ (u ++ (B ++ (y ++ (t ++ [])))))) (fun v L1 W' => ∃ S1 y3 S4, v = (.tuple #[]) ∧ L1 = ((J, Ob #[g, a, j, c, y3, (.int .i64 (r.2.2))] 294) :: (S1 ++ (u ++ (B ++ (y ++ (S4 ++ [])))))) ∧ lR (fun (x : jq) => (.agg (jA x).toArray)) (lL Value.string (fun (x : Bool) => (Value.bool x))) g r.1 S1 ∧ qc 38 kp 3 y3 r.2.1 S4) := by
 let O := (#[g, a, j, c, i, (.int .i64 H)] : Array Value)
 refine AS h0 53 func370 rfl (fun m => sg (VE (km m rfl (fun W2 b1 m => ln (jK (jK ?_))))))
 replace m := m.drew
 have d := m.has.ju (Kb (Kb (Kr Sn)))
 refine kJ d kw (X 0 rfl d (jE rfl) (X 1 rfl d (mW rfl) (X 2 rfl d (jC wU rfl) (XH 3 rfl d (fun _ p => jw rfl (jO p (Mt Mh) rfl ic)) (XH 4 rfl d (fun _ p => jw rfl (jz p Mh (jA G) rfl bG aQ)) ?_)))))
 obtain ⟨f4, Q⟩ := a5
 refine XH 5 rfl d (fun _ p => oZ (k := G) (z := (.map none)) zL fj fN rfl rfl Q (fun b o A => p.2 b o (Mt (Mt (Ml A))))) (X 6 rfl d (jE rfl) (XH 7 rfl d (fun _ p => zx (k := U) (z := false) (vf := (fun (x : Bool) => (Value.bool x))) FO fT jc rfl rfl (mK.CA (μ := hp _) jQ.1 Q G (fun b o A => p.2 b o (Mt (Mt (Ml A)))))) (kW kr (jF (CI hm rfl (fun d5 hm => ?_) (fun d5 hm => ?_))))))
 ·refine jU (kj ?_)
  obtain rfl := sj hm
  exact oL rfl ⟨_, _, rfl, (m.lM (Db (Kb (Kr (Kr (Kr (Kr (Kr Sn)))))))), D, i, t, rfl, rfl, Q.e, K⟩
 refine kn (jK (CJ hm (fun b2 E W => ∃ L c0, ST true (keys ((J, Obj.cells O 294 (0, 0)) :: (D ++ (u ++ (B ++ (y ++ (t ++ []))))))) w W μ0 ((b1, Ol (jA G) 28) :: ((J, Obj.cells O 294 (0, 0)) :: (L ++ (u ++ (B ++ (y ++ (t ++ c0))))))) ∧ E 0 = (.pointer (some ⟨J, 0, none⟩)) ∧ E 2 = (.string U) ∧ E 4 = (.pointer (some ⟨b1, 0, none⟩)) ∧ lR (fun (x : jq) => (.agg (jA x).toArray)) (lL Value.string (fun (x : Bool) => (Value.bool x))) g b2 L) (fun b2 I => ?_) ?_))
 ·refine jK ?_
  replace m := m.drew
  have d := m.has.ju (Kb (Kb (Kr Sn)))
  refine kJ d kw (X 0 rfl d (jE rfl) (X 1 rfl d (mW rfl) (X 2 rfl d (jC wU rfl) (XH 3 rfl d (fun _ p => jw rfl (jO p (Mt Mh) rfl ic)) (XH 4 rfl d (fun _ p => jw rfl (jz p Mh (jA G) rfl bG aQ)) (XH 5 rfl d (fun _ p => oZ (k := G) (z := (.map none)) zL fj fN rfl rfl Q (fun b o A => p.2 b o (Mt (Mt (Ml A))))) (X 6 rfl d (JP jQ.1 fT Q rfl rfl) (kW kr (jF (CI I rfl (fun b7 I => ?_) (fun b7 I => ?_)))))))))))
  ·replace m := m.drew
   have d := m.has.ju (Kb (Kb Sn))
   refine kJ d kw (X 0 rfl d (jE rfl) (X 1 rfl d (mW rfl) (X 2 rfl d (jC wU rfl) (XH 3 rfl d (fun _ p => jw rfl (jO p (Mt Mh) rfl ic)) (XH 4 rfl d (fun _ p => jw rfl (jz p Mh (jA G) rfl bG aQ)) (XE 5 rfl (Hz (P := Tryz.prog) Value.string (fun (x : Bool) => (Value.bool x)) m (fun e1 e7 d9 m b3 => ?_))))))))
   have d := m.has.ju (Dr (Kb (Kb Sn)))
   refine ⟨d, ?_⟩
   replace m := m.perm (Nr (Qr (Qb (Qb Qz))) Nz)
   refine bS I fun e4 b9 I => XO 6 rfl (MC (k := G) (z := ([]))  zL fj m Q rfl rfl rfl b3 b9 (fun e2 c4 m b4 => ?_))
   have d := m.has.ju (Dr (Kb (Kb Sn)))
   refine ⟨d, (kW kr (jF ?_))⟩
   obtain rfl := sj I
   exact ⟨c4, _, (m.ju (Sb (Pr Pz) (Sb (Pr Pz) St))), rfl, rfl, rfl, b4.e⟩
  refine kn ?_
  obtain rfl := sj I
  exact ⟨D, _, (m.ju St), rfl, rfl, rfl, Q.e⟩
 rintro f2 E W ⟨L, c0, m, F, c1, c2, c8⟩ T
 refine jK ?_
 replace m := m.drew
 have d := m.has.ju (Kb (Kb Sn))
 have n := m.has.ju (Db (Db (Kr Sn)))
 refine uQ 7 d n kw (kO 0 rfl kr (.inl rfl) rfl dc (fun _ _ h => ⟨h.1, lG br h.2⟩) ⟨d, fun _ => n⟩ (fun _ _ _ _ => jE F) (kO 1 rfl kr (.inl rfl) rfl dc (fun _ _ h => ⟨h.1, lG br h.2⟩) ⟨d, fun _ => n⟩ (fun _ _ _ _ => mW rfl) (kO 2 rfl kr (.inl rfl) rfl dc (fun _ _ h => ⟨h.1, lG br h.2⟩) ⟨d, fun _ => n⟩ (fun _ _ _ _ => jC wU rfl) (kO 3 rfl kr (.inl rfl) rfl dc (fun _ _ h => ⟨h.1, lG br h.2⟩) ⟨d, fun _ => n⟩ (fun l W q s => have p := s.1; jw rfl (jO p (Mt Mh) rfl ic)) (kO 4 rfl kr (.inl rfl) rfl dc (fun _ _ h => ⟨h.1, lG br h.2⟩) ⟨d, fun _ => n⟩ (fun l W q s => have p := s.1; jw c2 (jz p Mh (jA G) rfl bG aQ)) ?_)))))
 obtain ⟨e5, a9⟩ := c8
 refine kO 5 rfl kr (.inl rfl) rfl dc (fun _ _ h => ⟨h.1, lG br h.2⟩) ⟨d, fun _ => n⟩ (fun l W q s => have p := (s.2 (q.Dg 7 [5] kr rfl)); oZ (k := G) (z := (.map none)) zL fj fN rfl rfl a9 (fun b o A => p.2 b o (Ml A))) (kO 6 rfl kr (.inl rfl) rfl dc (fun _ _ h => ⟨h.1, lG br h.2⟩) ⟨d, fun _ => n⟩ (fun _ _ _ _ => jE c1) ?_)
 replace m := m.perm (Nr (Qb (Qb Qz)) Nz)
 refine bS T fun f3 c7 T => XO 7 rfl (L7 (k := G) (v := true) (vf := (fun (x : Bool) => (Value.bool x)))  jQ.1 FO fT m a9 rfl rfl rfl c7 (fun e8 c9 m c5 => ?_))
 have d := m.has.ju (Dr (Kb (Kb Sn)))
 refine ⟨⟨d, fun h => zz kr h⟩, (kW kr (jF (sg (Wh F (Wn (Wf Ew (VB m (Ma (Mt Mh)) rfl rfl cC (Wi rfl (Wn (Wf Ew ?_))))))))))⟩
 replace m := m.perm (Nb (Pr (Pb Pz)) Nz)
 refine VO (jL (.int .i64 (IntKind.i64.wrap (H + 1))) (#[g, a, j, c, i, (.int .i64 (IntKind.i64.wrap (H + 1)))]) m rfl rfl ja (Fw _ (IntKind.i64.wrap (H + 1))) nb rfl (fun e9 m => ln ?_))
 replace m := m.drew
 have d := m.has.ju (Db (Dr (Kb Sn)))
 have n := m.has.ju (Kb Sn)
 refine uQ 12 d n kw (kO 0 rfl kr (.inl rfl) rfl dc (fun _ _ h => ⟨h.1, lG br h.2⟩) ⟨d, fun _ => n⟩ (fun _ _ _ _ => jE F) (kO 1 rfl kr (.inl rfl) rfl dc (fun _ _ h => ⟨h.1, lG br h.2⟩) ⟨d, fun _ => n⟩ (fun _ _ _ _ => jE F) (kO 2 rfl kr (.inl rfl) rfl dc (fun _ _ h => ⟨h.1, lG br h.2⟩) ⟨d, fun _ => n⟩ (fun _ _ _ _ => mW rfl) (kO 3 rfl kr (.inl rfl) rfl dc (fun _ _ h => ⟨h.1, lG br h.2⟩) ⟨d, fun _ => n⟩ (fun _ _ _ _ => jC Au rfl) (kO 4 rfl kr (.inl rfl) rfl dc (fun _ _ h => ⟨h.1, lG br h.2⟩) ⟨d, fun _ => n⟩ (fun l W q s => have p := (s.2 (q.Dg 12 [4] kr rfl)); jw rfl (jO p Mh rfl isAgg68)) (kO 5 rfl kr (.inl rfl) rfl dc (fun _ _ h => ⟨h.1, lG br h.2⟩) ⟨d, fun _ => n⟩ (fun l W q s => have p := s.1; jw c2 (jz p Mh (jA G) rfl bG aQ)) (kO 6 rfl kr (.inl rfl) rfl dc (fun _ _ h => ⟨h.1, lG br h.2⟩) ⟨d, fun _ => n⟩ (fun _ _ _ _ => jE c1) (kO 7 rfl kr (.inl rfl) rfl dc (fun _ _ h => ⟨h.1, lG br h.2⟩) ⟨d, fun _ => n⟩ (fun _ _ _ _ => kZ (v := (.agg (kp (⟨G, U⟩ : jJ)).toArray)) (nY rfl rfl) (kE fB fA (NW _ fA) kr)) (XE 8 rfl (jX (cs := (kp (⟨G, U⟩ : jJ)).toArray) m (lJ rfl) (lW cX ep fB) (fun f0 d4 m => ?_)))))))))))
 have d := m.has.ju (Db (Db (Dr (Kb Sn))))
 have n := m.has.ju (Db (Kb Sn))
 refine ⟨⟨d, fun _ => n⟩, ?_⟩
 replace m := m.perm (Nr (Qb (Qb (Qr (Qb (Qr (Qr (Qr Qz))))))) Nz)
 refine bS T fun b0 c6 T => XE 9 rfl (JD (enc := kp) (v := i) (vs := (.slice (some ⟨d4, 0, none⟩) 1 1)) (R := t) m qN dc yV cX vq.1 vq.2.1 rfl vq.2.2.1 vq.2.2.2 rfl rfl K (Sl.lit (enc := kp) (l := [(⟨G, U⟩ : jJ)]) qN rfl nb rfl (m.at_ (Ma Mh))) c6 (fun f1 e6 d0 m a7 => ?_))
 have d := m.has.ju (Dr (Db (Db (Dr (Kb Sn)))))
 have n := m.has.ju (Dr (Db (Kb Sn)))
 refine ⟨⟨d, fun _ => n⟩, (kO 10 rfl kr (.inl rfl) rfl dc (fun _ _ h => ⟨h.1, lG br h.2⟩) ⟨d, fun _ => n⟩ (fun _ _ _ _ => mW rfl) (kO 11 rfl kr (.inl rfl) rfl dc (fun _ _ h => ⟨h.1, lG br h.2⟩) ⟨d, fun _ => n⟩ (fun _ _ _ _ => jC Au rfl) ?_))⟩
 obtain ⟨a3, a4, rfl⟩ := a7.form
 let a2 : Value := (.slice a3 b0.length a4)
 replace m := m.perm (Nb (Pr (Pb Pz)) Nz)
 refine XO 12 rfl (jL a2 (#[g, a, j, c, a2, (.int .i64 (IntKind.i64.wrap (H + 1)))]) m rfl rfl sizeOf68 oc nb rfl (fun e0 m => ?_))
 have d := m.has.ju (Db (Dr (Db (Dr (Kb Sn)))))
 refine ⟨⟨d, fun h => zz kr h⟩, (kW kr (qh ?_))⟩
 obtain rfl := sj T
 exact oL rfl ⟨_, _, rfl, (m.lM (Kb (Sr (Qr (Qb Qz)) (Sr (Qr (Qb (Qb Qz))) (Sr (Qr (Qb (Qb Qz))) (Sr (Qr (Qb (Qb Qz))) (Kr Sn))))))), c9, a2, d0, rfl, rfl, c5.e, a7⟩
theorem vy (a : Value) (g : List (ByteArray × Bool)) (r : Unit) (w : World) (c : vZ Value.string (fun (x : Bool) => (Value.bool x)) (hp w) a g) (hm : ov g = some r) :
  lF true Tryz.prog 234 [a] w [] (fun v k W' => ∃ i, v = (.func (.func 327) #[] #[(.pointer (some ⟨i, 0, none⟩))]) ∧ k = ((i, Ob #[a] 296) :: [])) := by
 refine tF 4 func234 rfl (fun b => sg ?_)
 obtain ⟨t, rfl⟩ := c.form
 refine VE (km b rfl (fun u j b => Wa (lr (V (rH (by exact ua rfl) rfl) (Wa (lt ?_))))))
 obtain rfl := sj hm
 exact kY (v := (.func (.func 327) #[] #[(.pointer (some ⟨j, 0, none⟩))])) rfl rfl ⟨_, _, rfl, (b.GF (Kb Sn)), j, rfl, rfl⟩
theorem G3 {β : Type} {vf : β → Value} {l : List (ByteArray × β)} {b : Nat} {a : Value} {W : World} {r : List ByteArray} (d : W.heap[b]? = some (.cells #[a] 296 (0, 0))) (hm : vZ Value.string vf (hp W) a l) (hk : Gb l = some r) : lz false Tryz.prog 159 [.func (.func 327) #[] #[.pointer (some ⟨b, 0, none⟩)]] W 9 sU 1 r := JF (P := Tryz.prog) OJ OY P9 rfl bZ call327 call273 d hm hk
theorem yd (T : Nat) (a : Value) (u : List (jq × (List (ByteArray × Bool)))) (c : Value) (t : List jr) (j : Value) (G : List (jq × (List jr))) (g : Value) (B : List (ByteArray × (List jr))) (i : Value) (D : List jJ) (Q : Int) (H : jq) (r : List ByteArray) (w : World) (J : tJ (fun (x : jq) => (.agg (jA x).toArray)) (lL Value.string (fun (x : Bool) => (Value.bool x))) (hp w) a u) (Z : Sl (Pl jv) 9 (hp w) c t) (a4 : tJ (fun (x : jq) => (.agg (jA x).toArray)) (jT 53 jv 9) (hp w) j G) (a0 : tJ Value.string (jT 53 jv 9) (hp w) g B) (a3 : Sl (Pl kp) 3 (hp w) i D) (Y : At (hp w) (.pointer (some ⟨T, 0, none⟩)) [a, c, j, g, i, (.int .i64 Q)]) (hm : qi u t G B D Q H = some r) :
  lz false Tryz.prog 119 [(.pointer (some ⟨T, 0, none⟩)), (.agg (jA H).toArray)] w 9 sU 1 r := by
 refine tF 15 func119 rfl (fun d => sg (VE (km d rfl (fun W2 P d => Wa (lS (Wm (V (wO underlying171 rfl rfl) (ln (rE rfl ?_)))))))))
 refine kn (jK ?_)
 replace d := d.drew
 have h := d.has.ju (Kb Sn)
 refine kJ h kw (X 0 rfl h (jE rfl) (X 1 rfl h (mW rfl) (XQ 2 rfl h (Du [a] wU rfl Y rfl) (fun b9 A => XH 3 rfl h (fun _ l => jw rfl (sG l (y := a) A ic)) (XH 4 rfl h (fun _ l => jw rfl (jz l Mh (jA H) rfl bG aQ)) ?_)))))
 obtain ⟨a9, W, K, M⟩ := J
 refine XH 5 rfl h (fun _ l => oZ (k := H) (z := (.map none)) zL fj fN rfl rfl K (fun b o m => l.1 b o (M b o m))) (bS hm fun c0 E hm => ?_)
 refine XE 6 rfl (zI d (bB _) call234 (fun _ _ _ _ => lF.li (vy (qY jP a9 H (.map none)) ((kV jP u H).getD []) _ _ ((mK.CA jQ.1 K H M).mono d.jD) E)) (fun b5 c2 c3 R d I q n a5 => ?_) (L0 := []))
 obtain ⟨b7, N, rfl⟩ := a5
 replace N := N.symm; subst N
 replace d := d.perm (Tb Tn)
 have h := d.has.tH I (Db (Kb Sn))
 refine ⟨h, (bS hm fun c1 F hm => XE 7 rfl (pv d call159 (G3 (vf := (fun (x : Bool) => (Value.bool x))) (d.has.2 _ _ Mh) ((mK.CA jQ.1 K H M).mono (fun b o m => d.has.1 b o (I b o m))) F) (fun b6 O c4 L d a2 s U => ?_)))⟩
 have h := d.has.tH (I.trans a2) (Dr (Db (Kb Sn)))
 refine ⟨h, (X 8 rfl h (nu rfl) (kW kr (jF ?_)))⟩
 replace d := d.ju (Kr (Db (Db St)))
 refine jU ?_
 obtain rfl := sj hm
 exact kY (v := O) rfl rfl ⟨_, L, rfl, d.nx (fun p m => (Ml m)) U.nd, U⟩
theorem Di (K : Nat) (g : Value) (N : List (jq × (List (ByteArray × Bool)))) (G : LO) (a : Value) (H : List jr) (k : LO) (j : Value) (J : List (jq × (List jr))) (u : LO) (c : Value) (I : List (ByteArray × (List jr))) (t : LO) (z : Value) (M : List jJ) (B : LO) (Z : Int) (A a2 : jq) (r : ((List (jq × (List (ByteArray × Bool)))) × (List jJ) × Int)) (w : World) {μ0 : kl} (h0 : nB μ0 ((K, Ob #[g, a, j, c, z, (.int .i64 Z)] 294) :: (G ++ (k ++ (u ++ (t ++ (B ++ [])))))) w) (a5 : lR (fun (x : jq) => (.agg (jA x).toArray)) (lL Value.string (fun (x : Bool) => (Value.bool x))) g N G) (Q : jT 53 jv 9 a H k) (a4 : lR (fun (x : jq) => (.agg (jA x).toArray)) (jT 53 jv 9) j J u) (T : lR Value.string (jT 53 jv 9) c I t) (a3 : qc 38 kp 3 z M B) (hm : tO N H J I M Z A a2 = some r) :
  lF false Tryz.prog 415 [(.pointer (some ⟨K, 0, none⟩)), (.agg (jA A).toArray), (.agg (jA a2).toArray)] w ((K, Ob #[g, a, j, c, z, (.int .i64 Z)] 294) :: (G ++ (k ++ (u ++ (t ++ (B ++ [])))))) (fun v L1 W' => ∃ S1 y3 S4, v = (.tuple #[]) ∧ L1 = ((K, Ob #[g, a, j, c, y3, (.int .i64 (r.2.2))] 294) :: (S1 ++ (k ++ (u ++ (t ++ (S4 ++ [])))))) ∧ lR (fun (x : jq) => (.agg (jA x).toArray)) (lL Value.string (fun (x : Bool) => (Value.bool x))) g r.1 S1 ∧ qc 38 kp 3 y3 r.2.1 S4) := by
 refine AS h0 21 func415 rfl (fun d => sg (VE (km d rfl (fun W2 b1 d => VE (km d rfl (fun W4 b3 d => lr (Wm (VA d (Mt Mh) (jA A) bG aQ (bS hm fun r5 e6 hm => VE (pv d call119 (yd K g N a H j J c I z M Z A _ _ (a5.at (fun b o l => d.at_ (Mt (Mt (Mt (Ml l)))))) (Q.sl jV (fun b o l => d.at_ (Mt (Mt (Mt (Ma (Ml l))))))) (a4.at (fun b o l => d.at_ (Mt (Mt (Mt (Ma (Ma (Ml l)))))))) (T.at (fun b o l => d.at_ (Mt (Mt (Mt (Ma (Ma (Ma (Ml l))))))))) ((a3.DP qN).mono (Pl.mono _) (lP (fun b o l => d.at_ (Mt (Mt (Mt (Ma (Ma (Ma (Ma (Ml l))))))))))) (At.of (d.at_ (Mt (Mt Mh))) _ rfl) e6) (fun W7 e7 s e2 d f5 ae a9 => V (mI dP rfl a9) (Wm ?_))))))))))))
 refine ln ?_
 replace d := d.ju (Kr (Kb (Db St)))
 refine qb (kB (fun i E W => ∃ m U a0 n Y q F P, (E 12 = .int .i64 (i : Nat) ∧ E 11 = .int .i64 (r5.length : Nat)) ∧ kd s F ∧ ST false (keys ((K, Ob #[g, a, j, c, z, (.int .i64 Z)] 294) :: (G ++ (k ++ (u ++ (t ++ (B ++ []))))))) w W F ((K, Ob #[g, a, j, c, a0, (.int .i64 q)] 294) :: ((b3, Ol (jA a2) 28) :: (U ++ (k ++ (u ++ (t ++ (Y ++ (e2 ++ P)))))))) ∧ E 0 = (.pointer (some ⟨K, 0, none⟩)) ∧ E 5 = (.pointer (some ⟨b3, 0, none⟩)) ∧ E 10 = e7 ∧ lR (fun (x : jq) => (.agg (jA x).toArray)) (lL Value.string (fun (x : Bool) => (Value.bool x))) g m U ∧ qc 38 kp 3 a0 n Y ∧ pK H J I a2 (r5.drop i) m n q = some r) r5.length a9.len ⟨N, G, z, M, B, Z, s, _, ⟨rfl, rfl⟩, (kd.refl _), (d.ju (Sb (Pr (Pb Pz)) (Sb (Pr Pz) (Sr (Qr Qz) (Sr (Qr Qz) (Sr (Qr Qz) (Sr (Qr Qz) (Sr (Qr Qz) St)))))))), rfl, rfl, rfl, a5, a3, hm⟩ dc dc dc (fun _ _ _ h => by obtain ⟨_, _, _, _, _, _, _, _, aa, _⟩ := h; exact aa) ?_ ?_)
 ·rintro d8 E W c9 ⟨m, U, a0, n, Y, q, F, P, ⟨eI, eN⟩, b6, d, R, c1, c2, L, O, D⟩
  obtain ⟨c4, f0, d2, c5, d3⟩ := kq c9
  rw [d2] at D
  refine bg (VQ (pe (i := (d8 : Int)) (x0 := c4) dP fG c2 eI a9 (aH _) c5) (fun f6 d0 => V (jw rfl (CC d.has (fun p l => (Mt (Mt (Ma (Ma (Ma (Ma (Ma (Ml l))))))))) a9 (fun _ => rfl) d0 c5 (y := (.string c4)) rfl bV)) (Wa (ln (jI (Wh R (V (jw c1 (jz d.has (Mt Mh) (jA a2) rfl bG aQ)) (Wm (bS D fun c3 d1 D => ?_)))))))))
  refine VE (eM d (Cb Pz (Cr (Qb Qz) (Cr (Qb Qz) (Cr (Qb Qz) (Cr (Qb Qz) (Cr (Qb Qz) Cn)))))) call370 (fun hh _ => lF.li (qE K g m U a H k j J u c I t a0 n Y q a2 c4 _ _ hh L Q a4 T O d1)) ?_)
  rintro _ f7 e1 f2 d c7 ab ad ⟨d6, e0, d7, b4, rfl, d4, d5⟩
  obtain rfl := b4.symm
  replace d := d.perm (Tb (Tr (Tr (Tr (Tr (Tr Tn))))))
  exact jW (ko (jF ⟨eI, c3.1, d6, e0, c3.2.1, d7, c3.2.2, e1, _, ⟨rfl, eN⟩, (b6.trans c7), (d.ju (Kb (Sb (Pr (Pr (Pr (Pr (Pr Pz))))) St))), R, c1, c2, d4, d5, (by rw [d3]; exact D)⟩))
 rintro E W ⟨m, U, a0, n, Y, q, F, P, ⟨eI, eN⟩, b6, d, R, c1, c2, L, O, D⟩
 rw [aN] at D
 refine jF ?_
 replace d := d.ju (Kb (Db (Kr (Kr (Kr (Kr (Kr (Dr St))))))))
 refine qh ?_
 obtain rfl := sj D
 exact oL rfl ⟨_, _, rfl, (d.lM (Kb (Kr (Kr (Kr (Kr (Kr Sn))))))), U, a0, Y, rfl, rfl, L, O⟩
theorem yI (K : Nat) (G : Value) (Z : List (jq × (List (ByteArray × Bool)))) (D : LO) (g : Value) (I : List jr) (a : LO) (B : Value) (N : List (jq × (List jr))) (y : LO) (i : Value) (J : List (ByteArray × (List jr))) (c : LO) (t : Value) (M : List jJ) (j : LO) (a0 : Int) (Q : jr) (a2 : jJ) (r : ((List (jq × (List (ByteArray × Bool)))) × (List jJ) × Int)) (w : World) {μ0 : kl} (h0 : nB μ0 ((K, Ob #[G, g, B, i, t, (.int .i64 a0)] 294) :: (D ++ (a ++ (y ++ (c ++ (j ++ [])))))) w) (U : lR (fun (x : jq) => (.agg (jA x).toArray)) (lL Value.string (fun (x : Bool) => (Value.bool x))) G Z D) (T : jT 53 jv 9 g I a) (a3 : lR (fun (x : jq) => (.agg (jA x).toArray)) (jT 53 jv 9) B N y) (Y : lR Value.string (jT 53 jv 9) i J c) (H : qc 38 kp 3 t M j) (hm : rc Z I N J M a0 Q a2 = some r) :
  lF false Tryz.prog 371 [(.pointer (some ⟨K, 0, none⟩)), (.agg (jv Q).toArray), (.agg (kp a2).toArray)] w ((K, Ob #[G, g, B, i, t, (.int .i64 a0)] 294) :: (D ++ (a ++ (y ++ (c ++ (j ++ [])))))) (fun v L1 W' => ∃ S1 y3 S4, v = (.tuple #[]) ∧ L1 = ((K, Ob #[G, g, B, i, y3, (.int .i64 (r.2.2))] 294) :: (S1 ++ (a ++ (y ++ (c ++ (S4 ++ [])))))) ∧ lR (fun (x : jq) => (.agg (jA x).toArray)) (lL Value.string (fun (x : Bool) => (Value.bool x))) G r.1 S1 ∧ qc 38 kp 3 y3 r.2.1 S4) := by
 let s := (#[G, g, B, i, t, (.int .i64 a0)] : Array Value)
 refine AS h0 57 func371 rfl (fun d => sg (VE (km d rfl (fun W2 A d => VE (km d rfl (fun W4 L d => lr (Wf qj (VB d (Mt Mh) rfl rfl cC (ln (ll (jK ?_)))))))))))
 refine jI (Wi rfl (Wa (ln (CI hm rfl (fun e5 hm => ?_) (fun e5 hm => ?_)))))
 ·refine jI (Wm (Wf qf (VA d (Mt Mh) (jA Q.Head) bG aQ (Wf xq (VB d Mh rfl rfl bV (bS hm fun r6 e6 hm => ?_))))))
  refine VE (eM d (Cb (Pb (Pb Pz)) (Cr (Qb (Qb Qz)) (Cr (Qb (Qb Qz)) (Cr (Qb (Qb Qz)) (Cr (Qb (Qb Qz)) (Cr (Qb (Qb Qz)) Cn)))))) call370 (fun q _ => lF.li (qE K G Z D g I a B N y i J c t M j a0 Q.Head a2.ky _ _ q U T a3 Y H e6)) ?_)
  rintro _ g7 ab f8 d f2 R m ⟨d2, e7, d3, a8, rfl, c5, c6⟩
  obtain rfl := a8.symm
  replace d := d.perm (Tb (Tr (Tr (Tr (Tr (Tr Tn))))))
  refine jW (ko (qh ?_))
  obtain rfl := sj hm
  exact oL rfl ⟨_, _, rfl, (d.lM (Kb (Kr (Kr (Kr (Kr (Kr Sn))))))), d2, e7, d3, rfl, rfl, c5, c6⟩
 refine sg (Wi rfl (Wa (ln (CI hm rfl (fun c0 hm => ?_) (fun c0 hm => ?_)))))
 ·refine jI (Wm (Wf xq (VB d Mh rfl rfl bV (Wf uf (VB d (Mt Mh) rfl rfl bV (V (kZ (v := (.agg (jA (⟨a2.ky, Q.kF⟩ : jq)).toArray)) (nY rfl rfl) (kE eH cZ (G7 _ cZ) kr)) (Wf qf (VA d (Mt Mh) (jA Q.Head) bG aQ (bS hm fun g3 c3 hm => ?_)))))))))
  refine VE (eM d (Cb (Pb (Pb Pz)) (Cr (Qb (Qb Qz)) (Cr (Qb (Qb Qz)) (Cr (Qb (Qb Qz)) (Cr (Qb (Qb Qz)) (Cr (Qb (Qb Qz)) Cn)))))) call415 (fun q _ => (Di K G Z D g I a B N y i J c t M j a0 (⟨a2.ky, Q.kF⟩ : jq) Q.Head _ _ q U T a3 Y H c3)) ?_)
  rintro _ g8 h2 f9 d f3 a6 m ⟨d4, e9, d5, a9, rfl, c7, c8⟩
  obtain rfl := a9.symm
  replace d := d.perm (Tb (Tr (Tr (Tr (Tr (Tr Tn))))))
  refine jW (ko (qh ?_))
  obtain rfl := sj hm
  exact oL rfl ⟨_, _, rfl, (d.lM (Kb (Kr (Kr (Kr (Kr (Kr Sn))))))), d4, e9, d5, rfl, rfl, c7, c8⟩
 refine sg (Wi rfl (Wa (ln (CI hm rfl (fun c1 hm => ?_) (fun c1 hm => ?_)))))
 ·refine jK ?_
  replace d := d.drew
  have h := d.has.ju (Kb (Kb (Kb (Kr Sn))))
  refine kJ h kw (X 0 rfl h (jE rfl) (X 1 rfl h (mW rfl) (X 2 rfl h (jC wU rfl) (XH 3 rfl h (fun _ l => jw rfl (jO l (Mt (Mt Mh)) rfl ic)) (X 4 rfl h (jC nz rfl) (XH 5 rfl h (fun _ l => jw rfl (jz l (Mt Mh) (jA Q.B) rfl bG aQ)) ?_))))))
  obtain ⟨f7, a5⟩ := U
  refine XH 6 rfl h (fun _ l => oZ (k := Q.B) (z := (.map none)) zL fj fN rfl rfl a5 (fun b o n => l.2 b o (Mt (Mt (Mt (Ml n)))))) (X 7 rfl h (jC xq rfl) (XH 8 rfl h (fun _ l => jw rfl (jO l Mh rfl bV)) (XH 9 rfl h (fun _ l => zx (k := a2.ky) (z := false) (vf := (fun (x : Bool) => (Value.bool x))) FO fT jc rfl rfl (mK.CA (μ := hp _) jQ.1 a5 Q.B (fun b o n => l.2 b o (Mt (Mt (Mt (Ml n))))))) (X 10 rfl h (jE rfl) (PJ hm (fun P E W => ∃ O, ST false (keys ((K, Obj.cells s 294 (0, 0)) :: (D ++ (a ++ (y ++ (c ++ (j ++ []))))))) w W μ0 ((L, Ol (kp a2) 38) :: ((A, Ol (jv Q) 53) :: ((K, Obj.cells s 294 (0, 0)) :: (D ++ (a ++ (y ++ (c ++ (j ++ O)))))))) ∧ E 0 = (.pointer (some ⟨K, 0, none⟩)) ∧ E 4 = (.pointer (some ⟨A, 0, none⟩)) ∧ E 5 = (.pointer (some ⟨L, 0, none⟩)) ∧ E 50 = (.bool P)) (bm 22 4194303) 0 ?_ (fun P p F => ?_))))))
  ·rintro h1 E W ⟨O, d, e1, e2, e3, e4⟩ a4
   refine kW kr (jF (CI a4 e4 (fun c2 a4 => ?_) (fun c2 a4 => ?_)))
   ·refine jI (Wh e1 (V (jC qf e2) (VA d (Mt Mh) (jA Q.Head) bG aQ (V (jC xq e3) (VB d Mh rfl rfl bV (bS a4 fun g4 c4 a4 => ?_))))))
    refine VE (eM d (Cb (Pb (Pb Pz)) (Cr (Qb (Qb Qz)) (Cr (Qb (Qb Qz)) (Cr (Qb (Qb Qz)) (Cr (Qb (Qb Qz)) (Cr (Qb (Qb Qz)) Cn)))))) call370 (fun q _ => lF.li (qE K G Z D g I a B N y i J c t M j a0 Q.Head a2.ky _ _ q a5.e T a3 Y H c4)) ?_)
    rintro _ g9 h3 g0 d f4 aa m ⟨d7, f0, d8, b0, rfl, c9, d0⟩
    obtain rfl := b0.symm
    replace d := d.perm (Tb (Tr (Tr (Tr (Tr (Tr Tn))))))
    refine jW (ko (qh ?_))
    obtain rfl := sj a4
    exact oL rfl ⟨_, _, rfl, (d.lM (Kb (Kr (Kr (Kr (Kr (Kr Sn))))))), d7, f0, d8, rfl, rfl, c9, d0⟩
   refine kP (ko (qh ?_))
   obtain rfl := sj a4
   exact oL rfl ⟨_, _, rfl, (d.lM (Db (Db (Kb (Kr (Kr (Kr (Kr (Kr Sn))))))))), D, t, j, rfl, rfl, a5.e, H⟩
  refine bC p (fun u p => ?_) (fun u p => ?_)
  ·refine Xg 11 rfl rfl (cB u) h (jE rfl) (Xg 12 rfl rfl (cB u) h (mW rfl) (Xg 13 rfl rfl (cB u) h (jC wU rfl) (uF 14 rfl rfl (cB u) h (fun _ l => jw rfl (jO l (Mt (Mt Mh)) rfl ic)) (Xg 15 rfl rfl (cB u) h (jC rR rfl) (uF 16 rfl rfl (cB u) h (fun _ l => jw rfl (jz l (Mt Mh) (jA Q.C) rfl bG aQ)) (uF 17 rfl rfl (cB u) h (fun _ l => oZ (k := Q.C) (z := (.map none)) zL fj fN rfl rfl a5 (fun b o n => l.2 b o (Mt (Mt (Mt (Ml n)))))) (Xg 18 rfl rfl (cB u) h (jC xq rfl) (uF 19 rfl rfl (cB u) h (fun _ l => jw rfl (jO l Mh rfl bV)) (uF 20 rfl rfl (cB u) h (fun _ l => zx (k := a2.ky) (z := false) (vf := (fun (x : Bool) => (Value.bool x))) FO fT jc rfl rfl (mK.CA (μ := hp _) jQ.1 a5 Q.C (fun b o n => l.2 b o (Mt (Mt (Mt (Ml n))))))) (X 21 rfl h (jM (cB u) rfl) ?_))))))))))
   obtain rfl := sj p
   refine ni kr (F _ _ ⟨_, (d.ju St), rfl, rfl, rfl, rfl⟩)
  refine Xn 11 rfl rfl (cB u) h (Xn 12 rfl rfl (cB u) h (Xn 13 rfl rfl (cB u) h (Xn 14 rfl rfl (cB u) h (Xn 15 rfl rfl (cB u) h (Xn 16 rfl rfl (cB u) h (Xn 17 rfl rfl (cB u) h (Xn 18 rfl rfl (cB u) h (Xn 19 rfl rfl (cB u) h (Xn 20 rfl rfl (cB u) h (X 21 rfl h (jN (cB u) rfl) ?_))))))))))
  obtain rfl := sj p
  refine ni kr (F _ _ ⟨_, (d.ju St), rfl, rfl, rfl, rfl⟩)
 refine kP (ko (qh ?_))
 obtain rfl := sj hm
 exact oL rfl ⟨_, _, rfl, (d.lM (Db (Db (Kb (Kr (Kr (Kr (Kr (Kr Sn))))))))), D, t, j, rfl, rfl, U, H⟩
theorem BP (K : Nat) (g : Value) (T : List (jq × (List (ByteArray × Bool)))) (D : LO) (a : Value) (G : List jr) (j : LO) (t : Value) (J : List (jq × (List jr))) (u : LO) (c : Value) (H : List (ByteArray × (List jr))) (k : LO) (z : Value) (M : List jJ) (B : LO) (a0 : Int) (Z : jr) (r : ((List (jq × (List (ByteArray × Bool)))) × (List jJ) × Int)) (w : World) {μ0 : kl} (h0 : nB μ0 ((K, Ob #[g, a, t, c, z, (.int .i64 a0)] 294) :: (D ++ (j ++ (u ++ (k ++ (B ++ [])))))) w) (a2 : lR (fun (x : jq) => (.agg (jA x).toArray)) (lL Value.string (fun (x : Bool) => (Value.bool x))) g T D) (N : jT 53 jv 9 a G j) (Y : lR (fun (x : jq) => (.agg (jA x).toArray)) (jT 53 jv 9) t J u) (Q : lR Value.string (jT 53 jv 9) c H k) (U : qc 38 kp 3 z M B) (hm : rX T G J H M a0 Z = some r) :
  lF false Tryz.prog 325 [(.pointer (some ⟨K, 0, none⟩)), (.agg (jv Z).toArray)] w ((K, Ob #[g, a, t, c, z, (.int .i64 a0)] 294) :: (D ++ (j ++ (u ++ (k ++ (B ++ [])))))) (fun v L1 W' => ∃ S1 y3 S4, v = (.tuple #[]) ∧ L1 = ((K, Ob #[g, a, t, c, y3, (.int .i64 (r.2.2))] 294) :: (S1 ++ (j ++ (u ++ (k ++ (S4 ++ [])))))) ∧ lR (fun (x : jq) => (.agg (jA x).toArray)) (lL Value.string (fun (x : Bool) => (Value.bool x))) g r.1 S1 ∧ qc 38 kp 3 y3 r.2.1 S4) := by
 refine AS h0 33 func325 rfl (fun d => sg (VE (km d rfl (fun W2 b1 d => lr (Wf qj (VB d Mh rfl rfl cC (ln (bg ?_))))))))
 refine Wi rfl (Wa (ln (CI hm rfl (fun f1 hm => ?_) (fun f1 hm => ?_))))
 ·refine jI (Wm (Wf qf (VA d Mh (jA Z.Head) bG aQ (Wf wm (VB d Mh rfl rfl bV (bS hm fun r4 f2 hm => ?_))))))
  refine VE (eM d (Cb (Pb Pz) (Cr (Qb Qz) (Cr (Qb Qz) (Cr (Qb Qz) (Cr (Qb Qz) (Cr (Qb Qz) Cn)))))) call370 (fun hh _ => lF.li (qE K g T D a G j t J u c H k z M B a0 Z.Head Z.ky _ _ hh a2 N Y Q U f2)) ?_)
  rintro _ h1 ae g8 d g2 ad m ⟨e7, f4, e8, c2, rfl, e0, e1⟩
  obtain rfl := c2.symm
  replace d := d.perm (Tb (Tr (Tr (Tr (Tr (Tr Tn))))))
  refine jW (ko (qh ?_))
  obtain rfl := sj hm
  exact oL rfl ⟨_, _, rfl, (d.lM (Kb (Kr (Kr (Kr (Kr (Kr Sn))))))), e7, f4, e8, rfl, rfl, e0, e1⟩
 refine sg (Wm (Wf nz (VA d Mh (jA Z.B) bG aQ (bS hm fun c6 d9 hm => VE (pv d call119 (yd K g T a G t J c H z M a0 Z.B _ _ (a2.at (fun b o l => d.at_ (Mt (Mt (Ml l))))) (N.sl jV (fun b o l => d.at_ (Mt (Mt (Ma (Ml l)))))) (Y.at (fun b o l => d.at_ (Mt (Mt (Ma (Ma (Ml l))))))) (Q.at (fun b o l => d.at_ (Mt (Mt (Ma (Ma (Ma (Ml l)))))))) ((U.DP qN).mono (Pl.mono _) (lP (fun b o l => d.at_ (Mt (Mt (Ma (Ma (Ma (Ma (Ml l)))))))))) (At.of (d.at_ (Mt Mh)) _ rfl) d9) (fun g9 f3 d5 e5 d f6 ab F => V (mI dP rfl F) (Wm (ln (qb (kB (fun i E W => ∃ n a3 a5 q a4 a9 L R, (E 13 = .int .i64 (i : Nat) ∧ E 12 = .int .i64 (c6.length : Nat)) ∧ kd d5 L ∧ ST false (keys ((K, Ob #[g, a, t, c, z, (.int .i64 a0)] 294) :: (D ++ (j ++ (u ++ (k ++ (B ++ []))))))) w W L ((K, Ob #[g, a, t, c, a5, (.int .i64 a9)] 294) :: ((b1, Ol (jv Z) 53) :: (a3 ++ (j ++ (u ++ (k ++ (a4 ++ (e5 ++ R)))))))) ∧ E 0 = (.pointer (some ⟨K, 0, none⟩)) ∧ E 3 = (.pointer (some ⟨b1, 0, none⟩)) ∧ E 11 = f3 ∧ lR (fun (x : jq) => (.agg (jA x).toArray)) (lL Value.string (fun (x : Bool) => (Value.bool x))) g n a3 ∧ qc 38 kp 3 a5 q a4 ∧ oV G J H Z (c6.drop i) n q a9 = some r) c6.length F.len ⟨T, D, z, M, B, a0, d5, _, ⟨rfl, rfl⟩, (kd.refl _), (d.ju (Sb (Pr (Pb Pz)) (Sb (Pr Pz) (Sr (Qr Qz) (Sr (Qr Qz) (Sr (Qr Qz) (Sr (Qr Qz) (Sr (Qr Qz) St)))))))), rfl, rfl, rfl, a2, U, hm⟩ dc dc dc (fun _ _ _ h => by obtain ⟨_, _, _, _, _, _, _, _, a1, _⟩ := h; exact a1) ?_ ?_))))))))))
 ·rintro e2 E W c8 ⟨n, a3, a5, q, a4, a9, L, R, ⟨eI, eN⟩, b7, d, c0, A, c1, O, P, I⟩
  obtain ⟨s, f7, d1, c4, d2⟩ := kq c8
  rw [d1] at I
  refine bg (VQ (pe (i := (e2 : Int)) (x0 := s) dP fG c1 eI F (aH _) c4) (fun g3 c9 => V (jw rfl (CC d.has (fun p l => (Mt (Mt (Ma (Ma (Ma (Ma (Ma (Ml l))))))))) F (fun _ => rfl) c9 c4 (y := (.string s)) rfl bV)) (Wa (ln (jI (Wh c0 (V (jw A (jz d.has (Mt Mh) (jv Z) rfl bM aJ)) (V (jC nz A) (VA d (Mt Mh) (jA Z.B) bG aQ (Wm (V (kZ (v := (.agg (kp (⟨Z.B, s⟩ : jJ)).toArray)) (nY rfl rfl) (kE fB fA (NW _ fA) kr)) ?_)))))))))))
  refine bS I fun c3 d0 I => ?_
  refine VE (eM d (Cb Pz (Cr (Qb Qz) (Cr (Qb Qz) (Cr (Qb Qz) (Cr (Qb Qz) (Cr (Qb Qz) Cn)))))) call371 (fun hh _ => (yI K g n a3 a G j t J u c H k a5 q a4 a9 Z (⟨Z.B, s⟩ : jJ) _ _ hh O N Y Q P d0)) ?_)
  rintro _ g4 e4 f9 d c5 aa m ⟨d6, e3, d7, b5, rfl, d3, d4⟩
  obtain rfl := b5.symm
  replace d := d.perm (Tb (Tr (Tr (Tr (Tr (Tr Tn))))))
  exact jW (ko (jF ⟨eI, c3.1, d6, e3, c3.2.1, d7, c3.2.2, e4, _, ⟨rfl, eN⟩, (b7.trans c5), (d.ju (Kb (Sb (Pr (Pr (Pr (Pr (Pr Pz))))) St))), c0, A, c1, d3, d4, (by rw [d2]; exact I)⟩))
 rintro E W ⟨n, a3, a5, q, a4, a9, L, R, ⟨eI, eN⟩, b7, d, c0, A, c1, O, P, I⟩
 rw [aN] at I
 refine jF ?_
 replace d := d.ju (Kb (Db (Kr (Kr (Kr (Kr (Kr (Dr St))))))))
 refine ko (qh ?_)
 obtain rfl := sj I
 exact oL rfl ⟨_, _, rfl, (d.lM (Kb (Kr (Kr (Kr (Kr (Kr Sn))))))), a3, a5, a4, rfl, rfl, O, P⟩
theorem By (I : Nat) (a : Value) (e8 : List (jq × (List (ByteArray × Bool)))) (K : LO) (c : Value) (Q : List jr) (j : LO) (u : Value) (N : List (jq × (List jr))) (y : LO) (g : Value) (H : List (ByteArray × (List jr))) (t : LO) (G : Value) (d4 : List jJ) (D : LO) (a0 : Int) (r : ((List (jq × (List (ByteArray × Bool)))) × (List jJ) × Int)) (w : World) {μ0 : kl} (h0 : nB μ0 ((I, Ob #[a, c, u, g, G, (.int .i64 a0)] 294) :: (K ++ (j ++ (y ++ (t ++ (D ++ [])))))) w) (h4 : lR (fun (x : jq) => (.agg (jA x).toArray)) (lL Value.string (fun (x : Bool) => (Value.bool x))) a e8 K) (c1 : jT 53 jv 9 c Q j) (g7 : lR (fun (x : jq) => (.agg (jA x).toArray)) (jT 53 jv 9) u N y) (c2 : lR Value.string (jT 53 jv 9) g H t) (g4 : qc 38 kp 3 G d4 D) (hm : uv e8 Q N H d4 a0 = some r) :
  lF false Tryz.prog 326 [(.pointer (some ⟨I, 0, none⟩))] w ((I, Ob #[a, c, u, g, G, (.int .i64 a0)] 294) :: (K ++ (j ++ (y ++ (t ++ (D ++ [])))))) (fun v L1 W' => ∃ S1 y3 S4, v = (.tuple #[]) ∧ L1 = ((I, Ob #[a, c, u, g, y3, (.int .i64 (r.2.2))] 294) :: (S1 ++ (j ++ (y ++ (t ++ (S4 ++ [])))))) ∧ lR (fun (x : jq) => (.agg (jA x).toArray)) (lL Value.string (fun (x : Bool) => (Value.bool x))) a r.1 S1 ∧ qc 38 kp 3 y3 r.2.1 S4) := by
 let g5 : Value := (.pointer (some ⟨I, 0, none⟩))
 let b8 := ((I, Ob #[a, c, u, g, G, (.int .i64 a0)] 294) :: (K ++ (j ++ (y ++ (t ++ (D ++ []))))))
 refine AS h0 75 func326 rfl (fun d => qb (ll (mU (fun m E W => ∃ e3 b7 e4 a1 b9 d1 b4 h5, kd μ0 b4 ∧ ST false (keys b8) w W b4 ((I, Ob #[a, c, u, g, e4, (.int .i64 d1)] 294) :: (b7 ++ (j ++ (y ++ (t ++ (b9 ++ h5)))))) ∧ E 0 = g5 ∧ lR (fun (x : jq) => (.agg (jA x).toArray)) (lL Value.string (fun (x : Bool) => (Value.bool x))) a e3 b7 ∧ qc 38 kp 3 e4 a1 b9 ∧ nk Q N H m e3 a1 d1 = some r) jY ⟨e8, K, G, d4, D, a0, μ0, _, (kd.refl _), (d.ju St), rfl, h4, g4, hm⟩ ?_)))
 rintro m E W ⟨e3, b7, e4, a1, b9, d1, b4, h5, i0, d, F, g9, c5, M⟩
 cases m with
 | zero => rw [nk] at M; cases M
 | succ n0 =>
  refine jK (sg (Wh F (Wn (Wf Au (VB d Mh rfl rfl isAgg68 (V (M4 cX rfl c5) (Wi rfl (ln (CI M rfl (fun i7 M => ?_) (fun i7 M => ?_))))))))))
  ·refine kn (bg (Wh F (Wn (Wf Au (VB d Mh rfl rfl isAgg68 (bS M fun B h2 M => VQ (na (enc := kp) (i := 0) (x0 := B) cX ep rfl rfl (c5.DP qN) (kk h2) (ki h2)) (fun q0 j7 => V (jw rfl (jR (ny.hp _) (j7.mono (lP (fun b o p => d.has.2 b o (Mt (Ma (Ma (Ma (Ma (Ml p))))))))) iz ep)) (VE (kf d fB (fun o9 a5 d => VO (jL (.agg (kp B).toArray) ((kp B).toArray) d rfl rfl ep (yV B) nb rfl (fun p0 d => jW ?_))))))))))))
   let j2 := ((kV jP N B.jq).getD [])
   let j1 : Value := (.pointer (some ⟨a5, 0, none⟩))
   let i6 := ((kp B).toArray : Array Value)
   let i5 := ((kV kQ H B.jq.jy).getD [])
   refine jF (sg (Wh F (Wh F (Wn (Wf Au (VB d (Mt Mh) rfl rfl isAgg68 (bS M fun _ g8 M => VQ (Lm (i := 1) cX ep rfl rfl qN c5 (vd g8) (vc g8)) (fun q3 h1 => Wn (Wf Au ?_)))))))))
   obtain ⟨f7, g0, rfl⟩ := h1.form
   let g6 : Value := (.slice f7 (a1.drop (Int.toNat 1)).length g0)
   replace d := d.perm (Nb (Pb Pz) Nz)
   refine VO (jL g6 (#[a, c, u, g, g6, (.int .i64 d1)]) d rfl rfl sizeOf68 oc nb rfl (fun p1 d => ln (jK (jK ?_))))
   replace d := d.drew
   have l := d.has.ju (Kb (Kb (Dr (Dr (Kr Sn)))))
   refine kJ l kw (X 0 rfl l (jE F) (X 1 rfl l (mW rfl) (X 2 rfl l (jC J3 rfl) (XH 3 rfl l (fun _ n => jw rfl (jO n Mh rfl isAgg291)) (X 4 rfl l (jC yD rfl) (XH 5 rfl l (fun _ n => jw rfl (jz n (Mt Mh) (jA B.jq) rfl bG aQ)) ?_))))))
   obtain ⟨l7, c3⟩ := g7
   obtain ⟨o7, f0, k2⟩ := mK.rowAt jQ.1 c3 B.jq
   refine XH 6 rfl l (fun _ n => oZ (k := B.jq) (z := (.slice none 0 0)) zL underlying291 jk rfl rfl c3 (fun b o p => n.2 b o (Mt (Mt (Ml p))))) (X 7 rfl l (kK aI rfl (f0.DP jV)) (X 8 rfl l (jE rfl) (kW kr (jF (CJ M (fun d0 E W => ∃ d6 e5 d7 b5 h6, kd b4 b5 ∧ ST false (keys b8) w W b5 ((I, Ob #[a, c, u, g, e5, (.int .i64 d0.2.2)] 294) :: ((a5, Obj.cells i6 38 (0, 0)) :: (d6 ++ (j ++ (y ++ (t ++ (d7 ++ h6))))))) ∧ E 0 = g5 ∧ E 2 = j1 ∧ lR (fun (x : jq) => (.agg (jA x).toArray)) (lL Value.string (fun (x : Bool) => (Value.bool x))) a d0.1 d6 ∧ qc 38 kp 3 e5 d0.2.1 d7) (fun d0 j6 => ?_) ?_)))))
   ·refine kB (fun i E W => ∃ c7 a3 P c8 a4 d2 d3 f9, (E 35 = .int .i64 (i : Nat) ∧ E 34 = .int .i64 (j2.length : Nat)) ∧ kd b4 d3 ∧ ST false (keys b8) w W d3 ((I, Ob #[a, c, u, g, P, (.int .i64 d2)] 294) :: ((a5, Obj.cells i6 38 (0, 0)) :: (a3 ++ (j ++ (y ++ (t ++ (a4 ++ f9))))))) ∧ E 0 = g5 ∧ E 2 = j1 ∧ E 33 = (qY jP l7 B.jq (.slice none 0 0)) ∧ lR (fun (x : jq) => (.agg (jA x).toArray)) (lL Value.string (fun (x : Bool) => (Value.bool x))) a c7 a3 ∧ qc 38 kp 3 P c8 a4 ∧ oK Q N H B (j2.drop i) c7 c8 d2 = some d0) j2.length (f0.DP jV).len ⟨e3, b7, g6, (a1.drop (Int.toNat 1)), b9, d1, b4, _, ⟨rfl, rfl⟩, (kd.refl _), (d.ju St), F, rfl, rfl, g9, h1, j6⟩ dc dc dc (fun _ _ _ h => by obtain ⟨_, _, _, _, _, _, _, _, s, _⟩ := h; exact s) ?_ ?_
    ·rintro m5 E W j0 ⟨c7, a3, P, c8, a4, d2, d3, f9, ⟨q, eN⟩, d5, d, e1, e2, g1, f3, f4, T⟩
     obtain ⟨b3, o3, l1, l0, l2⟩ := kq j0
     rw [l1] at T
     refine bg (VQ (na (enc := jv) (i := (m5 : Int)) (x0 := b3) aI aJ g1 q (f0.DP jV) (aH _) l0) (fun q2 j9 => V (jw rfl (jR (ny.hp _) (j9.mono (lP (fun b o p => d.has.2 b o (Mt (Mt (Ma (Ma (Ml (k2 b o p))))))))) bM aJ)) (VE (kf d cH (fun p5 p9 d => VO (jL (.agg (jv b3).toArray) ((jv b3).toArray) d rfl rfl aJ (mT b3) nb rfl (fun p6 d => ln (jI (Wh e1 (VA d Mh (jv b3) bM aJ (V (jw e2 (jz d.has (Mt (Mt Mh)) (kp B) rfl iz ep)) (bS T fun g3 k1 T => ?_))))))))))))
     refine VE (eM d (Cb (Pb Pz) (Cr (Qb (Qb Qz)) (Cr (Qb (Qb Qz)) (Cr (Qb (Qb Qz)) (Cr (Qb (Qb Qz)) (Cr (Qb (Qb Qz)) Cn)))))) call371 (fun hh _ => (yI I a c7 a3 c Q j u N y g H t P c8 a4 d2 b3 B _ _ hh f3 c1 c3.e c2 f4 k1)) ?_)
     rintro _ q5 n6 o6 d i4 ab A ⟨m1, n4, m2, f6, rfl, l5, l6⟩
     obtain rfl := f6.symm
     replace d := d.perm (Tb (Tr (Tr (Tr (Tr (Tr Tn))))))
     refine jW (ko (jF ?_))
     replace d := d.ju (Kb (Kr (Kr (Kr (Kr (Kr (Db St)))))))
     exact ⟨q, g3.1, m1, n4, g3.2.1, m2, g3.2.2, n6, _, ⟨rfl, eN⟩, (d5.trans i4), (d.ju (Kb (Sb (Pr (Pr (Pr (Pr (Pr Pz))))) St))), e1, e2, g1, l5, l6, (by rw [l2]; exact T)⟩
    rintro E W ⟨c7, a3, P, c8, a4, d2, d3, f9, ⟨q, eN⟩, d5, d, e1, e2, g1, f3, f4, T⟩
    rw [aN] at T
    refine jF ?_
    obtain rfl := sj T
    exact ⟨a3, P, a4, d3, _, d5, (d.ju St), e1, e2, f3, f4⟩
   rintro ⟨m6, m7, n1⟩ E W ⟨d6, e5, d7, b5, h6, i1, d, h8, h9, k3, k4⟩ j3
   refine jK ?_
   replace d := d.drew
   have l := d.has.ju (Kb (Kb (Dr (Dr (Dr (Kr Sn))))))
   refine kJ l kw (X 0 rfl l (jE h8) (X 1 rfl l (mW rfl) (X 2 rfl l (jC Hn rfl) (XH 3 rfl l (fun _ n => jw rfl (jO n Mh rfl isAgg292)) (X 4 rfl l (jC yD h9) (X 5 rfl l (jC uj rfl) (XH 6 rfl l (fun _ n => jw rfl (jO n (Mt Mh) rfl bV)) ?_)))))))
   obtain ⟨l8, e9⟩ := c2
   obtain ⟨o8, f1, k5⟩ := mK.rowAt lZ.1 e9 B.jq.jy
   refine XH 7 rfl l (fun _ n => oZ (k := B.jq.jy) (z := (.slice none 0 0)) FO underlying292 jk rfl rfl e9 (fun b o p => n.2 b o (Mt (Mt (Ml p))))) (X 8 rfl l (kK aI rfl (f1.DP jV)) (X 9 rfl l (jE rfl) (kW kr (jF (qb (CJ j3 (fun c9 E W => ∃ d8 e6 d9 e7 h7, kd b5 e7 ∧ ST false (keys b8) w W e7 ((I, Ob #[a, c, u, g, e6, (.int .i64 c9.2.2)] 294) :: (d8 ++ (j ++ (y ++ (t ++ (d9 ++ h7)))))) ∧ E 0 = g5 ∧ lR (fun (x : jq) => (.agg (jA x).toArray)) (lL Value.string (fun (x : Bool) => (Value.bool x))) a c9.1 d8 ∧ qc 38 kp 3 e6 c9.2.1 d9) (fun c9 j5 => ?_) ?_))))))
   ·refine kB (fun i E W => ∃ a9 Y a2 O Z R b6 f8, (E 53 = .int .i64 (i : Nat) ∧ E 52 = .int .i64 (i5.length : Nat)) ∧ kd b5 b6 ∧ ST false (keys b8) w W b6 ((I, Ob #[a, c, u, g, a2, (.int .i64 R)] 294) :: ((a5, Obj.cells i6 38 (0, 0)) :: (Y ++ (j ++ (y ++ (t ++ (Z ++ f8))))))) ∧ E 0 = g5 ∧ E 2 = j1 ∧ E 51 = (qY kQ l8 B.jq.jy (.slice none 0 0)) ∧ lR (fun (x : jq) => (.agg (jA x).toArray)) (lL Value.string (fun (x : Bool) => (Value.bool x))) a a9 Y ∧ qc 38 kp 3 a2 O Z ∧ nM B Q N H (i5.drop i) a9 O R = some c9) i5.length (f1.DP jV).len ⟨m6, d6, e5, m7, d7, n1, b5, _, ⟨rfl, rfl⟩, (kd.refl _), (d.ju St), h8, h9, rfl, k3, k4, j5⟩ dc dc dc (fun _ _ _ h => by obtain ⟨_, _, _, _, _, _, _, _, s, _⟩ := h; exact s) ?_ ?_
    ·rintro m4 E W i9 ⟨a9, Y, a2, O, Z, R, b6, f8, ⟨q, eN⟩, a8, d, L, c0, e0, f2, c6, J⟩
     obtain ⟨U, o2, k9, k8, h3⟩ := kq i9
     rw [k9] at J
     refine bg (VQ (na (enc := jv) (i := (m4 : Int)) (x0 := U) aI aJ e0 q (f1.DP jV) (aH _) k8) (fun q1 j8 => V (jw rfl (jR (ny.hp _) (j8.mono (lP (fun b o p => d.has.2 b o (Mt (Mt (Ma (Ma (Ma (Ml (k5 b o p)))))))))) bM aJ)) (VE (kf d cH (fun p2 p8 d => VO (jL (.agg (jv U).toArray) ((jv U).toArray) d rfl rfl aJ (mT U) nb rfl (fun p3 d => ln (jK ?_))))))))
     replace d := d.drew
     have l := d.has.ju (Kb (Kb (Kb (Kr Sn))))
     refine kJ l kw (X 0 rfl l (jE L) (X 1 rfl l (mW rfl) (X 2 rfl l (jC wU rfl) (XH 3 rfl l (fun _ n => jw rfl (jO n (Mt Mh) rfl ic)) (X 4 rfl l (jC nz rfl) (XH 5 rfl l (fun _ n => jw rfl (jz n Mh (jA U.B) rfl bG aQ)) ?_))))))
     obtain ⟨o0, c4⟩ := f2
     refine XH 6 rfl l (fun _ n => oZ (k := U.B) (z := (.map none)) zL fj fN rfl rfl c4 (fun b o p => n.2 b o (Mt (Mt (Mt (Ml p)))))) (X 7 rfl l (jC yD c0) (X 8 rfl l (jC oQ rfl) (XH 9 rfl l (fun _ n => jw rfl (jO n (Mt (Mt Mh)) rfl bV)) (XH 10 rfl l (fun _ n => zx (k := B.jq.js) (z := false) (vf := (fun (x : Bool) => (Value.bool x))) FO fT jc rfl rfl (mK.CA (μ := hp _) jQ.1 c4 U.B (fun b o p => n.2 b o (Mt (Mt (Mt (Ml p))))))) (kW kr (jF (CI J rfl (fun i8 J => ?_) (fun i8 J => ?_))))))))
     ·refine jI (Wh L (Wf qf (VA d Mh (jA U.Head) bG aQ (V (jC xq c0) (VB d (Mt (Mt Mh)) rfl rfl bV (bS J fun g2 k0 J => ?_))))))
      refine VE (eM d (Cb (Pb Pz) (Cr (Qb (Qb Qz)) (Cr (Qb (Qb Qz)) (Cr (Qb (Qb Qz)) (Cr (Qb (Qb Qz)) (Cr (Qb (Qb Qz)) Cn)))))) call370 (fun hh _ => lF.li (qE I a a9 Y c Q j u N y g H t a2 O Z R U.Head B.ky _ _ hh c4.e c1 c3.e e9.e c6 k0)) ?_)
      rintro _ q4 n5 o5 d i3 aa A ⟨l9, n3, m0, f5, rfl, l3, l4⟩
      obtain rfl := f5.symm
      replace d := d.perm (Tb (Tr (Tr (Tr (Tr (Tr Tn))))))
      refine jW (ko (jF ?_))
      replace d := d.ju (Kb (Kr (Kr (Kr (Kr (Kr (Db St)))))))
      exact ⟨q, g2.1, l9, n3, g2.2.1, m0, g2.2.2, n5, _, ⟨rfl, eN⟩, (a8.trans i3), (d.ju (Kb (Sb (Pr (Pr (Pr (Pr (Pr Pz))))) St))), L, c0, e0, l3, l4, (by rw [h3]; exact J)⟩
     refine kP (ko (jF ?_))
     replace d := d.ju (Db St)
     exact ⟨q, a9, Y, a2, O, Z, R, b6, _, ⟨rfl, eN⟩, a8, (d.ju St), L, c0, e0, c4.e, c6, (by rw [h3]; exact J)⟩
    rintro E W ⟨a9, Y, a2, O, Z, R, b6, f8, ⟨q, eN⟩, a8, d, L, c0, e0, f2, c6, J⟩
    rw [aN] at J
    refine jF ?_
    obtain rfl := sj J
    exact ⟨Y, a2, Z, b6, _, a8, (d.ju (Kb (Db St))), L, f2, c6⟩
   rintro ⟨m8, m9, n2⟩ E W ⟨d8, e6, d9, e7, h7, i2, d, m3, k6, k7⟩ j4
   exact ko (jF ⟨n0, bE _, m8, d8, e6, m9, d9, n2, e7, _, ((i0.trans i1).trans i2), (d.ju St), m3, k6, k7, j4⟩)
  refine mZ (mS (mS (qx (jF (qh ?_)))))
  obtain rfl := sj M
  exact oL rfl ⟨_, _, rfl, (d.lM (Kb (Kr (Kr (Kr (Kr (Kr Sn))))))), b7, e4, b9, rfl, rfl, g9, c5⟩
theorem Dk (H : Nat) (g : Value) (c2 : List (jq × (List (ByteArray × Bool)))) (G : LO) (u : Value) (a7 : List jr) (k : LO) (c : Value) (b7 : List (jq × (List jr))) (z : LO) (a : Value) (a8 : List (ByteArray × (List jr))) (t : LO) (B : Value) (b6 : List jJ) (y : LO) (K : Int) (d1 : Value) (p : List jr) (r : (Int × (List (jq × (List (ByteArray × Bool)))) × (List jr) × (List (jq × (List jr))) × (List (ByteArray × (List jr))) × (List jJ) × Int)) (w : World) {μ0 : kl} (h0 : nB μ0 ((H, Ob #[g, u, c, a, B, (.int .i64 K)] 294) :: (G ++ (k ++ (z ++ (t ++ (y ++ [])))))) w) (d6 : lR (fun (x : jq) => (.agg (jA x).toArray)) (lL Value.string (fun (x : Bool) => (Value.bool x))) g c2 G) (c6 : jT 53 jv 9 u a7 k) (d3 : lR (fun (x : jq) => (.agg (jA x).toArray)) (jT 53 jv 9) c b7 z) (c7 : lR Value.string (jT 53 jv 9) a a8 t) (d2 : qc 38 kp 3 B b6 y) (d7 : Sl (Pl jv) 9 μ0 d1 p) (hm : tP c2 a7 b7 a8 b6 K p = some r) :
  lF false Tryz.prog 233 [(.pointer (some ⟨H, 0, none⟩)), d1] w ((H, Ob #[g, u, c, a, B, (.int .i64 K)] 294) :: (G ++ (k ++ (z ++ (t ++ (y ++ [])))))) (fun v L1 W' => ∃ S1 y3 S4 S6 S8 i1 i0, v = (.int .i64 (r.1)) ∧ L1 = ((H, Ob #[g, y3, c, a, i1, (.int .i64 (r.2.2.2.2.2.2))] 294) :: (S1 ++ (S4 ++ (S6 ++ (S8 ++ (i0 ++ [])))))) ∧ lR (fun (x : jq) => (.agg (jA x).toArray)) (lL Value.string (fun (x : Bool) => (Value.bool x))) g r.2.1 S1 ∧ jT 53 jv 9 y3 r.2.2.1 S4 ∧ lR (fun (x : jq) => (.agg (jA x).toArray)) (jT 53 jv 9) c r.2.2.2.1 S6 ∧ lR Value.string (jT 53 jv 9) a r.2.2.2.2.1 S8 ∧ qc 38 kp 3 i1 r.2.2.2.2.2.1 i0) := by
 let b8 := ((H, Ob #[g, u, c, a, B, (.int .i64 K)] 294) :: (G ++ (k ++ (z ++ (t ++ (y ++ []))))))
 refine AS h0 46 func233 rfl (fun d => sg (Wa (lS (Wm (V (wO underlying171 rfl rfl) (ln (rE rfl (kP ?_))))))))
 refine jF (sg (Wm (Wn (Wf Ew (VB d Mh rfl rfl cC (Wa (lS (Wm (V (kK aI rfl d7) ?_)))))))))
 refine Wm (ln (kB (fun i E W => ∃ a3 N M a4 Q a9 T n U a0 a5 Y a2 c1 d5, (E 16 = .int .i64 (i : Nat) ∧ E 15 = .int .i64 (p.length : Nat)) ∧ kd μ0 c1 ∧ ST false (keys b8) w W c1 ((H, Ob #[g, M, c, a, a0, (.int .i64 a2)] 294) :: (N ++ (Q ++ (T ++ (U ++ (Y ++ d5)))))) ∧ E 0 = (.pointer (some ⟨H, 0, none⟩)) ∧ E 5 = (.int .i64 K) ∧ E 14 = d1 ∧ lR (fun (x : jq) => (.agg (jA x).toArray)) (lL Value.string (fun (x : Bool) => (Value.bool x))) g a3 N ∧ jT 53 jv 9 M a4 Q ∧ lR (fun (x : jq) => (.agg (jA x).toArray)) (jT 53 jv 9) c a9 T ∧ lR Value.string (jT 53 jv 9) a n U ∧ qc 38 kp 3 a0 a5 Y ∧ nJ K (p.drop i) a3 a4 a9 n a5 a2 = some r) p.length d7.len ⟨c2, G, u, a7, k, b7, z, a8, t, B, b6, y, K, μ0, _, ⟨rfl, rfl⟩, (kd.refl _), (d.ju St), rfl, rfl, rfl, d6, c6, d3, c7, d2, hm⟩ dc dc dc (fun _ _ _ h => by obtain ⟨_, _, _, _, _, _, _, _, _, _, _, _, _, _, _, aa, _⟩ := h; exact aa) ?_ ?_))
 ·rintro f6 E W g3 ⟨a3, N, M, a4, Q, a9, T, n, U, a0, a5, Y, a2, c1, d5, ⟨eI, eN⟩, b1, d, s, c3, c4, F, q, L, O, P, D⟩
  obtain ⟨I, j8, h4, h3, d9⟩ := kq g3
  rw [h4] at D
  refine bg (VQ (na (enc := jv) (i := (f6 : Int)) (x0 := I) aI aJ c4 eI (d7.mono (Pl.mono _) b1) (aH _) h3) (fun l1 g4 => V (jw rfl (jR d.has g4 bM aJ)) (VE (kf d cH (fun k3 e8 d => VO (jL (.agg (jv I).toArray) ((jv I).toArray) d rfl rfl aJ (mT I) nb rfl (fun k4 d => ln (jK ?_))))))))
  replace d := d.drew
  have l := d.has.ju (Kb (Kb Sn))
  refine kJ l kw (XH 0 rfl l (fun _ R => jw rfl (jz R Mh (jv I) rfl bM aJ)) (bS D fun l2 g7 D => XE 1 rfl (Eg d call137 (jS.li (yo I _ _  g7)) (fun k5 d => ?_))))
  have l := d.has.ju (Kb (Kb Sn))
  refine ⟨l, (X 2 rfl l (jE rfl) (PJ D (fun f7 E W => ∃ e4, ST false (keys b8) w W c1 ((e8, Ol (jv I) 53) :: ((H, Ob #[g, M, c, a, a0, (.int .i64 a2)] 294) :: (N ++ (Q ++ (T ++ (U ++ (Y ++ e4))))))) ∧ E 0 = (.pointer (some ⟨H, 0, none⟩)) ∧ E 5 = (.int .i64 K) ∧ E 7 = (.pointer (some ⟨e8, 0, none⟩)) ∧ E 14 = d1 ∧ E 15 = (.int .i64 (p.length : Int)) ∧ E 16 = (.int .i64 (f6 : Int)) ∧ E 30 = (.bool f7)) (bm 11 2047) 0 ?_ (fun f7 Z d4 => ?_)))⟩
  ·rintro l7 E W ⟨e4, d, c5, e9, f0, f1, f2, f3, i6⟩ J
   refine kW kr (jF (CI J i6 (fun g2 J => ?_) (fun g2 J => ?_)))
   ·refine sg (Wh c5 (V (jw f0 (jz d.has Mh (jv I) rfl bM aJ)) (bS J fun A g8 J => ?_)))
    refine VE (eM d (Cb (Pb Pz) (Cr (Qb Qz) (Cr (Qb Qz) (Cr (Qb Qz) (Cr (Qb Qz) (Cr (Qb Qz) Cn)))))) call324 (fun hh _ => lF.li (Ch H g a3 N M a4 Q c a9 T a n U a0 a5 Y a2 I _ _ hh F q L O P g8)) ?_)
    rintro _ l4 l8 k0 d f4 ab m ⟨f8, e5, e6, e7, c8, rfl, e0, e1, e2⟩
    obtain rfl := c8.symm
    replace d := d.perm (Tb (Tr (Tr (Tr (Tr (Tr Tn))))))
    refine ln (jI (Wh c5 (V (jw f0 (jz d.has (Mt (Ma (Ma (Ma (Ma (Ma Mh)))))) (jv I) rfl bM aJ)) (bS J fun d8 g9 J => ?_))))
    refine VE (eM d (Cb Pz (Cr Qz (Cr Qz (Cr Qz (Cr Qz (Cr Qz Cn)))))) call325 (fun hh _ => (BP H g a3 N f8 A.1 e5 c A.2.1 e6 a A.2.2 e7 a0 a5 Y a2 I _ _ hh F e0 e1 e2 P g9)) ?_)
    rintro _ l5 j0 k1 d f5 ad m ⟨i2, i8, i3, c9, rfl, h5, h6⟩
    obtain rfl := c9.symm
    replace d := d.perm (Tb (Tr (Tr (Tr (Tr (Tr Tn))))))
    refine jW (ko (jF ?_))
    replace d := d.ju (Kb (Kr (Kr (Kr (Kr (Kr (Db St)))))))
    exact ⟨f3, d8.1, i2, f8, A.1, e5, A.2.1, e6, A.2.2, e7, i8, d8.2.1, i3, d8.2.2, j0, _, ⟨rfl, f2⟩, ((b1.trans f4).trans f5), (d.ju St), c5, e9, f1, h5, e0, e1, e2, h6, (by rw [d9]; exact J)⟩
   refine kP (ko (jF ?_))
   replace d := d.ju (Db St)
   exact ⟨f3, a3, N, M, a4, Q, a9, T, n, U, a0, a5, Y, a2, c1, _, ⟨rfl, f2⟩, b1, (d.ju St), c5, e9, f1, F, q, L, O, P, (by rw [d9]; exact J)⟩
  refine bC Z (fun j Z => ?_) (fun j Z => ?_)
  ·refine Xg 3 rfl rfl (cB j) l (jE s) (Xg 4 rfl rfl (cB j) l (mW rfl) (Xg 5 rfl rfl (cB j) l (jC G0 rfl) (uF 6 rfl rfl (cB j) l (fun _ R => jw rfl (jO R (Mt Mh) rfl jo)) (uF 7 rfl rfl (cB j) l (fun _ R => jw rfl (jz R Mh (jv I) rfl bM aJ)) (bS Z fun l3 h1 Z => E7 8 rfl rfl (cB j) (Eg d call201 (jS.li (Ai M a4 I _ _ (q.sl jV (fun b o hq => d.at_ (Mt (Mt (Ma (Ml hq)))))) h1)) (fun k8 d => ?_)))))))
   have l := d.has.ju (Kb (Kb Sn))
   refine ⟨l, (Xg 9 rfl rfl (cB j) l (nH rfl) (X 10 rfl l (jM (cB j) rfl) ?_))⟩
   obtain rfl := sj Z
   refine ni kr (d4 _ _ ⟨_, (d.ju St), s, c3, rfl, c4, eN, eI, rfl⟩)
  refine Xn 3 rfl rfl (cB j) l (Xn 4 rfl rfl (cB j) l (Xn 5 rfl rfl (cB j) l (Xn 6 rfl rfl (cB j) l (Xn 7 rfl rfl (cB j) l (Xn 8 rfl rfl (cB j) l (Xn 9 rfl rfl (cB j) l (X 10 rfl l (jN (cB j) rfl) ?_)))))))
  obtain rfl := sj Z
  refine ni kr (d4 _ _ ⟨_, (d.ju St), s, c3, rfl, c4, eN, eI, rfl⟩)
 rintro E W ⟨a3, N, M, a4, Q, a9, T, n, U, a0, a5, Y, a2, c1, d5, ⟨eI, eN⟩, b1, d, s, c3, c4, F, q, L, O, P, D⟩
 rw [aN] at D
 refine jF (sg (Wh s (bS D fun i7 h2 D => ?_)))
 refine VE (eM d (Cb Pz (Cr Qz (Cr Qz (Cr Qz (Cr Qz (Cr Qz Cn)))))) call326 (fun hh _ => (By H g a3 N M a4 Q c a9 T a n U a0 a5 Y a2 _ _ hh F q L O P h2)) ?_)
 rintro _ l6 l9 k2 d j6 ae m ⟨i4, i9, i5, d0, rfl, h7, h8⟩
 obtain rfl := d0.symm
 replace d := d.perm (Tb (Tr (Tr (Tr (Tr (Tr Tn))))))
 refine lr (Wh s (Wn (Wf Ew (VB d Mh rfl rfl cC (Wh c3 (Wi rfl (Wa (lt ?_))))))))
 obtain rfl := sj D
 exact kY (v := (.int .i64 (IntKind.i64.wrap (i7.2.2 - K)))) rfl rfl ⟨_, _, rfl, (d.lM (Kb (Kr (Kr (Kr (Kr (Kr Sn))))))), i4, M, Q, T, U, i9, i5, rfl, rfl, h7, q, L, O, h8⟩
theorem Ls (j : Value) (H : List jr) (r : ((List (jq × (List (ByteArray × Bool)))) × (List jr) × (List (jq × (List jr))) × (List (ByteArray × (List jr))) × (List jJ) × Int)) (w : World) (J : Sl (Pl jv) 9 (hp w) j H) (hm : yC H = some r) :
  lF false Tryz.prog 117 [j] w [] (fun v L1 W' => ∃ l n S3 p S6 q S9 D u G y, v = (.pointer (some ⟨l, 0, none⟩)) ∧ L1 = ((l, Ob #[n, p, q, D, G, (.int .i64 (r.2.2.2.2.2))] 294) :: (S3 ++ (S6 ++ (S9 ++ (u ++ (y ++ [])))))) ∧ lR (fun (x : jq) => (.agg (jA x).toArray)) (lL Value.string (fun (x : Bool) => (Value.bool x))) n r.1 S3 ∧ jT 53 jv 9 p r.2.1 S6 ∧ lR (fun (x : jq) => (.agg (jA x).toArray)) (jT 53 jv 9) q r.2.2.1 S9 ∧ lR Value.string (jT 53 jv 9) D r.2.2.2.1 u ∧ qc 38 kp 3 G r.2.2.2.2.1 y) := by
 refine tF 13 func117 rfl (fun b => sg (Wa (lr (VE (CS (P := Tryz.prog) (fun (x : jq) => (.agg (jA x).toArray)) (lL Value.string (fun (x : Bool) => (Value.bool x))) b (fun W1 v4 R2 b z => VE (CS (P := Tryz.prog) (fun (x : jq) => (.agg (jA x).toArray)) (jT 53 jv 9) b (fun W5 v8 R6 b B => VE (CS (P := Tryz.prog) Value.string (jT 53 jv 9) b (fun W9 O Y b t => ?_))))))))))
 obtain ⟨a, rfl⟩ := z.form
 obtain ⟨c, rfl⟩ := B.form
 obtain ⟨g, rfl⟩ := t.form
 refine V (kZ (v := (.agg #[(.map (some a)), (.slice none 0 0), (.map (some c)), (.map (some g)), (.slice none 0 0), (.int .i64 0)])) (El rfl rfl rfl) (kE zeroValue294 fh (Rg _ fh) kr)) (VE (km b rfl (fun c1 k b => Wa (lr (Wm (Wm (bS hm fun L K hm => ?_)))))))
 refine VE (eM b (Cb Pz (Cr (Qr (Qr Qz)) (C0 (Cr (Qr Qz) (Cr Qz (C0 Cn)))))) call233 (fun E h => (Dk k (.map (some a)) ([]) R2 (.slice none 0 0) ([]) [] (.map (some c)) ([]) R6 (.map (some g)) ([]) Y (.slice none 0 0) ([]) [] 0 j H _ _ E z (jT.nil _ _ _) B t (qc.nil _ _ _) (J.mono (Pl.mono _) h) K)) ?_)
 rintro _ R W I b F m d ⟨Z, s, a2, a3, a4, A, a5, i, rfl, M, N, Q, T, U⟩
 obtain rfl := i.symm
 replace b := b.perm (Tb (Tr (Tr (Tr (Tr (Tr Tn))))))
 refine lr (Wm (Wa (lt ?_)))
 obtain rfl := sj hm
 exact kY (v := (.pointer (some ⟨k, 0, none⟩))) rfl rfl ⟨_, _, rfl, (b.GF (Kb (Kr (Kr (Kr (Kr (Kr Sn))))))), k, (.map (some a)), Z, s, a2, (.map (some c)), a3, (.map (some g)), a4, A, a5, rfl, rfl, M, N, Q, T, U⟩
theorem IQ (c : Value) (D : List jr) (G : ByteArray) (r : ((List (jq × (List (ByteArray × Bool)))) × (List jr) × (List (jq × (List jr))) × (List (ByteArray × (List jr))) × (List jJ) × Int × ByteArray)) (w : World) (I : Sl (Pl jv) 9 (hp w) c D) (hm : uL D G = some r) :
  lF false Tryz.prog 182 [c, (.string G)] w [] (fun v L1 W' => ∃ g h l S4 m S7 n j z k B t u, v = (.func (.func 287) #[] #[(.pointer (some ⟨g, 0, none⟩)), (.pointer (some ⟨u, 0, none⟩))]) ∧ L1 = ((g, Ob #[(.pointer (some ⟨h, 0, none⟩))] 171) :: ((h, Ob #[l, m, n, z, B, (.int .i64 (r.2.2.2.2.2.1))] 294) :: ((u, Ob #[(.string (r.2.2.2.2.2.2))] 9) :: (S4 ++ (S7 ++ (j ++ (k ++ (t ++ [])))))))) ∧ lR (fun (x : jq) => (.agg (jA x).toArray)) (lL Value.string (fun (x : Bool) => (Value.bool x))) l r.1 S4 ∧ jT 53 jv 9 m r.2.1 S7 ∧ lR (fun (x : jq) => (.agg (jA x).toArray)) (jT 53 jv 9) n r.2.2.1 j ∧ lR Value.string (jT 53 jv 9) z r.2.2.2.1 k ∧ qc 38 kp 3 B r.2.2.2.2.1 t) := by
 refine tF 9 func182 rfl (fun b => sg (VE (km b rfl (fun W2 g b => Wa (lr (Wm (bS hm fun R p hm => ?_)))))))
 refine VE (zI b (bB _) call117 (fun _ _ _ _ => (Ls c D _ _ (I.mono (Pl.mono _) b.jD) p)) (fun W5 v9 L P b O F d H => ?_) (L0 := []))
 obtain ⟨i, q, T, s, U, a9, Y, A, Z, E, a2, a, rfl, J, K, M, N, Q⟩ := H
 replace a := a.symm; subst a
 replace b := b.perm (Tb (Tr (Tr (Tr (Tr (Tr Tn))))))
 refine VE (kf b zeroValue171 (fun c1 y b => VO (jL (.pointer (some ⟨i, 0, none⟩)) (#[(.pointer (some ⟨i, 0, none⟩))]) b rfl rfl sizeOf171 oc nb rfl (fun c2 b => lr (V (rH (by exact we rfl rfl) rfl) (Wa (lt ?_)))))))
 obtain rfl := sj hm
 exact kY (v := (.func (.func 287) #[] #[(.pointer (some ⟨y, 0, none⟩)), (.pointer (some ⟨g, 0, none⟩))])) rfl rfl ⟨_, _, rfl, (b.GF (Kb (Kb (Sb (Pr (Pr (Pr (Pr (Pr Pz))))) (Kr (Kr (Kr (Kr (Kr Sn))))))))), y, i, q, T, s, U, a9, Y, A, Z, E, a2, g, rfl, rfl, J, K, M, N, Q⟩
theorem sv (g : Value) (t : List kz) (j : Value) (z : kz → Option Bool) (r : Int) (w : World) (c : Sl kc 15 (hp w) g t) (B : xy Tryz.prog j (hp w) (AD kc) (fun (r : Bool) => (.bool r)) z) (hm : mL t z = some r) :
  jS false Tryz.prog 184 [g, j] w (.int .i64 r) := by
 refine cG 19 func184 rfl (fun b => sg (Wa (lS (Wm (V (kK cP rfl c) (Wm (ln (kB (fun i E W => ∃ k, (E 8 = .int .i64 (i : Nat) ∧ E 7 = .int .i64 (t.length : Nat)) ∧ ST false ku w W (hp w) k ∧ E 0 = g ∧ E 1 = j ∧ ng z (t.drop i) i = some r) t.length c.len ⟨_, ⟨rfl, rfl⟩, (b.ju St), rfl, rfl, hm⟩ dc dc dc (fun _ _ _ h => by obtain ⟨_, l, _⟩ := h; exact l) ?_ ?_))))))))
 ·rintro T E W G ⟨k, ⟨d, m⟩, b, u, x, a⟩
  obtain ⟨y, Z, N, M, Q⟩ := kq G
  rw [N] at a
  refine bg (Wh d (Wa (lr (Wh x (Wh u (Wm (VQ (lK (i := (T : Int)) (x0 := y) kc.out cP cU rfl rfl c (aH _) M) (fun a2 ⟨_, ⟨U, Y, rfl, J, K⟩, H⟩ => V (jw rfl (jR b.has H gK cU)) (bS a fun a3 I a => ?_)))))))))
  refine VE (yz y b B (kd.refl _) (AD.mk jZ (kc.mk ⟨U, Y, rfl, J, K⟩) b.jD) rfl (ua rfl) I (fun n b => ln (CI a rfl (fun D a => ?_) (fun D a => ?_))))
  ·refine sg (Wm (Wa (lt (me (kj (me (kj ?_)))))))
   obtain rfl := sj a
   exact rP b
  exact kP (ko (jF ⟨d, _, ⟨rfl, m⟩, (b.ju St), u, x, (by rw [Q]; exact a)⟩))
 rintro E W ⟨k, ⟨d, m⟩, b, u, x, a⟩
 rw [aN] at a
 exact jF (sg (Wa (lt (rQ a b))))
theorem F9 (a : kz) (g c : Value) (k : Nat) (u : jr) (r : Bool) (w : World) (j : Sl (Pl (lu .u8)) 1 (hp w) g a.Signed.Tag) (i : Sl jt 5 (hp w) c a.jx.Kids) (t : At (hp w) (.pointer (some ⟨k, 0, none⟩)) (jv u)) (hm : vX a u = some r) :
  jS true Tryz.prog 305 [(.agg #[(.int .i64 a.Signed.jr.Kind), (.string a.Signed.jr.Head.js), (.string a.Signed.jr.Head.jy), (.string a.Signed.jr.ky), (.string a.Signed.jr.B.js), (.string a.Signed.jr.B.jy), (.string a.Signed.jr.C.js), (.string a.Signed.jr.C.jy), (.string a.Signed.jr.kF), g, (.int .i64 a.jx.Op), (.int .i64 a.jx.K), (.string a.jx.jq.js), (.string a.jx.jq.jy), c]), (.pointer (some ⟨k, 0, none⟩))] w (.bool r) := by
 refine cG 9 func305 rfl (fun b => sg ?_)
 obtain ⟨x, z, rfl⟩ := j.form
 obtain ⟨y, B, rfl⟩ := i.form
 refine VE (km b rfl (fun D G b => Wa (lr (Wf vI (Wf xj (VA b Mh (jv a.Signed.jr) bM aJ (V (jw rfl (jR b.has t bM aJ)) (V (uB rfl rfl (nm fi) (qO (vh _ a.Signed.jr u))) (Wa (ln ?_))))))))))
 exact jU (rQ hm b)
theorem Js (k : kI) (g j : Value) (D : jr) (r : (kz × Bool)) (w : World) {J : kl} (l : nB J [] w) (c : Sl kc 15 J g k.jH) (B : Sl kX 8 J j k.ke) (hm : yg k D = some r) :
  lB false Tryz.prog 212 [(.agg #[(.string k.Name), g, j]), (.agg (jv D).toArray)] w J [] (fun v L1 μ1 => ∃ d h, v = (.tuple #[(.agg #[(.int .i64 ((((r.1).Signed).jr).Kind)), (.string (((((r.1).Signed).jr).Head).js)), (.string (((((r.1).Signed).jr).Head).jy)), (.string ((((r.1).Signed).jr).ky)), (.string (((((r.1).Signed).jr).B).js)), (.string (((((r.1).Signed).jr).B).jy)), (.string (((((r.1).Signed).jr).C).js)), (.string (((((r.1).Signed).jr).C).jy)), (.string ((((r.1).Signed).jr).kF)), d, (.int .i64 (((r.1).jx).Op)), (.int .i64 (((r.1).jx).K)), (.string ((((r.1).jx).jq).js)), (.string ((((r.1).jx).jq).jy)), h]), (.bool (r.2))]) ∧ L1 = [] ∧ Sl (Pl (lu .u8)) 1 μ1 d (((r.1).Signed).Tag) ∧ Sl jt 5 μ1 h (((r.1).jx).Kids)) := by
 refine tE l 19 func212 rfl (fun b => sg ?_)
 obtain ⟨T, U, rfl⟩ := c.form
 obtain ⟨A3, c4, rfl⟩ := B.form
 refine VE (km b rfl (fun W6 L b => VE (km b rfl (fun W8 K b => VE (kf b eP (fun E P b => Wa (lr (Wf qM (VB b (Mt (Mt Mh)) rfl rfl fK (V (rH (by exact ua rfl) rfl) (bS hm fun Z Q hm => VE (Eg b call184 (sv (.slice T k.jH.length U) k.jH (.func (.func 305) #[] #[(.pointer (some ⟨K, 0, none⟩))]) (fun (x : kz) => vX x D) _ _ (c.mono jZ.mono b.jD) ⟨305, #[], #[(.pointer (some ⟨K, 0, none⟩))], rfl, call305, fun W x vs r n m hm => by obtain ⟨_, rfl, Y⟩ := m; obtain ⟨s, A, rfl, p, q⟩ := Y.out; exact (F9 x s A K D r W p q (At.of (n _ _ (b.at_ (Mt Mh))) _ rfl) hm).li⟩ Q) (fun F b => Wa (jW ?_))))))))))))))
 refine jF ?_
 replace b := b.ju (Kb (Db St))
 refine jK (sg (Wm (Wi rfl (ln (CI hm rfl (fun M hm => ?_) (fun M hm => ?_))))))
 ·refine sg (V (kZ (v := (.agg C9.toArray)) pM (kE eP fS (Of _ fS) kr)) (VO (jL (.agg C9.toArray) (C9.toArray) b rfl rfl cU oc nb rfl (fun O b => Wa (ln ?_)))))
  replace b := b.ju (Kb (Db St))
  refine jU (kj ?_)
  obtain rfl := sj hm
  exact oD (v0 := (.agg C9.toArray)) (v1 := (.bool false)) rfl rfl (jz b.has Mh C9 rfl gK cU) rfl ⟨_, _, _, rfl, (b.lM Sn), (kd.refl _), Lo.refl, (ST.kA b (ma.mem Sn)), (.slice none 0 0), (.slice none 0 0), rfl, rfl, (Sl.nil _ _ _), (Sl.nil _ _ _)⟩
 refine kg (Wf qM (VB b (Mt Mh) rfl rfl fK (Wm (bS hm fun a I hm => VQ (lK (i := Z) (x0 := a) kc.out cP cU rfl rfl c (kk I) (ki I)) (fun c1 ⟨_, ⟨c3, c5, rfl, G, H⟩, N⟩ => V (jw rfl (jR b.has N gK cU)) ?_)))))
 obtain ⟨t, y, rfl⟩ := G.form
 obtain ⟨u, z, rfl⟩ := H.form
 let a0 := (C3 a.Signed.jr.Kind a.Signed.jr.Head.js a.Signed.jr.Head.jy a.Signed.jr.ky a.Signed.jr.B.js a.Signed.jr.B.jy a.Signed.jr.C.js a.Signed.jr.C.jy a.Signed.jr.kF t a.Signed.Tag.length y a.jx.Op a.jx.K a.jx.jq.js a.jx.jq.jy u a.jx.Kids.length z)
 refine VO (jL (.agg a0.toArray) (a0.toArray) b rfl rfl cU oc nb rfl (fun R b => Wa (ln ?_)))
 replace b := b.ju (Kb (Db St))
 refine jU ?_
 obtain rfl := sj hm
 exact oD (v0 := (.agg a0.toArray)) (v1 := (.bool true)) rfl rfl (jz b.has Mh a0 rfl gK cU) rfl ⟨_, _, _, rfl, (b.lM Sn), (kd.refl _), Lo.refl, (ST.kA b (ma.mem Sn)), (.slice t a.Signed.Tag.length y), (.slice u a.jx.Kids.length z), rfl, rfl, G, H⟩
theorem D0 (c : Value) (u r : List oe) (w : World) {j : kl} (I : nB j [] w) (a : Sl kX 8 j c u) (hm : um u = some r) :
  lB true Tryz.prog 302 [c] w j [] (fun v G J => ∃ z t, v = z ∧ G = (t ++ []) ∧ kD 263 kX 8 J z r t) := by
 unfold um at hm
 refine tE I 8 func302 rfl (fun b => sg (Wa (lS (Wm ?_))))
 obtain ⟨D, Q, rfl⟩ := a.form
 refine V (zt dE rfl rfl) (ln ?_)
 rcases D with _ | M
 ·have y := a.isNil
  replace hm : some [] = some r := by rw [y] at hm; simpa [mu, maxLen] using hm
  refine wK (rfl) (sg (Wa (lt (kj ?_))))
  obtain rfl := sj hm
  refine kY (v := (.slice none 0 0)) rfl rfl ?_
  replace b := b.NM
  exact ⟨_, _, _, rfl, (b.lM (Kr Sn)), (kd.refl _), Lo.refl, (ST.kA b (ma.mem (Kr Sn))), (.slice none 0 0), [], rfl, rfl, (kD.nil _ _ _ _)⟩
 ·refine rE (rfl) (kg (VE (jX (cs := #[]) b pM (yS [] dE eu gL dc rfl (by simp) rfl rfl) (fun N H b => Wm (bS hm fun T x hm => VE (oU (B := [(H, Ob #[] 263)]) lT b dc dE Ep.1 Ep.2.1 rfl Ep.2.2.1 Ep.2.2.2 rfl rfl (kD.lit lT (l := []) .nil rfl nb rfl) (xd.sl lT a b.jD) x (fun K g k b i => Wa (lt ?_))))))))
  obtain rfl := sj hm
  exact kY (v := g) rfl rfl ⟨_, _, _, rfl, (b.lM (Kr Sn)), (kd.refl _), Lo.refl, (ST.kA b (ma.mem (Kr Sn))), g, k, rfl, rfl, i⟩
theorem BN (g : Value) (t : List oe) (j : Value) (z : oe → Option Bool) (r : Int) (w : World) (c : Sl kX 8 (hp w) g t) (B : xy Tryz.prog j (hp w) (AD kX) (fun (r : Bool) => (.bool r)) z) (hm : uy t z = some r) :
  jS false Tryz.prog 304 [g, j] w (.int .i64 r) := by
 refine cG 19 func304 rfl (fun b => sg (Wa (lS (Wm (V (kK dE rfl c) (Wm (ln (kB (fun i E W => ∃ k, (E 8 = .int .i64 (i : Nat) ∧ E 7 = .int .i64 (t.length : Nat)) ∧ ST false ku w W (hp w) k ∧ E 0 = g ∧ E 1 = j ∧ nL z (t.drop i) i = some r) t.length c.len ⟨_, ⟨rfl, rfl⟩, (b.ju St), rfl, rfl, hm⟩ dc dc dc (fun _ _ _ h => by obtain ⟨_, l, _⟩ := h; exact l) ?_ ?_))))))))
 ·rintro T E W G ⟨k, ⟨d, m⟩, b, u, x, a⟩
  obtain ⟨y, Z, N, M, Q⟩ := kq G
  rw [N] at a
  refine bg (Wh d (Wa (lr (Wh x (Wh u (Wm (VQ (lK (i := (T : Int)) (x0 := y) kX.out dE eu rfl rfl c (aH _) M) (fun a2 ⟨_, ⟨U, Y, rfl, J, K⟩, H⟩ => V (jw rfl (jR b.has H iX eu)) (bS a fun a3 I a => ?_)))))))))
  refine VE (yz y b B (kd.refl _) (AD.mk lT (kX.mk ⟨U, Y, rfl, J, K⟩) b.jD) rfl (ua rfl) I (fun n b => ln (CI a rfl (fun D a => ?_) (fun D a => ?_))))
  ·refine sg (Wm (Wa (lt (me (kj (me (kj ?_)))))))
   obtain rfl := sj a
   exact rP b
  exact kP (ko (jF ⟨d, _, ⟨rfl, m⟩, (b.ju St), u, x, (by rw [Q]; exact a)⟩))
 rintro E W ⟨k, ⟨d, m⟩, b, u, x, a⟩
 rw [aN] at a
 exact jF (sg (Wa (lt (rQ a b))))
theorem AY (k : Value) (a0 : List oe) (y : LO) (J : Value) (f1 : oe → Option Bool) (r : List oe) (w : World) {Y : kl} (h0 : nB Y (y ++ []) w) (n : kD 263 kX 8 Y k a0 y) (a9 : xy Tryz.prog J Y (AD kX) (fun (r : Bool) => (.bool r)) f1) (hm : qZ a0 f1 = some r) :
  lB false Tryz.prog 301 [k, J] w Y (y ++ []) (fun v L1 μ1 => ∃ P, v = P ∧ L1 = [] ∧ Sl kX 8 μ1 P (r)) := by
 refine tE h0 42 func301 rfl (fun d => sg (Wa (lr (Wm (Wm (bS hm fun O d7 hm => VE (Eg d call304 (BN k a0 J f1 _ _ (n.sl lT d.jD (fun b o q => d.at_ (Ml q))) (a9.mono d.jD) d7) (fun W3 d => Wa (ln ?_)))))))))
 refine jK (sg (Wm (Wi rfl (ln (CI hm rfl (fun d6 hm => ?_) (fun d6 hm => ?_))))))
 ·refine sg (Wm (Wa (lt (kj ?_))))
  obtain rfl := sj hm
  refine kY (v := k) rfl rfl ?_
  obtain ⟨aa, d, d2, p, d8⟩ := ST.so lT d n
  exact ⟨_, _, _, rfl, (d.lM Sn), d2, p, (ST.kA d (ma.mem Sn)), k, rfl, rfl, d8⟩
 refine kS (Wm (Wi rfl (Wa (ln (ll (mU (fun m E W => ∃ a2 K G H A, ST false (keys (y ++ [])) w W Y (K ++ A) ∧ E 0 = k ∧ E 1 = J ∧ E 5 = (.int .i64 G) ∧ E 6 = (.int .i64 H) ∧ kD 263 kX 8 Y k a2 K ∧ nE f1 m a2 G H = some r) jY ⟨a0, y, O, (IntKind.i64.wrap (O + 1)), _, (d.ju St), rfl, rfl, rfl, rfl, n, hm⟩ ?_))))))
 rintro m E W ⟨a2, K, G, H, A, d, t, Z, I, N, j, c⟩
 cases m with
 | zero => rw [nE] at c; cases c
 | succ d4 =>
  refine jK (sg (Wh N (Wh t (V (rL dE rfl j) (Wi rfl (ln (CI c rfl (fun b6 c => ?_) (fun b6 c => ?_))))))))
  ·refine kn (jK (CJ c (fun a3 E W => ∃ M F, ST false (keys (y ++ [])) w W Y (M ++ F) ∧ E 0 = k ∧ E 1 = J ∧ E 5 = (.int .i64 a3.2) ∧ E 6 = (.int .i64 H) ∧ kD 263 kX 8 Y k a3.1 M) (fun a3 g => ?_) ?_))
   ·refine bg (Wh t (Wh N (bS g fun a s g => VQ (kN (i := H) kX.out dE eu rfl rfl j (kk s) (ki s)) (fun f5 ⟨_, ⟨f8, f9, rfl, Q, T⟩, c1, e1⟩ => V (jw rfl (jR (ny.hp _) (c1.mono (lP (fun b o q => d.has.2 b o (Ml q)))) iX eu)) (VE (kf d gL (fun e7 f3 d => ?_)))))))
    obtain ⟨u, B, rfl⟩ := Q.form
    obtain ⟨x, D, rfl⟩ := T.form
    let l := (C7 a.jq.js a.jq.jy a.jx.Op a.jx.K a.jx.jq.js a.jx.jq.jy u a.jx.Kids.length B x a.ms.length D)
    refine VO (jL (.agg l.toArray) (l.toArray) d rfl rfl eu oc nb rfl (fun e8 d => lr (Wh Z (VA d Mh l iX eu (bS g fun f7 c2 g => VE (yz a d a9 (kd.refl _) (AD.mk lT (kX.mk ⟨(.slice u a.jx.Kids.length B), (.slice x a.ms.length D), rfl, Q, T⟩) d.jD) rfl (ua rfl) c2 (fun e9 d => V (nH rfl) (ln (CI g rfl (fun b7 g => ?_) (fun b7 g => ?_))))))))))
    ·refine sg (Wh t (Wh I (VA d Mh l iX eu (bS g fun g3 U g => VQ (kN (i := G) kX.out dE eu rfl rfl j (kk U) (ki U)) (fun f6 ⟨_, ⟨g0, g1, rfl, e3, e4⟩, e2, b9⟩ => ?_)))))
     replace d := d.perm (Nr (Qb Qz) Nz)
     refine VO (qp (x1 := a) lT d j rfl rfl (kX.mk ⟨(.slice u a.jx.Kids.length B), (.slice x a.ms.length D), rfl, Q, T⟩) b9 (ki U) eu (fun f0 c7 d b4 => ln ?_))
     replace d := d.ju (Kr (Db St))
     refine jI (Wh I (Wi rfl (Wa (jW (ko (jF ?_))))))
     obtain rfl := sj g
     exact ⟨c7, _, (d.ju St), t, Z, rfl, N, b4⟩
    refine kP (ko (jF ?_))
    obtain rfl := sj g
    exact ⟨K, _, (d.ju (Db St)), t, Z, I, N, j⟩
   rintro ⟨d3, d5⟩ E W ⟨M, F, d, c8, c9, d0, d1, c3⟩ c0
   exact jI (Wh d1 (Wi rfl (Wa (ln ⟨d4, bE _, d3, M, d5, (IntKind.i64.wrap (H + 1)), _, (d.ju St), c8, c9, d0, rfl, c3, c0⟩))))
  refine mZ (mS (mS (qx (jF (sg (Wh t (Wh I (bS c fun _ a4 c => VQ (AE (i := G) dE eu rfl rfl j (vd a4) (vc a4)) (fun g2 c4 => VO (DD (z := (⟨K0, (⟨0, 0, K0, []⟩ : Formula), []⟩ : oe)) (zs := [(.string zS), (.string zS), (.int .i64 0), (.int .i64 0), (.string zS), (.string zS), (.slice none 0 0), (.slice none 0 0)]) lT d j (kX.mk ⟨(.slice none 0 0), (.slice none 0 0), rfl, (Sl.nil _ _ _), (Sl.nil _ _ _)⟩) dE gL c4 rfl rfl (fun f2 e6 d b5 => lr (Wh t ?_))))))))))))
  refine Wh I (bS c fun _ a5 c => VQ (CH (i := G) dE eu rfl rfl b5 (vd a5) (vc a5)) (fun L c5 => Wa (lt ?_)))
  obtain rfl := sj c
  refine kY (v := L) rfl rfl ?_
  obtain ⟨g7, d, R, h, c6⟩ := ST.so lT d c5
  exact ⟨_, _, _, rfl, (d.lM Sn), R, h, (ST.kA d (ma.mem Sn)), L, rfl, rfl, c6⟩
theorem Fy (c : oe) (a i : Value) (k : Nat) (u : jr) (r : Bool) (w : World) (j : Sl jt 5 (hp w) a c.jx.Kids) (g : Sl (Pl jv) 9 (hp w) i c.ms) (t : At (hp w) (.pointer (some ⟨k, 0, none⟩)) (jv u)) (hm : rj c u = some r) :
  jS true Tryz.prog 303 [(.agg #[(.string c.jq.js), (.string c.jq.jy), (.int .i64 c.jx.Op), (.int .i64 c.jx.K), (.string c.jx.jq.js), (.string c.jx.jq.jy), a, i]), (.pointer (some ⟨k, 0, none⟩))] w (.bool r) := by
 refine cG 9 func303 rfl (fun b => sg ?_)
 obtain ⟨B, D, rfl⟩ := j.form
 obtain ⟨x, y, rfl⟩ := g.form
 refine VE (km b rfl (fun G I b => Wa (lr (Wf GZ (VB b Mh rfl rfl jo (V (jw rfl (jR b.has t bM aJ)) (bS hm fun J z hm => VE (Eg b call201 (Ai (.slice x c.ms.length y) c.ms u _ _ (g.mono (Pl.mono _) b.jD) z) (fun H b => V (nH rfl) (Wa (ln ?_)))))))))))
 exact jU (rQ hm b)
theorem H8 (i : kI) (a g : Value) (y : jr) (r : List oe) (w : World) {G : kl} (q : nB G [] w) (j : Sl kc 15 G a i.jH) (c : Sl kX 8 G g i.ke) (hm : xz i y = some r) :
  lB false Tryz.prog 209 [(.agg #[(.string i.Name), a, g]), (.agg (jv y).toArray)] w G [] (fun v L1 μ1 => ∃ n, v = n ∧ L1 = [] ∧ Sl kX 8 μ1 n (r)) := by
 refine tE q 10 func209 rfl (fun b => sg ?_)
 obtain ⟨A1, c2, rfl⟩ := j.form
 obtain ⟨Y, p, rfl⟩ := c.form
 refine VE (km b rfl (fun W6 P b => VE (km b rfl (fun W8 z b => Wa (lr (Wf GQ (VB b (Mt Mh) rfl rfl isAgg108 (bS hm fun I N hm => ?_))))))))
 refine VE (eD b (bB _) call302 (fun m => lB.li (D0 (.slice Y i.ke.length p) i.ke _ _ m (c.mono lT.mono (kd.refl _)) N)) ?_ (L0 := []))
 rintro _ c3 c6 O b B d ⟨a5, Z, k, rfl, T⟩
 obtain rfl := k.symm
 replace b := b.perm (Tr Tn)
 refine V (rH (by exact ua rfl) rfl) ?_
 replace b := b.perm (Nb (Pr Pz) Nz)
 obtain ⟨c7, b, u, h, M⟩ := ST.I8 (R := [(z, Ol (jv y) 53)]) b
 have K := At.of (M _ _ (.head _)) _ rfl
 refine bS hm fun c1 Q hm => ?_
 refine VE (eD b (Cr Qz Cn) call301 (fun m => (AY a5 I Z (.func (.func 303) #[] #[(.pointer (some ⟨z, 0, none⟩))]) (fun (x : oe) => rj x y) _ _ m (T.mono lT u) ⟨303, #[], #[(.pointer (some ⟨z, 0, none⟩))], rfl, call303, fun W x vs r A s hm => by obtain ⟨_, rfl, a3⟩ := s; obtain ⟨J, L, rfl, E, F⟩ := a3.out; exact (Fy x J L z y r W E F (K.mono ((kd.refl _).trans A)) hm).li⟩ Q)) ?_)
 rintro _ c5 c8 b6 b D l ⟨H, t, rfl, U⟩
 obtain rfl := t.symm
 refine Wa (ln ?_)
 replace b := b.ju (Db St)
 refine jU ?_
 obtain rfl := sj hm
 exact kY (v := H) rfl rfl ⟨_, _, _, rfl, (b.lM Sn), ((B.trans u).trans D), ((d.trans h).trans l), (ST.kA b (ma.mem Sn)), H, rfl, rfl, U⟩
theorem Cl (T : Formula → Int → Option (Int × Int)) (n : ∀ (t : Formula) (j : Value) (I : Int) (r : (Int × Int)) (w : World) (g : Sl jt 5 (hp w) j t.Kids), T t I = some r → jS false Tryz.prog 308 [(.agg #[(.int .i64 t.Op), (.int .i64 t.K), (.string t.jq.js), (.string t.jq.jy), j]), (.int .i64 I)] w (.tuple #[(.int .i64 r.1), (.int .i64 r.2)])) (t : Formula) (j : Value) (I : Int) (r : (Int × Int)) (w : World) (g : Sl jt 5 (hp w) j t.Kids) (hm : uZ T t I = some r) :
  jS false Tryz.prog 308 [(.agg #[(.int .i64 t.Op), (.int .i64 t.K), (.string t.jq.js), (.string t.jq.jy), j]), (.int .i64 I)] w (.tuple #[(.int .i64 r.1), (.int .i64 r.2)]) := by
 refine cG 40 func308 rfl (fun b => sg ?_)
 obtain ⟨A1, c2, rfl⟩ := g.form
 refine VE (km b rfl (fun W4 P b => Wa (Wa (lr (Wa (Wa (lS (Wf mO ?_))))))))
 refine VB b Mh rfl rfl dB (V (kK aD rfl g) (Wm (ln ?_)))
 replace b := b.ju (Db St)
 refine CJ hm (fun Q E W => ∃ a2, ST false ku w W (hp w) a2 ∧ E 6 = (.int .i64 Q.1) ∧ E 7 = (.int .i64 Q.2)) (fun Q a5 => ?_) ?_
 ·refine kB (fun i E W => ∃ y z J, (E 15 = .int .i64 (i : Nat) ∧ E 14 = .int .i64 (t.Kids.length : Nat)) ∧ ST false ku w W (hp w) J ∧ E 1 = (.int .i64 I) ∧ E 6 = (.int .i64 y) ∧ E 7 = (.int .i64 z) ∧ E 13 = (.slice A1 t.Kids.length c2) ∧ oW I T (t.Kids.drop i) y z = some Q) t.Kids.length g.len ⟨1, 0, _, ⟨rfl, rfl⟩, (b.ju St), rfl, rfl, rfl, rfl, a5⟩ dc dc dc (fun _ _ _ h => by obtain ⟨_, _, _, l, _⟩ := h; exact l) ?_ ?_
  ·rintro F E W a3 ⟨y, z, J, ⟨d, m⟩, b, G, x, H, K, a⟩
   obtain ⟨c, c6, q, p, a9⟩ := kq a3
   rw [q] at a
   refine bg (VQ (lK (i := (F : Int)) (x0 := c) jt.out aD aB K d g (aH _) p) (fun c4 ⟨_, ⟨c5, rfl, N⟩, Y⟩ => V (jw rfl (jR b.has Y aG aB)) (VE (kf b aM (fun R c3 b => ?_)))))
   obtain ⟨B, D, rfl⟩ := N.form
   let a0 := (C1 c.Op c.K c.jq.js c.jq.jy B c.Kids.length D)
   refine VO (jL (.agg a0.toArray) (a0.toArray) b rfl rfl aB oc nb rfl (fun c0 b => lS (Wh x (Wh G (Wi rfl (ln (CI a rfl (fun U a => ?_) (fun U a => ?_))))))))
   ·refine mZ (mS (PO (by simp) (mS (qx (jF ?_)))))
    obtain rfl := sj a
    exact ⟨_, (b.ju (Db St)), x, H⟩
   refine kg (VA b Mh a0 aG aB (Wh G (Wh x (Wi rfl (bS a fun M Z a => VE (Eg b call308 (n c (.slice B c.Kids.length D) (IntKind.i64.wrap (I - y)) _ _ (N.mono jB.mono b.jD) Z) (fun c1 b => Wm (Wx rfl (Wx rfl (Wa (Wa ?_)))))))))))
   refine ln ?_
   replace b := b.ju (Db St)
   exact jI (Wh x (Wm (Wi rfl (Wh H (Wm (V (L5 (k := .i64) rfl rfl) (Wa (Wa (jW (ko (jF ⟨d, (IntKind.i64.wrap (y + M.1)), (if M.2 > z then M.2 else z), _, ⟨rfl, m⟩, (b.ju St), G, rfl, rfl, K, (by rw [a9]; exact a)⟩)))))))))))
  rintro E W ⟨y, z, J, ⟨d, m⟩, b, G, x, H, K, a⟩
  rw [aN] at a
  refine jF ?_
  obtain rfl := sj a
  exact ⟨_, (b.ju St), x, H⟩
 rintro ⟨L, O⟩ E W ⟨a2, b, s, A⟩ a4
 refine sg (Wh s (Wh A (Wi rfl (Wa (Wa (lt ?_))))))
 obtain rfl := sj a4
 exact AK (v := (.int .i64 L)) (u := (.int .i64 (IntKind.i64.wrap (O + 1)))) rfl rfl rfl ⟨rfl, b.ex⟩
theorem Bb : ∀ (n : Nat) (c : Formula) (a : Value) (i : Int) (r : (Int × Int)) (w : World) (g : Sl jt 5 (hp w) a c.Kids) (_ : oa n c i = some r),
  jS false Tryz.prog 308 [(.agg #[(.int .i64 c.Op), (.int .i64 c.K), (.string c.jq.js), (.string c.jq.jy), a]), (.int .i64 i)] w (.tuple #[(.int .i64 r.1), (.int .i64 r.2)])
 | 0 => by intros; rename_i h; simp only [oa] at h; cases h
 | n + 1 => Cl (oa n) (Bb n)
theorem G6 (a : Formula) (g : Value) (r : (Int × Int)) (w : World) (c : Sl jt 5 (hp w) g a.Kids) (hm : wN a = some r) :
  jS false Tryz.prog 214 [(.agg #[(.int .i64 a.Op), (.int .i64 a.K), (.string a.jq.js), (.string a.jq.jy), g])] w (.tuple #[(.int .i64 r.1), (.int .i64 r.2)]) := by
 refine cG 15 func214 rfl (fun b => sg ?_)
 obtain ⟨i, j, rfl⟩ := c.form
 refine VE (km b rfl (fun y B b => Wa (Wa (lr (VA b Mh (C1 a.Op a.K a.jq.js a.jq.jy i a.Kids.length j) aG aB (bS hm fun x t hm => VE (Eg b call308 ((Bb jY) a (.slice i a.Kids.length j) 4096 _ _ (c.mono jB.mono b.jD) t) (fun z b => Wm (Wx rfl (Wx rfl (Wa (Wa ?_))))))))))))
 refine ln ?_
 replace b := b.ju (Db St)
 refine jK (sg (Wm (Wi rfl (ln (CI hm rfl (fun k hm => ?_) (fun k hm => ?_))))))
 ·refine sg (Wa (Wa (lt (kj ?_))))
  obtain rfl := sj hm
  exact AK (v := (.int .i64 0)) (u := (.int .i64 0)) rfl rfl rfl ⟨rfl, b.ex⟩
 refine kg (Wm (Wm (Wa (Wa (lt ?_)))))
 obtain rfl := sj hm
 exact AK (v := (.int .i64 x.1)) (u := (.int .i64 x.2)) rfl rfl rfl ⟨rfl, b.ex⟩
theorem Hf (a : Formula) (H : Value) (r : Bool) (w : World) (t : Sl jt 5 (hp w) H a.Kids) (hm : wR a = some r) :
  jS true Tryz.prog 309 [(.agg #[(.int .i64 a.Op), (.int .i64 a.K), (.string a.jq.js), (.string a.jq.jy), H])] w (.bool r) := by
 refine cG 63 func309 rfl (fun b => sg ?_)
 obtain ⟨A1, c2, rfl⟩ := t.form
 let l := (C1 a.Op a.K a.jq.js a.jq.jy A1 a.Kids.length c2)
 refine VE (km b rfl (fun W4 N b => Wa (lr (V (kZ (v := (.agg (jA K0).toArray)) pM (kE eH cZ (G7 _ cZ) kr)) (VE (kf b eH (fun W6 A b => VO (jL (.agg (jA K0).toArray) ((jA K0).toArray) b rfl rfl aQ (vJ K0) nb rfl (fun W7 b => lS (Wf mN ?_))))))))))
 refine VB b (Mt Mh) rfl rfl cC (ln (bg (Wi rfl (Wa (ln (CI hm rfl (fun d9 hm => ?_) (fun d9 hm => ?_)))))))
 ·refine sg (Wf rB (VA b (Mt Mh) (jA a.jq) bG aQ (bS hm fun f7 e5 hm => VE (Eg b jm (tN a.jq _ _  e5) (fun f5 b => Wm (LJ hm (fun d2 E W => ∃ O, ST true ku w W (hp w) ((N, Ol l 113) :: O) ∧ E 1 = (.pointer (some ⟨N, 0, none⟩)) ∧ E 2 = (.bool false) ∧ E 17 = (.bool d2)) 5 ?_ (fun d2 J a4 => ?_)))))))
  ·rintro f8 E W ⟨O, b, e7, c9, e8⟩ e1
   refine Wh e8 (LJ e1 (fun d1 E W => ∃ P, ST true ku w W (hp w) P ∧ E 2 = (.bool false) ∧ E 22 = (.bool d1)) 4 ?_ (fun d1 I a3 => ?_))
   ·rintro f9 E W ⟨P, b, f6, e9⟩ e2
    refine Wg e9 (lt (me (kj ?_)))
    obtain rfl := sj e2
    exact rP b
   refine bC I (fun u I => ?_) (fun u I => ?_)
   ·refine ug u (jC pA e7) (ug u (jw rfl (jO b.has Mh rfl cC)) (ug u (kx rfl rfl rfl) (V (jM (cB u) rfl) ?_)))
    obtain rfl := sj I
    exact a3 _ _ ⟨_, (b.ju (Db St)), c9, rfl⟩
   refine un u (un u (un u (V (jN (cB u) rfl) ?_)))
   obtain rfl := sj I
   exact a3 _ _ ⟨_, (b.ju (Db St)), c9, rfl⟩
  refine bC J (fun j J => ?_) (fun j J => ?_)
  ·refine ug j (jC mO rfl) (ug j (jw rfl (jO b.has (Mt Mh) rfl dB)) (ug j (kK aD rfl t) (ug j (kx rfl rfl rfl) (V (jM (cB j) rfl) ?_))))
   obtain rfl := sj J
   exact a4 _ _ ⟨_, (b.ju (Db St)), rfl, rfl, rfl⟩
  refine un j (un j (un j (un j (V (jN (cB j) rfl) ?_))))
  obtain rfl := sj J
  exact a4 _ _ ⟨_, (b.ju (Db St)), rfl, rfl, rfl⟩
 let a0 := (l.toArray : Array Value)
 let d : Value := (.pointer (some ⟨N, 0, none⟩))
 refine jK (CJ hm (fun L E W => ∃ R, ST true ku w W (hp w) ((A, Ol (jA K0) 28) :: ((N, Obj.cells a0 113 (0, 0)) :: R)) ∧ E 1 = d ∧ E 3 = (.pointer (some ⟨A, 0, none⟩)) ∧ E 23 = (.bool L)) (fun L G => ?_) ?_)
 ·refine sg (Wi rfl (Wa (ln (CI G rfl (fun b9 G => ?_) (fun b9 G => ?_)))))
  ·refine kn ?_
   obtain rfl := sj G
   exact ⟨_, (b.ju St), rfl, rfl, rfl⟩
  refine jI (Wi rfl (Wa (ln ?_)))
  obtain rfl := sj G
  exact ⟨_, (b.ju St), rfl, rfl, rfl⟩
 rintro g0 E W ⟨R, b, Q, d0, f0⟩ K
 refine CI K f0 (fun e0 K => ?_) (fun e0 K => ?_)
 ·refine sg (V (jC rB Q) (VA b (Mt Mh) (jA a.jq) bG aQ (V (jw d0 (jz b.has Mh (jA K0) rfl bG aQ)) (V (uB rfl rfl (nm eA) (qO (po _ a.jq K0))) (Wm (LJ K (fun d3 E W => ∃ c7, ST true ku w W (hp w) c7 ∧ E 34 = (.bool d3)) 4 ?_ (fun d3 M a5 => ?_)))))))
  ·rintro g1 E W ⟨c7, b, f1⟩ e3
   refine Wg f1 (lt (me (kj ?_)))
   obtain rfl := sj e3
   exact rP b
  refine bC M (fun x M => ?_) (fun x M => ?_)
  ·refine ug x (jC pA Q) (ug x (jw rfl (jO b.has (Mt Mh) rfl cC)) (ug x (kx rfl rfl rfl) (V (jM (cB x) rfl) ?_)))
   obtain rfl := sj M
   exact a5 _ _ ⟨_, (b.ju (Db (Db St))), rfl⟩
  refine un x (un x (un x (V (jN (cB x) rfl) ?_)))
  obtain rfl := sj M
  exact a5 _ _ ⟨_, (b.ju (Db (Db St))), rfl⟩
 refine kP (ko (jF (sg (V (jC mN Q) (VB b (Mt Mh) rfl rfl cC (Wi rfl (Wm (LJ K (fun F E W => ∃ c8, ST true ku w W (hp w) ((N, Obj.cells a0 113 (0, 0)) :: c8) ∧ E 1 = d ∧ E 43 = (.bool F)) 5 ?_ (fun F D h => ?_)))))))))
 ·rintro g2 E W ⟨c8, b, a2, d4⟩ e4
  refine Wh d4 (LJ e4 (fun s E W => ∃ m, ST true ku w W (hp w) ((N, Obj.cells a0 113 (0, 0)) :: m) ∧ E 1 = d ∧ E 48 = (.bool s)) 4 ?_ (fun s B Z => ?_))
  ·rintro f2 E W ⟨m, b, T, d5⟩ c0
   refine Wh d5 (LJ c0 (fun q E W => ∃ a9, ST true ku w W (hp w) ((N, Obj.cells a0 113 (0, 0)) :: a9) ∧ E 1 = d ∧ E 56 = (.bool q)) 7 ?_ (fun q z Y => ?_))
   ·rintro f3 E W ⟨a9, b, d6, d7⟩ c1
    refine Wh d7 (LJ c1 (fun p E W => ∃ n, ST true ku w W (hp w) n ∧ E 62 = (.bool p)) 5 ?_ (fun p y U => ?_))
    ·rintro f4 E W ⟨n, b, d8⟩ c3
     exact Wg d8 (lt (rQ c3 b))
    refine bC y (fun g y => ?_) (fun g y => ?_)
    ·refine ug g (jC mO d6) (ug g (jw rfl (jO b.has Mh rfl dB)) (ug g (kK aD rfl t) (ug g (kx rfl rfl rfl) (V (jM (cB g) rfl) ?_))))
     obtain rfl := sj y
     exact U _ _ ⟨_, (b.ju (Db St)), rfl⟩
    refine un g (un g (un g (un g (V (jN (cB g) rfl) ?_))))
    obtain rfl := sj y
    exact U _ _ ⟨_, (b.ju (Db St)), rfl⟩
   refine bC z (fun c z => ?_) (fun c z => ?_)
   ·refine ug c (jC pA T) (ug c (jw rfl (jO b.has Mh rfl cC)) (ug c (jC mO T) (ug c (jw rfl (jO b.has Mh rfl dB)) (ug c (kK aD rfl t) (ug c (kx rfl rfl rfl) (V (jM (cB c) rfl) ?_))))))
    obtain rfl := sj z
    exact Y _ _ ⟨_, (b.ju St), T, rfl⟩
   refine un c (un c (un c (un c (un c (un c (V (jN (cB c) rfl) ?_))))))
   obtain rfl := sj z
   exact Y _ _ ⟨_, (b.ju St), T, rfl⟩
  refine bC B (fun i B => ?_) (fun i B => ?_)
  ·refine ug i (jC pA a2) (ug i (jw rfl (jO b.has Mh rfl cC)) (ug i (kx rfl rfl rfl) (V (jM (cB i) rfl) ?_)))
   obtain rfl := sj B
   exact Z _ _ ⟨_, (b.ju St), a2, rfl⟩
  refine un i (un i (un i (V (jN (cB i) rfl) ?_)))
  obtain rfl := sj B
  exact Z _ _ ⟨_, (b.ju St), a2, rfl⟩
 refine bC D (fun k D => ?_) (fun k D => ?_)
 ·refine ug k (jC rB Q) (ug k (jw rfl (jz b.has (Mt Mh) (jA a.jq) rfl bG aQ)) (ug k (jw d0 (jz b.has Mh (jA K0) rfl bG aQ)) (ug k (uB rfl rfl (nm eA) (qO (po _ a.jq K0))) (V (jM (cB k) rfl) ?_))))
  obtain rfl := sj D
  exact h _ _ ⟨_, (b.ju (Db St)), Q, rfl⟩
 refine un k (un k (un k (un k (V (jN (cB k) rfl) ?_))))
 obtain rfl := sj D
 exact h _ _ ⟨_, (b.ju (Db St)), Q, rfl⟩
theorem zK (g : Value) (t : List Formula) (j : Value) (z : Formula → Option Bool) (r : Int) (w : World) (c : Sl jt 5 (hp w) g t) (B : xy Tryz.prog j (hp w) (AD jt) (fun (r : Bool) => (.bool r)) z) (hm : sH t z = some r) :
  jS false Tryz.prog 352 [g, j] w (.int .i64 r) := by
 refine cG 19 func352 rfl (fun b => sg (Wa (lS (Wm (V (kK aD rfl c) (Wm (ln (kB (fun i E W => ∃ k, (E 8 = .int .i64 (i : Nat) ∧ E 7 = .int .i64 (t.length : Nat)) ∧ ST false ku w W (hp w) k ∧ E 0 = g ∧ E 1 = j ∧ nh z (t.drop i) i = some r) t.length c.len ⟨_, ⟨rfl, rfl⟩, (b.ju St), rfl, rfl, hm⟩ dc dc dc (fun _ _ _ h => by obtain ⟨_, l, _⟩ := h; exact l) ?_ ?_))))))))
 ·rintro Q E W G ⟨k, ⟨d, m⟩, b, u, x, a⟩
  obtain ⟨y, U, M, K, N⟩ := kq G
  rw [M] at a
  refine bg (Wh d (Wa (lr (Wh x (Wh u (Wm (VQ (lK (i := (Q : Int)) (x0 := y) jt.out aD aB rfl rfl c (aH _) K) (fun Z ⟨_, ⟨T, rfl, J⟩, H⟩ => V (jw rfl (jR b.has H aG aB)) (bS a fun n I a => ?_)))))))))
  refine VE (yz y b B (kd.refl _) (AD.mk jB (jt.mk ⟨T, rfl, J⟩) b.jD) rfl (ua rfl) I (fun Y b => ln (CI a rfl (fun D a => ?_) (fun D a => ?_))))
  ·refine sg (Wm (Wa (lt (me (kj (me (kj ?_)))))))
   obtain rfl := sj a
   exact rP b
  exact kP (ko (jF ⟨d, _, ⟨rfl, m⟩, (b.ju St), u, x, (by rw [N]; exact a)⟩))
 rintro E W ⟨k, ⟨d, m⟩, b, u, x, a⟩
 rw [aN] at a
 exact jF (sg (Wa (lt (rQ a b))))
theorem uA (a : Value) (g : List Formula) (c : Value) (i : Formula → Option Bool) (r : Bool) (w : World) (j : Sl jt 5 (hp w) a g) (k : xy Tryz.prog c (hp w) (AD jt) (fun (r : Bool) => (.bool r)) i) (hm : nO g i = some r) :
  jS false Tryz.prog 310 [a, c] w (.bool r) := by
 refine cG 9 func310 rfl (fun b => sg (Wa (lr (Wm (Wm (bS hm fun x t hm => VE (Eg b call352 (zK a g c i _ _ (j.mono jB.mono b.jD) (k.mono b.jD) t) (fun u b => Wi rfl (Wa (jW ?_))))))))))
 exact jF (jU (rQ hm b))
theorem DY (i : Formula → Option Bool) (t : ∀ (c : Formula) (a : Value) (r : Bool) (w : World) (g : Sl jt 5 (hp w) a c.Kids), i c = some r → jS false Tryz.prog 215 [(.agg #[(.int .i64 c.Op), (.int .i64 c.K), (.string c.jq.js), (.string c.jq.jy), a])] w (.bool r)) (c : Formula) (a : Value) (r : Bool) (w : World) (g : Sl jt 5 (hp w) a c.Kids) (hm : ub i c = some r) :
  jS false Tryz.prog 311 [(.agg #[(.int .i64 c.Op), (.int .i64 c.K), (.string c.jq.js), (.string c.jq.jy), a])] w (.bool r) := by
 refine cG 6 func311 rfl (fun b => sg ?_)
 obtain ⟨j, k, rfl⟩ := g.form
 refine VE (km b rfl (fun x z b => Wa (lr (VA b Mh (C1 c.Op c.K c.jq.js c.jq.jy j c.Kids.length k) aG aB (bS hm fun B u hm => VE (Eg b call215 (t c (.slice j c.Kids.length k) _ _ (g.mono jB.mono b.jD) u) (fun y b => V (nH rfl) (Wa (ln ?_)))))))))
 exact jU (rQ hm b)
theorem CB (z : Formula → Option Bool) (T : ∀ (a : Formula) (g : Value) (r : Bool) (w : World) (c : Sl jt 5 (hp w) g a.Kids), z a = some r → jS false Tryz.prog 215 [(.agg #[(.int .i64 a.Op), (.int .i64 a.K), (.string a.jq.js), (.string a.jq.jy), g])] w (.bool r)) (a : Formula) (g : Value) (r : Bool) (w : World) (c : Sl jt 5 (hp w) g a.Kids) (hm : vk z a = some r) :
  jS false Tryz.prog 215 [(.agg #[(.int .i64 a.Op), (.int .i64 a.K), (.string a.jq.js), (.string a.jq.jy), g])] w (.bool r) := by
 refine cG 17 func215 rfl (fun b => sg ?_)
 obtain ⟨B, D, rfl⟩ := c.form
 let a0 := (C1 a.Op a.K a.jq.js a.jq.jy B a.Kids.length D)
 refine VE (km b rfl (fun W4 U b => Wa (lr (VA b Mh a0 aG aB (bS hm fun v a3 hm => VE (Eg b call309 (jS.li (Hf a (.slice B a.Kids.length D) _ _ (c.mono jB.mono b.jD) a3)) (fun W7 b => Wm (LJ hm (fun K E W => ∃ G, ST false ku w W (hp w) ((U, Ol a0 113) :: G) ∧ E 1 = (.pointer (some ⟨U, 0, none⟩)) ∧ E 2 = (.bool false) ∧ E 10 = (.bool K)) 5 ?_ (fun K t y => ?_)))))))))
 ·rintro A E W ⟨G, b, Y, I, Z⟩ M
  refine Wh Z (LJ M (fun J E W => ∃ H, ST false ku w W (hp w) H ∧ E 2 = (.bool false) ∧ E 16 = (.bool J)) 5 ?_ (fun J k u => ?_))
  ·rintro q E W ⟨H, b, n, d⟩ N
   exact Wg d (lt (rQ N b))
  refine bC k (fun i k => ?_) (fun i k => ?_)
  ·refine ug i (jC mO Y) (ug i (jw rfl (jO b.has Mh rfl dB)) (bS k fun p Q k => qI i (Eg b call310 (uA (.slice B a.Kids.length D) a.Kids (.func (.func 311) #[] #[]) (fun (x : Formula) => ub z x) _ _ (c.mono jB.mono b.jD) ⟨311, #[], #[], rfl, call311, fun W x vs r s h hm => by obtain ⟨_, rfl, a2⟩ := h; obtain ⟨m, rfl, l⟩ := a2.out; exact DY z T x m r W l hm⟩ Q) (fun a5 b => ug i (nH rfl) (V (jM (cB i) rfl) ?_)))))
   obtain rfl := sj k
   exact u _ _ ⟨_, (b.ju (Db St)), I, rfl⟩
  refine un i (un i (un i (un i (V (jN (cB i) rfl) ?_))))
  obtain rfl := sj k
  exact u _ _ ⟨_, (b.ju (Db St)), I, rfl⟩
 refine bC t (fun j t => ?_) (fun j t => ?_)
 ·refine ug j (jC mO rfl) (ug j (jw rfl (jO b.has Mh rfl dB)) (ug j (kK aD rfl c) (ug j (kx rfl rfl rfl) (V (jM (cB j) rfl) ?_))))
  obtain rfl := sj t
  exact y _ _ ⟨_, (b.ju St), rfl, rfl, rfl⟩
 refine un j (un j (un j (un j (V (jN (cB j) rfl) ?_))))
 obtain rfl := sj t
 exact y _ _ ⟨_, (b.ju St), rfl, rfl, rfl⟩
theorem Bc : ∀ (n : Nat) (c : Formula) (a : Value) (r : Bool) (w : World) (g : Sl jt 5 (hp w) a c.Kids) (_ : qC n c = some r),
  jS false Tryz.prog 215 [(.agg #[(.int .i64 c.Op), (.int .i64 c.K), (.string c.jq.js), (.string c.jq.jy), a])] w (.bool r)
 | 0 => by intros; rename_i h; simp only [qC] at h; cases h
 | n + 1 => CB (qC n) (Bc n)
theorem vY (a : Formula) (k : Value) (r : Bool) (w : World) (c : Sl jt 5 (hp w) k a.Kids) (hm : qz a = some r) :
  jS false Tryz.prog 107 [(.agg #[(.int .i64 a.Op), (.int .i64 a.K), (.string a.jq.js), (.string a.jq.jy), k])] w (.bool r) := by
 refine cG 24 func107 rfl (fun b => sg ?_)
 obtain ⟨y, z, rfl⟩ := c.form
 let a0 := (C1 a.Op a.K a.jq.js a.jq.jy y a.Kids.length z)
 refine VE (km b rfl (fun W4 H b => Wa (lr (VA b Mh a0 aG aB (bS hm fun n a9 hm => VE (Eg b call214 (G6 a (.slice y a.Kids.length z) _ _ (c.mono jB.mono b.jD) a9) (fun W7 b => Wm (Wx rfl (Wx rfl (Wa (Wa (jW ?_))))))))))))
 refine jF (sg (Wm (Wi rfl (Wm (LJ hm (fun Y E W => ∃ I, ST false ku w W (hp w) ((H, Ol a0 113) :: I) ∧ E 1 = (.pointer (some ⟨H, 0, none⟩)) ∧ E 2 = (.bool false) ∧ E 4 = (.int .i64 n.2) ∧ E 15 = (.bool Y)) 3 ?_ (fun Y x G => ?_))))))
 ·rintro F E W ⟨I, b, M, N, a4, a5⟩ Z
  refine Wh a5 (LJ Z (fun U E W => ∃ J, ST false ku w W (hp w) ((H, Ol a0 113) :: J) ∧ E 1 = (.pointer (some ⟨H, 0, none⟩)) ∧ E 2 = (.bool false) ∧ E 19 = (.bool U)) 3 ?_ (fun U u D => ?_))
  ·rintro v E W ⟨J, b, h, Q, l⟩ d
   refine Wh l (LJ d (fun T E W => ∃ K, ST false ku w W (hp w) K ∧ E 2 = (.bool false) ∧ E 23 = (.bool T)) 3 ?_ (fun T j B => ?_))
   ·rintro A E W ⟨K, b, q, m⟩ a2
    exact Wg m (lt (rQ a2 b))
   refine bC j (fun i j => ?_) (fun i j => ?_)
   ·refine ug i (jw h (jz b.has Mh a0 rfl aG aB)) (bS j fun s a3 j => qI i (Eg b call215 ((Bc jY) a (.slice y a.Kids.length z) _ _ (c.mono jB.mono b.jD) a3) (fun p b => V (jM (cB i) rfl) ?_)))
    obtain rfl := sj j
    exact B _ _ ⟨_, (b.ju (Db St)), Q, rfl⟩
   refine un i (un i (V (jN (cB i) rfl) ?_))
   obtain rfl := sj j
   exact B _ _ ⟨_, (b.ju (Db St)), Q, rfl⟩
  refine bC u (fun g u => ?_) (fun g u => ?_)
  ·refine ug g (jE a4) (ug g (kx rfl rfl rfl) (V (jM (cB g) rfl) ?_))
   obtain rfl := sj u
   exact D _ _ ⟨_, (b.ju St), M, N, rfl⟩
  refine un g (un g (V (jN (cB g) rfl) ?_))
  obtain rfl := sj u
  exact D _ _ ⟨_, (b.ju St), M, N, rfl⟩
 refine bC x (fun t x => ?_) (fun t x => ?_)
 ·refine ug t (jE rfl) (ug t (kx rfl rfl rfl) (V (jM (cB t) rfl) ?_))
  obtain rfl := sj x
  exact G _ _ ⟨_, (b.ju St), rfl, rfl, rfl, rfl⟩
 refine un t (un t (V (jN (cB t) rfl) ?_))
 obtain rfl := sj x
 exact G _ _ ⟨_, (b.ju St), rfl, rfl, rfl, rfl⟩
theorem zb (i : Formula) (g : Value) (x : Int) (r : Bool) (w : World) (c : Sl jt 5 (hp w) g i.Kids) (hm : tk i x = some r) :
  jS true Tryz.prog 433 [(.agg #[(.int .i64 i.Op), (.int .i64 i.K), (.string i.jq.js), (.string i.jq.jy), g]), (.int .i64 x)] w (.bool r) := by
 refine cG 15 func433 rfl (fun b => sg ?_)
 obtain ⟨B, D, rfl⟩ := c.form
 refine VE (km b rfl (fun G H b => Wa (lr (Wf mN (VB b Mh rfl rfl cC (Wm (Wi rfl (Wm (LJ hm (fun t E W => ∃ u, ST true ku w W (hp w) u ∧ E 4 = (.bool false) ∧ E 14 = (.bool t)) 5 ?_ (fun t j k => ?_))))))))))
 ·rintro J E W ⟨u, b, I, y⟩ z
  exact Wg y (lt (rQ z b))
 refine bC j (fun a j => ?_) (fun a j => ?_)
 ·refine ug a (jC mO rfl) (ug a (jw rfl (jO b.has Mh rfl dB)) (ug a (kK aD rfl c) (ug a (kx rfl rfl rfl) (V (jM (cB a) rfl) ?_))))
  obtain rfl := sj j
  exact k _ _ ⟨_, (b.ju (Db St)), rfl, rfl⟩
 refine un a (un a (un a (un a (V (jN (cB a) rfl) ?_))))
 obtain rfl := sj j
 exact k _ _ ⟨_, (b.ju (Db St)), rfl, rfl⟩
theorem FX (r : Formula) (w : World) {c : kl} (i : nB c [] w) (hm : yA  = some r) :
  lB true Tryz.prog 434 [] w c [] (fun v g j => ∃ a, v = (.agg #[(.int .i64 ((r).Op)), (.int .i64 ((r).K)), (.string (((r).jq).js)), (.string (((r).jq).jy)), a]) ∧ g = [] ∧ Sl jt 5 j a ((r).Kids)) := by
 refine tE i 2 func434 rfl (fun b => sg (VE (kf b aM (fun k u b => lr (V (kZ (v := (.agg Bj.toArray)) (lJ rfl) (kE aM aX (qm _ aX) kr)) (VO (jL (.agg Bj.toArray) (Bj.toArray) b rfl rfl aB oc nb rfl (fun t b => lt ?_))))))))
 obtain rfl := sj hm
 exact mR (v := (.agg Bj.toArray)) rfl rfl (jz b.has Mh Bj rfl aG aB) ⟨_, _, _, rfl, (b.lM Sn), (kd.refl _), Lo.refl, (ST.kA b (ma.mem Sn)), (.slice none 0 0), rfl, rfl, (Sl.nil _ _ _)⟩
theorem GN (r : Formula) (w : World) {c : kl} (i : nB c [] w) (hm : yN  = some r) :
  lB true Tryz.prog 435 [] w c [] (fun v g j => ∃ a, v = (.agg #[(.int .i64 ((r).Op)), (.int .i64 ((r).K)), (.string (((r).jq).js)), (.string (((r).jq).jy)), a]) ∧ g = [] ∧ Sl jt 5 j a ((r).Kids)) := by
 refine tE i 2 func435 rfl (fun b => sg (VE (kf b aM (fun k u b => lr (V (kZ (v := (.agg E6.toArray)) (lJ rfl) (kE aM aX (qm _ aX) kr)) (VO (jL (.agg E6.toArray) (E6.toArray) b rfl rfl aB oc nb rfl (fun t b => lt ?_))))))))
 obtain rfl := sj hm
 exact mR (v := (.agg E6.toArray)) rfl rfl (jz b.has Mh E6 rfl aG aB) ⟨_, _, _, rfl, (b.lM Sn), (kd.refl _), Lo.refl, (ST.kA b (ma.mem Sn)), (.slice none 0 0), rfl, rfl, (Sl.nil _ _ _)⟩
theorem H2 (T : Int) (J : Value) (M r : List Formula) (w : World) {Q : kl} (h0 : nB Q [] w) (I : Sl jt 5 Q J M) (hm : zQ T M = some r) :
  lB true Tryz.prog 437 [(.int .i64 T), J] w Q [] (fun v L1 μ1 => ∃ q, v = q ∧ L1 = [] ∧ Sl jt 5 μ1 q (r)) := by
 refine tE h0 28 func437 rfl (fun b => sg (Wa (lr (Wa (lS (Wm ?_))))))
 refine V (kK aD rfl I) (Wm (ln (kB (fun i E W => ∃ t G k H, (E 10 = .int .i64 (i : Nat) ∧ E 9 = .int .i64 (M.length : Nat)) ∧ ST true (keys []) w W Q (k ++ H) ∧ E 0 = (.int .i64 T) ∧ E 5 = t ∧ E 8 = J ∧ kD 113 jt 5 Q t G k ∧ pZ T (M.drop i) G = some r) M.length I.len ⟨(.slice none 0 0), ([]), [], _, ⟨rfl, rfl⟩, (b.ju St), rfl, rfl, rfl, (kD.nil _ _ _ _), hm⟩ dc dc dc (fun _ _ _ h => by obtain ⟨_, _, _, _, n, _⟩ := h; exact n) ?_ ?_)))
 ·rintro b5 E W a4 ⟨t, G, k, H, ⟨m, p⟩, b, x, y, z, u, c⟩
  obtain ⟨a, b7, F, A, K⟩ := kq a4
  rw [F] at c
  refine bg (VQ (lK (i := (b5 : Int)) (x0 := a) jt.out aD aB z m I (aH _) A) (fun c8 ⟨_, ⟨c9, rfl, D⟩, a5⟩ => V (jw rfl (jR b.has a5 aG aB)) (VE (kf b aM (fun c0 c5 b => ?_)))))
  obtain ⟨g, j, rfl⟩ := D.form
  let a0 := (C1 a.Op a.K a.jq.js a.jq.jy g a.Kids.length j)
  refine VO (jL (.agg a0.toArray) (a0.toArray) b rfl rfl aB oc nb rfl (fun c1 b => lr (Wf mN (VB b Mh rfl rfl cC (Wh x (Wi rfl (ln (CI c rfl (fun Z c => ?_) (fun Z c => ?_)))))))))
  ·refine jI (Wh y (Wf mO (VB b Mh rfl rfl dB ?_)))
   replace b := b.perm (Nr (Qb Qz) Nz)
   refine bS c fun O a2 c => VE (oU (B := k) jB b dc aD lh.1 lh.2.1 rfl lh.2.2.1 lh.2.2.2 rfl rfl u (xd.sl jB D b.jD) a2 (fun c2 R a9 b U => Wa (jW (ko (jF ?_)))))
   replace b := b.ju (Kr (Db St))
   exact ⟨m, R, O, a9, _, ⟨rfl, p⟩, (b.ju St), x, rfl, z, U, (by rw [K]; exact c)⟩
  refine jI (Wh y (VA b Mh a0 aG aB (VE (jX (cs := a0.toArray) b (lJ rfl) (lW aD aB aM) (fun c3 c6 b => ?_)))))
  replace b := b.perm (Nr (Qb (Qb Qz)) Nz)
  refine bS c fun P a3 c => VE (oU (B := k) jB b dc aD lh.1 lh.2.1 rfl lh.2.2.1 lh.2.2.2 rfl rfl u (xd.lit jB (l := [a]) (.cons (ys := C1 a.Op a.K a.jq.js a.jq.jy g a.Kids.length j) (jt.mk ⟨(.slice g a.Kids.length j), rfl, D⟩) .nil) rfl nb (b.at_ (Ma Mh))) a3 (fun c4 b4 L b Y => Wa (jW (ko (jF ?_)))))
  replace b := b.ju (Kr (Db (Db St)))
  exact ⟨m, b4, P, L, _, ⟨rfl, p⟩, (b.ju St), x, rfl, z, Y, (by rw [K]; exact c)⟩
 rintro E W ⟨t, G, k, H, ⟨m, p⟩, b, x, y, z, u, c⟩
 rw [aN] at c
 refine jF (sg (Wh y (Wa (lt ?_))))
 obtain rfl := sj c
 refine kY (v := t) rfl rfl ?_
 obtain ⟨d1, b, N, d, s⟩ := ST.so jB b u
 exact ⟨_, _, _, rfl, (b.lM Sn), N, d, (ST.kA b (ma.mem Sn)), t, rfl, rfl, s⟩
theorem Af (a : Formula) (g : Value) (i : Nat) (j : Int) (r : Bool) (w : World) (c : Sl jt 5 (hp w) g a.Kids) (k : At (hp w) (.pointer (some ⟨i, 0, none⟩)) [(.int .i64 j)]) (hm : ql a j = some r) :
  jS true Tryz.prog 438 [(.agg #[(.int .i64 a.Op), (.int .i64 a.K), (.string a.jq.js), (.string a.jq.jy), g]), (.pointer (some ⟨i, 0, none⟩))] w (.bool r) := by
 refine cG 7 func438 rfl (fun b => sg ?_)
 obtain ⟨t, u, rfl⟩ := c.form
 refine VE (km b rfl (fun z D b => Wa (lr (VA b Mh (C1 a.Op a.K a.jq.js a.jq.jy t a.Kids.length u) aG aB (V (jw rfl (sG b.has (y := (.int .i64 j)) k cC)) (bS hm fun G x hm => VE (Eg b call433 (zb a (.slice t a.Kids.length u) j _ _ (c.mono jB.mono b.jD) x) (fun B b => Wa (ln ?_)))))))))
 exact jU (rQ hm b)
theorem BB (c : Value) (u r : List Formula) (w : World) {j : kl} (I : nB j [] w) (a : Sl jt 5 j c u) (hm : rJ u = some r) :
  lB true Tryz.prog 456 [c] w j [] (fun v G J => ∃ z t, v = z ∧ G = (t ++ []) ∧ kD 113 jt 5 J z r t) := by
 unfold rJ at hm
 refine tE I 8 func456 rfl (fun b => sg (Wa (lS (Wm ?_))))
 obtain ⟨D, Q, rfl⟩ := a.form
 refine V (zt aD rfl rfl) (ln ?_)
 rcases D with _ | M
 ·have y := a.isNil
  replace hm : some [] = some r := by rw [y] at hm; simpa [mu, maxLen] using hm
  refine wK (rfl) (sg (Wa (lt (kj ?_))))
  obtain rfl := sj hm
  refine kY (v := (.slice none 0 0)) rfl rfl ?_
  replace b := b.NM
  exact ⟨_, _, _, rfl, (b.lM (Kr Sn)), (kd.refl _), Lo.refl, (ST.kA b (ma.mem (Kr Sn))), (.slice none 0 0), [], rfl, rfl, (kD.nil _ _ _ _)⟩
 ·refine rE (rfl) (kg (VE (jX (cs := #[]) b pM (yS [] aD aB aM dc rfl (by simp) rfl rfl) (fun N H b => Wm (bS hm fun T x hm => VE (oU (B := [(H, Ob #[] 113)]) jB b dc aD lh.1 lh.2.1 rfl lh.2.2.1 lh.2.2.2 rfl rfl (kD.lit jB (l := []) .nil rfl nb rfl) (xd.sl jB a b.jD) x (fun K g k b i => Wa (lt ?_))))))))
  obtain rfl := sj hm
  exact kY (v := g) rfl rfl ⟨_, _, _, rfl, (b.lM (Kr Sn)), (kd.refl _), Lo.refl, (ST.kA b (ma.mem (Kr Sn))), g, k, rfl, rfl, i⟩
theorem rD (y : Value) (a0 : List Formula) (D : LO) (q a2 : Int) (T : Value) (f3 : (Formula × Formula) → Option Int) (r : List Formula) (w : World) {μ0 : kl} (h0 : nB μ0 (D ++ []) w) (h4 : kD 113 jt 5 μ0 y a0 D) (h5 : xy Tryz.prog T μ0 (vg jt jt) (fun (r : Int) => (.int .i64 r)) f3) (hm : mV a0 q a2 f3 = some r) :
  lB false Tryz.prog 467 [y, (.int .i64 q), (.int .i64 a2), T] w μ0 (D ++ []) (fun v L1 μ1 => ∃ S1, v = (.tuple #[]) ∧ L1 = (S1 ++ []) ∧ kD 113 jt 5 μ1 y r S1) := by
 refine tE h0 53 func467 rfl (fun n => sg (Wm (Wi rfl (Wa (ln (qb (ll (mU (fun m E W => ∃ Y J x c9, ST false (keys (D ++ [])) w W μ0 (J ++ c9) ∧ E 0 = y ∧ E 1 = (.int .i64 q) ∧ E 2 = (.int .i64 a2) ∧ E 3 = T ∧ E 8 = (.int .i64 x) ∧ kD 113 jt 5 μ0 y Y J ∧ lm a2 q f3 m Y x = some r) jY ⟨a0, D, (IntKind.i64.wrap (q + 1)), _, (n.ju St), rfl, rfl, rfl, rfl, rfl, h4, hm⟩ ?_))))))))
 rintro m E W ⟨Y, J, x, c9, n, f9, g0, d1, g1, L, c6, u⟩
 cases m with
 | zero => rw [lm] at u; cases u
 | succ h2 =>
  refine jK (sg (Wh L (Wh d1 (Wi rfl (ln (CI u rfl (fun e9 u => ?_) (fun e9 u => ?_)))))))
  ·refine kn (jK (bg (Wh L (Wa (ln (qb (CJ u (fun O E W => ∃ U d0, ST false (keys (D ++ [])) w W μ0 (U ++ d0) ∧ E 0 = y ∧ E 1 = (.int .i64 q) ∧ E 2 = (.int .i64 a2) ∧ E 3 = T ∧ E 8 = (.int .i64 x) ∧ kD 113 jt 5 μ0 y O U) (fun O f1 => ?_) ?_)))))))
   ·refine ll (mU (fun m E W => ∃ M B j b7, ST false (keys (D ++ [])) w W μ0 (B ++ b7) ∧ E 0 = y ∧ E 1 = (.int .i64 q) ∧ E 2 = (.int .i64 a2) ∧ E 3 = T ∧ E 8 = (.int .i64 x) ∧ E 9 = (.int .i64 j) ∧ kD 113 jt 5 μ0 y M B ∧ lH q f3 m M j = some O) jY ⟨Y, J, x, _, (n.ju St), f9, g0, d1, g1, L, rfl, c6, f1⟩ ?_)
    rintro m E W ⟨M, B, j, b7, n, K, Z, c0, a3, c1, G, t, I⟩
    cases m with
    | zero => rw [lH] at I; cases I
    | succ f4 =>
     refine jK (jK ?_)
     replace n := n.drew
     have d := n.has.ju (Kr Sn)
     refine kJ d kw (X 0 rfl d (jE G) (X 1 rfl d (jE Z) (X 2 rfl d (kx rfl rfl rfl) (X 3 rfl d (jE rfl) (PJ I (fun c7 E W => ∃ b9, ST false (keys (D ++ [])) w W μ0 (B ++ b9) ∧ E 0 = y ∧ E 1 = (.int .i64 q) ∧ E 2 = (.int .i64 a2) ∧ E 3 = T ∧ E 8 = (.int .i64 x) ∧ E 9 = (.int .i64 j) ∧ E 34 = (.bool c7)) (bm 17 131071) 0 ?_ (fun c7 g a4 => ?_))))))
     ·rintro k2 E W ⟨b9, n, z, c2, c3, c4, c5, H, e8⟩ c
      have d := n.has.ju (Kr Sn)
      refine kW kr (jF (CI c e8 (fun d3 c => ?_) (fun d3 c => ?_)))
      ·refine kn (jK (ll ?_))
       replace n := n.drew
       have d := n.has.ju Sn
       have p := n.has.ju (Kr Sn)
       refine uQ 15 d p kw (kO 0 rfl kr (.inl rfl) rfl dc (fun _ _ h => ⟨h.1, lG br h.2⟩) ⟨d, fun _ => p⟩ (fun _ _ _ _ => jE z) (kO 1 rfl kr (.inl rfl) rfl dc (fun _ _ h => ⟨h.1, lG br h.2⟩) ⟨d, fun _ => p⟩ (fun _ _ _ _ => jE H) (kO 2 rfl kr (.inl rfl) rfl dc (fun _ _ h => ⟨h.1, lG br h.2⟩) ⟨d, fun _ => p⟩ (fun _ _ _ _ => jE z) (kO 3 rfl kr (.inl rfl) rfl dc (fun _ _ h => ⟨h.1, lG br h.2⟩) ⟨d, fun _ => p⟩ (fun _ _ _ _ => jE H) (kO 4 rfl kr (.inl rfl) rfl dc (fun _ _ h => ⟨h.1, lG br h.2⟩) ⟨d, fun _ => p⟩ (fun _ _ _ _ => kx rfl rfl rfl) (kO 5 rfl kr (.inl rfl) rfl dc (fun _ _ h => ⟨h.1, lG br h.2⟩) ⟨d, fun _ => p⟩ (fun _ _ _ _ => jE z) (kO 6 rfl kr (.inl rfl) rfl dc (fun _ _ h => ⟨h.1, lG br h.2⟩) ⟨d, fun _ => p⟩ (fun _ _ _ _ => jE H) (kO 7 rfl kr (.inl rfl) rfl dc (fun _ _ h => ⟨h.1, lG br h.2⟩) ⟨d, fun _ => p⟩ (fun _ _ _ _ => kx rfl rfl rfl) (bS c fun a5 b0 c => sn 8 rfl kr (.inl rfl) rfl dc (fun _ _ h => ⟨h.1, lG br h.2⟩) ⟨d, fun _ => p⟩ (kN (i := (IntKind.i64.wrap (j - 1))) jt.out aD aB rfl rfl t (kk b0) (ki b0)) (fun i9 ⟨_, ⟨j8, rfl, a8⟩, d6, h6⟩ => kO 9 rfl kr (.inl rfl) rfl dc (fun _ _ h => ⟨h.1, lG br h.2⟩) ⟨d, fun _ => p⟩ (fun l W A P => have s := (P.2 (A.Dg 15 [9] kr rfl)); jw rfl (jR (ny.hp _) (d6.mono (lP (fun b o F => s.2 b o (Ml F)))) aG aB)) (kO 10 rfl kr (.inl rfl) rfl dc (fun _ _ h => ⟨h.1, lG br h.2⟩) ⟨d, fun _ => p⟩ (fun _ _ _ _ => jE z) (kO 11 rfl kr (.inl rfl) rfl dc (fun _ _ h => ⟨h.1, lG br h.2⟩) ⟨d, fun _ => p⟩ (fun _ _ _ _ => jE H) (bS c fun k b1 c => ?_)))))))))))))
       refine sn 12 rfl kr (.inl rfl) rfl dc (fun _ _ h => ⟨h.1, lG br h.2⟩) ⟨d, fun _ => p⟩ (kN (i := j) jt.out aD aB rfl rfl t (kk b1) (ki b1)) (fun j0 ⟨_, ⟨j9, rfl, a9⟩, d7, h7⟩ => kO 13 rfl kr (.inl rfl) rfl dc (fun _ _ h => ⟨h.1, lG br h.2⟩) ⟨d, fun _ => p⟩ (fun l W A P => have s := (P.2 (A.Dg 15 [13] kr rfl)); jw rfl (jR (ny.hp _) (d7.mono (lP (fun b o F => s.2 b o (Ml F)))) aG aB)) (bS c fun k3 N c => sn 14 rfl kr (.inl rfl) rfl dc (fun _ _ h => ⟨h.1, lG br h.2⟩) ⟨d, fun _ => p⟩ (kN (i := j) jt.out aD aB rfl rfl t (kk N) (ki N)) (fun j3 ⟨_, ⟨k0, rfl, i2⟩, i0, d4⟩ => ?_)))
       obtain ⟨e3, e6, rfl⟩ := a8.form
       refine XO 15 rfl (qp (x1 := a5) jB n t rfl rfl (jt.mk ⟨(.slice e3 a5.Kids.length e6), rfl, a8⟩) d4 (ki N) aB (fun i6 i4 n R => ?_))
       have d := n.has.ju Sn
       refine ⟨⟨d, fun h => zz kr h⟩, (bS c fun k4 Q c => sn 16 rfl kr (.inl rfl) rfl dc (fun _ _ h => ⟨h.1, lG br h.2⟩) ⟨d, fun h => zz kr h⟩ (kN (i := (IntKind.i64.wrap (j - 1))) jt.out aD aB rfl rfl R (kk Q) (ki Q)) (fun j4 ⟨_, ⟨k1, rfl, i3⟩, i1, d5⟩ => ?_))⟩
       obtain ⟨e4, e7, rfl⟩ := a9.form
       refine XO 17 rfl (qp (x1 := (⟨k.Op, k.K, k.jq, k.Kids⟩ : Formula)) jB n R rfl rfl (jt.mk ⟨(.slice e4 k.Kids.length e7), rfl, a9⟩) d5 (ki Q) aB (fun i7 e5 n d2 => ?_))
       have d := n.has.ju Sn
       exact ⟨⟨d, fun h => zz kr h⟩, (kW kr (ko (jF (jI (Wh H (Wi rfl (Wa (ln ⟨f4, bE _, ((M.set (Int.toNat j) a5).set (Int.toNat (IntKind.i64.wrap (j - 1))) (⟨k.Op, k.K, k.jq, k.Kids⟩ : Formula)), e5, (IntKind.i64.wrap (j - 1)), _, (n.ju St), z, c2, c3, c4, c5, rfl, d2, c⟩))))))))⟩
      refine mZ (mS (mS (qx (jF ?_))))
      obtain rfl := sj c
      exact ⟨B, _, (n.ju St), z, c2, c3, c4, c5, t⟩
     refine bC g (fun a g => ?_) (fun a g => ?_)
     ·refine Xg 4 rfl rfl (cB a) d (jE a3) (Xg 5 rfl rfl (cB a) d (jE K) (Xg 6 rfl rfl (cB a) d (jE G) (bS g fun f7 b2 g => sn 7 rfl kr (.inr ⟨3, true, 21, rfl, rfl, by decide, (cB a)⟩) rfl dc (fun _ _ h => h) d (kN (i := j) jt.out aD aB rfl rfl t (kk b2) (ki b2)) (fun j5 ⟨_, ⟨f5, rfl, e1⟩, d8, h8⟩ => uF 8 rfl rfl (cB a) d (fun _ s => jw rfl (jR (ny.hp _) (d8.mono (lP (fun b o F => s.2 b o (Ml F)))) aG aB)) (Xg 9 rfl rfl (cB a) d (jE K) (Xg 10 rfl rfl (cB a) d (jE G) (Xg 11 rfl rfl (cB a) d (kx rfl rfl rfl) (bS g fun f8 b3 g => sn 12 rfl kr (.inr ⟨3, true, 21, rfl, rfl, by decide, (cB a)⟩) rfl dc (fun _ _ h => h) d (kN (i := (IntKind.i64.wrap (j - 1))) jt.out aD aB rfl rfl t (kk b3) (ki b3)) (fun j6 ⟨_, ⟨f6, rfl, e2⟩, d9, h9⟩ => uF 13 rfl rfl (cB a) d (fun _ s => jw rfl (jR (ny.hp _) (d9.mono (lP (fun b o F => s.2 b o (Ml F)))) aG aB)) (bS g fun j7 e0 g => E7 14 rfl rfl (cB a) (yz (f7, f8) n h5 (kd.refl _) (vg.mk jB jB (jt.mk ⟨f5, rfl, e1⟩) (jt.mk ⟨f6, rfl, e2⟩) n.jD) rfl (we rfl rfl) e0 (fun i8 n => ?_))))))))))))
      have d := n.has.ju (Kr Sn)
      refine ⟨d, (Xg 15 rfl rfl (cB a) d (kx rfl rfl rfl) (X 16 rfl d (jM (cB a) rfl) ?_))⟩
      obtain rfl := sj g
      refine ni kr (a4 _ _ ⟨_, (n.ju St), K, Z, c0, a3, c1, G, rfl⟩)
     refine Xn 4 rfl rfl (cB a) d (Xn 5 rfl rfl (cB a) d (Xn 6 rfl rfl (cB a) d (Xn 7 rfl rfl (cB a) d (Xn 8 rfl rfl (cB a) d (Xn 9 rfl rfl (cB a) d (Xn 10 rfl rfl (cB a) d (Xn 11 rfl rfl (cB a) d (Xn 12 rfl rfl (cB a) d (Xn 13 rfl rfl (cB a) d (Xn 14 rfl rfl (cB a) d (Xn 15 rfl rfl (cB a) d (X 16 rfl d (jN (cB a) rfl) ?_))))))))))))
     obtain rfl := sj g
     refine ni kr (a4 _ _ ⟨_, (n.ju St), K, Z, c0, a3, c1, G, rfl⟩)
   rintro h1 E W ⟨U, d0, n, g2, g3, g4, g7, g8, f2⟩ f0
   exact ko (jF (jI (Wh g8 (Wi rfl (Wa (ln ⟨h2, bE _, h1, U, (IntKind.i64.wrap (x + 1)), _, (n.ju St), g2, g3, g4, g7, rfl, f2, f0⟩))))))
  refine mZ (mS (mS (qx (jF (qh ?_)))))
  obtain rfl := sj u
  exact oL rfl ⟨_, _, _, rfl, (n.lM (Kr Sn)), (kd.refl _), Lo.refl, (ST.kA n (ma.mem (Kr Sn))), J, rfl, rfl, c6⟩
theorem pF (x : Value) (a0 : List Formula) (t : LO) (G H a3 : Int) (a5 : Value) (f4 : (Formula × Formula) → Option Int) (r : List Formula) (w : World) {Y : kl} (h0 : nB Y (t ++ []) w) (c0 : kD 113 jt 5 Y x a0 t) (d5 : xy Tryz.prog a5 Y (vg jt jt) (fun (r : Int) => (.int .i64 r)) f4) (hm : mM a0 G H a3 f4 = some r) :
  lB true Tryz.prog 472 [x, (.int .i64 G), (.int .i64 H), (.int .i64 a3), a5] w Y (t ++ []) (fun v L1 μ1 => ∃ S1, v = (.tuple #[]) ∧ L1 = (S1 ++ []) ∧ kD 113 jt 5 μ1 x r S1) := by
 refine tE h0 38 func472 rfl (fun p => sg (Wa (ln (qb (ll (mU (fun m E W => ∃ D y c Z, ST true (keys (t ++ [])) w W Y (y ++ Z) ∧ E 0 = x ∧ E 1 = (.int .i64 G) ∧ E 2 = (.int .i64 H) ∧ E 3 = (.int .i64 a3) ∧ E 10 = (.int .i64 c) ∧ kD 113 jt 5 Y x D y ∧ lU a3 H G m D c = some r) jY ⟨a0, t, 0, _, (p.ju St), rfl, rfl, rfl, rfl, rfl, c0, hm⟩ ?_))))))
 rintro m E W ⟨D, y, c, Z, p, u, I, J, a4, k, j, a⟩
 cases m with
 | zero => rw [lU] at a; cases a
 | succ c1 =>
  refine jK (sg (Wh k (Wh a4 (Wi rfl (ln (CI a rfl (fun P a => ?_) (fun P a => ?_)))))))
  ·refine kn (jK (ll ?_))
   replace p := p.drew
   have d := p.has.ju Sn
   have n := p.has.ju (Kr Sn)
   refine uQ 21 d n kw (kO 0 rfl kr (.inl rfl) rfl dc (fun _ _ h => ⟨h.1, lG br h.2⟩) ⟨d, fun _ => n⟩ (fun _ _ _ _ => jE u) (kO 1 rfl kr (.inl rfl) rfl dc (fun _ _ h => ⟨h.1, lG br h.2⟩) ⟨d, fun _ => n⟩ (fun _ _ _ _ => jE I) (kO 2 rfl kr (.inl rfl) rfl dc (fun _ _ h => ⟨h.1, lG br h.2⟩) ⟨d, fun _ => n⟩ (fun _ _ _ _ => jE k) (kO 3 rfl kr (.inl rfl) rfl dc (fun _ _ h => ⟨h.1, lG br h.2⟩) ⟨d, fun _ => n⟩ (fun _ _ _ _ => kx rfl rfl rfl) (kO 4 rfl kr (.inl rfl) rfl dc (fun _ _ h => ⟨h.1, lG br h.2⟩) ⟨d, fun _ => n⟩ (fun _ _ _ _ => jE u) (kO 5 rfl kr (.inl rfl) rfl dc (fun _ _ h => ⟨h.1, lG br h.2⟩) ⟨d, fun _ => n⟩ (fun _ _ _ _ => jE J) (kO 6 rfl kr (.inl rfl) rfl dc (fun _ _ h => ⟨h.1, lG br h.2⟩) ⟨d, fun _ => n⟩ (fun _ _ _ _ => jE k) (kO 7 rfl kr (.inl rfl) rfl dc (fun _ _ h => ⟨h.1, lG br h.2⟩) ⟨d, fun _ => n⟩ (fun _ _ _ _ => kx rfl rfl rfl) (kO 8 rfl kr (.inl rfl) rfl dc (fun _ _ h => ⟨h.1, lG br h.2⟩) ⟨d, fun _ => n⟩ (fun _ _ _ _ => jE u) (kO 9 rfl kr (.inl rfl) rfl dc (fun _ _ h => ⟨h.1, lG br h.2⟩) ⟨d, fun _ => n⟩ (fun _ _ _ _ => jE J) (kO 10 rfl kr (.inl rfl) rfl dc (fun _ _ h => ⟨h.1, lG br h.2⟩) ⟨d, fun _ => n⟩ (fun _ _ _ _ => jE k) (kO 11 rfl kr (.inl rfl) rfl dc (fun _ _ h => ⟨h.1, lG br h.2⟩) ⟨d, fun _ => n⟩ (fun _ _ _ _ => kx rfl rfl rfl) (bS a fun K T a => sn 12 rfl kr (.inl rfl) rfl dc (fun _ _ h => ⟨h.1, lG br h.2⟩) ⟨d, fun _ => n⟩ (kN (i := (IntKind.i64.wrap (H + c))) jt.out aD aB rfl rfl j (kk T) (ki T)) (fun d6 ⟨_, ⟨e0, rfl, N⟩, b1, c4⟩ => ?_))))))))))))))
   refine kO 13 rfl kr (.inl rfl) rfl dc (fun _ _ h => ⟨h.1, lG br h.2⟩) ⟨d, fun _ => n⟩ (fun l W q F => have s := (F.2 (q.Dg 21 [13] kr rfl)); jw rfl (jR (ny.hp _) (b1.mono (lP (fun b o A => s.2 b o (Ml A)))) aG aB)) (kO 14 rfl kr (.inl rfl) rfl dc (fun _ _ h => ⟨h.1, lG br h.2⟩) ⟨d, fun _ => n⟩ (fun _ _ _ _ => jE u) (kO 15 rfl kr (.inl rfl) rfl dc (fun _ _ h => ⟨h.1, lG br h.2⟩) ⟨d, fun _ => n⟩ (fun _ _ _ _ => jE I) (kO 16 rfl kr (.inl rfl) rfl dc (fun _ _ h => ⟨h.1, lG br h.2⟩) ⟨d, fun _ => n⟩ (fun _ _ _ _ => jE k) (kO 17 rfl kr (.inl rfl) rfl dc (fun _ _ h => ⟨h.1, lG br h.2⟩) ⟨d, fun _ => n⟩ (fun _ _ _ _ => kx rfl rfl rfl) (bS a fun g U a => sn 18 rfl kr (.inl rfl) rfl dc (fun _ _ h => ⟨h.1, lG br h.2⟩) ⟨d, fun _ => n⟩ (kN (i := (IntKind.i64.wrap (G + c))) jt.out aD aB rfl rfl j (kk U) (ki U)) (fun d7 ⟨_, ⟨e1, rfl, Q⟩, b2, c5⟩ => kO 19 rfl kr (.inl rfl) rfl dc (fun _ _ h => ⟨h.1, lG br h.2⟩) ⟨d, fun _ => n⟩ (fun l W q F => have s := (F.2 (q.Dg 21 [19] kr rfl)); jw rfl (jR (ny.hp _) (b2.mono (lP (fun b o A => s.2 b o (Ml A)))) aG aB)) (bS a fun e5 z a => sn 20 rfl kr (.inl rfl) rfl dc (fun _ _ h => ⟨h.1, lG br h.2⟩) ⟨d, fun _ => n⟩ (kN (i := (IntKind.i64.wrap (G + c))) jt.out aD aB rfl rfl j (kk z) (ki z)) (fun d8 ⟨_, ⟨e2, rfl, c8⟩, c6, a9⟩ => ?_))))))))
   let L := (⟨g.Op, g.K, g.jq, g.Kids⟩ : Formula)
   obtain ⟨b3, b7, rfl⟩ := N.form
   refine XO 21 rfl (qp (x1 := K) jB p j rfl rfl (jt.mk ⟨(.slice b3 K.Kids.length b7), rfl, N⟩) a9 (ki z) aB (fun d2 d1 p M => ?_))
   have d := p.has.ju Sn
   refine ⟨⟨d, fun h => zz kr h⟩, (bS a fun e6 B a => sn 22 rfl kr (.inl rfl) rfl dc (fun _ _ h => ⟨h.1, lG br h.2⟩) ⟨d, fun h => zz kr h⟩ (kN (i := (IntKind.i64.wrap (H + c))) jt.out aD aB rfl rfl M (kk B) (ki B)) (fun d9 ⟨_, ⟨e3, rfl, c9⟩, c7, R⟩ => ?_))⟩
   obtain ⟨b4, b9, rfl⟩ := Q.form
   refine XO 23 rfl (qp (x1 := L) jB p M rfl rfl (jt.mk ⟨(.slice b4 g.Kids.length b9), rfl, Q⟩) R (ki B) aB (fun d3 b5 p O => ?_))
   have d := p.has.ju Sn
   exact ⟨⟨d, fun h => zz kr h⟩, (kW kr (ko (jF (jI (Wh k (Wi rfl (Wa (ln ⟨c1, bE _, ((D.set (Int.toNat (IntKind.i64.wrap (G + c))) K).set (Int.toNat (IntKind.i64.wrap (H + c))) L), b5, (IntKind.i64.wrap (c + 1)), _, (p.ju St), u, I, J, a4, rfl, O, a⟩))))))))⟩
  refine mZ (mS (mS (qx (jF (qh ?_)))))
  obtain rfl := sj a
  exact oL rfl ⟨_, _, _, rfl, (p.lM (Kr Sn)), (kd.refl _), Lo.refl, (ST.kA p (ma.mem (Kr Sn))), y, rfl, rfl, j⟩
theorem yE (k : Value) (a0 : List Formula) (y : LO) (q D a3 : Int) (B : Value) (U : (Formula × Formula) → Option Int) (r : List Formula) (w : World) {T : kl} (h0 : nB T (y ++ []) w) (c5 : kD 113 jt 5 T k a0 y) (Q : xy Tryz.prog B T (vg jt jt) (fun (r : Int) => (.int .i64 r)) U) (hm : mH a0 q D a3 U = some r) :
  lB true Tryz.prog 470 [k, (.int .i64 q), (.int .i64 D), (.int .i64 a3), B] w T (y ++ []) (fun v L1 μ1 => ∃ S1, v = (.tuple #[]) ∧ L1 = (S1 ++ []) ∧ kD 113 jt 5 μ1 k r S1) := by
 refine tE h0 58 func470 rfl (fun b => sg (Wm (Wm (Wi rfl (Wa (lr (Wm (Wm (Wi rfl (Wa ?_))))))))))
 refine ln (jK (ll (mU (fun m E W => ∃ z x c t I Y, kd T I ∧ Lo (keys (y ++ [])) w T I ∧ ST true (keys (y ++ [])) w W I (x ++ Y) ∧ E 0 = k ∧ E 2 = (.int .i64 D) ∧ E 4 = B ∧ E 10 = (.int .i64 c) ∧ E 11 = (.int .i64 t) ∧ kD 113 jt 5 I k z x ∧ ml D U m z c t = some r) jY ⟨a0, y, (IntKind.i64.wrap (D - q)), (IntKind.i64.wrap (a3 - D)), T, _, (kd.refl _), Lo.refl, (b.ju St), rfl, rfl, rfl, rfl, rfl, c5, hm⟩ ?_)))
 rintro m E W ⟨z, x, c, t, I, Y, i, d, b, G, j, H, g, u, J, a⟩
 let a2 := (IntKind.i64.wrap (D - c))
 cases m with
 | zero => rw [ml] at a; cases a
 | succ s =>
  refine jK (sg (Wh g (Wh u (Wi rfl (ln (CI a rfl (fun A a => ?_) (fun A a => ?_)))))))
  ·refine kn (bg (Wh g (Wh u (Wi rfl (ln (CI a rfl (fun F a => ?_) (fun F a => ?_)))))))
   ·refine sg (Wh G (Wh j (Wh g (Wi rfl (Wh j (Wh u (Wh H (bS a fun c6 L a => ?_))))))))
    refine VE (eD b (Cr Qz Cn) call472 (fun p => (pF k z x a2 D t B U _ _ p J (Q.mono i) L)) ?_)
    rintro _ e0 c8 d2 b Z h ⟨b9, K, rfl, R⟩
    obtain rfl := K.symm
    replace b := b.perm (Tr Tn)
    exact ln (jI (Wh g (Wh u (Wi rfl (Wa (jW (ko (jF ⟨s, bE _, c6, b9, (IntKind.i64.wrap (c - t)), t, c8, _, (i.trans Z), (d.trans h), (b.ju St), G, j, H, rfl, u, R, a⟩))))))))
   refine sg (Wh G (Wh j (Wh g (Wi rfl (Wh j (Wh u (Wi rfl (Wh g (Wi rfl (Wh g (Wh H (bS a fun c7 O a => ?_))))))))))))
   refine VE (eD b (Cr Qz Cn) call472 (fun p => (pF k z x a2 (IntKind.i64.wrap ((IntKind.i64.wrap (D + t)) - c)) c B U _ _ p J (Q.mono i) O)) ?_)
   rintro _ e1 c9 d3 b a4 l ⟨c0, M, rfl, b6⟩
   obtain rfl := M.symm
   replace b := b.perm (Tr Tn)
   exact ln (jI (Wh u (Wh g (Wi rfl (Wa (jW (ko (jF ⟨s, bE _, c7, c0, c, (IntKind.i64.wrap (t - c)), c9, _, (i.trans a4), (d.trans l), (b.ju St), G, j, H, g, rfl, b6, a⟩))))))))
  refine mZ (mS (mS (qx (jF (jI (Wh G (Wh j (Wh g (Wi rfl (Wh j (Wh g (Wh H (bS a fun d9 P a => ?_)))))))))))))
  refine VE (eD b (Cr Qz Cn) call472 (fun p => (pF k z x a2 D c B U _ _ p J (Q.mono i) P)) ?_)
  rintro _ e2 e4 d4 b a5 n ⟨c1, N, rfl, b7⟩
  obtain rfl := N.symm
  replace b := b.perm (Tr Tn)
  refine jW (qh ?_)
  obtain rfl := sj a
  exact oL rfl ⟨_, _, _, rfl, (b.lM (Kr Sn)), (i.trans a5), (d.trans n), (ST.kA b (ma.mem (Kr Sn))), c1, rfl, rfl, b7⟩
set_option maxHeartbeats 1000000 in
theorem wk (t6 : (List Formula) → Int → Int → Int → ((Formula × Formula) → Option Int) → Option (List Formula)) (s6 : ∀ (t : Value) (a0 : List Formula) (c : LO) (z : Int) (M : Int) (B : Int) (D : Value) (f4 : (Formula × Formula) → Option Int) (r : List Formula) (w : World) {U : kl} (h0 : nB U (c ++ []) w) (a5 : kD 113 jt 5 U t a0 c) (c6 : xy Tryz.prog D U (vg jt jt) (fun (r : Int) => (.int .i64 r)) f4), t6 a0 z M B f4 = some r → lB false Tryz.prog 468 [t, (.int .i64 z), (.int .i64 M), (.int .i64 B), D] w U (c ++ []) (fun v L1 μ1 => ∃ S1, v = (.tuple #[]) ∧ L1 = (S1 ++ []) ∧ kD 113 jt 5 μ1 t r S1)) (t : Value) (a0 : List Formula) (c : LO) (z M B : Int) (D : Value) (f4 : (Formula × Formula) → Option Int) (r : List Formula) (w : World) {U : kl} (h0 : nB U (c ++ []) w) (a5 : kD 113 jt 5 U t a0 c) (c6 : xy Tryz.prog D U (vg jt jt) (fun (r : Int) => (.int .i64 r)) f4) (hm : oN t6 a0 z M B f4 = some r) :
  lB false Tryz.prog 468 [t, (.int .i64 z), (.int .i64 M), (.int .i64 B), D] w U (c ++ []) (fun v L1 μ1 => ∃ S1, v = (.tuple #[]) ∧ L1 = (S1 ++ []) ∧ kD 113 jt 5 μ1 t r S1) := by
 refine tE h0 220 func468 rfl (fun d => jK (sg (Wm (Wm (Wi rfl (Wi rfl (ln (CI hm rfl (fun ae hm => ?_) (fun ae hm => ?_)))))))))
 ·refine sg (Wm (Wa (lr (Wm (Wa (ln (jK (ll (mU (fun m E W => ∃ T a9 o3, ST false (keys (c ++ [])) w W U (c ++ o3) ∧ E 0 = t ∧ E 1 = (.int .i64 z) ∧ E 4 = D ∧ E 10 = (.int .i64 T) ∧ E 11 = (.int .i64 a9) ∧ kT a0 z f4 m T a9 = some r) jY ⟨M, B, _, (d.ju St), rfl, rfl, rfl, rfl, rfl, hm⟩ ?_)))))))))
  rintro m E W ⟨T, a9, o3, d, e4, h8, k3, h9, k4, y⟩
  cases m with
  | zero => rw [kT] at y; cases y
  | succ t5 =>
   refine jK (sg (Wh h9 (Wh k4 (Wi rfl (ln (CI y rfl (fun w9 y => ?_) (fun w9 y => ?_)))))))
   ·refine kn (bg (Wh h9 (Wh k4 (Wi rfl (V (qP (k' := .i64) (a := (IntKind.i64.wrap (T + a9))) eS fD rfl) (V (Gp (a := (IntKind.u64.wrap (IntKind.i64.wrap (T + a9)))) (b := 1) rfl rfl dc) (V (qP (k' := .u64) (a := (Int.fdiv (IntKind.u64.wrap (IntKind.i64.wrap (T + a9))) (2 ^ min (Int.toNat 1) (IntKind.bits .u64)))) fD eS rfl) (Wa (ln (jK ?_))))))))))
    let e3 := (Int.fdiv (IntKind.u64.wrap (IntKind.i64.wrap (T + a9))) (2 ^ min (Int.toNat 1) (IntKind.bits .u64)))
    replace d := d.drew
    have n := d.has.ju (Kr Sn)
    refine kJ n kw (X 0 rfl n (jE k3) (X 1 rfl n (jE e4) (X 2 rfl n (jE rfl) (bS y fun aa n1 y => XQ 3 rfl n (kN (i := (IntKind.i64.wrap e3)) jt.out aD aB rfl rfl a5 (kk n1) (ki n1)) (fun dh ⟨_, ⟨z7, rfl, x7⟩, x4, bo⟩ => XH 4 rfl n (fun _ s => jw rfl (jR (ny.hp _) (x4.mono (lP (fun b o A => s.2 b o (Ml A)))) aG aB)) (X 5 rfl n (jE e4) (X 6 rfl n (jE h8) (bS y fun ab n2 y => XQ 7 rfl n (kN (i := z) jt.out aD aB rfl rfl a5 (kk n2) (ki n2)) (fun di ⟨_, ⟨z8, rfl, x8⟩, x5, bp⟩ => XH 8 rfl n (fun _ s => jw rfl (jR (ny.hp _) (x5.mono (lP (fun b o A => s.2 b o (Ml A)))) aG aB)) (bS y fun dj x6 y => XE 9 rfl (yz (aa, ab) d c6 (kd.refl _) (vg.mk jB jB (jt.mk ⟨z7, rfl, x7⟩) (jt.mk ⟨z8, rfl, x8⟩) d.jD) rfl (we rfl rfl) x6 (fun df d => ?_))))))))))))
    have n := d.has.ju (Kr Sn)
    refine ⟨n, (X 10 rfl n (kx rfl rfl rfl) (kW kr (jF (CI y rfl (fun x0 y => ?_) (fun x0 y => ?_)))))⟩
    ·exact jI (Wm (Wi rfl (Wa (jW (ko (jF ⟨t5, bE _, (IntKind.i64.wrap ((IntKind.i64.wrap e3) + 1)), a9, _, (d.ju St), e4, h8, k3, rfl, k4, y⟩))))))
    exact jI (Wm (Wa (jW (ko (jF ⟨t5, bE _, T, (IntKind.i64.wrap e3), _, (d.ju St), e4, h8, k3, h9, rfl, y⟩)))))
   refine mZ (mS (mS (qx (jF (jK (sg (Wh h8 (Wa (ln (CJ y (fun k5 E W => ∃ f7 o4, ST false (keys (c ++ [])) w W U (f7 ++ o4) ∧ kD 113 jt 5 U t k5 f7) (fun k5 x3 => ?_) ?_))))))))))
   ·refine ll (mU (fun m E W => ∃ i0 f8 R k6, ST false (keys (c ++ [])) w W U (f8 ++ k6) ∧ E 0 = t ∧ E 10 = (.int .i64 T) ∧ E 13 = (.int .i64 R) ∧ kD 113 jt 5 U t i0 f8 ∧ lX T m i0 R = some k5) jY ⟨a0, c, z, _, (d.ju St), e4, h9, rfl, a5, x3⟩ ?_)
    rintro m E W ⟨i0, f8, R, k6, d, c7, l7, c0, d1, u⟩
    cases m with
    | zero => rw [lX] at u; cases u
    | succ y2 =>
     refine jK (sg (Wh c0 (Wh l7 (Wi rfl (Wi rfl (ln (CI u rfl (fun p1 u => ?_) (fun p1 u => ?_))))))))
     ·refine kn (jK (ll ?_))
      replace d := d.drew
      have n := d.has.ju Sn
      have p := d.has.ju (Kr Sn)
      refine uQ 15 n p kw (kO 0 rfl kr (.inl rfl) rfl dc (fun _ _ h => ⟨h.1, lG (by rfl) h.2⟩) ⟨n, fun _ => p⟩ (fun _ _ _ _ => jE c7) (kO 1 rfl kr (.inl rfl) rfl dc (fun _ _ h => ⟨h.1, lG (by rfl) h.2⟩) ⟨n, fun _ => p⟩ (fun _ _ _ _ => jE c0) (kO 2 rfl kr (.inl rfl) rfl dc (fun _ _ h => ⟨h.1, lG (by rfl) h.2⟩) ⟨n, fun _ => p⟩ (fun _ _ _ _ => jE c7) (kO 3 rfl kr (.inl rfl) rfl dc (fun _ _ h => ⟨h.1, lG (by rfl) h.2⟩) ⟨n, fun _ => p⟩ (fun _ _ _ _ => jE c0) (kO 4 rfl kr (.inl rfl) rfl dc (fun _ _ h => ⟨h.1, lG (by rfl) h.2⟩) ⟨n, fun _ => p⟩ (fun _ _ _ _ => kx rfl rfl rfl) (kO 5 rfl kr (.inl rfl) rfl dc (fun _ _ h => ⟨h.1, lG (by rfl) h.2⟩) ⟨n, fun _ => p⟩ (fun _ _ _ _ => jE c7) (kO 6 rfl kr (.inl rfl) rfl dc (fun _ _ h => ⟨h.1, lG (by rfl) h.2⟩) ⟨n, fun _ => p⟩ (fun _ _ _ _ => jE c0) (kO 7 rfl kr (.inl rfl) rfl dc (fun _ _ h => ⟨h.1, lG (by rfl) h.2⟩) ⟨n, fun _ => p⟩ (fun _ _ _ _ => kx rfl rfl rfl) (bS u fun i3 j5 u => sn 8 rfl kr (.inl rfl) rfl dc (fun _ _ h => ⟨h.1, lG (by rfl) h.2⟩) ⟨n, fun _ => p⟩ (kN (i := (IntKind.i64.wrap (R + 1))) jt.out aD aB rfl rfl d1 (kk j5) (ki j5)) (fun bs ⟨_, ⟨ck, rfl, i7⟩, r3, af⟩ => kO 9 rfl kr (.inl rfl) rfl dc (fun _ _ h => ⟨h.1, lG (by rfl) h.2⟩) ⟨n, fun _ => p⟩ (fun l W F hs => have s := (hs.2 (F.Dg 15 [9] kr rfl)); jw rfl (jR (ny.hp _) (r3.mono (lP (fun b o A => s.2 b o (Ml A)))) aG aB)) (kO 10 rfl kr (.inl rfl) rfl dc (fun _ _ h => ⟨h.1, lG (by rfl) h.2⟩) ⟨n, fun _ => p⟩ (fun _ _ _ _ => jE c7) (kO 11 rfl kr (.inl rfl) rfl dc (fun _ _ h => ⟨h.1, lG (by rfl) h.2⟩) ⟨n, fun _ => p⟩ (fun _ _ _ _ => jE c0) (bS u fun Y j6 u => ?_)))))))))))))
      refine sn 12 rfl kr (.inl rfl) rfl dc (fun _ _ h => ⟨h.1, lG (by rfl) h.2⟩) ⟨n, fun _ => p⟩ (kN (i := R) jt.out aD aB rfl rfl d1 (kk j6) (ki j6)) (fun bt ⟨_, ⟨cl, rfl, i8⟩, r4, ag⟩ => kO 13 rfl kr (.inl rfl) rfl dc (fun _ _ h => ⟨h.1, lG (by rfl) h.2⟩) ⟨n, fun _ => p⟩ (fun l W F hs => have s := (hs.2 (F.Dg 15 [13] kr rfl)); jw rfl (jR (ny.hp _) (r4.mono (lP (fun b o A => s.2 b o (Ml A)))) aG aB)) (bS u fun cv e9 u => sn 14 rfl kr (.inl rfl) rfl dc (fun _ _ h => ⟨h.1, lG (by rfl) h.2⟩) ⟨n, fun _ => p⟩ (kN (i := R) jt.out aD aB rfl rfl d1 (kk e9) (ki e9)) (fun bu ⟨_, ⟨cm, rfl, ar⟩, an, q2⟩ => ?_)))
      obtain ⟨t7, u6, rfl⟩ := i7.form
      refine XO 15 rfl (qp (x1 := i3) jB d d1 rfl rfl (jt.mk ⟨(.slice t7 i3.Kids.length u6), rfl, i7⟩) q2 (ki e9) aB (fun bd bb d i5 => ?_))
      have n := d.has.ju Sn
      refine ⟨⟨n, fun h => zz kr h⟩, (bS u fun cw f0 u => sn 16 rfl kr (.inl rfl) rfl dc (fun _ _ h => ⟨h.1, lG (by rfl) h.2⟩) ⟨n, fun h => zz kr h⟩ (kN (i := (IntKind.i64.wrap (R + 1))) jt.out aD aB rfl rfl i5 (kk f0) (ki f0)) (fun bv ⟨_, ⟨cn, rfl, au⟩, ao, q3⟩ => ?_))⟩
      obtain ⟨t8, u7, rfl⟩ := i8.form
      refine XO 17 rfl (qp (x1 := (⟨Y.Op, Y.K, Y.jq, Y.Kids⟩ : Formula)) jB d i5 rfl rfl (jt.mk ⟨(.slice t8 Y.Kids.length u7), rfl, i8⟩) q3 (ki f0) aB (fun be u1 d o9 => ?_))
      have n := d.has.ju Sn
      exact ⟨⟨n, fun h => zz kr h⟩, (kW kr (ko (jF (jI (Wh c0 (Wi rfl (Wa (ln ⟨y2, bE _, ((i0.set (Int.toNat R) i3).set (Int.toNat (IntKind.i64.wrap (R + 1))) (⟨Y.Op, Y.K, Y.jq, Y.Kids⟩ : Formula)), u1, (IntKind.i64.wrap (R + 1)), _, (d.ju St), c7, l7, rfl, o9, u⟩))))))))⟩
     refine mZ (mS (mS (qx (jF ?_))))
     have q := sj u; subst q
     exact ⟨f8, _, (d.ju St), d1⟩
   rintro dg E W ⟨f7, o4, d, x9⟩ x2
   refine jU (kj ?_)
   have q := sj x2; subst q
   exact oL rfl ⟨_, _, _, rfl, (d.lM (Kr Sn)), (kd.refl _), Lo.refl, (ST.kA d (ma.mem (Kr Sn))), f7, rfl, rfl, x9⟩
 refine kS (Wm (Wm (Wi rfl (Wi rfl (ln (CI hm rfl (fun p2 hm => ?_) (fun p2 hm => ?_)))))))
 ·refine sg (Wm (Wa (lr (Wm (Wa (ln (jK (ll (mU (fun m E W => ∃ G N k7, ST false (keys (c ++ [])) w W U (c ++ k7) ∧ E 0 = t ∧ E 2 = (.int .i64 M) ∧ E 4 = D ∧ E 14 = (.int .i64 G) ∧ E 15 = (.int .i64 N) ∧ kU a0 M f4 m G N = some r) jY ⟨z, M, _, (d.ju St), rfl, rfl, rfl, rfl, rfl, hm⟩ ?_)))))))))
  rintro m E W ⟨G, N, k7, d, c8, d5, f9, d6, g0, j⟩
  let j1 := (IntKind.u64.wrap (IntKind.i64.wrap (G + N)))
  let b8 := (Int.fdiv j1 (2 ^ min (Int.toNat 1) (IntKind.bits .u64)))
  cases m with
  | zero => rw [kU] at j; cases j
  | succ n3 =>
   refine jK (sg (Wh d6 (Wh g0 (Wi rfl (ln (CI j rfl (fun p3 j => ?_) (fun p3 j => ?_)))))))
   ·refine kn (bg (Wh d6 (Wh g0 (Wi rfl (V (qP (k' := .i64) (a := (IntKind.i64.wrap (G + N))) eS fD rfl) (V (Gp (a := j1) (b := 1) rfl rfl dc) (V (qP (k' := .u64) (a := (Int.fdiv j1 (2 ^ min (Int.toNat 1) (IntKind.bits .u64)))) fD eS rfl) (Wa (ln (jK ?_))))))))))
    replace d := d.drew
    have n := d.has.ju (Kr Sn)
    refine kJ n kw (X 0 rfl n (jE f9) (X 1 rfl n (jE c8) (X 2 rfl n (jE d5) (bS j fun y8 j7 j => XQ 3 rfl n (kN (i := M) jt.out aD aB rfl rfl a5 (kk j7) (ki j7)) (fun bw ⟨_, ⟨y4, rfl, s7⟩, r5, ah⟩ => XH 4 rfl n (fun _ s => jw rfl (jR (ny.hp _) (r5.mono (lP (fun b o A => s.2 b o (Ml A)))) aG aB)) (X 5 rfl n (jE c8) (X 6 rfl n (jE rfl) (bS j fun y9 j8 j => XQ 7 rfl n (kN (i := (IntKind.i64.wrap b8)) jt.out aD aB rfl rfl a5 (kk j8) (ki j8)) (fun bx ⟨_, ⟨y5, rfl, s8⟩, r6, ai⟩ => XH 8 rfl n (fun _ s => jw rfl (jR (ny.hp _) (r6.mono (lP (fun b o A => s.2 b o (Ml A)))) aG aB)) (bS j fun cf s1 j => XE 9 rfl (yz (y8, y9) d c6 (kd.refl _) (vg.mk jB jB (jt.mk ⟨y4, rfl, s7⟩) (jt.mk ⟨y5, rfl, s8⟩) d.jD) rfl (we rfl rfl) s1 (fun bf d => ?_))))))))))))
    have n := d.has.ju (Kr Sn)
    refine ⟨n, (X 10 rfl n (kx rfl rfl rfl) (X 11 rfl n (nH rfl) (kW kr (jF (CI j rfl (fun p4 j => ?_) (fun p4 j => ?_))))))⟩
    ·exact jI (Wm (Wi rfl (Wa (jW (ko (jF ⟨n3, bE _, (IntKind.i64.wrap ((IntKind.i64.wrap b8) + 1)), N, _, (d.ju St), c8, d5, f9, rfl, g0, j⟩))))))
    exact jI (Wm (Wa (jW (ko (jF ⟨n3, bE _, G, (IntKind.i64.wrap b8), _, (d.ju St), c8, d5, f9, d6, rfl, j⟩)))))
   refine mZ (mS (mS (qx (jF (jK (sg (Wh d5 (Wa (ln (CJ j (fun i1 E W => ∃ d3 k8, ST false (keys (c ++ [])) w W U (d3 ++ k8) ∧ kD 113 jt 5 U t i1 d3) (fun i1 q7 => ?_) ?_))))))))))
   ·refine ll (mU (fun m E W => ∃ e2 d4 Q k9, ST false (keys (c ++ [])) w W U (d4 ++ k9) ∧ E 0 = t ∧ E 14 = (.int .i64 G) ∧ E 17 = (.int .i64 Q) ∧ kD 113 jt 5 U t e2 d4 ∧ lY G m e2 Q = some i1) jY ⟨a0, c, M, _, (d.ju St), c8, d6, rfl, a5, q7⟩ ?_)
    rintro m E W ⟨e2, d4, Q, k9, d, c9, l8, c1, b6, x⟩
    cases m with
    | zero => rw [lY] at x; cases x
    | succ y3 =>
     refine jK (sg (Wh c1 (Wh l8 (Wi rfl (ln (CI x rfl (fun p5 x => ?_) (fun p5 x => ?_)))))))
     ·refine kn (jK (ll ?_))
      replace d := d.drew
      have n := d.has.ju Sn
      have p := d.has.ju (Kr Sn)
      refine uQ 15 n p kw (kO 0 rfl kr (.inl rfl) rfl dc (fun _ _ h => ⟨h.1, lG (by rfl) h.2⟩) ⟨n, fun _ => p⟩ (fun _ _ _ _ => jE c9) (kO 1 rfl kr (.inl rfl) rfl dc (fun _ _ h => ⟨h.1, lG (by rfl) h.2⟩) ⟨n, fun _ => p⟩ (fun _ _ _ _ => jE c1) (kO 2 rfl kr (.inl rfl) rfl dc (fun _ _ h => ⟨h.1, lG (by rfl) h.2⟩) ⟨n, fun _ => p⟩ (fun _ _ _ _ => jE c9) (kO 3 rfl kr (.inl rfl) rfl dc (fun _ _ h => ⟨h.1, lG (by rfl) h.2⟩) ⟨n, fun _ => p⟩ (fun _ _ _ _ => jE c1) (kO 4 rfl kr (.inl rfl) rfl dc (fun _ _ h => ⟨h.1, lG (by rfl) h.2⟩) ⟨n, fun _ => p⟩ (fun _ _ _ _ => kx rfl rfl rfl) (kO 5 rfl kr (.inl rfl) rfl dc (fun _ _ h => ⟨h.1, lG (by rfl) h.2⟩) ⟨n, fun _ => p⟩ (fun _ _ _ _ => jE c9) (kO 6 rfl kr (.inl rfl) rfl dc (fun _ _ h => ⟨h.1, lG (by rfl) h.2⟩) ⟨n, fun _ => p⟩ (fun _ _ _ _ => jE c1) (kO 7 rfl kr (.inl rfl) rfl dc (fun _ _ h => ⟨h.1, lG (by rfl) h.2⟩) ⟨n, fun _ => p⟩ (fun _ _ _ _ => kx rfl rfl rfl) (bS x fun i4 j9 x => sn 8 rfl kr (.inl rfl) rfl dc (fun _ _ h => ⟨h.1, lG (by rfl) h.2⟩) ⟨n, fun _ => p⟩ (kN (i := (IntKind.i64.wrap (Q - 1))) jt.out aD aB rfl rfl b6 (kk j9) (ki j9)) (fun bz ⟨_, ⟨co, rfl, i9⟩, r7, aj⟩ => kO 9 rfl kr (.inl rfl) rfl dc (fun _ _ h => ⟨h.1, lG (by rfl) h.2⟩) ⟨n, fun _ => p⟩ (fun l W F hs => have s := (hs.2 (F.Dg 15 [9] kr rfl)); jw rfl (jR (ny.hp _) (r7.mono (lP (fun b o A => s.2 b o (Ml A)))) aG aB)) (kO 10 rfl kr (.inl rfl) rfl dc (fun _ _ h => ⟨h.1, lG (by rfl) h.2⟩) ⟨n, fun _ => p⟩ (fun _ _ _ _ => jE c9) (kO 11 rfl kr (.inl rfl) rfl dc (fun _ _ h => ⟨h.1, lG (by rfl) h.2⟩) ⟨n, fun _ => p⟩ (fun _ _ _ _ => jE c1) (bS x fun Z k0 x => ?_)))))))))))))
      refine sn 12 rfl kr (.inl rfl) rfl dc (fun _ _ h => ⟨h.1, lG (by rfl) h.2⟩) ⟨n, fun _ => p⟩ (kN (i := Q) jt.out aD aB rfl rfl b6 (kk k0) (ki k0)) (fun ca ⟨_, ⟨cp, rfl, j0⟩, r8, ak⟩ => kO 13 rfl kr (.inl rfl) rfl dc (fun _ _ h => ⟨h.1, lG (by rfl) h.2⟩) ⟨n, fun _ => p⟩ (fun l W F hs => have s := (hs.2 (F.Dg 15 [13] kr rfl)); jw rfl (jR (ny.hp _) (r8.mono (lP (fun b o A => s.2 b o (Ml A)))) aG aB)) (bS x fun cx f1 x => sn 14 rfl kr (.inl rfl) rfl dc (fun _ _ h => ⟨h.1, lG (by rfl) h.2⟩) ⟨n, fun _ => p⟩ (kN (i := Q) jt.out aD aB rfl rfl b6 (kk f1) (ki f1)) (fun cb ⟨_, ⟨cq, rfl, av⟩, ap, q4⟩ => ?_)))
      obtain ⟨t9, u8, rfl⟩ := i9.form
      refine XO 15 rfl (qp (x1 := i4) jB d b6 rfl rfl (jt.mk ⟨(.slice t9 i4.Kids.length u8), rfl, i9⟩) q4 (ki f1) aB (fun bh bc d i6 => ?_))
      have n := d.has.ju Sn
      refine ⟨⟨n, fun h => zz kr h⟩, (bS x fun cy f2 x => sn 16 rfl kr (.inl rfl) rfl dc (fun _ _ h => ⟨h.1, lG (by rfl) h.2⟩) ⟨n, fun h => zz kr h⟩ (kN (i := (IntKind.i64.wrap (Q - 1))) jt.out aD aB rfl rfl i6 (kk f2) (ki f2)) (fun cc ⟨_, ⟨cr, rfl, aw⟩, aq, q5⟩ => ?_))⟩
      obtain ⟨u0, u9, rfl⟩ := j0.form
      refine XO 17 rfl (qp (x1 := (⟨Z.Op, Z.K, Z.jq, Z.Kids⟩ : Formula)) jB d i6 rfl rfl (jt.mk ⟨(.slice u0 Z.Kids.length u9), rfl, j0⟩) q5 (ki f2) aB (fun bi u2 d p0 => ?_))
      have n := d.has.ju Sn
      exact ⟨⟨n, fun h => zz kr h⟩, (kW kr (ko (jF (jI (Wh c1 (Wi rfl (Wa (ln ⟨y3, bE _, ((e2.set (Int.toNat Q) i4).set (Int.toNat (IntKind.i64.wrap (Q - 1))) (⟨Z.Op, Z.K, Z.jq, Z.Kids⟩ : Formula)), u2, (IntKind.i64.wrap (Q - 1)), _, (d.ju St), c9, l8, rfl, p0, x⟩))))))))⟩
     refine mZ (mS (mS (qx (jF ?_))))
     have q := sj x; subst q
     exact ⟨d4, _, (d.ju St), b6⟩
   rintro bq E W ⟨d3, k8, d, s9⟩ q6
   refine jU (kj ?_)
   have q := sj q6; subst q
   exact oL rfl ⟨_, _, _, rfl, (d.lM (Kr Sn)), (kd.refl _), Lo.refl, (ST.kA d (ma.mem (Kr Sn))), d3, rfl, rfl, s9⟩
 let g5 := (IntKind.u64.wrap (IntKind.i64.wrap (z + B)))
 refine kg (Wm (Wm (Wi rfl (V (qP (k' := .i64) (a := (IntKind.i64.wrap (z + B))) eS fD rfl) (V (Gp (a := g5) (b := 1) rfl rfl dc) (V (qP (k' := .u64) (a := (Int.fdiv g5 (2 ^ min (Int.toNat 1) (IntKind.bits .u64)))) fD eS rfl) (Wa (lr ?_))))))))
 let P := (IntKind.i64.wrap (Int.fdiv g5 (2 ^ min (Int.toNat 1) (IntKind.bits .u64))))
 let e5 := (IntKind.i64.wrap (P + M))
 refine Wm (Wm (Wi rfl (Wa (lr (Wa (Wa (ln (jK (CJ hm (fun i2 E W => ∃ l0, ST false (keys (c ++ [])) w W U (c ++ l0) ∧ E 0 = t ∧ E 1 = (.int .i64 z) ∧ E 2 = (.int .i64 M) ∧ E 3 = (.int .i64 B) ∧ E 4 = D ∧ E 18 = (.int .i64 P) ∧ E 19 = (.int .i64 e5) ∧ E 20 = (.int .i64 i2.1) ∧ E 21 = (.int .i64 i2.2)) (fun i2 b5 => ?_) ?_)))))))))
 ·refine sg (Wm (Wm (Wi rfl (ln (CI b5 rfl (fun q1 b5 => ?_) (fun q1 b5 => ?_))))))
  ·refine sg (Wm (Wm (Wi rfl (Wa (ln (jI (Wm (Wa (ln ?_)))))))))
   have q := sj b5; subst q
   exact ⟨_, (d.ju St), rfl, rfl, rfl, rfl, rfl, rfl, rfl, rfl, rfl⟩
  refine sg (Wm (Wa (ln (jI (Wm (Wa (ln ?_)))))))
  have q := sj b5; subst q
  exact ⟨_, (d.ju St), rfl, rfl, rfl, rfl, rfl, rfl, rfl, rfl, rfl⟩
 rintro ⟨z0, z1⟩ E W ⟨l0, d, v0, v1, v2, v3, v4, v5, l9, v6, v7⟩ q8
 refine sg (Wh l9 (Wi rfl (Wa (ln (jK (ll (mU (fun m E W => ∃ g K l1, ST false (keys (c ++ [])) w W U (c ++ l1) ∧ E 0 = t ∧ E 1 = (.int .i64 z) ∧ E 2 = (.int .i64 M) ∧ E 3 = (.int .i64 B) ∧ E 4 = D ∧ E 18 = (.int .i64 P) ∧ E 19 = (.int .i64 e5) ∧ E 20 = (.int .i64 g) ∧ E 21 = (.int .i64 K) ∧ E 22 = (.int .i64 (IntKind.i64.wrap (e5 - 1))) ∧ kH a0 z B M f4 t6 m g K = some r) jY ⟨z0, z1, _, (d.ju St), v0, v1, v2, v3, v4, v5, l9, v6, v7, rfl, q8⟩ ?_)))))))
 rintro m E W ⟨g, K, l1, d, c2, d7, c3, d8, d0, d9, g1, b1, g2, g3, k⟩
 let g6 := (IntKind.u64.wrap (IntKind.i64.wrap (g + K)))
 let a3 := (Int.fdiv g6 (2 ^ min (Int.toNat 1) (IntKind.bits .u64)))
 let j2 := (IntKind.i64.wrap a3)
 let a2 := (IntKind.i64.wrap (e5 - g))
 cases m with
 | zero => rw [kH] at k; cases k
 | succ n4 =>
  refine jK (sg (Wh b1 (Wh g2 (Wi rfl (ln (CI k rfl (fun p6 k => ?_) (fun p6 k => ?_)))))))
  ·refine kn (bg (Wh b1 (Wh g2 (Wi rfl (V (qP (k' := .i64) (a := (IntKind.i64.wrap (g + K))) eS fD rfl) (V (Gp (a := g6) (b := 1) rfl rfl dc) (V (qP (k' := .u64) (a := (Int.fdiv g6 (2 ^ min (Int.toNat 1) (IntKind.bits .u64)))) fD eS rfl) (Wa (ln (jK ?_))))))))))
   replace d := d.drew
   have n := d.has.ju (Kr Sn)
   refine kJ n kw (X 0 rfl n (jE d0) (X 1 rfl n (jE c2) (X 2 rfl n (jE g3) (X 3 rfl n (jE rfl) (X 4 rfl n (kx rfl rfl rfl) (bS k fun z2 k1 k => XQ 5 rfl n (kN (i := (IntKind.i64.wrap ((IntKind.i64.wrap (e5 - 1)) - j2))) jt.out aD aB rfl rfl a5 (kk k1) (ki k1)) (fun cd ⟨_, ⟨y6, rfl, t0⟩, r9, al⟩ => XH 6 rfl n (fun _ s => jw rfl (jR (ny.hp _) (r9.mono (lP (fun b o A => s.2 b o (Ml A)))) aG aB)) (X 7 rfl n (jE c2) (X 8 rfl n (jE rfl) (bS k fun z3 k2 k => XQ 9 rfl n (kN (i := (IntKind.i64.wrap a3)) jt.out aD aB rfl rfl a5 (kk k2) (ki k2)) (fun ce ⟨_, ⟨y7, rfl, t1⟩, s0, am⟩ => XH 10 rfl n (fun _ s => jw rfl (jR (ny.hp _) (s0.mono (lP (fun b o A => s.2 b o (Ml A)))) aG aB)) (bS k fun cg s2 k => ?_))))))))))))
   refine XE 11 rfl (yz (z2, z3) d c6 (kd.refl _) (vg.mk jB jB (jt.mk ⟨y6, rfl, t0⟩) (jt.mk ⟨y7, rfl, t1⟩) d.jD) rfl (we rfl rfl) s2 (fun bj d => ?_))
   have n := d.has.ju (Kr Sn)
   refine ⟨n, (X 12 rfl n (kx rfl rfl rfl) (X 13 rfl n (nH rfl) (kW kr (jF (CI k rfl (fun p7 k => ?_) (fun p7 k => ?_))))))⟩
   ·exact jI (Wm (Wi rfl (Wa (jW (ko (jF ⟨n4, bE _, (IntKind.i64.wrap (j2 + 1)), K, _, (d.ju St), c2, d7, c3, d8, d0, d9, g1, rfl, g2, g3, k⟩))))))
   exact jI (Wm (Wa (jW (ko (jF ⟨n4, bE _, g, j2, _, (d.ju St), c2, d7, c3, d8, d0, d9, g1, b1, rfl, g3, k⟩)))))
  refine mZ (mS (mS (qx (jF (sg (Wh g1 (Wh b1 (Wi rfl (Wa (ln (jK (CJ k (fun n8 E W => ∃ b7 a4 l2, kd U a4 ∧ Lo (keys (c ++ [])) w U a4 ∧ ST false (keys (c ++ [])) w W a4 (b7 ++ l2) ∧ E 0 = t ∧ E 1 = (.int .i64 z) ∧ E 3 = (.int .i64 B) ∧ E 4 = D ∧ E 18 = (.int .i64 P) ∧ E 20 = (.int .i64 g) ∧ E 24 = (.int .i64 a2) ∧ kD 113 jt 5 a4 t n8 b7) (fun n8 r2 => ?_) ?_))))))))))))
  ·refine sg (Wh b1 (Wh c3 (Wi rfl (Wm (LJ r2 (fun n9 E W => ∃ l6, ST false (keys (c ++ [])) w W U (c ++ l6) ∧ E 0 = t ∧ E 1 = (.int .i64 z) ∧ E 2 = (.int .i64 M) ∧ E 3 = (.int .i64 B) ∧ E 4 = D ∧ E 18 = (.int .i64 P) ∧ E 20 = (.int .i64 g) ∧ E 24 = (.int .i64 a2) ∧ E 185 = (.bool n9)) 4 ?_ (fun n9 b4 f6 => ?_))))))
   ·rintro db E W ⟨l6, d, h4, m8, w7, m9, h5, n0, h6, h7, w8⟩ a8
    refine ln (CI a8 w8 (fun q0 a8 => ?_) (fun q0 a8 => ?_))
    ·refine jI (Wh h4 (Wh h6 (Wh w7 (Wh h7 (Wh h5 (bS a8 fun cj s5 a8 => ?_))))))
     refine VE (eD d (Cr Qz Cn) call470 (fun hh => lB.li (yE t a0 c g M a2 D f4 _ _ hh a5 (c6.mono (kd.refl _)) s5)) ?_)
     rintro _ cu z5 ba d o2 bk ⟨u5, e8, rfl, t4⟩
     obtain rfl := e8.symm
     replace d := d.perm (Tr Tn)
     refine ln ?_
     have q := sj a8; subst q
     exact ⟨u5, z5, _, o2, bk, (d.ju St), h4, m8, m9, h5, n0, h6, h7, t4⟩
    refine kn ?_
    have q := sj a8; subst q
    exact ⟨c, U, _, (kd.refl _), Lo.refl, (d.ju St), h4, m8, m9, h5, n0, h6, h7, a5⟩
   refine bC b4 (fun J b4 => ?_) (fun J b4 => ?_)
   ·refine ug J (jE c3) (ug J (jE rfl) (ug J (kx rfl rfl rfl) (V (jM (cB J) rfl) ?_)))
    have q := sj b4; subst q
    exact f6 _ _ ⟨_, (d.ju St), c2, d7, c3, d8, d0, d9, b1, rfl, rfl⟩
   refine un J (un J (un J (V (jN (cB J) rfl) ?_)))
   have q := sj b4; subst q
   exact f6 _ _ ⟨_, (d.ju St), c2, d7, c3, d8, d0, d9, b1, rfl, rfl⟩
  rintro y0 E W ⟨b7, a4, l2, c4, L, d, m0, g4, m1, m2, g7, e0, m3, j3⟩ q9
  refine jK (CJ q9 (fun n6 E W => ∃ b9 c5 l3, kd a4 c5 ∧ Lo (keys (c ++ [])) w a4 c5 ∧ ST false (keys (c ++ [])) w W c5 (b9 ++ l3) ∧ E 0 = t ∧ E 3 = (.int .i64 B) ∧ E 4 = D ∧ E 18 = (.int .i64 P) ∧ E 24 = (.int .i64 a2) ∧ kD 113 jt 5 c5 t n6 b9) (fun n6 r1 => ?_) ?_)
  ·refine sg (Wh g4 (Wh e0 (Wi rfl (Wm (LJ r1 (fun n7 E W => ∃ l5, ST false (keys (c ++ [])) w W a4 (b7 ++ l5) ∧ E 0 = t ∧ E 1 = (.int .i64 z) ∧ E 3 = (.int .i64 B) ∧ E 4 = D ∧ E 18 = (.int .i64 P) ∧ E 20 = (.int .i64 g) ∧ E 24 = (.int .i64 a2) ∧ E 199 = (.bool n7)) 4 ?_ (fun n7 b3 f5 => ?_))))))
   ·rintro da E W ⟨l5, d, h1, w4, m6, h2, h3, w5, m7, w6⟩ a7
    refine ln (CI a7 w6 (fun p9 a7 => ?_) (fun p9 a7 => ?_))
    ·refine jI (Wh h1 (Wh w4 (Wh w5 (Wh h3 (Wh h2 (bS a7 fun ci s4 a7 => ?_))))))
     refine VE (eD d (Cr Qz Cn) call468 (fun hh => (s6 t y0 b7 z g P D f4 _ _ hh j3 (c6.mono c4) s4)) ?_)
     rintro _ ct z4 az d o1 aE ⟨u4, e7, rfl, t3⟩
     obtain rfl := e7.symm
     replace d := d.perm (Tr Tn)
     refine ln ?_
     have q := sj a7; subst q
     exact ⟨u4, z4, _, o1, aE, (d.ju St), h1, m6, h2, h3, m7, t3⟩
    refine kn ?_
    have q := sj a7; subst q
    exact ⟨b7, a4, _, (kd.refl _), Lo.refl, (d.ju St), h1, m6, h2, h3, m7, j3⟩
   refine bC b3 (fun I b3 => ?_) (fun I b3 => ?_)
   ·refine ug I (jE e0) (ug I (jE g7) (ug I (kx rfl rfl rfl) (V (jM (cB I) rfl) ?_)))
    have q := sj b3; subst q
    exact f5 _ _ ⟨_, (d.ju St), m0, g4, m1, m2, g7, e0, m3, rfl⟩
   refine un I (un I (un I (V (jN (cB I) rfl) ?_)))
   have q := sj b3; subst q
   exact f5 _ _ ⟨_, (d.ju St), m0, g4, m1, m2, g7, e0, m3, rfl⟩
  rintro y1 E W ⟨b9, c5, l3, d2, O, d, m4, g8, m5, g9, e1, j4⟩ r0
  refine sg (Wh g9 (Wh e1 (Wi rfl (Wm (LJ r0 (fun n5 E W => ∃ l4, ST false (keys (c ++ [])) w W c5 (b9 ++ l4) ∧ E 0 = t ∧ E 3 = (.int .i64 B) ∧ E 4 = D ∧ E 18 = (.int .i64 P) ∧ E 24 = (.int .i64 a2) ∧ E 213 = (.bool n5)) 4 ?_ (fun n5 b2 f3 => ?_))))))
  ·rintro cz E W ⟨l4, d, v8, v9, w0, w1, w2, w3⟩ a6
   refine ln (CI a6 w3 (fun p8 a6 => ?_) (fun p8 a6 => ?_))
   ·refine jI (Wh v8 (Wh w1 (Wh w2 (Wh v9 (Wh w0 (bS a6 fun ch s3 a6 => ?_))))))
    refine VE (eD d (Cr Qz Cn) call468 (fun hh => (s6 t y1 b9 P a2 B D f4 _ _ hh j4 (c6.mono (c4.trans d2)) s3)) ?_)
    rintro _ cs de ay d o0 ad ⟨u3, e6, rfl, t2⟩
    obtain rfl := e6.symm
    replace d := d.perm (Tr Tn)
    refine jW (qh ?_)
    have q := sj a6; subst q
    exact oL rfl ⟨_, _, _, rfl, (d.lM (Kr Sn)), ((c4.trans d2).trans o0), ((L.trans O).trans ad), (ST.kA d (ma.mem (Kr Sn))), u3, rfl, rfl, t2⟩
   refine kP (qh ?_)
   have q := sj a6; subst q
   exact oL rfl ⟨_, _, _, rfl, (d.lM (Kr Sn)), (c4.trans d2), (L.trans O), (ST.kA d (ma.mem (Kr Sn))), b9, rfl, rfl, j4⟩
  refine bC b2 (fun H b2 => ?_) (fun H b2 => ?_)
  ·refine ug H (jE e1) (ug H (jE g8) (ug H (kx rfl rfl rfl) (V (jM (cB H) rfl) ?_)))
   have q := sj b2; subst q
   exact f3 _ _ ⟨_, (d.ju St), m4, g8, m5, g9, e1, rfl⟩
  refine un H (un H (un H (V (jN (cB H) rfl) ?_)))
  have q := sj b2; subst q
  exact f3 _ _ ⟨_, (d.ju St), m4, g8, m5, g9, e1, rfl⟩
theorem pY : ∀ (n : Nat) (c : Value) (k : List Formula) (a : LO) (t : Int) (u : Int) (x : Int) (g : Value) (y : (Formula × Formula) → Option Int) (r : List Formula) (w : World) {i : kl} (H : nB i (a ++ []) w) (B : kD 113 jt 5 i c k a) (D : xy Tryz.prog g i (vg jt jt) (fun (r : Int) => (.int .i64 r)) y) (_ : lA n k t u x y = some r),
  lB false Tryz.prog 468 [c, (.int .i64 t), (.int .i64 u), (.int .i64 x), g] w i (a ++ []) (fun v z G => ∃ j, v = (.tuple #[]) ∧ z = (j ++ []) ∧ kD 113 jt 5 G c r j)
 | 0 => by intros; rename_i h; simp only [lA] at h; cases h
 | n + 1 => wk (lA n) (pY n)
theorem yu (a : Value) (a0 : List Formula) (c : LO) (Q : Int) (x : Value) (f2 : (Formula × Formula) → Option Int) (r : List Formula) (w : World) {μ0 : kl} (h0 : nB μ0 (c ++ []) w) (k4 : kD 113 jt 5 μ0 a a0 c) (c7 : xy Tryz.prog x μ0 (vg jt jt) (fun (r : Int) => (.int .i64 r)) f2) (hm : qD a0 Q f2 = some r) :
  lB false Tryz.prog 464 [a, (.int .i64 Q), x] w μ0 (c ++ []) (fun v L1 μ1 => ∃ S1, v = (.tuple #[]) ∧ L1 = (S1 ++ []) ∧ kD 113 jt 5 μ1 a r S1) := by
 refine tE h0 63 func464 rfl (fun b => sg (Wa (lr (Wm (Wa (Wa (ln (jK (ll (mU (fun m E W => ∃ d4 d0 d5 P d6 f1, kd μ0 d6 ∧ Lo (keys (c ++ [])) w μ0 d6 ∧ ST false (keys (c ++ [])) w W d6 (d0 ++ f1) ∧ E 0 = a ∧ E 1 = (.int .i64 Q) ∧ E 2 = x ∧ E 6 = (.int .i64 20) ∧ E 7 = (.int .i64 d5) ∧ E 8 = (.int .i64 P) ∧ kD 113 jt 5 d6 a d4 d0 ∧ lO Q f2 m d4 d5 P = some r) jY ⟨a0, c, 0, 20, μ0, _, (kd.refl _), Lo.refl, (b.ju St), rfl, rfl, rfl, rfl, rfl, rfl, k4, hm⟩ ?_))))))))))
 rintro m E W ⟨d4, d0, d5, P, d6, f1, z, l, b, b4, b5, b6, d7, f4, b7, h1, i⟩
 cases m with
 | zero => rw [lO] at i; cases i
 | succ k5 =>
  refine jK (sg (Wh b7 (Wh b5 (Wi rfl (ln (CI i rfl (fun i4 i => ?_) (fun i4 i => ?_)))))))
  ·refine kn (bg (Wh b4 (Wh f4 (Wh b7 (Wh b6 (bS i fun k6 i7 i => ?_))))))
   refine VE (eD b (Cr Qz Cn) call467 (fun A => (rD a d4 d0 d5 P x f2 _ _ A h1 (c7.mono z) i7)) ?_)
   rintro _ m4 k8 l8 b g0 F ⟨k1, c8, rfl, j0⟩
   obtain rfl := c8.symm
   replace b := b.perm (Tr Tn)
   refine lr (Wh b7 (Wa (ln (jI (Wh b7 (Wh d7 (Wi rfl (Wa (jW (ko ?_))))))))))
   exact jF ⟨k5, bE _, k6, k1, P, (IntKind.i64.wrap (P + 20)), k8, _, (z.trans g0), (l.trans F), (b.ju St), b4, b5, b6, d7, rfl, rfl, j0, i⟩
  refine mZ (mS (mS (qx (jF (sg (Wh b4 (Wh f4 (Wh b5 (Wh b6 (bS i fun k7 i8 i => ?_))))))))))
  refine VE (eD b (Cr Qz Cn) call467 (fun A => (rD a d4 d0 d5 Q x f2 _ _ A h1 (c7.mono z) i8)) ?_)
  rintro _ m5 R l9 b a5 L ⟨k2, c9, rfl, j3⟩
  obtain rfl := c9.symm
  replace b := b.perm (Tr Tn)
  refine ln (qb (CJ i (fun d8 E W => ∃ b2 a9 f3, kd R a9 ∧ Lo (keys (c ++ [])) w R a9 ∧ ST false (keys (c ++ [])) w W a9 (b2 ++ f3) ∧ kD 113 jt 5 a9 a d8 b2) (fun d8 i6 => ?_) ?_))
  ·refine ll (mU (fun m E W => ∃ a2 I j k e0, kd R k ∧ Lo (keys (c ++ [])) w R k ∧ ST false (keys (c ++ [])) w W k (I ++ e0) ∧ E 0 = a ∧ E 1 = (.int .i64 Q) ∧ E 2 = x ∧ E 6 = (.int .i64 j) ∧ kD 113 jt 5 k a a2 I ∧ lN Q f2 m a2 j = some d8) jY ⟨k7, k2, 20, R, _, (kd.refl _), Lo.refl, (b.ju St), b4, b5, b6, d7, j3, i6⟩ ?_)
   rintro m E W ⟨a2, I, j, k, e0, B, d, b, h6, e4, h7, b3, d1, t⟩
   cases m with
   | zero => rw [lN] at t; cases t
   | succ j6 =>
    refine jK (sg (Wh b3 (Wh e4 (Wi rfl (ln (CI t rfl (fun f7 t => ?_) (fun f7 t => ?_)))))))
    ·refine kn (bg (Wh b3 (Wi rfl (Wa (Wa (ln (jK (CJ t (fun a4 E W => ∃ J y e1, kd k y ∧ Lo (keys (c ++ [])) w k y ∧ ST false (keys (c ++ [])) w W y (J ++ e1) ∧ E 0 = a ∧ E 1 = (.int .i64 Q) ∧ E 2 = x ∧ E 6 = (.int .i64 j) ∧ E 7 = (.int .i64 a4.2) ∧ kD 113 jt 5 y a a4.1 J) (fun a4 g4 => ?_) ?_))))))))
     ·refine ll (mU (fun m E W => ∃ a3 K M D H e3, kd k H ∧ Lo (keys (c ++ [])) w k H ∧ ST false (keys (c ++ [])) w W H (K ++ e3) ∧ E 0 = a ∧ E 1 = (.int .i64 Q) ∧ E 2 = x ∧ E 6 = (.int .i64 j) ∧ E 7 = (.int .i64 M) ∧ E 8 = (.int .i64 D) ∧ kD 113 jt 5 H a a3 K ∧ mn Q j f2 m a3 M D = some a4) jY ⟨a2, I, 0, (IntKind.i64.wrap (2 * j)), k, _, (kd.refl _), Lo.refl, (b.ju St), h6, e4, h7, b3, rfl, rfl, d1, g4⟩ ?_)
      rintro m E W ⟨a3, K, M, D, H, e3, N, h, b, c2, c3, c4, Y, c5, Z, d3, g⟩
      cases m with
      | zero => rw [mn] at g; cases g
      | succ j7 =>
       refine jK (sg (Wh Z (Wh c3 (Wi rfl (ln (CI g rfl (fun f9 g => ?_) (fun f9 g => ?_)))))))
       ·refine kn (bg (Wh c2 (Wh c5 (Wh c5 (Wh Y (Wi rfl (Wh Z (Wh c4 (bS g fun j8 g8 g => ?_)))))))))
        refine VE (eD b (Cr Qz Cn) call468 (fun A => ((pY jY) a a3 K M (IntKind.i64.wrap (M + j)) D x f2 _ _ A d3 (c7.mono (((z.trans a5).trans B).trans N)) g8)) ?_)
        rintro _ l6 k0 l1 b f0 s ⟨h5, a7, rfl, h3⟩
        obtain rfl := a7.symm
        replace b := b.perm (Tr Tn)
        refine lr (Wh Z (Wa (ln (jI (Wh Z (Wh Y (Wi rfl (Wi rfl (Wa (jW ?_))))))))))
        exact ko (jF ⟨j7, bE _, j8, h5, D, (IntKind.i64.wrap (D + (IntKind.i64.wrap (2 * j)))), k0, _, (N.trans f0), (h.trans s), (b.ju St), c2, c3, c4, Y, rfl, rfl, h3, g⟩)
       refine mZ (mS (mS (qx (jF ?_))))
       obtain rfl := sj g
       exact ⟨K, H, _, N, h, (b.ju St), c2, c3, c4, Y, c5, d3⟩
     rintro ⟨j4, e7⟩ E W ⟨J, y, e1, b0, n, b, b9, U, c0, c1, e5, d2⟩ g2
     refine jK (CJ g2 (fun e6 E W => ∃ T G e2, kd y G ∧ Lo (keys (c ++ [])) w y G ∧ ST false (keys (c ++ [])) w W G (T ++ e2) ∧ E 0 = a ∧ E 1 = (.int .i64 Q) ∧ E 2 = x ∧ E 6 = (.int .i64 j) ∧ kD 113 jt 5 G a e6 T) (fun e6 u => ?_) ?_)
     ·refine sg (Wh e5 (Wh c1 (Wi rfl (Wa (lr (Wm (Wh U (Wi rfl (ln ?_)))))))))
      refine CI u rfl (fun f8 u => ?_) (fun f8 u => ?_)
      ·refine jI (Wh b9 (Wh e5 (Wm (Wh U (Wh c0 (bS u fun l4 g7 u => ?_))))))
       refine VE (eD b (Cr Qz Cn) call468 (fun A => ((pY jY) a j4 J e7 (IntKind.i64.wrap (e7 + j)) Q x f2 _ _ A d2 (c7.mono (((z.trans a5).trans B).trans b0)) g7)) ?_)
       rintro _ l5 j9 l0 b e9 q ⟨h4, a6, rfl, h2⟩
       obtain rfl := a6.symm
       replace b := b.perm (Tr Tn)
       refine ln ?_
       obtain rfl := sj u
       exact ⟨h4, j9, _, e9, q, (b.ju St), b9, U, c0, c1, h2⟩
      refine kn ?_
      obtain rfl := sj u
      exact ⟨J, y, _, (kd.refl _), Lo.refl, (b.ju St), b9, U, c0, c1, d2⟩
     rintro j5 E W ⟨T, G, e2, e8, p, b, h8, h9, i0, i1, g9⟩ g3
     exact jI (Wh i1 (Wi rfl (Wa (jW (ko (jF ⟨j6, bE _, j5, T, (IntKind.i64.wrap (j * 2)), G, _, ((B.trans b0).trans e8), ((d.trans n).trans p), (b.ju St), h8, h9, i0, rfl, g9, g3⟩))))))
    refine mZ (mS (mS (qx (jF ?_))))
    obtain rfl := sj t
    exact ⟨I, k, _, B, d, (b.ju St), d1⟩
  rintro m3 E W ⟨b2, a9, f3, g1, O, b, i9⟩ i5
  refine qh ?_
  obtain rfl := sj i5
  exact oL rfl ⟨_, _, _, rfl, (b.lM (Kr Sn)), ((z.trans a5).trans g1), ((l.trans L).trans O), (ST.kA b (ma.mem (Kr Sn))), b2, rfl, rfl, i9⟩
theorem yf (c : Value) (k : List Formula) (a : LO) (i : Value) (u : (Formula × Formula) → Option Int) (r : List Formula) (w : World) {t : kl} (J : nB t (a ++ []) w) (j : kD 113 jt 5 t c k a) (x : xy Tryz.prog i t (vg jt jt) (fun (r : Int) => (.int .i64 r)) u) (hm : oC k u = some r) :
  lB false Tryz.prog 457 [c, i] w t (a ++ []) (fun v I K => ∃ B, v = (.tuple #[]) ∧ I = (B ++ []) ∧ kD 113 jt 5 K c r B) := by
 refine tE J 9 func457 rfl (fun b => jI (Wm (Wm (V (rL aD rfl j) (Wm (bS hm fun Q H hm => ?_))))))
 refine VE (eD b (Cr Qz Cn) call464 (fun h => (yu c k a (k.length : Int) i u _ _ h j (x.mono (kd.refl _)) H)) ?_)
 rintro _ T U M b y d ⟨D, g, rfl, z⟩
 obtain rfl := g.symm
 replace b := b.perm (Tr Tn)
 refine jW (qh ?_)
 obtain rfl := sj hm
 exact oL rfl ⟨_, _, _, rfl, (b.lM (Kr Sn)), y, d, (ST.kA b (ma.mem (Kr Sn))), D, rfl, rfl, z⟩
theorem CM (A : (List Int) → Formula → Option (List Int)) (f2 : ∀ (a : Nat) (k : Value) (B : List Int) (g : LO) (j : Formula) (u : Value) (r : List Int) (w : World) {μ0 : kl} (h0 : nB μ0 ((a, Ob #[k] 92) :: (g ++ [])) w) (T : jT 5 (lu .u8) 1 k B g) (t : Sl jt 5 μ0 u j.Kids), A B j = some r → lF false Tryz.prog 471 [(.pointer (some ⟨a, 0, none⟩)), (.agg #[(.int .i64 j.Op), (.int .i64 j.K), (.string j.jq.js), (.string j.jq.jy), u])] w ((a, Ob #[k] 92) :: (g ++ [])) (fun v L1 W' => ∃ m S2, v = (.tuple #[]) ∧ L1 = ((a, Ob #[m] 92) :: (S2 ++ [])) ∧ jT 5 (lu .u8) 1 m r S2)) (a : Nat) (k : Value) (B : List Int) (g : LO) (j : Formula) (u : Value) (r : List Int) (w : World) {μ0 : kl} (h0 : nB μ0 ((a, Ob #[k] 92) :: (g ++ [])) w) (T : jT 5 (lu .u8) 1 k B g) (t : Sl jt 5 μ0 u j.Kids) (hm : ve A B j = some r) :
  lF false Tryz.prog 471 [(.pointer (some ⟨a, 0, none⟩)), (.agg #[(.int .i64 j.Op), (.int .i64 j.K), (.string j.jq.js), (.string j.jq.jy), u])] w ((a, Ob #[k] 92) :: (g ++ [])) (fun v L1 W' => ∃ m S2, v = (.tuple #[]) ∧ L1 = ((a, Ob #[m] 92) :: (S2 ++ [])) ∧ jT 5 (lu .u8) 1 m r S2) := by
 let b0 := ((a, Ob #[k] 92) :: (g ++ []))
 refine AS h0 40 func471 rfl (fun b => sg ?_)
 obtain ⟨A1, c2, rfl⟩ := t.form
 refine VE (km b rfl (fun W4 b3 b => lr (Wm (Wf mN (VB b Mh rfl rfl cC (bS hm fun r5 g8 hm => ?_))))))
 refine VE (eM b (Cb (Pb Pz) (Cr (Qb Qz) Cn)) call268 (fun l _ => lF.li (rb a k B g j.Op _ _ l T g8)) ?_)
 rintro _ j8 n j0 b e9 ad d ⟨F, a9, a2, rfl, a5⟩
 obtain rfl := a2.symm
 replace b := b.perm (Tb (Tr Tn))
 refine lS (Wf mN (VB b (Mt (Ma Mh)) rfl rfl cC (Wi rfl (ln (CI hm rfl (fun e8 hm => ?_) (fun e8 hm => ?_))))))
 ·refine sg (Wm (Wf rB (VA b (Mt (Ma Mh)) (jA j.jq) bG aQ (bS hm fun j7 f0 hm => ?_))))
  refine VE (eM b (Cb Pz (Cr Qz Cn)) call269 (fun l _ => lF.li (uG a F r5.2 a9 j.jq _ _ l a5 f0)) ?_)
  rintro _ j9 k1 j3 b h6 ae d ⟨h3, g2, a3, rfl, f4⟩
  obtain rfl := a3.symm
  replace b := b.perm (Tb (Tr Tn))
  refine ln ?_
  replace b := b.ju (Kb (Kr (Db St)))
  refine jU (kj ?_)
  obtain rfl := sj hm
  exact oL rfl ⟨_, _, rfl, (b.lM (Kb (Kr Sn))), h3, g2, rfl, rfl, f4⟩
 refine kn (jK (CJ hm (fun b5 E W => ∃ q p L d6, kd n L ∧ ST false (keys b0) w W L ((a, Ob #[q] 92) :: ((b3, Ol (C1 j.Op j.K j.jq.js j.jq.jy A1 j.Kids.length c2) 113) :: (p ++ d6))) ∧ E 0 = (.pointer (some ⟨a, 0, none⟩)) ∧ E 3 = (.pointer (some ⟨b3, 0, none⟩)) ∧ jT 5 (lu .u8) 1 q b5 p) (fun b5 y => ?_) ?_))
 ·refine sg (Wf mN (VB b (Mt (Ma Mh)) rfl rfl cC (Wi rfl (ln (CI y rfl (fun c4 y => ?_) (fun c4 y => ?_))))))
  ·refine jI (Wm (Wf pA (VB b (Mt (Ma Mh)) rfl rfl cC (bS y fun i6 d0 y => ?_))))
   refine VE (eM b (Cb Pz (Cr Qz Cn)) call268 (fun l _ => lF.li (rb a F r5.2 a9 j.K _ _ l a5 d0)) ?_)
   rintro _ i9 g1 h9 b b2 aa d ⟨f9, e3, N, rfl, d5⟩
   obtain rfl := N.symm
   replace b := b.perm (Tb (Tr Tn))
   refine ln ?_
   obtain rfl := sj y
   exact ⟨f9, e3, g1, _, b2, (b.ju (Kb (Sb (Pr Pz) St))), rfl, rfl, d5⟩
  refine kn ?_
  obtain rfl := sj y
  exact ⟨F, a9, n, _, (kd.refl _), (b.ju (Kb (Sb (Pr Pz) St))), rfl, rfl, a5⟩
 rintro g9 E W ⟨q, p, L, d6, c6, b, d7, d8, f3⟩ a0
 refine sg (Wh d7 (V (jC mO d8) (VB b (Mt Mh) rfl rfl dB (V (kK aD rfl t) (bS a0 fun h2 f1 a0 => ?_)))))
 refine VE (eM b (Cb Pz (Cr (Qb Qz) Cn)) call268 (fun l _ => lF.li (rb a q g9 p (j.Kids.length : Int) _ _ l f3 f1)) ?_)
 rintro _ k0 d9 j4 b c7 af d ⟨h4, g3, a4, rfl, f5⟩
 obtain rfl := a4.symm
 replace b := b.perm (Tb (Tr Tn))
 refine lr (V (jC mO d8) (VB b (Mt (Ma Mh)) rfl rfl dB (V (kK aD rfl t) (Wm (ln ?_)))))
 replace b := b.ju (Kb (Kr (Db St)))
 refine qb (kB (fun i E W => ∃ D H z Q U, (E 32 = .int .i64 (i : Nat) ∧ E 31 = .int .i64 (j.Kids.length : Nat)) ∧ kd d9 Q ∧ ST false (keys b0) w W Q ((a, Ob #[D] 92) :: (z ++ U)) ∧ E 0 = (.pointer (some ⟨a, 0, none⟩)) ∧ E 30 = (.slice A1 j.Kids.length c2) ∧ jT 5 (lu .u8) 1 D H z ∧ qe A (j.Kids.drop i) H = some r) j.Kids.length t.len ⟨h4, h2.2, g3, d9, _, ⟨rfl, rfl⟩, (kd.refl _), (b.ju St), d7, rfl, f5, a0⟩ dc dc dc (fun _ _ _ h => by obtain ⟨_, _, _, _, _, P, _⟩ := h; exact P) ?_ ?_)
 ·rintro f6 E W c5 ⟨D, H, z, Q, U, ⟨O, eN⟩, G, b, Y, Z, K, x⟩
  obtain ⟨c, h7, d2, d1, d3⟩ := kq c5
  rw [d2] at x
  refine bg (VQ (lK (i := (f6 : Int)) (x0 := c) jt.out aD aB Z O (t.mono jB.mono (((e9.trans c6).trans c7).trans G)) (aH _) d1) (fun i5 ⟨_, ⟨i7, rfl, a7⟩, c8⟩ => V (jw rfl (jR b.has c8 aG aB)) (VE (kf b aM (fun i0 i4 b => ?_)))))
  obtain ⟨I, J, rfl⟩ := a7.form
  let s := (C1 c.Op c.K c.jq.js c.jq.jy I c.Kids.length J)
  refine VO (jL (.agg s.toArray) (s.toArray) b rfl rfl aB oc nb rfl (fun i1 b => ln (jI (Wh Y (VA b Mh s aG aB (bS x fun f7 c9 x => ?_))))))
  refine VE (eM b (Cb (Pb Pz) (Cr (Qb Qz) Cn)) call471 (fun l ab => (f2 a D H z c (.slice I c.Kids.length J) _ _ l K (a7.mono jB.mono ab) c9)) ?_)
  rintro _ i8 g0 h8 b b1 R d ⟨f8, e2, M, rfl, d4⟩
  obtain rfl := M.symm
  replace b := b.perm (Tb (Tr Tn))
  refine jW (ko (jF ?_))
  replace b := b.ju (Kb (Kr (Db St)))
  exact ⟨O, f8, f7, e2, g0, _, ⟨rfl, eN⟩, (G.trans b1), (b.ju St), Y, Z, d4, (by rw [d3]; exact x)⟩
 rintro E W ⟨D, H, z, Q, U, ⟨O, eN⟩, G, b, Y, Z, K, x⟩
 rw [aN] at x
 refine jF (qh ?_)
 obtain rfl := sj x
 exact oL rfl ⟨_, _, rfl, (b.lM (Kb (Kr Sn))), D, z, rfl, rfl, K⟩
end Go.Proofs.YtmlncblocfcmiaaGreat
