/- a part of a proof of LeastNeeds -/
import Derived.Test.YtklbhegeiijbjaaGreatN3Mm
import Derived.Test.YtklbhegeiijbjaaGreatProg
set_option linter.all false
namespace Go.Proofs.YtklbhegeiijbjaaGreat
open Go.RowKit
set_option maxRecDepth 10000
open Tryz
def aC := @sizeOf58
def aD := @underlying56
def aK := @isAgg58
def aO := @sizeOf52
def aP := @zeroValue58
def aR := @sizeOf50
def aS := @underlying28
def bH := @underlying58
def bI := @isAgg50
def bK := @underlying22
def bW := @isAgg9
def bX := @isAgg52
def cA := @isAgg3
def cD := @underlying9
def cF := @sizeOf93
def cR := @sizeOf60
def cU := @underlying187
def cV := @underlying53
def cW := @zeroValue52
def cX := @underlying23
def dA := @isAgg93
def dC := @sizeOf25
def dK := @underlying261
def dQ := @underlying50
def dR := @sizeOf111
def dW := @underlying100
def dX := @sizeOf87
def eA := @isAgg56
def eC := @isAgg25
def eG := @zeroValue60
def eJ := @underlying25
def eL := @eqGuardType50
def eQ := @underlying52
def eS := @underlying93
def eT := @underlying3
def eX := @isAgg22
def fA := @zeroValue93
def fD := @underlying34
def fF := @zeroValue50
def fK := @eqGuardType52
def fP := @sizeOf3
def fQ := @underlying91
def fR := @zeroValue111
def fS := @underlying111
def fT := @underlying189
def fU := @underlying184
def gJ := @sizeOf9
def gK := @underlying5
def gL := @underlying232
def gQ := @zeroValue91
def gT := @zeroValue190
def gY := @underlying162
def gZ := @underlying190
def iI := @zeroValue87
def iM := @underlying60
def iQ := @underlying239
def iR := @underlying237
def iX := @isAgg60
def jk := @isAgg111
def jl := @sizeOf91
def jz := @isAgg184
def jK := @underlying55
def jU := @isAgg87
def jV := @zeroValue25
def jZ := @underlying249
def kc := @underlying332
def kh := @sizeOf55
def kk := @zeroValue4
def kl := @isAgg23
def km := @isAgg53
def ko := @zeroValue5
def kp := @underlying45
def kx := @sizeOf53
def ky := @zeroValue55
def kz := @zeroValue28
def kB := @call153
def kC := @isAgg28
abbrev K0 : kD := ⟨zS, zS⟩
abbrev K1 : ByteArray := ⟨#[120]⟩
abbrev K2 : ByteArray := ⟨#[121]⟩
abbrev K3 : ByteArray := ⟨#[99, 108, 105]⟩
abbrev K4 : ByteArray := ⟨#[111, 119, 110]⟩
abbrev K5 : ByteArray := ⟨#[122]⟩
abbrev K6 : mh := ⟨0⟩
abbrev K7 : kD := ⟨K1, K2⟩
abbrev K9 : kF := ⟨0, K0, zS, K0, K0, zS⟩
abbrev RP : Formula := ⟨0, 0, K0, []⟩
abbrev Du : kF := ⟨1, K7, K3, K0, K0, zS⟩
abbrev C1 (y : ByteArray) (z : Option Addr) (A D : Nat) (E : Option Addr) (F G : Nat) (I : ByteArray) (J : Option Addr) (L a : Nat) (b : Option Addr) (d g : Nat) (h i : Int) (j k : ByteArray) (l : Option Addr) (m n : Nat) (p q r s t u : Int) (v : Option Addr) (w x : Nat) : List Value := [(.string y), (.slice z A D), (.slice E F G), (.string I), (.slice J L a), (.slice b d g), (.int .i64 h), (.int .i64 i), (.string j), (.string k), (.slice l m n), (.int .i64 p), (.int .i64 q), (.int .i64 r), (.int .i64 s), (.int .i64 t), (.int .i64 u), (.slice v w x)]
abbrev C2 (a b : Int) (d g : ByteArray) (h : Option Addr) (i j : Nat) : List Value := [(.int .i64 a), (.int .i64 b), (.string d), (.string g), (.slice h i j)]
abbrev C3 (m : Int) (n p q r s t u v : ByteArray) (w : Option Addr) (a b : Nat) (d g : Int) (h i : ByteArray) (j : Option Addr) (k l : Nat) : List Value := [(.int .i64 m), (.string n), (.string p), (.string q), (.string r), (.string s), (.string t), (.string u), (.string v), (.slice w a b), (.int .i64 d), (.int .i64 g), (.string h), (.string i), (.slice j k l)]
abbrev C4 (a : ByteArray) (b : Option Addr) (d g : Nat) (h : Option Addr) (i j : Nat) : List Value := [(.string a), (.slice b d g), (.slice h i j)]
abbrev C5 : List Value := [(.int .i64 0), (.int .i64 0), (.string zS), (.string zS), (.slice none 0 0)]
abbrev C6 : List Value := [(.string zS), (.slice none 0 0), (.slice none 0 0), (.string zS), (.slice none 0 0), (.slice none 0 0), (.int .i64 0), (.int .i64 0), (.string zS), (.string zS), (.slice none 0 0), (.int .i64 0), (.int .i64 0), (.int .i64 0), (.int .i64 0), (.int .i64 0), (.int .i64 0), (.slice none 0 0)]
abbrev C7 (d g : ByteArray) (h i : Int) (j k : ByteArray) (l : Option Addr) (m n : Nat) (p : Option Addr) (a b : Nat) : List Value := [(.string d), (.string g), (.int .i64 h), (.int .i64 i), (.string j), (.string k), (.slice l m n), (.slice p a b)]
abbrev C8 (d : Int) (g h i j k l m n : ByteArray) (p : Option Addr) (a b : Nat) : List Value := [(.int .i64 d), (.string g), (.string h), (.string i), (.string j), (.string k), (.string l), (.string m), (.string n), (.slice p a b)]
abbrev C9 : List Value := [(.int .i64 0), (.string (K0.kE)), (.string (K0.kL)), (.string zS), (.string (K0.kE)), (.string (K0.kL)), (.string (K0.kE)), (.string (K0.kL)), (.string zS), (.slice none 0 0), (.int .i64 0), (.int .i64 0), (.string zS), (.string zS), (.slice none 0 0)]
abbrev Ql (a : Nat) : List Value := [(.string K4), (.slice none 0 0), (.slice none 0 0), (.string K3), (.slice (some ⟨a, 0, none⟩) 2 2), (.slice none 0 0), (.int .i64 1), (.int .i64 0), (.string (K7.kE)), (.string (K7.kL)), (.slice none 0 0), (.int .i64 0), (.int .i64 0), (.int .i64 0), (.int .i64 0), (.int .i64 0), (.int .i64 0), (.slice none 0 0)]
abbrev Ut (d : Int) (g h i j k l m n : ByteArray) (p : Option Addr) (a b : Nat) : List Value := [(.int .i64 d), (.string g), (.string h), (.string i), (.string j), (.string k), (.string l), (.string m), (.string n), (.slice p a b), (.int .i64 2), (.int .i64 0), (.string zS), (.string zS), (.slice none 0 0)]
abbrev Hm (a : Int) : List Value := [(.int .i64 a), (.int .i64 0), (.string zS), (.string zS), (.slice none 0 0)]
abbrev EG : List Value := [(.int .i64 2), (.int .i64 0), (.string zS), (.string zS), (.slice none 0 0)]
abbrev TE (a : Int) (b : Option Addr) (d g : Nat) : List Value := [(.int .i64 a), (.int .i64 0), (.string zS), (.string zS), (.slice b d g)]
abbrev TF (a : Int) (b : Option Addr) (d g : Nat) : List Value := [(.int .i64 4), (.int .i64 a), (.string zS), (.string zS), (.slice b d g)]
abbrev Ga : List Value := [(.int .i64 3), (.int .i64 0), (.string zS), (.string zS), (.slice none 0 0)]
abbrev P0 (a : Nat) : List Value := [(.string K3), (.slice (some ⟨a, 0, none⟩) 2 2), (.slice none 0 0)]
abbrev Up : List Value := [(.int .i64 1), (.int .i64 0), (.string (K7.kE)), (.string (K7.kL)), (.slice none 0 0)]
abbrev UD : List Value := [(.string K4), (.slice none 0 0), (.slice none 0 0)]
theorem lN : Tryz.prog.follows .mixedOrders = true := by rfl
theorem Ta : Tryz.prog.info? 3 = some Tryz.t3 ∧ Tryz.t3.zero = some (.int .i64 0) ∧ Tryz.t3.size = 1 ∧ Tryz.t3.bytes = 8 := ⟨by kernel_rfl, by kernel_rfl, by kernel_rfl, by kernel_rfl⟩
theorem tQ : Tryz.prog.info? 5 = some Tryz.t5 ∧ Tryz.t5.zero = some (.int .u8 0) ∧ Tryz.t5.size = 1 ∧ Tryz.t5.bytes = 1 := ⟨by kernel_rfl, by kernel_rfl, by kernel_rfl, by kernel_rfl⟩
theorem CK : Tryz.prog.info? 9 = some Tryz.t9 ∧ Tryz.t9.zero = some (.string ⟨#[]⟩) ∧ Tryz.t9.size = 1 ∧ Tryz.t9.bytes = 16 := ⟨by kernel_rfl, by kernel_rfl, by kernel_rfl, by kernel_rfl⟩
theorem wI : Tryz.prog.info? 50 = some Tryz.t50 ∧ Tryz.t50.zero = some (.agg #[(.string ⟨#[]⟩), (.string ⟨#[]⟩)]) ∧ Tryz.t50.size = 2 ∧ Tryz.t50.bytes = 32 := ⟨by kernel_rfl, by kernel_rfl, by kernel_rfl, by kernel_rfl⟩
theorem pc : Tryz.prog.info? 52 = some Tryz.t52 ∧ Tryz.t52.zero = some (.agg #[(.int .i64 0), (.string ⟨#[]⟩), (.string ⟨#[]⟩), (.string ⟨#[]⟩), (.string ⟨#[]⟩), (.string ⟨#[]⟩), (.string ⟨#[]⟩), (.string ⟨#[]⟩), (.string ⟨#[]⟩)]) ∧ Tryz.t52.size = 9 ∧ Tryz.t52.bytes = 136 := ⟨by kernel_rfl, by kernel_rfl, by kernel_rfl, by kernel_rfl⟩
theorem na : Tryz.prog.info? 58 = some Tryz.t58 ∧ Tryz.t58.zero = some (.agg #[(.int .i64 0), (.int .i64 0), (.string ⟨#[]⟩), (.string ⟨#[]⟩), (.slice none 0 0)]) ∧ Tryz.t58.size = 5 ∧ Tryz.t58.bytes = 72 := ⟨by kernel_rfl, by kernel_rfl, by kernel_rfl, by kernel_rfl⟩
theorem yH : Tryz.prog.info? 60 = some Tryz.t60 ∧ Tryz.t60.zero = some (.agg #[(.int .i64 0), (.string ⟨#[]⟩), (.string ⟨#[]⟩), (.string ⟨#[]⟩), (.string ⟨#[]⟩), (.string ⟨#[]⟩), (.string ⟨#[]⟩), (.string ⟨#[]⟩), (.string ⟨#[]⟩), (.slice none 0 0), (.int .i64 0), (.int .i64 0), (.string ⟨#[]⟩), (.string ⟨#[]⟩), (.slice none 0 0)]) ∧ Tryz.t60.size = 15 ∧ Tryz.t60.bytes = 232 := ⟨by kernel_rfl, by kernel_rfl, by kernel_rfl, by kernel_rfl⟩
theorem Hl : Tryz.prog.info? 87 = some Tryz.t87 ∧ Tryz.t87.zero = some (.agg #[(.string ⟨#[]⟩), (.string ⟨#[]⟩), (.int .i64 0), (.int .i64 0), (.string ⟨#[]⟩), (.string ⟨#[]⟩), (.slice none 0 0), (.slice none 0 0)]) ∧ Tryz.t87.size = 8 ∧ Tryz.t87.bytes = 128 := ⟨by kernel_rfl, by kernel_rfl, by kernel_rfl, by kernel_rfl⟩
theorem ui : Tryz.prog.info? 91 = some Tryz.t91 ∧ Tryz.t91.zero = some (.agg #[(.int .i64 0), (.int .i64 0)]) ∧ Tryz.t91.size = 2 ∧ Tryz.t91.bytes = 16 := ⟨by kernel_rfl, by kernel_rfl, by kernel_rfl, by kernel_rfl⟩
theorem vn : Tryz.prog.info? 111 = some Tryz.t111 ∧ Tryz.t111.zero = some (.agg #[(.string ⟨#[]⟩), (.string ⟨#[]⟩), (.string ⟨#[]⟩)]) ∧ Tryz.t111.size = 3 ∧ Tryz.t111.bytes = 48 := ⟨by kernel_rfl, by kernel_rfl, by kernel_rfl, by kernel_rfl⟩
theorem qi : nl Tryz.prog 50 0 0 := my dQ rfl gJ (by decide) rfl
theorem uN : nl Tryz.prog 50 1 1 := my dQ rfl gJ (by decide) rfl
theorem PE : (Tryz.prog.fieldsOf 50).toList = (match Tryz.prog.underlying 50 with | some (.struct fs) => fs.toList | _ => []) := by rw [dQ]; simp [Program.fieldsOf, dQ]
theorem qf (d : Nat) (x y : kD) (W : World) : (Op.equalIn (d + 2) 50 (.agg (kR x).toArray) (.agg (kR y).toArray)).run Tryz.prog W = .ok (lx x y) W := by
 rw [run_equalIn_struct W (d + 1) 50 _ _ (by kernel_rfl) Tryz.stoodInHeld50, PE, dQ]
 exact (sw (by decide) (qO bW rfl) (qO bW rfl) (P8 cD _ _ _ _) (sw (by decide) (qO bW rfl) (qO bW rfl) (P8 cD _ _ _ _) (ER _ _ _)))
theorem J6 : ∀ fs, Tryz.prog.underlying 50 = some (.struct fs) → ∀ w, (fs.mapM (fun (f : Field) => do pure (f.offset, ← sizeOf f.type)) : Sem (Array (Nat × Nat))).run Tryz.prog w = .ok #[(0, 1), (1, 1)] w := by
 intro fs h w
 rw [dQ] at h
 cases h
 kernel_rfl
theorem rI : nl Tryz.prog 52 0 0 := my eQ rfl fP (by decide) rfl
theorem rJ : nl Tryz.prog 52 1 1 := my eQ rfl aR (by decide) rfl
theorem xH : nl Tryz.prog 52 2 3 := my eQ rfl gJ (by decide) rfl
theorem oP : nl Tryz.prog 52 3 4 := my eQ rfl aR (by decide) rfl
theorem tD : nl Tryz.prog 52 4 6 := my eQ rfl aR (by decide) rfl
theorem vA : nl Tryz.prog 52 5 8 := my eQ rfl gJ (by decide) rfl
theorem PN : (Tryz.prog.fieldsOf 52).toList = (match Tryz.prog.underlying 52 with | some (.struct fs) => fs.toList | _ => []) := by rw [eQ]; simp [Program.fieldsOf, eQ]
theorem vN (d : Nat) (x y : kF) (W : World) : (Op.equalIn (d + 3) 52 (.agg (kK x).toArray) (.agg (kK y).toArray)).run Tryz.prog W = .ok (ng x y) W := by
 rw [run_equalIn_struct W (d + 2) 52 _ _ (by kernel_rfl) Tryz.stoodInHeld52, PN, eQ]
 exact (sw (by decide) (qO cA rfl) (qO cA rfl) (Sd eT _ _ _ _) (sw (by decide) (Ap bI aR rfl) (Ap bI aR rfl) (qf _ x.Head y.Head W) (sw (by decide) (qO bW rfl) (qO bW rfl) (P8 cD _ _ _ _) (sw (by decide) (Ap bI aR rfl) (Ap bI aR rfl) (qf _ x.B y.B W) (sw (by decide) (Ap bI aR rfl) (Ap bI aR rfl) (qf _ x.C y.C W) (sw (by decide) (qO bW rfl) (qO bW rfl) (P8 cD _ _ _ _) (ER _ _ _)))))))
theorem SG : ∀ fs, Tryz.prog.underlying 52 = some (.struct fs) → ∀ w, (fs.mapM (fun (f : Field) => do pure (f.offset, ← sizeOf f.type)) : Sem (Array (Nat × Nat))).run Tryz.prog w = .ok #[(0, 1), (1, 2), (3, 1), (4, 2), (6, 2), (8, 1)] w := by
 intro fs h w
 rw [eQ] at h
 cases h
 kernel_rfl
theorem QG : Tryz.prog.cellsOf 3 = 1 := by kernel_rfl
theorem Gh (d : Nat) (x y : mj) (W : World) : (Op.equalIn (d + 2) 91 (.agg (mE x).toArray) (.agg (mE y).toArray)).run Tryz.prog W = .ok (xU x y) W :=
 MC fQ Ta.1 QG (Fh (qO cA rfl) (qO cA rfl) (Sd eT _ _ _ _) (Fh (qO cA rfl) (qO cA rfl) (Sd eT _ _ _ _) (Ln _ _ _ _ _)))
theorem yk : nl Tryz.prog 111 0 0 := my fS rfl aR (by decide) rfl
theorem xc : nl Tryz.prog 111 1 2 := my fS rfl gJ (by decide) rfl
theorem Nn : ∀ fs, Tryz.prog.underlying 111 = some (.struct fs) → ∀ w, (fs.mapM (fun (f : Field) => do pure (f.offset, ← sizeOf f.type)) : Sem (Array (Nat × Nat))).run Tryz.prog w = .ok #[(0, 2), (2, 1)] w := by
 intro fs h w
 rw [fS] at h
 cases h
 kernel_rfl
theorem LD : nl Tryz.prog 249 0 0 := my jZ rfl sizeOf40 (by decide) rfl
theorem SS : ∀ fs, Tryz.prog.underlying 249 = some (.struct fs) → ∀ w, (fs.mapM (fun (f : Field) => do pure (f.offset, ← sizeOf f.type)) : Sem (Array (Nat × Nat))).run Tryz.prog w = .ok #[(0, 1)] w := by
 intro fs h w
 rw [jZ] at h
 cases h
 kernel_rfl
theorem Iw : nl Tryz.prog 332 0 0 := my kc rfl sizeOf4 (by decide) rfl
theorem SU : ∀ fs, Tryz.prog.underlying 332 = some (.struct fs) → ∀ w, (fs.mapM (fun (f : Field) => do pure (f.offset, ← sizeOf f.type)) : Sem (Array (Nat × Nat))).run Tryz.prog w = .ok #[(0, 1)] w := by
 intro fs h w
 rw [kc] at h
 cases h
 kernel_rfl
theorem yB : nl Tryz.prog 55 0 0 := my jK rfl aO (by decide) rfl
theorem J9 : nl Tryz.prog 55 1 9 := my jK rfl kx (by decide) rfl
theorem TY : ∀ fs, Tryz.prog.underlying 55 = some (.struct fs) → ∀ w, (fs.mapM (fun (f : Field) => do pure (f.offset, ← sizeOf f.type)) : Sem (Array (Nat × Nat))).run Tryz.prog w = .ok #[(0, 9), (9, 1)] w := by
 intro fs h w
 rw [jK] at h
 cases h
 kernel_rfl
theorem oB : nl Tryz.prog 58 0 0 := my bH rfl fP (by decide) rfl
theorem sK : nl Tryz.prog 58 1 1 := my bH rfl fP (by decide) rfl
theorem uU : nl Tryz.prog 58 2 2 := my bH rfl aR (by decide) rfl
theorem oA : nl Tryz.prog 58 3 4 := my bH rfl sizeOf56 (by decide) rfl
theorem uM : ∀ fs, Tryz.prog.underlying 58 = some (.struct fs) → ∀ w, (fs.mapM (fun (f : Field) => do pure (f.offset, ← sizeOf f.type)) : Sem (Array (Nat × Nat))).run Tryz.prog w = .ok #[(0, 1), (1, 1), (2, 2), (4, 1)] w := by
 intro fs h w
 rw [bH] at h
 cases h
 kernel_rfl
theorem wP : nl Tryz.prog 60 0 0 := my iM rfl kh (by decide) rfl
theorem Fc : nl Tryz.prog 60 1 10 := my iM rfl aC (by decide) rfl
theorem R3 : ∀ fs, Tryz.prog.underlying 60 = some (.struct fs) → ∀ w, (fs.mapM (fun (f : Field) => do pure (f.offset, ← sizeOf f.type)) : Sem (Array (Nat × Nat))).run Tryz.prog w = .ok #[(0, 10), (10, 5)] w := by
 intro fs h w
 rw [iM] at h
 cases h
 kernel_rfl
theorem G7 : nl Tryz.prog 87 0 0 := my underlying87 rfl aR (by decide) rfl
theorem Ft : nl Tryz.prog 87 1 2 := my underlying87 rfl aC (by decide) rfl
theorem Fv : nl Tryz.prog 87 2 7 := my underlying87 rfl sizeOf28 (by decide) rfl
theorem zN : nl Tryz.prog 25 0 0 := my eJ rfl gJ (by decide) rfl
theorem oU : nl Tryz.prog 25 1 1 := my eJ rfl sizeOf22 (by decide) rfl
theorem AX : nl Tryz.prog 25 2 2 := my eJ rfl sizeOf23 (by decide) rfl
theorem KF : ∀ fs, Tryz.prog.underlying 25 = some (.struct fs) → ∀ w, (fs.mapM (fun (f : Field) => do pure (f.offset, ← sizeOf f.type)) : Sem (Array (Nat × Nat))).run Tryz.prog w = .ok #[(0, 1), (1, 1), (2, 1)] w := by
 intro fs h w
 rw [eJ] at h
 cases h
 kernel_rfl
theorem QO : nl Tryz.prog 118 0 0 := my underlying118 rfl gJ (by decide) rfl
theorem QV : nl Tryz.prog 118 1 1 := my underlying118 rfl kx (by decide) rfl
theorem xK : nl Tryz.prog 93 0 0 := my eS rfl dC (by decide) rfl
theorem vT : nl Tryz.prog 93 1 3 := my eS rfl dC (by decide) rfl
theorem Kt : nl Tryz.prog 93 2 6 := my eS rfl aC (by decide) rfl
theorem RB : nl Tryz.prog 93 8 17 := my eS rfl sizeOf37 (by decide) rfl
theorem MW : ∀ fs, Tryz.prog.underlying 93 = some (.struct fs) → ∀ w, (fs.mapM (fun (f : Field) => do pure (f.offset, ← sizeOf f.type)) : Sem (Array (Nat × Nat))).run Tryz.prog w = .ok #[(0, 3), (3, 3), (6, 5), (11, 1), (12, 2), (14, 1), (15, 1), (16, 1), (17, 1)] w := by
 intro fs h w
 rw [eS] at h
 cases h
 kernel_rfl
theorem xZ : nl Tryz.prog 189 0 0 := my fT rfl sizeOf184 (by decide) rfl
theorem Iy : nl Tryz.prog 189 1 1 := my fT rfl sizeOf28 (by decide) rfl
theorem LS : nl Tryz.prog 189 2 2 := my fT rfl sizeOf185 (by decide) rfl
theorem HX : nl Tryz.prog 189 3 3 := my fT rfl sizeOf186 (by decide) rfl
theorem BH : nl Tryz.prog 189 4 4 := my fT rfl sizeOf187 (by decide) rfl
theorem FD : nl Tryz.prog 189 5 5 := my fT rfl fP (by decide) rfl
theorem Tm : ∀ fs, Tryz.prog.underlying 189 = some (.struct fs) → ∀ w, (fs.mapM (fun (f : Field) => do pure (f.offset, ← sizeOf f.type)) : Sem (Array (Nat × Nat))).run Tryz.prog w = .ok #[(0, 1), (1, 1), (2, 1), (3, 1), (4, 1), (5, 1)] w := by
 intro fs h w
 rw [fT] at h
 cases h
 kernel_rfl
theorem Aj : nl Tryz.prog 239 0 0 := my iQ rfl kx (by decide) rfl
theorem P3 : ∀ fs, Tryz.prog.underlying 239 = some (.struct fs) → ∀ w, (fs.mapM (fun (f : Field) => do pure (f.offset, ← sizeOf f.type)) : Sem (Array (Nat × Nat))).run Tryz.prog w = .ok #[(0, 1)] w := by
 intro fs h w
 rw [iQ] at h
 cases h
 kernel_rfl
def uz : rA Signed := fun μ ys x => ∃ (v0 : Value), ys = [.int .i64 x.kF.Kind, .string x.kF.Head.kE, .string x.kF.Head.kL, .string x.kF.ma, .string x.kF.B.kE, .string x.kF.B.kL, .string x.kF.C.kE, .string x.kF.C.kL, .string x.kF.mc, v0] ∧ Sl (Pl (mM .u8)) 1 μ v0 x.Tag
theorem uz.out {μ : lQ} {ys : List Value} {x : Signed} (h : uz μ ys x) : ∃ (v0 : Value), ys = [.int .i64 x.kF.Kind, .string x.kF.Head.kE, .string x.kF.Head.kL, .string x.kF.ma, .string x.kF.B.kE, .string x.kF.B.kL, .string x.kF.C.kE, .string x.kF.C.kL, .string x.kF.mc, v0] ∧ Sl (Pl (mM .u8)) 1 μ v0 x.Tag := h
theorem uz.mk {μ : lQ} {ys : List Value} {x : Signed} (h : ∃ (v0 : Value), ys = [.int .i64 x.kF.Kind, .string x.kF.Head.kE, .string x.kF.Head.kL, .string x.kF.ma, .string x.kF.B.kE, .string x.kF.B.kL, .string x.kF.C.kE, .string x.kF.C.kL, .string x.kF.mc, v0] ∧ Sl (Pl (mM .u8)) 1 μ v0 x.Tag) : uz μ ys x := h
theorem BE : Deep uz 10 where
 mono := by rintro _ _ _ _ b ⟨v0, rfl, a⟩; exact ⟨v0, rfl, a.mono (Pl.mono _) b⟩
 len := by rintro _ _ _ ⟨v0, rfl, a⟩; rfl
 one := by
  rintro _ _ _ ⟨v0, rfl, a⟩
  intro u hu; simp only [aQ, dM, gV] at hu; rcases hu with rfl | rfl | rfl | rfl | rfl | rfl | rfl | rfl | rfl | rfl
  ·rfl
  ·rfl
  ·rfl
  ·rfl
  ·rfl
  ·rfl
  ·rfl
  ·rfl
  ·rfl
  ·exact a.Bv
def yG : Nat → rA Formula
 | 0 => fun _ _ _ => False
 | n + 1 => fun μ ys x => ∃ (v0 : Value), ys = [.int .i64 x.Op, .int .i64 x.K, .string x.kD.kE, .string x.kD.kL, v0] ∧ Sl (yG n) 5 μ v0 x.Kids
def kG : rA Formula := fun μ ys x => ∃ n, yG n μ ys x
theorem ED : ∀ n, Jw (yG n)
 | 0 => fun _ _ _ _ _ h => h
 | n + 1 => by rintro _ _ _ _ b ⟨v0, rfl, a⟩; exact ⟨v0, rfl, a.mono (ED n) b⟩
theorem Hg : ∀ n m (μ : lQ) (ys : List Value) (x : Formula), n ≤ m → yG n μ ys x → yG m μ ys x
 | 0, _, _, _, _, _, h => h.elim
 | n + 1, 0, _, _, _, a, _ => absurd a (by omega)
 | n + 1, m + 1, μ, ys, x, a, h => by
  obtain ⟨v0, rfl, b⟩ := h
  exact ⟨v0, rfl, b.imp fun ys x h => Hg n m μ ys x (by omega) h⟩
theorem kG.out {μ : lQ} {ys : List Value} {x : Formula} (h : kG μ ys x) : ∃ (v0 : Value), ys = [.int .i64 x.Op, .int .i64 x.K, .string x.kD.kE, .string x.kD.kL, v0] ∧ Sl kG 5 μ v0 x.Kids := by
 obtain ⟨n, h⟩ := h
 cases n with
 | zero => exact h.elim
 | succ n =>
  obtain ⟨v0, rfl, a⟩ := h
  exact ⟨v0, rfl, a.imp fun ys x h => ⟨n, h⟩⟩
theorem kG.mk {μ : lQ} {ys : List Value} {x : Formula} (h : ∃ (v0 : Value), ys = [.int .i64 x.Op, .int .i64 x.K, .string x.kD.kE, .string x.kD.kL, v0] ∧ Sl kG 5 μ v0 x.Kids) : kG μ ys x := by
 obtain ⟨v0, rfl, d⟩ := h
 obtain ⟨n, i⟩ := d.Tu (fun _ _ h => h) (fun a b ys x g h => Hg a b _ ys x g h)
 exact ⟨n + 1, v0, rfl, i⟩
theorem kN : Deep kG 5 where
 mono := fun _ _ _ _ b ⟨n, h⟩ => ⟨n, ED n _ _ _ _ b h⟩
 len := by rintro _ _ _ h; obtain ⟨v0, rfl, a⟩ := h.out; rfl
 one := by
  rintro _ _ _ h
  obtain ⟨v0, rfl, a⟩ := h.out
  intro u hu; simp only [aQ, dM, gV] at hu; rcases hu with rfl | rfl | rfl | rfl | rfl
  ·rfl
  ·rfl
  ·rfl
  ·rfl
  ·exact a.Bv
def kY : rA lm := fun μ ys x => ∃ (v0 : Value) (v1 : Value), ys = [.int .i64 x.Signed.kF.Kind, .string x.Signed.kF.Head.kE, .string x.Signed.kF.Head.kL, .string x.Signed.kF.ma, .string x.Signed.kF.B.kE, .string x.Signed.kF.B.kL, .string x.Signed.kF.C.kE, .string x.Signed.kF.C.kL, .string x.Signed.kF.mc, v0, .int .i64 x.kJ.Op, .int .i64 x.kJ.K, .string x.kJ.kD.kE, .string x.kJ.kD.kL, v1] ∧ Sl (Pl (mM .u8)) 1 μ v0 x.Signed.Tag ∧ Sl kG 5 μ v1 x.kJ.Kids
theorem kY.out {μ : lQ} {ys : List Value} {x : lm} (h : kY μ ys x) : ∃ (v0 : Value) (v1 : Value), ys = [.int .i64 x.Signed.kF.Kind, .string x.Signed.kF.Head.kE, .string x.Signed.kF.Head.kL, .string x.Signed.kF.ma, .string x.Signed.kF.B.kE, .string x.Signed.kF.B.kL, .string x.Signed.kF.C.kE, .string x.Signed.kF.C.kL, .string x.Signed.kF.mc, v0, .int .i64 x.kJ.Op, .int .i64 x.kJ.K, .string x.kJ.kD.kE, .string x.kJ.kD.kL, v1] ∧ Sl (Pl (mM .u8)) 1 μ v0 x.Signed.Tag ∧ Sl kG 5 μ v1 x.kJ.Kids := h
theorem kY.mk {μ : lQ} {ys : List Value} {x : lm} (h : ∃ (v0 : Value) (v1 : Value), ys = [.int .i64 x.Signed.kF.Kind, .string x.Signed.kF.Head.kE, .string x.Signed.kF.Head.kL, .string x.Signed.kF.ma, .string x.Signed.kF.B.kE, .string x.Signed.kF.B.kL, .string x.Signed.kF.C.kE, .string x.Signed.kF.C.kL, .string x.Signed.kF.mc, v0, .int .i64 x.kJ.Op, .int .i64 x.kJ.K, .string x.kJ.kD.kE, .string x.kJ.kD.kL, v1] ∧ Sl (Pl (mM .u8)) 1 μ v0 x.Signed.Tag ∧ Sl kG 5 μ v1 x.kJ.Kids) : kY μ ys x := h
theorem kX : Deep kY 15 where
 mono := by rintro _ _ _ _ b ⟨v0, v1, rfl, a, h1⟩; exact ⟨v0, v1, rfl, a.mono (Pl.mono _) b, h1.mono kN.mono b⟩
 len := by rintro _ _ _ ⟨v0, v1, rfl, a, h1⟩; rfl
 one := by
  rintro _ _ _ ⟨v0, v1, rfl, a, h1⟩
  intro u hu; simp only [aQ, dM, gV] at hu; rcases hu with rfl | rfl | rfl | rfl | rfl | rfl | rfl | rfl | rfl | rfl | rfl | rfl | rfl | rfl | rfl
  ·rfl
  ·rfl
  ·rfl
  ·rfl
  ·rfl
  ·rfl
  ·rfl
  ·rfl
  ·rfl
  ·exact a.Bv
  ·rfl
  ·rfl
  ·rfl
  ·rfl
  ·exact h1.Bv
def lO : rA nY := fun μ ys x => ∃ (v0 : Value) (v1 : Value), ys = [.string x.kD.kE, .string x.kD.kL, .int .i64 x.kJ.Op, .int .i64 x.kJ.K, .string x.kJ.kD.kE, .string x.kJ.kD.kL, v0, v1] ∧ Sl kG 5 μ v0 x.kJ.Kids ∧ Sl (Pl kK) 9 μ v1 x.nf
theorem lO.out {μ : lQ} {ys : List Value} {x : nY} (h : lO μ ys x) : ∃ (v0 : Value) (v1 : Value), ys = [.string x.kD.kE, .string x.kD.kL, .int .i64 x.kJ.Op, .int .i64 x.kJ.K, .string x.kJ.kD.kE, .string x.kJ.kD.kL, v0, v1] ∧ Sl kG 5 μ v0 x.kJ.Kids ∧ Sl (Pl kK) 9 μ v1 x.nf := h
theorem lO.mk {μ : lQ} {ys : List Value} {x : nY} (h : ∃ (v0 : Value) (v1 : Value), ys = [.string x.kD.kE, .string x.kD.kL, .int .i64 x.kJ.Op, .int .i64 x.kJ.K, .string x.kJ.kD.kE, .string x.kJ.kD.kL, v0, v1] ∧ Sl kG 5 μ v0 x.kJ.Kids ∧ Sl (Pl kK) 9 μ v1 x.nf) : lO μ ys x := h
theorem me : Deep lO 8 where
 mono := by rintro _ _ _ _ b ⟨v0, v1, rfl, a, h1⟩; exact ⟨v0, v1, rfl, a.mono kN.mono b, h1.mono (Pl.mono _) b⟩
 len := by rintro _ _ _ ⟨v0, v1, rfl, a, h1⟩; rfl
 one := by
  rintro _ _ _ ⟨v0, v1, rfl, a, h1⟩
  intro u hu; simp only [aQ, dM, gV] at hu; rcases hu with rfl | rfl | rfl | rfl | rfl | rfl | rfl | rfl
  ·rfl
  ·rfl
  ·rfl
  ·rfl
  ·rfl
  ·rfl
  ·exact a.Bv
  ·exact h1.Bv
def ou : rA Key := fun μ ys x => ∃ (v0 : Value), ys = [.string x.ma, v0] ∧ Sl (Pl (mM .u8)) 1 μ v0 x.Key
theorem ou.out {μ : lQ} {ys : List Value} {x : Key} (h : ou μ ys x) : ∃ (v0 : Value), ys = [.string x.ma, v0] ∧ Sl (Pl (mM .u8)) 1 μ v0 x.Key := h
theorem ou.mk {μ : lQ} {ys : List Value} {x : Key} (h : ∃ (v0 : Value), ys = [.string x.ma, v0] ∧ Sl (Pl (mM .u8)) 1 μ v0 x.Key) : ou μ ys x := h
theorem oY : Deep ou 2 where
 mono := by rintro _ _ _ _ b ⟨v0, rfl, a⟩; exact ⟨v0, rfl, a.mono (Pl.mono _) b⟩
 len := by rintro _ _ _ ⟨v0, rfl, a⟩; rfl
 one := by
  rintro _ _ _ ⟨v0, rfl, a⟩
  intro u hu; simp only [aQ, dM, gV] at hu; rcases hu with rfl | rfl
  ·rfl
  ·exact a.Bv
theorem Hq : qz Tryz.prog 9 Value.string mx := qz.string cD
theorem Bh : qz Tryz.prog 50 (fun (x : kD) => (.agg (kR x).toArray)) lx :=
 qz.struct dQ (fun d x y W => qf (d + 8) x y W) (fun b k W => Hx dQ rfl (jy.2 ⟨fun _ => ⟨.string k.kE, qO bW rfl, zJ cD _ _ _ _⟩, (jy.2 ⟨fun _ => ⟨.string k.kL, qO bW rfl, zJ cD _ _ _ _⟩, (fun _ h => by cases h)⟩)⟩))
  (fun k x h => (lz.1 h).symm) (fun k => by simp [Instr.sameBits, kR, EH, np])
theorem uX (a : kF) (r : lm) (w : World) {B : lQ} (H : oC B [] w) (hm : pC a = some r) :
  ms true Tryz.prog 97 [(.agg (kK a).toArray)] w B [] (fun v G D => ∃ x y, v = (.agg #[(.int .i64 ((((r).Signed).kF).Kind)), (.string (((((r).Signed).kF).Head).kE)), (.string (((((r).Signed).kF).Head).kL)), (.string ((((r).Signed).kF).ma)), (.string (((((r).Signed).kF).B).kE)), (.string (((((r).Signed).kF).B).kL)), (.string (((((r).Signed).kF).C).kE)), (.string (((((r).Signed).kF).C).kL)), (.string ((((r).Signed).kF).mc)), x, (.int .i64 (((r).kJ).Op)), (.int .i64 (((r).kJ).K)), (.string ((((r).kJ).kD).kE)), (.string ((((r).kJ).kD).kL)), y]) ∧ G = [] ∧ Sl (Pl (mM .u8)) 1 D x (((r).Signed).Tag) ∧ Sl kG 5 D y (((r).kJ).Kids)) := by
 refine tp H 8 func97 rfl (fun b => sg (VE (lI b rfl (fun Q U b => VE (lG b eG (fun T Y b => ln (kZ ?_)))))))
 replace b := b.drew
 have d := b.has.kH (Db (Kb Sn))
 refine mi d lN (XH 0 rfl d (fun _ l => kI rfl (kO l Mh (kK a) rfl bX aO)) (X 3 rfl d (mB (v := (.agg EG.toArray)) (ni rfl) (mn aP bH (uM _ bH) kr)) (bS hm fun i t hm => XE 1 rfl (La (enc := (mM .u8)) (z := 0) b (fun _ => rfl) dc cV tQ.1 tQ.2.1 tQ.2.2.1 tQ.2.2.2 rfl rfl rfl t (fun J M I b j => ?_)))))
 have d := b.has.kH (Dr (Db (Kb Sn)))
 refine ⟨d, ?_⟩
 obtain ⟨c, g, rfl⟩ := j.form
 let Z := (Ut a.Kind a.Head.kE a.Head.kL a.ma a.B.kE a.B.kL a.C.kE a.C.kL a.mc c i.length g)
 refine X 2 rfl d (mB (v := (.agg (C8 a.Kind a.Head.kE a.Head.kL a.ma a.B.kE a.B.kL a.C.kE a.C.kL a.mc c i.length g).toArray)) (oJ rfl rfl) (mn ky jK (TY _ jK) kr)) (X 4 rfl d (mB (v := (.agg Z.toArray)) (oJ rfl rfl) (mn eG iM (R3 _ iM) kr)) ?_)
 replace b := b.perm (Nb (Pr Pz) Nz)
 refine XO 5 rfl (lh (.agg Z.toArray) (Z.toArray) b rfl rfl cR oc nb rfl (fun K b => ?_))
 have d := b.has.kH (Db (Dr (Kb Sn)))
 refine ⟨d, (mu kr (kU ?_))⟩
 replace b := b.kH (Kb (Kr (Db St)))
 refine lC ?_
 obtain rfl := sj hm
 refine nw (v := (.agg Z.toArray)) rfl rfl (kO b.has Mh Z rfl iX cR) ?_
 replace b := b.perm (Nr (Qb Qz) Nz)
 obtain ⟨N, b, k, h, u⟩ := ST.O4 b j (fun _ => rfl)
 exact ⟨_, _, _, rfl, (b.mX Sn), k, h, (ST.lX b (nq.mem Sn)), (.slice c i.length g), (.slice none 0 0), rfl, rfl, u, (Sl.nil _ _ _)⟩
theorem RZ (w : World) (s : ByteArray) (c : Int) : (callFunc 242 [Value.string s, .int .u8 c].toArray).run Tryz.prog w = .ok (.value (.int .i64 (ym s c))) w := HV func242 (by kernel_rfl) (by kernel_rfl) (by kernel_rfl) (by kernel_rfl) s c w
theorem zg (a : ByteArray) (c r : Int) (w : World) (hm : pB a c = some r) :
  lE true Tryz.prog 185 [(.string a), (.int .u8 c)] w (.int .i64 r) := by
 exact cG 8 func185 rfl (fun b => sg (Wa (lr (Wm (Wm (VE (MY (args := [(.string a), (.int .u8 c)]) (v := .int .i64 (ym a c)) rfl (by exact yl rfl rfl) (RZ _ a c) (Wa (lt (rQ hm b))))))))))
theorem Ac (a : ByteArray) (c r : Int) (w : World) (hm : sO a c = some r) :
  lE true Tryz.prog 121 [(.string a), (.int .u8 c)] w (.int .i64 r) := by
 refine cG 8 func121 rfl (fun b => sg (Wa (lr (Wm (Wm (bS hm fun j g hm => VE (Eg b call185 (zg a c _ _  g) (fun i b => Wa (ln ?_)))))))))
 exact lC (rQ hm b)
theorem Lq (I : ByteArray) (r : Bool) (w : World) (hm : CN I = some r) :
  lE true Tryz.prog 122 [(.string I)] w (.bool r) := by
 refine cG 16 func122 rfl (fun b => sg (Wa (lS (Wm (bS hm fun H J hm => VE (I4 b cD cV gK rfl J (fun W3 N T b M n j Y => V (ml cV rfl j) (Wm (lH ?_)))))))))
 refine kU (mf (fun i E W => ∃ c, (E 8 = .int .i64 (i : Nat) ∧ E 7 = .int .i64 (H.length : Nat)) ∧ ST true lU w W T c ∧ E 6 = N ∧ vY (H.drop i) = some r) H.length j.len ⟨_, ⟨rfl, rfl⟩, (b.kH St), rfl, hm⟩ dc dc dc (fun _ _ _ h => by obtain ⟨_, l, _⟩ := h; exact l) ?_ ?_)
 ·rintro K E W u ⟨c, ⟨d, m⟩, b, g, a⟩
  obtain ⟨k, Q, D, B, G⟩ := lT u
  rw [D] at a
  refine bg (VQ (oH (enc := (mM .u8)) (i := (K : Int)) (x0 := k) cV sizeOf5 g d j (aH _) B) (fun Z x => V (kI rfl (tX b.has (y := (.int .u8 k)) x isAgg5)) (Wa (lr (Wm (bS a fun p z a => VE (Eg b call121 (Ac (⟨#[97, 98, 99, 100, 101, 102, 103, 104, 105, 106, 107, 108, 109, 110, 111, 112, 113, 114, 115, 116, 117, 118, 119, 120, 121, 122, 48, 49, 50, 51, 52, 53, 54, 55, 56, 57, 45]⟩ : ByteArray) k _ _  z) (fun U b => Wi rfl (lH ?_)))))))))
  refine kU (CI a rfl (fun t a => ?_) (fun t a => ?_))
  ·refine sg (Wa (lt (nC (lJ (nC (lJ ?_))))))
   obtain rfl := sj a
   exact rP b
  exact mr (lL (kU ⟨d, _, ⟨rfl, m⟩, (b.kH St), g, (by rw [G]; exact a)⟩))
 rintro E W ⟨c, ⟨d, m⟩, b, g, a⟩
 rw [aI] at a
 exact kU (sg (Wa (lt (rQ a b))))
theorem xy (z : ByteArray) (r : Bool) (w : World) (hm : tK z = some r) :
  lE true Tryz.prog 57 [(.string z)] w (.bool r) := by
 refine cG 21 func57 rfl (fun b => sg (Wa (lr (Wm (V (pA cD rfl) (Wi rfl (Wm (LJ hm (fun K E W => ∃ Y, ST true lU w W (hp w) Y ∧ E 0 = (.string z) ∧ E 2 = (.bool false) ∧ E 10 = (.bool K)) 4 ?_ (fun K t y => ?_)))))))))
 ·rintro x2 E W ⟨Y, b, M, d, l⟩ a5
  refine Wh l (LJ a5 (fun J E W => ∃ D, ST true lU w W (hp w) D ∧ E 0 = (.string z) ∧ E 2 = (.bool false) ∧ E 16 = (.bool J)) 5 ?_ (fun J a x => ?_))
  ·rintro s E W ⟨D, b, h, H, a2⟩ N
   refine Wh a2 (LJ N (fun I E W => ∃ G, ST true lU w W (hp w) G ∧ E 2 = (.bool false) ∧ E 20 = (.bool I)) 3 ?_ (fun I j u => ?_))
   ·rintro v E W ⟨G, b, a9, a3⟩ Q
    exact Wg a3 (lt (rQ Q b))
   refine bC j (fun g j => ?_) (fun g j => ?_)
   ·refine ug g (kT h) (bS j fun p T j => tm g (Eg b call122 (Lq z _ _  T) (fun m b => V (lj (cB g) rfl) ?_)))
    obtain rfl := sj j
    exact u _ _ ⟨_, (b.kH St), H, rfl⟩
   refine un g (un g (V (ll (cB g) rfl) ?_))
   obtain rfl := sj j
   exact u _ _ ⟨_, (b.kH St), H, rfl⟩
  refine bC a (fun c a => ?_) (fun c a => ?_)
  ·refine ug c (kT M) (bS a fun Z B a => ug c (BC (i := 0) cD rfl rfl (AH B) (D1 B)) (bS a fun q U a => tm c (Eg b call121 (Ac (⟨#[97, 98, 99, 100, 101, 102, 103, 104, 105, 106, 107, 108, 109, 110, 111, 112, 113, 114, 115, 116, 117, 118, 119, 120, 121, 122]⟩ : ByteArray) (Z.toNat : Int) _ _  U) (fun n b => ug c (lR rfl rfl rfl) (V (lj (cB c) rfl) ?_)))))
   obtain rfl := sj a
   exact x _ _ ⟨_, (b.kH St), M, d, rfl⟩
  refine un c (un c (un c (un c (V (ll (cB c) rfl) ?_))))
  obtain rfl := sj a
  exact x _ _ ⟨_, (b.kH St), M, d, rfl⟩
 refine bC t (fun k t => ?_) (fun k t => ?_)
 ·refine ug k (kT rfl) (ug k (pA cD rfl) (ug k (lR rfl rfl rfl) (V (lj (cB k) rfl) ?_)))
  obtain rfl := sj t
  exact y _ _ ⟨_, (b.kH St), rfl, rfl, rfl⟩
 refine un k (un k (un k (V (ll (cB k) rfl) ?_)))
 obtain rfl := sj t
 exact y _ _ ⟨_, (b.kH St), rfl, rfl, rfl⟩
theorem uV (i : kD) (r : Bool) (w : World) (hm : rj i = some r) :
  lE true Tryz.prog 153 [(.agg (kR i).toArray)] w (.bool r) := by
 refine cG 11 func153 rfl (fun b => sg (VE (lI b rfl (fun H J b => Wa (lr (Wf qi (VB b Mh rfl rfl bW (bS hm fun K y hm => VE (Eg b call57 (xy i.kE _ _  y) (fun I b => Wm (LJ hm (fun k E W => ∃ j, ST true lU w W (hp w) j ∧ E 2 = (.bool false) ∧ E 10 = (.bool k)) 4 ?_ (fun k a g => ?_))))))))))))
 ·rintro G E W ⟨j, b, B, x⟩ t
  exact Wg x (lt (rQ t b))
 refine bC a (fun c a => ?_) (fun c a => ?_)
 ·refine ug c (kP uN rfl) (ug c (kI rfl (lg b.has Mh rfl bW)) (bS a fun D u a => tm c (Eg b call57 (xy i.kL _ _  u) (fun z b => V (lj (cB c) rfl) ?_))))
  obtain rfl := sj a
  exact g _ _ ⟨_, (b.kH (Db St)), rfl, rfl⟩
 refine un c (un c (un c (V (ll (cB c) rfl) ?_)))
 obtain rfl := sj a
 exact g _ _ ⟨_, (b.kH (Db St)), rfl, rfl⟩
theorem Se (w : World) (a b : ByteArray) : (callFunc 296 [Value.string a, .string b].toArray).run Tryz.prog w = .ok (.value (.int .i64 (qk a b))) w := OO func296 (by kernel_rfl) (by kernel_rfl) (by kernel_rfl) (by kernel_rfl) a b w
theorem yZ (a c : ByteArray) (r : Int) (w : World) (hm : oL a c = some r) :
  lE true Tryz.prog 260 [(.string a), (.string c)] w (.int .i64 r) := by
 exact cG 8 func260 rfl (fun b => sg (Wa (lr (Wm (Wm (VE (MY (args := [(.string a), (.string c)]) (v := .int .i64 (qk a c)) rfl (by exact yl rfl rfl) (Se _ a c) (Wa (lt (rQ hm b))))))))))
theorem Bq (a c : ByteArray) (r : Int) (w : World) (hm : qG a c = some r) :
  lE true Tryz.prog 210 [(.string a), (.string c)] w (.int .i64 r) := by
 refine cG 8 func210 rfl (fun b => sg (Wa (lr (Wm (Wm (bS hm fun j g hm => VE (Eg b call260 (yZ a c _ _  g) (fun i b => Wa (ln ?_)))))))))
 exact lC (rQ hm b)
theorem KD (g : Value) (t : List Int) (r : Int) (w : World) (c : Sl (Pl (mM .i64)) 1 (hp w) g t) (hm : vQ t = some r) :
  lE true Tryz.prog 209 [g] w (.int .i64 r) := by
 refine cG 18 func209 rfl (fun b => sg (Wa (lr (Wa (lS (Wm ?_))))))
 refine V (ml gY rfl c) (Wm (ln (mf (fun i E W => ∃ k, (E 8 = .int .i64 (i : Nat) ∧ E 7 = .int .i64 (t.length : Nat)) ∧ ST true lU w W (hp w) k ∧ E 3 = (.int .i64 0) ∧ E 6 = g ∧ tO (t.drop i) = some r) t.length c.len ⟨_, ⟨rfl, rfl⟩, (b.kH St), rfl, rfl, hm⟩ dc dc dc (fun _ _ _ h => by obtain ⟨_, l, _⟩ := h; exact l) ?_ ?_)))
 ·rintro J E W B ⟨k, ⟨d, m⟩, b, j, u, a⟩
  obtain ⟨x, K, H, G, I⟩ := lT B
  rw [H] at a
  refine bg (VQ (oH (enc := (mM .i64)) (i := (J : Int)) (x0 := x) gY fP u d c (aH _) G) (fun M D => V (kI rfl (tX b.has (y := (.int .i64 x)) D cA)) (Wa (lr (Wm (Wh j (Wi rfl (ln ?_))))))))
  refine CI a rfl (fun z a => ?_) (fun z a => ?_)
  ·refine sg (Wm (Wa (lt (nC (lJ (nC (lJ ?_)))))))
   obtain rfl := sj a
   exact rP b
  exact mr (lL (kU ⟨d, _, ⟨rfl, m⟩, (b.kH St), j, u, (by rw [I]; exact a)⟩))
 rintro E W ⟨k, ⟨d, m⟩, b, j, u, a⟩
 rw [aI] at a
 exact kU (sg (Wh j (Wa (lt (rQ a b)))))
theorem HW (g i : kD) (r : Int) (w : World) (hm : tb g i = some r) :
  lE true Tryz.prog 155 [(.agg (kR g).toArray), (.agg (kR i).toArray)] w (.int .i64 r) := by
 refine cG 17 func155 rfl (fun b => sg (VE (lI b rfl (fun G I b => VE (lI b rfl (fun H J b => Wa (ln (kZ ?_))))))))
 replace b := b.drew
 have d := b.has.kH (Kb (Kb Sn))
 refine mi d lN (X 0 rfl d (kP qi rfl) (XH 1 rfl d (fun _ h => kI rfl (lg h (Mt Mh) rfl bW)) (X 2 rfl d (kP qi rfl) (XH 3 rfl d (fun _ h => kI rfl (lg h Mh rfl bW)) (X 5 rfl d (kP uN rfl) (XH 6 rfl d (fun _ h => kI rfl (lg h (Mt Mh) rfl bW)) (X 7 rfl d (kP uN rfl) (XH 8 rfl d (fun _ h => kI rfl (lg h Mh rfl bW)) (bS hm fun a j hm => XE 4 rfl (Eg b call210 (Bq g.kE i.kE _ _  j) (fun x b => ?_)))))))))))
 have d := b.has.kH (Kb (Kb Sn))
 refine ⟨d, (bS hm fun c k hm => XE 9 rfl (Eg b call210 (Bq g.kL i.kL _ _  k) (fun y b => ?_)))⟩
 have d := b.has.kH (Kb (Kb Sn))
 refine ⟨d, (XE 10 rfl (lD (cs := #[(.int .i64 a), (.int .i64 c)]) b (oJ rfl rfl) (nj gY fP zeroValue3) (fun z u b => ?_)))⟩
 have d := b.has.kH (Db (Kb (Kb Sn)))
 refine ⟨d, (bS hm fun D t hm => XE 11 rfl (Eg b call209 (KD (.slice (some ⟨u, 0, none⟩) 2 2) ([a, c]) _ _ (Sl.lit (enc := (mM .i64)) (l := [a, c]) (fun _ => rfl) rfl nb rfl (b.at_ Mh)) t) (fun B b => ?_)))⟩
 have d := b.has.kH (Db (Kb (Kb Sn)))
 refine ⟨d, (X 12 rfl d (od rfl) (mu kr (kU ?_)))⟩
 exact lC (rQ hm b)
set_option maxHeartbeats 1000000 in
theorem zY (a : kF) (r : Bool) (w : World) (hm : uT a = some r) :
  lE true Tryz.prog 113 [(.agg (kK a).toArray)] w (.bool r) := by
 let m9 := (⟨a.Kind, a.Head, zS, a.B, a.C, zS⟩ : kF)
 let j2 := (⟨a.Kind, a.Head, zS, a.B, K0, a.mc⟩ : kF)
 let j1 : Value := (.agg (kR a.B).toArray)
 let g6 := ((kK (⟨a.Kind, a.Head, zS, a.B, K0, zS⟩ : kF)).toArray)
 let p := (⟨a.Kind, a.Head, zS, K0, K0, zS⟩ : kF)
 refine cG 98 func113 rfl (fun b => sg (VE (lI b rfl (fun W2 N b => Wa (lr (Wf rI (VB b Mh rfl rfl cA (Wf rJ (VA b Mh (kR a.Head) bI aR (V (mB (v := (.agg (kK p).toArray)) (oJ rfl rfl) (mn cW eQ (SG _ eQ) kr)) (VE (lG b cW (fun W4 B b => ?_)))))))))))))
 refine VO (lh (.agg (kK p).toArray) ((kK p).toArray) b rfl rfl aO (oQ p) nb rfl (fun W5 b => lr (Wf rJ (VA b (Mt Mh) (kR a.Head) bI aR (bS hm fun n j4 hm => VE (Eg b kB (uV a.Head _ _  j4) (fun W8 b => Wa (ln (kZ (Sp hm (fun A E W => ∃ R, ST true lU w W (hp w) ((B, Ol (kK A.2) 52) :: ((N, Ol (kK a) 52) :: R)) ∧ E 1 = (.pointer (some ⟨N, 0, none⟩)) ∧ E 3 = (.pointer (some ⟨B, 0, none⟩)) ∧ E 4 = (.bool A.1)) (fun A g Z => ?_) ?_))))))))))
 ·let g5 := ((kK m9).toArray : Array Value)
  let b8 := ((kK j2).toArray : Array Value)
  let m : Value := (.pointer (some ⟨B, 0, none⟩))
  let l : Value := (.pointer (some ⟨N, 0, none⟩))
  let a0 := ((kK a).toArray : Array Value)
  refine sg (Wf rI (VB b (Mt Mh) rfl rfl cA (ln (bg (Wi rfl (Wa (ln (CI g rfl (fun e5 g => ?_) (fun e5 g => ?_)))))))))
  ·replace b := b.drew
   have d := b.has.kH (Db (Kb Sn))
   refine mi d lN (X 0 rfl d (kP xH rfl) (XH 1 rfl d (fun _ h => kI rfl (lg h Mh rfl bW)) (X 2 rfl d (kT rfl) (X 3 rfl d (kT rfl) (X 8 rfl d (kP xH rfl) (PJ g (fun d6 E W => ∃ b9, ST true lU w W (hp w) ((B, Ol (kK p) 52) :: ((N, Obj.cells a0 52 (0, 0)) :: b9)) ∧ E 1 = l ∧ E 3 = m ∧ E 4 = (.bool n) ∧ E 18 = (.string a.ma) ∧ E 24 = (.bool d6) ∧ E 25 = (.pointer (some ⟨B, 3, none⟩))) (bm 11 511) 2 ?_ (fun d6 D a2 => ?_)))))))
   ·rintro m1 E W ⟨b9, b, h2, h3, k8, h4, h5, h6⟩ f1
    refine XO 9 rfl (lh (.string a.ma) ((kK (⟨a.Kind, a.Head, a.ma, K0, K0, zS⟩ : kF)).toArray) b h6 h4 gJ (Ku a.ma) nb rfl (fun j5 b => ?_))
    have d := b.has.kH (Db (Kb Sn))
    refine ⟨d, (X 10 rfl d (od h5) (mu kr (lL (kU ?_))))⟩
    obtain rfl := sj f1
    exact ⟨_, rfl, _, (b.kH St), h2, h3, rfl⟩
   refine bC D (fun k D => ?_) (fun k D => ?_)
   ·refine Xg 4 rfl rfl (cB k) d (kP xH rfl) (qQ 5 rfl rfl (cB k) d (fun _ h => kI rfl (lg h Mh rfl bW)) (bS D fun l2 f9 D => Af 6 rfl rfl (cB k) (Eg b call57 (xy a.ma _ _  f9) (fun j6 b => ?_))))
    have d := b.has.kH (Db (Kb Sn))
    refine ⟨d, (X 7 rfl d (lj (cB k) rfl) ?_)⟩
    obtain rfl := sj D
    refine nu kr (a2 _ _ ⟨_, (b.kH St), rfl, rfl, rfl, rfl, rfl, rfl⟩)
   refine Xn 4 rfl rfl (cB k) d (Xn 5 rfl rfl (cB k) d (Xn 6 rfl rfl (cB k) d (X 7 rfl d (ll (cB k) rfl) ?_)))
   obtain rfl := sj D
   refine nu kr (a2 _ _ ⟨_, (b.kH St), rfl, rfl, rfl, rfl, rfl, rfl⟩)
  refine sg (Wi rfl (Wa (ln (CI g rfl (fun e6 g => ?_) (fun e6 g => ?_)))))
  ·replace b := b.drew
   have d := b.has.kH (Db (Kb Sn))
   refine mi d lN (X 0 rfl d (kP oP rfl) (XH 1 rfl d (fun _ h => kI rfl (kO h Mh (kR a.B) rfl bI aR)) (X 2 rfl d (kT rfl) (X 3 rfl d (kT rfl) (X 8 rfl d (kP oP rfl) (PJ g (fun d7 E W => ∃ c0, ST true lU w W (hp w) ((B, Ol (kK p) 52) :: ((N, Obj.cells a0 52 (0, 0)) :: c0)) ∧ E 1 = l ∧ E 3 = m ∧ E 4 = (.bool n) ∧ E 29 = j1 ∧ E 35 = (.bool d7) ∧ E 36 = (.pointer (some ⟨B, 4, none⟩))) (bm 11 511) 2 ?_ (fun d7 G a3 => ?_)))))))
   ·rintro m2 E W ⟨c0, b, h7, h8, k9, h9, i0, i1⟩ f2
    refine XO 9 rfl (lh j1 g6 b i1 h9 aR (xd a.B) nb rfl (fun j7 b => ?_))
    have d := b.has.kH (Db (Kb Sn))
    refine ⟨d, (X 10 rfl d (od i0) (mu kr (lL (kU ?_))))⟩
    obtain rfl := sj f2
    exact ⟨_, rfl, _, (b.kH St), h7, h8, rfl⟩
   refine bC G (fun t G => ?_) (fun t G => ?_)
   ·refine Xg 4 rfl rfl (cB t) d (kP oP rfl) (qQ 5 rfl rfl (cB t) d (fun _ h => kI rfl (kO h Mh (kR a.B) rfl bI aR)) (bS G fun l3 g0 G => Af 6 rfl rfl (cB t) (Eg b kB (uV a.B _ _  g0) (fun j8 b => ?_))))
    have d := b.has.kH (Db (Kb Sn))
    refine ⟨d, (X 7 rfl d (lj (cB t) rfl) ?_)⟩
    obtain rfl := sj G
    refine nu kr (a3 _ _ ⟨_, (b.kH St), rfl, rfl, rfl, rfl, rfl, rfl⟩)
   refine Xn 4 rfl rfl (cB t) d (Xn 5 rfl rfl (cB t) d (Xn 6 rfl rfl (cB t) d (X 7 rfl d (ll (cB t) rfl) ?_)))
   obtain rfl := sj G
   refine nu kr (a3 _ _ ⟨_, (b.kH St), rfl, rfl, rfl, rfl, rfl, rfl⟩)
  refine sg (Wi rfl (Wa (ln (CI g rfl (fun e7 g => ?_) (fun e7 g => ?_)))))
  ·refine kZ ?_
   replace b := b.drew
   have d := b.has.kH (Db (Kb Sn))
   refine mi d lN (X 0 rfl d (kP oP rfl) (XH 1 rfl d (fun _ h => kI rfl (kO h Mh (kR a.B) rfl bI aR)) (X 2 rfl d (kP vA rfl) (XH 3 rfl d (fun _ h => kI rfl (lg h Mh rfl bW)) (X 4 rfl d (kP oP rfl) (XO 5 rfl (lh j1 g6 b rfl rfl aR (xd a.B) nb rfl (fun j9 b => ?_))))))))
   have d := b.has.kH (Db (Kb Sn))
   refine ⟨d, (X 6 rfl d (kP vA rfl) (XO 7 rfl (lh (.string a.mc) ((kK j2).toArray) b rfl rfl gJ (Ku a.mc) nb rfl (fun k0 b => ?_))))⟩
   have d := b.has.kH (Db (Kb Sn))
   refine ⟨d, (mu kr (kU (kW (Wm (Wm (LJ g (fun e0 E W => ∃ c1, ST true lU w W (hp w) ((B, Obj.cells b8 52 (0, 0)) :: ((N, Obj.cells a0 52 (0, 0)) :: c1)) ∧ E 1 = l ∧ E 3 = m ∧ E 4 = (.bool n) ∧ E 50 = (.bool e0)) 4 ?_ (fun e0 I L => ?_)))))))⟩
   ·rintro m3 E W ⟨c1, b, U, c7, c8, i2⟩ f3
    refine Wh i2 (LJ f3 (fun d9 E W => ∃ c2, ST true lU w W (hp w) ((B, Obj.cells b8 52 (0, 0)) :: ((N, Obj.cells a0 52 (0, 0)) :: c2)) ∧ E 1 = l ∧ E 3 = m ∧ E 4 = (.bool n) ∧ E 59 = (.bool d9)) 8 ?_ (fun d9 T a5 => ?_))
    ·rintro m4 E W ⟨c2, b, q, c9, d0, i3⟩ f4
     refine Wh i3 (LJ f4 (fun d8 E W => ∃ c3, ST true lU w W (hp w) ((B, Obj.cells b8 52 (0, 0)) :: ((N, Obj.cells a0 52 (0, 0)) :: c3)) ∧ E 1 = l ∧ E 3 = m ∧ E 4 = (.bool n) ∧ E 64 = (.bool d8)) 4 ?_ (fun d8 H a4 => ?_))
     ·rintro m5 E W ⟨c3, b, i4, i5, l0, i6⟩ f5
      refine Wg i6 (lH (lL (kU ?_)))
      obtain rfl := sj f5
      exact ⟨_, rfl, _, (b.kH St), i4, i5, rfl⟩
     refine bC H (fun x H => ?_) (fun x H => ?_)
     ·refine ug x (kP vA q) (ug x (kI rfl (lg b.has (Mt Mh) rfl bW)) (bS H fun l4 g1 H => tm x (Eg b call57 (xy a.mc _ _  g1) (fun k1 b => V (lj (cB x) rfl) ?_))))
      obtain rfl := sj H
      exact a4 _ _ ⟨_, (b.kH St), q, c9, d0, rfl⟩
     refine un x (un x (un x (V (ll (cB x) rfl) ?_)))
     obtain rfl := sj H
     exact a4 _ _ ⟨_, (b.kH St), q, c9, d0, rfl⟩
    refine bC T (fun c T => ?_) (fun c T => ?_)
    ·refine ug c (kP oP U) (ug c (kP qi rfl) (ug c (kI rfl (lg b.has (Mt Mh) rfl bW)) (ug c (kP rJ U) (ug c (kP qi rfl) (ug c (kI rfl (lg b.has (Mt Mh) rfl bW)) (ug c (rR rfl rfl rfl) (V (lj (cB c) rfl) ?_)))))))
     obtain rfl := sj T
     exact a5 _ _ ⟨_, (b.kH St), U, c7, c8, rfl⟩
    refine un c (un c (un c (un c (un c (un c (un c (V (ll (cB c) rfl) ?_)))))))
    obtain rfl := sj T
    exact a5 _ _ ⟨_, (b.kH St), U, c7, c8, rfl⟩
   refine bC I (fun u I => ?_) (fun u I => ?_)
   ·refine ug u (kP oP rfl) (ug u (kI rfl (kO b.has (Mt Mh) (kR a.B) rfl bI aR)) (bS I fun l5 g2 I => tm u (Eg b kB (uV a.B _ _  g2) (fun k2 b => V (lj (cB u) rfl) ?_))))
    obtain rfl := sj I
    exact L _ _ ⟨_, (b.kH St), rfl, rfl, rfl, rfl⟩
   refine un u (un u (un u (V (ll (cB u) rfl) ?_)))
   obtain rfl := sj I
   exact L _ _ ⟨_, (b.kH St), rfl, rfl, rfl, rfl⟩
  refine sg (Wi rfl (Wa (ln (CI g rfl (fun e8 g => ?_) (fun e8 g => ?_)))))
  ·refine kZ ?_
   replace b := b.drew
   have d := b.has.kH (Db (Kb Sn))
   refine mi d lN (X 0 rfl d (kP oP rfl) (XH 1 rfl d (fun _ h => kI rfl (kO h Mh (kR a.B) rfl bI aR)) (X 2 rfl d (kP tD rfl) (XH 3 rfl d (fun _ h => kI rfl (kO h Mh (kR a.C) rfl bI aR)) (X 4 rfl d (kP oP rfl) (XO 5 rfl (lh j1 g6 b rfl rfl aR (xd a.B) nb rfl (fun k3 b => ?_))))))))
   have d := b.has.kH (Db (Kb Sn))
   refine ⟨d, (X 6 rfl d (kP tD rfl) (XO 7 rfl (lh (.agg (kR a.C).toArray) ((kK m9).toArray) b rfl rfl aR (xd a.C) nb rfl (fun k4 b => ?_))))⟩
   have d := b.has.kH (Db (Kb Sn))
   refine ⟨d, (mu kr (kU (kW (Wm (Wm (LJ g (fun e3 E W => ∃ c4, ST true lU w W (hp w) ((B, Obj.cells g5 52 (0, 0)) :: ((N, Obj.cells a0 52 (0, 0)) :: c4)) ∧ E 1 = l ∧ E 3 = m ∧ E 4 = (.bool n) ∧ E 78 = (.bool e3)) 4 ?_ (fun e3 M a9 => ?_)))))))⟩
   ·rintro m6 E W ⟨c4, b, s, d1, d2, i7⟩ f6
    refine Wh i7 (LJ f6 (fun e2 E W => ∃ c5, ST true lU w W (hp w) ((B, Obj.cells g5 52 (0, 0)) :: ((N, Obj.cells a0 52 (0, 0)) :: c5)) ∧ E 1 = l ∧ E 3 = m ∧ E 4 = (.bool n) ∧ E 83 = (.bool e2)) 4 ?_ (fun e2 K P => ?_))
    ·rintro m7 E W ⟨c5, b, Y, d3, d4, i8⟩ f7
     refine Wh i8 (LJ f7 (fun e1 E W => ∃ c6, ST true lU w W (hp w) ((B, Obj.cells g5 52 (0, 0)) :: ((N, Obj.cells a0 52 (0, 0)) :: c6)) ∧ E 1 = l ∧ E 3 = m ∧ E 4 = (.bool n) ∧ E 91 = (.bool e1)) 7 ?_ (fun e1 J O => ?_))
     ·rintro m8 E W ⟨c6, b, i9, j0, l1, j3⟩ f8
      refine Wg j3 (lH (lL (kU ?_)))
      obtain rfl := sj f8
      exact ⟨_, rfl, _, (b.kH St), i9, j0, rfl⟩
     refine bC J (fun i J => ?_) (fun i J => ?_)
     ·refine ug i (kP oP Y) (ug i (kI rfl (kO b.has (Mt Mh) (kR a.B) rfl bI aR)) (ug i (kP tD Y) (ug i (kI rfl (kO b.has (Mt Mh) (kR a.C) rfl bI aR)) (bS J fun l6 g3 J => tm i (Eg b call155 (HW a.B a.C _ _  g3) (fun k5 b => ug i (lR rfl rfl rfl) (V (lj (cB i) rfl) ?_)))))))
      obtain rfl := sj J
      exact O _ _ ⟨_, (b.kH St), Y, d3, d4, rfl⟩
     refine un i (un i (un i (un i (un i (un i (V (ll (cB i) rfl) ?_))))))
     obtain rfl := sj J
     exact O _ _ ⟨_, (b.kH St), Y, d3, d4, rfl⟩
    refine bC K (fun z K => ?_) (fun z K => ?_)
    ·refine ug z (kP tD s) (ug z (kI rfl (kO b.has (Mt Mh) (kR a.C) rfl bI aR)) (bS K fun l7 g4 K => tm z (Eg b kB (uV a.C _ _  g4) (fun k6 b => V (lj (cB z) rfl) ?_))))
     obtain rfl := sj K
     exact P _ _ ⟨_, (b.kH St), s, d1, d2, rfl⟩
    refine un z (un z (un z (V (ll (cB z) rfl) ?_)))
    obtain rfl := sj K
    exact P _ _ ⟨_, (b.kH St), s, d1, d2, rfl⟩
   refine bC M (fun y M => ?_) (fun y M => ?_)
   ·refine ug y (kP oP rfl) (ug y (kI rfl (kO b.has (Mt Mh) (kR a.B) rfl bI aR)) (bS M fun l8 g7 M => tm y (Eg b kB (uV a.B _ _  g7) (fun k7 b => V (lj (cB y) rfl) ?_))))
    obtain rfl := sj M
    exact a9 _ _ ⟨_, (b.kH St), rfl, rfl, rfl, rfl⟩
   refine un y (un y (un y (V (ll (cB y) rfl) ?_)))
   obtain rfl := sj M
   exact a9 _ _ ⟨_, (b.kH St), rfl, rfl, rfl, rfl⟩
  refine sg (Wa (ln ?_))
  replace b := b.kH (Db (Db St))
  refine lC (nC (lJ ?_))
  obtain rfl := sj g
  replace Z : some false = some r := Z
  obtain rfl := sj Z
  exact rP b
 rintro ⟨l9, e4⟩ E W ⟨R, b, g8, g9, h0⟩ e9
 refine sg (Wh h0 (Wm (LJ e9 (fun d5 E W => ∃ b7, ST true lU w W (hp w) b7 ∧ E 97 = (.bool d5)) 4 ?_ (fun d5 Q F => ?_))))
 ·rintro m0 E W ⟨b7, b, h1⟩ f0
  exact Wg h1 (lt (rQ f0 b))
 refine bC Q (fun j Q => ?_) (fun j Q => ?_)
 ·refine ug j (kI g9 (kO b.has Mh (kK e4) rfl bX aO)) (ug j (kI g8 (kO b.has (Mt Mh) (kK a) rfl bX aO)) (ug j (uY rfl rfl (nW fK) (ra (vN _ e4 a))) (V (lj (cB j) rfl) ?_)))
  obtain rfl := sj Q
  exact F _ _ ⟨_, (b.kH (Db (Db St))), rfl⟩
 refine un j (un j (un j (V (ll (cB j) rfl) ?_)))
 obtain rfl := sj Q
 exact F _ _ ⟨_, (b.kH (Db (Db St))), rfl⟩
theorem Ez (j : Value) (t : List kF) (c : kF) (r : Int) (w : World) (g : Sl (Pl kK) 9 (hp w) j t) (hm : xi t c = some r) :
  lE true Tryz.prog 186 [j, (.agg (kK c).toArray)] w (.int .i64 r) := by
 refine cG 19 func186 rfl (fun b => sg (VE (lI b rfl (fun Q J b => Wa (lS (Wm (V (ml aS rfl g) (Wm (ln ?_)))))))))
 refine mf (fun i E W => ∃ k, (E 8 = .int .i64 (i : Nat) ∧ E 7 = .int .i64 (t.length : Nat)) ∧ ST true lU w W (hp w) ((J, Ol (kK c) 52) :: k) ∧ E 0 = j ∧ E 3 = (.pointer (some ⟨J, 0, none⟩)) ∧ rc c (t.drop i) i = some r) t.length g.len ⟨_, ⟨rfl, rfl⟩, (b.kH St), rfl, rfl, hm⟩ dc dc dc (fun _ _ _ h => by obtain ⟨_, m, _⟩ := h; exact m) ?_ ?_
 ·rintro K E W B ⟨k, ⟨l, p⟩, b, u, x, a⟩
  obtain ⟨y, M, H, G, I⟩ := lT B
  rw [H] at a
  refine bg (Wh l (Wa (ln (kZ ?_))))
  replace b := b.drew
  have d := b.has.kH (Kb Sn)
  refine mi d lN (XH 0 rfl d (fun _ n => kI x (kO n Mh (kK c) rfl bX aO)) (X 1 rfl d (kT u) (X 2 rfl d (kT rfl) (XQ 3 rfl d (oH (enc := kK) (i := (K : Int)) (x0 := y) aS aO rfl rfl g (aH _) G) (fun N D => XH 4 rfl d (fun _ n => kI rfl (lB n D bX aO)) (X 5 rfl d (uY rfl rfl (nW fK) (ra (vN _ c y))) (mu kr (kU (CI a rfl (fun z a => ?_) (fun z a => ?_))))))))))
  ·refine sg (Wm (Wa (ln ?_)))
   replace b := b.kH (Db St)
   refine lC (nC (lJ (nC (lJ ?_))))
   obtain rfl := sj a
   exact rP b
  exact mr (lL (kU ⟨l, _, ⟨rfl, p⟩, (b.kH St), u, x, (by rw [I]; exact a)⟩))
 rintro E W ⟨k, ⟨l, p⟩, b, u, x, a⟩
 rw [aI] at a
 refine kU ?_
 replace b := b.kH (Db St)
 exact sg (Wa (lt (rQ a b)))
theorem CM (a : Value) (g : List kF) (c : kF) (r : Bool) (w : World) (i : Sl (Pl kK) 9 (hp w) a g) (hm : tw g c = some r) :
  lE true Tryz.prog 124 [a, (.agg (kK c).toArray)] w (.bool r) := by
 refine cG 9 func124 rfl (fun b => sg (VE (lI b rfl (fun k u b => Wa (lr (Wm (VA b Mh (kK c) bX aO (bS hm fun x j hm => VE (Eg b call186 (Ez a g c _ _ (i.mono (Pl.mono _) b.kM) j) (fun t b => Wi rfl (Wa ?_)))))))))))
 refine ln ?_
 exact lC (rQ hm b)
theorem He (a : Value) (g : List kF) (c : kF) (r : Bool) (w : World) (i : Sl (Pl kK) 9 (hp w) a g) (hm : wG g c = some r) :
  lE true Tryz.prog 60 [a, (.agg (kK c).toArray)] w (.bool r) := by
 refine cG 8 func60 rfl (fun b => sg (VE (lI b rfl (fun k u b => Wa (lr (Wm (VA b Mh (kK c) bX aO (bS hm fun x j hm => VE (Eg b call124 (CM a g c _ _ (i.mono (Pl.mono _) b.kM) j) (fun t b => Wa (lH ?_)))))))))))
 refine kU ?_
 exact lC (rQ hm b)
theorem KT (a : kF) (r : List kD) (w : World) (hm : zI a = some r) :
  nA true Tryz.prog 243 [(.agg (kK a).toArray)] w 50 kR 2 r := by
 refine wM 27 func243 rfl (fun b => sg (VE (lI b rfl (fun W2 h b => Wa (lS (VA b Mh (kK a) bX aO (bS hm fun r3 q hm => VE (Eg b call113 (zY a _ _  q) (fun W5 b => V (ol rfl) (lH ?_))))))))))
 refine kU (CI hm rfl (fun n hm => ?_) (fun n hm => ?_))
 ·refine sg (Wa (ln ?_))
  replace b := b.kH (Db St)
  refine lC (lJ ?_)
  obtain rfl := sj hm
  exact mD (v := (.slice none 0 0)) rfl rfl ⟨_, [], rfl, b.oR (fun p d => by cases d) (by simp), lA.nil _ _ _⟩
 refine kg (Wf rJ (VA b Mh (kR a.Head) bI aR (VE (lD (cs := (kR a.Head).toArray) b (ni rfl) (nj fD aR fF) (fun W8 y b => Wa (ln (kZ (CJ hm (fun I E W => ∃ j i z, ST true lU w W (hp w) ((h, Ol (kK a) 52) :: (i ++ z)) ∧ E 1 = (.pointer (some ⟨h, 0, none⟩)) ∧ E 3 = j ∧ lA 50 kR 2 j I i) (fun I g => ?_) ?_))))))))
 ·refine sg (Wf rI (VB b (Mt Mh) rfl rfl cA (Wi rfl (ln (CI g rfl (fun Q g => ?_) (fun Q g => ?_))))))
  ·refine kW (Wm (Wf oP (VA b (Mt Mh) (kR a.B) bI aR (VE (lD (cs := (kR a.B).toArray) b (ni rfl) (nj fD aR fF) (fun L a4 b => ?_))))))
   replace b := b.perm (Nb (Pb Pz) Nz)
   refine bS g fun c0 T g => VE (oG (enc := kR) (v := (.slice (some ⟨y, 0, none⟩) 1 1)) (vs := (.slice (some ⟨a4, 0, none⟩) 1 1)) (R := [(y, Ol (kR a.Head) 50)]) b yg dc xd fD wI.1 wI.2.1 rfl wI.2.2.1 wI.2.2.2 rfl rfl (lA.lit (l := [a.Head]) (enc := kR) rfl dc rfl rfl) (Sl.lit (enc := kR) (l := [a.B]) yg rfl nb rfl (b.at_ (Mt Mh))) T (fun O a9 m b K => Wa (ln ?_)))
   obtain rfl := sj g
   exact ⟨a9, m, _, (b.kH (Sb (Pr (Pb Pz)) (Kr (Db St)))), rfl, rfl, K⟩
  refine kn ?_
  obtain rfl := sj g
  replace b := b.Bk
  exact ⟨(.slice (some ⟨y, 0, none⟩) 1 1), [(y, Ol (kR a.Head) 50)], _, (b.kH (Sb (Pr Pz) St)), rfl, rfl, (lA.lit (l := [a.Head]) (enc := kR) rfl dc rfl rfl)⟩
 rintro P E W ⟨j, i, z, b, D, G, u⟩ U
 refine kZ (CJ U (fun H E W => ∃ t k B, ST true lU w W (hp w) (k ++ B) ∧ E 3 = t ∧ lA 50 kR 2 t H k) (fun H c => ?_) ?_)
 ·refine sg (V (kP rI D) (VB b Mh rfl rfl cA (Wi rfl (ln (CI c rfl (fun M c => ?_) (fun M c => ?_))))))
  ·refine kW (Wh G (V (kP tD D) (VA b Mh (kR a.C) bI aR (VE (lD (cs := (kR a.C).toArray) b (ni rfl) (nj fD aR fF) (fun A a3 b => ?_))))))
   replace b := b.perm (Nr (Qb (Qb Qz)) Nz)
   refine bS c fun b9 N c => VE (oG (enc := kR) (v := j) (vs := (.slice (some ⟨a3, 0, none⟩) 1 1)) (R := i) b yg dc xd fD wI.1 wI.2.1 rfl wI.2.2.1 wI.2.2.2 rfl rfl u (Sl.lit (enc := kR) (l := [a.C]) yg rfl nb rfl (b.at_ (Ma Mh))) N (fun F s Z b J => Wa (ln ?_)))
   obtain rfl := sj c
   exact ⟨s, Z, _, (b.kH (Kr (Db (Db St)))), rfl, J⟩
  refine kn ?_
  obtain rfl := sj c
  exact ⟨j, i, _, (b.kH (Db St)), G, u⟩
 rintro b6 E W ⟨t, k, B, b, a5, x⟩ Y
 refine sg (Wh a5 (Wa (lt ?_)))
 obtain rfl := sj Y
 exact mD (v := t) rfl rfl ⟨_, k, rfl, b.oR (fun p d => (Ml d)) x.nd, x⟩
theorem Ee (M : Nat) (u : Value) (a9 : List (kD × (List (ByteArray × Bool)))) (G : LO) (D : Value) (a0 : List kF) (B : LO) (a : Value) (Y : List (kD × (List kF))) (I : LO) (c : Value) (K : List (ByteArray × (List kF))) (t : LO) (j : Value) (a4 : List lf) (y : LO) (J : Int) (H : kF) (r : ((List kF) × (List (kD × (List kF))) × (List (ByteArray × (List kF))))) (w : World) {μ0 : lQ} (h0 : oC μ0 ((M, Ob #[u, D, a, c, j, (.int .i64 J)] 189) :: (G ++ (B ++ (I ++ (t ++ (y ++ [])))))) w) (e9 : nk (fun (x : kD) => (.agg (kR x).toArray)) (nh Value.string (fun (x : Bool) => (Value.bool x))) u a9 G) (a6 : lA 52 kK 9 D a0 B) (b2 : nk (fun (x : kD) => (.agg (kR x).toArray)) (lA 52 kK 9) a Y I) (T : nk Value.string (lA 52 kK 9) c K t) (e1 : rz 111 lV 3 j a4 y) (hm : uy a9 a0 Y K a4 J H = some r) :
  mZ true Tryz.prog 187 [(.pointer (some ⟨M, 0, none⟩)), (.agg (kK H).toArray)] w ((M, Ob #[u, D, a, c, j, (.int .i64 J)] 189) :: (G ++ (B ++ (I ++ (t ++ (y ++ [])))))) (fun v L1 W' => ∃ y1 S2 S4 S6, v = (.tuple #[]) ∧ L1 = ((M, Ob #[u, y1, a, c, j, (.int .i64 J)] 189) :: (G ++ (S2 ++ (S4 ++ (S6 ++ (y ++ [])))))) ∧ lA 52 kK 9 y1 r.1 S2 ∧ nk (fun (x : kD) => (.agg (kR x).toArray)) (lA 52 kK 9) a r.2.1 S4 ∧ nk Value.string (lA 52 kK 9) c r.2.2 S6) := by
 refine BT h0 55 func187 rfl (fun d => sg (VE (lI d rfl (fun W2 b1 d => ln (kZ ?_)))))
 replace d := d.drew
 have m := d.has.kH (Kb Sn)
 have n := d.has.kH (Db (Kb Sn))
 refine wo 10 m n lN (mz 0 rfl kr (.inl rfl) rfl dc (fun _ _ h => ⟨h.1, mV br h.2⟩) ⟨m, fun _ => n⟩ (fun _ _ _ _ => kT rfl) (mz 1 rfl kr (.inl rfl) rfl dc (fun _ _ h => ⟨h.1, mV br h.2⟩) ⟨m, fun _ => n⟩ (fun _ _ _ _ => kT rfl) (mz 2 rfl kr (.inl rfl) rfl dc (fun _ _ h => ⟨h.1, mV br h.2⟩) ⟨m, fun _ => n⟩ (fun _ _ _ _ => nz rfl) (mz 3 rfl kr (.inl rfl) rfl dc (fun _ _ h => ⟨h.1, mV br h.2⟩) ⟨m, fun _ => n⟩ (fun _ _ _ _ => kP Iy rfl) (mz 4 rfl kr (.inl rfl) rfl dc (fun _ _ h => ⟨h.1, mV br h.2⟩) ⟨m, fun _ => n⟩ (fun l W q s => have p := (s.2 (q.Er 10 [4] kr rfl)); kI rfl (lg p Mh rfl kC)) (mz 5 rfl kr (.inl rfl) rfl dc (fun _ _ h => ⟨h.1, mV br h.2⟩) ⟨m, fun _ => n⟩ (fun l W q s => have p := s.1; kI rfl (kO p Mh (kK H) rfl bX aO)) (XE 6 rfl (lD (cs := (kK H).toArray) d (ni rfl) (nj aS aO cW) (fun k0 g0 d => ?_)))))))))
 have m := d.has.kH (Db (Kb Sn))
 have n := d.has.kH (Db (Db (Kb Sn)))
 refine ⟨⟨m, fun _ => n⟩, ?_⟩
 replace d := d.perm (Nr (Qb (Qb (Qb (Qr Qz)))) Nz)
 refine bS hm fun a5 f0 hm => XE 7 rfl (oG (enc := kK) (v := D) (vs := (.slice (some ⟨g0, 0, none⟩) 1 1)) (R := B) d mG dc oQ aS pc.1 pc.2.1 rfl pc.2.2.1 pc.2.2.2 rfl rfl a6 (Sl.lit (enc := kK) (l := [H]) mG rfl nb rfl (d.at_ (Ma Mh))) f0 (fun k1 k4 b7 d P => ?_))
 have m := d.has.kH (Dr (Db (Kb Sn)))
 have n := d.has.kH (Dr (Db (Db (Kb Sn))))
 refine ⟨⟨m, fun _ => n⟩, (mz 8 rfl kr (.inl rfl) rfl dc (fun _ _ h => ⟨h.1, mV br h.2⟩) ⟨m, fun _ => n⟩ (fun _ _ _ _ => nz rfl) (mz 9 rfl kr (.inl rfl) rfl dc (fun _ _ h => ⟨h.1, mV br h.2⟩) ⟨m, fun _ => n⟩ (fun _ _ _ _ => kP Iy rfl) ?_))⟩
 obtain ⟨a8, b0, rfl⟩ := P.form
 let A : Value := (.slice a8 a5.length b0)
 replace d := d.perm (Nb (Pr (Pb (Pb Pz))) Nz)
 refine XO 10 rfl (lh A (#[u, A, a, c, j, (.int .i64 J)]) d rfl rfl sizeOf28 oc nb rfl (fun k2 d => ?_))
 have m := d.has.kH (Db (Dr (Db (Kb Sn))))
 refine ⟨⟨m, fun h => AV kr h⟩, (mu kr (kU ?_))⟩
 replace d := d.kH (Kb (Kr (Db St)))
 refine kZ (sg (VA d (Mt (Ma Mh)) (kK H) bX aO (bS hm fun c1 f1 hm => VE (vh d call243 (KT H _ _  f1) (fun k3 k5 k6 j9 d g4 ab e8 => ?_)))))
 let b8 := (c1.drop (Int.toNat 1))
 obtain ⟨g3, d, g7, ad, f2⟩ := ST.O4 d e8 yg
 refine bS hm fun _ b9 hm => VQ (Dc (i := 1) fD aR rfl rfl f2 (vG b9) (vw b9)) (fun g1 b6 => V (ml fD rfl b6.1) (Wm (ln (mf (fun i E W => ∃ a3 U L, (E 20 = .int .i64 (i : Nat) ∧ E 19 = .int .i64 (b8.length : Nat)) ∧ ST true (keys ((M, Ob #[u, D, a, c, j, (.int .i64 J)] 189) :: (G ++ (B ++ (I ++ (t ++ (y ++ []))))))) w W g3 ((M, Ob #[u, A, a, c, j, (.int .i64 J)] 189) :: ((b1, Ol (kK H) 52) :: (U ++ (b7 ++ (G ++ (t ++ (y ++ L))))))) ∧ E 0 = (.pointer (some ⟨M, 0, none⟩)) ∧ E 3 = (.pointer (some ⟨b1, 0, none⟩)) ∧ E 18 = g1 ∧ nk (fun (x : kD) => (.agg (kR x).toArray)) (lA 52 kK 9) a a3 U ∧ py H K a5 (b8.drop i) a3 = some r) b8.length b6.1.len ⟨Y, I, _, ⟨rfl, rfl⟩, (d.kH (Kb (Sb (Pr Pz) (Sr (Qr (Qr Qz)) St)))), rfl, rfl, rfl, b2, hm⟩ dc dc dc (fun _ _ _ h => by obtain ⟨_, _, _, aa, _⟩ := h; exact aa) ?_ ?_))))
 ·rintro f3 E W d3 ⟨a3, U, L, ⟨eI, eN⟩, d, a2, N, O, Z, g⟩
  obtain ⟨Q, h4, d8, d7, d9⟩ := lT d3
  rw [d8] at g
  refine bg (VQ (oH (enc := kR) (i := (f3 : Int)) (x0 := Q) fD aR O eI b6.1 (aH _) d7) (fun j4 d4 => V (kI rfl (lB d.has d4 bI aR)) (VE (lG d fF (fun i1 j0 d => VO (lh (.agg (kR Q).toArray) ((kR Q).toArray) d rfl rfl aR (xd Q) nb rfl (fun i2 d => ln ?_)))))))
  replace d := d.drew
  have m := d.has.kH (Kb (Kb (Kb Sn)))
  refine mi m lN (X 0 rfl m (kT a2) (X 1 rfl m (nz rfl) (X 2 rfl m (kP LS rfl) (XH 3 rfl m (fun _ p => kI rfl (lg p (Mt Mh) rfl isAgg185)) (XH 4 rfl m (fun _ p => kI rfl (kO p Mh (kR Q) rfl bI aR)) (XH 5 rfl m (fun _ p => kI N (kO p (Mt (Mt Mh)) (kK H) rfl bX aO)) (XE 6 rfl (lD (cs := (kK H).toArray) d (ni rfl) (nj aS aO cW) (fun i3 e6 d => ?_)))))))))
  have m := d.has.kH (Db (Kb (Kb (Kb Sn))))
  refine ⟨m, ?_⟩
  obtain ⟨h1, d1⟩ := Z
  replace d := d.perm (Nr (Qb (Qb (Qb (Qb Qz)))) Nz)
  refine XE 7 rfl (MT (k := Q) (x0 := [])  lz Bh underlying185 kz (lA.nil _ _ _) d d1 rfl rfl (fun i4 f5 h3 h6 e2 d c3 c2 => ?_))
  have m := d.has.kH (Dr (Dr (Db (Kb (Kb (Kb Sn))))))
  refine ⟨m, (X 8 rfl m (Fi rfl rfl) (X 10 rfl m (Fi rfl rfl) ?_))⟩
  replace d := d.perm (Nr (Qr Qz) Nz)
  refine bS g fun c0 c8 g => XE 9 rfl (oG (enc := kK) (v := f5) (vs := (.slice (some ⟨e6, 0, none⟩) 1 1)) (R := e2) d mG dc oQ aS pc.1 pc.2.1 rfl pc.2.2.1 pc.2.2.2 rfl rfl c3 (Sl.lit (enc := kK) (l := [H]) mG rfl nb rfl (d.at_ (Ma (Ma Mh)))) c8 (fun i5 j5 h7 d c4 => ?_))
  have m := d.has.kH (Dr (Dr (Db (Kb (Kb (Kb Sn))))))
  refine ⟨m, ?_⟩
  replace d := d.perm (Nr (Qr Qz) Nz)
  refine XO 11 rfl (KQ (e := 0) (z := c0)  lz Bh d c2 rfl rfl rfl c4 (fun i6 h2 e3 d c5 => ?_))
  have m := d.has.kH (Dr (Db (Kb (Kb (Kb Sn)))))
  refine ⟨m, (mu kr (lL (kU ?_)))⟩
  replace d := d.kH (Kr (Db (Db St)))
  exact ⟨eI, (po lx a3 Q c0), e3, _, ⟨rfl, eN⟩, (d.kH (Sb (Pr Pz) (Sb (Pr Pz) St))), a2, N, O, c5.e, (by rw [d9]; exact g)⟩
 rintro E W ⟨a3, U, L, ⟨eI, eN⟩, d, a2, N, O, Z, g⟩
 rw [aI] at g
 refine kU (sg (V (kP rI N) (VB d (Mt Mh) rfl rfl cA (Wi rfl (ln (CI g rfl (fun c9 g => ?_) (fun c9 g => ?_)))))))
 ·replace d := d.drew
  have m := d.has.kH (Kb (Kb Sn))
  have n := d.has.kH (Db (Db (Dr (Dr (Dr (Kr Sn))))))
  refine wo 15 m n lN (mz 0 rfl kr (.inl rfl) rfl dc (fun _ _ h => ⟨h.1, mV br h.2⟩) ⟨m, fun _ => n⟩ (fun _ _ _ _ => kT a2) (mz 1 rfl kr (.inl rfl) rfl dc (fun _ _ h => ⟨h.1, mV br h.2⟩) ⟨m, fun _ => n⟩ (fun _ _ _ _ => nz rfl) (mz 2 rfl kr (.inl rfl) rfl dc (fun _ _ h => ⟨h.1, mV br h.2⟩) ⟨m, fun _ => n⟩ (fun _ _ _ _ => kP HX rfl) (mz 3 rfl kr (.inl rfl) rfl dc (fun _ _ h => ⟨h.1, mV br h.2⟩) ⟨m, fun _ => n⟩ (fun l W q s => have p := s.1; kI rfl (lg p Mh rfl isAgg186)) (mz 4 rfl kr (.inl rfl) rfl dc (fun _ _ h => ⟨h.1, mV br h.2⟩) ⟨m, fun _ => n⟩ (fun _ _ _ _ => kP vA N) (mz 5 rfl kr (.inl rfl) rfl dc (fun _ _ h => ⟨h.1, mV br h.2⟩) ⟨m, fun _ => n⟩ (fun l W q s => have p := s.1; kI rfl (lg p (Mt Mh) rfl bW)) (mz 6 rfl kr (.inl rfl) rfl dc (fun _ _ h => ⟨h.1, mV br h.2⟩) ⟨m, fun _ => n⟩ (fun _ _ _ _ => kT a2) (mz 7 rfl kr (.inl rfl) rfl dc (fun _ _ h => ⟨h.1, mV br h.2⟩) ⟨m, fun _ => n⟩ (fun _ _ _ _ => nz rfl) (mz 8 rfl kr (.inl rfl) rfl dc (fun _ _ h => ⟨h.1, mV br h.2⟩) ⟨m, fun _ => n⟩ (fun _ _ _ _ => kP HX rfl) (mz 9 rfl kr (.inl rfl) rfl dc (fun _ _ h => ⟨h.1, mV br h.2⟩) ⟨m, fun _ => n⟩ (fun l W q s => have p := s.1; kI rfl (lg p Mh rfl isAgg186)) (mz 10 rfl kr (.inl rfl) rfl dc (fun _ _ h => ⟨h.1, mV br h.2⟩) ⟨m, fun _ => n⟩ (fun _ _ _ _ => kP vA N) (mz 11 rfl kr (.inl rfl) rfl dc (fun _ _ h => ⟨h.1, mV br h.2⟩) ⟨m, fun _ => n⟩ (fun l W q s => have p := s.1; kI rfl (lg p (Mt Mh) rfl bW)) ?_))))))))))))
  obtain ⟨e0, F⟩ := T
  obtain ⟨h8, g8, g9⟩ := nV.rowAt np.1 F H.mc
  refine mz 12 rfl kr (.inl rfl) rfl dc (fun _ _ h => ⟨h.1, mV br h.2⟩) ⟨m, fun _ => n⟩ (fun l W q s => have p := (s.2 (q.Er 15 [12] kr rfl)); qg (k := H.mc) (z := (.slice none 0 0)) Hq underlying186 kz rfl rfl F (fun b o hq => p.2 b o (Ml hq))) (mz 13 rfl kr (.inl rfl) rfl dc (fun _ _ h => ⟨h.1, mV br h.2⟩) ⟨m, fun _ => n⟩ (fun l W q s => have p := s.1; kI N (kO p (Mt Mh) (kK H) rfl bX aO)) (XE 14 rfl (lD (cs := (kK H).toArray) d (ni rfl) (nj aS aO cW) (fun i7 e7 d => ?_))))
  have m := d.has.kH (Db (Kb (Kb Sn)))
  have n := d.has.kH (Db (Db (Db (Dr (Dr (Dr (Kr Sn)))))))
  refine ⟨⟨m, fun _ => n⟩, ?_⟩
  replace d := d.perm (Nr (Qb (Qb (Qb (Qr (Qr (Qr Qz)))))) Nz)
  obtain ⟨h9, e4, d5, d6, d2⟩ := nV.open np.1 (lA.nil _ _ _) F H.mc
  replace d := d.perm (Ul d5)
  replace d := d.perm (Nr (Qr Qz) Nz)
  refine bS g fun f4 d0 g => XE 15 rfl (oG (enc := kK) (v := (sG mx e0 H.mc (.slice none 0 0))) (vs := (.slice (some ⟨e7, 0, none⟩) 1 1)) (R := e4) d mG dc oQ aS pc.1 pc.2.1 rfl pc.2.2.1 pc.2.2.2 rfl rfl d6 (Sl.lit (enc := kK) (l := [H]) mG rfl nb rfl (d.at_ (Ma (Ma Mh)))) d0 (fun i8 j6 i0 d c6 => ?_))
  have m := d.has.kH (Dr (Dr (Db (Kb (Kb Sn)))))
  refine ⟨⟨m, fun h => AV kr h⟩, ?_⟩
  replace d := d.perm (Nr (Qr Qz) Nz)
  refine XO 16 rfl (RH (k := H.mc) (z := f4)  Hq underlying186 d d2 rfl rfl rfl c6 (fun i9 e5 d c7 => ?_))
  have m := d.has.kH (Dr (Db (Kb (Kb Sn))))
  refine ⟨⟨m, fun h => AV kr h⟩, (mu kr (rM ?_))⟩
  obtain rfl := sj g
  exact pV rfl ⟨_, _, rfl, (d.mX (Sb (Pr (Pb Pz)) (Sr (Qr (Qb (Qb (Qr (Qr Qz))))) (Sr (Qr (Qb (Qb (Qr Qz)))) (Sr (Qr (Qb (Qb Qz))) (Kr (Db (Db (Kr Sn))))))))), A, b7, U, e5, rfl, rfl, P, Z, c7.e⟩
 refine mr (rM ?_)
 obtain rfl := sj g
 exact pV rfl ⟨_, _, rfl, (d.mX (Kb (Db (Sr (Qr (Qr Qz)) (Sr (Qr Qz) (Kr (Kr (Kr Sn)))))))), A, b7, U, t, rfl, rfl, P, Z, T⟩
theorem sd (J : Nat) (g : Value) (a0 : List (kD × (List (ByteArray × Bool)))) (D : LO) (a : Value) (M : List kF) (u : LO) (j : Value) (Z : List (kD × (List kF))) (B : LO) (c : Value) (N : List (ByteArray × (List kF))) (y : LO) (i : Value) (Y : List lf) (t : LO) (H : Int) (G : kD) (U : ByteArray) (r : ((List (kD × (List (ByteArray × Bool)))) × (List lf) × Int)) (w : World) {μ0 : lQ} (h0 : oC μ0 ((J, Ob #[g, a, j, c, i, (.int .i64 H)] 189) :: (D ++ (u ++ (B ++ (y ++ (t ++ [])))))) w) (a5 : nk (fun (x : kD) => (.agg (kR x).toArray)) (nh Value.string (fun (x : Bool) => (Value.bool x))) g a0 D) (b5 : lA 52 kK 9 a M u) (c3 : nk (fun (x : kD) => (.agg (kR x).toArray)) (lA 52 kK 9) j Z B) (b6 : nk Value.string (lA 52 kK 9) c N y) (K : rz 111 lV 3 i Y t) (hm : oV a0 M Z N Y H G U = some r) :
  mZ true Tryz.prog 244 [(.pointer (some ⟨J, 0, none⟩)), (.agg (kR G).toArray), (.string U)] w ((J, Ob #[g, a, j, c, i, (.int .i64 H)] 189) :: (D ++ (u ++ (B ++ (y ++ (t ++ [])))))) (fun v L1 W' => ∃ S1 y3 S4, v = (.tuple #[]) ∧ L1 = ((J, Ob #[g, a, j, c, y3, (.int .i64 (r.2.2))] 189) :: (S1 ++ (u ++ (B ++ (y ++ (S4 ++ [])))))) ∧ nk (fun (x : kD) => (.agg (kR x).toArray)) (nh Value.string (fun (x : Bool) => (Value.bool x))) g r.1 S1 ∧ rz 111 lV 3 y3 r.2.1 S4) := by
 let O := (#[g, a, j, c, i, (.int .i64 H)] : Array Value)
 refine BT h0 53 func244 rfl (fun m => sg (VE (lI m rfl (fun W2 b1 m => ln (kZ (kZ ?_))))))
 replace m := m.drew
 have d := m.has.kH (Kb (Kb (Kr Sn)))
 refine mi d lN (X 0 rfl d (kT rfl) (X 1 rfl d (nz rfl) (X 2 rfl d (kP xZ rfl) (XH 3 rfl d (fun _ p => kI rfl (lg p (Mt Mh) rfl jz)) (XH 4 rfl d (fun _ p => kI rfl (kO p Mh (kR G) rfl bI aR)) ?_)))))
 obtain ⟨f4, Q⟩ := a5
 refine XH 5 rfl d (fun _ p => qg (k := G) (z := (.map none)) Bh fU gT rfl rfl Q (fun b o A => p.2 b o (Mt (Mt (Ml A))))) (X 6 rfl d (kT rfl) (XH 7 rfl d (fun _ p => AQ (k := U) (z := false) (vf := (fun (x : Bool) => (Value.bool x))) Hq gZ kk rfl rfl (nV.D4 (μ := hp _) lz.1 Q G (fun b o A => p.2 b o (Mt (Mt (Ml A)))))) (mu kr (kU (CI hm rfl (fun d5 hm => ?_) (fun d5 hm => ?_))))))
 ·refine lC (lJ ?_)
  obtain rfl := sj hm
  exact pV rfl ⟨_, _, rfl, (m.mX (Db (Kb (Kr (Kr (Kr (Kr (Kr Sn)))))))), D, i, t, rfl, rfl, Q.e, K⟩
 refine kn (kZ (CJ hm (fun b2 E W => ∃ L c0, ST true (keys ((J, Obj.cells O 189 (0, 0)) :: (D ++ (u ++ (B ++ (y ++ (t ++ []))))))) w W μ0 ((b1, Ol (kR G) 50) :: ((J, Obj.cells O 189 (0, 0)) :: (L ++ (u ++ (B ++ (y ++ (t ++ c0))))))) ∧ E 0 = (.pointer (some ⟨J, 0, none⟩)) ∧ E 2 = (.string U) ∧ E 4 = (.pointer (some ⟨b1, 0, none⟩)) ∧ nk (fun (x : kD) => (.agg (kR x).toArray)) (nh Value.string (fun (x : Bool) => (Value.bool x))) g b2 L) (fun b2 I => ?_) ?_))
 ·refine kZ ?_
  replace m := m.drew
  have d := m.has.kH (Kb (Kb (Kr Sn)))
  refine mi d lN (X 0 rfl d (kT rfl) (X 1 rfl d (nz rfl) (X 2 rfl d (kP xZ rfl) (XH 3 rfl d (fun _ p => kI rfl (lg p (Mt Mh) rfl jz)) (XH 4 rfl d (fun _ p => kI rfl (kO p Mh (kR G) rfl bI aR)) (XH 5 rfl d (fun _ p => qg (k := G) (z := (.map none)) Bh fU gT rfl rfl Q (fun b o A => p.2 b o (Mt (Mt (Ml A))))) (X 6 rfl d (Li lz.1 gZ Q rfl rfl) (mu kr (kU (CI I rfl (fun b7 I => ?_) (fun b7 I => ?_)))))))))))
  ·replace m := m.drew
   have d := m.has.kH (Kb (Kb Sn))
   refine mi d lN (X 0 rfl d (kT rfl) (X 1 rfl d (nz rfl) (X 2 rfl d (kP xZ rfl) (XH 3 rfl d (fun _ p => kI rfl (lg p (Mt Mh) rfl jz)) (XH 4 rfl d (fun _ p => kI rfl (kO p Mh (kR G) rfl bI aR)) (XE 5 rfl (II (P := Tryz.prog) Value.string (fun (x : Bool) => (Value.bool x)) m (fun e1 e7 d9 m b3 => ?_))))))))
   have d := m.has.kH (Dr (Kb (Kb Sn)))
   refine ⟨d, ?_⟩
   replace m := m.perm (Nr (Qr (Qb (Qb Qz))) Nz)
   refine bS I fun e4 b9 I => XO 6 rfl (ON (k := G) (z := ([]))  Bh fU m Q rfl rfl rfl b3 b9 (fun e2 c4 m b4 => ?_))
   have d := m.has.kH (Dr (Kb (Kb Sn)))
   refine ⟨d, (mu kr (kU ?_))⟩
   obtain rfl := sj I
   exact ⟨c4, _, (m.kH (Sb (Pr Pz) (Sb (Pr Pz) St))), rfl, rfl, rfl, b4.e⟩
  refine kn ?_
  obtain rfl := sj I
  exact ⟨D, _, (m.kH St), rfl, rfl, rfl, Q.e⟩
 rintro f2 E W ⟨L, c0, m, F, c1, c2, c8⟩ T
 refine kZ ?_
 replace m := m.drew
 have d := m.has.kH (Kb (Kb Sn))
 have n := m.has.kH (Db (Db (Kr Sn)))
 refine wo 7 d n lN (mz 0 rfl kr (.inl rfl) rfl dc (fun _ _ h => ⟨h.1, mV br h.2⟩) ⟨d, fun _ => n⟩ (fun _ _ _ _ => kT F) (mz 1 rfl kr (.inl rfl) rfl dc (fun _ _ h => ⟨h.1, mV br h.2⟩) ⟨d, fun _ => n⟩ (fun _ _ _ _ => nz rfl) (mz 2 rfl kr (.inl rfl) rfl dc (fun _ _ h => ⟨h.1, mV br h.2⟩) ⟨d, fun _ => n⟩ (fun _ _ _ _ => kP xZ rfl) (mz 3 rfl kr (.inl rfl) rfl dc (fun _ _ h => ⟨h.1, mV br h.2⟩) ⟨d, fun _ => n⟩ (fun l W q s => have p := s.1; kI rfl (lg p (Mt Mh) rfl jz)) (mz 4 rfl kr (.inl rfl) rfl dc (fun _ _ h => ⟨h.1, mV br h.2⟩) ⟨d, fun _ => n⟩ (fun l W q s => have p := s.1; kI c2 (kO p Mh (kR G) rfl bI aR)) ?_)))))
 obtain ⟨e5, a9⟩ := c8
 refine mz 5 rfl kr (.inl rfl) rfl dc (fun _ _ h => ⟨h.1, mV br h.2⟩) ⟨d, fun _ => n⟩ (fun l W q s => have p := (s.2 (q.Er 7 [5] kr rfl)); qg (k := G) (z := (.map none)) Bh fU gT rfl rfl a9 (fun b o A => p.2 b o (Ml A))) (mz 6 rfl kr (.inl rfl) rfl dc (fun _ _ h => ⟨h.1, mV br h.2⟩) ⟨d, fun _ => n⟩ (fun _ _ _ _ => kT c1) ?_)
 replace m := m.perm (Nr (Qb (Qb Qz)) Nz)
 refine bS T fun f3 c7 T => XO 7 rfl (Np (k := G) (v := true) (vf := (fun (x : Bool) => (Value.bool x)))  lz.1 Hq gZ m a9 rfl rfl rfl c7 (fun e8 c9 m c5 => ?_))
 have d := m.has.kH (Dr (Kb (Kb Sn)))
 refine ⟨⟨d, fun h => AV kr h⟩, (mu kr (kU (sg (Wh F (Wn (Wf FD (VB m (Ma (Mt Mh)) rfl rfl cA (Wi rfl (Wn (Wf FD ?_))))))))))⟩
 replace m := m.perm (Nb (Pr (Pb Pz)) Nz)
 refine VO (lh (.int .i64 (IntKind.i64.wrap (H + 1))) (#[g, a, j, c, i, (.int .i64 (IntKind.i64.wrap (H + 1)))]) m rfl rfl fP (GV _ (IntKind.i64.wrap (H + 1))) nb rfl (fun e9 m => ln ?_))
 replace m := m.drew
 have d := m.has.kH (Db (Dr (Kb Sn)))
 have n := m.has.kH (Kb Sn)
 refine wo 12 d n lN (mz 0 rfl kr (.inl rfl) rfl dc (fun _ _ h => ⟨h.1, mV br h.2⟩) ⟨d, fun _ => n⟩ (fun _ _ _ _ => kT F) (mz 1 rfl kr (.inl rfl) rfl dc (fun _ _ h => ⟨h.1, mV br h.2⟩) ⟨d, fun _ => n⟩ (fun _ _ _ _ => kT F) (mz 2 rfl kr (.inl rfl) rfl dc (fun _ _ h => ⟨h.1, mV br h.2⟩) ⟨d, fun _ => n⟩ (fun _ _ _ _ => nz rfl) (mz 3 rfl kr (.inl rfl) rfl dc (fun _ _ h => ⟨h.1, mV br h.2⟩) ⟨d, fun _ => n⟩ (fun _ _ _ _ => kP BH rfl) (mz 4 rfl kr (.inl rfl) rfl dc (fun _ _ h => ⟨h.1, mV br h.2⟩) ⟨d, fun _ => n⟩ (fun l W q s => have p := (s.2 (q.Er 12 [4] kr rfl)); kI rfl (lg p Mh rfl isAgg187)) (mz 5 rfl kr (.inl rfl) rfl dc (fun _ _ h => ⟨h.1, mV br h.2⟩) ⟨d, fun _ => n⟩ (fun l W q s => have p := s.1; kI c2 (kO p Mh (kR G) rfl bI aR)) (mz 6 rfl kr (.inl rfl) rfl dc (fun _ _ h => ⟨h.1, mV br h.2⟩) ⟨d, fun _ => n⟩ (fun _ _ _ _ => kT c1) (mz 7 rfl kr (.inl rfl) rfl dc (fun _ _ h => ⟨h.1, mV br h.2⟩) ⟨d, fun _ => n⟩ (fun _ _ _ _ => mB (v := (.agg (lV (⟨G, U⟩ : lf)).toArray)) (oJ rfl rfl) (mn fR fS (Nn _ fS) kr)) (XE 8 rfl (lD (cs := (lV (⟨G, U⟩ : lf)).toArray) m (ni rfl) (nj cU dR fR) (fun f0 d4 m => ?_)))))))))))
 have d := m.has.kH (Db (Db (Dr (Kb Sn))))
 have n := m.has.kH (Db (Kb Sn))
 refine ⟨⟨d, fun _ => n⟩, ?_⟩
 replace m := m.perm (Nr (Qb (Qb (Qr (Qb (Qr (Qr (Qr Qz))))))) Nz)
 refine bS T fun b0 c6 T => XE 9 rfl (Lp (enc := lV) (v := i) (vs := (.slice (some ⟨d4, 0, none⟩) 1 1)) (R := t) m qY dc Ak cU vn.1 vn.2.1 rfl vn.2.2.1 vn.2.2.2 rfl rfl K (Sl.lit (enc := lV) (l := [(⟨G, U⟩ : lf)]) qY rfl nb rfl (m.at_ (Ma Mh))) c6 (fun f1 e6 d0 m a7 => ?_))
 have d := m.has.kH (Dr (Db (Db (Dr (Kb Sn)))))
 have n := m.has.kH (Dr (Db (Kb Sn)))
 refine ⟨⟨d, fun _ => n⟩, (mz 10 rfl kr (.inl rfl) rfl dc (fun _ _ h => ⟨h.1, mV br h.2⟩) ⟨d, fun _ => n⟩ (fun _ _ _ _ => nz rfl) (mz 11 rfl kr (.inl rfl) rfl dc (fun _ _ h => ⟨h.1, mV br h.2⟩) ⟨d, fun _ => n⟩ (fun _ _ _ _ => kP BH rfl) ?_))⟩
 obtain ⟨a3, a4, rfl⟩ := a7.form
 let a2 : Value := (.slice a3 b0.length a4)
 replace m := m.perm (Nb (Pr (Pb Pz)) Nz)
 refine XO 12 rfl (lh a2 (#[g, a, j, c, a2, (.int .i64 (IntKind.i64.wrap (H + 1)))]) m rfl rfl sizeOf187 oc nb rfl (fun e0 m => ?_))
 have d := m.has.kH (Db (Dr (Db (Dr (Kb Sn)))))
 refine ⟨⟨d, fun h => AV kr h⟩, (mu kr (rM ?_))⟩
 obtain rfl := sj T
 exact pV rfl ⟨_, _, rfl, (m.mX (Kb (Sr (Qr (Qb Qz)) (Sr (Qr (Qb (Qb Qz))) (Sr (Qr (Qb (Qb Qz))) (Sr (Qr (Qb (Qb Qz))) (Kr Sn))))))), c9, a2, d0, rfl, rfl, c5.e, a7⟩
theorem wL (a : Value) (g : List (ByteArray × Bool)) (r : Unit) (w : World) (c : xt Value.string (fun (x : Bool) => (Value.bool x)) (hp w) a g) (hm : pI g = some r) :
  mZ true Tryz.prog 283 [a] w [] (fun v k W' => ∃ i, v = (.func (.func 319) #[] #[(.pointer (some ⟨i, 0, none⟩))]) ∧ k = ((i, Ob #[a] 190) :: [])) := by
 refine wM 4 func283 rfl (fun b => sg ?_)
 obtain ⟨t, rfl⟩ := c.form
 refine VE (lI b rfl (fun u j b => Wa (lr (V (xa (by exact wE rfl) rfl) (Wa (lt ?_))))))
 obtain rfl := sj hm
 exact mD (v := (.func (.func 319) #[] #[(.pointer (some ⟨j, 0, none⟩))])) rfl rfl ⟨_, _, rfl, (b.LR (Kb Sn)), j, rfl, rfl⟩
theorem Ic {β : Type} {vf : β → Value} {l : List (ByteArray × β)} {b : Nat} {a : Value} {W : World} {r : List ByteArray} (d : W.heap[b]? = some (.cells #[a] 190 (0, 0))) (hm : xt Value.string vf (hp W) a l) (hk : G2 l = some r) : nA false Tryz.prog 282 [.func (.func 319) #[] #[.pointer (some ⟨b, 0, none⟩)]] W 9 uv 1 r := KY (P := Tryz.prog) Q9 Q6 RY rfl cD call319 call310 d hm hk
theorem zh (T : Nat) (a : Value) (u : List (kD × (List (ByteArray × Bool)))) (c : Value) (t : List kF) (j : Value) (G : List (kD × (List kF))) (g : Value) (B : List (ByteArray × (List kF))) (i : Value) (D : List lf) (Q : Int) (H : kD) (r : List ByteArray) (w : World) (J : sL (fun (x : kD) => (.agg (kR x).toArray)) (nh Value.string (fun (x : Bool) => (Value.bool x))) (hp w) a u) (Z : Sl (Pl kK) 9 (hp w) c t) (a4 : sL (fun (x : kD) => (.agg (kR x).toArray)) (lA 52 kK 9) (hp w) j G) (a0 : sL Value.string (lA 52 kK 9) (hp w) g B) (a3 : Sl (Pl lV) 3 (hp w) i D) (Y : At (hp w) (.pointer (some ⟨T, 0, none⟩)) [a, c, j, g, i, (.int .i64 Q)]) (hm : rK u t G B D Q H = some r) :
  nA false Tryz.prog 245 [(.pointer (some ⟨T, 0, none⟩)), (.agg (kR H).toArray)] w 9 uv 1 r := by
 refine wM 15 func245 rfl (fun d => sg (VE (lI d rfl (fun W2 P d => Wa (lS (Wm (V (yj underlying132 rfl rfl) (ln (rT rfl ?_)))))))))
 refine kn (kZ ?_)
 replace d := d.drew
 have h := d.has.kH (Kb Sn)
 refine mi h lN (X 0 rfl h (kT rfl) (X 1 rfl h (nz rfl) (XQ 2 rfl h (zt [a] xZ rfl Y rfl) (fun b9 A => XH 3 rfl h (fun _ l => kI rfl (tX l (y := a) A jz)) (XH 4 rfl h (fun _ l => kI rfl (kO l Mh (kR H) rfl bI aR)) ?_)))))
 obtain ⟨a9, W, K, M⟩ := J
 refine XH 5 rfl h (fun _ l => qg (k := H) (z := (.map none)) Bh fU gT rfl rfl K (fun b o m => l.1 b o (M b o m))) (bS hm fun c0 E hm => ?_)
 refine XE 6 rfl (F7 d (aY _) call283 (fun _ _ _ _ => mZ.mR (wL (sG lx a9 H (.map none)) ((mJ lx u H).getD []) _ _ ((nV.D4 lz.1 K H M).mono d.kM) E)) (fun b5 c2 c3 R d I q n a5 => ?_) (L0 := []))
 obtain ⟨b7, N, rfl⟩ := a5
 replace N := N.symm; subst N
 replace d := d.perm (Tb Tn)
 have h := d.has.pZ I (Db (Kb Sn))
 refine ⟨h, (bS hm fun c1 F hm => XE 7 rfl (vh d call282 (Ic (vf := (fun (x : Bool) => (Value.bool x))) (d.has.2 _ _ Mh) ((nV.D4 lz.1 K H M).mono (fun b o m => d.has.1 b o (I b o m))) F) (fun b6 O c4 L d a2 s U => ?_)))⟩
 have h := d.has.pZ (I.trans a2) (Dr (Db (Kb Sn)))
 refine ⟨h, (X 8 rfl h (od rfl) (mu kr (kU ?_)))⟩
 replace d := d.kH (Kr (Db (Db St)))
 refine lC ?_
 obtain rfl := sj hm
 exact mD (v := O) rfl rfl ⟨_, L, rfl, d.oR (fun p m => (Ml m)) U.nd, U⟩
theorem Ev (K : Nat) (g : Value) (N : List (kD × (List (ByteArray × Bool)))) (G : LO) (a : Value) (H : List kF) (k : LO) (j : Value) (J : List (kD × (List kF))) (u : LO) (c : Value) (I : List (ByteArray × (List kF))) (t : LO) (z : Value) (M : List lf) (B : LO) (Z : Int) (A a2 : kD) (r : ((List (kD × (List (ByteArray × Bool)))) × (List lf) × Int)) (w : World) {μ0 : lQ} (h0 : oC μ0 ((K, Ob #[g, a, j, c, z, (.int .i64 Z)] 189) :: (G ++ (k ++ (u ++ (t ++ (B ++ [])))))) w) (a5 : nk (fun (x : kD) => (.agg (kR x).toArray)) (nh Value.string (fun (x : Bool) => (Value.bool x))) g N G) (Q : lA 52 kK 9 a H k) (a4 : nk (fun (x : kD) => (.agg (kR x).toArray)) (lA 52 kK 9) j J u) (T : nk Value.string (lA 52 kK 9) c I t) (a3 : rz 111 lV 3 z M B) (hm : vd N H J I M Z A a2 = some r) :
  mZ false Tryz.prog 284 [(.pointer (some ⟨K, 0, none⟩)), (.agg (kR A).toArray), (.agg (kR a2).toArray)] w ((K, Ob #[g, a, j, c, z, (.int .i64 Z)] 189) :: (G ++ (k ++ (u ++ (t ++ (B ++ [])))))) (fun v L1 W' => ∃ S1 y3 S4, v = (.tuple #[]) ∧ L1 = ((K, Ob #[g, a, j, c, y3, (.int .i64 (r.2.2))] 189) :: (S1 ++ (k ++ (u ++ (t ++ (S4 ++ [])))))) ∧ nk (fun (x : kD) => (.agg (kR x).toArray)) (nh Value.string (fun (x : Bool) => (Value.bool x))) g r.1 S1 ∧ rz 111 lV 3 y3 r.2.1 S4) := by
 refine BT h0 21 func284 rfl (fun d => sg (VE (lI d rfl (fun W2 b1 d => VE (lI d rfl (fun W4 b3 d => lr (Wm (VA d (Mt Mh) (kR A) bI aR (bS hm fun r5 e6 hm => VE (vh d call245 (zh K g N a H j J c I z M Z A _ _ (a5.at (fun b o l => d.at_ (Mt (Mt (Mt (Ml l)))))) (Q.sl mG (fun b o l => d.at_ (Mt (Mt (Mt (Ma (Ml l))))))) (a4.at (fun b o l => d.at_ (Mt (Mt (Mt (Ma (Ma (Ml l)))))))) (T.at (fun b o l => d.at_ (Mt (Mt (Mt (Ma (Ma (Ma (Ml l))))))))) ((a3.Eo qY).mono (Pl.mono _) (nn (fun b o l => d.at_ (Mt (Mt (Mt (Ma (Ma (Ma (Ma (Ml l))))))))))) (At.of (d.at_ (Mt (Mt Mh))) _ rfl) e6) (fun W7 e7 s e2 d f5 ae a9 => V (oq dK rfl a9) (Wm ?_))))))))))))
 refine ln ?_
 replace d := d.kH (Kr (Kb (Db St)))
 refine qw (mf (fun i E W => ∃ m U a0 n Y q F P, (E 12 = .int .i64 (i : Nat) ∧ E 11 = .int .i64 (r5.length : Nat)) ∧ lu s F ∧ ST false (keys ((K, Ob #[g, a, j, c, z, (.int .i64 Z)] 189) :: (G ++ (k ++ (u ++ (t ++ (B ++ []))))))) w W F ((K, Ob #[g, a, j, c, a0, (.int .i64 q)] 189) :: ((b3, Ol (kR a2) 50) :: (U ++ (k ++ (u ++ (t ++ (Y ++ (e2 ++ P)))))))) ∧ E 0 = (.pointer (some ⟨K, 0, none⟩)) ∧ E 5 = (.pointer (some ⟨b3, 0, none⟩)) ∧ E 10 = e7 ∧ nk (fun (x : kD) => (.agg (kR x).toArray)) (nh Value.string (fun (x : Bool) => (Value.bool x))) g m U ∧ rz 111 lV 3 a0 n Y ∧ re H J I a2 (r5.drop i) m n q = some r) r5.length a9.len ⟨N, G, z, M, B, Z, s, _, ⟨rfl, rfl⟩, (lu.refl _), (d.kH (Sb (Pr (Pb Pz)) (Sb (Pr Pz) (Sr (Qr Qz) (Sr (Qr Qz) (Sr (Qr Qz) (Sr (Qr Qz) (Sr (Qr Qz) St)))))))), rfl, rfl, rfl, a5, a3, hm⟩ dc dc dc (fun _ _ _ h => by obtain ⟨_, _, _, _, _, _, _, _, aa, _⟩ := h; exact aa) ?_ ?_)
 ·rintro d8 E W c9 ⟨m, U, a0, n, Y, q, F, P, ⟨eI, eN⟩, b6, d, R, c1, c2, L, O, D⟩
  obtain ⟨c4, f0, d2, c5, d3⟩ := lT c9
  rw [d2] at D
  refine bg (VQ (pg (i := (d8 : Int)) (x0 := c4) dK gJ c2 eI a9 (aH _) c5) (fun f6 d0 => V (kI rfl (DN d.has (fun p l => (Mt (Mt (Ma (Ma (Ma (Ma (Ma (Ml l))))))))) a9 (fun _ => rfl) d0 c5 (y := (.string c4)) rfl bW)) (Wa (ln (kW (Wh R (V (kI c1 (kO d.has (Mt Mh) (kR a2) rfl bI aR)) (Wm (bS D fun c3 d1 D => ?_)))))))))
  refine VE (eM d (Cb Pz (Cr (Qb Qz) (Cr (Qb Qz) (Cr (Qb Qz) (Cr (Qb Qz) (Cr (Qb Qz) Cn)))))) call244 (fun hh _ => mZ.mR (sd K g m U a H k j J u c I t a0 n Y q a2 c4 _ _ hh L Q a4 T O d1)) ?_)
  rintro _ f7 e1 f2 d c7 ab ad ⟨d6, e0, d7, b4, rfl, d4, d5⟩
  obtain rfl := b4.symm
  replace d := d.perm (Tb (Tr (Tr (Tr (Tr (Tr Tn))))))
  exact lH (lL (kU ⟨eI, c3.1, d6, e0, c3.2.1, d7, c3.2.2, e1, _, ⟨rfl, eN⟩, (b6.trans c7), (d.kH (Kb (Sb (Pr (Pr (Pr (Pr (Pr Pz))))) St))), R, c1, c2, d4, d5, (by rw [d3]; exact D)⟩))
 rintro E W ⟨m, U, a0, n, Y, q, F, P, ⟨eI, eN⟩, b6, d, R, c1, c2, L, O, D⟩
 rw [aI] at D
 refine kU ?_
 replace d := d.kH (Kb (Db (Kr (Kr (Kr (Kr (Kr (Dr St))))))))
 refine rM ?_
 obtain rfl := sj D
 exact pV rfl ⟨_, _, rfl, (d.mX (Kb (Kr (Kr (Kr (Kr (Kr Sn))))))), U, a0, Y, rfl, rfl, L, O⟩
theorem Ah (K : Nat) (G : Value) (Z : List (kD × (List (ByteArray × Bool)))) (D : LO) (g : Value) (I : List kF) (a : LO) (B : Value) (N : List (kD × (List kF))) (y : LO) (i : Value) (J : List (ByteArray × (List kF))) (c : LO) (t : Value) (M : List lf) (j : LO) (a0 : Int) (Q : kF) (a2 : lf) (r : ((List (kD × (List (ByteArray × Bool)))) × (List lf) × Int)) (w : World) {μ0 : lQ} (h0 : oC μ0 ((K, Ob #[G, g, B, i, t, (.int .i64 a0)] 189) :: (D ++ (a ++ (y ++ (c ++ (j ++ [])))))) w) (U : nk (fun (x : kD) => (.agg (kR x).toArray)) (nh Value.string (fun (x : Bool) => (Value.bool x))) G Z D) (T : lA 52 kK 9 g I a) (a3 : nk (fun (x : kD) => (.agg (kR x).toArray)) (lA 52 kK 9) B N y) (Y : nk Value.string (lA 52 kK 9) i J c) (H : rz 111 lV 3 t M j) (hm : sJ Z I N J M a0 Q a2 = some r) :
  mZ false Tryz.prog 246 [(.pointer (some ⟨K, 0, none⟩)), (.agg (kK Q).toArray), (.agg (lV a2).toArray)] w ((K, Ob #[G, g, B, i, t, (.int .i64 a0)] 189) :: (D ++ (a ++ (y ++ (c ++ (j ++ [])))))) (fun v L1 W' => ∃ S1 y3 S4, v = (.tuple #[]) ∧ L1 = ((K, Ob #[G, g, B, i, y3, (.int .i64 (r.2.2))] 189) :: (S1 ++ (a ++ (y ++ (c ++ (S4 ++ [])))))) ∧ nk (fun (x : kD) => (.agg (kR x).toArray)) (nh Value.string (fun (x : Bool) => (Value.bool x))) G r.1 S1 ∧ rz 111 lV 3 y3 r.2.1 S4) := by
 let s := (#[G, g, B, i, t, (.int .i64 a0)] : Array Value)
 refine BT h0 57 func246 rfl (fun d => sg (VE (lI d rfl (fun W2 A d => VE (lI d rfl (fun W4 L d => lr (Wf rI (VB d (Mt Mh) rfl rfl cA (ln (mK (kZ ?_)))))))))))
 refine kW (Wi rfl (Wa (ln (CI hm rfl (fun e5 hm => ?_) (fun e5 hm => ?_)))))
 ·refine kW (Wm (Wf rJ (VA d (Mt Mh) (kR Q.Head) bI aR (Wf xc (VB d Mh rfl rfl bW (bS hm fun r6 e6 hm => ?_))))))
  refine VE (eM d (Cb (Pb (Pb Pz)) (Cr (Qb (Qb Qz)) (Cr (Qb (Qb Qz)) (Cr (Qb (Qb Qz)) (Cr (Qb (Qb Qz)) (Cr (Qb (Qb Qz)) Cn)))))) call244 (fun q _ => mZ.mR (sd K G Z D g I a B N y i J c t M j a0 Q.Head a2.ma _ _ q U T a3 Y H e6)) ?_)
  rintro _ g7 ab f8 d f2 R m ⟨d2, e7, d3, a8, rfl, c5, c6⟩
  obtain rfl := a8.symm
  replace d := d.perm (Tb (Tr (Tr (Tr (Tr (Tr Tn))))))
  refine lH (lL (rM ?_))
  obtain rfl := sj hm
  exact pV rfl ⟨_, _, rfl, (d.mX (Kb (Kr (Kr (Kr (Kr (Kr Sn))))))), d2, e7, d3, rfl, rfl, c5, c6⟩
 refine sg (Wi rfl (Wa (ln (CI hm rfl (fun c0 hm => ?_) (fun c0 hm => ?_)))))
 ·refine kW (Wm (Wf xc (VB d Mh rfl rfl bW (Wf vA (VB d (Mt Mh) rfl rfl bW (V (mB (v := (.agg (kR (⟨a2.ma, Q.mc⟩ : kD)).toArray)) (oJ rfl rfl) (mn fF dQ (J6 _ dQ) kr)) (Wf rJ (VA d (Mt Mh) (kR Q.Head) bI aR (bS hm fun g3 c3 hm => ?_)))))))))
  refine VE (eM d (Cb (Pb (Pb Pz)) (Cr (Qb (Qb Qz)) (Cr (Qb (Qb Qz)) (Cr (Qb (Qb Qz)) (Cr (Qb (Qb Qz)) (Cr (Qb (Qb Qz)) Cn)))))) call284 (fun q _ => (Ev K G Z D g I a B N y i J c t M j a0 (⟨a2.ma, Q.mc⟩ : kD) Q.Head _ _ q U T a3 Y H c3)) ?_)
  rintro _ g8 h2 f9 d f3 a6 m ⟨d4, e9, d5, a9, rfl, c7, c8⟩
  obtain rfl := a9.symm
  replace d := d.perm (Tb (Tr (Tr (Tr (Tr (Tr Tn))))))
  refine lH (lL (rM ?_))
  obtain rfl := sj hm
  exact pV rfl ⟨_, _, rfl, (d.mX (Kb (Kr (Kr (Kr (Kr (Kr Sn))))))), d4, e9, d5, rfl, rfl, c7, c8⟩
 refine sg (Wi rfl (Wa (ln (CI hm rfl (fun c1 hm => ?_) (fun c1 hm => ?_)))))
 ·refine kZ ?_
  replace d := d.drew
  have h := d.has.kH (Kb (Kb (Kb (Kr Sn))))
  refine mi h lN (X 0 rfl h (kT rfl) (X 1 rfl h (nz rfl) (X 2 rfl h (kP xZ rfl) (XH 3 rfl h (fun _ l => kI rfl (lg l (Mt (Mt Mh)) rfl jz)) (X 4 rfl h (kP oP rfl) (XH 5 rfl h (fun _ l => kI rfl (kO l (Mt Mh) (kR Q.B) rfl bI aR)) ?_))))))
  obtain ⟨f7, a5⟩ := U
  refine XH 6 rfl h (fun _ l => qg (k := Q.B) (z := (.map none)) Bh fU gT rfl rfl a5 (fun b o n => l.2 b o (Mt (Mt (Mt (Ml n)))))) (X 7 rfl h (kP xc rfl) (XH 8 rfl h (fun _ l => kI rfl (lg l Mh rfl bW)) (XH 9 rfl h (fun _ l => AQ (k := a2.ma) (z := false) (vf := (fun (x : Bool) => (Value.bool x))) Hq gZ kk rfl rfl (nV.D4 (μ := hp _) lz.1 a5 Q.B (fun b o n => l.2 b o (Mt (Mt (Mt (Ml n))))))) (X 10 rfl h (kT rfl) (PJ hm (fun P E W => ∃ O, ST false (keys ((K, Obj.cells s 189 (0, 0)) :: (D ++ (a ++ (y ++ (c ++ (j ++ []))))))) w W μ0 ((L, Ol (lV a2) 111) :: ((A, Ol (kK Q) 52) :: ((K, Obj.cells s 189 (0, 0)) :: (D ++ (a ++ (y ++ (c ++ (j ++ O)))))))) ∧ E 0 = (.pointer (some ⟨K, 0, none⟩)) ∧ E 4 = (.pointer (some ⟨A, 0, none⟩)) ∧ E 5 = (.pointer (some ⟨L, 0, none⟩)) ∧ E 50 = (.bool P)) (bm 22 4194303) 0 ?_ (fun P p F => ?_))))))
  ·rintro h1 E W ⟨O, d, e1, e2, e3, e4⟩ a4
   refine mu kr (kU (CI a4 e4 (fun c2 a4 => ?_) (fun c2 a4 => ?_)))
   ·refine kW (Wh e1 (V (kP rJ e2) (VA d (Mt Mh) (kR Q.Head) bI aR (V (kP xc e3) (VB d Mh rfl rfl bW (bS a4 fun g4 c4 a4 => ?_))))))
    refine VE (eM d (Cb (Pb (Pb Pz)) (Cr (Qb (Qb Qz)) (Cr (Qb (Qb Qz)) (Cr (Qb (Qb Qz)) (Cr (Qb (Qb Qz)) (Cr (Qb (Qb Qz)) Cn)))))) call244 (fun q _ => mZ.mR (sd K G Z D g I a B N y i J c t M j a0 Q.Head a2.ma _ _ q a5.e T a3 Y H c4)) ?_)
    rintro _ g9 h3 g0 d f4 aa m ⟨d7, f0, d8, b0, rfl, c9, d0⟩
    obtain rfl := b0.symm
    replace d := d.perm (Tb (Tr (Tr (Tr (Tr (Tr Tn))))))
    refine lH (lL (rM ?_))
    obtain rfl := sj a4
    exact pV rfl ⟨_, _, rfl, (d.mX (Kb (Kr (Kr (Kr (Kr (Kr Sn))))))), d7, f0, d8, rfl, rfl, c9, d0⟩
   refine mr (lL (rM ?_))
   obtain rfl := sj a4
   exact pV rfl ⟨_, _, rfl, (d.mX (Db (Db (Kb (Kr (Kr (Kr (Kr (Kr Sn))))))))), D, t, j, rfl, rfl, a5.e, H⟩
  refine bC p (fun u p => ?_) (fun u p => ?_)
  ·refine Xg 11 rfl rfl (cB u) h (kT rfl) (Xg 12 rfl rfl (cB u) h (nz rfl) (Xg 13 rfl rfl (cB u) h (kP xZ rfl) (qQ 14 rfl rfl (cB u) h (fun _ l => kI rfl (lg l (Mt (Mt Mh)) rfl jz)) (Xg 15 rfl rfl (cB u) h (kP tD rfl) (qQ 16 rfl rfl (cB u) h (fun _ l => kI rfl (kO l (Mt Mh) (kR Q.C) rfl bI aR)) (qQ 17 rfl rfl (cB u) h (fun _ l => qg (k := Q.C) (z := (.map none)) Bh fU gT rfl rfl a5 (fun b o n => l.2 b o (Mt (Mt (Mt (Ml n)))))) (Xg 18 rfl rfl (cB u) h (kP xc rfl) (qQ 19 rfl rfl (cB u) h (fun _ l => kI rfl (lg l Mh rfl bW)) (qQ 20 rfl rfl (cB u) h (fun _ l => AQ (k := a2.ma) (z := false) (vf := (fun (x : Bool) => (Value.bool x))) Hq gZ kk rfl rfl (nV.D4 (μ := hp _) lz.1 a5 Q.C (fun b o n => l.2 b o (Mt (Mt (Mt (Ml n))))))) (X 21 rfl h (lj (cB u) rfl) ?_))))))))))
   obtain rfl := sj p
   refine nu kr (F _ _ ⟨_, (d.kH St), rfl, rfl, rfl, rfl⟩)
  refine Xn 11 rfl rfl (cB u) h (Xn 12 rfl rfl (cB u) h (Xn 13 rfl rfl (cB u) h (Xn 14 rfl rfl (cB u) h (Xn 15 rfl rfl (cB u) h (Xn 16 rfl rfl (cB u) h (Xn 17 rfl rfl (cB u) h (Xn 18 rfl rfl (cB u) h (Xn 19 rfl rfl (cB u) h (Xn 20 rfl rfl (cB u) h (X 21 rfl h (ll (cB u) rfl) ?_))))))))))
  obtain rfl := sj p
  refine nu kr (F _ _ ⟨_, (d.kH St), rfl, rfl, rfl, rfl⟩)
 refine mr (lL (rM ?_))
 obtain rfl := sj hm
 exact pV rfl ⟨_, _, rfl, (d.mX (Db (Db (Kb (Kr (Kr (Kr (Kr (Kr Sn))))))))), D, t, j, rfl, rfl, U, H⟩
theorem DD (K : Nat) (g : Value) (T : List (kD × (List (ByteArray × Bool)))) (D : LO) (a : Value) (G : List kF) (j : LO) (t : Value) (J : List (kD × (List kF))) (u : LO) (c : Value) (H : List (ByteArray × (List kF))) (k : LO) (z : Value) (M : List lf) (B : LO) (a0 : Int) (Z : kF) (r : ((List (kD × (List (ByteArray × Bool)))) × (List lf) × Int)) (w : World) {μ0 : lQ} (h0 : oC μ0 ((K, Ob #[g, a, t, c, z, (.int .i64 a0)] 189) :: (D ++ (j ++ (u ++ (k ++ (B ++ [])))))) w) (a2 : nk (fun (x : kD) => (.agg (kR x).toArray)) (nh Value.string (fun (x : Bool) => (Value.bool x))) g T D) (N : lA 52 kK 9 a G j) (Y : nk (fun (x : kD) => (.agg (kR x).toArray)) (lA 52 kK 9) t J u) (Q : nk Value.string (lA 52 kK 9) c H k) (U : rz 111 lV 3 z M B) (hm : tP T G J H M a0 Z = some r) :
  mZ false Tryz.prog 188 [(.pointer (some ⟨K, 0, none⟩)), (.agg (kK Z).toArray)] w ((K, Ob #[g, a, t, c, z, (.int .i64 a0)] 189) :: (D ++ (j ++ (u ++ (k ++ (B ++ [])))))) (fun v L1 W' => ∃ S1 y3 S4, v = (.tuple #[]) ∧ L1 = ((K, Ob #[g, a, t, c, y3, (.int .i64 (r.2.2))] 189) :: (S1 ++ (j ++ (u ++ (k ++ (S4 ++ [])))))) ∧ nk (fun (x : kD) => (.agg (kR x).toArray)) (nh Value.string (fun (x : Bool) => (Value.bool x))) g r.1 S1 ∧ rz 111 lV 3 y3 r.2.1 S4) := by
 refine BT h0 33 func188 rfl (fun d => sg (VE (lI d rfl (fun W2 b1 d => lr (Wf rI (VB d Mh rfl rfl cA (ln (bg ?_))))))))
 refine Wi rfl (Wa (ln (CI hm rfl (fun f1 hm => ?_) (fun f1 hm => ?_))))
 ·refine kW (Wm (Wf rJ (VA d Mh (kR Z.Head) bI aR (Wf xH (VB d Mh rfl rfl bW (bS hm fun r4 f2 hm => ?_))))))
  refine VE (eM d (Cb (Pb Pz) (Cr (Qb Qz) (Cr (Qb Qz) (Cr (Qb Qz) (Cr (Qb Qz) (Cr (Qb Qz) Cn)))))) call244 (fun hh _ => mZ.mR (sd K g T D a G j t J u c H k z M B a0 Z.Head Z.ma _ _ hh a2 N Y Q U f2)) ?_)
  rintro _ h1 ae g8 d g2 ad m ⟨e7, f4, e8, c2, rfl, e0, e1⟩
  obtain rfl := c2.symm
  replace d := d.perm (Tb (Tr (Tr (Tr (Tr (Tr Tn))))))
  refine lH (lL (rM ?_))
  obtain rfl := sj hm
  exact pV rfl ⟨_, _, rfl, (d.mX (Kb (Kr (Kr (Kr (Kr (Kr Sn))))))), e7, f4, e8, rfl, rfl, e0, e1⟩
 refine sg (Wm (Wf oP (VA d Mh (kR Z.B) bI aR (bS hm fun c6 d9 hm => VE (vh d call245 (zh K g T a G t J c H z M a0 Z.B _ _ (a2.at (fun b o l => d.at_ (Mt (Mt (Ml l))))) (N.sl mG (fun b o l => d.at_ (Mt (Mt (Ma (Ml l)))))) (Y.at (fun b o l => d.at_ (Mt (Mt (Ma (Ma (Ml l))))))) (Q.at (fun b o l => d.at_ (Mt (Mt (Ma (Ma (Ma (Ml l)))))))) ((U.Eo qY).mono (Pl.mono _) (nn (fun b o l => d.at_ (Mt (Mt (Ma (Ma (Ma (Ma (Ml l)))))))))) (At.of (d.at_ (Mt Mh)) _ rfl) d9) (fun g9 f3 d5 e5 d f6 ab F => V (oq dK rfl F) (Wm (ln (qw (mf (fun i E W => ∃ n a3 a5 q a4 a9 L R, (E 13 = .int .i64 (i : Nat) ∧ E 12 = .int .i64 (c6.length : Nat)) ∧ lu d5 L ∧ ST false (keys ((K, Ob #[g, a, t, c, z, (.int .i64 a0)] 189) :: (D ++ (j ++ (u ++ (k ++ (B ++ []))))))) w W L ((K, Ob #[g, a, t, c, a5, (.int .i64 a9)] 189) :: ((b1, Ol (kK Z) 52) :: (a3 ++ (j ++ (u ++ (k ++ (a4 ++ (e5 ++ R)))))))) ∧ E 0 = (.pointer (some ⟨K, 0, none⟩)) ∧ E 3 = (.pointer (some ⟨b1, 0, none⟩)) ∧ E 11 = f3 ∧ nk (fun (x : kD) => (.agg (kR x).toArray)) (nh Value.string (fun (x : Bool) => (Value.bool x))) g n a3 ∧ rz 111 lV 3 a5 q a4 ∧ qh G J H Z (c6.drop i) n q a9 = some r) c6.length F.len ⟨T, D, z, M, B, a0, d5, _, ⟨rfl, rfl⟩, (lu.refl _), (d.kH (Sb (Pr (Pb Pz)) (Sb (Pr Pz) (Sr (Qr Qz) (Sr (Qr Qz) (Sr (Qr Qz) (Sr (Qr Qz) (Sr (Qr Qz) St)))))))), rfl, rfl, rfl, a2, U, hm⟩ dc dc dc (fun _ _ _ h => by obtain ⟨_, _, _, _, _, _, _, _, a1, _⟩ := h; exact a1) ?_ ?_))))))))))
 ·rintro e2 E W c8 ⟨n, a3, a5, q, a4, a9, L, R, ⟨eI, eN⟩, b7, d, c0, A, c1, O, P, I⟩
  obtain ⟨s, f7, d1, c4, d2⟩ := lT c8
  rw [d1] at I
  refine bg (VQ (pg (i := (e2 : Int)) (x0 := s) dK gJ c1 eI F (aH _) c4) (fun g3 c9 => V (kI rfl (DN d.has (fun p l => (Mt (Mt (Ma (Ma (Ma (Ma (Ma (Ml l))))))))) F (fun _ => rfl) c9 c4 (y := (.string s)) rfl bW)) (Wa (ln (kW (Wh c0 (V (kI A (kO d.has (Mt Mh) (kK Z) rfl bX aO)) (V (kP oP A) (VA d (Mt Mh) (kR Z.B) bI aR (Wm (V (mB (v := (.agg (lV (⟨Z.B, s⟩ : lf)).toArray)) (oJ rfl rfl) (mn fR fS (Nn _ fS) kr)) ?_)))))))))))
  refine bS I fun c3 d0 I => ?_
  refine VE (eM d (Cb Pz (Cr (Qb Qz) (Cr (Qb Qz) (Cr (Qb Qz) (Cr (Qb Qz) (Cr (Qb Qz) Cn)))))) call246 (fun hh _ => (Ah K g n a3 a G j t J u c H k a5 q a4 a9 Z (⟨Z.B, s⟩ : lf) _ _ hh O N Y Q P d0)) ?_)
  rintro _ g4 e4 f9 d c5 aa m ⟨d6, e3, d7, b5, rfl, d3, d4⟩
  obtain rfl := b5.symm
  replace d := d.perm (Tb (Tr (Tr (Tr (Tr (Tr Tn))))))
  exact lH (lL (kU ⟨eI, c3.1, d6, e3, c3.2.1, d7, c3.2.2, e4, _, ⟨rfl, eN⟩, (b7.trans c5), (d.kH (Kb (Sb (Pr (Pr (Pr (Pr (Pr Pz))))) St))), c0, A, c1, d3, d4, (by rw [d2]; exact I)⟩))
 rintro E W ⟨n, a3, a5, q, a4, a9, L, R, ⟨eI, eN⟩, b7, d, c0, A, c1, O, P, I⟩
 rw [aI] at I
 refine kU ?_
 replace d := d.kH (Kb (Db (Kr (Kr (Kr (Kr (Kr (Dr St))))))))
 refine lL (rM ?_)
 obtain rfl := sj I
 exact pV rfl ⟨_, _, rfl, (d.mX (Kb (Kr (Kr (Kr (Kr (Kr Sn))))))), a3, a5, a4, rfl, rfl, O, P⟩
theorem De (I : Nat) (a : Value) (e8 : List (kD × (List (ByteArray × Bool)))) (K : LO) (c : Value) (Q : List kF) (j : LO) (u : Value) (N : List (kD × (List kF))) (y : LO) (g : Value) (H : List (ByteArray × (List kF))) (t : LO) (G : Value) (d4 : List lf) (D : LO) (a0 : Int) (r : ((List (kD × (List (ByteArray × Bool)))) × (List lf) × Int)) (w : World) {μ0 : lQ} (h0 : oC μ0 ((I, Ob #[a, c, u, g, G, (.int .i64 a0)] 189) :: (K ++ (j ++ (y ++ (t ++ (D ++ [])))))) w) (h4 : nk (fun (x : kD) => (.agg (kR x).toArray)) (nh Value.string (fun (x : Bool) => (Value.bool x))) a e8 K) (c1 : lA 52 kK 9 c Q j) (g7 : nk (fun (x : kD) => (.agg (kR x).toArray)) (lA 52 kK 9) u N y) (c2 : nk Value.string (lA 52 kK 9) g H t) (g4 : rz 111 lV 3 G d4 D) (hm : vJ e8 Q N H d4 a0 = some r) :
  mZ false Tryz.prog 189 [(.pointer (some ⟨I, 0, none⟩))] w ((I, Ob #[a, c, u, g, G, (.int .i64 a0)] 189) :: (K ++ (j ++ (y ++ (t ++ (D ++ [])))))) (fun v L1 W' => ∃ S1 y3 S4, v = (.tuple #[]) ∧ L1 = ((I, Ob #[a, c, u, g, y3, (.int .i64 (r.2.2))] 189) :: (S1 ++ (j ++ (y ++ (t ++ (S4 ++ [])))))) ∧ nk (fun (x : kD) => (.agg (kR x).toArray)) (nh Value.string (fun (x : Bool) => (Value.bool x))) a r.1 S1 ∧ rz 111 lV 3 y3 r.2.1 S4) := by
 let g5 : Value := (.pointer (some ⟨I, 0, none⟩))
 let b8 := ((I, Ob #[a, c, u, g, G, (.int .i64 a0)] 189) :: (K ++ (j ++ (y ++ (t ++ (D ++ []))))))
 refine BT h0 75 func189 rfl (fun d => qw (mK (nZ (fun m E W => ∃ e3 b7 e4 a1 b9 d1 b4 h5, lu μ0 b4 ∧ ST false (keys b8) w W b4 ((I, Ob #[a, c, u, g, e4, (.int .i64 d1)] 189) :: (b7 ++ (j ++ (y ++ (t ++ (b9 ++ h5)))))) ∧ E 0 = g5 ∧ nk (fun (x : kD) => (.agg (kR x).toArray)) (nh Value.string (fun (x : Bool) => (Value.bool x))) a e3 b7 ∧ rz 111 lV 3 e4 a1 b9 ∧ oy Q N H m e3 a1 d1 = some r) lF ⟨e8, K, G, d4, D, a0, μ0, _, (lu.refl _), (d.kH St), rfl, h4, g4, hm⟩ ?_)))
 rintro m E W ⟨e3, b7, e4, a1, b9, d1, b4, h5, i0, d, F, g9, c5, M⟩
 cases m with
 | zero => rw [oy] at M; cases M
 | succ n0 =>
  refine kZ (sg (Wh F (Wn (Wf BH (VB d Mh rfl rfl isAgg187 (V (PM cU rfl c5) (Wi rfl (ln (CI M rfl (fun i7 M => ?_) (fun i7 M => ?_))))))))))
  ·refine kn (bg (Wh F (Wn (Wf BH (VB d Mh rfl rfl isAgg187 (bS M fun B h2 M => VQ (oH (enc := lV) (i := 0) (x0 := B) cU dR rfl rfl (c5.Eo qY) (lM h2) (lK h2)) (fun q0 j7 => V (kI rfl (lB (oD.hp _) (j7.mono (nn (fun b o p => d.has.2 b o (Mt (Ma (Ma (Ma (Ma (Ml p))))))))) jk dR)) (VE (lG d fR (fun o9 a5 d => VO (lh (.agg (lV B).toArray) ((lV B).toArray) d rfl rfl dR (Ak B) nb rfl (fun p0 d => lH ?_))))))))))))
   let j2 := ((mJ lx N B.kD).getD [])
   let j1 : Value := (.pointer (some ⟨a5, 0, none⟩))
   let i6 := ((lV B).toArray : Array Value)
   let i5 := ((mJ mx H B.kD.kL).getD [])
   refine kU (sg (Wh F (Wh F (Wn (Wf BH (VB d (Mt Mh) rfl rfl isAgg187 (bS M fun _ g8 M => VQ (MO (i := 1) cU dR rfl rfl qY c5 (vG g8) (vw g8)) (fun q3 h1 => Wn (Wf BH ?_)))))))))
   obtain ⟨f7, g0, rfl⟩ := h1.form
   let g6 : Value := (.slice f7 (a1.drop (Int.toNat 1)).length g0)
   replace d := d.perm (Nb (Pb Pz) Nz)
   refine VO (lh g6 (#[a, c, u, g, g6, (.int .i64 d1)]) d rfl rfl sizeOf187 oc nb rfl (fun p1 d => ln (kZ (kZ ?_))))
   replace d := d.drew
   have l := d.has.kH (Kb (Kb (Dr (Dr (Kr Sn)))))
   refine mi l lN (X 0 rfl l (kT F) (X 1 rfl l (nz rfl) (X 2 rfl l (kP LS rfl) (XH 3 rfl l (fun _ n => kI rfl (lg n Mh rfl isAgg185)) (X 4 rfl l (kP yk rfl) (XH 5 rfl l (fun _ n => kI rfl (kO n (Mt Mh) (kR B.kD) rfl bI aR)) ?_))))))
   obtain ⟨l7, c3⟩ := g7
   obtain ⟨o7, f0, k2⟩ := nV.rowAt lz.1 c3 B.kD
   refine XH 6 rfl l (fun _ n => qg (k := B.kD) (z := (.slice none 0 0)) Bh underlying185 kz rfl rfl c3 (fun b o p => n.2 b o (Mt (Mt (Ml p))))) (X 7 rfl l (ml aS rfl (f0.Eo mG)) (X 8 rfl l (kT rfl) (mu kr (kU (CJ M (fun d0 E W => ∃ d6 e5 d7 b5 h6, lu b4 b5 ∧ ST false (keys b8) w W b5 ((I, Ob #[a, c, u, g, e5, (.int .i64 d0.2.2)] 189) :: ((a5, Obj.cells i6 111 (0, 0)) :: (d6 ++ (j ++ (y ++ (t ++ (d7 ++ h6))))))) ∧ E 0 = g5 ∧ E 2 = j1 ∧ nk (fun (x : kD) => (.agg (kR x).toArray)) (nh Value.string (fun (x : Bool) => (Value.bool x))) a d0.1 d6 ∧ rz 111 lV 3 e5 d0.2.1 d7) (fun d0 j6 => ?_) ?_)))))
   ·refine mf (fun i E W => ∃ c7 a3 P c8 a4 d2 d3 f9, (E 35 = .int .i64 (i : Nat) ∧ E 34 = .int .i64 (j2.length : Nat)) ∧ lu b4 d3 ∧ ST false (keys b8) w W d3 ((I, Ob #[a, c, u, g, P, (.int .i64 d2)] 189) :: ((a5, Obj.cells i6 111 (0, 0)) :: (a3 ++ (j ++ (y ++ (t ++ (a4 ++ f9))))))) ∧ E 0 = g5 ∧ E 2 = j1 ∧ E 33 = (sG lx l7 B.kD (.slice none 0 0)) ∧ nk (fun (x : kD) => (.agg (kR x).toArray)) (nh Value.string (fun (x : Bool) => (Value.bool x))) a c7 a3 ∧ rz 111 lV 3 P c8 a4 ∧ pU Q N H B (j2.drop i) c7 c8 d2 = some d0) j2.length (f0.Eo mG).len ⟨e3, b7, g6, (a1.drop (Int.toNat 1)), b9, d1, b4, _, ⟨rfl, rfl⟩, (lu.refl _), (d.kH St), F, rfl, rfl, g9, h1, j6⟩ dc dc dc (fun _ _ _ h => by obtain ⟨_, _, _, _, _, _, _, _, s, _⟩ := h; exact s) ?_ ?_
    ·rintro m5 E W j0 ⟨c7, a3, P, c8, a4, d2, d3, f9, ⟨q, eN⟩, d5, d, e1, e2, g1, f3, f4, T⟩
     obtain ⟨b3, o3, l1, l0, l2⟩ := lT j0
     rw [l1] at T
     refine bg (VQ (oH (enc := kK) (i := (m5 : Int)) (x0 := b3) aS aO g1 q (f0.Eo mG) (aH _) l0) (fun q2 j9 => V (kI rfl (lB (oD.hp _) (j9.mono (nn (fun b o p => d.has.2 b o (Mt (Mt (Ma (Ma (Ml (k2 b o p))))))))) bX aO)) (VE (lG d cW (fun p5 p9 d => VO (lh (.agg (kK b3).toArray) ((kK b3).toArray) d rfl rfl aO (oQ b3) nb rfl (fun p6 d => ln (kW (Wh e1 (VA d Mh (kK b3) bX aO (V (kI e2 (kO d.has (Mt (Mt Mh)) (lV B) rfl jk dR)) (bS T fun g3 k1 T => ?_))))))))))))
     refine VE (eM d (Cb (Pb Pz) (Cr (Qb (Qb Qz)) (Cr (Qb (Qb Qz)) (Cr (Qb (Qb Qz)) (Cr (Qb (Qb Qz)) (Cr (Qb (Qb Qz)) Cn)))))) call246 (fun hh _ => (Ah I a c7 a3 c Q j u N y g H t P c8 a4 d2 b3 B _ _ hh f3 c1 c3.e c2 f4 k1)) ?_)
     rintro _ q5 n6 o6 d i4 ab A ⟨m1, n4, m2, f6, rfl, l5, l6⟩
     obtain rfl := f6.symm
     replace d := d.perm (Tb (Tr (Tr (Tr (Tr (Tr Tn))))))
     refine lH (lL (kU ?_))
     replace d := d.kH (Kb (Kr (Kr (Kr (Kr (Kr (Db St)))))))
     exact ⟨q, g3.1, m1, n4, g3.2.1, m2, g3.2.2, n6, _, ⟨rfl, eN⟩, (d5.trans i4), (d.kH (Kb (Sb (Pr (Pr (Pr (Pr (Pr Pz))))) St))), e1, e2, g1, l5, l6, (by rw [l2]; exact T)⟩
    rintro E W ⟨c7, a3, P, c8, a4, d2, d3, f9, ⟨q, eN⟩, d5, d, e1, e2, g1, f3, f4, T⟩
    rw [aI] at T
    refine kU ?_
    obtain rfl := sj T
    exact ⟨a3, P, a4, d3, _, d5, (d.kH St), e1, e2, f3, f4⟩
   rintro ⟨m6, m7, n1⟩ E W ⟨d6, e5, d7, b5, h6, i1, d, h8, h9, k3, k4⟩ j3
   refine kZ ?_
   replace d := d.drew
   have l := d.has.kH (Kb (Kb (Dr (Dr (Dr (Kr Sn))))))
   refine mi l lN (X 0 rfl l (kT h8) (X 1 rfl l (nz rfl) (X 2 rfl l (kP HX rfl) (XH 3 rfl l (fun _ n => kI rfl (lg n Mh rfl isAgg186)) (X 4 rfl l (kP yk h9) (X 5 rfl l (kP uN rfl) (XH 6 rfl l (fun _ n => kI rfl (lg n (Mt Mh) rfl bW)) ?_)))))))
   obtain ⟨l8, e9⟩ := c2
   obtain ⟨o8, f1, k5⟩ := nV.rowAt np.1 e9 B.kD.kL
   refine XH 7 rfl l (fun _ n => qg (k := B.kD.kL) (z := (.slice none 0 0)) Hq underlying186 kz rfl rfl e9 (fun b o p => n.2 b o (Mt (Mt (Ml p))))) (X 8 rfl l (ml aS rfl (f1.Eo mG)) (X 9 rfl l (kT rfl) (mu kr (kU (qw (CJ j3 (fun c9 E W => ∃ d8 e6 d9 e7 h7, lu b5 e7 ∧ ST false (keys b8) w W e7 ((I, Ob #[a, c, u, g, e6, (.int .i64 c9.2.2)] 189) :: (d8 ++ (j ++ (y ++ (t ++ (d9 ++ h7)))))) ∧ E 0 = g5 ∧ nk (fun (x : kD) => (.agg (kR x).toArray)) (nh Value.string (fun (x : Bool) => (Value.bool x))) a c9.1 d8 ∧ rz 111 lV 3 e6 c9.2.1 d9) (fun c9 j5 => ?_) ?_))))))
   ·refine mf (fun i E W => ∃ a9 Y a2 O Z R b6 f8, (E 53 = .int .i64 (i : Nat) ∧ E 52 = .int .i64 (i5.length : Nat)) ∧ lu b5 b6 ∧ ST false (keys b8) w W b6 ((I, Ob #[a, c, u, g, a2, (.int .i64 R)] 189) :: ((a5, Obj.cells i6 111 (0, 0)) :: (Y ++ (j ++ (y ++ (t ++ (Z ++ f8))))))) ∧ E 0 = g5 ∧ E 2 = j1 ∧ E 51 = (sG mx l8 B.kD.kL (.slice none 0 0)) ∧ nk (fun (x : kD) => (.agg (kR x).toArray)) (nh Value.string (fun (x : Bool) => (Value.bool x))) a a9 Y ∧ rz 111 lV 3 a2 O Z ∧ pa B Q N H (i5.drop i) a9 O R = some c9) i5.length (f1.Eo mG).len ⟨m6, d6, e5, m7, d7, n1, b5, _, ⟨rfl, rfl⟩, (lu.refl _), (d.kH St), h8, h9, rfl, k3, k4, j5⟩ dc dc dc (fun _ _ _ h => by obtain ⟨_, _, _, _, _, _, _, _, s, _⟩ := h; exact s) ?_ ?_
    ·rintro m4 E W i9 ⟨a9, Y, a2, O, Z, R, b6, f8, ⟨q, eN⟩, a8, d, L, c0, e0, f2, c6, J⟩
     obtain ⟨U, o2, k9, k8, h3⟩ := lT i9
     rw [k9] at J
     refine bg (VQ (oH (enc := kK) (i := (m4 : Int)) (x0 := U) aS aO e0 q (f1.Eo mG) (aH _) k8) (fun q1 j8 => V (kI rfl (lB (oD.hp _) (j8.mono (nn (fun b o p => d.has.2 b o (Mt (Mt (Ma (Ma (Ma (Ml (k5 b o p)))))))))) bX aO)) (VE (lG d cW (fun p2 p8 d => VO (lh (.agg (kK U).toArray) ((kK U).toArray) d rfl rfl aO (oQ U) nb rfl (fun p3 d => ln (kZ ?_))))))))
     replace d := d.drew
     have l := d.has.kH (Kb (Kb (Kb (Kr Sn))))
     refine mi l lN (X 0 rfl l (kT L) (X 1 rfl l (nz rfl) (X 2 rfl l (kP xZ rfl) (XH 3 rfl l (fun _ n => kI rfl (lg n (Mt Mh) rfl jz)) (X 4 rfl l (kP oP rfl) (XH 5 rfl l (fun _ n => kI rfl (kO n Mh (kR U.B) rfl bI aR)) ?_))))))
     obtain ⟨o0, c4⟩ := f2
     refine XH 6 rfl l (fun _ n => qg (k := U.B) (z := (.map none)) Bh fU gT rfl rfl c4 (fun b o p => n.2 b o (Mt (Mt (Mt (Ml p)))))) (X 7 rfl l (kP yk c0) (X 8 rfl l (kP qi rfl) (XH 9 rfl l (fun _ n => kI rfl (lg n (Mt (Mt Mh)) rfl bW)) (XH 10 rfl l (fun _ n => AQ (k := B.kD.kE) (z := false) (vf := (fun (x : Bool) => (Value.bool x))) Hq gZ kk rfl rfl (nV.D4 (μ := hp _) lz.1 c4 U.B (fun b o p => n.2 b o (Mt (Mt (Mt (Ml p))))))) (mu kr (kU (CI J rfl (fun i8 J => ?_) (fun i8 J => ?_))))))))
     ·refine kW (Wh L (Wf rJ (VA d Mh (kR U.Head) bI aR (V (kP xc c0) (VB d (Mt (Mt Mh)) rfl rfl bW (bS J fun g2 k0 J => ?_))))))
      refine VE (eM d (Cb (Pb Pz) (Cr (Qb (Qb Qz)) (Cr (Qb (Qb Qz)) (Cr (Qb (Qb Qz)) (Cr (Qb (Qb Qz)) (Cr (Qb (Qb Qz)) Cn)))))) call244 (fun hh _ => mZ.mR (sd I a a9 Y c Q j u N y g H t a2 O Z R U.Head B.ma _ _ hh c4.e c1 c3.e e9.e c6 k0)) ?_)
      rintro _ q4 n5 o5 d i3 aa A ⟨l9, n3, m0, f5, rfl, l3, l4⟩
      obtain rfl := f5.symm
      replace d := d.perm (Tb (Tr (Tr (Tr (Tr (Tr Tn))))))
      refine lH (lL (kU ?_))
      replace d := d.kH (Kb (Kr (Kr (Kr (Kr (Kr (Db St)))))))
      exact ⟨q, g2.1, l9, n3, g2.2.1, m0, g2.2.2, n5, _, ⟨rfl, eN⟩, (a8.trans i3), (d.kH (Kb (Sb (Pr (Pr (Pr (Pr (Pr Pz))))) St))), L, c0, e0, l3, l4, (by rw [h3]; exact J)⟩
     refine mr (lL (kU ?_))
     replace d := d.kH (Db St)
     exact ⟨q, a9, Y, a2, O, Z, R, b6, _, ⟨rfl, eN⟩, a8, (d.kH St), L, c0, e0, c4.e, c6, (by rw [h3]; exact J)⟩
    rintro E W ⟨a9, Y, a2, O, Z, R, b6, f8, ⟨q, eN⟩, a8, d, L, c0, e0, f2, c6, J⟩
    rw [aI] at J
    refine kU ?_
    obtain rfl := sj J
    exact ⟨Y, a2, Z, b6, _, a8, (d.kH (Kb (Db St))), L, f2, c6⟩
   rintro ⟨m8, m9, n2⟩ E W ⟨d8, e6, d9, e7, h7, i2, d, m3, k6, k7⟩ j4
   exact lL (kU ⟨n0, bF _, m8, d8, e6, m9, d9, n2, e7, _, ((i0.trans i1).trans i2), (d.kH St), m3, k6, k7, j4⟩)
  refine nT (nJ (nJ (qE (kU (rM ?_)))))
  obtain rfl := sj M
  exact pV rfl ⟨_, _, rfl, (d.mX (Kb (Kr (Kr (Kr (Kr (Kr Sn))))))), b7, e4, b9, rfl, rfl, g9, c5⟩
theorem EA (H : Nat) (g : Value) (c2 : List (kD × (List (ByteArray × Bool)))) (G : LO) (u : Value) (a7 : List kF) (k : LO) (c : Value) (b7 : List (kD × (List kF))) (z : LO) (a : Value) (a8 : List (ByteArray × (List kF))) (t : LO) (B : Value) (b6 : List lf) (y : LO) (K : Int) (d1 : Value) (p : List kF) (r : (Int × (List (kD × (List (ByteArray × Bool)))) × (List kF) × (List (kD × (List kF))) × (List (ByteArray × (List kF))) × (List lf) × Int)) (w : World) {μ0 : lQ} (h0 : oC μ0 ((H, Ob #[g, u, c, a, B, (.int .i64 K)] 189) :: (G ++ (k ++ (z ++ (t ++ (y ++ [])))))) w) (d6 : nk (fun (x : kD) => (.agg (kR x).toArray)) (nh Value.string (fun (x : Bool) => (Value.bool x))) g c2 G) (c6 : lA 52 kK 9 u a7 k) (d3 : nk (fun (x : kD) => (.agg (kR x).toArray)) (lA 52 kK 9) c b7 z) (c7 : nk Value.string (lA 52 kK 9) a a8 t) (d2 : rz 111 lV 3 B b6 y) (d7 : Sl (Pl kK) 9 μ0 d1 p) (hm : vc c2 a7 b7 a8 b6 K p = some r) :
  mZ false Tryz.prog 125 [(.pointer (some ⟨H, 0, none⟩)), d1] w ((H, Ob #[g, u, c, a, B, (.int .i64 K)] 189) :: (G ++ (k ++ (z ++ (t ++ (y ++ [])))))) (fun v L1 W' => ∃ S1 y3 S4 S6 S8 i1 i0, v = (.int .i64 (r.1)) ∧ L1 = ((H, Ob #[g, y3, c, a, i1, (.int .i64 (r.2.2.2.2.2.2))] 189) :: (S1 ++ (S4 ++ (S6 ++ (S8 ++ (i0 ++ [])))))) ∧ nk (fun (x : kD) => (.agg (kR x).toArray)) (nh Value.string (fun (x : Bool) => (Value.bool x))) g r.2.1 S1 ∧ lA 52 kK 9 y3 r.2.2.1 S4 ∧ nk (fun (x : kD) => (.agg (kR x).toArray)) (lA 52 kK 9) c r.2.2.2.1 S6 ∧ nk Value.string (lA 52 kK 9) a r.2.2.2.2.1 S8 ∧ rz 111 lV 3 i1 r.2.2.2.2.2.1 i0) := by
 let b8 := ((H, Ob #[g, u, c, a, B, (.int .i64 K)] 189) :: (G ++ (k ++ (z ++ (t ++ (y ++ []))))))
 refine BT h0 46 func125 rfl (fun d => sg (Wa (lS (Wm (V (yj underlying132 rfl rfl) (ln (rT rfl (mr ?_))))))))
 refine kU (sg (Wm (Wn (Wf FD (VB d Mh rfl rfl cA (Wa (lS (Wm (V (ml aS rfl d7) ?_)))))))))
 refine Wm (ln (mf (fun i E W => ∃ a3 N M a4 Q a9 T n U a0 a5 Y a2 c1 d5, (E 16 = .int .i64 (i : Nat) ∧ E 15 = .int .i64 (p.length : Nat)) ∧ lu μ0 c1 ∧ ST false (keys b8) w W c1 ((H, Ob #[g, M, c, a, a0, (.int .i64 a2)] 189) :: (N ++ (Q ++ (T ++ (U ++ (Y ++ d5)))))) ∧ E 0 = (.pointer (some ⟨H, 0, none⟩)) ∧ E 5 = (.int .i64 K) ∧ E 14 = d1 ∧ nk (fun (x : kD) => (.agg (kR x).toArray)) (nh Value.string (fun (x : Bool) => (Value.bool x))) g a3 N ∧ lA 52 kK 9 M a4 Q ∧ nk (fun (x : kD) => (.agg (kR x).toArray)) (lA 52 kK 9) c a9 T ∧ nk Value.string (lA 52 kK 9) a n U ∧ rz 111 lV 3 a0 a5 Y ∧ oX K (p.drop i) a3 a4 a9 n a5 a2 = some r) p.length d7.len ⟨c2, G, u, a7, k, b7, z, a8, t, B, b6, y, K, μ0, _, ⟨rfl, rfl⟩, (lu.refl _), (d.kH St), rfl, rfl, rfl, d6, c6, d3, c7, d2, hm⟩ dc dc dc (fun _ _ _ h => by obtain ⟨_, _, _, _, _, _, _, _, _, _, _, _, _, _, _, aa, _⟩ := h; exact aa) ?_ ?_))
 ·rintro f6 E W g3 ⟨a3, N, M, a4, Q, a9, T, n, U, a0, a5, Y, a2, c1, d5, ⟨eI, eN⟩, b1, d, s, c3, c4, F, q, L, O, P, D⟩
  obtain ⟨I, j8, h4, h3, d9⟩ := lT g3
  rw [h4] at D
  refine bg (VQ (oH (enc := kK) (i := (f6 : Int)) (x0 := I) aS aO c4 eI (d7.mono (Pl.mono _) b1) (aH _) h3) (fun l1 g4 => V (kI rfl (lB d.has g4 bX aO)) (VE (lG d cW (fun k3 e8 d => VO (lh (.agg (kK I).toArray) ((kK I).toArray) d rfl rfl aO (oQ I) nb rfl (fun k4 d => ln (kZ ?_))))))))
  replace d := d.drew
  have l := d.has.kH (Kb (Kb Sn))
  refine mi l lN (XH 0 rfl l (fun _ R => kI rfl (kO R Mh (kK I) rfl bX aO)) (bS D fun l2 g7 D => XE 1 rfl (Eg d call113 (lE.mR (zY I _ _  g7)) (fun k5 d => ?_))))
  have l := d.has.kH (Kb (Kb Sn))
  refine ⟨l, (X 2 rfl l (kT rfl) (PJ D (fun f7 E W => ∃ e4, ST false (keys b8) w W c1 ((e8, Ol (kK I) 52) :: ((H, Ob #[g, M, c, a, a0, (.int .i64 a2)] 189) :: (N ++ (Q ++ (T ++ (U ++ (Y ++ e4))))))) ∧ E 0 = (.pointer (some ⟨H, 0, none⟩)) ∧ E 5 = (.int .i64 K) ∧ E 7 = (.pointer (some ⟨e8, 0, none⟩)) ∧ E 14 = d1 ∧ E 15 = (.int .i64 (p.length : Int)) ∧ E 16 = (.int .i64 (f6 : Int)) ∧ E 30 = (.bool f7)) (bm 11 2047) 0 ?_ (fun f7 Z d4 => ?_)))⟩
  ·rintro l7 E W ⟨e4, d, c5, e9, f0, f1, f2, f3, i6⟩ J
   refine mu kr (kU (CI J i6 (fun g2 J => ?_) (fun g2 J => ?_)))
   ·refine sg (Wh c5 (V (kI f0 (kO d.has Mh (kK I) rfl bX aO)) (bS J fun A g8 J => ?_)))
    refine VE (eM d (Cb (Pb Pz) (Cr (Qb Qz) (Cr (Qb Qz) (Cr (Qb Qz) (Cr (Qb Qz) (Cr (Qb Qz) Cn)))))) call187 (fun hh _ => mZ.mR (Ee H g a3 N M a4 Q c a9 T a n U a0 a5 Y a2 I _ _ hh F q L O P g8)) ?_)
    rintro _ l4 l8 k0 d f4 ab m ⟨f8, e5, e6, e7, c8, rfl, e0, e1, e2⟩
    obtain rfl := c8.symm
    replace d := d.perm (Tb (Tr (Tr (Tr (Tr (Tr Tn))))))
    refine ln (kW (Wh c5 (V (kI f0 (kO d.has (Mt (Ma (Ma (Ma (Ma (Ma Mh)))))) (kK I) rfl bX aO)) (bS J fun d8 g9 J => ?_))))
    refine VE (eM d (Cb Pz (Cr Qz (Cr Qz (Cr Qz (Cr Qz (Cr Qz Cn)))))) call188 (fun hh _ => (DD H g a3 N f8 A.1 e5 c A.2.1 e6 a A.2.2 e7 a0 a5 Y a2 I _ _ hh F e0 e1 e2 P g9)) ?_)
    rintro _ l5 j0 k1 d f5 ad m ⟨i2, i8, i3, c9, rfl, h5, h6⟩
    obtain rfl := c9.symm
    replace d := d.perm (Tb (Tr (Tr (Tr (Tr (Tr Tn))))))
    refine lH (lL (kU ?_))
    replace d := d.kH (Kb (Kr (Kr (Kr (Kr (Kr (Db St)))))))
    exact ⟨f3, d8.1, i2, f8, A.1, e5, A.2.1, e6, A.2.2, e7, i8, d8.2.1, i3, d8.2.2, j0, _, ⟨rfl, f2⟩, ((b1.trans f4).trans f5), (d.kH St), c5, e9, f1, h5, e0, e1, e2, h6, (by rw [d9]; exact J)⟩
   refine mr (lL (kU ?_))
   replace d := d.kH (Db St)
   exact ⟨f3, a3, N, M, a4, Q, a9, T, n, U, a0, a5, Y, a2, c1, _, ⟨rfl, f2⟩, b1, (d.kH St), c5, e9, f1, F, q, L, O, P, (by rw [d9]; exact J)⟩
  refine bC Z (fun j Z => ?_) (fun j Z => ?_)
  ·refine Xg 3 rfl rfl (cB j) l (kT s) (Xg 4 rfl rfl (cB j) l (nz rfl) (Xg 5 rfl rfl (cB j) l (kP Iy rfl) (qQ 6 rfl rfl (cB j) l (fun _ R => kI rfl (lg R (Mt Mh) rfl kC)) (qQ 7 rfl rfl (cB j) l (fun _ R => kI rfl (kO R Mh (kK I) rfl bX aO)) (bS Z fun l3 h1 Z => Af 8 rfl rfl (cB j) (Eg d call60 (lE.mR (He M a4 I _ _ (q.sl mG (fun b o hq => d.at_ (Mt (Mt (Ma (Ml hq)))))) h1)) (fun k8 d => ?_)))))))
   have l := d.has.kH (Kb (Kb Sn))
   refine ⟨l, (Xg 9 rfl rfl (cB j) l (ol rfl) (X 10 rfl l (lj (cB j) rfl) ?_))⟩
   obtain rfl := sj Z
   refine nu kr (d4 _ _ ⟨_, (d.kH St), s, c3, rfl, c4, eN, eI, rfl⟩)
  refine Xn 3 rfl rfl (cB j) l (Xn 4 rfl rfl (cB j) l (Xn 5 rfl rfl (cB j) l (Xn 6 rfl rfl (cB j) l (Xn 7 rfl rfl (cB j) l (Xn 8 rfl rfl (cB j) l (Xn 9 rfl rfl (cB j) l (X 10 rfl l (ll (cB j) rfl) ?_)))))))
  obtain rfl := sj Z
  refine nu kr (d4 _ _ ⟨_, (d.kH St), s, c3, rfl, c4, eN, eI, rfl⟩)
 rintro E W ⟨a3, N, M, a4, Q, a9, T, n, U, a0, a5, Y, a2, c1, d5, ⟨eI, eN⟩, b1, d, s, c3, c4, F, q, L, O, P, D⟩
 rw [aI] at D
 refine kU (sg (Wh s (bS D fun i7 h2 D => ?_)))
 refine VE (eM d (Cb Pz (Cr Qz (Cr Qz (Cr Qz (Cr Qz (Cr Qz Cn)))))) call189 (fun hh _ => (De H g a3 N M a4 Q c a9 T a n U a0 a5 Y a2 _ _ hh F q L O P h2)) ?_)
 rintro _ l6 l9 k2 d j6 ae m ⟨i4, i9, i5, d0, rfl, h7, h8⟩
 obtain rfl := d0.symm
 replace d := d.perm (Tb (Tr (Tr (Tr (Tr (Tr Tn))))))
 refine lr (Wh s (Wn (Wf FD (VB d Mh rfl rfl cA (Wh c3 (Wi rfl (Wa (lt ?_))))))))
 obtain rfl := sj D
 exact mD (v := (.int .i64 (IntKind.i64.wrap (i7.2.2 - K)))) rfl rfl ⟨_, _, rfl, (d.mX (Kb (Kr (Kr (Kr (Kr (Kr Sn))))))), i4, M, Q, T, U, i9, i5, rfl, rfl, h7, q, L, O, h8⟩
theorem HI (j : Value) (H : List kF) (r : ((List (kD × (List (ByteArray × Bool)))) × (List kF) × (List (kD × (List kF))) × (List (ByteArray × (List kF))) × (List lf) × Int)) (w : World) (J : Sl (Pl kK) 9 (hp w) j H) (hm : xV H = some r) :
  mZ false Tryz.prog 62 [j] w [] (fun v L1 W' => ∃ l n S3 p S6 q S9 D u G y, v = (.pointer (some ⟨l, 0, none⟩)) ∧ L1 = ((l, Ob #[n, p, q, D, G, (.int .i64 (r.2.2.2.2.2))] 189) :: (S3 ++ (S6 ++ (S9 ++ (u ++ (y ++ [])))))) ∧ nk (fun (x : kD) => (.agg (kR x).toArray)) (nh Value.string (fun (x : Bool) => (Value.bool x))) n r.1 S3 ∧ lA 52 kK 9 p r.2.1 S6 ∧ nk (fun (x : kD) => (.agg (kR x).toArray)) (lA 52 kK 9) q r.2.2.1 S9 ∧ nk Value.string (lA 52 kK 9) D r.2.2.2.1 u ∧ rz 111 lV 3 G r.2.2.2.2.1 y) := by
 refine wM 13 func62 rfl (fun b => sg (Wa (lr (VE (DQ (P := Tryz.prog) (fun (x : kD) => (.agg (kR x).toArray)) (nh Value.string (fun (x : Bool) => (Value.bool x))) b (fun W1 v4 R2 b z => VE (DQ (P := Tryz.prog) (fun (x : kD) => (.agg (kR x).toArray)) (lA 52 kK 9) b (fun W5 v8 R6 b B => VE (DQ (P := Tryz.prog) Value.string (lA 52 kK 9) b (fun W9 O Y b t => ?_))))))))))
 obtain ⟨a, rfl⟩ := z.form
 obtain ⟨c, rfl⟩ := B.form
 obtain ⟨g, rfl⟩ := t.form
 refine V (mB (v := (.agg #[(.map (some a)), (.slice none 0 0), (.map (some c)), (.map (some g)), (.slice none 0 0), (.int .i64 0)])) (A8 rfl rfl rfl) (mn zeroValue189 fT (Tm _ fT) kr)) (VE (lI b rfl (fun c1 k b => Wa (lr (Wm (Wm (bS hm fun L K hm => ?_)))))))
 refine VE (eM b (Cb Pz (Cr (Qr (Qr Qz)) (C0 (Cr (Qr Qz) (Cr Qz (C0 Cn)))))) call125 (fun E h => (EA k (.map (some a)) ([]) R2 (.slice none 0 0) ([]) [] (.map (some c)) ([]) R6 (.map (some g)) ([]) Y (.slice none 0 0) ([]) [] 0 j H _ _ E z (lA.nil _ _ _) B t (rz.nil _ _ _) (J.mono (Pl.mono _) h) K)) ?_)
 rintro _ R W I b F m d ⟨Z, s, a2, a3, a4, A, a5, i, rfl, M, N, Q, T, U⟩
 obtain rfl := i.symm
 replace b := b.perm (Tb (Tr (Tr (Tr (Tr (Tr Tn))))))
 refine lr (Wm (Wa (lt ?_)))
 obtain rfl := sj hm
 exact mD (v := (.pointer (some ⟨k, 0, none⟩))) rfl rfl ⟨_, _, rfl, (b.LR (Kb (Kr (Kr (Kr (Kr (Kr Sn))))))), k, (.map (some a)), Z, s, a2, (.map (some c)), a3, (.map (some g)), a4, A, a5, rfl, rfl, M, N, Q, T, U⟩
theorem Kx (c : Value) (D : List kF) (G : ByteArray) (r : ((List (kD × (List (ByteArray × Bool)))) × (List kF) × (List (kD × (List kF))) × (List (ByteArray × (List kF))) × (List lf) × Int × ByteArray)) (w : World) (I : Sl (Pl kK) 9 (hp w) c D) (hm : vX D G = some r) :
  mZ false Tryz.prog 51 [c, (.string G)] w [] (fun v L1 W' => ∃ g h l S4 m S7 n j z k B t u, v = (.func (.func 110) #[] #[(.pointer (some ⟨g, 0, none⟩)), (.pointer (some ⟨u, 0, none⟩))]) ∧ L1 = ((g, Ob #[(.pointer (some ⟨h, 0, none⟩))] 132) :: ((h, Ob #[l, m, n, z, B, (.int .i64 (r.2.2.2.2.2.1))] 189) :: ((u, Ob #[(.string (r.2.2.2.2.2.2))] 9) :: (S4 ++ (S7 ++ (j ++ (k ++ (t ++ [])))))))) ∧ nk (fun (x : kD) => (.agg (kR x).toArray)) (nh Value.string (fun (x : Bool) => (Value.bool x))) l r.1 S4 ∧ lA 52 kK 9 m r.2.1 S7 ∧ nk (fun (x : kD) => (.agg (kR x).toArray)) (lA 52 kK 9) n r.2.2.1 j ∧ nk Value.string (lA 52 kK 9) z r.2.2.2.1 k ∧ rz 111 lV 3 B r.2.2.2.2.1 t) := by
 refine wM 9 func51 rfl (fun b => sg (VE (lI b rfl (fun W2 g b => Wa (lr (Wm (bS hm fun R p hm => ?_)))))))
 refine VE (F7 b (aY _) call62 (fun _ _ _ _ => (HI c D _ _ (I.mono (Pl.mono _) b.kM) p)) (fun W5 v9 L P b O F d H => ?_) (L0 := []))
 obtain ⟨i, q, T, s, U, a9, Y, A, Z, E, a2, a, rfl, J, K, M, N, Q⟩ := H
 replace a := a.symm; subst a
 replace b := b.perm (Tb (Tr (Tr (Tr (Tr (Tr Tn))))))
 refine VE (lG b zeroValue132 (fun c1 y b => VO (lh (.pointer (some ⟨i, 0, none⟩)) (#[(.pointer (some ⟨i, 0, none⟩))]) b rfl rfl sizeOf132 oc nb rfl (fun c2 b => lr (V (xa (by exact yl rfl rfl) rfl) (Wa (lt ?_)))))))
 obtain rfl := sj hm
 exact mD (v := (.func (.func 110) #[] #[(.pointer (some ⟨y, 0, none⟩)), (.pointer (some ⟨g, 0, none⟩))])) rfl rfl ⟨_, _, rfl, (b.LR (Kb (Kb (Sb (Pr (Pr (Pr (Pr (Pr Pz))))) (Kr (Kr (Kr (Kr (Kr Sn))))))))), y, i, q, T, s, U, a9, Y, A, Z, E, a2, g, rfl, rfl, J, K, M, N, Q⟩
theorem Bd (g : Value) (t : List lm) (j : Value) (z : lm → Option Bool) (r : Int) (w : World) (c : Sl kY 15 (hp w) g t) (B : yD Tryz.prog j (hp w) (Ch kY) (fun (r : Bool) => (.bool r)) z) (hm : ue t z = some r) :
  lE false Tryz.prog 127 [g, j] w (.int .i64 r) := by
 refine cG 19 func127 rfl (fun b => sg (Wa (lS (Wm (V (ml bK rfl c) (Wm (ln (mf (fun i E W => ∃ k, (E 8 = .int .i64 (i : Nat) ∧ E 7 = .int .i64 (t.length : Nat)) ∧ ST false lU w W (hp w) k ∧ E 0 = g ∧ E 1 = j ∧ ow z (t.drop i) i = some r) t.length c.len ⟨_, ⟨rfl, rfl⟩, (b.kH St), rfl, rfl, hm⟩ dc dc dc (fun _ _ _ h => by obtain ⟨_, l, _⟩ := h; exact l) ?_ ?_))))))))
 ·rintro T E W G ⟨k, ⟨d, m⟩, b, u, x, a⟩
  obtain ⟨y, Z, N, M, Q⟩ := lT G
  rw [N] at a
  refine bg (Wh d (Wa (lr (Wh x (Wh u (Wm (VQ (mU (i := (T : Int)) (x0 := y) kY.out bK cR rfl rfl c (aH _) M) (fun a2 ⟨_, ⟨U, Y, rfl, J, K⟩, H⟩ => V (kI rfl (lB b.has H iX cR)) (bS a fun a3 I a => ?_)))))))))
  refine VE (zL y b B (lu.refl _) (Ch.mk kX (kY.mk ⟨U, Y, rfl, J, K⟩) b.kM) rfl (wE rfl) I (fun n b => ln (CI a rfl (fun D a => ?_) (fun D a => ?_))))
  ·refine sg (Wm (Wa (lt (nC (lJ (nC (lJ ?_)))))))
   obtain rfl := sj a
   exact rP b
  exact mr (lL (kU ⟨d, _, ⟨rfl, m⟩, (b.kH St), u, x, (by rw [Q]; exact a)⟩))
 rintro E W ⟨k, ⟨d, m⟩, b, u, x, a⟩
 rw [aI] at a
 exact kU (sg (Wa (lt (rQ a b))))
theorem G6 (a : lm) (g c : Value) (k : Nat) (u : kF) (r : Bool) (w : World) (j : Sl (Pl (mM .u8)) 1 (hp w) g a.Signed.Tag) (i : Sl kG 5 (hp w) c a.kJ.Kids) (t : At (hp w) (.pointer (some ⟨k, 0, none⟩)) (kK u)) (hm : xm a u = some r) :
  lE true Tryz.prog 128 [(.agg #[(.int .i64 a.Signed.kF.Kind), (.string a.Signed.kF.Head.kE), (.string a.Signed.kF.Head.kL), (.string a.Signed.kF.ma), (.string a.Signed.kF.B.kE), (.string a.Signed.kF.B.kL), (.string a.Signed.kF.C.kE), (.string a.Signed.kF.C.kL), (.string a.Signed.kF.mc), g, (.int .i64 a.kJ.Op), (.int .i64 a.kJ.K), (.string a.kJ.kD.kE), (.string a.kJ.kD.kL), c]), (.pointer (some ⟨k, 0, none⟩))] w (.bool r) := by
 refine cG 9 func128 rfl (fun b => sg ?_)
 obtain ⟨x, z, rfl⟩ := j.form
 obtain ⟨y, B, rfl⟩ := i.form
 refine VE (lI b rfl (fun D G b => Wa (lr (Wf wP (Wf yB (VA b Mh (kK a.Signed.kF) bX aO (V (kI rfl (lB b.has t bX aO)) (V (uY rfl rfl (nW fK) (ra (vN _ a.Signed.kF u))) (Wa (ln ?_))))))))))
 exact lC (rQ hm b)
theorem KP (k : lW) (g j : Value) (D : kF) (r : (lm × Bool)) (w : World) {J : lQ} (l : oC J [] w) (c : Sl kY 15 J g k.kQ) (B : Sl lO 8 J j k.li) (hm : zB k D = some r) :
  ms false Tryz.prog 69 [(.agg #[(.string k.Name), g, j]), (.agg (kK D).toArray)] w J [] (fun v L1 μ1 => ∃ d h, v = (.tuple #[(.agg #[(.int .i64 ((((r.1).Signed).kF).Kind)), (.string (((((r.1).Signed).kF).Head).kE)), (.string (((((r.1).Signed).kF).Head).kL)), (.string ((((r.1).Signed).kF).ma)), (.string (((((r.1).Signed).kF).B).kE)), (.string (((((r.1).Signed).kF).B).kL)), (.string (((((r.1).Signed).kF).C).kE)), (.string (((((r.1).Signed).kF).C).kL)), (.string ((((r.1).Signed).kF).mc)), d, (.int .i64 (((r.1).kJ).Op)), (.int .i64 (((r.1).kJ).K)), (.string ((((r.1).kJ).kD).kE)), (.string ((((r.1).kJ).kD).kL)), h]), (.bool (r.2))]) ∧ L1 = [] ∧ Sl (Pl (mM .u8)) 1 μ1 d (((r.1).Signed).Tag) ∧ Sl kG 5 μ1 h (((r.1).kJ).Kids)) := by
 refine tp l 19 func69 rfl (fun b => sg ?_)
 obtain ⟨T, U, rfl⟩ := c.form
 obtain ⟨A3, c4, rfl⟩ := B.form
 refine VE (lI b rfl (fun W6 L b => VE (lI b rfl (fun W8 K b => VE (lG b eG (fun E P b => Wa (lr (Wf oU (VB b (Mt (Mt Mh)) rfl rfl eX (V (xa (by exact wE rfl) rfl) (bS hm fun Z Q hm => VE (Eg b call127 (Bd (.slice T k.kQ.length U) k.kQ (.func (.func 128) #[] #[(.pointer (some ⟨K, 0, none⟩))]) (fun (x : lm) => xm x D) _ _ (c.mono kX.mono b.kM) ⟨128, #[], #[(.pointer (some ⟨K, 0, none⟩))], rfl, call128, fun W x vs r n m hm => by obtain ⟨_, rfl, Y⟩ := m; obtain ⟨s, A, rfl, p, q⟩ := Y.out; exact (G6 x s A K D r W p q (At.of (n _ _ (b.at_ (Mt Mh))) _ rfl) hm).mR⟩ Q) (fun F b => Wa (lH ?_))))))))))))))
 refine kU ?_
 replace b := b.kH (Kb (Db St))
 refine kZ (sg (Wm (Wi rfl (ln (CI hm rfl (fun M hm => ?_) (fun M hm => ?_))))))
 ·refine sg (V (mB (v := (.agg C9.toArray)) rp (mn eG iM (R3 _ iM) kr)) (VO (lh (.agg C9.toArray) (C9.toArray) b rfl rfl cR oc nb rfl (fun O b => Wa (ln ?_)))))
  replace b := b.kH (Kb (Db St))
  refine lC (lJ ?_)
  obtain rfl := sj hm
  exact qZ (v0 := (.agg C9.toArray)) (v1 := (.bool false)) rfl rfl (kO b.has Mh C9 rfl iX cR) rfl ⟨_, _, _, rfl, (b.mX Sn), (lu.refl _), Lo.refl, (ST.lX b (nq.mem Sn)), (.slice none 0 0), (.slice none 0 0), rfl, rfl, (Sl.nil _ _ _), (Sl.nil _ _ _)⟩
 refine kg (Wf oU (VB b (Mt Mh) rfl rfl eX (Wm (bS hm fun a I hm => VQ (mU (i := Z) (x0 := a) kY.out bK cR rfl rfl c (lM I) (lK I)) (fun c1 ⟨_, ⟨c3, c5, rfl, G, H⟩, N⟩ => V (kI rfl (lB b.has N iX cR)) ?_)))))
 obtain ⟨t, y, rfl⟩ := G.form
 obtain ⟨u, z, rfl⟩ := H.form
 let a0 := (C3 a.Signed.kF.Kind a.Signed.kF.Head.kE a.Signed.kF.Head.kL a.Signed.kF.ma a.Signed.kF.B.kE a.Signed.kF.B.kL a.Signed.kF.C.kE a.Signed.kF.C.kL a.Signed.kF.mc t a.Signed.Tag.length y a.kJ.Op a.kJ.K a.kJ.kD.kE a.kJ.kD.kL u a.kJ.Kids.length z)
 refine VO (lh (.agg a0.toArray) (a0.toArray) b rfl rfl cR oc nb rfl (fun R b => Wa (ln ?_)))
 replace b := b.kH (Kb (Db St))
 refine lC ?_
 obtain rfl := sj hm
 exact qZ (v0 := (.agg a0.toArray)) (v1 := (.bool true)) rfl rfl (kO b.has Mh a0 rfl iX cR) rfl ⟨_, _, _, rfl, (b.mX Sn), (lu.refl _), Lo.refl, (ST.lX b (nq.mem Sn)), (.slice t a.Signed.Tag.length y), (.slice u a.kJ.Kids.length z), rfl, rfl, G, H⟩
theorem E3 (c : Value) (u r : List nY) (w : World) {j : lQ} (I : oC j [] w) (a : Sl lO 8 j c u) (hm : vz u = some r) :
  ms true Tryz.prog 130 [c] w j [] (fun v G J => ∃ z t, v = z ∧ G = (t ++ []) ∧ lY 87 lO 8 J z r t) := by
 unfold vz at hm
 refine tp I 8 func130 rfl (fun b => sg (Wa (lS (Wm ?_))))
 obtain ⟨D, Q, rfl⟩ := a.form
 refine V (AS cX rfl rfl) (ln ?_)
 rcases D with _ | M
 ·have y := a.isNil
  replace hm : some [] = some r := by rw [y] at hm; simpa [nG, maxLen] using hm
  refine vr (rfl) (sg (Wa (lt (lJ ?_))))
  obtain rfl := sj hm
  refine mD (v := (.slice none 0 0)) rfl rfl ?_
  replace b := b.Ph
  exact ⟨_, _, _, rfl, (b.mX (Kr Sn)), (lu.refl _), Lo.refl, (ST.lX b (nq.mem (Kr Sn))), (.slice none 0 0), [], rfl, rfl, (lY.nil _ _ _ _)⟩
 ·refine rT (rfl) (kg (VE (lD (cs := #[]) b rp (Ax [] cX dX iI dc rfl (by simp) rfl rfl) (fun N H b => Wm (bS hm fun T x hm => VE (pS (B := [(H, Ob #[] 87)]) me b dc cX Hl.1 Hl.2.1 rfl Hl.2.2.1 Hl.2.2.2 rfl rfl (lY.lit me (l := []) .nil rfl nb rfl) (xL.sl me a b.kM) x (fun K g k b i => Wa (lt ?_))))))))
  obtain rfl := sj hm
  exact mD (v := g) rfl rfl ⟨_, _, _, rfl, (b.mX (Kr Sn)), (lu.refl _), Lo.refl, (ST.lX b (nq.mem (Kr Sn))), g, k, rfl, rfl, i⟩
theorem CU (g : Value) (t : List nY) (j : Value) (z : nY → Option Bool) (r : Int) (w : World) (c : Sl lO 8 (hp w) g t) (B : yD Tryz.prog j (hp w) (Ch lO) (fun (r : Bool) => (.bool r)) z) (hm : vM t z = some r) :
  lE false Tryz.prog 190 [g, j] w (.int .i64 r) := by
 refine cG 19 func190 rfl (fun b => sg (Wa (lS (Wm (V (ml cX rfl c) (Wm (ln (mf (fun i E W => ∃ k, (E 8 = .int .i64 (i : Nat) ∧ E 7 = .int .i64 (t.length : Nat)) ∧ ST false lU w W (hp w) k ∧ E 0 = g ∧ E 1 = j ∧ pb z (t.drop i) i = some r) t.length c.len ⟨_, ⟨rfl, rfl⟩, (b.kH St), rfl, rfl, hm⟩ dc dc dc (fun _ _ _ h => by obtain ⟨_, l, _⟩ := h; exact l) ?_ ?_))))))))
 ·rintro T E W G ⟨k, ⟨d, m⟩, b, u, x, a⟩
  obtain ⟨y, Z, N, M, Q⟩ := lT G
  rw [N] at a
  refine bg (Wh d (Wa (lr (Wh x (Wh u (Wm (VQ (mU (i := (T : Int)) (x0 := y) lO.out cX dX rfl rfl c (aH _) M) (fun a2 ⟨_, ⟨U, Y, rfl, J, K⟩, H⟩ => V (kI rfl (lB b.has H jU dX)) (bS a fun a3 I a => ?_)))))))))
  refine VE (zL y b B (lu.refl _) (Ch.mk me (lO.mk ⟨U, Y, rfl, J, K⟩) b.kM) rfl (wE rfl) I (fun n b => ln (CI a rfl (fun D a => ?_) (fun D a => ?_))))
  ·refine sg (Wm (Wa (lt (nC (lJ (nC (lJ ?_)))))))
   obtain rfl := sj a
   exact rP b
  exact mr (lL (kU ⟨d, _, ⟨rfl, m⟩, (b.kH St), u, x, (by rw [Q]; exact a)⟩))
 rintro E W ⟨k, ⟨d, m⟩, b, u, x, a⟩
 rw [aI] at a
 exact kU (sg (Wa (lt (rQ a b))))
theorem Cl (k : Value) (a0 : List nY) (y : LO) (J : Value) (f1 : nY → Option Bool) (r : List nY) (w : World) {Y : lQ} (h0 : oC Y (y ++ []) w) (n : lY 87 lO 8 Y k a0 y) (a9 : yD Tryz.prog J Y (Ch lO) (fun (r : Bool) => (.bool r)) f1) (hm : sI a0 f1 = some r) :
  ms false Tryz.prog 129 [k, J] w Y (y ++ []) (fun v L1 μ1 => ∃ P, v = P ∧ L1 = [] ∧ Sl lO 8 μ1 P (r)) := by
 refine tp h0 42 func129 rfl (fun d => sg (Wa (lr (Wm (Wm (bS hm fun O d7 hm => VE (Eg d call190 (CU k a0 J f1 _ _ (n.sl me d.kM (fun b o q => d.at_ (Ml q))) (a9.mono d.kM) d7) (fun W3 d => Wa (ln ?_)))))))))
 refine kZ (sg (Wm (Wi rfl (ln (CI hm rfl (fun d6 hm => ?_) (fun d6 hm => ?_))))))
 ·refine sg (Wm (Wa (lt (lJ ?_))))
  obtain rfl := sj hm
  refine mD (v := k) rfl rfl ?_
  obtain ⟨aa, d, d2, p, d8⟩ := ST.tJ me d n
  exact ⟨_, _, _, rfl, (d.mX Sn), d2, p, (ST.lX d (nq.mem Sn)), k, rfl, rfl, d8⟩
 refine kS (Wm (Wi rfl (Wa (ln (mK (nZ (fun m E W => ∃ a2 K G H A, ST false (keys (y ++ [])) w W Y (K ++ A) ∧ E 0 = k ∧ E 1 = J ∧ E 5 = (.int .i64 G) ∧ E 6 = (.int .i64 H) ∧ lY 87 lO 8 Y k a2 K ∧ oS f1 m a2 G H = some r) lF ⟨a0, y, O, (IntKind.i64.wrap (O + 1)), _, (d.kH St), rfl, rfl, rfl, rfl, n, hm⟩ ?_))))))
 rintro m E W ⟨a2, K, G, H, A, d, t, Z, I, N, j, c⟩
 cases m with
 | zero => rw [oS] at c; cases c
 | succ d4 =>
  refine kZ (sg (Wh N (Wh t (V (qX cX rfl j) (Wi rfl (ln (CI c rfl (fun b6 c => ?_) (fun b6 c => ?_))))))))
  ·refine kn (kZ (CJ c (fun a3 E W => ∃ M F, ST false (keys (y ++ [])) w W Y (M ++ F) ∧ E 0 = k ∧ E 1 = J ∧ E 5 = (.int .i64 a3.2) ∧ E 6 = (.int .i64 H) ∧ lY 87 lO 8 Y k a3.1 M) (fun a3 g => ?_) ?_))
   ·refine bg (Wh t (Wh N (bS g fun a s g => VQ (mL (i := H) lO.out cX dX rfl rfl j (lM s) (lK s)) (fun f5 ⟨_, ⟨f8, f9, rfl, Q, T⟩, c1, e1⟩ => V (kI rfl (lB (oD.hp _) (c1.mono (nn (fun b o q => d.has.2 b o (Ml q)))) jU dX)) (VE (lG d iI (fun e7 f3 d => ?_)))))))
    obtain ⟨u, B, rfl⟩ := Q.form
    obtain ⟨x, D, rfl⟩ := T.form
    let l := (C7 a.kD.kE a.kD.kL a.kJ.Op a.kJ.K a.kJ.kD.kE a.kJ.kD.kL u a.kJ.Kids.length B x a.nf.length D)
    refine VO (lh (.agg l.toArray) (l.toArray) d rfl rfl dX oc nb rfl (fun e8 d => lr (Wh Z (VA d Mh l jU dX (bS g fun f7 c2 g => VE (zL a d a9 (lu.refl _) (Ch.mk me (lO.mk ⟨(.slice u a.kJ.Kids.length B), (.slice x a.nf.length D), rfl, Q, T⟩) d.kM) rfl (wE rfl) c2 (fun e9 d => V (ol rfl) (ln (CI g rfl (fun b7 g => ?_) (fun b7 g => ?_))))))))))
    ·refine sg (Wh t (Wh I (VA d Mh l jU dX (bS g fun g3 U g => VQ (mL (i := G) lO.out cX dX rfl rfl j (lM U) (lK U)) (fun f6 ⟨_, ⟨g0, g1, rfl, e3, e4⟩, e2, b9⟩ => ?_)))))
     replace d := d.perm (Nr (Qb Qz) Nz)
     refine VO (rU (x1 := a) me d j rfl rfl (lO.mk ⟨(.slice u a.kJ.Kids.length B), (.slice x a.nf.length D), rfl, Q, T⟩) b9 (lK U) dX (fun f0 c7 d b4 => ln ?_))
     replace d := d.kH (Kr (Db St))
     refine kW (Wh I (Wi rfl (Wa (lH (lL (kU ?_))))))
     obtain rfl := sj g
     exact ⟨c7, _, (d.kH St), t, Z, rfl, N, b4⟩
    refine mr (lL (kU ?_))
    obtain rfl := sj g
    exact ⟨K, _, (d.kH (Db St)), t, Z, I, N, j⟩
   rintro ⟨d3, d5⟩ E W ⟨M, F, d, c8, c9, d0, d1, c3⟩ c0
   exact kW (Wh d1 (Wi rfl (Wa (ln ⟨d4, bF _, d3, M, d5, (IntKind.i64.wrap (H + 1)), _, (d.kH St), c8, c9, d0, rfl, c3, c0⟩))))
  refine nT (nJ (nJ (qE (kU (sg (Wh t (Wh I (bS c fun _ a4 c => VQ (zK (i := G) cX dX rfl rfl j (vG a4) (vw a4)) (fun g2 c4 => VO (BO (z := (⟨K0, RP, []⟩ : nY)) (zs := [(.string zS), (.string zS), (.int .i64 0), (.int .i64 0), (.string zS), (.string zS), (.slice none 0 0), (.slice none 0 0)]) me d j (lO.mk ⟨(.slice none 0 0), (.slice none 0 0), rfl, (Sl.nil _ _ _), (Sl.nil _ _ _)⟩) cX iI c4 rfl rfl (fun f2 e6 d b5 => lr (Wh t ?_))))))))))))
  refine Wh I (bS c fun _ a5 c => VQ (Bu (i := G) cX dX rfl rfl b5 (vG a5) (vw a5)) (fun L c5 => Wa (lt ?_)))
  obtain rfl := sj c
  refine mD (v := L) rfl rfl ?_
  obtain ⟨g7, d, R, h, c6⟩ := ST.tJ me d c5
  exact ⟨_, _, _, rfl, (d.mX Sn), R, h, (ST.lX d (nq.mem Sn)), L, rfl, rfl, c6⟩
theorem Gq (c : nY) (a i : Value) (k : Nat) (u : kF) (r : Bool) (w : World) (j : Sl kG 5 (hp w) a c.kJ.Kids) (g : Sl (Pl kK) 9 (hp w) i c.nf) (t : At (hp w) (.pointer (some ⟨k, 0, none⟩)) (kK u)) (hm : tj c u = some r) :
  lE true Tryz.prog 131 [(.agg #[(.string c.kD.kE), (.string c.kD.kL), (.int .i64 c.kJ.Op), (.int .i64 c.kJ.K), (.string c.kJ.kD.kE), (.string c.kJ.kD.kL), a, i]), (.pointer (some ⟨k, 0, none⟩))] w (.bool r) := by
 refine cG 9 func131 rfl (fun b => sg ?_)
 obtain ⟨B, D, rfl⟩ := j.form
 obtain ⟨x, y, rfl⟩ := g.form
 refine VE (lI b rfl (fun G I b => Wa (lr (Wf Fv (VB b Mh rfl rfl kC (V (kI rfl (lB b.has t bX aO)) (bS hm fun J z hm => VE (Eg b call60 (He (.slice x c.nf.length y) c.nf u _ _ (g.mono (Pl.mono _) b.kM) z) (fun H b => V (ol rfl) (Wa (ln ?_)))))))))))
 exact lC (rQ hm b)
theorem Jn (i : lW) (a g : Value) (y : kF) (r : List nY) (w : World) {G : lQ} (q : oC G [] w) (j : Sl kY 15 G a i.kQ) (c : Sl lO 8 G g i.li) (hm : yV i y = some r) :
  ms false Tryz.prog 70 [(.agg #[(.string i.Name), a, g]), (.agg (kK y).toArray)] w G [] (fun v L1 μ1 => ∃ n, v = n ∧ L1 = [] ∧ Sl lO 8 μ1 n (r)) := by
 refine tp q 10 func70 rfl (fun b => sg ?_)
 obtain ⟨A1, c2, rfl⟩ := j.form
 obtain ⟨Y, p, rfl⟩ := c.form
 refine VE (lI b rfl (fun W6 P b => VE (lI b rfl (fun W8 z b => Wa (lr (Wf AX (VB b (Mt Mh) rfl rfl kl (bS hm fun I N hm => ?_))))))))
 refine VE (eD b (aY _) call130 (fun m => ms.mR (E3 (.slice Y i.li.length p) i.li _ _ m (c.mono me.mono (lu.refl _)) N)) ?_ (L0 := []))
 rintro _ c3 c6 O b B d ⟨a5, Z, k, rfl, T⟩
 obtain rfl := k.symm
 replace b := b.perm (Tr Tn)
 refine V (xa (by exact wE rfl) rfl) ?_
 replace b := b.perm (Nb (Pr Pz) Nz)
 obtain ⟨c7, b, u, h, M⟩ := ST.JO (R := [(z, Ol (kK y) 52)]) b
 have K := At.of (M _ _ (.head _)) _ rfl
 refine bS hm fun c1 Q hm => ?_
 refine VE (eD b (Cr Qz Cn) call129 (fun m => (Cl a5 I Z (.func (.func 131) #[] #[(.pointer (some ⟨z, 0, none⟩))]) (fun (x : nY) => tj x y) _ _ m (T.mono me u) ⟨131, #[], #[(.pointer (some ⟨z, 0, none⟩))], rfl, call131, fun W x vs r A s hm => by obtain ⟨_, rfl, a3⟩ := s; obtain ⟨J, L, rfl, E, F⟩ := a3.out; exact (Gq x J L z y r W E F (K.mono ((lu.refl _).trans A)) hm).mR⟩ Q)) ?_)
 rintro _ c5 c8 b6 b D l ⟨H, t, rfl, U⟩
 obtain rfl := t.symm
 refine Wa (ln ?_)
 replace b := b.kH (Db St)
 refine lC ?_
 obtain rfl := sj hm
 exact mD (v := H) rfl rfl ⟨_, _, _, rfl, (b.mX Sn), ((B.trans u).trans D), ((d.trans h).trans l), (ST.lX b (nq.mem Sn)), H, rfl, rfl, U⟩
theorem Ek (T : Formula → Int → Option (Int × Int)) (n : ∀ (t : Formula) (j : Value) (I : Int) (r : (Int × Int)) (w : World) (g : Sl kG 5 (hp w) j t.Kids), T t I = some r → lE false Tryz.prog 192 [(.agg #[(.int .i64 t.Op), (.int .i64 t.K), (.string t.kD.kE), (.string t.kD.kL), j]), (.int .i64 I)] w (.tuple #[(.int .i64 r.1), (.int .i64 r.2)])) (t : Formula) (j : Value) (I : Int) (r : (Int × Int)) (w : World) (g : Sl kG 5 (hp w) j t.Kids) (hm : wy T t I = some r) :
  lE false Tryz.prog 192 [(.agg #[(.int .i64 t.Op), (.int .i64 t.K), (.string t.kD.kE), (.string t.kD.kL), j]), (.int .i64 I)] w (.tuple #[(.int .i64 r.1), (.int .i64 r.2)]) := by
 refine cG 40 func192 rfl (fun b => sg ?_)
 obtain ⟨A1, c2, rfl⟩ := g.form
 refine VE (lI b rfl (fun W4 P b => Wa (Wa (lr (Wa (Wa (lS (Wf oA ?_))))))))
 refine VB b Mh rfl rfl eA (V (ml aD rfl g) (Wm (ln ?_)))
 replace b := b.kH (Db St)
 refine CJ hm (fun Q E W => ∃ a2, ST false lU w W (hp w) a2 ∧ E 6 = (.int .i64 Q.1) ∧ E 7 = (.int .i64 Q.2)) (fun Q a5 => ?_) ?_
 ·refine mf (fun i E W => ∃ y z J, (E 15 = .int .i64 (i : Nat) ∧ E 14 = .int .i64 (t.Kids.length : Nat)) ∧ ST false lU w W (hp w) J ∧ E 1 = (.int .i64 I) ∧ E 6 = (.int .i64 y) ∧ E 7 = (.int .i64 z) ∧ E 13 = (.slice A1 t.Kids.length c2) ∧ qn I T (t.Kids.drop i) y z = some Q) t.Kids.length g.len ⟨1, 0, _, ⟨rfl, rfl⟩, (b.kH St), rfl, rfl, rfl, rfl, a5⟩ dc dc dc (fun _ _ _ h => by obtain ⟨_, _, _, l, _⟩ := h; exact l) ?_ ?_
  ·rintro F E W a3 ⟨y, z, J, ⟨d, m⟩, b, G, x, H, K, a⟩
   obtain ⟨c, c6, q, p, a9⟩ := lT a3
   rw [q] at a
   refine bg (VQ (mU (i := (F : Int)) (x0 := c) kG.out aD aC K d g (aH _) p) (fun c4 ⟨_, ⟨c5, rfl, N⟩, Y⟩ => V (kI rfl (lB b.has Y aK aC)) (VE (lG b aP (fun R c3 b => ?_)))))
   obtain ⟨B, D, rfl⟩ := N.form
   let a0 := (C2 c.Op c.K c.kD.kE c.kD.kL B c.Kids.length D)
   refine VO (lh (.agg a0.toArray) (a0.toArray) b rfl rfl aC oc nb rfl (fun c0 b => lS (Wh x (Wh G (Wi rfl (ln (CI a rfl (fun U a => ?_) (fun U a => ?_))))))))
   ·refine nT (nJ (SC (by simp) (nJ (qE (kU ?_)))))
    obtain rfl := sj a
    exact ⟨_, (b.kH (Db St)), x, H⟩
   refine kg (VA b Mh a0 aK aC (Wh G (Wh x (Wi rfl (bS a fun M Z a => VE (Eg b call192 (n c (.slice B c.Kids.length D) (IntKind.i64.wrap (I - y)) _ _ (N.mono kN.mono b.kM) Z) (fun c1 b => Wm (Wx rfl (Wx rfl (Wa (Wa ?_)))))))))))
   refine ln ?_
   replace b := b.kH (Db St)
   exact kW (Wh x (Wm (Wi rfl (Wh H (Wm (V (Ot (k := .i64) rfl rfl) (Wa (Wa (lH (lL (kU ⟨d, (IntKind.i64.wrap (y + M.1)), (if M.2 > z then M.2 else z), _, ⟨rfl, m⟩, (b.kH St), G, rfl, rfl, K, (by rw [a9]; exact a)⟩)))))))))))
  rintro E W ⟨y, z, J, ⟨d, m⟩, b, G, x, H, K, a⟩
  rw [aI] at a
  refine kU ?_
  obtain rfl := sj a
  exact ⟨_, (b.kH St), x, H⟩
 rintro ⟨L, O⟩ E W ⟨a2, b, s, A⟩ a4
 refine sg (Wh s (Wh A (Wi rfl (Wa (Wa (lt ?_))))))
 obtain rfl := sj a4
 exact Ha (v := (.int .i64 L)) (u := (.int .i64 (IntKind.i64.wrap (O + 1)))) rfl rfl rfl ⟨rfl, b.ex⟩
theorem Cm : ∀ (n : Nat) (c : Formula) (a : Value) (i : Int) (r : (Int × Int)) (w : World) (g : Sl kG 5 (hp w) a c.Kids) (_ : pt n c i = some r),
  lE false Tryz.prog 192 [(.agg #[(.int .i64 c.Op), (.int .i64 c.K), (.string c.kD.kE), (.string c.kD.kL), a]), (.int .i64 i)] w (.tuple #[(.int .i64 r.1), (.int .i64 r.2)])
 | 0 => by intros; rename_i h; simp only [pt] at h; cases h
 | n + 1 => Ek (pt n) (Cm n)
theorem Ih (a : Formula) (g : Value) (r : (Int × Int)) (w : World) (c : Sl kG 5 (hp w) g a.Kids) (hm : yf a = some r) :
  lE false Tryz.prog 134 [(.agg #[(.int .i64 a.Op), (.int .i64 a.K), (.string a.kD.kE), (.string a.kD.kL), g])] w (.tuple #[(.int .i64 r.1), (.int .i64 r.2)]) := by
 refine cG 15 func134 rfl (fun b => sg ?_)
 obtain ⟨i, j, rfl⟩ := c.form
 refine VE (lI b rfl (fun y B b => Wa (Wa (lr (VA b Mh (C2 a.Op a.K a.kD.kE a.kD.kL i a.Kids.length j) aK aC (bS hm fun x t hm => VE (Eg b call192 ((Cm lF) a (.slice i a.Kids.length j) 4096 _ _ (c.mono kN.mono b.kM) t) (fun z b => Wm (Wx rfl (Wx rfl (Wa (Wa ?_))))))))))))
 refine ln ?_
 replace b := b.kH (Db St)
 refine kZ (sg (Wm (Wi rfl (ln (CI hm rfl (fun k hm => ?_) (fun k hm => ?_))))))
 ·refine sg (Wa (Wa (lt (lJ ?_))))
  obtain rfl := sj hm
  exact Ha (v := (.int .i64 0)) (u := (.int .i64 0)) rfl rfl rfl ⟨rfl, b.ex⟩
 refine kg (Wm (Wm (Wa (Wa (lt ?_)))))
 obtain rfl := sj hm
 exact Ha (v := (.int .i64 x.1)) (u := (.int .i64 x.2)) rfl rfl rfl ⟨rfl, b.ex⟩
theorem H4 (a : Formula) (H : Value) (r : Bool) (w : World) (t : Sl kG 5 (hp w) H a.Kids) (hm : yd a = some r) :
  lE true Tryz.prog 193 [(.agg #[(.int .i64 a.Op), (.int .i64 a.K), (.string a.kD.kE), (.string a.kD.kL), H])] w (.bool r) := by
 refine cG 63 func193 rfl (fun b => sg ?_)
 obtain ⟨A1, c2, rfl⟩ := t.form
 let l := (C2 a.Op a.K a.kD.kE a.kD.kL A1 a.Kids.length c2)
 refine VE (lI b rfl (fun W4 N b => Wa (lr (V (mB (v := (.agg (kR K0).toArray)) rp (mn fF dQ (J6 _ dQ) kr)) (VE (lG b fF (fun W6 A b => VO (lh (.agg (kR K0).toArray) ((kR K0).toArray) b rfl rfl aR (xd K0) nb rfl (fun W7 b => lS (Wf oB ?_))))))))))
 refine VB b (Mt Mh) rfl rfl cA (ln (bg (Wi rfl (Wa (ln (CI hm rfl (fun d9 hm => ?_) (fun d9 hm => ?_)))))))
 ·refine sg (Wf uU (VA b (Mt Mh) (kR a.kD) bI aR (bS hm fun f7 e5 hm => VE (Eg b kB (uV a.kD _ _  e5) (fun f5 b => Wm (LJ hm (fun d2 E W => ∃ O, ST true lU w W (hp w) ((N, Ol l 58) :: O) ∧ E 1 = (.pointer (some ⟨N, 0, none⟩)) ∧ E 2 = (.bool false) ∧ E 17 = (.bool d2)) 5 ?_ (fun d2 J a4 => ?_)))))))
  ·rintro f8 E W ⟨O, b, e7, c9, e8⟩ e1
   refine Wh e8 (LJ e1 (fun d1 E W => ∃ P, ST true lU w W (hp w) P ∧ E 2 = (.bool false) ∧ E 22 = (.bool d1)) 4 ?_ (fun d1 I a3 => ?_))
   ·rintro f9 E W ⟨P, b, f6, e9⟩ e2
    refine Wg e9 (lt (nC (lJ ?_)))
    obtain rfl := sj e2
    exact rP b
   refine bC I (fun u I => ?_) (fun u I => ?_)
   ·refine ug u (kP sK e7) (ug u (kI rfl (lg b.has Mh rfl cA)) (ug u (lR rfl rfl rfl) (V (lj (cB u) rfl) ?_)))
    obtain rfl := sj I
    exact a3 _ _ ⟨_, (b.kH (Db St)), c9, rfl⟩
   refine un u (un u (un u (V (ll (cB u) rfl) ?_)))
   obtain rfl := sj I
   exact a3 _ _ ⟨_, (b.kH (Db St)), c9, rfl⟩
  refine bC J (fun j J => ?_) (fun j J => ?_)
  ·refine ug j (kP oA rfl) (ug j (kI rfl (lg b.has (Mt Mh) rfl eA)) (ug j (ml aD rfl t) (ug j (lR rfl rfl rfl) (V (lj (cB j) rfl) ?_))))
   obtain rfl := sj J
   exact a4 _ _ ⟨_, (b.kH (Db St)), rfl, rfl, rfl⟩
  refine un j (un j (un j (un j (V (ll (cB j) rfl) ?_))))
  obtain rfl := sj J
  exact a4 _ _ ⟨_, (b.kH (Db St)), rfl, rfl, rfl⟩
 let a0 := (l.toArray : Array Value)
 let d : Value := (.pointer (some ⟨N, 0, none⟩))
 refine kZ (CJ hm (fun L E W => ∃ R, ST true lU w W (hp w) ((A, Ol (kR K0) 50) :: ((N, Obj.cells a0 58 (0, 0)) :: R)) ∧ E 1 = d ∧ E 3 = (.pointer (some ⟨A, 0, none⟩)) ∧ E 23 = (.bool L)) (fun L G => ?_) ?_)
 ·refine sg (Wi rfl (Wa (ln (CI G rfl (fun b9 G => ?_) (fun b9 G => ?_)))))
  ·refine kn ?_
   obtain rfl := sj G
   exact ⟨_, (b.kH St), rfl, rfl, rfl⟩
  refine kW (Wi rfl (Wa (ln ?_)))
  obtain rfl := sj G
  exact ⟨_, (b.kH St), rfl, rfl, rfl⟩
 rintro g0 E W ⟨R, b, Q, d0, f0⟩ K
 refine CI K f0 (fun e0 K => ?_) (fun e0 K => ?_)
 ·refine sg (V (kP uU Q) (VA b (Mt Mh) (kR a.kD) bI aR (V (kI d0 (kO b.has Mh (kR K0) rfl bI aR)) (V (uY rfl rfl (nW eL) (ra (qf _ a.kD K0))) (Wm (LJ K (fun d3 E W => ∃ c7, ST true lU w W (hp w) c7 ∧ E 34 = (.bool d3)) 4 ?_ (fun d3 M a5 => ?_)))))))
  ·rintro g1 E W ⟨c7, b, f1⟩ e3
   refine Wg f1 (lt (nC (lJ ?_)))
   obtain rfl := sj e3
   exact rP b
  refine bC M (fun x M => ?_) (fun x M => ?_)
  ·refine ug x (kP sK Q) (ug x (kI rfl (lg b.has (Mt Mh) rfl cA)) (ug x (lR rfl rfl rfl) (V (lj (cB x) rfl) ?_)))
   obtain rfl := sj M
   exact a5 _ _ ⟨_, (b.kH (Db (Db St))), rfl⟩
  refine un x (un x (un x (V (ll (cB x) rfl) ?_)))
  obtain rfl := sj M
  exact a5 _ _ ⟨_, (b.kH (Db (Db St))), rfl⟩
 refine mr (lL (kU (sg (V (kP oB Q) (VB b (Mt Mh) rfl rfl cA (Wi rfl (Wm (LJ K (fun F E W => ∃ c8, ST true lU w W (hp w) ((N, Obj.cells a0 58 (0, 0)) :: c8) ∧ E 1 = d ∧ E 43 = (.bool F)) 5 ?_ (fun F D h => ?_)))))))))
 ·rintro g2 E W ⟨c8, b, a2, d4⟩ e4
  refine Wh d4 (LJ e4 (fun s E W => ∃ m, ST true lU w W (hp w) ((N, Obj.cells a0 58 (0, 0)) :: m) ∧ E 1 = d ∧ E 48 = (.bool s)) 4 ?_ (fun s B Z => ?_))
  ·rintro f2 E W ⟨m, b, T, d5⟩ c0
   refine Wh d5 (LJ c0 (fun q E W => ∃ a9, ST true lU w W (hp w) ((N, Obj.cells a0 58 (0, 0)) :: a9) ∧ E 1 = d ∧ E 56 = (.bool q)) 7 ?_ (fun q z Y => ?_))
   ·rintro f3 E W ⟨a9, b, d6, d7⟩ c1
    refine Wh d7 (LJ c1 (fun p E W => ∃ n, ST true lU w W (hp w) n ∧ E 62 = (.bool p)) 5 ?_ (fun p y U => ?_))
    ·rintro f4 E W ⟨n, b, d8⟩ c3
     exact Wg d8 (lt (rQ c3 b))
    refine bC y (fun g y => ?_) (fun g y => ?_)
    ·refine ug g (kP oA d6) (ug g (kI rfl (lg b.has Mh rfl eA)) (ug g (ml aD rfl t) (ug g (lR rfl rfl rfl) (V (lj (cB g) rfl) ?_))))
     obtain rfl := sj y
     exact U _ _ ⟨_, (b.kH (Db St)), rfl⟩
    refine un g (un g (un g (un g (V (ll (cB g) rfl) ?_))))
    obtain rfl := sj y
    exact U _ _ ⟨_, (b.kH (Db St)), rfl⟩
   refine bC z (fun c z => ?_) (fun c z => ?_)
   ·refine ug c (kP sK T) (ug c (kI rfl (lg b.has Mh rfl cA)) (ug c (kP oA T) (ug c (kI rfl (lg b.has Mh rfl eA)) (ug c (ml aD rfl t) (ug c (lR rfl rfl rfl) (V (lj (cB c) rfl) ?_))))))
    obtain rfl := sj z
    exact Y _ _ ⟨_, (b.kH St), T, rfl⟩
   refine un c (un c (un c (un c (un c (un c (V (ll (cB c) rfl) ?_))))))
   obtain rfl := sj z
   exact Y _ _ ⟨_, (b.kH St), T, rfl⟩
  refine bC B (fun i B => ?_) (fun i B => ?_)
  ·refine ug i (kP sK a2) (ug i (kI rfl (lg b.has Mh rfl cA)) (ug i (lR rfl rfl rfl) (V (lj (cB i) rfl) ?_)))
   obtain rfl := sj B
   exact Z _ _ ⟨_, (b.kH St), a2, rfl⟩
  refine un i (un i (un i (V (ll (cB i) rfl) ?_)))
  obtain rfl := sj B
  exact Z _ _ ⟨_, (b.kH St), a2, rfl⟩
 refine bC D (fun k D => ?_) (fun k D => ?_)
 ·refine ug k (kP uU Q) (ug k (kI rfl (kO b.has (Mt Mh) (kR a.kD) rfl bI aR)) (ug k (kI d0 (kO b.has Mh (kR K0) rfl bI aR)) (ug k (uY rfl rfl (nW eL) (ra (qf _ a.kD K0))) (V (lj (cB k) rfl) ?_))))
  obtain rfl := sj D
  exact h _ _ ⟨_, (b.kH (Db St)), Q, rfl⟩
 refine un k (un k (un k (un k (V (ll (cB k) rfl) ?_))))
 obtain rfl := sj D
 exact h _ _ ⟨_, (b.kH (Db St)), Q, rfl⟩
theorem Bi (g : Value) (t : List Formula) (j : Value) (z : Formula → Option Bool) (r : Int) (w : World) (c : Sl kG 5 (hp w) g t) (B : yD Tryz.prog j (hp w) (Ch kG) (fun (r : Bool) => (.bool r)) z) (hm : ua t z = some r) :
  lE false Tryz.prog 249 [g, j] w (.int .i64 r) := by
 refine cG 19 func249 rfl (fun b => sg (Wa (lS (Wm (V (ml aD rfl c) (Wm (ln (mf (fun i E W => ∃ k, (E 8 = .int .i64 (i : Nat) ∧ E 7 = .int .i64 (t.length : Nat)) ∧ ST false lU w W (hp w) k ∧ E 0 = g ∧ E 1 = j ∧ ox z (t.drop i) i = some r) t.length c.len ⟨_, ⟨rfl, rfl⟩, (b.kH St), rfl, rfl, hm⟩ dc dc dc (fun _ _ _ h => by obtain ⟨_, l, _⟩ := h; exact l) ?_ ?_))))))))
 ·rintro Q E W G ⟨k, ⟨d, m⟩, b, u, x, a⟩
  obtain ⟨y, U, M, K, N⟩ := lT G
  rw [M] at a
  refine bg (Wh d (Wa (lr (Wh x (Wh u (Wm (VQ (mU (i := (Q : Int)) (x0 := y) kG.out aD aC rfl rfl c (aH _) K) (fun Z ⟨_, ⟨T, rfl, J⟩, H⟩ => V (kI rfl (lB b.has H aK aC)) (bS a fun n I a => ?_)))))))))
  refine VE (zL y b B (lu.refl _) (Ch.mk kN (kG.mk ⟨T, rfl, J⟩) b.kM) rfl (wE rfl) I (fun Y b => ln (CI a rfl (fun D a => ?_) (fun D a => ?_))))
  ·refine sg (Wm (Wa (lt (nC (lJ (nC (lJ ?_)))))))
   obtain rfl := sj a
   exact rP b
  exact mr (lL (kU ⟨d, _, ⟨rfl, m⟩, (b.kH St), u, x, (by rw [N]; exact a)⟩))
 rintro E W ⟨k, ⟨d, m⟩, b, u, x, a⟩
 rw [aI] at a
 exact kU (sg (Wa (lt (rQ a b))))
theorem vO (a : Value) (g : List Formula) (c : Value) (i : Formula → Option Bool) (r : Bool) (w : World) (j : Sl kG 5 (hp w) a g) (k : yD Tryz.prog c (hp w) (Ch kG) (fun (r : Bool) => (.bool r)) i) (hm : pd g i = some r) :
  lE false Tryz.prog 194 [a, c] w (.bool r) := by
 refine cG 9 func194 rfl (fun b => sg (Wa (lr (Wm (Wm (bS hm fun x t hm => VE (Eg b call249 (Bi a g c i _ _ (j.mono kN.mono b.kM) (k.mono b.kM) t) (fun u b => Wi rfl (Wa (lH ?_))))))))))
 exact kU (lC (rQ hm b))
theorem EO (i : Formula → Option Bool) (t : ∀ (c : Formula) (a : Value) (r : Bool) (w : World) (g : Sl kG 5 (hp w) a c.Kids), i c = some r → lE false Tryz.prog 135 [(.agg #[(.int .i64 c.Op), (.int .i64 c.K), (.string c.kD.kE), (.string c.kD.kL), a])] w (.bool r)) (c : Formula) (a : Value) (r : Bool) (w : World) (g : Sl kG 5 (hp w) a c.Kids) (hm : vu i c = some r) :
  lE false Tryz.prog 195 [(.agg #[(.int .i64 c.Op), (.int .i64 c.K), (.string c.kD.kE), (.string c.kD.kL), a])] w (.bool r) := by
 refine cG 6 func195 rfl (fun b => sg ?_)
 obtain ⟨j, k, rfl⟩ := g.form
 refine VE (lI b rfl (fun x z b => Wa (lr (VA b Mh (C2 c.Op c.K c.kD.kE c.kD.kL j c.Kids.length k) aK aC (bS hm fun B u hm => VE (Eg b call135 (t c (.slice j c.Kids.length k) _ _ (g.mono kN.mono b.kM) u) (fun y b => V (ol rfl) (Wa (ln ?_)))))))))
 exact lC (rQ hm b)
theorem DS (z : Formula → Option Bool) (T : ∀ (a : Formula) (g : Value) (r : Bool) (w : World) (c : Sl kG 5 (hp w) g a.Kids), z a = some r → lE false Tryz.prog 135 [(.agg #[(.int .i64 a.Op), (.int .i64 a.K), (.string a.kD.kE), (.string a.kD.kL), g])] w (.bool r)) (a : Formula) (g : Value) (r : Bool) (w : World) (c : Sl kG 5 (hp w) g a.Kids) (hm : wA z a = some r) :
  lE false Tryz.prog 135 [(.agg #[(.int .i64 a.Op), (.int .i64 a.K), (.string a.kD.kE), (.string a.kD.kL), g])] w (.bool r) := by
 refine cG 17 func135 rfl (fun b => sg ?_)
 obtain ⟨B, D, rfl⟩ := c.form
 let a0 := (C2 a.Op a.K a.kD.kE a.kD.kL B a.Kids.length D)
 refine VE (lI b rfl (fun W4 U b => Wa (lr (VA b Mh a0 aK aC (bS hm fun v a3 hm => VE (Eg b call193 (lE.mR (H4 a (.slice B a.Kids.length D) _ _ (c.mono kN.mono b.kM) a3)) (fun W7 b => Wm (LJ hm (fun K E W => ∃ G, ST false lU w W (hp w) ((U, Ol a0 58) :: G) ∧ E 1 = (.pointer (some ⟨U, 0, none⟩)) ∧ E 2 = (.bool false) ∧ E 10 = (.bool K)) 5 ?_ (fun K t y => ?_)))))))))
 ·rintro A E W ⟨G, b, Y, I, Z⟩ M
  refine Wh Z (LJ M (fun J E W => ∃ H, ST false lU w W (hp w) H ∧ E 2 = (.bool false) ∧ E 16 = (.bool J)) 5 ?_ (fun J k u => ?_))
  ·rintro q E W ⟨H, b, n, d⟩ N
   exact Wg d (lt (rQ N b))
  refine bC k (fun i k => ?_) (fun i k => ?_)
  ·refine ug i (kP oA Y) (ug i (kI rfl (lg b.has Mh rfl eA)) (bS k fun p Q k => tm i (Eg b call194 (vO (.slice B a.Kids.length D) a.Kids (.func (.func 195) #[] #[]) (fun (x : Formula) => vu z x) _ _ (c.mono kN.mono b.kM) ⟨195, #[], #[], rfl, call195, fun W x vs r s h hm => by obtain ⟨_, rfl, a2⟩ := h; obtain ⟨m, rfl, l⟩ := a2.out; exact EO z T x m r W l hm⟩ Q) (fun a5 b => ug i (ol rfl) (V (lj (cB i) rfl) ?_)))))
   obtain rfl := sj k
   exact u _ _ ⟨_, (b.kH (Db St)), I, rfl⟩
  refine un i (un i (un i (un i (V (ll (cB i) rfl) ?_))))
  obtain rfl := sj k
  exact u _ _ ⟨_, (b.kH (Db St)), I, rfl⟩
 refine bC t (fun j t => ?_) (fun j t => ?_)
 ·refine ug j (kP oA rfl) (ug j (kI rfl (lg b.has Mh rfl eA)) (ug j (ml aD rfl c) (ug j (lR rfl rfl rfl) (V (lj (cB j) rfl) ?_))))
  obtain rfl := sj t
  exact y _ _ ⟨_, (b.kH St), rfl, rfl, rfl⟩
 refine un j (un j (un j (un j (V (ll (cB j) rfl) ?_))))
 obtain rfl := sj t
 exact y _ _ ⟨_, (b.kH St), rfl, rfl, rfl⟩
theorem CA : ∀ (n : Nat) (c : Formula) (a : Value) (r : Bool) (w : World) (g : Sl kG 5 (hp w) a c.Kids) (_ : sn n c = some r),
  lE false Tryz.prog 135 [(.agg #[(.int .i64 c.Op), (.int .i64 c.K), (.string c.kD.kE), (.string c.kD.kL), a])] w (.bool r)
 | 0 => by intros; rename_i h; simp only [sn] at h; cases h
 | n + 1 => DS (sn n) (CA n)
theorem xj (a : Formula) (k : Value) (r : Bool) (w : World) (c : Sl kG 5 (hp w) k a.Kids) (hm : sm a = some r) :
  lE false Tryz.prog 72 [(.agg #[(.int .i64 a.Op), (.int .i64 a.K), (.string a.kD.kE), (.string a.kD.kL), k])] w (.bool r) := by
 refine cG 24 func72 rfl (fun b => sg ?_)
 obtain ⟨y, z, rfl⟩ := c.form
 let a0 := (C2 a.Op a.K a.kD.kE a.kD.kL y a.Kids.length z)
 refine VE (lI b rfl (fun W4 H b => Wa (lr (VA b Mh a0 aK aC (bS hm fun n a9 hm => VE (Eg b call134 (Ih a (.slice y a.Kids.length z) _ _ (c.mono kN.mono b.kM) a9) (fun W7 b => Wm (Wx rfl (Wx rfl (Wa (Wa (lH ?_))))))))))))
 refine kU (sg (Wm (Wi rfl (Wm (LJ hm (fun Y E W => ∃ I, ST false lU w W (hp w) ((H, Ol a0 58) :: I) ∧ E 1 = (.pointer (some ⟨H, 0, none⟩)) ∧ E 2 = (.bool false) ∧ E 4 = (.int .i64 n.2) ∧ E 15 = (.bool Y)) 3 ?_ (fun Y x G => ?_))))))
 ·rintro F E W ⟨I, b, M, N, a4, a5⟩ Z
  refine Wh a5 (LJ Z (fun U E W => ∃ J, ST false lU w W (hp w) ((H, Ol a0 58) :: J) ∧ E 1 = (.pointer (some ⟨H, 0, none⟩)) ∧ E 2 = (.bool false) ∧ E 19 = (.bool U)) 3 ?_ (fun U u D => ?_))
  ·rintro v E W ⟨J, b, h, Q, l⟩ d
   refine Wh l (LJ d (fun T E W => ∃ K, ST false lU w W (hp w) K ∧ E 2 = (.bool false) ∧ E 23 = (.bool T)) 3 ?_ (fun T j B => ?_))
   ·rintro A E W ⟨K, b, q, m⟩ a2
    exact Wg m (lt (rQ a2 b))
   refine bC j (fun i j => ?_) (fun i j => ?_)
   ·refine ug i (kI h (kO b.has Mh a0 rfl aK aC)) (bS j fun s a3 j => tm i (Eg b call135 ((CA lF) a (.slice y a.Kids.length z) _ _ (c.mono kN.mono b.kM) a3) (fun p b => V (lj (cB i) rfl) ?_)))
    obtain rfl := sj j
    exact B _ _ ⟨_, (b.kH (Db St)), Q, rfl⟩
   refine un i (un i (V (ll (cB i) rfl) ?_))
   obtain rfl := sj j
   exact B _ _ ⟨_, (b.kH (Db St)), Q, rfl⟩
  refine bC u (fun g u => ?_) (fun g u => ?_)
  ·refine ug g (kT a4) (ug g (lR rfl rfl rfl) (V (lj (cB g) rfl) ?_))
   obtain rfl := sj u
   exact D _ _ ⟨_, (b.kH St), M, N, rfl⟩
  refine un g (un g (V (ll (cB g) rfl) ?_))
  obtain rfl := sj u
  exact D _ _ ⟨_, (b.kH St), M, N, rfl⟩
 refine bC x (fun t x => ?_) (fun t x => ?_)
 ·refine ug t (kT rfl) (ug t (lR rfl rfl rfl) (V (lj (cB t) rfl) ?_))
  obtain rfl := sj x
  exact G _ _ ⟨_, (b.kH St), rfl, rfl, rfl, rfl⟩
 refine un t (un t (V (ll (cB t) rfl) ?_))
 obtain rfl := sj x
 exact G _ _ ⟨_, (b.kH St), rfl, rfl, rfl, rfl⟩
theorem Aw (i : Formula) (g : Value) (x : Int) (r : Bool) (w : World) (c : Sl kG 5 (hp w) g i.Kids) (hm : uE i x = some r) :
  lE true Tryz.prog 285 [(.agg #[(.int .i64 i.Op), (.int .i64 i.K), (.string i.kD.kE), (.string i.kD.kL), g]), (.int .i64 x)] w (.bool r) := by
 refine cG 15 func285 rfl (fun b => sg ?_)
 obtain ⟨B, D, rfl⟩ := c.form
 refine VE (lI b rfl (fun G H b => Wa (lr (Wf oB (VB b Mh rfl rfl cA (Wm (Wi rfl (Wm (LJ hm (fun t E W => ∃ u, ST true lU w W (hp w) u ∧ E 4 = (.bool false) ∧ E 14 = (.bool t)) 5 ?_ (fun t j k => ?_))))))))))
 ·rintro J E W ⟨u, b, I, y⟩ z
  exact Wg y (lt (rQ z b))
 refine bC j (fun a j => ?_) (fun a j => ?_)
 ·refine ug a (kP oA rfl) (ug a (kI rfl (lg b.has Mh rfl eA)) (ug a (ml aD rfl c) (ug a (lR rfl rfl rfl) (V (lj (cB a) rfl) ?_))))
  obtain rfl := sj j
  exact k _ _ ⟨_, (b.kH (Db St)), rfl, rfl⟩
 refine un a (un a (un a (un a (V (ll (cB a) rfl) ?_))))
 obtain rfl := sj j
 exact k _ _ ⟨_, (b.kH (Db St)), rfl, rfl⟩
theorem G1 (r : Formula) (w : World) {c : lQ} (i : oC c [] w) (hm : zP  = some r) :
  ms true Tryz.prog 286 [] w c [] (fun v g j => ∃ a, v = (.agg #[(.int .i64 ((r).Op)), (.int .i64 ((r).K)), (.string (((r).kD).kE)), (.string (((r).kD).kL)), a]) ∧ g = [] ∧ Sl kG 5 j a ((r).Kids)) := by
 refine tp i 2 func286 rfl (fun b => sg (VE (lG b aP (fun k u b => lr (V (mB (v := (.agg EG.toArray)) (ni rfl) (mn aP bH (uM _ bH) kr)) (VO (lh (.agg EG.toArray) (EG.toArray) b rfl rfl aC oc nb rfl (fun t b => lt ?_))))))))
 obtain rfl := sj hm
 exact nw (v := (.agg EG.toArray)) rfl rfl (kO b.has Mh EG rfl aK aC) ⟨_, _, _, rfl, (b.mX Sn), (lu.refl _), Lo.refl, (ST.lX b (nq.mem Sn)), (.slice none 0 0), rfl, rfl, (Sl.nil _ _ _)⟩
theorem H2 (r : Formula) (w : World) {c : lQ} (i : oC c [] w) (hm : Ar  = some r) :
  ms true Tryz.prog 287 [] w c [] (fun v g j => ∃ a, v = (.agg #[(.int .i64 ((r).Op)), (.int .i64 ((r).K)), (.string (((r).kD).kE)), (.string (((r).kD).kL)), a]) ∧ g = [] ∧ Sl kG 5 j a ((r).Kids)) := by
 refine tp i 2 func287 rfl (fun b => sg (VE (lG b aP (fun k u b => lr (V (mB (v := (.agg Ga.toArray)) (ni rfl) (mn aP bH (uM _ bH) kr)) (VO (lh (.agg Ga.toArray) (Ga.toArray) b rfl rfl aC oc nb rfl (fun t b => lt ?_))))))))
 obtain rfl := sj hm
 exact nw (v := (.agg Ga.toArray)) rfl rfl (kO b.has Mh Ga rfl aK aC) ⟨_, _, _, rfl, (b.mX Sn), (lu.refl _), Lo.refl, (ST.lX b (nq.mem Sn)), (.slice none 0 0), rfl, rfl, (Sl.nil _ _ _)⟩
theorem Jm (T : Int) (J : Value) (M r : List Formula) (w : World) {Q : lQ} (h0 : oC Q [] w) (I : Sl kG 5 Q J M) (hm : Bm T M = some r) :
  ms true Tryz.prog 289 [(.int .i64 T), J] w Q [] (fun v L1 μ1 => ∃ q, v = q ∧ L1 = [] ∧ Sl kG 5 μ1 q (r)) := by
 refine tp h0 28 func289 rfl (fun b => sg (Wa (lr (Wa (lS (Wm ?_))))))
 refine V (ml aD rfl I) (Wm (ln (mf (fun i E W => ∃ t G k H, (E 10 = .int .i64 (i : Nat) ∧ E 9 = .int .i64 (M.length : Nat)) ∧ ST true (keys []) w W Q (k ++ H) ∧ E 0 = (.int .i64 T) ∧ E 5 = t ∧ E 8 = J ∧ lY 58 kG 5 Q t G k ∧ rG T (M.drop i) G = some r) M.length I.len ⟨(.slice none 0 0), ([]), [], _, ⟨rfl, rfl⟩, (b.kH St), rfl, rfl, rfl, (lY.nil _ _ _ _), hm⟩ dc dc dc (fun _ _ _ h => by obtain ⟨_, _, _, _, n, _⟩ := h; exact n) ?_ ?_)))
 ·rintro b5 E W a4 ⟨t, G, k, H, ⟨m, p⟩, b, x, y, z, u, c⟩
  obtain ⟨a, b7, F, A, K⟩ := lT a4
  rw [F] at c
  refine bg (VQ (mU (i := (b5 : Int)) (x0 := a) kG.out aD aC z m I (aH _) A) (fun c8 ⟨_, ⟨c9, rfl, D⟩, a5⟩ => V (kI rfl (lB b.has a5 aK aC)) (VE (lG b aP (fun c0 c5 b => ?_)))))
  obtain ⟨g, j, rfl⟩ := D.form
  let a0 := (C2 a.Op a.K a.kD.kE a.kD.kL g a.Kids.length j)
  refine VO (lh (.agg a0.toArray) (a0.toArray) b rfl rfl aC oc nb rfl (fun c1 b => lr (Wf oB (VB b Mh rfl rfl cA (Wh x (Wi rfl (ln (CI c rfl (fun Z c => ?_) (fun Z c => ?_)))))))))
  ·refine kW (Wh y (Wf oA (VB b Mh rfl rfl eA ?_)))
   replace b := b.perm (Nr (Qb Qz) Nz)
   refine bS c fun O a2 c => VE (pS (B := k) kN b dc aD na.1 na.2.1 rfl na.2.2.1 na.2.2.2 rfl rfl u (xL.sl kN D b.kM) a2 (fun c2 R a9 b U => Wa (lH (lL (kU ?_)))))
   replace b := b.kH (Kr (Db St))
   exact ⟨m, R, O, a9, _, ⟨rfl, p⟩, (b.kH St), x, rfl, z, U, (by rw [K]; exact c)⟩
  refine kW (Wh y (VA b Mh a0 aK aC (VE (lD (cs := a0.toArray) b (ni rfl) (nj aD aC aP) (fun c3 c6 b => ?_)))))
  replace b := b.perm (Nr (Qb (Qb Qz)) Nz)
  refine bS c fun P a3 c => VE (pS (B := k) kN b dc aD na.1 na.2.1 rfl na.2.2.1 na.2.2.2 rfl rfl u (xL.lit kN (l := [a]) (.cons (ys := C2 a.Op a.K a.kD.kE a.kD.kL g a.Kids.length j) (kG.mk ⟨(.slice g a.Kids.length j), rfl, D⟩) .nil) rfl nb (b.at_ (Ma Mh))) a3 (fun c4 b4 L b Y => Wa (lH (lL (kU ?_)))))
  replace b := b.kH (Kr (Db (Db St)))
  exact ⟨m, b4, P, L, _, ⟨rfl, p⟩, (b.kH St), x, rfl, z, Y, (by rw [K]; exact c)⟩
 rintro E W ⟨t, G, k, H, ⟨m, p⟩, b, x, y, z, u, c⟩
 rw [aI] at c
 refine kU (sg (Wh y (Wa (lt ?_))))
 obtain rfl := sj c
 refine mD (v := t) rfl rfl ?_
 obtain ⟨d1, b, N, d, s⟩ := ST.tJ kN b u
 exact ⟨_, _, _, rfl, (b.mX Sn), N, d, (ST.lX b (nq.mem Sn)), t, rfl, rfl, s⟩
theorem By (a : Formula) (g : Value) (i : Nat) (j : Int) (r : Bool) (w : World) (c : Sl kG 5 (hp w) g a.Kids) (k : At (hp w) (.pointer (some ⟨i, 0, none⟩)) [(.int .i64 j)]) (hm : rN a j = some r) :
  lE true Tryz.prog 290 [(.agg #[(.int .i64 a.Op), (.int .i64 a.K), (.string a.kD.kE), (.string a.kD.kL), g]), (.pointer (some ⟨i, 0, none⟩))] w (.bool r) := by
 refine cG 7 func290 rfl (fun b => sg ?_)
 obtain ⟨t, u, rfl⟩ := c.form
 refine VE (lI b rfl (fun z D b => Wa (lr (VA b Mh (C2 a.Op a.K a.kD.kE a.kD.kL t a.Kids.length u) aK aC (V (kI rfl (tX b.has (y := (.int .i64 j)) k cA)) (bS hm fun G x hm => VE (Eg b call285 (Aw a (.slice t a.Kids.length u) j _ _ (c.mono kN.mono b.kM) x) (fun B b => Wa (ln ?_)))))))))
 exact lC (rQ hm b)
theorem CS (c : Value) (u r : List Formula) (w : World) {j : lQ} (I : oC j [] w) (a : Sl kG 5 j c u) (hm : tu u = some r) :
  ms true Tryz.prog 320 [c] w j [] (fun v G J => ∃ z t, v = z ∧ G = (t ++ []) ∧ lY 58 kG 5 J z r t) := by
 unfold tu at hm
 refine tp I 8 func320 rfl (fun b => sg (Wa (lS (Wm ?_))))
 obtain ⟨D, Q, rfl⟩ := a.form
 refine V (AS aD rfl rfl) (ln ?_)
 rcases D with _ | M
 ·have y := a.isNil
  replace hm : some [] = some r := by rw [y] at hm; simpa [nG, maxLen] using hm
  refine vr (rfl) (sg (Wa (lt (lJ ?_))))
  obtain rfl := sj hm
  refine mD (v := (.slice none 0 0)) rfl rfl ?_
  replace b := b.Ph
  exact ⟨_, _, _, rfl, (b.mX (Kr Sn)), (lu.refl _), Lo.refl, (ST.lX b (nq.mem (Kr Sn))), (.slice none 0 0), [], rfl, rfl, (lY.nil _ _ _ _)⟩
 ·refine rT (rfl) (kg (VE (lD (cs := #[]) b rp (Ax [] aD aC aP dc rfl (by simp) rfl rfl) (fun N H b => Wm (bS hm fun T x hm => VE (pS (B := [(H, Ob #[] 58)]) kN b dc aD na.1 na.2.1 rfl na.2.2.1 na.2.2.2 rfl rfl (lY.lit kN (l := []) .nil rfl nb rfl) (xL.sl kN a b.kM) x (fun K g k b i => Wa (lt ?_))))))))
  obtain rfl := sj hm
  exact mD (v := g) rfl rfl ⟨_, _, _, rfl, (b.mX (Kr Sn)), (lu.refl _), Lo.refl, (ST.lX b (nq.mem (Kr Sn))), g, k, rfl, rfl, i⟩
theorem tq (y : Value) (a0 : List Formula) (D : LO) (q a2 : Int) (T : Value) (f3 : (Formula × Formula) → Option Int) (r : List Formula) (w : World) {μ0 : lQ} (h0 : oC μ0 (D ++ []) w) (h4 : lY 58 kG 5 μ0 y a0 D) (h5 : yD Tryz.prog T μ0 (wD kG kG) (fun (r : Int) => (.int .i64 r)) f3) (hm : oe a0 q a2 f3 = some r) :
  ms false Tryz.prog 356 [y, (.int .i64 q), (.int .i64 a2), T] w μ0 (D ++ []) (fun v L1 μ1 => ∃ S1, v = (.tuple #[]) ∧ L1 = (S1 ++ []) ∧ lY 58 kG 5 μ1 y r S1) := by
 refine tp h0 53 func356 rfl (fun n => sg (Wm (Wi rfl (Wa (ln (qw (mK (nZ (fun m E W => ∃ Y J x c9, ST false (keys (D ++ [])) w W μ0 (J ++ c9) ∧ E 0 = y ∧ E 1 = (.int .i64 q) ∧ E 2 = (.int .i64 a2) ∧ E 3 = T ∧ E 8 = (.int .i64 x) ∧ lY 58 kG 5 μ0 y Y J ∧ mO a2 q f3 m Y x = some r) lF ⟨a0, D, (IntKind.i64.wrap (q + 1)), _, (n.kH St), rfl, rfl, rfl, rfl, rfl, h4, hm⟩ ?_))))))))
 rintro m E W ⟨Y, J, x, c9, n, f9, g0, d1, g1, L, c6, u⟩
 cases m with
 | zero => rw [mO] at u; cases u
 | succ h2 =>
  refine kZ (sg (Wh L (Wh d1 (Wi rfl (ln (CI u rfl (fun e9 u => ?_) (fun e9 u => ?_)))))))
  ·refine kn (kZ (bg (Wh L (Wa (ln (qw (CJ u (fun O E W => ∃ U d0, ST false (keys (D ++ [])) w W μ0 (U ++ d0) ∧ E 0 = y ∧ E 1 = (.int .i64 q) ∧ E 2 = (.int .i64 a2) ∧ E 3 = T ∧ E 8 = (.int .i64 x) ∧ lY 58 kG 5 μ0 y O U) (fun O f1 => ?_) ?_)))))))
   ·refine mK (nZ (fun m E W => ∃ M B j b7, ST false (keys (D ++ [])) w W μ0 (B ++ b7) ∧ E 0 = y ∧ E 1 = (.int .i64 q) ∧ E 2 = (.int .i64 a2) ∧ E 3 = T ∧ E 8 = (.int .i64 x) ∧ E 9 = (.int .i64 j) ∧ lY 58 kG 5 μ0 y M B ∧ mY q f3 m M j = some O) lF ⟨Y, J, x, _, (n.kH St), f9, g0, d1, g1, L, rfl, c6, f1⟩ ?_)
    rintro m E W ⟨M, B, j, b7, n, K, Z, c0, a3, c1, G, t, I⟩
    cases m with
    | zero => rw [mY] at I; cases I
    | succ f4 =>
     refine kZ (kZ ?_)
     replace n := n.drew
     have d := n.has.kH (Kr Sn)
     refine mi d lN (X 0 rfl d (kT G) (X 1 rfl d (kT Z) (X 2 rfl d (lR rfl rfl rfl) (X 3 rfl d (kT rfl) (PJ I (fun c7 E W => ∃ b9, ST false (keys (D ++ [])) w W μ0 (B ++ b9) ∧ E 0 = y ∧ E 1 = (.int .i64 q) ∧ E 2 = (.int .i64 a2) ∧ E 3 = T ∧ E 8 = (.int .i64 x) ∧ E 9 = (.int .i64 j) ∧ E 34 = (.bool c7)) (bm 17 131071) 0 ?_ (fun c7 g a4 => ?_))))))
     ·rintro k2 E W ⟨b9, n, z, c2, c3, c4, c5, H, e8⟩ c
      have d := n.has.kH (Kr Sn)
      refine mu kr (kU (CI c e8 (fun d3 c => ?_) (fun d3 c => ?_)))
      ·refine kn (kZ (mK ?_))
       replace n := n.drew
       have d := n.has.kH Sn
       have p := n.has.kH (Kr Sn)
       refine wo 15 d p lN (mz 0 rfl kr (.inl rfl) rfl dc (fun _ _ h => ⟨h.1, mV br h.2⟩) ⟨d, fun _ => p⟩ (fun _ _ _ _ => kT z) (mz 1 rfl kr (.inl rfl) rfl dc (fun _ _ h => ⟨h.1, mV br h.2⟩) ⟨d, fun _ => p⟩ (fun _ _ _ _ => kT H) (mz 2 rfl kr (.inl rfl) rfl dc (fun _ _ h => ⟨h.1, mV br h.2⟩) ⟨d, fun _ => p⟩ (fun _ _ _ _ => kT z) (mz 3 rfl kr (.inl rfl) rfl dc (fun _ _ h => ⟨h.1, mV br h.2⟩) ⟨d, fun _ => p⟩ (fun _ _ _ _ => kT H) (mz 4 rfl kr (.inl rfl) rfl dc (fun _ _ h => ⟨h.1, mV br h.2⟩) ⟨d, fun _ => p⟩ (fun _ _ _ _ => lR rfl rfl rfl) (mz 5 rfl kr (.inl rfl) rfl dc (fun _ _ h => ⟨h.1, mV br h.2⟩) ⟨d, fun _ => p⟩ (fun _ _ _ _ => kT z) (mz 6 rfl kr (.inl rfl) rfl dc (fun _ _ h => ⟨h.1, mV br h.2⟩) ⟨d, fun _ => p⟩ (fun _ _ _ _ => kT H) (mz 7 rfl kr (.inl rfl) rfl dc (fun _ _ h => ⟨h.1, mV br h.2⟩) ⟨d, fun _ => p⟩ (fun _ _ _ _ => lR rfl rfl rfl) (bS c fun a5 b0 c => rX 8 rfl kr (.inl rfl) rfl dc (fun _ _ h => ⟨h.1, mV br h.2⟩) ⟨d, fun _ => p⟩ (mL (i := (IntKind.i64.wrap (j - 1))) kG.out aD aC rfl rfl t (lM b0) (lK b0)) (fun i9 ⟨_, ⟨j8, rfl, a8⟩, d6, h6⟩ => mz 9 rfl kr (.inl rfl) rfl dc (fun _ _ h => ⟨h.1, mV br h.2⟩) ⟨d, fun _ => p⟩ (fun l W A P => have s := (P.2 (A.Er 15 [9] kr rfl)); kI rfl (lB (oD.hp _) (d6.mono (nn (fun b o F => s.2 b o (Ml F)))) aK aC)) (mz 10 rfl kr (.inl rfl) rfl dc (fun _ _ h => ⟨h.1, mV br h.2⟩) ⟨d, fun _ => p⟩ (fun _ _ _ _ => kT z) (mz 11 rfl kr (.inl rfl) rfl dc (fun _ _ h => ⟨h.1, mV br h.2⟩) ⟨d, fun _ => p⟩ (fun _ _ _ _ => kT H) (bS c fun k b1 c => ?_)))))))))))))
       refine rX 12 rfl kr (.inl rfl) rfl dc (fun _ _ h => ⟨h.1, mV br h.2⟩) ⟨d, fun _ => p⟩ (mL (i := j) kG.out aD aC rfl rfl t (lM b1) (lK b1)) (fun j0 ⟨_, ⟨j9, rfl, a9⟩, d7, h7⟩ => mz 13 rfl kr (.inl rfl) rfl dc (fun _ _ h => ⟨h.1, mV br h.2⟩) ⟨d, fun _ => p⟩ (fun l W A P => have s := (P.2 (A.Er 15 [13] kr rfl)); kI rfl (lB (oD.hp _) (d7.mono (nn (fun b o F => s.2 b o (Ml F)))) aK aC)) (bS c fun k3 N c => rX 14 rfl kr (.inl rfl) rfl dc (fun _ _ h => ⟨h.1, mV br h.2⟩) ⟨d, fun _ => p⟩ (mL (i := j) kG.out aD aC rfl rfl t (lM N) (lK N)) (fun j3 ⟨_, ⟨k0, rfl, i2⟩, i0, d4⟩ => ?_)))
       obtain ⟨e3, e6, rfl⟩ := a8.form
       refine XO 15 rfl (rU (x1 := a5) kN n t rfl rfl (kG.mk ⟨(.slice e3 a5.Kids.length e6), rfl, a8⟩) d4 (lK N) aC (fun i6 i4 n R => ?_))
       have d := n.has.kH Sn
       refine ⟨⟨d, fun h => AV kr h⟩, (bS c fun k4 Q c => rX 16 rfl kr (.inl rfl) rfl dc (fun _ _ h => ⟨h.1, mV br h.2⟩) ⟨d, fun h => AV kr h⟩ (mL (i := (IntKind.i64.wrap (j - 1))) kG.out aD aC rfl rfl R (lM Q) (lK Q)) (fun j4 ⟨_, ⟨k1, rfl, i3⟩, i1, d5⟩ => ?_))⟩
       obtain ⟨e4, e7, rfl⟩ := a9.form
       refine XO 17 rfl (rU (x1 := (⟨k.Op, k.K, k.kD, k.Kids⟩ : Formula)) kN n R rfl rfl (kG.mk ⟨(.slice e4 k.Kids.length e7), rfl, a9⟩) d5 (lK Q) aC (fun i7 e5 n d2 => ?_))
       have d := n.has.kH Sn
       exact ⟨⟨d, fun h => AV kr h⟩, (mu kr (lL (kU (kW (Wh H (Wi rfl (Wa (ln ⟨f4, bF _, ((M.set (Int.toNat j) a5).set (Int.toNat (IntKind.i64.wrap (j - 1))) (⟨k.Op, k.K, k.kD, k.Kids⟩ : Formula)), e5, (IntKind.i64.wrap (j - 1)), _, (n.kH St), z, c2, c3, c4, c5, rfl, d2, c⟩))))))))⟩
      refine nT (nJ (nJ (qE (kU ?_))))
      obtain rfl := sj c
      exact ⟨B, _, (n.kH St), z, c2, c3, c4, c5, t⟩
     refine bC g (fun a g => ?_) (fun a g => ?_)
     ·refine Xg 4 rfl rfl (cB a) d (kT a3) (Xg 5 rfl rfl (cB a) d (kT K) (Xg 6 rfl rfl (cB a) d (kT G) (bS g fun f7 b2 g => rX 7 rfl kr (.inr ⟨3, true, 21, rfl, rfl, by decide, (cB a)⟩) rfl dc (fun _ _ h => h) d (mL (i := j) kG.out aD aC rfl rfl t (lM b2) (lK b2)) (fun j5 ⟨_, ⟨f5, rfl, e1⟩, d8, h8⟩ => qQ 8 rfl rfl (cB a) d (fun _ s => kI rfl (lB (oD.hp _) (d8.mono (nn (fun b o F => s.2 b o (Ml F)))) aK aC)) (Xg 9 rfl rfl (cB a) d (kT K) (Xg 10 rfl rfl (cB a) d (kT G) (Xg 11 rfl rfl (cB a) d (lR rfl rfl rfl) (bS g fun f8 b3 g => rX 12 rfl kr (.inr ⟨3, true, 21, rfl, rfl, by decide, (cB a)⟩) rfl dc (fun _ _ h => h) d (mL (i := (IntKind.i64.wrap (j - 1))) kG.out aD aC rfl rfl t (lM b3) (lK b3)) (fun j6 ⟨_, ⟨f6, rfl, e2⟩, d9, h9⟩ => qQ 13 rfl rfl (cB a) d (fun _ s => kI rfl (lB (oD.hp _) (d9.mono (nn (fun b o F => s.2 b o (Ml F)))) aK aC)) (bS g fun j7 e0 g => Af 14 rfl rfl (cB a) (zL (f7, f8) n h5 (lu.refl _) (wD.mk kN kN (kG.mk ⟨f5, rfl, e1⟩) (kG.mk ⟨f6, rfl, e2⟩) n.kM) rfl (yl rfl rfl) e0 (fun i8 n => ?_))))))))))))
      have d := n.has.kH (Kr Sn)
      refine ⟨d, (Xg 15 rfl rfl (cB a) d (lR rfl rfl rfl) (X 16 rfl d (lj (cB a) rfl) ?_))⟩
      obtain rfl := sj g
      refine nu kr (a4 _ _ ⟨_, (n.kH St), K, Z, c0, a3, c1, G, rfl⟩)
     refine Xn 4 rfl rfl (cB a) d (Xn 5 rfl rfl (cB a) d (Xn 6 rfl rfl (cB a) d (Xn 7 rfl rfl (cB a) d (Xn 8 rfl rfl (cB a) d (Xn 9 rfl rfl (cB a) d (Xn 10 rfl rfl (cB a) d (Xn 11 rfl rfl (cB a) d (Xn 12 rfl rfl (cB a) d (Xn 13 rfl rfl (cB a) d (Xn 14 rfl rfl (cB a) d (Xn 15 rfl rfl (cB a) d (X 16 rfl d (ll (cB a) rfl) ?_))))))))))))
     obtain rfl := sj g
     refine nu kr (a4 _ _ ⟨_, (n.kH St), K, Z, c0, a3, c1, G, rfl⟩)
   rintro h1 E W ⟨U, d0, n, g2, g3, g4, g7, g8, f2⟩ f0
   exact lL (kU (kW (Wh g8 (Wi rfl (Wa (ln ⟨h2, bF _, h1, U, (IntKind.i64.wrap (x + 1)), _, (n.kH St), g2, g3, g4, g7, rfl, f2, f0⟩))))))
  refine nT (nJ (nJ (qE (kU (rM ?_)))))
  obtain rfl := sj u
  exact pV rfl ⟨_, _, _, rfl, (n.mX (Kr Sn)), (lu.refl _), Lo.refl, (ST.lX n (nq.mem (Kr Sn))), J, rfl, rfl, c6⟩
theorem rn (x : Value) (a0 : List Formula) (t : LO) (G H a3 : Int) (a5 : Value) (f4 : (Formula × Formula) → Option Int) (r : List Formula) (w : World) {Y : lQ} (h0 : oC Y (t ++ []) w) (c0 : lY 58 kG 5 Y x a0 t) (d5 : yD Tryz.prog a5 Y (wD kG kG) (fun (r : Int) => (.int .i64 r)) f4) (hm : nX a0 G H a3 f4 = some r) :
  ms true Tryz.prog 367 [x, (.int .i64 G), (.int .i64 H), (.int .i64 a3), a5] w Y (t ++ []) (fun v L1 μ1 => ∃ S1, v = (.tuple #[]) ∧ L1 = (S1 ++ []) ∧ lY 58 kG 5 μ1 x r S1) := by
 refine tp h0 38 func367 rfl (fun p => sg (Wa (ln (qw (mK (nZ (fun m E W => ∃ D y c Z, ST true (keys (t ++ [])) w W Y (y ++ Z) ∧ E 0 = x ∧ E 1 = (.int .i64 G) ∧ E 2 = (.int .i64 H) ∧ E 3 = (.int .i64 a3) ∧ E 10 = (.int .i64 c) ∧ lY 58 kG 5 Y x D y ∧ nx a3 H G m D c = some r) lF ⟨a0, t, 0, _, (p.kH St), rfl, rfl, rfl, rfl, rfl, c0, hm⟩ ?_))))))
 rintro m E W ⟨D, y, c, Z, p, u, I, J, a4, k, j, a⟩
 cases m with
 | zero => rw [nx] at a; cases a
 | succ c1 =>
  refine kZ (sg (Wh k (Wh a4 (Wi rfl (ln (CI a rfl (fun P a => ?_) (fun P a => ?_)))))))
  ·refine kn (kZ (mK ?_))
   replace p := p.drew
   have d := p.has.kH Sn
   have n := p.has.kH (Kr Sn)
   refine wo 21 d n lN (mz 0 rfl kr (.inl rfl) rfl dc (fun _ _ h => ⟨h.1, mV br h.2⟩) ⟨d, fun _ => n⟩ (fun _ _ _ _ => kT u) (mz 1 rfl kr (.inl rfl) rfl dc (fun _ _ h => ⟨h.1, mV br h.2⟩) ⟨d, fun _ => n⟩ (fun _ _ _ _ => kT I) (mz 2 rfl kr (.inl rfl) rfl dc (fun _ _ h => ⟨h.1, mV br h.2⟩) ⟨d, fun _ => n⟩ (fun _ _ _ _ => kT k) (mz 3 rfl kr (.inl rfl) rfl dc (fun _ _ h => ⟨h.1, mV br h.2⟩) ⟨d, fun _ => n⟩ (fun _ _ _ _ => lR rfl rfl rfl) (mz 4 rfl kr (.inl rfl) rfl dc (fun _ _ h => ⟨h.1, mV br h.2⟩) ⟨d, fun _ => n⟩ (fun _ _ _ _ => kT u) (mz 5 rfl kr (.inl rfl) rfl dc (fun _ _ h => ⟨h.1, mV br h.2⟩) ⟨d, fun _ => n⟩ (fun _ _ _ _ => kT J) (mz 6 rfl kr (.inl rfl) rfl dc (fun _ _ h => ⟨h.1, mV br h.2⟩) ⟨d, fun _ => n⟩ (fun _ _ _ _ => kT k) (mz 7 rfl kr (.inl rfl) rfl dc (fun _ _ h => ⟨h.1, mV br h.2⟩) ⟨d, fun _ => n⟩ (fun _ _ _ _ => lR rfl rfl rfl) (mz 8 rfl kr (.inl rfl) rfl dc (fun _ _ h => ⟨h.1, mV br h.2⟩) ⟨d, fun _ => n⟩ (fun _ _ _ _ => kT u) (mz 9 rfl kr (.inl rfl) rfl dc (fun _ _ h => ⟨h.1, mV br h.2⟩) ⟨d, fun _ => n⟩ (fun _ _ _ _ => kT J) (mz 10 rfl kr (.inl rfl) rfl dc (fun _ _ h => ⟨h.1, mV br h.2⟩) ⟨d, fun _ => n⟩ (fun _ _ _ _ => kT k) (mz 11 rfl kr (.inl rfl) rfl dc (fun _ _ h => ⟨h.1, mV br h.2⟩) ⟨d, fun _ => n⟩ (fun _ _ _ _ => lR rfl rfl rfl) (bS a fun K T a => rX 12 rfl kr (.inl rfl) rfl dc (fun _ _ h => ⟨h.1, mV br h.2⟩) ⟨d, fun _ => n⟩ (mL (i := (IntKind.i64.wrap (H + c))) kG.out aD aC rfl rfl j (lM T) (lK T)) (fun d6 ⟨_, ⟨e0, rfl, N⟩, b1, c4⟩ => ?_))))))))))))))
   refine mz 13 rfl kr (.inl rfl) rfl dc (fun _ _ h => ⟨h.1, mV br h.2⟩) ⟨d, fun _ => n⟩ (fun l W q F => have s := (F.2 (q.Er 21 [13] kr rfl)); kI rfl (lB (oD.hp _) (b1.mono (nn (fun b o A => s.2 b o (Ml A)))) aK aC)) (mz 14 rfl kr (.inl rfl) rfl dc (fun _ _ h => ⟨h.1, mV br h.2⟩) ⟨d, fun _ => n⟩ (fun _ _ _ _ => kT u) (mz 15 rfl kr (.inl rfl) rfl dc (fun _ _ h => ⟨h.1, mV br h.2⟩) ⟨d, fun _ => n⟩ (fun _ _ _ _ => kT I) (mz 16 rfl kr (.inl rfl) rfl dc (fun _ _ h => ⟨h.1, mV br h.2⟩) ⟨d, fun _ => n⟩ (fun _ _ _ _ => kT k) (mz 17 rfl kr (.inl rfl) rfl dc (fun _ _ h => ⟨h.1, mV br h.2⟩) ⟨d, fun _ => n⟩ (fun _ _ _ _ => lR rfl rfl rfl) (bS a fun g U a => rX 18 rfl kr (.inl rfl) rfl dc (fun _ _ h => ⟨h.1, mV br h.2⟩) ⟨d, fun _ => n⟩ (mL (i := (IntKind.i64.wrap (G + c))) kG.out aD aC rfl rfl j (lM U) (lK U)) (fun d7 ⟨_, ⟨e1, rfl, Q⟩, b2, c5⟩ => mz 19 rfl kr (.inl rfl) rfl dc (fun _ _ h => ⟨h.1, mV br h.2⟩) ⟨d, fun _ => n⟩ (fun l W q F => have s := (F.2 (q.Er 21 [19] kr rfl)); kI rfl (lB (oD.hp _) (b2.mono (nn (fun b o A => s.2 b o (Ml A)))) aK aC)) (bS a fun e5 z a => rX 20 rfl kr (.inl rfl) rfl dc (fun _ _ h => ⟨h.1, mV br h.2⟩) ⟨d, fun _ => n⟩ (mL (i := (IntKind.i64.wrap (G + c))) kG.out aD aC rfl rfl j (lM z) (lK z)) (fun d8 ⟨_, ⟨e2, rfl, c8⟩, c6, a9⟩ => ?_))))))))
   let L := (⟨g.Op, g.K, g.kD, g.Kids⟩ : Formula)
   obtain ⟨b3, b7, rfl⟩ := N.form
   refine XO 21 rfl (rU (x1 := K) kN p j rfl rfl (kG.mk ⟨(.slice b3 K.Kids.length b7), rfl, N⟩) a9 (lK z) aC (fun d2 d1 p M => ?_))
   have d := p.has.kH Sn
   refine ⟨⟨d, fun h => AV kr h⟩, (bS a fun e6 B a => rX 22 rfl kr (.inl rfl) rfl dc (fun _ _ h => ⟨h.1, mV br h.2⟩) ⟨d, fun h => AV kr h⟩ (mL (i := (IntKind.i64.wrap (H + c))) kG.out aD aC rfl rfl M (lM B) (lK B)) (fun d9 ⟨_, ⟨e3, rfl, c9⟩, c7, R⟩ => ?_))⟩
   obtain ⟨b4, b9, rfl⟩ := Q.form
   refine XO 23 rfl (rU (x1 := L) kN p M rfl rfl (kG.mk ⟨(.slice b4 g.Kids.length b9), rfl, Q⟩) R (lK B) aC (fun d3 b5 p O => ?_))
   have d := p.has.kH Sn
   exact ⟨⟨d, fun h => AV kr h⟩, (mu kr (lL (kU (kW (Wh k (Wi rfl (Wa (ln ⟨c1, bF _, ((D.set (Int.toNat (IntKind.i64.wrap (G + c))) K).set (Int.toNat (IntKind.i64.wrap (H + c))) L), b5, (IntKind.i64.wrap (c + 1)), _, (p.kH St), u, I, J, a4, rfl, O, a⟩))))))))⟩
  refine nT (nJ (nJ (qE (kU (rM ?_)))))
  obtain rfl := sj a
  exact pV rfl ⟨_, _, _, rfl, (p.mX (Kr Sn)), (lu.refl _), Lo.refl, (ST.lX p (nq.mem (Kr Sn))), y, rfl, rfl, j⟩
theorem zz (k : Value) (a0 : List Formula) (y : LO) (q D a3 : Int) (B : Value) (U : (Formula × Formula) → Option Int) (r : List Formula) (w : World) {T : lQ} (h0 : oC T (y ++ []) w) (c5 : lY 58 kG 5 T k a0 y) (Q : yD Tryz.prog B T (wD kG kG) (fun (r : Int) => (.int .i64 r)) U) (hm : nR a0 q D a3 U = some r) :
  ms true Tryz.prog 364 [k, (.int .i64 q), (.int .i64 D), (.int .i64 a3), B] w T (y ++ []) (fun v L1 μ1 => ∃ S1, v = (.tuple #[]) ∧ L1 = (S1 ++ []) ∧ lY 58 kG 5 μ1 k r S1) := by
 refine tp h0 58 func364 rfl (fun b => sg (Wm (Wm (Wi rfl (Wa (lr (Wm (Wm (Wi rfl (Wa ?_))))))))))
 refine ln (kZ (mK (nZ (fun m E W => ∃ z x c t I Y, lu T I ∧ Lo (keys (y ++ [])) w T I ∧ ST true (keys (y ++ [])) w W I (x ++ Y) ∧ E 0 = k ∧ E 2 = (.int .i64 D) ∧ E 4 = B ∧ E 10 = (.int .i64 c) ∧ E 11 = (.int .i64 t) ∧ lY 58 kG 5 I k z x ∧ nH D U m z c t = some r) lF ⟨a0, y, (IntKind.i64.wrap (D - q)), (IntKind.i64.wrap (a3 - D)), T, _, (lu.refl _), Lo.refl, (b.kH St), rfl, rfl, rfl, rfl, rfl, c5, hm⟩ ?_)))
 rintro m E W ⟨z, x, c, t, I, Y, i, d, b, G, j, H, g, u, J, a⟩
 let a2 := (IntKind.i64.wrap (D - c))
 cases m with
 | zero => rw [nH] at a; cases a
 | succ s =>
  refine kZ (sg (Wh g (Wh u (Wi rfl (ln (CI a rfl (fun A a => ?_) (fun A a => ?_)))))))
  ·refine kn (bg (Wh g (Wh u (Wi rfl (ln (CI a rfl (fun F a => ?_) (fun F a => ?_)))))))
   ·refine sg (Wh G (Wh j (Wh g (Wi rfl (Wh j (Wh u (Wh H (bS a fun c6 L a => ?_))))))))
    refine VE (eD b (Cr Qz Cn) call367 (fun p => (rn k z x a2 D t B U _ _ p J (Q.mono i) L)) ?_)
    rintro _ e0 c8 d2 b Z h ⟨b9, K, rfl, R⟩
    obtain rfl := K.symm
    replace b := b.perm (Tr Tn)
    exact ln (kW (Wh g (Wh u (Wi rfl (Wa (lH (lL (kU ⟨s, bF _, c6, b9, (IntKind.i64.wrap (c - t)), t, c8, _, (i.trans Z), (d.trans h), (b.kH St), G, j, H, rfl, u, R, a⟩))))))))
   refine sg (Wh G (Wh j (Wh g (Wi rfl (Wh j (Wh u (Wi rfl (Wh g (Wi rfl (Wh g (Wh H (bS a fun c7 O a => ?_))))))))))))
   refine VE (eD b (Cr Qz Cn) call367 (fun p => (rn k z x a2 (IntKind.i64.wrap ((IntKind.i64.wrap (D + t)) - c)) c B U _ _ p J (Q.mono i) O)) ?_)
   rintro _ e1 c9 d3 b a4 l ⟨c0, M, rfl, b6⟩
   obtain rfl := M.symm
   replace b := b.perm (Tr Tn)
   exact ln (kW (Wh u (Wh g (Wi rfl (Wa (lH (lL (kU ⟨s, bF _, c7, c0, c, (IntKind.i64.wrap (t - c)), c9, _, (i.trans a4), (d.trans l), (b.kH St), G, j, H, g, rfl, b6, a⟩))))))))
  refine nT (nJ (nJ (qE (kU (kW (Wh G (Wh j (Wh g (Wi rfl (Wh j (Wh g (Wh H (bS a fun d9 P a => ?_)))))))))))))
  refine VE (eD b (Cr Qz Cn) call367 (fun p => (rn k z x a2 D c B U _ _ p J (Q.mono i) P)) ?_)
  rintro _ e2 e4 d4 b a5 n ⟨c1, N, rfl, b7⟩
  obtain rfl := N.symm
  replace b := b.perm (Tr Tn)
  refine lH (rM ?_)
  obtain rfl := sj a
  exact pV rfl ⟨_, _, _, rfl, (b.mX (Kr Sn)), (i.trans a5), (d.trans n), (ST.lX b (nq.mem (Kr Sn))), c1, rfl, rfl, b7⟩
set_option maxHeartbeats 1000000 in
theorem xx (t6 : (List Formula) → Int → Int → Int → ((Formula × Formula) → Option Int) → Option (List Formula)) (s6 : ∀ (t : Value) (a0 : List Formula) (c : LO) (z : Int) (M : Int) (B : Int) (D : Value) (f4 : (Formula × Formula) → Option Int) (r : List Formula) (w : World) {U : lQ} (h0 : oC U (c ++ []) w) (a5 : lY 58 kG 5 U t a0 c) (c6 : yD Tryz.prog D U (wD kG kG) (fun (r : Int) => (.int .i64 r)) f4), t6 a0 z M B f4 = some r → ms false Tryz.prog 357 [t, (.int .i64 z), (.int .i64 M), (.int .i64 B), D] w U (c ++ []) (fun v L1 μ1 => ∃ S1, v = (.tuple #[]) ∧ L1 = (S1 ++ []) ∧ lY 58 kG 5 μ1 t r S1)) (t : Value) (a0 : List Formula) (c : LO) (z M B : Int) (D : Value) (f4 : (Formula × Formula) → Option Int) (r : List Formula) (w : World) {U : lQ} (h0 : oC U (c ++ []) w) (a5 : lY 58 kG 5 U t a0 c) (c6 : yD Tryz.prog D U (wD kG kG) (fun (r : Int) => (.int .i64 r)) f4) (hm : pY t6 a0 z M B f4 = some r) :
  ms false Tryz.prog 357 [t, (.int .i64 z), (.int .i64 M), (.int .i64 B), D] w U (c ++ []) (fun v L1 μ1 => ∃ S1, v = (.tuple #[]) ∧ L1 = (S1 ++ []) ∧ lY 58 kG 5 μ1 t r S1) := by
 refine tp h0 220 func357 rfl (fun d => kZ (sg (Wm (Wm (Wi rfl (Wi rfl (ln (CI hm rfl (fun ae hm => ?_) (fun ae hm => ?_)))))))))
 ·refine sg (Wm (Wa (lr (Wm (Wa (ln (kZ (mK (nZ (fun m E W => ∃ T a9 o3, ST false (keys (c ++ [])) w W U (c ++ o3) ∧ E 0 = t ∧ E 1 = (.int .i64 z) ∧ E 4 = D ∧ E 10 = (.int .i64 T) ∧ E 11 = (.int .i64 a9) ∧ mF a0 z f4 m T a9 = some r) lF ⟨M, B, _, (d.kH St), rfl, rfl, rfl, rfl, rfl, hm⟩ ?_)))))))))
  rintro m E W ⟨T, a9, o3, d, e4, h8, k3, h9, k4, y⟩
  cases m with
  | zero => rw [mF] at y; cases y
  | succ t5 =>
   refine kZ (sg (Wh h9 (Wh k4 (Wi rfl (ln (CI y rfl (fun w9 y => ?_) (fun w9 y => ?_)))))))
   ·refine kn (bg (Wh h9 (Wh k4 (Wi rfl (V (sC (k' := .i64) (a := (IntKind.i64.wrap (T + a9))) eT gL rfl) (V (HK (a := (IntKind.u64.wrap (IntKind.i64.wrap (T + a9)))) (b := 1) rfl rfl dc) (V (sC (k' := .u64) (a := (Int.fdiv (IntKind.u64.wrap (IntKind.i64.wrap (T + a9))) (2 ^ min (Int.toNat 1) (IntKind.bits .u64)))) gL eT rfl) (Wa (ln (kZ ?_))))))))))
    let e3 := (Int.fdiv (IntKind.u64.wrap (IntKind.i64.wrap (T + a9))) (2 ^ min (Int.toNat 1) (IntKind.bits .u64)))
    replace d := d.drew
    have n := d.has.kH (Kr Sn)
    refine mi n lN (X 0 rfl n (kT k3) (X 1 rfl n (kT e4) (X 2 rfl n (kT rfl) (bS y fun aa n1 y => XQ 3 rfl n (mL (i := (IntKind.i64.wrap e3)) kG.out aD aC rfl rfl a5 (lM n1) (lK n1)) (fun di ⟨_, ⟨z7, rfl, x7⟩, x4, bp⟩ => XH 4 rfl n (fun _ s => kI rfl (lB (oD.hp _) (x4.mono (nn (fun b o A => s.2 b o (Ml A)))) aK aC)) (X 5 rfl n (kT e4) (X 6 rfl n (kT h8) (bS y fun ab n2 y => XQ 7 rfl n (mL (i := z) kG.out aD aC rfl rfl a5 (lM n2) (lK n2)) (fun dj ⟨_, ⟨z8, rfl, x8⟩, x5, bq⟩ => XH 8 rfl n (fun _ s => kI rfl (lB (oD.hp _) (x5.mono (nn (fun b o A => s.2 b o (Ml A)))) aK aC)) (bS y fun dk x6 y => XE 9 rfl (zL (aa, ab) d c6 (lu.refl _) (wD.mk kN kN (kG.mk ⟨z7, rfl, x7⟩) (kG.mk ⟨z8, rfl, x8⟩) d.kM) rfl (yl rfl rfl) x6 (fun dg d => ?_))))))))))))
    have n := d.has.kH (Kr Sn)
    refine ⟨n, (X 10 rfl n (lR rfl rfl rfl) (mu kr (kU (CI y rfl (fun x0 y => ?_) (fun x0 y => ?_)))))⟩
    ·exact kW (Wm (Wi rfl (Wa (lH (lL (kU ⟨t5, bF _, (IntKind.i64.wrap ((IntKind.i64.wrap e3) + 1)), a9, _, (d.kH St), e4, h8, k3, rfl, k4, y⟩))))))
    exact kW (Wm (Wa (lH (lL (kU ⟨t5, bF _, T, (IntKind.i64.wrap e3), _, (d.kH St), e4, h8, k3, h9, rfl, y⟩)))))
   refine nT (nJ (nJ (qE (kU (kZ (sg (Wh h8 (Wa (ln (CJ y (fun k5 E W => ∃ f7 o4, ST false (keys (c ++ [])) w W U (f7 ++ o4) ∧ lY 58 kG 5 U t k5 f7) (fun k5 x3 => ?_) ?_))))))))))
   ·refine mK (nZ (fun m E W => ∃ i0 f8 R k6, ST false (keys (c ++ [])) w W U (f8 ++ k6) ∧ E 0 = t ∧ E 10 = (.int .i64 T) ∧ E 13 = (.int .i64 R) ∧ lY 58 kG 5 U t i0 f8 ∧ nD T m i0 R = some k5) lF ⟨a0, c, z, _, (d.kH St), e4, h9, rfl, a5, x3⟩ ?_)
    rintro m E W ⟨i0, f8, R, k6, d, c7, l7, c0, d1, u⟩
    cases m with
    | zero => rw [nD] at u; cases u
    | succ y2 =>
     refine kZ (sg (Wh c0 (Wh l7 (Wi rfl (Wi rfl (ln (CI u rfl (fun p1 u => ?_) (fun p1 u => ?_))))))))
     ·refine kn (kZ (mK ?_))
      replace d := d.drew
      have n := d.has.kH Sn
      have p := d.has.kH (Kr Sn)
      refine wo 15 n p lN (mz 0 rfl kr (.inl rfl) rfl dc (fun _ _ h => ⟨h.1, mV (by rfl) h.2⟩) ⟨n, fun _ => p⟩ (fun _ _ _ _ => kT c7) (mz 1 rfl kr (.inl rfl) rfl dc (fun _ _ h => ⟨h.1, mV (by rfl) h.2⟩) ⟨n, fun _ => p⟩ (fun _ _ _ _ => kT c0) (mz 2 rfl kr (.inl rfl) rfl dc (fun _ _ h => ⟨h.1, mV (by rfl) h.2⟩) ⟨n, fun _ => p⟩ (fun _ _ _ _ => kT c7) (mz 3 rfl kr (.inl rfl) rfl dc (fun _ _ h => ⟨h.1, mV (by rfl) h.2⟩) ⟨n, fun _ => p⟩ (fun _ _ _ _ => kT c0) (mz 4 rfl kr (.inl rfl) rfl dc (fun _ _ h => ⟨h.1, mV (by rfl) h.2⟩) ⟨n, fun _ => p⟩ (fun _ _ _ _ => lR rfl rfl rfl) (mz 5 rfl kr (.inl rfl) rfl dc (fun _ _ h => ⟨h.1, mV (by rfl) h.2⟩) ⟨n, fun _ => p⟩ (fun _ _ _ _ => kT c7) (mz 6 rfl kr (.inl rfl) rfl dc (fun _ _ h => ⟨h.1, mV (by rfl) h.2⟩) ⟨n, fun _ => p⟩ (fun _ _ _ _ => kT c0) (mz 7 rfl kr (.inl rfl) rfl dc (fun _ _ h => ⟨h.1, mV (by rfl) h.2⟩) ⟨n, fun _ => p⟩ (fun _ _ _ _ => lR rfl rfl rfl) (bS u fun i3 j5 u => rX 8 rfl kr (.inl rfl) rfl dc (fun _ _ h => ⟨h.1, mV (by rfl) h.2⟩) ⟨n, fun _ => p⟩ (mL (i := (IntKind.i64.wrap (R + 1))) kG.out aD aC rfl rfl d1 (lM j5) (lK j5)) (fun bt ⟨_, ⟨cl, rfl, i7⟩, r3, af⟩ => mz 9 rfl kr (.inl rfl) rfl dc (fun _ _ h => ⟨h.1, mV (by rfl) h.2⟩) ⟨n, fun _ => p⟩ (fun l W F hs => have s := (hs.2 (F.Er 15 [9] kr rfl)); kI rfl (lB (oD.hp _) (r3.mono (nn (fun b o A => s.2 b o (Ml A)))) aK aC)) (mz 10 rfl kr (.inl rfl) rfl dc (fun _ _ h => ⟨h.1, mV (by rfl) h.2⟩) ⟨n, fun _ => p⟩ (fun _ _ _ _ => kT c7) (mz 11 rfl kr (.inl rfl) rfl dc (fun _ _ h => ⟨h.1, mV (by rfl) h.2⟩) ⟨n, fun _ => p⟩ (fun _ _ _ _ => kT c0) (bS u fun Y j6 u => ?_)))))))))))))
      refine rX 12 rfl kr (.inl rfl) rfl dc (fun _ _ h => ⟨h.1, mV (by rfl) h.2⟩) ⟨n, fun _ => p⟩ (mL (i := R) kG.out aD aC rfl rfl d1 (lM j6) (lK j6)) (fun bu ⟨_, ⟨cm, rfl, i8⟩, r4, ag⟩ => mz 13 rfl kr (.inl rfl) rfl dc (fun _ _ h => ⟨h.1, mV (by rfl) h.2⟩) ⟨n, fun _ => p⟩ (fun l W F hs => have s := (hs.2 (F.Er 15 [13] kr rfl)); kI rfl (lB (oD.hp _) (r4.mono (nn (fun b o A => s.2 b o (Ml A)))) aK aC)) (bS u fun cw e9 u => rX 14 rfl kr (.inl rfl) rfl dc (fun _ _ h => ⟨h.1, mV (by rfl) h.2⟩) ⟨n, fun _ => p⟩ (mL (i := R) kG.out aD aC rfl rfl d1 (lM e9) (lK e9)) (fun bv ⟨_, ⟨cn, rfl, ar⟩, an, q2⟩ => ?_)))
      obtain ⟨t7, u6, rfl⟩ := i7.form
      refine XO 15 rfl (rU (x1 := i3) kN d d1 rfl rfl (kG.mk ⟨(.slice t7 i3.Kids.length u6), rfl, i7⟩) q2 (lK e9) aC (fun be bc d i5 => ?_))
      have n := d.has.kH Sn
      refine ⟨⟨n, fun h => AV kr h⟩, (bS u fun cx f0 u => rX 16 rfl kr (.inl rfl) rfl dc (fun _ _ h => ⟨h.1, mV (by rfl) h.2⟩) ⟨n, fun h => AV kr h⟩ (mL (i := (IntKind.i64.wrap (R + 1))) kG.out aD aC rfl rfl i5 (lM f0) (lK f0)) (fun bw ⟨_, ⟨co, rfl, au⟩, ao, q3⟩ => ?_))⟩
      obtain ⟨t8, u7, rfl⟩ := i8.form
      refine XO 17 rfl (rU (x1 := (⟨Y.Op, Y.K, Y.kD, Y.Kids⟩ : Formula)) kN d i5 rfl rfl (kG.mk ⟨(.slice t8 Y.Kids.length u7), rfl, i8⟩) q3 (lK f0) aC (fun bf u1 d o9 => ?_))
      have n := d.has.kH Sn
      exact ⟨⟨n, fun h => AV kr h⟩, (mu kr (lL (kU (kW (Wh c0 (Wi rfl (Wa (ln ⟨y2, bF _, ((i0.set (Int.toNat R) i3).set (Int.toNat (IntKind.i64.wrap (R + 1))) (⟨Y.Op, Y.K, Y.kD, Y.Kids⟩ : Formula)), u1, (IntKind.i64.wrap (R + 1)), _, (d.kH St), c7, l7, rfl, o9, u⟩))))))))⟩
     refine nT (nJ (nJ (qE (kU ?_))))
     have q := sj u; subst q
     exact ⟨f8, _, (d.kH St), d1⟩
   rintro dh E W ⟨f7, o4, d, x9⟩ x2
   refine lC (lJ ?_)
   have q := sj x2; subst q
   exact pV rfl ⟨_, _, _, rfl, (d.mX (Kr Sn)), (lu.refl _), Lo.refl, (ST.lX d (nq.mem (Kr Sn))), f7, rfl, rfl, x9⟩
 refine kS (Wm (Wm (Wi rfl (Wi rfl (ln (CI hm rfl (fun p2 hm => ?_) (fun p2 hm => ?_)))))))
 ·refine sg (Wm (Wa (lr (Wm (Wa (ln (kZ (mK (nZ (fun m E W => ∃ G N k7, ST false (keys (c ++ [])) w W U (c ++ k7) ∧ E 0 = t ∧ E 2 = (.int .i64 M) ∧ E 4 = D ∧ E 14 = (.int .i64 G) ∧ E 15 = (.int .i64 N) ∧ mH a0 M f4 m G N = some r) lF ⟨z, M, _, (d.kH St), rfl, rfl, rfl, rfl, rfl, hm⟩ ?_)))))))))
  rintro m E W ⟨G, N, k7, d, c8, d5, f9, d6, g0, j⟩
  let j1 := (IntKind.u64.wrap (IntKind.i64.wrap (G + N)))
  let b8 := (Int.fdiv j1 (2 ^ min (Int.toNat 1) (IntKind.bits .u64)))
  cases m with
  | zero => rw [mH] at j; cases j
  | succ n3 =>
   refine kZ (sg (Wh d6 (Wh g0 (Wi rfl (ln (CI j rfl (fun p3 j => ?_) (fun p3 j => ?_)))))))
   ·refine kn (bg (Wh d6 (Wh g0 (Wi rfl (V (sC (k' := .i64) (a := (IntKind.i64.wrap (G + N))) eT gL rfl) (V (HK (a := j1) (b := 1) rfl rfl dc) (V (sC (k' := .u64) (a := (Int.fdiv j1 (2 ^ min (Int.toNat 1) (IntKind.bits .u64)))) gL eT rfl) (Wa (ln (kZ ?_))))))))))
    replace d := d.drew
    have n := d.has.kH (Kr Sn)
    refine mi n lN (X 0 rfl n (kT f9) (X 1 rfl n (kT c8) (X 2 rfl n (kT d5) (bS j fun y8 j7 j => XQ 3 rfl n (mL (i := M) kG.out aD aC rfl rfl a5 (lM j7) (lK j7)) (fun bx ⟨_, ⟨y4, rfl, s7⟩, r5, ah⟩ => XH 4 rfl n (fun _ s => kI rfl (lB (oD.hp _) (r5.mono (nn (fun b o A => s.2 b o (Ml A)))) aK aC)) (X 5 rfl n (kT c8) (X 6 rfl n (kT rfl) (bS j fun y9 j8 j => XQ 7 rfl n (mL (i := (IntKind.i64.wrap b8)) kG.out aD aC rfl rfl a5 (lM j8) (lK j8)) (fun bz ⟨_, ⟨y5, rfl, s8⟩, r6, ai⟩ => XH 8 rfl n (fun _ s => kI rfl (lB (oD.hp _) (r6.mono (nn (fun b o A => s.2 b o (Ml A)))) aK aC)) (bS j fun cg s1 j => XE 9 rfl (zL (y8, y9) d c6 (lu.refl _) (wD.mk kN kN (kG.mk ⟨y4, rfl, s7⟩) (kG.mk ⟨y5, rfl, s8⟩) d.kM) rfl (yl rfl rfl) s1 (fun bh d => ?_))))))))))))
    have n := d.has.kH (Kr Sn)
    refine ⟨n, (X 10 rfl n (lR rfl rfl rfl) (X 11 rfl n (ol rfl) (mu kr (kU (CI j rfl (fun p4 j => ?_) (fun p4 j => ?_))))))⟩
    ·exact kW (Wm (Wi rfl (Wa (lH (lL (kU ⟨n3, bF _, (IntKind.i64.wrap ((IntKind.i64.wrap b8) + 1)), N, _, (d.kH St), c8, d5, f9, rfl, g0, j⟩))))))
    exact kW (Wm (Wa (lH (lL (kU ⟨n3, bF _, G, (IntKind.i64.wrap b8), _, (d.kH St), c8, d5, f9, d6, rfl, j⟩)))))
   refine nT (nJ (nJ (qE (kU (kZ (sg (Wh d5 (Wa (ln (CJ j (fun i1 E W => ∃ d3 k8, ST false (keys (c ++ [])) w W U (d3 ++ k8) ∧ lY 58 kG 5 U t i1 d3) (fun i1 q7 => ?_) ?_))))))))))
   ·refine mK (nZ (fun m E W => ∃ e2 d4 Q k9, ST false (keys (c ++ [])) w W U (d4 ++ k9) ∧ E 0 = t ∧ E 14 = (.int .i64 G) ∧ E 17 = (.int .i64 Q) ∧ lY 58 kG 5 U t e2 d4 ∧ nB G m e2 Q = some i1) lF ⟨a0, c, M, _, (d.kH St), c8, d6, rfl, a5, q7⟩ ?_)
    rintro m E W ⟨e2, d4, Q, k9, d, c9, l8, c1, b6, x⟩
    cases m with
    | zero => rw [nB] at x; cases x
    | succ y3 =>
     refine kZ (sg (Wh c1 (Wh l8 (Wi rfl (ln (CI x rfl (fun p5 x => ?_) (fun p5 x => ?_)))))))
     ·refine kn (kZ (mK ?_))
      replace d := d.drew
      have n := d.has.kH Sn
      have p := d.has.kH (Kr Sn)
      refine wo 15 n p lN (mz 0 rfl kr (.inl rfl) rfl dc (fun _ _ h => ⟨h.1, mV (by rfl) h.2⟩) ⟨n, fun _ => p⟩ (fun _ _ _ _ => kT c9) (mz 1 rfl kr (.inl rfl) rfl dc (fun _ _ h => ⟨h.1, mV (by rfl) h.2⟩) ⟨n, fun _ => p⟩ (fun _ _ _ _ => kT c1) (mz 2 rfl kr (.inl rfl) rfl dc (fun _ _ h => ⟨h.1, mV (by rfl) h.2⟩) ⟨n, fun _ => p⟩ (fun _ _ _ _ => kT c9) (mz 3 rfl kr (.inl rfl) rfl dc (fun _ _ h => ⟨h.1, mV (by rfl) h.2⟩) ⟨n, fun _ => p⟩ (fun _ _ _ _ => kT c1) (mz 4 rfl kr (.inl rfl) rfl dc (fun _ _ h => ⟨h.1, mV (by rfl) h.2⟩) ⟨n, fun _ => p⟩ (fun _ _ _ _ => lR rfl rfl rfl) (mz 5 rfl kr (.inl rfl) rfl dc (fun _ _ h => ⟨h.1, mV (by rfl) h.2⟩) ⟨n, fun _ => p⟩ (fun _ _ _ _ => kT c9) (mz 6 rfl kr (.inl rfl) rfl dc (fun _ _ h => ⟨h.1, mV (by rfl) h.2⟩) ⟨n, fun _ => p⟩ (fun _ _ _ _ => kT c1) (mz 7 rfl kr (.inl rfl) rfl dc (fun _ _ h => ⟨h.1, mV (by rfl) h.2⟩) ⟨n, fun _ => p⟩ (fun _ _ _ _ => lR rfl rfl rfl) (bS x fun i4 j9 x => rX 8 rfl kr (.inl rfl) rfl dc (fun _ _ h => ⟨h.1, mV (by rfl) h.2⟩) ⟨n, fun _ => p⟩ (mL (i := (IntKind.i64.wrap (Q - 1))) kG.out aD aC rfl rfl b6 (lM j9) (lK j9)) (fun ca ⟨_, ⟨cp, rfl, i9⟩, r7, aj⟩ => mz 9 rfl kr (.inl rfl) rfl dc (fun _ _ h => ⟨h.1, mV (by rfl) h.2⟩) ⟨n, fun _ => p⟩ (fun l W F hs => have s := (hs.2 (F.Er 15 [9] kr rfl)); kI rfl (lB (oD.hp _) (r7.mono (nn (fun b o A => s.2 b o (Ml A)))) aK aC)) (mz 10 rfl kr (.inl rfl) rfl dc (fun _ _ h => ⟨h.1, mV (by rfl) h.2⟩) ⟨n, fun _ => p⟩ (fun _ _ _ _ => kT c9) (mz 11 rfl kr (.inl rfl) rfl dc (fun _ _ h => ⟨h.1, mV (by rfl) h.2⟩) ⟨n, fun _ => p⟩ (fun _ _ _ _ => kT c1) (bS x fun Z k0 x => ?_)))))))))))))
      refine rX 12 rfl kr (.inl rfl) rfl dc (fun _ _ h => ⟨h.1, mV (by rfl) h.2⟩) ⟨n, fun _ => p⟩ (mL (i := Q) kG.out aD aC rfl rfl b6 (lM k0) (lK k0)) (fun cb ⟨_, ⟨cq, rfl, j0⟩, r8, ak⟩ => mz 13 rfl kr (.inl rfl) rfl dc (fun _ _ h => ⟨h.1, mV (by rfl) h.2⟩) ⟨n, fun _ => p⟩ (fun l W F hs => have s := (hs.2 (F.Er 15 [13] kr rfl)); kI rfl (lB (oD.hp _) (r8.mono (nn (fun b o A => s.2 b o (Ml A)))) aK aC)) (bS x fun cy f1 x => rX 14 rfl kr (.inl rfl) rfl dc (fun _ _ h => ⟨h.1, mV (by rfl) h.2⟩) ⟨n, fun _ => p⟩ (mL (i := Q) kG.out aD aC rfl rfl b6 (lM f1) (lK f1)) (fun cc ⟨_, ⟨cr, rfl, av⟩, ap, q4⟩ => ?_)))
      obtain ⟨t9, u8, rfl⟩ := i9.form
      refine XO 15 rfl (rU (x1 := i4) kN d b6 rfl rfl (kG.mk ⟨(.slice t9 i4.Kids.length u8), rfl, i9⟩) q4 (lK f1) aC (fun bi bd d i6 => ?_))
      have n := d.has.kH Sn
      refine ⟨⟨n, fun h => AV kr h⟩, (bS x fun cz f2 x => rX 16 rfl kr (.inl rfl) rfl dc (fun _ _ h => ⟨h.1, mV (by rfl) h.2⟩) ⟨n, fun h => AV kr h⟩ (mL (i := (IntKind.i64.wrap (Q - 1))) kG.out aD aC rfl rfl i6 (lM f2) (lK f2)) (fun cd ⟨_, ⟨cs, rfl, aw⟩, aq, q5⟩ => ?_))⟩
      obtain ⟨u0, u9, rfl⟩ := j0.form
      refine XO 17 rfl (rU (x1 := (⟨Z.Op, Z.K, Z.kD, Z.Kids⟩ : Formula)) kN d i6 rfl rfl (kG.mk ⟨(.slice u0 Z.Kids.length u9), rfl, j0⟩) q5 (lK f2) aC (fun bj u2 d p0 => ?_))
      have n := d.has.kH Sn
      exact ⟨⟨n, fun h => AV kr h⟩, (mu kr (lL (kU (kW (Wh c1 (Wi rfl (Wa (ln ⟨y3, bF _, ((e2.set (Int.toNat Q) i4).set (Int.toNat (IntKind.i64.wrap (Q - 1))) (⟨Z.Op, Z.K, Z.kD, Z.Kids⟩ : Formula)), u2, (IntKind.i64.wrap (Q - 1)), _, (d.kH St), c9, l8, rfl, p0, x⟩))))))))⟩
     refine nT (nJ (nJ (qE (kU ?_))))
     have q := sj x; subst q
     exact ⟨d4, _, (d.kH St), b6⟩
   rintro bs E W ⟨d3, k8, d, s9⟩ q6
   refine lC (lJ ?_)
   have q := sj q6; subst q
   exact pV rfl ⟨_, _, _, rfl, (d.mX (Kr Sn)), (lu.refl _), Lo.refl, (ST.lX d (nq.mem (Kr Sn))), d3, rfl, rfl, s9⟩
 let g5 := (IntKind.u64.wrap (IntKind.i64.wrap (z + B)))
 refine kg (Wm (Wm (Wi rfl (V (sC (k' := .i64) (a := (IntKind.i64.wrap (z + B))) eT gL rfl) (V (HK (a := g5) (b := 1) rfl rfl dc) (V (sC (k' := .u64) (a := (Int.fdiv g5 (2 ^ min (Int.toNat 1) (IntKind.bits .u64)))) gL eT rfl) (Wa (lr ?_))))))))
 let P := (IntKind.i64.wrap (Int.fdiv g5 (2 ^ min (Int.toNat 1) (IntKind.bits .u64))))
 let e5 := (IntKind.i64.wrap (P + M))
 refine Wm (Wm (Wi rfl (Wa (lr (Wa (Wa (ln (kZ (CJ hm (fun i2 E W => ∃ l0, ST false (keys (c ++ [])) w W U (c ++ l0) ∧ E 0 = t ∧ E 1 = (.int .i64 z) ∧ E 2 = (.int .i64 M) ∧ E 3 = (.int .i64 B) ∧ E 4 = D ∧ E 18 = (.int .i64 P) ∧ E 19 = (.int .i64 e5) ∧ E 20 = (.int .i64 i2.1) ∧ E 21 = (.int .i64 i2.2)) (fun i2 b5 => ?_) ?_)))))))))
 ·refine sg (Wm (Wm (Wi rfl (ln (CI b5 rfl (fun q1 b5 => ?_) (fun q1 b5 => ?_))))))
  ·refine sg (Wm (Wm (Wi rfl (Wa (ln (kW (Wm (Wa (ln ?_)))))))))
   have q := sj b5; subst q
   exact ⟨_, (d.kH St), rfl, rfl, rfl, rfl, rfl, rfl, rfl, rfl, rfl⟩
  refine sg (Wm (Wa (ln (kW (Wm (Wa (ln ?_)))))))
  have q := sj b5; subst q
  exact ⟨_, (d.kH St), rfl, rfl, rfl, rfl, rfl, rfl, rfl, rfl, rfl⟩
 rintro ⟨z0, z1⟩ E W ⟨l0, d, v0, v1, v2, v3, v4, v5, l9, v6, v7⟩ q8
 refine sg (Wh l9 (Wi rfl (Wa (ln (kZ (mK (nZ (fun m E W => ∃ g K l1, ST false (keys (c ++ [])) w W U (c ++ l1) ∧ E 0 = t ∧ E 1 = (.int .i64 z) ∧ E 2 = (.int .i64 M) ∧ E 3 = (.int .i64 B) ∧ E 4 = D ∧ E 18 = (.int .i64 P) ∧ E 19 = (.int .i64 e5) ∧ E 20 = (.int .i64 g) ∧ E 21 = (.int .i64 K) ∧ E 22 = (.int .i64 (IntKind.i64.wrap (e5 - 1))) ∧ mo a0 z B M f4 t6 m g K = some r) lF ⟨z0, z1, _, (d.kH St), v0, v1, v2, v3, v4, v5, l9, v6, v7, rfl, q8⟩ ?_)))))))
 rintro m E W ⟨g, K, l1, d, c2, d7, c3, d8, d0, d9, g1, b1, g2, g3, k⟩
 let g6 := (IntKind.u64.wrap (IntKind.i64.wrap (g + K)))
 let a3 := (Int.fdiv g6 (2 ^ min (Int.toNat 1) (IntKind.bits .u64)))
 let j2 := (IntKind.i64.wrap a3)
 let a2 := (IntKind.i64.wrap (e5 - g))
 cases m with
 | zero => rw [mo] at k; cases k
 | succ n4 =>
  refine kZ (sg (Wh b1 (Wh g2 (Wi rfl (ln (CI k rfl (fun p6 k => ?_) (fun p6 k => ?_)))))))
  ·refine kn (bg (Wh b1 (Wh g2 (Wi rfl (V (sC (k' := .i64) (a := (IntKind.i64.wrap (g + K))) eT gL rfl) (V (HK (a := g6) (b := 1) rfl rfl dc) (V (sC (k' := .u64) (a := (Int.fdiv g6 (2 ^ min (Int.toNat 1) (IntKind.bits .u64)))) gL eT rfl) (Wa (ln (kZ ?_))))))))))
   replace d := d.drew
   have n := d.has.kH (Kr Sn)
   refine mi n lN (X 0 rfl n (kT d0) (X 1 rfl n (kT c2) (X 2 rfl n (kT g3) (X 3 rfl n (kT rfl) (X 4 rfl n (lR rfl rfl rfl) (bS k fun z2 k1 k => XQ 5 rfl n (mL (i := (IntKind.i64.wrap ((IntKind.i64.wrap (e5 - 1)) - j2))) kG.out aD aC rfl rfl a5 (lM k1) (lK k1)) (fun ce ⟨_, ⟨y6, rfl, t0⟩, r9, al⟩ => XH 6 rfl n (fun _ s => kI rfl (lB (oD.hp _) (r9.mono (nn (fun b o A => s.2 b o (Ml A)))) aK aC)) (X 7 rfl n (kT c2) (X 8 rfl n (kT rfl) (bS k fun z3 k2 k => XQ 9 rfl n (mL (i := (IntKind.i64.wrap a3)) kG.out aD aC rfl rfl a5 (lM k2) (lK k2)) (fun cf ⟨_, ⟨y7, rfl, t1⟩, s0, am⟩ => XH 10 rfl n (fun _ s => kI rfl (lB (oD.hp _) (s0.mono (nn (fun b o A => s.2 b o (Ml A)))) aK aC)) (bS k fun ch s2 k => ?_))))))))))))
   refine XE 11 rfl (zL (z2, z3) d c6 (lu.refl _) (wD.mk kN kN (kG.mk ⟨y6, rfl, t0⟩) (kG.mk ⟨y7, rfl, t1⟩) d.kM) rfl (yl rfl rfl) s2 (fun bk d => ?_))
   have n := d.has.kH (Kr Sn)
   refine ⟨n, (X 12 rfl n (lR rfl rfl rfl) (X 13 rfl n (ol rfl) (mu kr (kU (CI k rfl (fun p7 k => ?_) (fun p7 k => ?_))))))⟩
   ·exact kW (Wm (Wi rfl (Wa (lH (lL (kU ⟨n4, bF _, (IntKind.i64.wrap (j2 + 1)), K, _, (d.kH St), c2, d7, c3, d8, d0, d9, g1, rfl, g2, g3, k⟩))))))
   exact kW (Wm (Wa (lH (lL (kU ⟨n4, bF _, g, j2, _, (d.kH St), c2, d7, c3, d8, d0, d9, g1, b1, rfl, g3, k⟩)))))
  refine nT (nJ (nJ (qE (kU (sg (Wh g1 (Wh b1 (Wi rfl (Wa (ln (kZ (CJ k (fun n8 E W => ∃ b7 a4 l2, lu U a4 ∧ Lo (keys (c ++ [])) w U a4 ∧ ST false (keys (c ++ [])) w W a4 (b7 ++ l2) ∧ E 0 = t ∧ E 1 = (.int .i64 z) ∧ E 3 = (.int .i64 B) ∧ E 4 = D ∧ E 18 = (.int .i64 P) ∧ E 20 = (.int .i64 g) ∧ E 24 = (.int .i64 a2) ∧ lY 58 kG 5 a4 t n8 b7) (fun n8 r2 => ?_) ?_))))))))))))
  ·refine sg (Wh b1 (Wh c3 (Wi rfl (Wm (LJ r2 (fun n9 E W => ∃ l6, ST false (keys (c ++ [])) w W U (c ++ l6) ∧ E 0 = t ∧ E 1 = (.int .i64 z) ∧ E 2 = (.int .i64 M) ∧ E 3 = (.int .i64 B) ∧ E 4 = D ∧ E 18 = (.int .i64 P) ∧ E 20 = (.int .i64 g) ∧ E 24 = (.int .i64 a2) ∧ E 185 = (.bool n9)) 4 ?_ (fun n9 b4 f6 => ?_))))))
   ·rintro de E W ⟨l6, d, h4, m8, w7, m9, h5, n0, h6, h7, w8⟩ a8
    refine ln (CI a8 w8 (fun q0 a8 => ?_) (fun q0 a8 => ?_))
    ·refine kW (Wh h4 (Wh h6 (Wh w7 (Wh h7 (Wh h5 (bS a8 fun ck s5 a8 => ?_))))))
     refine VE (eD d (Cr Qz Cn) call364 (fun hh => ms.mR (zz t a0 c g M a2 D f4 _ _ hh a5 (c6.mono (lu.refl _)) s5)) ?_)
     rintro _ cv z5 ba d o2 bl ⟨u5, e8, rfl, t4⟩
     obtain rfl := e8.symm
     replace d := d.perm (Tr Tn)
     refine ln ?_
     have q := sj a8; subst q
     exact ⟨u5, z5, _, o2, bl, (d.kH St), h4, m8, m9, h5, n0, h6, h7, t4⟩
    refine kn ?_
    have q := sj a8; subst q
    exact ⟨c, U, _, (lu.refl _), Lo.refl, (d.kH St), h4, m8, m9, h5, n0, h6, h7, a5⟩
   refine bC b4 (fun J b4 => ?_) (fun J b4 => ?_)
   ·refine ug J (kT c3) (ug J (kT rfl) (ug J (lR rfl rfl rfl) (V (lj (cB J) rfl) ?_)))
    have q := sj b4; subst q
    exact f6 _ _ ⟨_, (d.kH St), c2, d7, c3, d8, d0, d9, b1, rfl, rfl⟩
   refine un J (un J (un J (V (ll (cB J) rfl) ?_)))
   have q := sj b4; subst q
   exact f6 _ _ ⟨_, (d.kH St), c2, d7, c3, d8, d0, d9, b1, rfl, rfl⟩
  rintro y0 E W ⟨b7, a4, l2, c4, L, d, m0, g4, m1, m2, g7, e0, m3, j3⟩ q9
  refine kZ (CJ q9 (fun n6 E W => ∃ b9 c5 l3, lu a4 c5 ∧ Lo (keys (c ++ [])) w a4 c5 ∧ ST false (keys (c ++ [])) w W c5 (b9 ++ l3) ∧ E 0 = t ∧ E 3 = (.int .i64 B) ∧ E 4 = D ∧ E 18 = (.int .i64 P) ∧ E 24 = (.int .i64 a2) ∧ lY 58 kG 5 c5 t n6 b9) (fun n6 r1 => ?_) ?_)
  ·refine sg (Wh g4 (Wh e0 (Wi rfl (Wm (LJ r1 (fun n7 E W => ∃ l5, ST false (keys (c ++ [])) w W a4 (b7 ++ l5) ∧ E 0 = t ∧ E 1 = (.int .i64 z) ∧ E 3 = (.int .i64 B) ∧ E 4 = D ∧ E 18 = (.int .i64 P) ∧ E 20 = (.int .i64 g) ∧ E 24 = (.int .i64 a2) ∧ E 199 = (.bool n7)) 4 ?_ (fun n7 b3 f5 => ?_))))))
   ·rintro db E W ⟨l5, d, h1, w4, m6, h2, h3, w5, m7, w6⟩ a7
    refine ln (CI a7 w6 (fun p9 a7 => ?_) (fun p9 a7 => ?_))
    ·refine kW (Wh h1 (Wh w4 (Wh w5 (Wh h3 (Wh h2 (bS a7 fun cj s4 a7 => ?_))))))
     refine VE (eD d (Cr Qz Cn) call357 (fun hh => (s6 t y0 b7 z g P D f4 _ _ hh j3 (c6.mono c4) s4)) ?_)
     rintro _ cu z4 az d o1 aE ⟨u4, e7, rfl, t3⟩
     obtain rfl := e7.symm
     replace d := d.perm (Tr Tn)
     refine ln ?_
     have q := sj a7; subst q
     exact ⟨u4, z4, _, o1, aE, (d.kH St), h1, m6, h2, h3, m7, t3⟩
    refine kn ?_
    have q := sj a7; subst q
    exact ⟨b7, a4, _, (lu.refl _), Lo.refl, (d.kH St), h1, m6, h2, h3, m7, j3⟩
   refine bC b3 (fun I b3 => ?_) (fun I b3 => ?_)
   ·refine ug I (kT e0) (ug I (kT g7) (ug I (lR rfl rfl rfl) (V (lj (cB I) rfl) ?_)))
    have q := sj b3; subst q
    exact f5 _ _ ⟨_, (d.kH St), m0, g4, m1, m2, g7, e0, m3, rfl⟩
   refine un I (un I (un I (V (ll (cB I) rfl) ?_)))
   have q := sj b3; subst q
   exact f5 _ _ ⟨_, (d.kH St), m0, g4, m1, m2, g7, e0, m3, rfl⟩
  rintro y1 E W ⟨b9, c5, l3, d2, O, d, m4, g8, m5, g9, e1, j4⟩ r0
  refine sg (Wh g9 (Wh e1 (Wi rfl (Wm (LJ r0 (fun n5 E W => ∃ l4, ST false (keys (c ++ [])) w W c5 (b9 ++ l4) ∧ E 0 = t ∧ E 3 = (.int .i64 B) ∧ E 4 = D ∧ E 18 = (.int .i64 P) ∧ E 24 = (.int .i64 a2) ∧ E 213 = (.bool n5)) 4 ?_ (fun n5 b2 f3 => ?_))))))
  ·rintro da E W ⟨l4, d, v8, v9, w0, w1, w2, w3⟩ a6
   refine ln (CI a6 w3 (fun p8 a6 => ?_) (fun p8 a6 => ?_))
   ·refine kW (Wh v8 (Wh w1 (Wh w2 (Wh v9 (Wh w0 (bS a6 fun ci s3 a6 => ?_))))))
    refine VE (eD d (Cr Qz Cn) call357 (fun hh => (s6 t y1 b9 P a2 B D f4 _ _ hh j4 (c6.mono (c4.trans d2)) s3)) ?_)
    rintro _ ct df ay d o0 ad ⟨u3, e6, rfl, t2⟩
    obtain rfl := e6.symm
    replace d := d.perm (Tr Tn)
    refine lH (rM ?_)
    have q := sj a6; subst q
    exact pV rfl ⟨_, _, _, rfl, (d.mX (Kr Sn)), ((c4.trans d2).trans o0), ((L.trans O).trans ad), (ST.lX d (nq.mem (Kr Sn))), u3, rfl, rfl, t2⟩
   refine mr (rM ?_)
   have q := sj a6; subst q
   exact pV rfl ⟨_, _, _, rfl, (d.mX (Kr Sn)), (c4.trans d2), (L.trans O), (ST.lX d (nq.mem (Kr Sn))), b9, rfl, rfl, j4⟩
  refine bC b2 (fun H b2 => ?_) (fun H b2 => ?_)
  ·refine ug H (kT e1) (ug H (kT g8) (ug H (lR rfl rfl rfl) (V (lj (cB H) rfl) ?_)))
   have q := sj b2; subst q
   exact f3 _ _ ⟨_, (d.kH St), m4, g8, m5, g9, e1, rfl⟩
  refine un H (un H (un H (V (ll (cB H) rfl) ?_)))
  have q := sj b2; subst q
  exact f3 _ _ ⟨_, (d.kH St), m4, g8, m5, g9, e1, rfl⟩
theorem rC : ∀ (n : Nat) (c : Value) (k : List Formula) (a : LO) (t : Int) (u : Int) (x : Int) (g : Value) (y : (Formula × Formula) → Option Int) (r : List Formula) (w : World) {i : lQ} (H : oC i (a ++ []) w) (B : lY 58 kG 5 i c k a) (D : yD Tryz.prog g i (wD kG kG) (fun (r : Int) => (.int .i64 r)) y) (_ : mQ n k t u x y = some r),
  ms false Tryz.prog 357 [c, (.int .i64 t), (.int .i64 u), (.int .i64 x), g] w i (a ++ []) (fun v z G => ∃ j, v = (.tuple #[]) ∧ z = (j ++ []) ∧ lY 58 kG 5 G c r j)
 | 0 => by intros; rename_i h; simp only [mQ] at h; cases h
 | n + 1 => xx (mQ n) (rC n)
theorem zT (a : Value) (a0 : List Formula) (c : LO) (Q : Int) (x : Value) (f2 : (Formula × Formula) → Option Int) (r : List Formula) (w : World) {μ0 : lQ} (h0 : oC μ0 (c ++ []) w) (k4 : lY 58 kG 5 μ0 a a0 c) (c7 : yD Tryz.prog x μ0 (wD kG kG) (fun (r : Int) => (.int .i64 r)) f2) (hm : sf a0 Q f2 = some r) :
  ms false Tryz.prog 338 [a, (.int .i64 Q), x] w μ0 (c ++ []) (fun v L1 μ1 => ∃ S1, v = (.tuple #[]) ∧ L1 = (S1 ++ []) ∧ lY 58 kG 5 μ1 a r S1) := by
 refine tp h0 63 func338 rfl (fun b => sg (Wa (lr (Wm (Wa (Wa (ln (kZ (mK (nZ (fun m E W => ∃ d4 d0 d5 P d6 f1, lu μ0 d6 ∧ Lo (keys (c ++ [])) w μ0 d6 ∧ ST false (keys (c ++ [])) w W d6 (d0 ++ f1) ∧ E 0 = a ∧ E 1 = (.int .i64 Q) ∧ E 2 = x ∧ E 6 = (.int .i64 20) ∧ E 7 = (.int .i64 d5) ∧ E 8 = (.int .i64 P) ∧ lY 58 kG 5 d6 a d4 d0 ∧ ns Q f2 m d4 d5 P = some r) lF ⟨a0, c, 0, 20, μ0, _, (lu.refl _), Lo.refl, (b.kH St), rfl, rfl, rfl, rfl, rfl, rfl, k4, hm⟩ ?_))))))))))
 rintro m E W ⟨d4, d0, d5, P, d6, f1, z, l, b, b4, b5, b6, d7, f4, b7, h1, i⟩
 cases m with
 | zero => rw [ns] at i; cases i
 | succ k5 =>
  refine kZ (sg (Wh b7 (Wh b5 (Wi rfl (ln (CI i rfl (fun i4 i => ?_) (fun i4 i => ?_)))))))
  ·refine kn (bg (Wh b4 (Wh f4 (Wh b7 (Wh b6 (bS i fun k6 i7 i => ?_))))))
   refine VE (eD b (Cr Qz Cn) call356 (fun A => (tq a d4 d0 d5 P x f2 _ _ A h1 (c7.mono z) i7)) ?_)
   rintro _ m4 k8 l8 b g0 F ⟨k1, c8, rfl, j0⟩
   obtain rfl := c8.symm
   replace b := b.perm (Tr Tn)
   refine lr (Wh b7 (Wa (ln (kW (Wh b7 (Wh d7 (Wi rfl (Wa (lH (lL ?_))))))))))
   exact kU ⟨k5, bF _, k6, k1, P, (IntKind.i64.wrap (P + 20)), k8, _, (z.trans g0), (l.trans F), (b.kH St), b4, b5, b6, d7, rfl, rfl, j0, i⟩
  refine nT (nJ (nJ (qE (kU (sg (Wh b4 (Wh f4 (Wh b5 (Wh b6 (bS i fun k7 i8 i => ?_))))))))))
  refine VE (eD b (Cr Qz Cn) call356 (fun A => (tq a d4 d0 d5 Q x f2 _ _ A h1 (c7.mono z) i8)) ?_)
  rintro _ m5 R l9 b a5 L ⟨k2, c9, rfl, j3⟩
  obtain rfl := c9.symm
  replace b := b.perm (Tr Tn)
  refine ln (qw (CJ i (fun d8 E W => ∃ b2 a9 f3, lu R a9 ∧ Lo (keys (c ++ [])) w R a9 ∧ ST false (keys (c ++ [])) w W a9 (b2 ++ f3) ∧ lY 58 kG 5 a9 a d8 b2) (fun d8 i6 => ?_) ?_))
  ·refine mK (nZ (fun m E W => ∃ a2 I j k e0, lu R k ∧ Lo (keys (c ++ [])) w R k ∧ ST false (keys (c ++ [])) w W k (I ++ e0) ∧ E 0 = a ∧ E 1 = (.int .i64 Q) ∧ E 2 = x ∧ E 6 = (.int .i64 j) ∧ lY 58 kG 5 k a a2 I ∧ nr Q f2 m a2 j = some d8) lF ⟨k7, k2, 20, R, _, (lu.refl _), Lo.refl, (b.kH St), b4, b5, b6, d7, j3, i6⟩ ?_)
   rintro m E W ⟨a2, I, j, k, e0, B, d, b, h6, e4, h7, b3, d1, t⟩
   cases m with
   | zero => rw [nr] at t; cases t
   | succ j6 =>
    refine kZ (sg (Wh b3 (Wh e4 (Wi rfl (ln (CI t rfl (fun f7 t => ?_) (fun f7 t => ?_)))))))
    ·refine kn (bg (Wh b3 (Wi rfl (Wa (Wa (ln (kZ (CJ t (fun a4 E W => ∃ J y e1, lu k y ∧ Lo (keys (c ++ [])) w k y ∧ ST false (keys (c ++ [])) w W y (J ++ e1) ∧ E 0 = a ∧ E 1 = (.int .i64 Q) ∧ E 2 = x ∧ E 6 = (.int .i64 j) ∧ E 7 = (.int .i64 a4.2) ∧ lY 58 kG 5 y a a4.1 J) (fun a4 g4 => ?_) ?_))))))))
     ·refine mK (nZ (fun m E W => ∃ a3 K M D H e3, lu k H ∧ Lo (keys (c ++ [])) w k H ∧ ST false (keys (c ++ [])) w W H (K ++ e3) ∧ E 0 = a ∧ E 1 = (.int .i64 Q) ∧ E 2 = x ∧ E 6 = (.int .i64 j) ∧ E 7 = (.int .i64 M) ∧ E 8 = (.int .i64 D) ∧ lY 58 kG 5 H a a3 K ∧ nF Q j f2 m a3 M D = some a4) lF ⟨a2, I, 0, (IntKind.i64.wrap (2 * j)), k, _, (lu.refl _), Lo.refl, (b.kH St), h6, e4, h7, b3, rfl, rfl, d1, g4⟩ ?_)
      rintro m E W ⟨a3, K, M, D, H, e3, N, h, b, c2, c3, c4, Y, c5, Z, d3, g⟩
      cases m with
      | zero => rw [nF] at g; cases g
      | succ j7 =>
       refine kZ (sg (Wh Z (Wh c3 (Wi rfl (ln (CI g rfl (fun f9 g => ?_) (fun f9 g => ?_)))))))
       ·refine kn (bg (Wh c2 (Wh c5 (Wh c5 (Wh Y (Wi rfl (Wh Z (Wh c4 (bS g fun j8 g8 g => ?_)))))))))
        refine VE (eD b (Cr Qz Cn) call357 (fun A => ((rC lF) a a3 K M (IntKind.i64.wrap (M + j)) D x f2 _ _ A d3 (c7.mono (((z.trans a5).trans B).trans N)) g8)) ?_)
        rintro _ l6 k0 l1 b f0 s ⟨h5, a7, rfl, h3⟩
        obtain rfl := a7.symm
        replace b := b.perm (Tr Tn)
        refine lr (Wh Z (Wa (ln (kW (Wh Z (Wh Y (Wi rfl (Wi rfl (Wa (lH ?_))))))))))
        exact lL (kU ⟨j7, bF _, j8, h5, D, (IntKind.i64.wrap (D + (IntKind.i64.wrap (2 * j)))), k0, _, (N.trans f0), (h.trans s), (b.kH St), c2, c3, c4, Y, rfl, rfl, h3, g⟩)
       refine nT (nJ (nJ (qE (kU ?_))))
       obtain rfl := sj g
       exact ⟨K, H, _, N, h, (b.kH St), c2, c3, c4, Y, c5, d3⟩
     rintro ⟨j4, e7⟩ E W ⟨J, y, e1, b0, n, b, b9, U, c0, c1, e5, d2⟩ g2
     refine kZ (CJ g2 (fun e6 E W => ∃ T G e2, lu y G ∧ Lo (keys (c ++ [])) w y G ∧ ST false (keys (c ++ [])) w W G (T ++ e2) ∧ E 0 = a ∧ E 1 = (.int .i64 Q) ∧ E 2 = x ∧ E 6 = (.int .i64 j) ∧ lY 58 kG 5 G a e6 T) (fun e6 u => ?_) ?_)
     ·refine sg (Wh e5 (Wh c1 (Wi rfl (Wa (lr (Wm (Wh U (Wi rfl (ln ?_)))))))))
      refine CI u rfl (fun f8 u => ?_) (fun f8 u => ?_)
      ·refine kW (Wh b9 (Wh e5 (Wm (Wh U (Wh c0 (bS u fun l4 g7 u => ?_))))))
       refine VE (eD b (Cr Qz Cn) call357 (fun A => ((rC lF) a j4 J e7 (IntKind.i64.wrap (e7 + j)) Q x f2 _ _ A d2 (c7.mono (((z.trans a5).trans B).trans b0)) g7)) ?_)
       rintro _ l5 j9 l0 b e9 q ⟨h4, a6, rfl, h2⟩
       obtain rfl := a6.symm
       replace b := b.perm (Tr Tn)
       refine ln ?_
       obtain rfl := sj u
       exact ⟨h4, j9, _, e9, q, (b.kH St), b9, U, c0, c1, h2⟩
      refine kn ?_
      obtain rfl := sj u
      exact ⟨J, y, _, (lu.refl _), Lo.refl, (b.kH St), b9, U, c0, c1, d2⟩
     rintro j5 E W ⟨T, G, e2, e8, p, b, h8, h9, i0, i1, g9⟩ g3
     exact kW (Wh i1 (Wi rfl (Wa (lH (lL (kU ⟨j6, bF _, j5, T, (IntKind.i64.wrap (j * 2)), G, _, ((B.trans b0).trans e8), ((d.trans n).trans p), (b.kH St), h8, h9, i0, rfl, g9, g3⟩))))))
    refine nT (nJ (nJ (qE (kU ?_))))
    obtain rfl := sj t
    exact ⟨I, k, _, B, d, (b.kH St), d1⟩
  rintro m3 E W ⟨b2, a9, f3, g1, O, b, i9⟩ i5
  refine rM ?_
  obtain rfl := sj i5
  exact pV rfl ⟨_, _, _, rfl, (b.mX (Kr Sn)), ((z.trans a5).trans g1), ((l.trans L).trans O), (ST.lX b (nq.mem (Kr Sn))), b2, rfl, rfl, i9⟩
theorem zu (c : Value) (k : List Formula) (a : LO) (i : Value) (u : (Formula × Formula) → Option Int) (r : List Formula) (w : World) {t : lQ} (J : oC t (a ++ []) w) (j : lY 58 kG 5 t c k a) (x : yD Tryz.prog i t (wD kG kG) (fun (r : Int) => (.int .i64 r)) u) (hm : pK k u = some r) :
  ms false Tryz.prog 321 [c, i] w t (a ++ []) (fun v I K => ∃ B, v = (.tuple #[]) ∧ I = (B ++ []) ∧ lY 58 kG 5 K c r B) := by
 refine tp J 9 func321 rfl (fun b => kW (Wm (Wm (V (qX aD rfl j) (Wm (bS hm fun Q H hm => ?_))))))
 refine VE (eD b (Cr Qz Cn) call338 (fun h => (zT c k a (k.length : Int) i u _ _ h j (x.mono (lu.refl _)) H)) ?_)
 rintro _ T U M b y d ⟨D, g, rfl, z⟩
 obtain rfl := g.symm
 replace b := b.perm (Tr Tn)
 refine lH (rM ?_)
 obtain rfl := sj hm
 exact pV rfl ⟨_, _, _, rfl, (b.mX (Kr Sn)), y, d, (ST.lX b (nq.mem (Kr Sn))), D, rfl, rfl, z⟩
theorem sM (t : Nat) (j : Value) (G : List Int) (i : LO) (h : Int) (r : (Bool × (List Int))) (w : World) {μ0 : lQ} (A : oC μ0 ((t, Ob #[j] 239) :: (i ++ [])) w) (y : lA 5 (mM .u8) 1 j G i) (hm : pf G h = some r) :
  mZ true Tryz.prog 181 [(.pointer (some ⟨t, 0, none⟩)), (.int .i64 h)] w ((t, Ob #[j] 239) :: (i ++ [])) (fun v L1 W' => ∃ n S2, v = (.bool (r.1)) ∧ L1 = ((t, Ob #[n] 239) :: (S2 ++ [])) ∧ lA 5 (mM .u8) 1 n r.2 S2) := by
 refine BT A 38 func181 rfl (fun d => sg (Wa (lS (Wm (V (yj iR rfl rfl) (Wm (Vg rfl rfl (kT rfl) (Vg rfl rfl (lR rfl rfl rfl) (V (ll rfl rfl) ?_)))))))))
 refine ln (CI hm rfl (fun a9 hm => ?_) (fun a9 hm => ?_))
 ·refine sg (Wa (lt (lJ ?_)))
  obtain rfl := sj hm
  exact mD (v := (.bool false)) rfl rfl ⟨_, _, rfl, (d.mX (Kb (Kr Sn))), j, i, rfl, rfl, y⟩
 refine kn (kZ (mK (nZ (fun m E W => ∃ c z U u a0, ST true (keys ((t, Ob #[j] 239) :: (i ++ []))) w W μ0 ((t, Ob #[z] 239) :: (u ++ a0)) ∧ E 0 = (.pointer (some ⟨t, 0, none⟩)) ∧ E 1 = (.int .i64 c) ∧ lA 5 (mM .u8) 1 z U u ∧ rf m c U = some r) lF ⟨h, j, G, i, _, (d.kH St), rfl, rfl, y, hm⟩ ?_)))
 rintro m E W ⟨c, z, U, u, a0, d, x, K, T, g⟩
 cases m with
 | zero => rw [rf] at g; cases g
 | succ s =>
  refine kZ (sg (Wh K (Wi rfl (ln (CI g rfl (fun p g => ?_) (fun p g => ?_))))))
  ·refine kn (kZ (mK (kW (Wh x (Wh x (Wn (Wf Aj (VB d Mh rfl rfl km (Wh K (V (sC (k' := .i64) (a := c) eT gK rfl) (V (JA (k := .u8) (a := (IntKind.u8.wrap c)) (b := 128) (v := (.int .u8 (IntKind.u8.wrap (BitVec.ofInt (IntKind.bits .u8) (IntKind.u8.wrap c) ||| BitVec.ofInt (IntKind.bits .u8) 128).toNat))) rfl rfl dc rfl) (VE (lD (cs := [(.int .u8 (IntKind.u8.wrap (BitVec.ofInt (IntKind.bits .u8) (IntKind.u8.wrap c) ||| BitVec.ofInt (IntKind.bits .u8) 128).toNat))].toArray) d (ni rfl) (nj cV sizeOf5 ko) (fun c3 q d => ?_))))))))))))))
   replace d := d.perm (Nr (Qb (Qb Qz)) Nz)
   refine bS g fun Q Y g => VE (oG (enc := (mM .u8)) (v := z) (vs := (.slice (some ⟨q, 0, none⟩) 1 1)) (R := u) d (fun _ => rfl) dc (GV _) cV tQ.1 tQ.2.1 rfl tQ.2.2.1 tQ.2.2.2 rfl rfl T (Sl.lit (enc := (mM .u8)) (l := [(IntKind.u8.wrap (BitVec.ofInt (IntKind.bits .u8) (IntKind.u8.wrap c) ||| BitVec.ofInt (IntKind.bits .u8) 128).toNat)]) (fun _ => rfl) rfl nb rfl (d.at_ (Ma Mh))) Y (fun F c1 a2 d M => Wn (Wf Aj ?_)))
   obtain ⟨B, H, rfl⟩ := M.form
   replace d := d.perm (Nb (Pr (Pb Pz)) Nz)
   refine VO (lh (.slice B Q.length H) (#[(.slice B Q.length H)]) d rfl rfl kx oc nb rfl (fun L d => lH (lL (kU ?_))))
   replace d := d.kH (Kb (Kr (Db St)))
   exact kW (Wh K (V (HK (a := c) (b := 7) rfl rfl dc) (Wa (ln ⟨s, bF _, (Int.fdiv c (2 ^ min (Int.toNat 7) (IntKind.bits .i64))), (.slice B Q.length H), Q, a2, _, (d.kH St), x, rfl, M, g⟩))))
  refine nT (nJ (nJ (qE (kU (sg (Wh x (Wh x (Wn (Wf Aj (VB d Mh rfl rfl km (Wh K (V (sC (k' := .i64) (a := c) eT gK rfl) (VE (lD (cs := [(.int .u8 (IntKind.u8.wrap c))].toArray) d (ni rfl) (nj cV sizeOf5 ko) (fun O a5 d => ?_)))))))))))))))
  replace d := d.perm (Nr (Qb (Qb Qz)) Nz)
  refine bS g fun J Z g => VE (oG (enc := (mM .u8)) (v := z) (vs := (.slice (some ⟨a5, 0, none⟩) 1 1)) (R := u) d (fun _ => rfl) dc (GV _) cV tQ.1 tQ.2.1 rfl tQ.2.2.1 tQ.2.2.2 rfl rfl T (Sl.lit (enc := (mM .u8)) (l := [(IntKind.u8.wrap c)]) (fun _ => rfl) rfl nb rfl (d.at_ (Ma Mh))) Z (fun P c2 a3 d N => Wn (Wf Aj ?_)))
  obtain ⟨D, I, rfl⟩ := N.form
  replace d := d.perm (Nb (Pr (Pb Pz)) Nz)
  refine VO (lh (.slice D J.length I) (#[(.slice D J.length I)]) d rfl rfl kx oc nb rfl (fun b9 d => ln ?_))
  replace d := d.kH (Kb (Kr (Db St)))
  refine sg (Wa (lt ?_))
  obtain rfl := sj g
  exact mD (v := (.bool true)) rfl rfl ⟨_, _, rfl, (d.mX (Kb (Kr Sn))), (.slice D J.length I), a3, rfl, rfl, N⟩
theorem FV (g : Nat) (c : Value) (j : List Int) (a : LO) (u : Value) (D : List Int) (r : (Bool × (List Int))) (w : World) {Z : lQ} (h : oC Z ((g, Ob #[c] 239) :: (a ++ [])) w) (i : lA 5 (mM .u8) 1 c j a) (k : Sl (Pl (mM .u8)) 1 Z u D) (hm : yz j D = some r) :
  mZ true Tryz.prog 241 [(.pointer (some ⟨g, 0, none⟩)), u] w ((g, Ob #[c] 239) :: (a ++ [])) (fun v L1 W' => ∃ U M, v = (.bool (r.1)) ∧ L1 = ((g, Ob #[U] 239) :: (M ++ [])) ∧ lA 5 (mM .u8) 1 U r.2 M) := by
 refine BT h 25 func241 rfl (fun b => sg (Wa (lS (Wm (V (yj iR rfl rfl) (Wm (Vg rfl rfl (kT rfl) (Vg rfl rfl (ml cV rfl k) (Vg rfl rfl (lR rfl rfl rfl) ?_)))))))))
 refine V (ll rfl rfl) (ln (CI hm rfl (fun Q hm => ?_) (fun Q hm => ?_)))
 ·refine sg (Wa (lt (lJ ?_)))
  obtain rfl := sj hm
  exact mD (v := (.bool false)) rfl rfl ⟨_, _, rfl, (b.mX (Kb (Kr Sn))), c, a, rfl, rfl, i⟩
 refine kg (Wm (Wm (V (ml cV rfl k) (bS hm fun q T hm => ?_))))
 refine VE (eM b (Cb Pz (Cr Qz Cn)) call181 (fun l _ => (sM g c j a (D.length : Int) _ _ l i T)) ?_)
 rintro _ v8 n a3 b H m d ⟨Y, K, t, rfl, I⟩
 obtain rfl := t.symm
 replace b := b.perm (Tb (Tr Tn))
 refine lr (Wm (Wm (Wn (Wf Aj (VB b Mh rfl rfl km (Wm ?_))))))
 replace b := b.perm (Nr (Qb Qz) Nz)
 refine bS hm fun B G hm => VE (oG (enc := (mM .u8)) (v := Y) (vs := u) (R := K) b (fun _ => rfl) dc (GV _) cV tQ.1 tQ.2.1 rfl tQ.2.2.1 tQ.2.2.2 rfl rfl I (k.mono (Pl.mono _) (H.trans b.kM)) G (fun a4 p J b z => Wn (Wf Aj ?_)))
 obtain ⟨x, y, rfl⟩ := z.form
 replace b := b.perm (Nb (Pr Pz) Nz)
 refine VO (lh (.slice x B.length y) (#[(.slice x B.length y)]) b rfl rfl kx oc nb rfl (fun a5 b => lr (Wa (lt ?_))))
 obtain rfl := sj hm
 exact mD (v := (.bool true)) rfl rfl ⟨_, _, rfl, (b.mX (Kb (Kr Sn))), (.slice x B.length y), J, rfl, rfl, z⟩
theorem zA (j : Nat) (c : Value) (t : List Int) (a : LO) (J : ByteArray) (r : (Bool × (List Int))) (w : World) {Z : lQ} (A : oC Z ((j, Ob #[c] 239) :: (a ++ [])) w) (k : lA 5 (mM .u8) 1 c t a) (hm : uS t J = some r) :
  mZ true Tryz.prog 183 [(.pointer (some ⟨j, 0, none⟩)), (.string J)] w ((j, Ob #[c] 239) :: (a ++ [])) (fun v L1 W' => ∃ n S2, v = (.bool (r.1)) ∧ L1 = ((j, Ob #[n] 239) :: (S2 ++ [])) ∧ lA 5 (mM .u8) 1 n r.2 S2) := by
 refine BT A 17 func183 rfl (fun b => sg (Wa (lr (Wm (V (Ec iR rfl rfl) (Wm (Vg rfl rfl (kT rfl) (bS hm fun r1 a4 hm => Ox rfl rfl (Eg b call57 (xy J _ _  a4) (fun W3 b => V (lj rfl rfl) ?_))))))))))
 refine Wm (LJ hm (fun B E W => ∃ z x D I, lu Z D ∧ ST true (keys ((j, Ob #[c] 239) :: (a ++ []))) w W D ((j, Ob #[z] 239) :: (x ++ I)) ∧ E 4 = (.bool false) ∧ E 16 = (.bool B.1) ∧ lA 5 (mM .u8) 1 z B.2 x) 5 ?_ (fun B g y => ?_))
 ·rintro ⟨q, c0⟩ E W ⟨z, x, D, I, L, b, b9, a3, T⟩ M
  refine Wg a3 (lt ?_)
  obtain rfl := sj M
  exact mD (v := (.bool q)) rfl rfl ⟨_, _, rfl, (b.mX (Kb (Kr Sn))), z, x, rfl, rfl, T⟩
 refine bC g (fun i g => ?_) (fun i g => ?_)
 ·refine ug i (kT rfl) (ug i (kT rfl) (bS g fun a5 N g => tm i (I4 b cD cV gK rfl N (fun R p c3 b G l U O => bS g fun c1 Q g => ?_))))
  refine tm i (eM b (Cb Pz (Cr Qz Cn)) call241 (fun F h => (FV j c t a p a5 _ _ F k (U.mono (Pl.mono _) h) Q)) ?_)
  rintro _ c2 s P b H m d ⟨a9, a2, u, rfl, Y⟩
  obtain rfl := u.symm
  replace b := b.perm (Tb (Tr Tn))
  refine V (lj (cB i) rfl) ?_
  obtain rfl := sj g
  exact y _ _ ⟨a9, a2, s, _, (G.trans H), (b.kH St), rfl, rfl, Y⟩
 refine un i (un i (un i (un i (V (ll (cB i) rfl) ?_))))
 obtain rfl := sj g
 exact y _ _ ⟨c, a, Z, _, (lu.refl _), (b.kH St), rfl, rfl, k⟩
theorem wi (c : Nat) (i : Value) (D : List Int) (a : LO) (x : kD) (r : (Bool × (List Int))) (w : World) {μ0 : lQ} (h0 : oC μ0 ((c, Ob #[i] 239) :: (a ++ [])) w) (y : lA 5 (mM .u8) 1 i D a) (hm : ri D x = some r) :
  mZ true Tryz.prog 182 [(.pointer (some ⟨c, 0, none⟩)), (.agg (kR x).toArray)] w ((c, Ob #[i] 239) :: (a ++ [])) (fun v L1 W' => ∃ q S2, v = (.bool (r.1)) ∧ L1 = ((c, Ob #[q] 239) :: (S2 ++ [])) ∧ lA 5 (mM .u8) 1 q r.2 S2) := by
 let l := ((c, Ob #[i] 239) :: (a ++ []))
 refine BT h0 23 func182 rfl (fun b => sg (VE (lI b rfl (fun W2 m b => Wa (lr (Wm (V (Ec iR rfl rfl) (Wm (Vg rfl rfl (kI rfl (kO b.has Mh (kR x) rfl bI aR)) (bS hm fun r3 c4 hm => Ox rfl rfl (Eg b kB (uV x _ _  c4) (fun W5 b => ?_))))))))))))
 refine V (lj rfl rfl) (Wm (LJ hm (fun T E W => ∃ z u B a0, lu μ0 B ∧ ST true (keys l) w W B ((m, Ol (kR x) 50) :: ((c, Ob #[z] 239) :: (u ++ a0))) ∧ E 0 = (.pointer (some ⟨c, 0, none⟩)) ∧ E 3 = (.pointer (some ⟨m, 0, none⟩)) ∧ E 4 = (.bool false) ∧ E 16 = (.bool T.1) ∧ lA 5 (mM .u8) 1 z T.2 u) 5 ?_ (fun T t K => ?_)))
 ·rintro ⟨e6, c5⟩ E W ⟨z, u, B, a0, d2, b, c0, c1, a3, c2, N⟩ s
  refine Wh c2 (LJ s (fun Q E W => ∃ M I U a2, lu B U ∧ ST true (keys l) w W U ((c, Ob #[M] 239) :: (I ++ a2)) ∧ E 4 = (.bool false) ∧ E 22 = (.bool Q.1) ∧ lA 5 (mM .u8) 1 M Q.2 I) 5 ?_ (fun Q k J => ?_))
  ·rintro ⟨c6, e1⟩ E W ⟨M, I, U, a2, d3, b, e0, c3, L⟩ A
   refine Wg c3 (lt ?_)
   obtain rfl := sj A
   exact mD (v := (.bool c6)) rfl rfl ⟨_, _, rfl, (b.mX (Kb (Kr Sn))), M, I, rfl, rfl, L⟩
  refine bC k (fun g k => ?_) (fun g k => ?_)
  ·refine ug g (kT c0) (ug g (kP uN c1) (ug g (kI rfl (lg b.has Mh rfl bW)) (bS k fun e2 F k => ?_)))
   refine tm g (eM b (Cb (Pb Pz) (Cr (Qb Qz) Cn)) call183 (fun h _ => (zA c z c5 u x.kL _ _ h N F)) ?_)
   rintro _ e4 d0 d6 b Y n d ⟨c8, R, G, rfl, O⟩
   obtain rfl := G.symm
   replace b := b.perm (Tb (Tr Tn))
   refine V (lj (cB g) rfl) ?_
   obtain rfl := sj k
   exact J _ _ ⟨c8, R, d0, _, Y, (b.kH (Kb (Kr (Db St)))), a3, rfl, O⟩
  refine un g (un g (un g (un g (V (ll (cB g) rfl) ?_))))
  obtain rfl := sj k
  exact J _ _ ⟨z, u, B, _, (lu.refl _), (b.kH (Db St)), a3, rfl, N⟩
 refine bC t (fun j t => ?_) (fun j t => ?_)
 ·refine ug j (kT rfl) (ug j (kP qi rfl) (ug j (kI rfl (lg b.has Mh rfl bW)) (bS t fun e3 a9 t => ?_)))
  refine tm j (eM b (Cb (Pb Pz) (Cr (Qb Qz) Cn)) call183 (fun h _ => (zA c i D a x.kE _ _ h y a9)) ?_)
  rintro _ e5 d1 d7 b Z p d ⟨c9, b7, H, rfl, P⟩
  obtain rfl := H.symm
  replace b := b.perm (Tb (Tr Tn))
  refine V (lj (cB j) rfl) ?_
  obtain rfl := sj t
  exact K _ _ ⟨c9, b7, d1, _, Z, (b.kH (Sb (Pb (Pr Pz)) St)), rfl, rfl, rfl, rfl, P⟩
 refine un j (un j (un j (un j (V (ll (cB j) rfl) ?_))))
 obtain rfl := sj t
 exact K _ _ ⟨i, a, μ0, _, (lu.refl _), (b.kH St), rfl, rfl, rfl, rfl, y⟩
theorem D9 (A : (List Int) → Formula → Option (List Int)) (f2 : ∀ (a : Nat) (k : Value) (B : List Int) (g : LO) (j : Formula) (u : Value) (r : List Int) (w : World) {μ0 : lQ} (h0 : oC μ0 ((a, Ob #[k] 239) :: (g ++ [])) w) (T : lA 5 (mM .u8) 1 k B g) (t : Sl kG 5 μ0 u j.Kids), A B j = some r → mZ false Tryz.prog 365 [(.pointer (some ⟨a, 0, none⟩)), (.agg #[(.int .i64 j.Op), (.int .i64 j.K), (.string j.kD.kE), (.string j.kD.kL), u])] w ((a, Ob #[k] 239) :: (g ++ [])) (fun v L1 W' => ∃ m S2, v = (.tuple #[]) ∧ L1 = ((a, Ob #[m] 239) :: (S2 ++ [])) ∧ lA 5 (mM .u8) 1 m r S2)) (a : Nat) (k : Value) (B : List Int) (g : LO) (j : Formula) (u : Value) (r : List Int) (w : World) {μ0 : lQ} (h0 : oC μ0 ((a, Ob #[k] 239) :: (g ++ [])) w) (T : lA 5 (mM .u8) 1 k B g) (t : Sl kG 5 μ0 u j.Kids) (hm : wF A B j = some r) :
  mZ false Tryz.prog 365 [(.pointer (some ⟨a, 0, none⟩)), (.agg #[(.int .i64 j.Op), (.int .i64 j.K), (.string j.kD.kE), (.string j.kD.kL), u])] w ((a, Ob #[k] 239) :: (g ++ [])) (fun v L1 W' => ∃ m S2, v = (.tuple #[]) ∧ L1 = ((a, Ob #[m] 239) :: (S2 ++ [])) ∧ lA 5 (mM .u8) 1 m r S2) := by
 let b0 := ((a, Ob #[k] 239) :: (g ++ []))
 refine BT h0 40 func365 rfl (fun b => sg ?_)
 obtain ⟨A1, c2, rfl⟩ := t.form
 refine VE (lI b rfl (fun W4 b3 b => lr (Wm (Wf oB (VB b Mh rfl rfl cA (bS hm fun r5 g8 hm => ?_))))))
 refine VE (eM b (Cb (Pb Pz) (Cr (Qb Qz) Cn)) call181 (fun l _ => mZ.mR (sM a k B g j.Op _ _ l T g8)) ?_)
 rintro _ j8 n j0 b e9 ad d ⟨F, a9, a2, rfl, a5⟩
 obtain rfl := a2.symm
 replace b := b.perm (Tb (Tr Tn))
 refine lS (Wf oB (VB b (Mt (Ma Mh)) rfl rfl cA (Wi rfl (ln (CI hm rfl (fun e8 hm => ?_) (fun e8 hm => ?_))))))
 ·refine sg (Wm (Wf uU (VA b (Mt (Ma Mh)) (kR j.kD) bI aR (bS hm fun j7 f0 hm => ?_))))
  refine VE (eM b (Cb Pz (Cr Qz Cn)) call182 (fun l _ => mZ.mR (wi a F r5.2 a9 j.kD _ _ l a5 f0)) ?_)
  rintro _ j9 k1 j3 b h6 ae d ⟨h3, g2, a3, rfl, f4⟩
  obtain rfl := a3.symm
  replace b := b.perm (Tb (Tr Tn))
  refine ln ?_
  replace b := b.kH (Kb (Kr (Db St)))
  refine lC (lJ ?_)
  obtain rfl := sj hm
  exact pV rfl ⟨_, _, rfl, (b.mX (Kb (Kr Sn))), h3, g2, rfl, rfl, f4⟩
 refine kn (kZ (CJ hm (fun b5 E W => ∃ q p L d6, lu n L ∧ ST false (keys b0) w W L ((a, Ob #[q] 239) :: ((b3, Ol (C2 j.Op j.K j.kD.kE j.kD.kL A1 j.Kids.length c2) 58) :: (p ++ d6))) ∧ E 0 = (.pointer (some ⟨a, 0, none⟩)) ∧ E 3 = (.pointer (some ⟨b3, 0, none⟩)) ∧ lA 5 (mM .u8) 1 q b5 p) (fun b5 y => ?_) ?_))
 ·refine sg (Wf oB (VB b (Mt (Ma Mh)) rfl rfl cA (Wi rfl (ln (CI y rfl (fun c4 y => ?_) (fun c4 y => ?_))))))
  ·refine kW (Wm (Wf sK (VB b (Mt (Ma Mh)) rfl rfl cA (bS y fun i6 d0 y => ?_))))
   refine VE (eM b (Cb Pz (Cr Qz Cn)) call181 (fun l _ => mZ.mR (sM a F r5.2 a9 j.K _ _ l a5 d0)) ?_)
   rintro _ i9 g1 h9 b b2 aa d ⟨f9, e3, N, rfl, d5⟩
   obtain rfl := N.symm
   replace b := b.perm (Tb (Tr Tn))
   refine ln ?_
   obtain rfl := sj y
   exact ⟨f9, e3, g1, _, b2, (b.kH (Kb (Sb (Pr Pz) St))), rfl, rfl, d5⟩
  refine kn ?_
  obtain rfl := sj y
  exact ⟨F, a9, n, _, (lu.refl _), (b.kH (Kb (Sb (Pr Pz) St))), rfl, rfl, a5⟩
 rintro g9 E W ⟨q, p, L, d6, c6, b, d7, d8, f3⟩ a0
 refine sg (Wh d7 (V (kP oA d8) (VB b (Mt Mh) rfl rfl eA (V (ml aD rfl t) (bS a0 fun h2 f1 a0 => ?_)))))
 refine VE (eM b (Cb Pz (Cr (Qb Qz) Cn)) call181 (fun l _ => mZ.mR (sM a q g9 p (j.Kids.length : Int) _ _ l f3 f1)) ?_)
 rintro _ k0 d9 j4 b c7 af d ⟨h4, g3, a4, rfl, f5⟩
 obtain rfl := a4.symm
 replace b := b.perm (Tb (Tr Tn))
 refine lr (V (kP oA d8) (VB b (Mt (Ma Mh)) rfl rfl eA (V (ml aD rfl t) (Wm (ln ?_)))))
 replace b := b.kH (Kb (Kr (Db St)))
 refine qw (mf (fun i E W => ∃ D H z Q U, (E 32 = .int .i64 (i : Nat) ∧ E 31 = .int .i64 (j.Kids.length : Nat)) ∧ lu d9 Q ∧ ST false (keys b0) w W Q ((a, Ob #[D] 239) :: (z ++ U)) ∧ E 0 = (.pointer (some ⟨a, 0, none⟩)) ∧ E 30 = (.slice A1 j.Kids.length c2) ∧ lA 5 (mM .u8) 1 D H z ∧ rH A (j.Kids.drop i) H = some r) j.Kids.length t.len ⟨h4, h2.2, g3, d9, _, ⟨rfl, rfl⟩, (lu.refl _), (b.kH St), d7, rfl, f5, a0⟩ dc dc dc (fun _ _ _ h => by obtain ⟨_, _, _, _, _, P, _⟩ := h; exact P) ?_ ?_)
 ·rintro f6 E W c5 ⟨D, H, z, Q, U, ⟨O, eN⟩, G, b, Y, Z, K, x⟩
  obtain ⟨c, h7, d2, d1, d3⟩ := lT c5
  rw [d2] at x
  refine bg (VQ (mU (i := (f6 : Int)) (x0 := c) kG.out aD aC Z O (t.mono kN.mono (((e9.trans c6).trans c7).trans G)) (aH _) d1) (fun i5 ⟨_, ⟨i7, rfl, a7⟩, c8⟩ => V (kI rfl (lB b.has c8 aK aC)) (VE (lG b aP (fun i0 i4 b => ?_)))))
  obtain ⟨I, J, rfl⟩ := a7.form
  let s := (C2 c.Op c.K c.kD.kE c.kD.kL I c.Kids.length J)
  refine VO (lh (.agg s.toArray) (s.toArray) b rfl rfl aC oc nb rfl (fun i1 b => ln (kW (Wh Y (VA b Mh s aK aC (bS x fun f7 c9 x => ?_))))))
  refine VE (eM b (Cb (Pb Pz) (Cr (Qb Qz) Cn)) call365 (fun l ab => (f2 a D H z c (.slice I c.Kids.length J) _ _ l K (a7.mono kN.mono ab) c9)) ?_)
  rintro _ i8 g0 h8 b b1 R d ⟨f8, e2, M, rfl, d4⟩
  obtain rfl := M.symm
  replace b := b.perm (Tb (Tr Tn))
  refine lH (lL (kU ?_))
  replace b := b.kH (Kb (Kr (Db St)))
  exact ⟨O, f8, f7, e2, g0, _, ⟨rfl, eN⟩, (G.trans b1), (b.kH St), Y, Z, d4, (by rw [d3]; exact x)⟩
 rintro E W ⟨D, H, z, Q, U, ⟨O, eN⟩, G, b, Y, Z, K, x⟩
 rw [aI] at x
 refine kU (rM ?_)
 obtain rfl := sj x
 exact pV rfl ⟨_, _, rfl, (b.mX (Kb (Kr Sn))), D, z, rfl, rfl, K⟩
theorem CF : ∀ (n : Nat) (i : Nat) (g : Value) (k : List Int) (c : LO) (j : Formula) (a : Value) (r : List Int) (w : World) {z : lQ} (D : oC z ((i, Ob #[g] 239) :: (c ++ [])) w) (x : lA 5 (mM .u8) 1 g k c) (t : Sl kG 5 z a j.Kids) (_ : qR n k j = some r),
  mZ false Tryz.prog 365 [(.pointer (some ⟨i, 0, none⟩)), (.agg #[(.int .i64 j.Op), (.int .i64 j.K), (.string j.kD.kE), (.string j.kD.kL), a])] w ((i, Ob #[g] 239) :: (c ++ [])) (fun v B W' => ∃ y u, v = (.tuple #[]) ∧ B = ((i, Ob #[y] 239) :: (u ++ [])) ∧ lA 5 (mM .u8) 1 y r u)
 | 0 => by intros; rename_i h; simp only [qR] at h; cases h
 | n + 1 => D9 (qR n) (CF n)
theorem Hj (k : Nat) (i : Value) (u : List Int) (c : LO) (a : Formula) (j : Value) (r : (Bool × (List Int))) (w : World) {Q : lQ} (Y : oC Q ((k, Ob #[i] 239) :: (c ++ [])) w) (t : lA 5 (mM .u8) 1 i u c) (g : Sl kG 5 Q j a.Kids) (hm : xn u a = some r) :
  mZ false Tryz.prog 358 [(.pointer (some ⟨k, 0, none⟩)), (.agg #[(.int .i64 a.Op), (.int .i64 a.K), (.string a.kD.kE), (.string a.kD.kL), j])] w ((k, Ob #[i] 239) :: (c ++ [])) (fun v U W' => ∃ M I, v = (.bool (r.1)) ∧ U = ((k, Ob #[M] 239) :: (I ++ [])) ∧ lA 5 (mM .u8) 1 M r.2 I) := by
 refine BT Y 15 func358 rfl (fun b => sg ?_)
 obtain ⟨y, z, rfl⟩ := g.form
 let B := (C2 a.Op a.K a.kD.kE a.kD.kL y a.Kids.length z)
 refine VE (lI b rfl (fun W4 n b => Wa (lS (Wm (V (yj iR rfl rfl) (Wm (Vg rfl rfl (kI rfl (kO b.has Mh B rfl aK aC)) (bS hm fun p K hm => Ox rfl rfl (Eg b call72 (xj a (.slice y a.Kids.length z) _ _ (g.mono kN.mono b.kM) K) (fun W7 b => Vg rfl rfl (ol rfl) (V (ll rfl rfl) ?_)))))))))))
 refine ln (CI hm rfl (fun J hm => ?_) (fun J hm => ?_))
 ·refine sg (Wa (ln ?_))
  replace b := b.kH (Db St)
  refine lC (lJ ?_)
  obtain rfl := sj hm
  exact mD (v := (.bool false)) rfl rfl ⟨_, _, rfl, (b.mX (Kb (Kr Sn))), i, c, rfl, rfl, t⟩
 refine kg (Wm (VA b Mh B aK aC (bS hm fun q D hm => ?_)))
 refine VE (eM b (Cb (Pb Pz) (Cr (Qb Qz) Cn)) call365 (fun m h => ((CF lF) k i u c a (.slice y a.Kids.length z) _ _ m t (g.mono kN.mono h) D)) ?_)
 rintro _ a2 a3 Z b T l d ⟨N, H, x, rfl, G⟩
 obtain rfl := x.symm
 replace b := b.perm (Tb (Tr Tn))
 refine ln ?_
 replace b := b.kH (Kb (Kr (Db St)))
 refine sg (Wa (lt ?_))
 obtain rfl := sj hm
 exact mD (v := (.bool true)) rfl rfl ⟨_, _, rfl, (b.mX (Kb (Kr Sn))), N, H, rfl, rfl, G⟩
theorem Jh (g : Value) (i r : List Int) (w : World) (a : Sl (Pl (mM .u8)) 1 (hp w) g i) (hm : vq i = some r) :
  nA true Tryz.prog 58 [g] w 5 (mM .u8) 1 r := by
 unfold vq at hm
 refine wM 8 func58 rfl (fun b => sg (Wa (lS (Wm ?_))))
 obtain ⟨y, B, rfl⟩ := a.form
 refine V (AS cV rfl rfl) (ln ?_)
 rcases y with _ | z
 ·have u := a.isNil
  replace hm : some [] = some r := by rw [u] at hm; simpa [nG, maxLen] using hm
  refine vr (rfl) (sg (Wa (lt (lJ ?_))))
  obtain rfl := sj hm
  exact mD (v := (.slice none 0 0)) rfl rfl ⟨_, [], rfl, b.oR (fun p d => by cases d) (by simp), lA.nil _ _ _⟩
 ·refine rT (rfl) (kg (VE (lD (cs := #[]) b rp (Ax [] cV sizeOf5 ko dc rfl (by simp) rfl rfl) (fun G k b => Wm (bS hm fun H t hm => VE (oG (enc := (mM .u8)) (v := (.slice (some ⟨k, 0, none⟩) 0 0)) (vs := (.slice (some z) i.length B)) (R := [(k, Ob #[] 5)]) b (fun _ => rfl) dc (GV _) cV tQ.1 tQ.2.1 rfl tQ.2.2.1 tQ.2.2.2 rfl rfl (lA.lit (l := []) (enc := (mM .u8)) rfl dc rfl rfl) (a.mono (Pl.mono _) b.kM) t (fun D x j b c => Wa (lt ?_))))))))
  obtain rfl := sj hm
  exact mD (v := x) rfl rfl ⟨_, j, rfl, b.oR (fun p d => (Ml d)) c.nd, c⟩
theorem BW (g : Nat) (a : Value) (c r : List Int) (w : World) (j : Sl (Pl (mM .u8)) 1 (hp w) a c) (k : At (hp w) (.pointer (some ⟨g, 0, none⟩)) [a]) (hm : uR c = some r) :
  nA true Tryz.prog 184 [(.pointer (some ⟨g, 0, none⟩))] w 5 (mM .u8) 1 r := by
 refine wM 10 func184 rfl (fun b => sg (Wa (lS (Wm (V (yj iR rfl rfl) (ln (rT rfl (mr ?_))))))))
 refine kU (sg (Wm (Wn (VQ (zt [a] Aj rfl k rfl) (fun G u => V (kI rfl (tX b.has (y := a) u km)) (bS hm fun H x hm => VE (vh b call58 (Jh a c _ _ (j.mono (Pl.mono _) b.kM) x) (fun D z I t b B d i => Wa (lt ?_)))))))))
 obtain rfl := sj hm
 exact mD (v := z) rfl rfl ⟨_, t, rfl, b.oR (fun p h => (Ml h)) i.nd, i⟩
theorem Bp (a : Formula) (g : Value) (r : List Int) (w : World) (c : Sl kG 5 (hp w) g a.Kids) (hm : uo a = some r) :
  nA false Tryz.prog 339 [(.agg #[(.int .i64 a.Op), (.int .i64 a.K), (.string a.kD.kE), (.string a.kD.kL), g])] w 5 (mM .u8) 1 r := by
 refine wM 11 func339 rfl (fun d => sg ?_)
 obtain ⟨k, t, rfl⟩ := c.form
 refine VE (lI d rfl (fun W4 u d => Wa (lr (V (mB (v := (.agg #[(.slice none 0 0)])) rp (mn zeroValue239 iQ (P3 _ iQ) kr)) (VE (lI d rfl (fun W6 B d => Wa (lr (Wm (VA d (Mt Mh) (C2 a.Op a.K a.kD.kE a.kD.kL k a.Kids.length t) aK aC ?_))))))))))
 refine bS hm fun K D hm => ?_
 refine VE (eM d (Cb Pz (C0 Cn)) call358 (fun s m => (Hj B (.slice none 0 0) ([]) [] a (.slice k a.Kids.length t) _ _ s (lA.nil _ _ _) (c.mono kN.mono m) D)) ?_)
 rintro _ U Y M d I n h ⟨H, N, i, rfl, y⟩
 obtain rfl := i.symm
 replace d := d.perm (Tb (Tr Tn))
 refine ln ?_
 replace d := d.kH (Kb (Kr (Db St)))
 refine sg (Wm (bS hm fun T x hm => VE (vh d call184 (nA.mR (BW B H K.2 _ _ (y.sl (fun _ => rfl) (fun b o l => d.at_ (Mt (Ml l)))) (At.of (d.at_ Mh) _ rfl) x)) (fun Q G Z z d J q j => Wa (ln ?_)))))
 replace d := d.kH (Kr (Db (Dr St)))
 refine lC ?_
 obtain rfl := sj hm
 exact mD (v := G) rfl rfl ⟨_, z, rfl, d.oR (fun p l => (Ml l)) j.nd, j⟩
theorem RG (w : World) {d g : Value} {a b : List Int} (h1 : Sl (Pl (mM .u8)) 1 (hp w) d a) (h : Sl (Pl (mM .u8)) 1 (hp w) g b) : (callFunc 240 [d, g].toArray).run Tryz.prog w = .ok (.value (.int .i64 (zj a b))) w := Pu func240 (by kernel_rfl) (by kernel_rfl) (by kernel_rfl) (by kernel_rfl) h1 h
theorem Cu (a : Value) (g : List Int) (c : Value) (i : List Int) (r : Int) (w : World) (j : Sl (Pl (mM .u8)) 1 (hp w) a g) (k : Sl (Pl (mM .u8)) 1 (hp w) c i) (hm : xw g i = some r) :
  lE true Tryz.prog 178 [a, c] w (.int .i64 r) := by
 exact cG 8 func178 rfl (fun b => sg (Wa (lr (Wm (Wm (VE (MY (args := [a, c]) (v := .int .i64 (zj g i)) rfl (by exact yl rfl rfl) (RG _ (j.mono (Pl.mono _) b.kM) (k.mono (Pl.mono _) b.kM)) (Wa (lt (rQ hm b))))))))))
theorem FP (a : Formula) (j : Value) (c : Formula) (k : Value) (r : Int) (w : World) (g : Sl kG 5 (hp w) j a.Kids) (i : Sl kG 5 (hp w) k c.Kids) (hm : uj a c = some r) :
  lE false Tryz.prog 322 [(.agg #[(.int .i64 a.Op), (.int .i64 a.K), (.string a.kD.kE), (.string a.kD.kL), j]), (.agg #[(.int .i64 c.Op), (.int .i64 c.K), (.string c.kD.kE), (.string c.kD.kL), k])] w (.int .i64 r) := by
 refine cG 10 func322 rfl (fun d => sg ?_)
 obtain ⟨x, z, rfl⟩ := g.form
 refine VE (lI d rfl (fun W4 q d => ?_))
 obtain ⟨y, B, rfl⟩ := i.form
 refine VE (lI d rfl (fun W8 s d => Wa (ln (kZ ?_))))
 replace d := d.drew
 have h := d.has.kH (Kb (Kb Sn))
 refine mi h lN (XH 0 rfl h (fun _ l => kI rfl (kO l (Mt Mh) (C2 a.Op a.K a.kD.kE a.kD.kL x a.Kids.length z) rfl aK aC)) (XH 2 rfl h (fun _ l => kI rfl (kO l Mh (C2 c.Op c.K c.kD.kE c.kD.kL y c.Kids.length B) rfl aK aC)) (bS hm fun K H hm => XE 1 rfl (vh d call339 (Bp a (.slice x a.Kids.length z) _ _ (g.mono kN.mono d.kM) H) (fun Y N a4 T d t n D => ?_)))))
 have h := d.has.pZ t (Dr (Kb (Kb Sn)))
 refine ⟨h, (bS hm fun M I hm => XE 3 rfl (vh d call339 (Bp c (.slice y c.Kids.length B) _ _ (i.mono kN.mono (t.trans d.kM)) I) (fun Z Q a5 U d u p G => ?_)))⟩
 have h := d.has.pZ (t.trans u) (Dr (Dr (Kb (Kb Sn))))
 refine ⟨h, (bS hm fun a3 J hm => XE 4 rfl (Eg d call178 (lE.mR (Cu N K Q M _ _ (D.sl (fun _ => rfl) (fun b o m => d.at_ (Ma (Ml m)))) (G.sl (fun _ => rfl) (fun b o m => d.at_ (Ml m))) J)) (fun a2 d => ?_)))⟩
 have h := d.has.pZ (t.trans u) (Dr (Dr (Kb (Kb Sn))))
 refine ⟨h, (X 5 rfl h (od rfl) (mu kr (kU ?_)))⟩
 exact lC (rQ hm d)
theorem Ds (g : Value) (k r : List Formula) (w : World) {G : lQ} (Y : oC G [] w) (u : Sl kG 5 G g k) (hm : we k = some r) :
  ms false Tryz.prog 288 [g] w G [] (fun v U μ1 => ∃ T I, v = T ∧ U = (I ++ []) ∧ lY 58 kG 5 μ1 T r I) := by
 refine tp Y 9 func288 rfl (fun b => sg (Wa (lr (Wm (bS hm fun Z Q hm => ?_)))))
 refine VE (eD b (aY _) call320 (fun h => ms.mR (CS g k _ _ h (u.mono kN.mono (lu.refl _)) Q)) ?_ (L0 := []))
 rintro _ v7 s L9 b y l ⟨i, H, a, rfl, B⟩
 obtain rfl := a.symm
 replace b := b.perm (Tr Tn)
 refine Wa (lr (Wm (bS hm fun a5 z hm => ?_)))
 refine VE (eD b (Cr Qz Cn) call321 (fun h => (zu i Z H (.func (.func 322) #[] #[]) (fun (x : (Formula × Formula)) => uj x.1 x.2) _ _ h B ⟨322, #[], #[], rfl, call322, fun W x vs r E m hm => by obtain ⟨_, _, rfl, M, N⟩ := m; obtain ⟨q, rfl, p⟩ := M.out; obtain ⟨t0, rfl, n⟩ := N.out; exact FP x.1 q x.2 t0 r W p n hm⟩ z)) ?_)
 rintro _ t A a3 b j d ⟨J, c, rfl, D⟩
 obtain rfl := c.symm
 replace b := b.perm (Tr Tn)
 refine lr (Wm (Wa (lt ?_)))
 obtain rfl := sj hm
 exact mD (v := i) rfl rfl ⟨_, _, _, rfl, (b.mX (Kr Sn)), (y.trans j), (l.trans d), (ST.lX b (nq.mem (Kr Sn))), i, J, rfl, rfl, D⟩
theorem Av (g : Value) (a0 : List Formula) (x : LO) (Z : Value) (f1 : (Formula × Formula) → Option Bool) (r : List Formula) (w : World) {μ0 : lQ} (h0 : oC μ0 (x ++ []) w) (B : lY 58 kG 5 μ0 g a0 x) (d2 : yD Tryz.prog Z μ0 (wD kG kG) (fun (r : Bool) => (.bool r)) f1) (hm : qy a0 f1 = some r) :
  ms false Tryz.prog 291 [g, Z] w μ0 (x ++ []) (fun v L1 μ1 => ∃ y1, v = y1 ∧ L1 = [] ∧ Sl kG 5 μ1 y1 (r)) := by
 refine tp h0 66 func291 rfl (fun d => sg (Wa (lS (Wm (V (qX aD rfl B) (Wi rfl (ln (CI hm rfl (fun i3 hm => ?_) (fun i3 hm => ?_)))))))))
 ·refine sg (Wm (Wa (lt (lJ ?_))))
  obtain rfl := sj hm
  refine mD (v := g) rfl rfl ?_
  obtain ⟨a1, d, i2, A, j0⟩ := ST.tJ kN d B
  exact ⟨_, _, _, rfl, (d.mX Sn), i2, A, (ST.lX d (nq.mem Sn)), g, rfl, rfl, j0⟩
 refine kS (Wa (ln (mK (nZ (fun m E W => ∃ t b7, ST false (keys (x ++ [])) w W μ0 (x ++ b7) ∧ E 0 = g ∧ E 1 = Z ∧ E 5 = (.int .i64 t) ∧ nN a0 f1 m t = some r) lF ⟨1, _, (d.kH St), rfl, rfl, rfl, hm⟩ ?_))))
 rintro m E W ⟨t, b7, d, y, a3, G, a⟩
 cases m with
 | zero => rw [nN] at a; cases a
 | succ h1 =>
  refine kZ (sg (Wh G (Wh y (V (qX aD rfl B) (Wi rfl (ln (CI a rfl (fun d3 a => ?_) (fun d3 a => ?_))))))))
  ·refine kn (kZ (mK (kZ ?_)))
   replace d := d.drew
   have h := d.has.kH (Kr Sn)
   refine mi h lN (X 0 rfl h (kT a3) (X 1 rfl h (kT y) (X 2 rfl h (kT G) (bS a fun h7 R a => XQ 3 rfl h (mL (i := t) kG.out aD aC rfl rfl B (lM R) (lK R)) (fun k1 ⟨_, ⟨h3, rfl, e7⟩, e0, i4⟩ => XH 4 rfl h (fun _ q => kI rfl (lB (oD.hp _) (e0.mono (nn (fun b o p => q.2 b o (Ml p)))) aK aC)) (X 5 rfl h (kT y) (X 6 rfl h (kT G) (X 7 rfl h (lR rfl rfl rfl) (bS a fun h8 b3 a => XQ 8 rfl h (mL (i := (IntKind.i64.wrap (t - 1))) kG.out aD aC rfl rfl B (lM b3) (lK b3)) (fun k2 ⟨_, ⟨h4, rfl, e8⟩, e1, i5⟩ => XH 9 rfl h (fun _ q => kI rfl (lB (oD.hp _) (e1.mono (nn (fun b o p => q.2 b o (Ml p)))) aK aC)) (bS a fun k7 e5 a => XE 10 rfl (zL (h7, h8) d d2 (lu.refl _) (wD.mk kN kN (kG.mk ⟨h3, rfl, e7⟩) (kG.mk ⟨h4, rfl, e8⟩) d.kM) rfl (yl rfl rfl) e5 (fun j6 d => ?_)))))))))))))
   have h := d.has.kH (Kr Sn)
   refine ⟨h, (mu kr (kU (CI a rfl (fun d4 a => ?_) (fun d4 a => ?_))))⟩
   ·refine sg (Wh y (Wh G (bS a fun _ F a => VQ (zK (i := t) aD aC rfl rfl B (vG F) (vw F)) (fun c4 K => Wa (lS (Wa (ln ?_)))))))
    refine CJ a (fun T E W => ∃ a2 b9, ST false (keys (x ++ [])) w W μ0 (a2 ++ b9) ∧ E 0 = g ∧ E 5 = (.int .i64 T.2) ∧ lY 58 kG 5 μ0 g T.1 a2) (fun T d8 => ?_) ?_
    ·refine mK (nZ (fun m E W => ∃ a5 J U u c0, ST false (keys (x ++ [])) w W μ0 (J ++ c0) ∧ E 0 = g ∧ E 1 = Z ∧ E 5 = (.int .i64 U) ∧ E 6 = c4 ∧ E 7 = (.int .i64 u) ∧ lY 58 kG 5 μ0 g a5 J ∧ nP t f1 m a5 U u = some T) lF ⟨a0, x, t, 1, _, (d.kH St), y, a3, G, rfl, rfl, B, d8⟩ ?_)
     rintro m E W ⟨a5, J, U, u, c0, d, N, a4, Q, H, I, k, j⟩
     cases m with
     | zero => rw [nP] at j; cases j
     | succ h2 =>
      refine kZ (sg (Wh I (Wh H (V (MI aD rfl K k) (Wi rfl (ln (CI j rfl (fun d5 j => ?_) (fun d5 j => ?_))))))))
      ·refine kn (kZ (CJ j (fun s E W => ∃ M c1, ST false (keys (x ++ [])) w W μ0 (M ++ c1) ∧ E 0 = g ∧ E 1 = Z ∧ E 5 = (.int .i64 s.2) ∧ E 6 = c4 ∧ E 7 = (.int .i64 u) ∧ lY 58 kG 5 μ0 g s.1 M) (fun s c => ?_) ?_))
       ·refine mK (kZ ?_)
        replace d := d.drew
        have h := d.has.kH (Kr Sn)
        refine mi h lN (X 0 rfl h (kT a4) (X 1 rfl h (kT H) (X 2 rfl h (kT I) (bS c fun i0 b4 c => XQ 3 rfl h (B4 (i := u) kG.out aD aC rfl rfl k K (lM b4) (lK b4)) (fun k3 ⟨_, ⟨h5, rfl, f4⟩, e2, i6⟩ => XH 4 rfl h (fun _ q => kI rfl (lB (oD.hp _) (e2.mono (nn (fun b o p => q.2 b o (Ml p)))) aK aC)) (X 5 rfl h (kT H) (X 6 rfl h (kT I) (X 7 rfl h (lR rfl rfl rfl) (bS c fun i1 b5 c => XQ 8 rfl h (B4 (i := (IntKind.i64.wrap (u - 1))) kG.out aD aC rfl rfl k K (lM b5) (lK b5)) (fun k4 ⟨_, ⟨h6, rfl, f5⟩, e3, i7⟩ => XH 9 rfl h (fun _ q => kI rfl (lB (oD.hp _) (e3.mono (nn (fun b o p => q.2 b o (Ml p)))) aK aC)) (bS c fun k8 e6 c => XE 10 rfl (zL (i0, i1) d d2 (lu.refl _) (wD.mk kN kN (kG.mk ⟨h5, rfl, f4⟩) (kG.mk ⟨h6, rfl, f5⟩) d.kM) rfl (yl rfl rfl) e6 (fun j8 d => ?_)))))))))))))
        have h := d.has.kH (Kr Sn)
        refine ⟨h, (X 11 rfl h (ol rfl) (mu kr (kU (CI c rfl (fun d6 c => ?_) (fun d6 c => ?_)))))⟩
        ·refine sg (Wh N (Wh Q (Wh H (Wh I (bS c fun c7 b6 c => VQ (B4 (i := u) kG.out aD aC rfl rfl k K (lM b6) (lK b6)) (fun k5 ⟨_, ⟨l0, rfl, P⟩, e4, i8⟩ => V (kI rfl (lB (oD.hp _) (e4.mono (nn (fun b o p => d.has.2 b o (Ml p)))) aK aC)) (bS c fun l2 Y c => VQ (mL (i := U) kG.out aD aC rfl rfl k (lM Y) (lK Y)) (fun k6 ⟨_, ⟨l1, rfl, j3⟩, i9, d7⟩ => ?_))))))))
         obtain ⟨f7, g0, rfl⟩ := P.form
         refine VO (rU (x1 := c7) kN d k rfl rfl (kG.mk ⟨(.slice f7 c7.Kids.length g0), rfl, P⟩) d7 (lK Y) aC (fun j9 f8 d d1 => ln (kW (Wh Q (Wi rfl (Wa (lH (lL (kU ?_)))))))))
         obtain rfl := sj c
         exact ⟨f8, _, (d.kH St), N, a4, rfl, H, I, d1⟩
        refine mr (lL (kU ?_))
        obtain rfl := sj c
        exact ⟨J, _, (d.kH St), N, a4, Q, H, I, k⟩
       rintro ⟨g9, h9⟩ E W ⟨M, c1, d, g1, g2, g3, g4, g7, f3⟩ d9
       exact kW (Wh g7 (Wi rfl (Wa (ln ⟨h2, bF _, g9, M, h9, (IntKind.i64.wrap (u + 1)), _, (d.kH St), g1, g2, g3, g4, rfl, f3, d9⟩))))
      refine nT (nJ (nJ (qE (kU ?_))))
      obtain rfl := sj j
      exact ⟨J, _, (d.kH St), N, Q, k⟩
    rintro ⟨k0, c6⟩ E W ⟨a2, b9, d, c2, c3, O⟩ D
    refine sg (Wh c2 (Wh c3 (bS D fun _ L D => VQ (zK (i := c6) aD aC rfl rfl O (vG L) (vw L)) (fun k9 e9 => VO (BO (z := RP) (zs := C5) kN d O (kG.mk ⟨(.slice none 0 0), rfl, (Sl.nil _ _ _)⟩) aD aP e9 rfl rfl (fun j7 j5 d d0 => lr (Wh c2 (Wh c3 (bS D fun _ a9 D => VQ (Bu (i := c6) aD aC rfl rfl d0 (vG a9) (vw a9)) (fun c5 f0 => ?_))))))))))
    refine Wa (lt (nC (lJ (lJ (nC (lJ ?_))))))
    obtain rfl := sj D
    refine mD (v := c5) rfl rfl ?_
    obtain ⟨l3, d, c8, l, f2⟩ := ST.tJ kN d f0
    exact ⟨_, _, _, rfl, (d.mX Sn), c8, l, (ST.lX d (nq.mem Sn)), c5, rfl, rfl, f2⟩
   exact mr (lL (kU (kW (Wh G (Wi rfl (Wa (ln ⟨h1, bF _, (IntKind.i64.wrap (t + 1)), _, (d.kH St), y, a3, rfl, a⟩)))))))
  refine nT (nJ (nJ (qE (kU (sg (Wh y (Wa (lt ?_))))))))
  obtain rfl := sj a
  refine mD (v := g) rfl rfl ?_
  obtain ⟨l4, d, c9, n, f6⟩ := ST.tJ kN d B
  exact ⟨_, _, _, rfl, (d.mX Sn), c9, n, (ST.lX d (nq.mem Sn)), g, rfl, rfl, f6⟩
theorem rS (G : Value) (N : List Formula) (H : Value) (l : List Formula) (I : Value) (f2 : (Formula × Formula) → Option Bool) (r : Bool) (w : World) (x : Sl kG 5 (hp w) G N) (Q : Sl kG 5 (hp w) H l) (p : yD Tryz.prog I (hp w) (wD kG kG) (fun (r : Bool) => (.bool r)) f2) (hm : nO N l f2 = some r) :
  lE false Tryz.prog 323 [G, H, I] w (.bool r) := by
 refine cG 32 func323 rfl (fun b => sg (Wa (lS (Wm (V (ml aD rfl x) (Wm (V (ml aD rfl Q) (Wi rfl (lH ?_)))))))))
 refine kU (CI hm rfl (fun s hm => ?_) (fun s hm => ?_))
 ·refine sg (Wa (lt (lJ ?_)))
  obtain rfl := sj hm
  exact rP b
 refine kS (Wm (V (ml aD rfl x) (Wm (ln (mf (fun i E W => ∃ y, (E 17 = .int .i64 (i : Nat) ∧ E 16 = .int .i64 (N.length : Nat)) ∧ ST false lU w W (hp w) y ∧ E 1 = H ∧ E 2 = I ∧ E 15 = G ∧ mC l f2 (N.drop i) i = some r) N.length x.len ⟨_, ⟨rfl, rfl⟩, (b.kH St), rfl, rfl, rfl, hm⟩ dc dc dc (fun _ _ _ h => by obtain ⟨_, m, _⟩ := h; exact m) ?_ ?_)))))
 ·rintro a4 E W U ⟨y, ⟨d, n⟩, b, z, B, D, a⟩
  obtain ⟨g, c5, a9, q, a3⟩ := lT U
  rw [a9] at a
  refine bg (Wh d (VQ (mU (i := (a4 : Int)) (x0 := g) kG.out aD aC D d x (aH _) q) (fun b9 ⟨_, ⟨c2, rfl, J⟩, Y⟩ => V (kI rfl (lB b.has Y aK aC)) (VE (lG b aP (fun v P b => Wa ?_))))))
  obtain ⟨j, t, rfl⟩ := J.form
  let a0 := (C2 g.Op g.K g.kD.kE g.kD.kL j g.Kids.length t)
  refine VO (lh (.agg a0.toArray) (a0.toArray) b rfl rfl aC oc nb rfl (fun A b => lr (Wh z (Wm (bS a fun c M a => VQ (mU (i := (a4 : Int)) (x0 := c) kG.out aD aC rfl rfl Q (lM M) (lK M)) (fun c0 ⟨_, ⟨c3, rfl, K⟩, Z⟩ => V (kI rfl (lB b.has Z aK aC)) (VE (lG b aP (fun F R b => ?_)))))))))
  obtain ⟨k, u, rfl⟩ := K.form
  let a5 := (C2 c.Op c.K c.kD.kE c.kD.kL k c.Kids.length u)
  refine VO (lh (.agg a5.toArray) (a5.toArray) b rfl rfl aC oc nb rfl (fun L b => lr (Wh B (VA b (Mt Mh) a0 aK aC (VA b Mh a5 aK aC (bS a fun c1 a2 a => VE (zL (g, c) b p (lu.refl _) (wD.mk kN kN (kG.mk ⟨(.slice j g.Kids.length t), rfl, J⟩) (kG.mk ⟨(.slice k c.Kids.length u), rfl, K⟩) b.kM) rfl (yl rfl rfl) a2 (fun O b => V (ol rfl) (ln ?_)))))))))
  replace b := b.kH (Db (Db St))
  refine CI a rfl (fun T a => ?_) (fun T a => ?_)
  ·refine sg (Wa (lt (nC (lJ (nC (lJ ?_))))))
   obtain rfl := sj a
   exact rP b
  exact mr (lL (kU ⟨d, _, ⟨rfl, n⟩, (b.kH St), z, B, D, (by rw [a3]; exact a)⟩))
 rintro E W ⟨y, ⟨d, n⟩, b, z, B, D, a⟩
 rw [aI] at a
 exact kU (sg (Wa (lt (rQ a b))))
theorem Ew (M : Formula → Formula → Option Bool) (v : ∀ (a : Formula) (j : Value) (c : Formula) (k : Value) (r : Bool) (w : World) (u : Sl kG 5 (hp w) j a.Kids) (y : Sl kG 5 (hp w) k c.Kids), M a c = some r → lE false Tryz.prog 292 [(.agg #[(.int .i64 a.Op), (.int .i64 a.K), (.string a.kD.kE), (.string a.kD.kL), j]), (.agg #[(.int .i64 c.Op), (.int .i64 c.K), (.string c.kD.kE), (.string c.kD.kL), k])] w (.bool r)) (a : Formula) (j : Value) (c : Formula) (k : Value) (r : Bool) (w : World) (u : Sl kG 5 (hp w) j a.Kids) (y : Sl kG 5 (hp w) k c.Kids) (hm : xg M a c = some r) :
  lE false Tryz.prog 292 [(.agg #[(.int .i64 a.Op), (.int .i64 a.K), (.string a.kD.kE), (.string a.kD.kL), j]), (.agg #[(.int .i64 c.Op), (.int .i64 c.K), (.string c.kD.kE), (.string c.kD.kL), k])] w (.bool r) := by
 refine cG 31 func292 rfl (fun b => sg ?_)
 obtain ⟨N, Y, rfl⟩ := u.form
 let d := (C2 a.Op a.K a.kD.kE a.kD.kL N a.Kids.length Y)
 refine VE (lI b rfl (fun W4 T b => ?_))
 obtain ⟨Q, Z, rfl⟩ := y.form
 let a0 := (C2 c.Op c.K c.kD.kE c.kD.kL Q c.Kids.length Z)
 refine VE (lI b rfl (fun W8 U b => Wa (lr (Wf oB (VB b (Mt Mh) rfl rfl cA (Wf oB (VB b Mh rfl rfl cA (Wi rfl (Wm (LJ hm (fun a9 E W => ∃ a2, ST false lU w W (hp w) ((U, Ol a0 58) :: ((T, Ol d 58) :: a2)) ∧ E 2 = (.pointer (some ⟨T, 0, none⟩)) ∧ E 3 = (.pointer (some ⟨U, 0, none⟩)) ∧ E 4 = (.bool false) ∧ E 16 = (.bool a9)) 6 ?_ (fun a9 D I => ?_)))))))))))
 ·rintro d1 E W ⟨a2, b, J, K, a5, A⟩ n
  refine Wh A (LJ n (fun m E W => ∃ a3, ST false lU w W (hp w) ((U, Ol a0 58) :: ((T, Ol d 58) :: a3)) ∧ E 2 = (.pointer (some ⟨T, 0, none⟩)) ∧ E 3 = (.pointer (some ⟨U, 0, none⟩)) ∧ E 4 = (.bool false) ∧ E 23 = (.bool m)) 6 ?_ (fun m B H => ?_))
  ·rintro d2 E W ⟨a3, b, F, L, h, c1⟩ p
   refine Wh c1 (LJ p (fun l E W => ∃ a4, ST false lU w W (hp w) a4 ∧ E 4 = (.bool false) ∧ E 30 = (.bool l)) 6 ?_ (fun l z G => ?_))
   ·rintro d3 E W ⟨a4, b, c9, O⟩ q
    exact Wg O (lt (rQ q b))
   refine bC z (fun i z => ?_) (fun i z => ?_)
   ·refine ug i (kP oA F) (ug i (kI rfl (lg b.has (Mt Mh) rfl eA)) (ug i (kP oA L) (ug i (kI rfl (lg b.has Mh rfl eA)) (bS z fun d0 s z => tm i (Eg b call323 (rS (.slice N a.Kids.length Y) a.Kids (.slice Q c.Kids.length Z) c.Kids (.func (.func 292) #[] #[]) (fun (x : (Formula × Formula)) => M x.1 x.2) _ _ (u.mono kN.mono b.kM) (y.mono kN.mono b.kM) ⟨292, #[], #[], rfl, call292, fun W x vs r hs hR hm => by obtain ⟨_, _, rfl, P, R⟩ := hR; obtain ⟨u0, rfl, k0⟩ := P.out; obtain ⟨t0, rfl, j0⟩ := R.out; exact v x.1 u0 x.2 t0 r W k0 j0 hm⟩ s) (fun c8 b => V (lj (cB i) rfl) ?_))))))
    obtain rfl := sj z
    exact G _ _ ⟨_, (b.kH (Db (Db St))), h, rfl⟩
   refine un i (un i (un i (un i (un i (V (ll (cB i) rfl) ?_)))))
   obtain rfl := sj z
   exact G _ _ ⟨_, (b.kH (Db (Db St))), h, rfl⟩
  refine bC B (fun g B => ?_) (fun g B => ?_)
  ·refine ug g (kP uU J) (ug g (kI rfl (kO b.has (Mt Mh) (kR a.kD) rfl bI aR)) (ug g (kP uU K) (ug g (kI rfl (kO b.has Mh (kR c.kD) rfl bI aR)) (ug g (uY rfl rfl (nW eL) (ra (qf _ a.kD c.kD))) (V (lj (cB g) rfl) ?_)))))
   obtain rfl := sj B
   exact H _ _ ⟨_, (b.kH St), J, K, a5, rfl⟩
  refine un g (un g (un g (un g (un g (V (ll (cB g) rfl) ?_)))))
  obtain rfl := sj B
  exact H _ _ ⟨_, (b.kH St), J, K, a5, rfl⟩
 refine bC D (fun t D => ?_) (fun t D => ?_)
 ·refine ug t (kP sK rfl) (ug t (kI rfl (lg b.has (Mt Mh) rfl cA)) (ug t (kP sK rfl) (ug t (kI rfl (lg b.has Mh rfl cA)) (ug t (lR rfl rfl rfl) (V (lj (cB t) rfl) ?_)))))
  obtain rfl := sj D
  exact I _ _ ⟨_, (b.kH St), rfl, rfl, rfl, rfl⟩
 refine un t (un t (un t (un t (un t (V (ll (cB t) rfl) ?_)))))
 obtain rfl := sj D
 exact I _ _ ⟨_, (b.kH St), rfl, rfl, rfl, rfl⟩
theorem Dy : ∀ (n : Nat) (g : Formula) (a : Value) (i : Formula) (c : Value) (r : Bool) (w : World) (j : Sl kG 5 (hp w) a g.Kids) (k : Sl kG 5 (hp w) c i.Kids) (_ : pj n g i = some r),
  lE false Tryz.prog 292 [(.agg #[(.int .i64 g.Op), (.int .i64 g.K), (.string g.kD.kE), (.string g.kD.kL), a]), (.agg #[(.int .i64 i.Op), (.int .i64 i.K), (.string i.kD.kE), (.string i.kD.kL), c])] w (.bool r)
 | 0 => by intros; rename_i h; simp only [pj] at h; cases h
 | n + 1 => Ew (pj n) (Dy n)
end Go.Proofs.YtklbhegeiijbjaaGreat
