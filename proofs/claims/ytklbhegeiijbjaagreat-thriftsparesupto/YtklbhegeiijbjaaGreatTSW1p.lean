/- a part of a proof of ThriftSpares -/
import Derived.Test.YtklbhegeiijbjaaGreatTSMp
import Derived.Test.YtklbhegeiijbjaaGreatProg
set_option linter.all false
namespace Go.Proofs.YtklbhegeiijbjaaGreat
open Go.RowKit
set_option maxRecDepth 10000
open Tryz
def aD := @sizeOf58
def aF := @underlying56
def aH := @sizeOf50
def aI := @sizeOf52
def aJ := @underlying28
def aM := @underlying34
def aZ := @isAgg58
def bB := @isAgg50
def bH := @isAgg52
def bI := @zeroValue58
def bU := @underlying9
def bZ := @isAgg9
def cK := @underlying58
def cM := @zeroValue52
def cN := @underlying53
def cO := @underlying23
def cP := @isAgg3
def cZ := @sizeOf36
def dD := @underlying50
def dE := @underlying45
def dF := @zeroValue50
def dH := @sizeOf55
def dL := @underlying52
def dN := @underlying22
def dP := @sizeOf87
def dQ := @sizeOf60
def dU := @isAgg36
def dW := @zeroValue55
def eB := @underlying78
def eT := @underlying3
def eU := @isAgg28
def eW := @underlying36
def eX := @sizeOf25
def eZ := @zeroValue60
def fE := @underlying55
def fH := @zeroValue78
def fJ := @sizeOf78
def fL := @underlying25
def fM := @underlying74
def fN := @isAgg34
def fP := @underlying189
def fQ := @eqGuardType52
def fR := @underlying184
def fS := @underlying190
def gH := @underlying60
def gI := @isAgg25
def gK := @eqGuardType50
def gL := @underlying232
def gM := @zeroValue4
def gP := @isAgg56
def gY := @zeroValue190
def ij := @underlying111
def iq := @underlying208
def ir := @underlying215
def iA := @sizeOf28
def iB := @zeroValue87
def iF := @sizeOf9
def iG := @sizeOf3
def iN := @sizeOf34
def iO := @underlying239
def iP := @underlying237
def ji := @underlying75
def jv := @isAgg53
def jw := @underlying187
def jx := @isAgg55
def jy := @underlying191
def jB := @underlying5
def jC := @zeroValue28
def jD := @isAgg184
def jE := @zeroValue25
def kG := @isAgg87
def kH := @isAgg22
def kI := @call153
def kJ := @isAgg60
def kN := @underlying249
def kO := @underlying261
def kW := @sizeOf111
def lc := @zeroValue111
def lf := @underlying64
def lg := @isAgg78
def lp := @sizeOf53
def lq := @call57
def lu := @zeroValue36
def lx := @call86
def lz := @isAgg74
def lA := @isAgg45
abbrev K0 : lC := ⟨zS, zS⟩
abbrev K1 : ByteArray := ⟨#[120]⟩
abbrev K2 : ByteArray := ⟨#[121]⟩
abbrev K3 : ByteArray := ⟨#[122]⟩
abbrev K4 : ByteArray := ⟨#[109, 101]⟩
abbrev K5 : ByteArray := ⟨#[121, 111, 117]⟩
abbrev K6 : mZ := ⟨0⟩
abbrev K7 : lC := ⟨K1, K2⟩
abbrev K9 : lC := ⟨K1, K3⟩
abbrev Ty : lB := ⟨0, K0, zS, K0, K0, zS⟩
abbrev Kc : lB := ⟨1, K7, K4, K0, K0, zS⟩
abbrev Lw : lB := ⟨1, K9, K5, K0, K0, zS⟩
abbrev Va : Formula := ⟨1, 0, K9, []⟩
abbrev C1 (a b : Int) (c d : ByteArray) (g : Option Addr) (h i : Nat) : List Value := [(.int .i64 a), (.int .i64 b), (.string c), (.string d), (.slice g h i)]
abbrev C2 (n : ByteArray) (o : Option Addr) (q r : Nat) (s : Option Addr) (t u : Nat) (v : ByteArray) (w : Int) (x : Option Addr) (a b : Nat) (c : Option Addr) (d g : Nat) (h : Option Addr) (i j : Nat) (k : Option Addr) (l m : Nat) : List Value := [(.string n), (.slice o q r), (.slice s t u), (.string v), (.int .i64 w), (.slice x a b), (.slice c d g), (.slice h i j), (.slice k l m)]
abbrev C3 (c : Int) (d g h i j k l m : ByteArray) (n : Option Addr) (a b : Nat) : List Value := [(.int .i64 c), (.string d), (.string g), (.string h), (.string i), (.string j), (.string k), (.string l), (.string m), (.slice n a b)]
abbrev C4 (l : Int) (m n o q r s t u : ByteArray) (v : Option Addr) (a b : Nat) (c d : Int) (g h : ByteArray) (i : Option Addr) (j k : Nat) : List Value := [(.int .i64 l), (.string m), (.string n), (.string o), (.string q), (.string r), (.string s), (.string t), (.string u), (.slice v a b), (.int .i64 c), (.int .i64 d), (.string g), (.string h), (.slice i j k)]
abbrev C5 (a : Option Addr) (b c : Nat) : List Value := [(.int .i64 1), (.string (K7.lI)), (.string (K7.lM)), (.string K4), (.string (K0.lI)), (.string (K0.lM)), (.string (K0.lI)), (.string (K0.lM)), (.string zS), (.slice a b c), (.int .i64 1), (.int .i64 0), (.string K1), (.string K3), (.slice none 0 0)]
abbrev C6 (c d : ByteArray) (g h : Int) (i j : ByteArray) (k : Option Addr) (l m : Nat) (n : Option Addr) (a b : Nat) : List Value := [(.string c), (.string d), (.int .i64 g), (.int .i64 h), (.string i), (.string j), (.slice k l m), (.slice n a b)]
abbrev C7 (a : ByteArray) (b : Option Addr) (c d : Nat) (g : Option Addr) (h i : Nat) : List Value := [(.string a), (.slice b c d), (.slice g h i)]
abbrev C8 : List Value := [(.int .i64 0), (.int .i64 0), (.string zS), (.string zS), (.slice none 0 0)]
abbrev C9 (a b c : Int) (d : ByteArray) (g : Option Addr) (h i : Nat) (j : Option Addr) (k l : Nat) : List Value := [(.int .i64 a), (.int .i64 b), (.int .i64 c), (.string d), (.slice g h i), (.slice j k l)]
abbrev AY : List Value := [(.int .i64 1), (.int .i64 0), (.string K1), (.string K3), (.slice none 0 0)]
abbrev PK : List Value := [(.int .i64 0), (.string (K0.lI)), (.string (K0.lM)), (.string zS), (.string (K0.lI)), (.string (K0.lM)), (.string (K0.lI)), (.string (K0.lM)), (.string zS), (.slice none 0 0), (.int .i64 0), (.int .i64 0), (.string zS), (.string zS), (.slice none 0 0)]
abbrev Nq : List Value := [(.int .i64 0), (.string (K0.lI)), (.string (K0.lM)), (.string zS), (.string (K0.lI)), (.string (K0.lM)), (.string (K0.lI)), (.string (K0.lM)), (.string zS), (.slice none 0 0)]
abbrev Lg : List Value := [(.string zS), (.slice none 0 0), (.slice none 0 0), (.string zS), (.int .i64 0), (.slice none 0 0), (.slice none 0 0), (.slice none 0 0), (.slice none 0 0)]
abbrev Gx : List Value := [(.int .i64 0), (.int .i64 0), (.int .i64 0), (.string zS), (.slice none 0 0), (.slice none 0 0)]
abbrev VJ (a : ByteArray) (b : Option Addr) (c d : Nat) (g : Option Addr) (h i : Nat) (j : ByteArray) (k : Int) : List Value := [(.string a), (.slice b c d), (.slice g h i), (.string j), (.int .i64 k), (.slice none 0 0), (.slice none 0 0), (.slice none 0 0), (.slice none 0 0)]
abbrev U5 (a : Option Addr) (b c : Nat) : List Value := [(.int .i64 1), (.string (K7.lI)), (.string (K7.lM)), (.string K4), (.string (K0.lI)), (.string (K0.lM)), (.string (K0.lI)), (.string (K0.lM)), (.string zS), (.slice a b c)]
abbrev Vy (a : Option Addr) (b c : Nat) (d : Option Addr) (g h : Nat) : List Value := [(.int .i64 2), (.int .i64 0), (.int .i64 0), (.string zS), (.slice a b c), (.slice d g h)]
abbrev TK (a : Int) : List Value := [(.int .i64 a), (.int .i64 0), (.string zS), (.string zS), (.slice none 0 0)]
abbrev Ql : List Value := [(.int .i64 2), (.int .i64 0), (.string zS), (.string zS), (.slice none 0 0)]
abbrev PD : List Value := [(.int .i64 3), (.int .i64 0), (.string zS), (.string zS), (.slice none 0 0)]
abbrev TM (a : Int) : List Value := [(.int .i64 a), (.int .i64 0), (.int .i64 0), (.string zS), (.slice none 0 0), (.slice none 0 0)]
theorem mu : Tryz.prog.follows .mixedOrders = true := by rfl
theorem rh : Tryz.prog.info? 5 = some Tryz.t5 ∧ Tryz.t5.zero = some (.int .u8 0) ∧ Tryz.t5.size = 1 ∧ Tryz.t5.bytes = 1 := ⟨by kernel_rfl, by kernel_rfl, by kernel_rfl, by kernel_rfl⟩
theorem oF : Tryz.prog.info? 50 = some Tryz.t50 ∧ Tryz.t50.zero = some (.agg #[(.string ⟨#[]⟩), (.string ⟨#[]⟩)]) ∧ Tryz.t50.size = 2 ∧ Tryz.t50.bytes = 32 := ⟨by kernel_rfl, by kernel_rfl, by kernel_rfl, by kernel_rfl⟩
theorem oG : Tryz.prog.info? 52 = some Tryz.t52 ∧ Tryz.t52.zero = some (.agg #[(.int .i64 0), (.string ⟨#[]⟩), (.string ⟨#[]⟩), (.string ⟨#[]⟩), (.string ⟨#[]⟩), (.string ⟨#[]⟩), (.string ⟨#[]⟩), (.string ⟨#[]⟩), (.string ⟨#[]⟩)]) ∧ Tryz.t52.size = 9 ∧ Tryz.t52.bytes = 136 := ⟨by kernel_rfl, by kernel_rfl, by kernel_rfl, by kernel_rfl⟩
theorem Iy : Tryz.prog.info? 55 = some Tryz.t55 ∧ Tryz.t55.zero = some (.agg #[(.int .i64 0), (.string ⟨#[]⟩), (.string ⟨#[]⟩), (.string ⟨#[]⟩), (.string ⟨#[]⟩), (.string ⟨#[]⟩), (.string ⟨#[]⟩), (.string ⟨#[]⟩), (.string ⟨#[]⟩), (.slice none 0 0)]) ∧ Tryz.t55.size = 10 ∧ Tryz.t55.bytes = 160 := ⟨by kernel_rfl, by kernel_rfl, by kernel_rfl, by kernel_rfl⟩
theorem ra : Tryz.prog.info? 58 = some Tryz.t58 ∧ Tryz.t58.zero = some (.agg #[(.int .i64 0), (.int .i64 0), (.string ⟨#[]⟩), (.string ⟨#[]⟩), (.slice none 0 0)]) ∧ Tryz.t58.size = 5 ∧ Tryz.t58.bytes = 72 := ⟨by kernel_rfl, by kernel_rfl, by kernel_rfl, by kernel_rfl⟩
theorem IU : Tryz.prog.info? 87 = some Tryz.t87 ∧ Tryz.t87.zero = some (.agg #[(.string ⟨#[]⟩), (.string ⟨#[]⟩), (.int .i64 0), (.int .i64 0), (.string ⟨#[]⟩), (.string ⟨#[]⟩), (.slice none 0 0), (.slice none 0 0)]) ∧ Tryz.t87.size = 8 ∧ Tryz.t87.bytes = 128 := ⟨by kernel_rfl, by kernel_rfl, by kernel_rfl, by kernel_rfl⟩
theorem Hg : Tryz.prog.info? 111 = some Tryz.t111 ∧ Tryz.t111.zero = some (.agg #[(.string ⟨#[]⟩), (.string ⟨#[]⟩), (.string ⟨#[]⟩)]) ∧ Tryz.t111.size = 3 ∧ Tryz.t111.bytes = 48 := ⟨by kernel_rfl, by kernel_rfl, by kernel_rfl, by kernel_rfl⟩
theorem xe : nu Tryz.prog 50 0 0 := mP dD rfl iF (by decide) rfl
theorem xQ : nu Tryz.prog 50 1 1 := mP dD rfl iF (by decide) rfl
theorem Q5 : (Tryz.prog.fieldsOf 50).toList = (match Tryz.prog.underlying 50 with | some (.struct a) => a.toList | _ => []) := by rw [dD]; simp [Program.fieldsOf, dD]
theorem vg (d : Nat) (x y : lC) (W : World) : (Op.equalIn (d + 2) 50 (.agg (lE x).toArray) (.agg (lE y).toArray)).run Tryz.prog W = .ok (lZ x y) W := by
 rw [run_equalIn_struct W (d + 1) 50 _ _ (by kernel_rfl) Tryz.stoodInHeld50, Q5, dD]
 exact (tV (by decide) (pO bZ rfl) (pO bZ rfl) (RC bU _ _ _ _) (tV (by decide) (pO bZ rfl) (pO bZ rfl) (RC bU _ _ _ _) (Gl _ _ _)))
theorem Oh : ∀ a, Tryz.prog.underlying 50 = some (.struct a) → ∀ w, (a.mapM (fun (f : Field) => do pure (f.offset, ← sizeOf f.type)) : Sem (Array (Nat × Nat))).run Tryz.prog w = .ok #[(0, 1), (1, 1)] w := by
 intro a h w
 rw [dD] at h
 cases h
 kernel_rfl
theorem zx : nu Tryz.prog 52 0 0 := mP dL rfl iG (by decide) rfl
theorem vX : nu Tryz.prog 52 1 1 := mP dL rfl aH (by decide) rfl
theorem Eu : nu Tryz.prog 52 2 3 := mP dL rfl iF (by decide) rfl
theorem so : nu Tryz.prog 52 3 4 := mP dL rfl aH (by decide) rfl
theorem Az : nu Tryz.prog 52 4 6 := mP dL rfl aH (by decide) rfl
theorem AV : nu Tryz.prog 52 5 8 := mP dL rfl iF (by decide) rfl
theorem Rg : (Tryz.prog.fieldsOf 52).toList = (match Tryz.prog.underlying 52 with | some (.struct a) => a.toList | _ => []) := by rw [dL]; simp [Program.fieldsOf, dL]
theorem wS (d : Nat) (x y : lB) (W : World) : (Op.equalIn (d + 3) 52 (.agg (lD x).toArray) (.agg (lD y).toArray)).run Tryz.prog W = .ok (mC x y) W := by
 rw [run_equalIn_struct W (d + 2) 52 _ _ (by kernel_rfl) Tryz.stoodInHeld52, Rg, dL]
 exact (tV (by decide) (pO cP rfl) (pO cP rfl) (VN eT _ _ _ _) (tV (by decide) (xD bB aH rfl) (xD bB aH rfl) (vg _ x.Head y.Head W) (tV (by decide) (pO bZ rfl) (pO bZ rfl) (RC bU _ _ _ _) (tV (by decide) (xD bB aH rfl) (xD bB aH rfl) (vg _ x.B y.B W) (tV (by decide) (xD bB aH rfl) (xD bB aH rfl) (vg _ x.C y.C W) (tV (by decide) (pO bZ rfl) (pO bZ rfl) (RC bU _ _ _ _) (Gl _ _ _)))))))
theorem Rf : ∀ a, Tryz.prog.underlying 52 = some (.struct a) → ∀ w, (a.mapM (fun (f : Field) => do pure (f.offset, ← sizeOf f.type)) : Sem (Array (Nat × Nat))).run Tryz.prog w = .ok #[(0, 1), (1, 2), (3, 1), (4, 2), (6, 2), (8, 1)] w := by
 intro a h w
 rw [dL] at h
 cases h
 kernel_rfl
theorem JW : nu Tryz.prog 111 0 0 := mP ij rfl aH (by decide) rfl
theorem Cz : nu Tryz.prog 111 1 2 := mP ij rfl iF (by decide) rfl
theorem RN : ∀ a, Tryz.prog.underlying 111 = some (.struct a) → ∀ w, (a.mapM (fun (f : Field) => do pure (f.offset, ← sizeOf f.type)) : Sem (Array (Nat × Nat))).run Tryz.prog w = .ok #[(0, 2), (2, 1)] w := by
 intro a h w
 rw [ij] at h
 cases h
 kernel_rfl
theorem M6 : nu Tryz.prog 249 0 0 := mP kN rfl sizeOf40 (by decide) rfl
theorem UA : ∀ a, Tryz.prog.underlying 249 = some (.struct a) → ∀ w, (a.mapM (fun (f : Field) => do pure (f.offset, ← sizeOf f.type)) : Sem (Array (Nat × Nat))).run Tryz.prog w = .ok #[(0, 1)] w := by
 intro a h w
 rw [kN] at h
 cases h
 kernel_rfl
theorem tj : nu Tryz.prog 55 0 0 := mP fE rfl aI (by decide) rfl
theorem En : nu Tryz.prog 55 1 9 := mP fE rfl lp (by decide) rfl
theorem Oo : ∀ a, Tryz.prog.underlying 55 = some (.struct a) → ∀ w, (a.mapM (fun (f : Field) => do pure (f.offset, ← sizeOf f.type)) : Sem (Array (Nat × Nat))).run Tryz.prog w = .ok #[(0, 9), (9, 1)] w := by
 intro a h w
 rw [fE] at h
 cases h
 kernel_rfl
theorem vT : nu Tryz.prog 58 0 0 := mP cK rfl iG (by decide) rfl
theorem AO : nu Tryz.prog 58 1 1 := mP cK rfl iG (by decide) rfl
theorem xW : nu Tryz.prog 58 2 2 := mP cK rfl aH (by decide) rfl
theorem uO : nu Tryz.prog 58 3 4 := mP cK rfl sizeOf56 (by decide) rfl
theorem CL : ∀ a, Tryz.prog.underlying 58 = some (.struct a) → ∀ w, (a.mapM (fun (f : Field) => do pure (f.offset, ← sizeOf f.type)) : Sem (Array (Nat × Nat))).run Tryz.prog w = .ok #[(0, 1), (1, 1), (2, 2), (4, 1)] w := by
 intro a h w
 rw [cK] at h
 cases h
 kernel_rfl
theorem yE : nu Tryz.prog 60 0 0 := mP gH rfl dH (by decide) rfl
theorem LZ : nu Tryz.prog 60 1 10 := mP gH rfl aD (by decide) rfl
theorem QH : ∀ a, Tryz.prog.underlying 60 = some (.struct a) → ∀ w, (a.mapM (fun (f : Field) => do pure (f.offset, ← sizeOf f.type)) : Sem (Array (Nat × Nat))).run Tryz.prog w = .ok #[(0, 10), (10, 5)] w := by
 intro a h w
 rw [gH] at h
 cases h
 kernel_rfl
theorem Gf : nu Tryz.prog 87 0 0 := mP underlying87 rfl aH (by decide) rfl
theorem GZ : nu Tryz.prog 87 1 2 := mP underlying87 rfl aD (by decide) rfl
theorem EQ : nu Tryz.prog 87 2 7 := mP underlying87 rfl iA (by decide) rfl
theorem Pn : nu Tryz.prog 25 0 0 := mP fL rfl iF (by decide) rfl
theorem AD : nu Tryz.prog 25 1 1 := mP fL rfl sizeOf22 (by decide) rfl
theorem Es : nu Tryz.prog 25 2 2 := mP fL rfl sizeOf23 (by decide) rfl
theorem Q0 : ∀ a, Tryz.prog.underlying 25 = some (.struct a) → ∀ w, (a.mapM (fun (f : Field) => do pure (f.offset, ← sizeOf f.type)) : Sem (Array (Nat × Nat))).run Tryz.prog w = .ok #[(0, 1), (1, 1), (2, 1)] w := by
 intro a h w
 rw [fL] at h
 cases h
 kernel_rfl
theorem zB : nu Tryz.prog 36 0 0 := mP eW rfl eX (by decide) rfl
theorem Ji : nu Tryz.prog 36 1 3 := mP eW rfl iF (by decide) rfl
theorem Qi : nu Tryz.prog 36 2 4 := mP eW rfl iG (by decide) rfl
theorem EE : nu Tryz.prog 36 3 5 := mP eW rfl iA (by decide) rfl
theorem BM : nu Tryz.prog 36 4 6 := mP eW rfl iA (by decide) rfl
theorem EC : nu Tryz.prog 36 5 7 := mP eW rfl iN (by decide) rfl
theorem Dh : nu Tryz.prog 36 6 8 := mP eW rfl iN (by decide) rfl
theorem T8 : ∀ a, Tryz.prog.underlying 36 = some (.struct a) → ∀ w, (a.mapM (fun (f : Field) => do pure (f.offset, ← sizeOf f.type)) : Sem (Array (Nat × Nat))).run Tryz.prog w = .ok #[(0, 3), (3, 1), (4, 1), (5, 1), (6, 1), (7, 1), (8, 1)] w := by
 intro a h w
 rw [eW] at h
 cases h
 kernel_rfl
theorem Sj : nu Tryz.prog 118 0 0 := mP underlying118 rfl iF (by decide) rfl
theorem Sv : nu Tryz.prog 118 1 1 := mP underlying118 rfl lp (by decide) rfl
theorem CT : nu Tryz.prog 78 0 0 := mP eB rfl iG (by decide) rfl
theorem Ei : nu Tryz.prog 78 1 1 := mP eB rfl iG (by decide) rfl
theorem Ey : nu Tryz.prog 78 2 2 := mP eB rfl iG (by decide) rfl
theorem Gb : nu Tryz.prog 78 3 3 := mP eB rfl iF (by decide) rfl
theorem BJ : nu Tryz.prog 78 4 4 := mP eB rfl iN (by decide) rfl
theorem BT : nu Tryz.prog 78 5 5 := mP eB rfl sizeOf45 (by decide) rfl
theorem OE : ∀ a, Tryz.prog.underlying 78 = some (.struct a) → ∀ w, (a.mapM (fun (f : Field) => do pure (f.offset, ← sizeOf f.type)) : Sem (Array (Nat × Nat))).run Tryz.prog w = .ok #[(0, 1), (1, 1), (2, 1), (3, 1), (4, 1), (5, 1)] w := by
 intro a h w
 rw [eB] at h
 cases h
 kernel_rfl
theorem yT : nu Tryz.prog 189 0 0 := mP fP rfl sizeOf184 (by decide) rfl
theorem JX : nu Tryz.prog 189 1 1 := mP fP rfl iA (by decide) rfl
theorem Nu : nu Tryz.prog 189 2 2 := mP fP rfl sizeOf185 (by decide) rfl
theorem Jr : nu Tryz.prog 189 3 3 := mP fP rfl sizeOf186 (by decide) rfl
theorem CA : nu Tryz.prog 189 4 4 := mP fP rfl sizeOf187 (by decide) rfl
theorem G7 : nu Tryz.prog 189 5 5 := mP fP rfl iG (by decide) rfl
theorem UO : ∀ a, Tryz.prog.underlying 189 = some (.struct a) → ∀ w, (a.mapM (fun (f : Field) => do pure (f.offset, ← sizeOf f.type)) : Sem (Array (Nat × Nat))).run Tryz.prog w = .ok #[(0, 1), (1, 1), (2, 1), (3, 1), (4, 1), (5, 1)] w := by
 intro a h w
 rw [fP] at h
 cases h
 kernel_rfl
theorem Nj : nu Tryz.prog 208 0 0 := mP iq rfl iA (by decide) rfl
theorem JE : nu Tryz.prog 208 1 1 := mP iq rfl sizeOf75 (by decide) rfl
theorem Na : nu Tryz.prog 208 2 2 := mP iq rfl sizeOf190 (by decide) rfl
theorem Bq : nu Tryz.prog 208 3 3 := mP iq rfl sizeOf74 (by decide) rfl
theorem UB : ∀ a, Tryz.prog.underlying 208 = some (.struct a) → ∀ w, (a.mapM (fun (f : Field) => do pure (f.offset, ← sizeOf f.type)) : Sem (Array (Nat × Nat))).run Tryz.prog w = .ok #[(0, 1), (1, 1), (2, 1), (3, 1)] w := by
 intro a h w
 rw [iq] at h
 cases h
 kernel_rfl
theorem Be : nu Tryz.prog 239 0 0 := mP iO rfl lp (by decide) rfl
theorem Ru : ∀ a, Tryz.prog.underlying 239 = some (.struct a) → ∀ w, (a.mapM (fun (f : Field) => do pure (f.offset, ← sizeOf f.type)) : Sem (Array (Nat × Nat))).run Tryz.prog w = .ok #[(0, 1)] w := by
 intro a h w
 rw [iO] at h
 cases h
 kernel_rfl
def nV : su Signed := fun μ ys x => ∃ (v0 : Value), ys = [.int .i64 x.lB.Kind, .string x.lB.Head.lI, .string x.lB.Head.lM, .string x.lB.mS, .string x.lB.B.lI, .string x.lB.B.lM, .string x.lB.C.lI, .string x.lB.C.lM, .string x.lB.mK, v0] ∧ Sl (Pl (nr .u8)) 1 μ v0 x.Tag
theorem nV.out {μ : mF} {ys : List Value} {x : Signed} (h : nV μ ys x) : ∃ (v0 : Value), ys = [.int .i64 x.lB.Kind, .string x.lB.Head.lI, .string x.lB.Head.lM, .string x.lB.mS, .string x.lB.B.lI, .string x.lB.B.lM, .string x.lB.C.lI, .string x.lB.C.lM, .string x.lB.mK, v0] ∧ Sl (Pl (nr .u8)) 1 μ v0 x.Tag := h
theorem nV.mk {μ : mF} {ys : List Value} {x : Signed} (h : ∃ (v0 : Value), ys = [.int .i64 x.lB.Kind, .string x.lB.Head.lI, .string x.lB.Head.lM, .string x.lB.mS, .string x.lB.B.lI, .string x.lB.B.lM, .string x.lB.C.lI, .string x.lB.C.lM, .string x.lB.mK, v0] ∧ Sl (Pl (nr .u8)) 1 μ v0 x.Tag) : nV μ ys x := h
theorem qw : Deep nV 10 where
 mono := by rintro _ _ _ _ b ⟨v0, rfl, a⟩; exact ⟨v0, rfl, a.mono (Pl.mono _) b⟩
 len := by rintro _ _ _ ⟨v0, rfl, a⟩; rfl
 one := by
  rintro _ _ _ ⟨v0, rfl, a⟩
  intro u hu; simp only [aS, dV, iM] at hu; rcases hu with rfl | rfl | rfl | rfl | rfl | rfl | rfl | rfl | rfl | rfl
  ·rfl
  ·rfl
  ·rfl
  ·rfl
  ·rfl
  ·rfl
  ·rfl
  ·rfl
  ·rfl
  ·exact a.Dz
def zD : Nat → su Formula
 | 0 => fun _ _ _ => False
 | n + 1 => fun μ ys x => ∃ (v0 : Value), ys = [.int .i64 x.Op, .int .i64 x.K, .string x.lC.lI, .string x.lC.lM, v0] ∧ Sl (zD n) 5 μ v0 x.Kids
def lH : su Formula := fun μ ys x => ∃ n, zD n μ ys x
theorem F6 : ∀ n, IG (zD n)
 | 0 => fun _ _ _ _ _ h => h
 | n + 1 => by rintro _ _ _ _ b ⟨v0, rfl, a⟩; exact ⟨v0, rfl, a.mono (F6 n) b⟩
theorem IL : ∀ n m (μ : mF) (ys : List Value) (x : Formula), n ≤ m → zD n μ ys x → zD m μ ys x
 | 0, _, _, _, _, _, h => h.elim
 | n + 1, 0, _, _, _, a, _ => absurd a (by omega)
 | n + 1, m + 1, μ, ys, x, a, h => by
  obtain ⟨v0, rfl, b⟩ := h
  exact ⟨v0, rfl, b.imp fun ys x h => IL n m μ ys x (by omega) h⟩
theorem lH.out {μ : mF} {ys : List Value} {x : Formula} (h : lH μ ys x) : ∃ (v0 : Value), ys = [.int .i64 x.Op, .int .i64 x.K, .string x.lC.lI, .string x.lC.lM, v0] ∧ Sl lH 5 μ v0 x.Kids := by
 obtain ⟨n, h⟩ := h
 cases n with
 | zero => exact h.elim
 | succ n =>
  obtain ⟨v0, rfl, a⟩ := h
  exact ⟨v0, rfl, a.imp fun ys x h => ⟨n, h⟩⟩
theorem lH.mk {μ : mF} {ys : List Value} {x : Formula} (h : ∃ (v0 : Value), ys = [.int .i64 x.Op, .int .i64 x.K, .string x.lC.lI, .string x.lC.lM, v0] ∧ Sl lH 5 μ v0 x.Kids) : lH μ ys x := by
 obtain ⟨v0, rfl, c⟩ := h
 obtain ⟨n, g⟩ := c.UU (fun _ _ h => h) (fun a b ys x d h => IL a b _ ys x d h)
 exact ⟨n + 1, v0, rfl, g⟩
theorem mf : Deep lH 5 where
 mono := fun _ _ _ _ b ⟨n, h⟩ => ⟨n, F6 n _ _ _ _ b h⟩
 len := by rintro _ _ _ h; obtain ⟨v0, rfl, a⟩ := h.out; rfl
 one := by
  rintro _ _ _ h
  obtain ⟨v0, rfl, a⟩ := h.out
  intro u hu; simp only [aS, dV, iM] at hu; rcases hu with rfl | rfl | rfl | rfl | rfl
  ·rfl
  ·rfl
  ·rfl
  ·rfl
  ·exact a.Dz
def mx : su mG := fun μ ys x => ∃ (v0 : Value) (v1 : Value), ys = [.int .i64 x.Signed.lB.Kind, .string x.Signed.lB.Head.lI, .string x.Signed.lB.Head.lM, .string x.Signed.lB.mS, .string x.Signed.lB.B.lI, .string x.Signed.lB.B.lM, .string x.Signed.lB.C.lI, .string x.Signed.lB.C.lM, .string x.Signed.lB.mK, v0, .int .i64 x.lL.Op, .int .i64 x.lL.K, .string x.lL.lC.lI, .string x.lL.lC.lM, v1] ∧ Sl (Pl (nr .u8)) 1 μ v0 x.Signed.Tag ∧ Sl lH 5 μ v1 x.lL.Kids
theorem mx.out {μ : mF} {ys : List Value} {x : mG} (h : mx μ ys x) : ∃ (v0 : Value) (v1 : Value), ys = [.int .i64 x.Signed.lB.Kind, .string x.Signed.lB.Head.lI, .string x.Signed.lB.Head.lM, .string x.Signed.lB.mS, .string x.Signed.lB.B.lI, .string x.Signed.lB.B.lM, .string x.Signed.lB.C.lI, .string x.Signed.lB.C.lM, .string x.Signed.lB.mK, v0, .int .i64 x.lL.Op, .int .i64 x.lL.K, .string x.lL.lC.lI, .string x.lL.lC.lM, v1] ∧ Sl (Pl (nr .u8)) 1 μ v0 x.Signed.Tag ∧ Sl lH 5 μ v1 x.lL.Kids := h
theorem mx.mk {μ : mF} {ys : List Value} {x : mG} (h : ∃ (v0 : Value) (v1 : Value), ys = [.int .i64 x.Signed.lB.Kind, .string x.Signed.lB.Head.lI, .string x.Signed.lB.Head.lM, .string x.Signed.lB.mS, .string x.Signed.lB.B.lI, .string x.Signed.lB.B.lM, .string x.Signed.lB.C.lI, .string x.Signed.lB.C.lM, .string x.Signed.lB.mK, v0, .int .i64 x.lL.Op, .int .i64 x.lL.K, .string x.lL.lC.lI, .string x.lL.lC.lM, v1] ∧ Sl (Pl (nr .u8)) 1 μ v0 x.Signed.Tag ∧ Sl lH 5 μ v1 x.lL.Kids) : mx μ ys x := h
theorem mH : Deep mx 15 where
 mono := by rintro _ _ _ _ b ⟨v0, v1, rfl, a, h1⟩; exact ⟨v0, v1, rfl, a.mono (Pl.mono _) b, h1.mono mf.mono b⟩
 len := by rintro _ _ _ ⟨v0, v1, rfl, a, h1⟩; rfl
 one := by
  rintro _ _ _ ⟨v0, v1, rfl, a, h1⟩
  intro u hu; simp only [aS, dV, iM] at hu; rcases hu with rfl | rfl | rfl | rfl | rfl | rfl | rfl | rfl | rfl | rfl | rfl | rfl | rfl | rfl | rfl
  ·rfl
  ·rfl
  ·rfl
  ·rfl
  ·rfl
  ·rfl
  ·rfl
  ·rfl
  ·rfl
  ·exact a.Dz
  ·rfl
  ·rfl
  ·rfl
  ·rfl
  ·exact h1.Dz
def mV : su ny := fun μ ys x => ∃ (v0 : Value) (v1 : Value), ys = [.string x.lC.lI, .string x.lC.lM, .int .i64 x.lL.Op, .int .i64 x.lL.K, .string x.lL.lC.lI, .string x.lL.lC.lM, v0, v1] ∧ Sl lH 5 μ v0 x.lL.Kids ∧ Sl (Pl lD) 9 μ v1 x.nn
theorem mV.out {μ : mF} {ys : List Value} {x : ny} (h : mV μ ys x) : ∃ (v0 : Value) (v1 : Value), ys = [.string x.lC.lI, .string x.lC.lM, .int .i64 x.lL.Op, .int .i64 x.lL.K, .string x.lL.lC.lI, .string x.lL.lC.lM, v0, v1] ∧ Sl lH 5 μ v0 x.lL.Kids ∧ Sl (Pl lD) 9 μ v1 x.nn := h
theorem mV.mk {μ : mF} {ys : List Value} {x : ny} (h : ∃ (v0 : Value) (v1 : Value), ys = [.string x.lC.lI, .string x.lC.lM, .int .i64 x.lL.Op, .int .i64 x.lL.K, .string x.lL.lC.lI, .string x.lL.lC.lM, v0, v1] ∧ Sl lH 5 μ v0 x.lL.Kids ∧ Sl (Pl lD) 9 μ v1 x.nn) : mV μ ys x := h
theorem nK : Deep mV 8 where
 mono := by rintro _ _ _ _ b ⟨v0, v1, rfl, a, h1⟩; exact ⟨v0, v1, rfl, a.mono mf.mono b, h1.mono (Pl.mono _) b⟩
 len := by rintro _ _ _ ⟨v0, v1, rfl, a, h1⟩; rfl
 one := by
  rintro _ _ _ ⟨v0, v1, rfl, a, h1⟩
  intro u hu; simp only [aS, dV, iM] at hu; rcases hu with rfl | rfl | rfl | rfl | rfl | rfl | rfl | rfl
  ·rfl
  ·rfl
  ·rfl
  ·rfl
  ·rfl
  ·rfl
  ·exact a.Dz
  ·exact h1.Dz
def Ez : su Key := fun μ ys x => ∃ (v0 : Value), ys = [.string x.mS, v0] ∧ Sl (Pl (nr .u8)) 1 μ v0 x.Key
theorem Ez.out {μ : mF} {ys : List Value} {x : Key} (h : Ez μ ys x) : ∃ (v0 : Value), ys = [.string x.mS, v0] ∧ Sl (Pl (nr .u8)) 1 μ v0 x.Key := h
theorem Ez.mk {μ : mF} {ys : List Value} {x : Key} (h : ∃ (v0 : Value), ys = [.string x.mS, v0] ∧ Sl (Pl (nr .u8)) 1 μ v0 x.Key) : Ez μ ys x := h
theorem GC : qN Tryz.prog 9 Value.string nq := qN.string bU
theorem yd : qN Tryz.prog 50 (fun (x : lC) => (.agg (lE x).toArray)) lZ :=
 qN.struct dD (fun d x y W => vg (d + 8) x y W) (fun b k W => wF dD rfl (cE.2 ⟨fun _ => ⟨.string k.lI, pO bZ rfl, pK bU _ _ _ _⟩, (cE.2 ⟨fun _ => ⟨.string k.lM, pO bZ rfl, pK bU _ _ _ _⟩, (fun _ h => by cases h)⟩)⟩))
  (fun k x h => (mi.1 h).symm) (fun k => by simp [Instr.sameBits, lE, Dm, nY])
theorem Jq : qN Tryz.prog 52 (fun (x : lB) => (.agg (lD x).toArray)) mC :=
 qN.struct dL (fun d x y W => wS (d + 7) x y W) (fun b k W => wF dL rfl (cE.2 ⟨fun _ => ⟨.int .i64 k.Kind, pO cP rfl, Lc eT _ _ _ _ _⟩, (cE.2 ⟨fun _ => ⟨.agg (lE k.Head).toArray, xD bB aH rfl, wF dD rfl (cE.2 ⟨fun _ => ⟨.string k.Head.lI, pO bZ rfl, pK bU _ _ _ _⟩, (cE.2 ⟨fun _ => ⟨.string k.Head.lM, pO bZ rfl, pK bU _ _ _ _⟩, (fun _ h => by cases h)⟩)⟩)⟩, (cE.2 ⟨fun _ => ⟨.string k.mS, pO bZ rfl, pK bU _ _ _ _⟩, (cE.2 ⟨fun _ => ⟨.agg (lE k.B).toArray, xD bB aH rfl, wF dD rfl (cE.2 ⟨fun _ => ⟨.string k.B.lI, pO bZ rfl, pK bU _ _ _ _⟩, (cE.2 ⟨fun _ => ⟨.string k.B.lM, pO bZ rfl, pK bU _ _ _ _⟩, (fun _ h => by cases h)⟩)⟩)⟩, (cE.2 ⟨fun _ => ⟨.agg (lE k.C).toArray, xD bB aH rfl, wF dD rfl (cE.2 ⟨fun _ => ⟨.string k.C.lI, pO bZ rfl, pK bU _ _ _ _⟩, (cE.2 ⟨fun _ => ⟨.string k.C.lM, pO bZ rfl, pK bU _ _ _ _⟩, (fun _ h => by cases h)⟩)⟩)⟩, (cE.2 ⟨fun _ => ⟨.string k.mK, pO bZ rfl, pK bU _ _ _ _⟩, (fun _ h => by cases h)⟩)⟩)⟩)⟩)⟩)⟩))
  (fun k x h => (nF.1 h).symm) (fun k => by simp [Instr.sameBits, lD, Dm, nY])
theorem TJ (w : World) (s : ByteArray) (c : Int) : (callFunc 242 [Value.string s, .int .u8 c].toArray).run Tryz.prog w = .ok (.value (.int .i64 (zg s c))) w := Jp func242 (by kernel_rfl) (by kernel_rfl) (by kernel_rfl) (by kernel_rfl) s c w
theorem Aj (a : ByteArray) (c r : Int) (w : World) (hm : qK a c = some r) :
  mw true Tryz.prog 185 [(.string a), (.int .u8 c)] w (.int .i64 r) := by
 exact cG 8 func185 rfl (fun b => sg (Wa (lr (Wm (Wm (VE (Oq (args := [(.string a), (.int .u8 c)]) (v := .int .i64 (zg a c)) rfl (by exact xM rfl rfl) (TJ _ a c) (Wa (lt (rQ hm b))))))))))
theorem A0 (a : ByteArray) (c r : Int) (w : World) (hm : uf a c = some r) :
  mw true Tryz.prog 121 [(.string a), (.int .u8 c)] w (.int .i64 r) := by
 refine cG 8 func121 rfl (fun b => sg (Wa (lr (Wm (Wm (bS hm fun j g hm => VE (Eg b call185 (Aj a c _ _  g) (fun i b => Wa (ln ?_)))))))))
 exact mB (rQ hm b)
theorem MQ (I : ByteArray) (r : Bool) (w : World) (hm : DN I = some r) :
  mw true Tryz.prog 122 [(.string I)] w (.bool r) := by
 refine cG 16 func122 rfl (fun b => sg (Wa (lS (Wm (bS hm fun H J hm => VE (Kt b bU cN jB rfl J (fun W3 N T b M n j Y => V (nh cN rfl j) (Wm (mD ?_)))))))))
 refine lU (mY (fun i E W => ∃ c, (E 8 = .int .i64 (i : Nat) ∧ E 7 = .int .i64 (H.length : Nat)) ∧ ST true mX w W T c ∧ E 6 = N ∧ xj (H.drop i) = some r) H.length j.len ⟨_, ⟨rfl, rfl⟩, (b.lG St), rfl, hm⟩ dc dc dc (fun _ _ _ h => by obtain ⟨_, l, _⟩ := h; exact l) ?_ ?_)
 ·rintro K E W u ⟨c, ⟨d, m⟩, b, g, a⟩
  obtain ⟨k, Q, D, B, G⟩ := mM u
  rw [D] at a
  refine bg (VQ (pg (enc := (nr .u8)) (i := (K : Int)) (x0 := k) cN sizeOf5 g d j (aG _) B) (fun Z x => V (lK rfl (pp b.has (y := (.int .u8 k)) x isAgg5)) (Wa (lr (Wm (bS a fun o z a => VE (Eg b call121 (A0 (⟨#[97, 98, 99, 100, 101, 102, 103, 104, 105, 106, 107, 108, 109, 110, 111, 112, 113, 114, 115, 116, 117, 118, 119, 120, 121, 122, 48, 49, 50, 51, 52, 53, 54, 55, 56, 57, 45]⟩ : ByteArray) k _ _  z) (fun U b => Wi rfl (mD ?_)))))))))
  refine lU (CI a rfl (fun t a => ?_) (fun t a => ?_))
  ·refine sg (Wa (lt (oh (mQ (oh (mQ ?_))))))
   obtain rfl := sj a
   exact rP b
  exact np (mL (lU ⟨d, _, ⟨rfl, m⟩, (b.lG St), g, (by rw [G]; exact a)⟩))
 rintro E W ⟨c, ⟨d, m⟩, b, g, a⟩
 rw [aK] at a
 exact lU (sg (Wa (lt (rQ a b))))
theorem th (z : ByteArray) (r : Bool) (w : World) (hm : qP z = some r) :
  mw true Tryz.prog 57 [(.string z)] w (.bool r) := by
 refine cG 21 func57 rfl (fun b => sg (Wa (lr (Wm (V (qJ bU rfl) (Wi rfl (Wm (LJ hm (fun K E W => ∃ Y, ST true mX w W (hp w) Y ∧ E 0 = (.string z) ∧ E 2 = (.bool false) ∧ E 10 = (.bool K)) 4 ?_ (fun K t y => ?_)))))))))
 ·rintro x2 E W ⟨Y, b, M, d, l⟩ a5
  refine Wh l (LJ a5 (fun J E W => ∃ D, ST true mX w W (hp w) D ∧ E 0 = (.string z) ∧ E 2 = (.bool false) ∧ E 16 = (.bool J)) 5 ?_ (fun J a x => ?_))
  ·rintro s E W ⟨D, b, h, H, a2⟩ N
   refine Wh a2 (LJ N (fun I E W => ∃ G, ST true mX w W (hp w) G ∧ E 2 = (.bool false) ∧ E 20 = (.bool I)) 3 ?_ (fun I j u => ?_))
   ·rintro v E W ⟨G, b, a9, a3⟩ Q
    exact Wg a3 (lt (rQ Q b))
   refine bC j (fun g j => ?_) (fun g j => ?_)
   ·refine ug g (lO h) (bS j fun o T j => uJ g (Eg b call122 (MQ z _ _  T) (fun m b => V (mo (cB g) rfl) ?_)))
    obtain rfl := sj j
    exact u _ _ ⟨_, (b.lG St), H, rfl⟩
   refine un g (un g (V (mq (cB g) rfl) ?_))
   obtain rfl := sj j
   exact u _ _ ⟨_, (b.lG St), H, rfl⟩
  refine bC a (fun c a => ?_) (fun c a => ?_)
  ·refine ug c (lO M) (bS a fun Z B a => ug c (OR (i := 0) bU rfl rfl (MM B) (QN B)) (bS a fun q U a => uJ c (Eg b call121 (A0 (⟨#[97, 98, 99, 100, 101, 102, 103, 104, 105, 106, 107, 108, 109, 110, 111, 112, 113, 114, 115, 116, 117, 118, 119, 120, 121, 122]⟩ : ByteArray) (Z.toNat : Int) _ _  U) (fun n b => ug c (mU rfl rfl rfl) (V (mo (cB c) rfl) ?_)))))
   obtain rfl := sj a
   exact x _ _ ⟨_, (b.lG St), M, d, rfl⟩
  refine un c (un c (un c (un c (V (mq (cB c) rfl) ?_))))
  obtain rfl := sj a
  exact x _ _ ⟨_, (b.lG St), M, d, rfl⟩
 refine bC t (fun k t => ?_) (fun k t => ?_)
 ·refine ug k (lO rfl) (ug k (qJ bU rfl) (ug k (mU rfl rfl rfl) (V (mo (cB k) rfl) ?_)))
  obtain rfl := sj t
  exact y _ _ ⟨_, (b.lG St), rfl, rfl, rfl⟩
 refine un k (un k (un k (V (mq (cB k) rfl) ?_)))
 obtain rfl := sj t
 exact y _ _ ⟨_, (b.lG St), rfl, rfl, rfl⟩
theorem zy (g : Value) (t : List ny) (j : Value) (z : ny → Option Bool) (r : Int) (w : World) (c : Sl mV 8 (hp w) g t) (B : yo Tryz.prog j (hp w) (Br mV) (fun (r : Bool) => (.bool r)) z) (hm : qV t z = some r) :
  mw false Tryz.prog 190 [g, j] w (.int .i64 r) := by
 refine cG 19 func190 rfl (fun b => sg (Wa (lS (Wm (V (nh cO rfl c) (Wm (ln (mY (fun i E W => ∃ k, (E 8 = .int .i64 (i : Nat) ∧ E 7 = .int .i64 (t.length : Nat)) ∧ ST false mX w W (hp w) k ∧ E 0 = g ∧ E 1 = j ∧ pQ z (t.drop i) i = some r) t.length c.len ⟨_, ⟨rfl, rfl⟩, (b.lG St), rfl, rfl, hm⟩ dc dc dc (fun _ _ _ h => by obtain ⟨_, l, _⟩ := h; exact l) ?_ ?_))))))))
 ·rintro T E W G ⟨k, ⟨d, m⟩, b, u, x, a⟩
  obtain ⟨y, Z, N, M, Q⟩ := mM G
  rw [N] at a
  refine bg (Wh d (Wa (lr (Wh x (Wh u (Wm (VQ (od (i := (T : Int)) (x0 := y) mV.out cO dP rfl rfl c (aG _) M) (fun a2 ⟨_, ⟨U, Y, rfl, J, K⟩, H⟩ => V (lK rfl (ms b.has H kG dP)) (bS a fun a3 I a => ?_)))))))))
  refine VE (zO y b B (mn.refl _) (Br.mk nK (mV.mk ⟨U, Y, rfl, J, K⟩) b.lJ) rfl (uC rfl) I (fun n b => ln (CI a rfl (fun D a => ?_) (fun D a => ?_))))
  ·refine sg (Wm (Wa (lt (oh (mQ (oh (mQ ?_)))))))
   obtain rfl := sj a
   exact rP b
  exact np (mL (lU ⟨d, _, ⟨rfl, m⟩, (b.lG St), u, x, (by rw [Q]; exact a)⟩))
 rintro E W ⟨k, ⟨d, m⟩, b, u, x, a⟩
 rw [aK] at a
 exact lU (sg (Wa (lt (rQ a b))))
theorem Cm (a : Value) (g : List ny) (c : Value) (i : ny → Option Bool) (r : Bool) (w : World) (j : Sl mV 8 (hp w) a g) (k : yo Tryz.prog c (hp w) (Br mV) (fun (r : Bool) => (.bool r)) i) (hm : sX g i = some r) :
  mw false Tryz.prog 199 [a, c] w (.bool r) := by
 refine cG 9 func199 rfl (fun b => sg (Wa (lr (Wm (Wm (bS hm fun x t hm => VE (Eg b call190 (zy a g c i _ _ (j.mono nK.mono b.lJ) (k.mono b.lJ) t) (fun u b => Wi rfl (Wa (mD ?_))))))))))
 exact lU (mB (rQ hm b))
theorem IH (c : ny) (a i : Value) (r : Bool) (w : World) (j : Sl lH 5 (hp w) a c.lL.Kids) (g : Sl (Pl lD) 9 (hp w) i c.nn) (hm : ym c = some r) :
  mw true Tryz.prog 200 [(.agg #[(.string c.lC.lI), (.string c.lC.lM), (.int .i64 c.lL.Op), (.int .i64 c.lL.K), (.string c.lL.lC.lI), (.string c.lL.lC.lM), a, i])] w (.bool r) := by
 refine cG 7 func200 rfl (fun b => sg ?_)
 obtain ⟨k, u, rfl⟩ := j.form
 obtain ⟨t, x, rfl⟩ := g.form
 refine VE (mI b rfl (fun y z b => Wa (lr (Wf EQ (VB b Mh rfl rfl eU (V (nh aJ rfl g) (Wi rfl (Wa (ln ?_)))))))))
 exact mB (rQ hm b)
theorem LG (u : lF) (k t : Value) (r : Bool) (w : World) (j : Sl mx 15 (hp w) k u.lX) (c : Sl mV 8 (hp w) t u.ml) (hm : AW u = some r) :
  mw false Tryz.prog 140 [(.agg #[(.string u.Name), k, t])] w (.bool r) := by
 refine cG 18 func140 rfl (fun b => sg ?_)
 obtain ⟨T, Z, rfl⟩ := j.form
 obtain ⟨J, K, rfl⟩ := c.form
 refine VE (mI b rfl (fun W6 Y b => Wa (lr (Wf AD (VB b Mh rfl rfl kH (V (nh dN rfl j) (Wi rfl (Wm (LJ hm (fun I E W => ∃ U, ST false mX w W (hp w) ((Y, Ol (C7 u.Name T u.lX.length Z J u.ml.length K) 25) :: U) ∧ E 1 = (.pointer (some ⟨Y, 0, none⟩)) ∧ E 2 = (.bool false) ∧ E 12 = (.bool I)) 5 ?_ (fun I y B => ?_))))))))))
 ·rintro x8 E W ⟨U, b, d, G, a2⟩ M
  refine Wh a2 (LJ M (fun H E W => ∃ D, ST false mX w W (hp w) D ∧ E 2 = (.bool false) ∧ E 17 = (.bool H)) 4 ?_ (fun H i z => ?_))
  ·rintro v E W ⟨D, b, s, a3⟩ N
   exact Wg a3 (lt (rQ N b))
  refine bC i (fun a i => ?_) (fun a i => ?_)
  ·refine un a (un a (un a (V (mo (cB a) rfl) ?_)))
   obtain rfl := sj i
   exact z _ _ ⟨_, (b.lG (Db St)), G, rfl⟩
  refine ug a (lN Es d) (ug a (lK rfl (ma b.has Mh rfl isAgg23)) (bS i fun a9 Q i => uJ a (Eg b call199 (Cm (.slice J u.ml.length K) u.ml (.func (.func 200) #[] #[]) (fun (x : ny) => ym x) _ _ (c.mono nK.mono b.lJ) ⟨200, #[], #[], rfl, call200, fun W x vs r A h hm => by obtain ⟨_, rfl, a4⟩ := h; obtain ⟨n, o, rfl, l, m⟩ := a4.out; exact (IH x n o r W l m hm).nz⟩ Q) (fun q b => V (mq (cB a) rfl) ?_))))
  obtain rfl := sj i
  exact z _ _ ⟨_, (b.lG (Db St)), G, rfl⟩
 refine bC y (fun g y => ?_) (fun g y => ?_)
 ·refine un g (un g (un g (un g (V (mo (cB g) rfl) ?_))))
  obtain rfl := sj y
  exact B _ _ ⟨_, (b.lG St), rfl, rfl, rfl⟩
 refine ug g (lN Es rfl) (ug g (lK rfl (ma b.has Mh rfl isAgg23)) (ug g (nh cO rfl c) (ug g (mU rfl rfl rfl) (V (mq (cB g) rfl) ?_))))
 obtain rfl := sj y
 exact B _ _ ⟨_, (b.lG St), rfl, rfl, rfl⟩
theorem FH (T : Formula → Int → Option (Int × Int)) (n : ∀ (t : Formula) (j : Value) (I : Int) (r : (Int × Int)) (w : World) (g : Sl lH 5 (hp w) j t.Kids), T t I = some r → mw false Tryz.prog 192 [(.agg #[(.int .i64 t.Op), (.int .i64 t.K), (.string t.lC.lI), (.string t.lC.lM), j]), (.int .i64 I)] w (.tuple #[(.int .i64 r.1), (.int .i64 r.2)])) (t : Formula) (j : Value) (I : Int) (r : (Int × Int)) (w : World) (g : Sl lH 5 (hp w) j t.Kids) (hm : xz T t I = some r) :
  mw false Tryz.prog 192 [(.agg #[(.int .i64 t.Op), (.int .i64 t.K), (.string t.lC.lI), (.string t.lC.lM), j]), (.int .i64 I)] w (.tuple #[(.int .i64 r.1), (.int .i64 r.2)]) := by
 refine cG 40 func192 rfl (fun b => sg ?_)
 obtain ⟨A1, c2, rfl⟩ := g.form
 refine VE (mI b rfl (fun W4 P b => Wa (Wa (lr (Wa (Wa (lS (Wf uO ?_))))))))
 refine VB b Mh rfl rfl gP (V (nh aF rfl g) (Wm (ln ?_)))
 replace b := b.lG (Db St)
 refine CJ hm (fun Q E W => ∃ a2, ST false mX w W (hp w) a2 ∧ E 6 = (.int .i64 Q.1) ∧ E 7 = (.int .i64 Q.2)) (fun Q a5 => ?_) ?_
 ·refine mY (fun i E W => ∃ y z J, (E 15 = .int .i64 (i : Nat) ∧ E 14 = .int .i64 (t.Kids.length : Nat)) ∧ ST false mX w W (hp w) J ∧ E 1 = (.int .i64 I) ∧ E 6 = (.int .i64 y) ∧ E 7 = (.int .i64 z) ∧ E 13 = (.slice A1 t.Kids.length c2) ∧ rC I T (t.Kids.drop i) y z = some Q) t.Kids.length g.len ⟨1, 0, _, ⟨rfl, rfl⟩, (b.lG St), rfl, rfl, rfl, rfl, a5⟩ dc dc dc (fun _ _ _ h => by obtain ⟨_, _, _, l, _⟩ := h; exact l) ?_ ?_
  ·rintro F E W a3 ⟨y, z, J, ⟨d, m⟩, b, G, x, H, K, a⟩
   obtain ⟨c, c6, q, o, a9⟩ := mM a3
   rw [q] at a
   refine bg (VQ (od (i := (F : Int)) (x0 := c) lH.out aF aD K d g (aG _) o) (fun c4 ⟨_, ⟨c5, rfl, N⟩, Y⟩ => V (lK rfl (ms b.has Y aZ aD)) (VE (mz b bI (fun R c3 b => ?_)))))
   obtain ⟨B, D, rfl⟩ := N.form
   let a0 := (C1 c.Op c.K c.lC.lI c.lC.lM B c.Kids.length D)
   refine VO (mh (.agg a0.toArray) (a0.toArray) b rfl rfl aD oc nb rfl (fun c0 b => lS (Wh x (Wh G (Wi rfl (ln (CI a rfl (fun U a => ?_) (fun U a => ?_))))))))
   ·refine pc (oQ (Um (by simp) (oQ (tX (lU ?_)))))
    obtain rfl := sj a
    exact ⟨_, (b.lG (Db St)), x, H⟩
   refine kg (VA b Mh a0 aZ aD (Wh G (Wh x (Wi rfl (bS a fun M Z a => VE (Eg b call192 (n c (.slice B c.Kids.length D) (IntKind.i64.wrap (I - y)) _ _ (N.mono mf.mono b.lJ) Z) (fun c1 b => Wm (Wx rfl (Wx rfl (Wa (Wa ?_)))))))))))
   refine ln ?_
   replace b := b.lG (Db St)
   exact mc (Wh x (Wm (Wi rfl (Wh H (Wm (V (Ug (k := .i64) rfl rfl) (Wa (Wa (mD (mL (lU ⟨d, (IntKind.i64.wrap (y + M.1)), (if M.2 > z then M.2 else z), _, ⟨rfl, m⟩, (b.lG St), G, rfl, rfl, K, (by rw [a9]; exact a)⟩)))))))))))
  rintro E W ⟨y, z, J, ⟨d, m⟩, b, G, x, H, K, a⟩
  rw [aK] at a
  refine lU ?_
  obtain rfl := sj a
  exact ⟨_, (b.lG St), x, H⟩
 rintro ⟨L, O⟩ E W ⟨a2, b, s, A⟩ a4
 refine sg (Wh s (Wh A (Wi rfl (Wa (Wa (lt ?_))))))
 obtain rfl := sj a4
 exact Gh (v := (.int .i64 L)) (u := (.int .i64 (IntKind.i64.wrap (O + 1)))) rfl rfl rfl ⟨rfl, b.ex⟩
theorem Dn : ∀ (n : Nat) (c : Formula) (a : Value) (i : Int) (r : (Int × Int)) (w : World) (g : Sl lH 5 (hp w) a c.Kids) (_ : qj n c i = some r),
  mw false Tryz.prog 192 [(.agg #[(.int .i64 c.Op), (.int .i64 c.K), (.string c.lC.lI), (.string c.lC.lM), a]), (.int .i64 i)] w (.tuple #[(.int .i64 r.1), (.int .i64 r.2)])
 | 0 => by intros; rename_i h; simp only [qj] at h; cases h
 | n + 1 => FH (qj n) (Dn n)
theorem JD (a : Formula) (g : Value) (r : (Int × Int)) (w : World) (c : Sl lH 5 (hp w) g a.Kids) (hm : yX a = some r) :
  mw false Tryz.prog 134 [(.agg #[(.int .i64 a.Op), (.int .i64 a.K), (.string a.lC.lI), (.string a.lC.lM), g])] w (.tuple #[(.int .i64 r.1), (.int .i64 r.2)]) := by
 refine cG 15 func134 rfl (fun b => sg ?_)
 obtain ⟨i, j, rfl⟩ := c.form
 refine VE (mI b rfl (fun y B b => Wa (Wa (lr (VA b Mh (C1 a.Op a.K a.lC.lI a.lC.lM i a.Kids.length j) aZ aD (bS hm fun x t hm => VE (Eg b call192 ((Dn mR) a (.slice i a.Kids.length j) 4096 _ _ (c.mono mf.mono b.lJ) t) (fun z b => Wm (Wx rfl (Wx rfl (Wa (Wa ?_))))))))))))
 refine ln ?_
 replace b := b.lG (Db St)
 refine me (sg (Wm (Wi rfl (ln (CI hm rfl (fun k hm => ?_) (fun k hm => ?_))))))
 ·refine sg (Wa (Wa (lt (mQ ?_))))
  obtain rfl := sj hm
  exact Gh (v := (.int .i64 0)) (u := (.int .i64 0)) rfl rfl rfl ⟨rfl, b.ex⟩
 refine kg (Wm (Wm (Wa (Wa (lt ?_)))))
 obtain rfl := sj hm
 exact Gh (v := (.int .i64 x.1)) (u := (.int .i64 x.2)) rfl rfl rfl ⟨rfl, b.ex⟩
theorem tL (i : lC) (r : Bool) (w : World) (hm : qQ i = some r) :
  mw true Tryz.prog 153 [(.agg (lE i).toArray)] w (.bool r) := by
 refine cG 11 func153 rfl (fun b => sg (VE (mI b rfl (fun H J b => Wa (lr (Wf xe (VB b Mh rfl rfl bZ (bS hm fun K y hm => VE (Eg b lq (th i.lI _ _  y) (fun I b => Wm (LJ hm (fun k E W => ∃ j, ST true mX w W (hp w) j ∧ E 2 = (.bool false) ∧ E 10 = (.bool k)) 4 ?_ (fun k a g => ?_))))))))))))
 ·rintro G E W ⟨j, b, B, x⟩ t
  exact Wg x (lt (rQ t b))
 refine bC a (fun c a => ?_) (fun c a => ?_)
 ·refine ug c (lN xQ rfl) (ug c (lK rfl (ma b.has Mh rfl bZ)) (bS a fun D u a => uJ c (Eg b lq (th i.lM _ _  u) (fun z b => V (mo (cB c) rfl) ?_))))
  obtain rfl := sj a
  exact g _ _ ⟨_, (b.lG (Db St)), rfl, rfl⟩
 refine un c (un c (un c (V (mq (cB c) rfl) ?_)))
 obtain rfl := sj a
 exact g _ _ ⟨_, (b.lG (Db St)), rfl, rfl⟩
theorem Jw (a : Formula) (H : Value) (r : Bool) (w : World) (t : Sl lH 5 (hp w) H a.Kids) (hm : yW a = some r) :
  mw true Tryz.prog 193 [(.agg #[(.int .i64 a.Op), (.int .i64 a.K), (.string a.lC.lI), (.string a.lC.lM), H])] w (.bool r) := by
 refine cG 63 func193 rfl (fun b => sg ?_)
 obtain ⟨A1, c2, rfl⟩ := t.form
 let l := (C1 a.Op a.K a.lC.lI a.lC.lM A1 a.Kids.length c2)
 refine VE (mI b rfl (fun W4 N b => Wa (lr (V (nZ (v := (.agg (lE K0).toArray)) sL (nB dF dD (Oh _ dD) kr)) (VE (mz b dF (fun W6 A b => VO (mh (.agg (lE K0).toArray) ((lE K0).toArray) b rfl rfl aH (px K0) nb rfl (fun W7 b => lS (Wf vT ?_))))))))))
 refine VB b (Mt Mh) rfl rfl cP (ln (bg (Wi rfl (Wa (ln (CI hm rfl (fun d9 hm => ?_) (fun d9 hm => ?_)))))))
 ·refine sg (Wf xW (VA b (Mt Mh) (lE a.lC) bB aH (bS hm fun f7 e5 hm => VE (Eg b kI (tL a.lC _ _  e5) (fun f5 b => Wm (LJ hm (fun d2 E W => ∃ O, ST true mX w W (hp w) ((N, Ol l 58) :: O) ∧ E 1 = (.pointer (some ⟨N, 0, none⟩)) ∧ E 2 = (.bool false) ∧ E 17 = (.bool d2)) 5 ?_ (fun d2 J a4 => ?_)))))))
  ·rintro f8 E W ⟨O, b, e7, c9, e8⟩ e1
   refine Wh e8 (LJ e1 (fun d1 E W => ∃ P, ST true mX w W (hp w) P ∧ E 2 = (.bool false) ∧ E 22 = (.bool d1)) 4 ?_ (fun d1 I a3 => ?_))
   ·rintro f9 E W ⟨P, b, f6, e9⟩ e2
    refine Wg e9 (lt (oh (mQ ?_)))
    obtain rfl := sj e2
    exact rP b
   refine bC I (fun u I => ?_) (fun u I => ?_)
   ·refine ug u (lN AO e7) (ug u (lK rfl (ma b.has Mh rfl cP)) (ug u (mU rfl rfl rfl) (V (mo (cB u) rfl) ?_)))
    obtain rfl := sj I
    exact a3 _ _ ⟨_, (b.lG (Db St)), c9, rfl⟩
   refine un u (un u (un u (V (mq (cB u) rfl) ?_)))
   obtain rfl := sj I
   exact a3 _ _ ⟨_, (b.lG (Db St)), c9, rfl⟩
  refine bC J (fun j J => ?_) (fun j J => ?_)
  ·refine ug j (lN uO rfl) (ug j (lK rfl (ma b.has (Mt Mh) rfl gP)) (ug j (nh aF rfl t) (ug j (mU rfl rfl rfl) (V (mo (cB j) rfl) ?_))))
   obtain rfl := sj J
   exact a4 _ _ ⟨_, (b.lG (Db St)), rfl, rfl, rfl⟩
  refine un j (un j (un j (un j (V (mq (cB j) rfl) ?_))))
  obtain rfl := sj J
  exact a4 _ _ ⟨_, (b.lG (Db St)), rfl, rfl, rfl⟩
 let a0 := (l.toArray : Array Value)
 let d : Value := (.pointer (some ⟨N, 0, none⟩))
 refine me (CJ hm (fun L E W => ∃ R, ST true mX w W (hp w) ((A, Ol (lE K0) 50) :: ((N, Obj.cells a0 58 (0, 0)) :: R)) ∧ E 1 = d ∧ E 3 = (.pointer (some ⟨A, 0, none⟩)) ∧ E 23 = (.bool L)) (fun L G => ?_) ?_)
 ·refine sg (Wi rfl (Wa (ln (CI G rfl (fun b9 G => ?_) (fun b9 G => ?_)))))
  ·refine kn ?_
   obtain rfl := sj G
   exact ⟨_, (b.lG St), rfl, rfl, rfl⟩
  refine mc (Wi rfl (Wa (ln ?_)))
  obtain rfl := sj G
  exact ⟨_, (b.lG St), rfl, rfl, rfl⟩
 rintro g0 E W ⟨R, b, Q, d0, f0⟩ K
 refine CI K f0 (fun e0 K => ?_) (fun e0 K => ?_)
 ·refine sg (V (lN xW Q) (VA b (Mt Mh) (lE a.lC) bB aH (V (lK d0 (lP b.has Mh (lE K0) rfl bB aH)) (V (yU rfl rfl (qt gK) (vL (vg _ a.lC K0))) (Wm (LJ K (fun d3 E W => ∃ c7, ST true mX w W (hp w) c7 ∧ E 34 = (.bool d3)) 4 ?_ (fun d3 M a5 => ?_)))))))
  ·rintro g1 E W ⟨c7, b, f1⟩ e3
   refine Wg f1 (lt (oh (mQ ?_)))
   obtain rfl := sj e3
   exact rP b
  refine bC M (fun x M => ?_) (fun x M => ?_)
  ·refine ug x (lN AO Q) (ug x (lK rfl (ma b.has (Mt Mh) rfl cP)) (ug x (mU rfl rfl rfl) (V (mo (cB x) rfl) ?_)))
   obtain rfl := sj M
   exact a5 _ _ ⟨_, (b.lG (Db (Db St))), rfl⟩
  refine un x (un x (un x (V (mq (cB x) rfl) ?_)))
  obtain rfl := sj M
  exact a5 _ _ ⟨_, (b.lG (Db (Db St))), rfl⟩
 refine np (mL (lU (sg (V (lN vT Q) (VB b (Mt Mh) rfl rfl cP (Wi rfl (Wm (LJ K (fun F E W => ∃ c8, ST true mX w W (hp w) ((N, Obj.cells a0 58 (0, 0)) :: c8) ∧ E 1 = d ∧ E 43 = (.bool F)) 5 ?_ (fun F D h => ?_)))))))))
 ·rintro g2 E W ⟨c8, b, a2, d4⟩ e4
  refine Wh d4 (LJ e4 (fun s E W => ∃ m, ST true mX w W (hp w) ((N, Obj.cells a0 58 (0, 0)) :: m) ∧ E 1 = d ∧ E 48 = (.bool s)) 4 ?_ (fun s B Z => ?_))
  ·rintro f2 E W ⟨m, b, T, d5⟩ c0
   refine Wh d5 (LJ c0 (fun q E W => ∃ a9, ST true mX w W (hp w) ((N, Obj.cells a0 58 (0, 0)) :: a9) ∧ E 1 = d ∧ E 56 = (.bool q)) 7 ?_ (fun q z Y => ?_))
   ·rintro f3 E W ⟨a9, b, d6, d7⟩ c1
    refine Wh d7 (LJ c1 (fun o E W => ∃ n, ST true mX w W (hp w) n ∧ E 62 = (.bool o)) 5 ?_ (fun o y U => ?_))
    ·rintro f4 E W ⟨n, b, d8⟩ c3
     exact Wg d8 (lt (rQ c3 b))
    refine bC y (fun g y => ?_) (fun g y => ?_)
    ·refine ug g (lN uO d6) (ug g (lK rfl (ma b.has Mh rfl gP)) (ug g (nh aF rfl t) (ug g (mU rfl rfl rfl) (V (mo (cB g) rfl) ?_))))
     obtain rfl := sj y
     exact U _ _ ⟨_, (b.lG (Db St)), rfl⟩
    refine un g (un g (un g (un g (V (mq (cB g) rfl) ?_))))
    obtain rfl := sj y
    exact U _ _ ⟨_, (b.lG (Db St)), rfl⟩
   refine bC z (fun c z => ?_) (fun c z => ?_)
   ·refine ug c (lN AO T) (ug c (lK rfl (ma b.has Mh rfl cP)) (ug c (lN uO T) (ug c (lK rfl (ma b.has Mh rfl gP)) (ug c (nh aF rfl t) (ug c (mU rfl rfl rfl) (V (mo (cB c) rfl) ?_))))))
    obtain rfl := sj z
    exact Y _ _ ⟨_, (b.lG St), T, rfl⟩
   refine un c (un c (un c (un c (un c (un c (V (mq (cB c) rfl) ?_))))))
   obtain rfl := sj z
   exact Y _ _ ⟨_, (b.lG St), T, rfl⟩
  refine bC B (fun i B => ?_) (fun i B => ?_)
  ·refine ug i (lN AO a2) (ug i (lK rfl (ma b.has Mh rfl cP)) (ug i (mU rfl rfl rfl) (V (mo (cB i) rfl) ?_)))
   obtain rfl := sj B
   exact Z _ _ ⟨_, (b.lG St), a2, rfl⟩
  refine un i (un i (un i (V (mq (cB i) rfl) ?_)))
  obtain rfl := sj B
  exact Z _ _ ⟨_, (b.lG St), a2, rfl⟩
 refine bC D (fun k D => ?_) (fun k D => ?_)
 ·refine ug k (lN xW Q) (ug k (lK rfl (lP b.has (Mt Mh) (lE a.lC) rfl bB aH)) (ug k (lK d0 (lP b.has Mh (lE K0) rfl bB aH)) (ug k (yU rfl rfl (qt gK) (vL (vg _ a.lC K0))) (V (mo (cB k) rfl) ?_))))
  obtain rfl := sj D
  exact h _ _ ⟨_, (b.lG (Db St)), Q, rfl⟩
 refine un k (un k (un k (un k (V (mq (cB k) rfl) ?_))))
 obtain rfl := sj D
 exact h _ _ ⟨_, (b.lG (Db St)), Q, rfl⟩
theorem B0 (g : Value) (t : List Formula) (j : Value) (z : Formula → Option Bool) (r : Int) (w : World) (c : Sl lH 5 (hp w) g t) (B : yo Tryz.prog j (hp w) (Br lH) (fun (r : Bool) => (.bool r)) z) (hm : vk t z = some r) :
  mw false Tryz.prog 249 [g, j] w (.int .i64 r) := by
 refine cG 19 func249 rfl (fun b => sg (Wa (lS (Wm (V (nh aF rfl c) (Wm (ln (mY (fun i E W => ∃ k, (E 8 = .int .i64 (i : Nat) ∧ E 7 = .int .i64 (t.length : Nat)) ∧ ST false mX w W (hp w) k ∧ E 0 = g ∧ E 1 = j ∧ pe z (t.drop i) i = some r) t.length c.len ⟨_, ⟨rfl, rfl⟩, (b.lG St), rfl, rfl, hm⟩ dc dc dc (fun _ _ _ h => by obtain ⟨_, l, _⟩ := h; exact l) ?_ ?_))))))))
 ·rintro Q E W G ⟨k, ⟨d, m⟩, b, u, x, a⟩
  obtain ⟨y, U, M, K, N⟩ := mM G
  rw [M] at a
  refine bg (Wh d (Wa (lr (Wh x (Wh u (Wm (VQ (od (i := (Q : Int)) (x0 := y) lH.out aF aD rfl rfl c (aG _) K) (fun Z ⟨_, ⟨T, rfl, J⟩, H⟩ => V (lK rfl (ms b.has H aZ aD)) (bS a fun n I a => ?_)))))))))
  refine VE (zO y b B (mn.refl _) (Br.mk mf (lH.mk ⟨T, rfl, J⟩) b.lJ) rfl (uC rfl) I (fun Y b => ln (CI a rfl (fun D a => ?_) (fun D a => ?_))))
  ·refine sg (Wm (Wa (lt (oh (mQ (oh (mQ ?_)))))))
   obtain rfl := sj a
   exact rP b
  exact np (mL (lU ⟨d, _, ⟨rfl, m⟩, (b.lG St), u, x, (by rw [N]; exact a)⟩))
 rintro E W ⟨k, ⟨d, m⟩, b, u, x, a⟩
 rw [aK] at a
 exact lU (sg (Wa (lt (rQ a b))))
theorem wV (a : Value) (g : List Formula) (c : Value) (i : Formula → Option Bool) (r : Bool) (w : World) (j : Sl lH 5 (hp w) a g) (k : yo Tryz.prog c (hp w) (Br lH) (fun (r : Bool) => (.bool r)) i) (hm : pT g i = some r) :
  mw false Tryz.prog 194 [a, c] w (.bool r) := by
 refine cG 9 func194 rfl (fun b => sg (Wa (lr (Wm (Wm (bS hm fun x t hm => VE (Eg b call249 (B0 a g c i _ _ (j.mono mf.mono b.lJ) (k.mono b.lJ) t) (fun u b => Wi rfl (Wa (mD ?_))))))))))
 exact lU (mB (rQ hm b))
theorem Gk (i : Formula → Option Bool) (t : ∀ (c : Formula) (a : Value) (r : Bool) (w : World) (g : Sl lH 5 (hp w) a c.Kids), i c = some r → mw false Tryz.prog 135 [(.agg #[(.int .i64 c.Op), (.int .i64 c.K), (.string c.lC.lI), (.string c.lC.lM), a])] w (.bool r)) (c : Formula) (a : Value) (r : Bool) (w : World) (g : Sl lH 5 (hp w) a c.Kids) (hm : wz i c = some r) :
  mw false Tryz.prog 195 [(.agg #[(.int .i64 c.Op), (.int .i64 c.K), (.string c.lC.lI), (.string c.lC.lM), a])] w (.bool r) := by
 refine cG 6 func195 rfl (fun b => sg ?_)
 obtain ⟨j, k, rfl⟩ := g.form
 refine VE (mI b rfl (fun x z b => Wa (lr (VA b Mh (C1 c.Op c.K c.lC.lI c.lC.lM j c.Kids.length k) aZ aD (bS hm fun B u hm => VE (Eg b call135 (t c (.slice j c.Kids.length k) _ _ (g.mono mf.mono b.lJ) u) (fun y b => V (oH rfl) (Wa (ln ?_)))))))))
 exact mB (rQ hm b)
theorem E7 (z : Formula → Option Bool) (T : ∀ (a : Formula) (g : Value) (r : Bool) (w : World) (c : Sl lH 5 (hp w) g a.Kids), z a = some r → mw false Tryz.prog 135 [(.agg #[(.int .i64 a.Op), (.int .i64 a.K), (.string a.lC.lI), (.string a.lC.lM), g])] w (.bool r)) (a : Formula) (g : Value) (r : Bool) (w : World) (c : Sl lH 5 (hp w) g a.Kids) (hm : xE z a = some r) :
  mw false Tryz.prog 135 [(.agg #[(.int .i64 a.Op), (.int .i64 a.K), (.string a.lC.lI), (.string a.lC.lM), g])] w (.bool r) := by
 refine cG 17 func135 rfl (fun b => sg ?_)
 obtain ⟨B, D, rfl⟩ := c.form
 let a0 := (C1 a.Op a.K a.lC.lI a.lC.lM B a.Kids.length D)
 refine VE (mI b rfl (fun W4 U b => Wa (lr (VA b Mh a0 aZ aD (bS hm fun v a3 hm => VE (Eg b call193 (mw.nz (Jw a (.slice B a.Kids.length D) _ _ (c.mono mf.mono b.lJ) a3)) (fun W7 b => Wm (LJ hm (fun K E W => ∃ G, ST false mX w W (hp w) ((U, Ol a0 58) :: G) ∧ E 1 = (.pointer (some ⟨U, 0, none⟩)) ∧ E 2 = (.bool false) ∧ E 10 = (.bool K)) 5 ?_ (fun K t y => ?_)))))))))
 ·rintro A E W ⟨G, b, Y, I, Z⟩ M
  refine Wh Z (LJ M (fun J E W => ∃ H, ST false mX w W (hp w) H ∧ E 2 = (.bool false) ∧ E 16 = (.bool J)) 5 ?_ (fun J k u => ?_))
  ·rintro q E W ⟨H, b, n, d⟩ N
   exact Wg d (lt (rQ N b))
  refine bC k (fun i k => ?_) (fun i k => ?_)
  ·refine ug i (lN uO Y) (ug i (lK rfl (ma b.has Mh rfl gP)) (bS k fun o Q k => uJ i (Eg b call194 (wV (.slice B a.Kids.length D) a.Kids (.func (.func 195) #[] #[]) (fun (x : Formula) => wz z x) _ _ (c.mono mf.mono b.lJ) ⟨195, #[], #[], rfl, call195, fun W x vs r s h hm => by obtain ⟨_, rfl, a2⟩ := h; obtain ⟨m, rfl, l⟩ := a2.out; exact Gk z T x m r W l hm⟩ Q) (fun a5 b => ug i (oH rfl) (V (mo (cB i) rfl) ?_)))))
   obtain rfl := sj k
   exact u _ _ ⟨_, (b.lG (Db St)), I, rfl⟩
  refine un i (un i (un i (un i (V (mq (cB i) rfl) ?_))))
  obtain rfl := sj k
  exact u _ _ ⟨_, (b.lG (Db St)), I, rfl⟩
 refine bC t (fun j t => ?_) (fun j t => ?_)
 ·refine ug j (lN uO rfl) (ug j (lK rfl (ma b.has Mh rfl gP)) (ug j (nh aF rfl c) (ug j (mU rfl rfl rfl) (V (mo (cB j) rfl) ?_))))
  obtain rfl := sj t
  exact y _ _ ⟨_, (b.lG St), rfl, rfl, rfl⟩
 refine un j (un j (un j (un j (V (mq (cB j) rfl) ?_))))
 obtain rfl := sj t
 exact y _ _ ⟨_, (b.lG St), rfl, rfl, rfl⟩
theorem DC : ∀ (n : Nat) (c : Formula) (a : Value) (r : Bool) (w : World) (g : Sl lH 5 (hp w) a c.Kids) (_ : tM n c = some r),
  mw false Tryz.prog 135 [(.agg #[(.int .i64 c.Op), (.int .i64 c.K), (.string c.lC.lI), (.string c.lC.lM), a])] w (.bool r)
 | 0 => by intros; rename_i h; simp only [tM] at h; cases h
 | n + 1 => E7 (tM n) (DC n)
theorem uT (a : Formula) (k : Value) (r : Bool) (w : World) (c : Sl lH 5 (hp w) k a.Kids) (hm : rb a = some r) :
  mw false Tryz.prog 72 [(.agg #[(.int .i64 a.Op), (.int .i64 a.K), (.string a.lC.lI), (.string a.lC.lM), k])] w (.bool r) := by
 refine cG 24 func72 rfl (fun b => sg ?_)
 obtain ⟨y, z, rfl⟩ := c.form
 let a0 := (C1 a.Op a.K a.lC.lI a.lC.lM y a.Kids.length z)
 refine VE (mI b rfl (fun W4 H b => Wa (lr (VA b Mh a0 aZ aD (bS hm fun n a9 hm => VE (Eg b call134 (JD a (.slice y a.Kids.length z) _ _ (c.mono mf.mono b.lJ) a9) (fun W7 b => Wm (Wx rfl (Wx rfl (Wa (Wa (mD ?_))))))))))))
 refine lU (sg (Wm (Wi rfl (Wm (LJ hm (fun Y E W => ∃ I, ST false mX w W (hp w) ((H, Ol a0 58) :: I) ∧ E 1 = (.pointer (some ⟨H, 0, none⟩)) ∧ E 2 = (.bool false) ∧ E 4 = (.int .i64 n.2) ∧ E 15 = (.bool Y)) 3 ?_ (fun Y x G => ?_))))))
 ·rintro F E W ⟨I, b, M, N, a4, a5⟩ Z
  refine Wh a5 (LJ Z (fun U E W => ∃ J, ST false mX w W (hp w) ((H, Ol a0 58) :: J) ∧ E 1 = (.pointer (some ⟨H, 0, none⟩)) ∧ E 2 = (.bool false) ∧ E 19 = (.bool U)) 3 ?_ (fun U u D => ?_))
  ·rintro v E W ⟨J, b, h, Q, l⟩ d
   refine Wh l (LJ d (fun T E W => ∃ K, ST false mX w W (hp w) K ∧ E 2 = (.bool false) ∧ E 23 = (.bool T)) 3 ?_ (fun T j B => ?_))
   ·rintro A E W ⟨K, b, q, m⟩ a2
    exact Wg m (lt (rQ a2 b))
   refine bC j (fun i j => ?_) (fun i j => ?_)
   ·refine ug i (lK h (lP b.has Mh a0 rfl aZ aD)) (bS j fun s a3 j => uJ i (Eg b call135 ((DC mR) a (.slice y a.Kids.length z) _ _ (c.mono mf.mono b.lJ) a3) (fun o b => V (mo (cB i) rfl) ?_)))
    obtain rfl := sj j
    exact B _ _ ⟨_, (b.lG (Db St)), Q, rfl⟩
   refine un i (un i (V (mq (cB i) rfl) ?_))
   obtain rfl := sj j
   exact B _ _ ⟨_, (b.lG (Db St)), Q, rfl⟩
  refine bC u (fun g u => ?_) (fun g u => ?_)
  ·refine ug g (lO a4) (ug g (mU rfl rfl rfl) (V (mo (cB g) rfl) ?_))
   obtain rfl := sj u
   exact D _ _ ⟨_, (b.lG St), M, N, rfl⟩
  refine un g (un g (V (mq (cB g) rfl) ?_))
  obtain rfl := sj u
  exact D _ _ ⟨_, (b.lG St), M, N, rfl⟩
 refine bC x (fun t x => ?_) (fun t x => ?_)
 ·refine ug t (lO rfl) (ug t (mU rfl rfl rfl) (V (mo (cB t) rfl) ?_))
  obtain rfl := sj x
  exact G _ _ ⟨_, (b.lG St), rfl, rfl, rfl, rfl⟩
 refine un t (un t (V (mq (cB t) rfl) ?_))
 obtain rfl := sj x
 exact G _ _ ⟨_, (b.lG St), rfl, rfl, rfl, rfl⟩
theorem A4 (g : Value) (i r : List lB) (w : World) (a : Sl (Pl lD) 9 (hp w) g i) (hm : rX i = some r) :
  nC true Tryz.prog 61 [g] w 52 lD 9 r := by
 unfold rX at hm
 refine vV 8 func61 rfl (fun b => sg (Wa (lS (Wm ?_))))
 obtain ⟨y, B, rfl⟩ := a.form
 refine V (Ap aJ rfl rfl) (ln ?_)
 rcases y with _ | z
 ·have u := a.isNil
  replace hm : some [] = some r := by rw [u] at hm; simpa [oI, maxLen] using hm
  refine vr (rfl) (sg (Wa (lt (mQ ?_))))
  obtain rfl := sj hm
  exact ng (v := (.slice none 0 0)) rfl rfl ⟨_, [], rfl, b.oA (fun p d => by cases d) (by simp), my.nil _ _ _⟩
 ·refine qi (rfl) (kg (VE (mN (cs := #[]) b sL (Au [] aJ aI cM dc rfl (by simp) rfl rfl) (fun G k b => Wm (bS hm fun H t hm => VE (pf (enc := lD) (v := (.slice (some ⟨k, 0, none⟩) 0 0)) (vs := (.slice (some z) i.length B)) (R := [(k, Ob #[] 52)]) b nj dc pb aJ oG.1 oG.2.1 rfl oG.2.2.1 oG.2.2.2 rfl rfl (my.lit (l := []) (enc := lD) rfl dc rfl rfl) (a.mono (Pl.mono _) b.lJ) t (fun D x j b c => Wa (lt ?_))))))))
  obtain rfl := sj hm
  exact ng (v := x) rfl rfl ⟨_, j, rfl, b.oA (fun p d => (Ml d)) c.nd, c⟩
theorem zj (g : Value) (t : List lB) (j : Value) (B : lB → Option Bool) (r : Int) (w : World) (c : Sl (Pl lD) 9 (hp w) g t) (D : zn Tryz.prog j (hp w) (fun (x : lB) => [(.agg (lD x).toArray)]) (fun (r : Bool) => (.bool r)) B) (hm : rM t B = some r) :
  mw false Tryz.prog 145 [g, j] w (.int .i64 r) := by
 refine cG 19 func145 rfl (fun b => sg (Wa (lS (Wm (V (nh aJ rfl c) (Wm (ln (mY (fun i E W => ∃ k, (E 8 = .int .i64 (i : Nat) ∧ E 7 = .int .i64 (t.length : Nat)) ∧ ST false mX w W (hp w) k ∧ E 0 = g ∧ E 1 = j ∧ qM B (t.drop i) i = some r) t.length c.len ⟨_, ⟨rfl, rfl⟩, (b.lG St), rfl, rfl, hm⟩ dc dc dc (fun _ _ _ h => by obtain ⟨_, l, _⟩ := h; exact l) ?_ ?_))))))))
 ·rintro Q E W H ⟨k, ⟨d, m⟩, b, u, y, a⟩
  obtain ⟨z, T, M, K, N⟩ := mM H
  rw [M] at a
  refine bg (Wh d (Wa (lr (Wh y (Wh u (Wm (VQ (pg (enc := lD) (i := (Q : Int)) (x0 := z) aJ aI rfl rfl c (aG _) K) (fun Y I => V (lK rfl (ms b.has I bH aI)) (bS a fun Z J a => ?_)))))))))
  refine VE (Mq z b D (mn.refl _) rfl (uC rfl) J (fun U b => ln (CI a rfl (fun G a => ?_) (fun G a => ?_))))
  ·refine sg (Wm (Wa (lt (oh (mQ (oh (mQ ?_)))))))
   obtain rfl := sj a
   exact rP b
  exact np (mL (lU ⟨d, _, ⟨rfl, m⟩, (b.lG St), u, y, (by rw [N]; exact a)⟩))
 rintro E W ⟨k, ⟨d, m⟩, b, u, y, a⟩
 rw [aK] at a
 exact lU (sg (Wa (lt (rQ a b))))
theorem tO (j : Value) (a0 : List lB) (t : LO) (H : Value) (f1 : lB → Option Bool) (r : List lB) (w : World) {μ0 : mF} (h0 : po μ0 (t ++ []) w) (T : my 52 lD 9 j a0 t) (a4 : zn Tryz.prog H μ0 (fun (x : lB) => [(.agg (lD x).toArray)]) (fun (r : Bool) => (.bool r)) f1) (hm : pq a0 f1 = some r) :
  nH false Tryz.prog 111 [j, H] w (t ++ []) (fun v L1 W' => ∃ q S2, v = q ∧ L1 = (S2 ++ []) ∧ my 52 lD 9 q r S2) := by
 refine AF h0 42 func111 rfl (fun d => sg (Wa (lr (Wm (Wm (bS hm fun n d3 hm => VE (Eg d call145 (zj j a0 H f1 _ _ (T.sl nj (fun b o h => d.at_ (Ml h))) (a4.mono d.lJ) d3) (fun W3 d => Wa (ln ?_)))))))))
 refine me (sg (Wm (Wi rfl (ln (CI hm rfl (fun d2 hm => ?_) (fun d2 hm => ?_))))))
 ·refine sg (Wm (Wa (lt (mQ ?_))))
  obtain rfl := sj hm
  exact ng (v := j) rfl rfl ⟨_, _, rfl, (d.ol (Kr Sn)), j, t, rfl, rfl, T⟩
 refine kS (Wm (Wi rfl (Wa (ln (nS (py (fun m E W => ∃ U I B D a2, ST false (keys (t ++ [])) w W μ0 (I ++ a2) ∧ E 0 = j ∧ E 1 = H ∧ E 5 = (.int .i64 B) ∧ E 6 = (.int .i64 D) ∧ my 52 lD 9 j U I ∧ pv f1 m U B D = some r) mR ⟨a0, t, n, (IntKind.i64.wrap (n + 1)), _, (d.lG St), rfl, rfl, rfl, rfl, T, hm⟩ ?_))))))
 rintro m E W ⟨U, I, B, D, a2, d, y, Q, G, K, g, a⟩
 cases m with
 | zero => rw [pv] at a; cases a
 | succ c8 =>
  refine me (sg (Wh K (Wh y (V (qb aJ rfl g) (Wi rfl (ln (CI a rfl (fun A a => ?_) (fun A a => ?_))))))))
  ·refine kn (me (CJ a (fun Y E W => ∃ J a3, ST false (keys (t ++ [])) w W μ0 (J ++ a3) ∧ E 0 = j ∧ E 1 = H ∧ E 5 = (.int .i64 Y.2) ∧ E 6 = (.int .i64 D) ∧ my 52 lD 9 j Y.1 J) (fun Y c => ?_) ?_))
   ·refine bg (Wh y (Wh K (bS c fun k M c => VQ (pu (i := D) (x0 := k) aJ aI rfl rfl g (mE M) (mA M)) (fun e4 O => V (lK rfl (rz d.has (fun p h => (Ml h)) g nj O (mA M) bH aI)) (VE (mz d cM (fun d7 e2 d => VO (mh (.agg (lD k).toArray) ((lD k).toArray) d rfl rfl aI (pb k) nb rfl (fun d8 d => lr (Wh Q ?_))))))))))
    refine VA d Mh (lD k) bH aI (bS c fun e6 R c => VE (Mq k d a4 (mn.refl _) rfl (uC rfl) R (fun d9 d => V (oH rfl) (ln (CI c rfl (fun F c => ?_) (fun F c => ?_))))))
    ·refine sg (Wh y (Wh G (VA d Mh (lD k) bH aI (bS c fun d0 N c => VQ (pu (i := B) (x0 := d0) aJ aI rfl rfl g (mE N) (mA N)) (fun e5 P => ?_)))))
     replace d := d.perm (Nr (Qb Qz) Nz)
     refine VO (Ay (u := (.agg (lD k).toArray)) (x1 := k)  d g nj pb rfl rfl rfl P (mA N) aI (fun e0 c1 d s => ln ?_))
     replace d := d.lG (Kr (Db St))
     refine mc (Wh G (Wi rfl (Wa (mD (mL (lU ?_))))))
     obtain rfl := sj c
     exact ⟨c1, _, (d.lG St), y, Q, rfl, K, s⟩
    refine np (mL (lU ?_))
    obtain rfl := sj c
    exact ⟨I, _, (d.lG (Db St)), y, Q, G, K, g⟩
   rintro ⟨c7, c9⟩ E W ⟨J, a3, d, c3, c4, c5, c6, b6⟩ L
   exact mc (Wh c6 (Wi rfl (Wa (ln ⟨c8, bL _, c7, J, c9, (IntKind.i64.wrap (D + 1)), _, (d.lG St), c3, c4, c5, rfl, b6, L⟩))))
  refine pc (oQ (oQ (tX (lU (sg (Wh y (Wh G (bS a fun _ Z a => VQ (wQ (i := B) aJ aI rfl rfl g (tQ Z) (tu Z)) (fun e7 b7 => VO (zJ (z := Ty)  d g nj pb aJ cM b7 rfl rfl (fun e1 c2 d a9 => lr (Wh y ?_))))))))))))
  refine Wh G (bS a fun _ l a => VQ (wA (i := B) aJ aI rfl rfl a9 nj (tQ l) (tu l)) (fun a5 b9 => Wa (lt ?_)))
  obtain rfl := sj a
  exact ng (v := a5) rfl rfl ⟨_, _, rfl, (d.ol (Kr Sn)), a5, c2, rfl, rfl, b9⟩
theorem TZ (w : World) (a b : ByteArray) : (callFunc 296 [Value.string a, .string b].toArray).run Tryz.prog w = .ok (.value (.int .i64 (rp a b))) w := Qm func296 (by kernel_rfl) (by kernel_rfl) (by kernel_rfl) (by kernel_rfl) a b w
theorem Af (a c : ByteArray) (r : Int) (w : World) (hm : pt a c = some r) :
  mw true Tryz.prog 260 [(.string a), (.string c)] w (.int .i64 r) := by
 exact cG 8 func260 rfl (fun b => sg (Wa (lr (Wm (Wm (VE (Oq (args := [(.string a), (.string c)]) (v := .int .i64 (rp a c)) rfl (by exact xM rfl rfl) (TZ _ a c) (Wa (lt (rQ hm b))))))))))
theorem Cg (a c : ByteArray) (r : Int) (w : World) (hm : rO a c = some r) :
  mw true Tryz.prog 210 [(.string a), (.string c)] w (.int .i64 r) := by
 refine cG 8 func210 rfl (fun b => sg (Wa (lr (Wm (Wm (bS hm fun j g hm => VE (Eg b call260 (Af a c _ _  g) (fun i b => Wa (ln ?_)))))))))
 exact mB (rQ hm b)
theorem Mb (g : Value) (t : List Int) (r : Int) (w : World) (c : Sl (Pl (nr .i64)) 1 (hp w) g t) (hm : xd t = some r) :
  mw true Tryz.prog 209 [g] w (.int .i64 r) := by
 refine cG 18 func209 rfl (fun b => sg (Wa (lr (Wa (lS (Wm ?_))))))
 refine V (nh underlying162 rfl c) (Wm (ln (mY (fun i E W => ∃ k, (E 8 = .int .i64 (i : Nat) ∧ E 7 = .int .i64 (t.length : Nat)) ∧ ST true mX w W (hp w) k ∧ E 3 = (.int .i64 0) ∧ E 6 = g ∧ uU (t.drop i) = some r) t.length c.len ⟨_, ⟨rfl, rfl⟩, (b.lG St), rfl, rfl, hm⟩ dc dc dc (fun _ _ _ h => by obtain ⟨_, l, _⟩ := h; exact l) ?_ ?_)))
 ·rintro J E W B ⟨k, ⟨d, m⟩, b, j, u, a⟩
  obtain ⟨x, K, H, G, I⟩ := mM B
  rw [H] at a
  refine bg (VQ (pg (enc := (nr .i64)) (i := (J : Int)) (x0 := x) underlying162 iG u d c (aG _) G) (fun M D => V (lK rfl (pp b.has (y := (.int .i64 x)) D cP)) (Wa (lr (Wm (Wh j (Wi rfl (ln ?_))))))))
  refine CI a rfl (fun z a => ?_) (fun z a => ?_)
  ·refine sg (Wm (Wa (lt (oh (mQ (oh (mQ ?_)))))))
   obtain rfl := sj a
   exact rP b
  exact np (mL (lU ⟨d, _, ⟨rfl, m⟩, (b.lG St), j, u, (by rw [I]; exact a)⟩))
 rintro E W ⟨k, ⟨d, m⟩, b, j, u, a⟩
 rw [aK] at a
 exact lU (sg (Wh j (Wa (lt (rQ a b)))))
theorem Bd (g i : lC) (r : Int) (w : World) (hm : pG g i = some r) :
  mw true Tryz.prog 155 [(.agg (lE g).toArray), (.agg (lE i).toArray)] w (.int .i64 r) := by
 refine cG 17 func155 rfl (fun b => sg (VE (mI b rfl (fun G I b => VE (mI b rfl (fun H J b => Wa (ln (me ?_))))))))
 replace b := b.drew
 have d := b.has.lG (Kb (Kb Sn))
 refine mO d mu (X 0 rfl d (lN xe rfl) (XH 1 rfl d (fun _ h => lK rfl (ma h (Mt Mh) rfl bZ)) (X 2 rfl d (lN xe rfl) (XH 3 rfl d (fun _ h => lK rfl (ma h Mh rfl bZ)) (X 5 rfl d (lN xQ rfl) (XH 6 rfl d (fun _ h => lK rfl (ma h (Mt Mh) rfl bZ)) (X 7 rfl d (lN xQ rfl) (XH 8 rfl d (fun _ h => lK rfl (ma h Mh rfl bZ)) (bS hm fun a j hm => XE 4 rfl (Eg b call210 (Cg g.lI i.lI _ _  j) (fun x b => ?_)))))))))))
 have d := b.has.lG (Kb (Kb Sn))
 refine ⟨d, (bS hm fun c k hm => XE 9 rfl (Eg b call210 (Cg g.lM i.lM _ _  k) (fun y b => ?_)))⟩
 have d := b.has.lG (Kb (Kb Sn))
 refine ⟨d, (XE 10 rfl (mN (cs := #[(.int .i64 a), (.int .i64 c)]) b (rA rfl rfl) (oR underlying162 iG zeroValue3) (fun z u b => ?_)))⟩
 have d := b.has.lG (Db (Kb (Kb Sn)))
 refine ⟨d, (bS hm fun D t hm => XE 11 rfl (Eg b call209 (Mb (.slice (some ⟨u, 0, none⟩) 2 2) ([a, c]) _ _ (Sl.lit (enc := (nr .i64)) (l := [a, c]) (fun _ => rfl) rfl nb rfl (b.at_ Mh)) t) (fun B b => ?_)))⟩
 have d := b.has.lG (Db (Kb (Kb Sn)))
 refine ⟨d, (X 12 rfl d (oL rfl) (nc kr (lU ?_)))⟩
 exact mB (rQ hm b)
set_option maxHeartbeats 1000000 in
theorem yJ (a : lB) (r : Bool) (w : World) (hm : uR a = some r) :
  mw true Tryz.prog 113 [(.agg (lD a).toArray)] w (.bool r) := by
 let m9 := (⟨a.Kind, a.Head, zS, a.B, a.C, zS⟩ : lB)
 let j2 := (⟨a.Kind, a.Head, zS, a.B, K0, a.mK⟩ : lB)
 let j1 : Value := (.agg (lE a.B).toArray)
 let g6 := ((lD (⟨a.Kind, a.Head, zS, a.B, K0, zS⟩ : lB)).toArray)
 let o := (⟨a.Kind, a.Head, zS, K0, K0, zS⟩ : lB)
 refine cG 98 func113 rfl (fun b => sg (VE (mI b rfl (fun W2 N b => Wa (lr (Wf zx (VB b Mh rfl rfl cP (Wf vX (VA b Mh (lE a.Head) bB aH (V (nZ (v := (.agg (lD o).toArray)) (rA rfl rfl) (nB cM dL (Rf _ dL) kr)) (VE (mz b cM (fun W4 B b => ?_)))))))))))))
 refine VO (mh (.agg (lD o).toArray) ((lD o).toArray) b rfl rfl aI (pb o) nb rfl (fun W5 b => lr (Wf vX (VA b (Mt Mh) (lE a.Head) bB aH (bS hm fun n j4 hm => VE (Eg b kI (tL a.Head _ _  j4) (fun W8 b => Wa (ln (me (PM hm (fun A E W => ∃ R, ST true mX w W (hp w) ((B, Ol (lD A.2) 52) :: ((N, Ol (lD a) 52) :: R)) ∧ E 1 = (.pointer (some ⟨N, 0, none⟩)) ∧ E 3 = (.pointer (some ⟨B, 0, none⟩)) ∧ E 4 = (.bool A.1)) (fun A g Z => ?_) ?_))))))))))
 ·let g5 := ((lD m9).toArray : Array Value)
  let b8 := ((lD j2).toArray : Array Value)
  let m : Value := (.pointer (some ⟨B, 0, none⟩))
  let l : Value := (.pointer (some ⟨N, 0, none⟩))
  let a0 := ((lD a).toArray : Array Value)
  refine sg (Wf zx (VB b (Mt Mh) rfl rfl cP (ln (bg (Wi rfl (Wa (ln (CI g rfl (fun e5 g => ?_) (fun e5 g => ?_)))))))))
  ·replace b := b.drew
   have d := b.has.lG (Db (Kb Sn))
   refine mO d mu (X 0 rfl d (lN Eu rfl) (XH 1 rfl d (fun _ h => lK rfl (ma h Mh rfl bZ)) (X 2 rfl d (lO rfl) (X 3 rfl d (lO rfl) (X 8 rfl d (lN Eu rfl) (PJ g (fun d6 E W => ∃ b9, ST true mX w W (hp w) ((B, Ol (lD o) 52) :: ((N, Obj.cells a0 52 (0, 0)) :: b9)) ∧ E 1 = l ∧ E 3 = m ∧ E 4 = (.bool n) ∧ E 18 = (.string a.mS) ∧ E 24 = (.bool d6) ∧ E 25 = (.pointer (some ⟨B, 3, none⟩))) (bm 11 511) 2 ?_ (fun d6 D a2 => ?_)))))))
   ·rintro m1 E W ⟨b9, b, h2, h3, k8, h4, h5, h6⟩ f1
    refine XO 9 rfl (mh (.string a.mS) ((lD (⟨a.Kind, a.Head, a.mS, K0, K0, zS⟩ : lB)).toArray) b h6 h4 iF (QT a.mS) nb rfl (fun j5 b => ?_))
    have d := b.has.lG (Db (Kb Sn))
    refine ⟨d, (X 10 rfl d (oL h5) (nc kr (mL (lU ?_))))⟩
    obtain rfl := sj f1
    exact ⟨_, rfl, _, (b.lG St), h2, h3, rfl⟩
   refine bC D (fun k D => ?_) (fun k D => ?_)
   ·refine Xg 4 rfl rfl (cB k) d (lN Eu rfl) (sc 5 rfl rfl (cB k) d (fun _ h => lK rfl (ma h Mh rfl bZ)) (bS D fun l2 f9 D => As 6 rfl rfl (cB k) (Eg b lq (th a.mS _ _  f9) (fun j6 b => ?_))))
    have d := b.has.lG (Db (Kb Sn))
    refine ⟨d, (X 7 rfl d (mo (cB k) rfl) ?_)⟩
    obtain rfl := sj D
    refine nE kr (a2 _ _ ⟨_, (b.lG St), rfl, rfl, rfl, rfl, rfl, rfl⟩)
   refine Xn 4 rfl rfl (cB k) d (Xn 5 rfl rfl (cB k) d (Xn 6 rfl rfl (cB k) d (X 7 rfl d (mq (cB k) rfl) ?_)))
   obtain rfl := sj D
   refine nE kr (a2 _ _ ⟨_, (b.lG St), rfl, rfl, rfl, rfl, rfl, rfl⟩)
  refine sg (Wi rfl (Wa (ln (CI g rfl (fun e6 g => ?_) (fun e6 g => ?_)))))
  ·replace b := b.drew
   have d := b.has.lG (Db (Kb Sn))
   refine mO d mu (X 0 rfl d (lN so rfl) (XH 1 rfl d (fun _ h => lK rfl (lP h Mh (lE a.B) rfl bB aH)) (X 2 rfl d (lO rfl) (X 3 rfl d (lO rfl) (X 8 rfl d (lN so rfl) (PJ g (fun d7 E W => ∃ c0, ST true mX w W (hp w) ((B, Ol (lD o) 52) :: ((N, Obj.cells a0 52 (0, 0)) :: c0)) ∧ E 1 = l ∧ E 3 = m ∧ E 4 = (.bool n) ∧ E 29 = j1 ∧ E 35 = (.bool d7) ∧ E 36 = (.pointer (some ⟨B, 4, none⟩))) (bm 11 511) 2 ?_ (fun d7 G a3 => ?_)))))))
   ·rintro m2 E W ⟨c0, b, h7, h8, k9, h9, i0, i1⟩ f2
    refine XO 9 rfl (mh j1 g6 b i1 h9 aH (px a.B) nb rfl (fun j7 b => ?_))
    have d := b.has.lG (Db (Kb Sn))
    refine ⟨d, (X 10 rfl d (oL i0) (nc kr (mL (lU ?_))))⟩
    obtain rfl := sj f2
    exact ⟨_, rfl, _, (b.lG St), h7, h8, rfl⟩
   refine bC G (fun t G => ?_) (fun t G => ?_)
   ·refine Xg 4 rfl rfl (cB t) d (lN so rfl) (sc 5 rfl rfl (cB t) d (fun _ h => lK rfl (lP h Mh (lE a.B) rfl bB aH)) (bS G fun l3 g0 G => As 6 rfl rfl (cB t) (Eg b kI (tL a.B _ _  g0) (fun j8 b => ?_))))
    have d := b.has.lG (Db (Kb Sn))
    refine ⟨d, (X 7 rfl d (mo (cB t) rfl) ?_)⟩
    obtain rfl := sj G
    refine nE kr (a3 _ _ ⟨_, (b.lG St), rfl, rfl, rfl, rfl, rfl, rfl⟩)
   refine Xn 4 rfl rfl (cB t) d (Xn 5 rfl rfl (cB t) d (Xn 6 rfl rfl (cB t) d (X 7 rfl d (mq (cB t) rfl) ?_)))
   obtain rfl := sj G
   refine nE kr (a3 _ _ ⟨_, (b.lG St), rfl, rfl, rfl, rfl, rfl, rfl⟩)
  refine sg (Wi rfl (Wa (ln (CI g rfl (fun e7 g => ?_) (fun e7 g => ?_)))))
  ·refine me ?_
   replace b := b.drew
   have d := b.has.lG (Db (Kb Sn))
   refine mO d mu (X 0 rfl d (lN so rfl) (XH 1 rfl d (fun _ h => lK rfl (lP h Mh (lE a.B) rfl bB aH)) (X 2 rfl d (lN AV rfl) (XH 3 rfl d (fun _ h => lK rfl (ma h Mh rfl bZ)) (X 4 rfl d (lN so rfl) (XO 5 rfl (mh j1 g6 b rfl rfl aH (px a.B) nb rfl (fun j9 b => ?_))))))))
   have d := b.has.lG (Db (Kb Sn))
   refine ⟨d, (X 6 rfl d (lN AV rfl) (XO 7 rfl (mh (.string a.mK) ((lD j2).toArray) b rfl rfl iF (QT a.mK) nb rfl (fun k0 b => ?_))))⟩
   have d := b.has.lG (Db (Kb Sn))
   refine ⟨d, (nc kr (lU (mc (Wm (Wm (LJ g (fun e0 E W => ∃ c1, ST true mX w W (hp w) ((B, Obj.cells b8 52 (0, 0)) :: ((N, Obj.cells a0 52 (0, 0)) :: c1)) ∧ E 1 = l ∧ E 3 = m ∧ E 4 = (.bool n) ∧ E 50 = (.bool e0)) 4 ?_ (fun e0 I L => ?_)))))))⟩
   ·rintro m3 E W ⟨c1, b, U, c7, c8, i2⟩ f3
    refine Wh i2 (LJ f3 (fun d9 E W => ∃ c2, ST true mX w W (hp w) ((B, Obj.cells b8 52 (0, 0)) :: ((N, Obj.cells a0 52 (0, 0)) :: c2)) ∧ E 1 = l ∧ E 3 = m ∧ E 4 = (.bool n) ∧ E 59 = (.bool d9)) 8 ?_ (fun d9 T a5 => ?_))
    ·rintro m4 E W ⟨c2, b, q, c9, d0, i3⟩ f4
     refine Wh i3 (LJ f4 (fun d8 E W => ∃ c3, ST true mX w W (hp w) ((B, Obj.cells b8 52 (0, 0)) :: ((N, Obj.cells a0 52 (0, 0)) :: c3)) ∧ E 1 = l ∧ E 3 = m ∧ E 4 = (.bool n) ∧ E 64 = (.bool d8)) 4 ?_ (fun d8 H a4 => ?_))
     ·rintro m5 E W ⟨c3, b, i4, i5, l0, i6⟩ f5
      refine Wg i6 (mD (mL (lU ?_)))
      obtain rfl := sj f5
      exact ⟨_, rfl, _, (b.lG St), i4, i5, rfl⟩
     refine bC H (fun x H => ?_) (fun x H => ?_)
     ·refine ug x (lN AV q) (ug x (lK rfl (ma b.has (Mt Mh) rfl bZ)) (bS H fun l4 g1 H => uJ x (Eg b lq (th a.mK _ _  g1) (fun k1 b => V (mo (cB x) rfl) ?_))))
      obtain rfl := sj H
      exact a4 _ _ ⟨_, (b.lG St), q, c9, d0, rfl⟩
     refine un x (un x (un x (V (mq (cB x) rfl) ?_)))
     obtain rfl := sj H
     exact a4 _ _ ⟨_, (b.lG St), q, c9, d0, rfl⟩
    refine bC T (fun c T => ?_) (fun c T => ?_)
    ·refine ug c (lN so U) (ug c (lN xe rfl) (ug c (lK rfl (ma b.has (Mt Mh) rfl bZ)) (ug c (lN vX U) (ug c (lN xe rfl) (ug c (lK rfl (ma b.has (Mt Mh) rfl bZ)) (ug c (OM rfl rfl rfl) (V (mo (cB c) rfl) ?_)))))))
     obtain rfl := sj T
     exact a5 _ _ ⟨_, (b.lG St), U, c7, c8, rfl⟩
    refine un c (un c (un c (un c (un c (un c (un c (V (mq (cB c) rfl) ?_)))))))
    obtain rfl := sj T
    exact a5 _ _ ⟨_, (b.lG St), U, c7, c8, rfl⟩
   refine bC I (fun u I => ?_) (fun u I => ?_)
   ·refine ug u (lN so rfl) (ug u (lK rfl (lP b.has (Mt Mh) (lE a.B) rfl bB aH)) (bS I fun l5 g2 I => uJ u (Eg b kI (tL a.B _ _  g2) (fun k2 b => V (mo (cB u) rfl) ?_))))
    obtain rfl := sj I
    exact L _ _ ⟨_, (b.lG St), rfl, rfl, rfl, rfl⟩
   refine un u (un u (un u (V (mq (cB u) rfl) ?_)))
   obtain rfl := sj I
   exact L _ _ ⟨_, (b.lG St), rfl, rfl, rfl, rfl⟩
  refine sg (Wi rfl (Wa (ln (CI g rfl (fun e8 g => ?_) (fun e8 g => ?_)))))
  ·refine me ?_
   replace b := b.drew
   have d := b.has.lG (Db (Kb Sn))
   refine mO d mu (X 0 rfl d (lN so rfl) (XH 1 rfl d (fun _ h => lK rfl (lP h Mh (lE a.B) rfl bB aH)) (X 2 rfl d (lN Az rfl) (XH 3 rfl d (fun _ h => lK rfl (lP h Mh (lE a.C) rfl bB aH)) (X 4 rfl d (lN so rfl) (XO 5 rfl (mh j1 g6 b rfl rfl aH (px a.B) nb rfl (fun k3 b => ?_))))))))
   have d := b.has.lG (Db (Kb Sn))
   refine ⟨d, (X 6 rfl d (lN Az rfl) (XO 7 rfl (mh (.agg (lE a.C).toArray) ((lD m9).toArray) b rfl rfl aH (px a.C) nb rfl (fun k4 b => ?_))))⟩
   have d := b.has.lG (Db (Kb Sn))
   refine ⟨d, (nc kr (lU (mc (Wm (Wm (LJ g (fun e3 E W => ∃ c4, ST true mX w W (hp w) ((B, Obj.cells g5 52 (0, 0)) :: ((N, Obj.cells a0 52 (0, 0)) :: c4)) ∧ E 1 = l ∧ E 3 = m ∧ E 4 = (.bool n) ∧ E 78 = (.bool e3)) 4 ?_ (fun e3 M a9 => ?_)))))))⟩
   ·rintro m6 E W ⟨c4, b, s, d1, d2, i7⟩ f6
    refine Wh i7 (LJ f6 (fun e2 E W => ∃ c5, ST true mX w W (hp w) ((B, Obj.cells g5 52 (0, 0)) :: ((N, Obj.cells a0 52 (0, 0)) :: c5)) ∧ E 1 = l ∧ E 3 = m ∧ E 4 = (.bool n) ∧ E 83 = (.bool e2)) 4 ?_ (fun e2 K P => ?_))
    ·rintro m7 E W ⟨c5, b, Y, d3, d4, i8⟩ f7
     refine Wh i8 (LJ f7 (fun e1 E W => ∃ c6, ST true mX w W (hp w) ((B, Obj.cells g5 52 (0, 0)) :: ((N, Obj.cells a0 52 (0, 0)) :: c6)) ∧ E 1 = l ∧ E 3 = m ∧ E 4 = (.bool n) ∧ E 91 = (.bool e1)) 7 ?_ (fun e1 J O => ?_))
     ·rintro m8 E W ⟨c6, b, i9, j0, l1, j3⟩ f8
      refine Wg j3 (mD (mL (lU ?_)))
      obtain rfl := sj f8
      exact ⟨_, rfl, _, (b.lG St), i9, j0, rfl⟩
     refine bC J (fun i J => ?_) (fun i J => ?_)
     ·refine ug i (lN so Y) (ug i (lK rfl (lP b.has (Mt Mh) (lE a.B) rfl bB aH)) (ug i (lN Az Y) (ug i (lK rfl (lP b.has (Mt Mh) (lE a.C) rfl bB aH)) (bS J fun l6 g3 J => uJ i (Eg b call155 (Bd a.B a.C _ _  g3) (fun k5 b => ug i (mU rfl rfl rfl) (V (mo (cB i) rfl) ?_)))))))
      obtain rfl := sj J
      exact O _ _ ⟨_, (b.lG St), Y, d3, d4, rfl⟩
     refine un i (un i (un i (un i (un i (un i (V (mq (cB i) rfl) ?_))))))
     obtain rfl := sj J
     exact O _ _ ⟨_, (b.lG St), Y, d3, d4, rfl⟩
    refine bC K (fun z K => ?_) (fun z K => ?_)
    ·refine ug z (lN Az s) (ug z (lK rfl (lP b.has (Mt Mh) (lE a.C) rfl bB aH)) (bS K fun l7 g4 K => uJ z (Eg b kI (tL a.C _ _  g4) (fun k6 b => V (mo (cB z) rfl) ?_))))
     obtain rfl := sj K
     exact P _ _ ⟨_, (b.lG St), s, d1, d2, rfl⟩
    refine un z (un z (un z (V (mq (cB z) rfl) ?_)))
    obtain rfl := sj K
    exact P _ _ ⟨_, (b.lG St), s, d1, d2, rfl⟩
   refine bC M (fun y M => ?_) (fun y M => ?_)
   ·refine ug y (lN so rfl) (ug y (lK rfl (lP b.has (Mt Mh) (lE a.B) rfl bB aH)) (bS M fun l8 g7 M => uJ y (Eg b kI (tL a.B _ _  g7) (fun k7 b => V (mo (cB y) rfl) ?_))))
    obtain rfl := sj M
    exact a9 _ _ ⟨_, (b.lG St), rfl, rfl, rfl, rfl⟩
   refine un y (un y (un y (V (mq (cB y) rfl) ?_)))
   obtain rfl := sj M
   exact a9 _ _ ⟨_, (b.lG St), rfl, rfl, rfl, rfl⟩
  refine sg (Wa (ln ?_))
  replace b := b.lG (Db (Db St))
  refine mB (oh (mQ ?_))
  obtain rfl := sj g
  replace Z : some false = some r := Z
  obtain rfl := sj Z
  exact rP b
 rintro ⟨l9, e4⟩ E W ⟨R, b, g8, g9, h0⟩ e9
 refine sg (Wh h0 (Wm (LJ e9 (fun d5 E W => ∃ b7, ST true mX w W (hp w) b7 ∧ E 97 = (.bool d5)) 4 ?_ (fun d5 Q F => ?_))))
 ·rintro m0 E W ⟨b7, b, h1⟩ f0
  exact Wg h1 (lt (rQ f0 b))
 refine bC Q (fun j Q => ?_) (fun j Q => ?_)
 ·refine ug j (lK g9 (lP b.has Mh (lD e4) rfl bH aI)) (ug j (lK g8 (lP b.has (Mt Mh) (lD a) rfl bH aI)) (ug j (yU rfl rfl (qt fQ) (vL (wS _ e4 a))) (V (mo (cB j) rfl) ?_)))
  obtain rfl := sj Q
  exact F _ _ ⟨_, (b.lG (Db (Db St))), rfl⟩
 refine un j (un j (un j (V (mq (cB j) rfl) ?_)))
 obtain rfl := sj Q
 exact F _ _ ⟨_, (b.lG (Db (Db St))), rfl⟩
theorem KB (a : lB) (r : Bool) (w : World) (hm : zM a = some r) :
  mw true Tryz.prog 112 [(.agg (lD a).toArray)] w (.bool r) := by
 refine cG 6 func112 rfl (fun b => sg (VE (mI b rfl (fun g j b => Wa (lr (VA b Mh (lD a) bH aI (bS hm fun k c hm => VE (Eg b call113 (yJ a _ _  c) (fun i b => V (oH rfl) (Wa (mD ?_)))))))))))
 refine lU ?_
 exact mB (rQ hm b)
theorem OJ (c : Value) (k : List lB) (a : LO) (g : Value) (t : (lB × lB) → Option Int) (r : List lB) (w : World) {y : mF} (u : po y (a ++ []) w) (i : my 52 lD 9 c k a) (j : TX Tryz.prog g y (fun (x : (lB × lB)) => [(.agg (lD x.1).toArray), (.agg (lD x.2).toArray)]) (fun (r : Int) => (.int .i64 r)) t) (hm : zX t k = some r) :
  nH true Tryz.prog 114 [c, g] w (a ++ []) (fun v z W' => ∃ S, v = (.tuple #[]) ∧ z = (S ++ []) ∧ my 52 lD 9 c r S) := HL (P := Tryz.prog) (ρ := Pa) Tc 9 bH aI lD nj pb u.H u.S i j hm
theorem ue (t : Nat) (j : Value) (G : List Int) (i : LO) (h : Int) (r : (Bool × (List Int))) (w : World) {μ0 : mF} (A : po μ0 ((t, Ob #[j] 239) :: (i ++ [])) w) (y : my 5 (nr .u8) 1 j G i) (hm : pV G h = some r) :
  nH true Tryz.prog 181 [(.pointer (some ⟨t, 0, none⟩)), (.int .i64 h)] w ((t, Ob #[j] 239) :: (i ++ [])) (fun v L1 W' => ∃ n S2, v = (.bool (r.1)) ∧ L1 = ((t, Ob #[n] 239) :: (S2 ++ [])) ∧ my 5 (nr .u8) 1 n r.2 S2) := by
 refine AF A 38 func181 rfl (fun d => sg (Wa (lS (Wm (V (tN iP rfl rfl) (Wm (Vg rfl rfl (lO rfl) (Vg rfl rfl (mU rfl rfl rfl) (V (mq rfl rfl) ?_)))))))))
 refine ln (CI hm rfl (fun a9 hm => ?_) (fun a9 hm => ?_))
 ·refine sg (Wa (lt (mQ ?_)))
  obtain rfl := sj hm
  exact ng (v := (.bool false)) rfl rfl ⟨_, _, rfl, (d.ol (Kb (Kr Sn))), j, i, rfl, rfl, y⟩
 refine kn (me (nS (py (fun m E W => ∃ c z U u a0, ST true (keys ((t, Ob #[j] 239) :: (i ++ []))) w W μ0 ((t, Ob #[z] 239) :: (u ++ a0)) ∧ E 0 = (.pointer (some ⟨t, 0, none⟩)) ∧ E 1 = (.int .i64 c) ∧ my 5 (nr .u8) 1 z U u ∧ sf m c U = some r) mR ⟨h, j, G, i, _, (d.lG St), rfl, rfl, y, hm⟩ ?_)))
 rintro m E W ⟨c, z, U, u, a0, d, x, K, T, g⟩
 cases m with
 | zero => rw [sf] at g; cases g
 | succ s =>
  refine me (sg (Wh K (Wi rfl (ln (CI g rfl (fun o g => ?_) (fun o g => ?_))))))
  ·refine kn (me (nS (mc (Wh x (Wh x (Wn (Wf Be (VB d Mh rfl rfl jv (Wh K (V (vC (k' := .i64) (a := c) eT jB rfl) (V (RD (k := .u8) (a := (IntKind.u8.wrap c)) (b := 128) (v := (.int .u8 (IntKind.u8.wrap (BitVec.ofInt (IntKind.bits .u8) (IntKind.u8.wrap c) ||| BitVec.ofInt (IntKind.bits .u8) 128).toNat))) rfl rfl dc rfl) (VE (mN (cs := [(.int .u8 (IntKind.u8.wrap (BitVec.ofInt (IntKind.bits .u8) (IntKind.u8.wrap c) ||| BitVec.ofInt (IntKind.bits .u8) 128).toNat))].toArray) d (oX rfl) (oR cN sizeOf5 zeroValue5) (fun c3 q d => ?_))))))))))))))
   replace d := d.perm (Nr (Qb (Qb Qz)) Nz)
   refine bS g fun Q Y g => VE (pf (enc := (nr .u8)) (v := z) (vs := (.slice (some ⟨q, 0, none⟩) 1 1)) (R := u) d (fun _ => rfl) dc (D8 _) cN rh.1 rh.2.1 rfl rh.2.2.1 rh.2.2.2 rfl rfl T (Sl.lit (enc := (nr .u8)) (l := [(IntKind.u8.wrap (BitVec.ofInt (IntKind.bits .u8) (IntKind.u8.wrap c) ||| BitVec.ofInt (IntKind.bits .u8) 128).toNat)]) (fun _ => rfl) rfl nb rfl (d.at_ (Ma Mh))) Y (fun F c1 a2 d M => Wn (Wf Be ?_)))
   obtain ⟨B, H, rfl⟩ := M.form
   replace d := d.perm (Nb (Pr (Pb Pz)) Nz)
   refine VO (mh (.slice B Q.length H) (#[(.slice B Q.length H)]) d rfl rfl lp oc nb rfl (fun L d => mD (mL (lU ?_))))
   replace d := d.lG (Kb (Kr (Db St)))
   exact mc (Wh K (V (Jg (a := c) (b := 7) rfl rfl dc) (Wa (ln ⟨s, bL _, (Int.fdiv c (2 ^ min (Int.toNat 7) (IntKind.bits .i64))), (.slice B Q.length H), Q, a2, _, (d.lG St), x, rfl, M, g⟩))))
  refine pc (oQ (oQ (tX (lU (sg (Wh x (Wh x (Wn (Wf Be (VB d Mh rfl rfl jv (Wh K (V (vC (k' := .i64) (a := c) eT jB rfl) (VE (mN (cs := [(.int .u8 (IntKind.u8.wrap c))].toArray) d (oX rfl) (oR cN sizeOf5 zeroValue5) (fun O a5 d => ?_)))))))))))))))
  replace d := d.perm (Nr (Qb (Qb Qz)) Nz)
  refine bS g fun J Z g => VE (pf (enc := (nr .u8)) (v := z) (vs := (.slice (some ⟨a5, 0, none⟩) 1 1)) (R := u) d (fun _ => rfl) dc (D8 _) cN rh.1 rh.2.1 rfl rh.2.2.1 rh.2.2.2 rfl rfl T (Sl.lit (enc := (nr .u8)) (l := [(IntKind.u8.wrap c)]) (fun _ => rfl) rfl nb rfl (d.at_ (Ma Mh))) Z (fun P c2 a3 d N => Wn (Wf Be ?_)))
  obtain ⟨D, I, rfl⟩ := N.form
  replace d := d.perm (Nb (Pr (Pb Pz)) Nz)
  refine VO (mh (.slice D J.length I) (#[(.slice D J.length I)]) d rfl rfl lp oc nb rfl (fun b9 d => ln ?_))
  replace d := d.lG (Kb (Kr (Db St)))
  refine sg (Wa (lt ?_))
  obtain rfl := sj g
  exact ng (v := (.bool true)) rfl rfl ⟨_, _, rfl, (d.ol (Kb (Kr Sn))), (.slice D J.length I), a3, rfl, rfl, N⟩
theorem Hp (g : Nat) (c : Value) (j : List Int) (a : LO) (u : Value) (D : List Int) (r : (Bool × (List Int))) (w : World) {Z : mF} (h : po Z ((g, Ob #[c] 239) :: (a ++ [])) w) (i : my 5 (nr .u8) 1 c j a) (k : Sl (Pl (nr .u8)) 1 Z u D) (hm : zt j D = some r) :
  nH true Tryz.prog 241 [(.pointer (some ⟨g, 0, none⟩)), u] w ((g, Ob #[c] 239) :: (a ++ [])) (fun v L1 W' => ∃ U M, v = (.bool (r.1)) ∧ L1 = ((g, Ob #[U] 239) :: (M ++ [])) ∧ my 5 (nr .u8) 1 U r.2 M) := by
 refine AF h 25 func241 rfl (fun b => sg (Wa (lS (Wm (V (tN iP rfl rfl) (Wm (Vg rfl rfl (lO rfl) (Vg rfl rfl (nh cN rfl k) (Vg rfl rfl (mU rfl rfl rfl) ?_)))))))))
 refine V (mq rfl rfl) (ln (CI hm rfl (fun Q hm => ?_) (fun Q hm => ?_)))
 ·refine sg (Wa (lt (mQ ?_)))
  obtain rfl := sj hm
  exact ng (v := (.bool false)) rfl rfl ⟨_, _, rfl, (b.ol (Kb (Kr Sn))), c, a, rfl, rfl, i⟩
 refine kg (Wm (Wm (V (nh cN rfl k) (bS hm fun q T hm => ?_))))
 refine VE (eM b (Cb Pz (Cr Qz Cn)) call181 (fun l _ => (ue g c j a (D.length : Int) _ _ l i T)) ?_)
 rintro _ v8 n a3 b H m d ⟨Y, K, t, rfl, I⟩
 obtain rfl := t.symm
 replace b := b.perm (Tb (Tr Tn))
 refine lr (Wm (Wm (Wn (Wf Be (VB b Mh rfl rfl jv (Wm ?_))))))
 replace b := b.perm (Nr (Qb Qz) Nz)
 refine bS hm fun B G hm => VE (pf (enc := (nr .u8)) (v := Y) (vs := u) (R := K) b (fun _ => rfl) dc (D8 _) cN rh.1 rh.2.1 rfl rh.2.2.1 rh.2.2.2 rfl rfl I (k.mono (Pl.mono _) (H.trans b.lJ)) G (fun a4 o J b z => Wn (Wf Be ?_)))
 obtain ⟨x, y, rfl⟩ := z.form
 replace b := b.perm (Nb (Pr Pz) Nz)
 refine VO (mh (.slice x B.length y) (#[(.slice x B.length y)]) b rfl rfl lp oc nb rfl (fun a5 b => lr (Wa (lt ?_))))
 obtain rfl := sj hm
 exact ng (v := (.bool true)) rfl rfl ⟨_, _, rfl, (b.ol (Kb (Kr Sn))), (.slice x B.length y), J, rfl, rfl, z⟩
theorem AG (j : Nat) (c : Value) (t : List Int) (a : LO) (J : ByteArray) (r : (Bool × (List Int))) (w : World) {Z : mF} (A : po Z ((j, Ob #[c] 239) :: (a ++ [])) w) (k : my 5 (nr .u8) 1 c t a) (hm : vZ t J = some r) :
  nH true Tryz.prog 183 [(.pointer (some ⟨j, 0, none⟩)), (.string J)] w ((j, Ob #[c] 239) :: (a ++ [])) (fun v L1 W' => ∃ n S2, v = (.bool (r.1)) ∧ L1 = ((j, Ob #[n] 239) :: (S2 ++ [])) ∧ my 5 (nr .u8) 1 n r.2 S2) := by
 refine AF A 17 func183 rfl (fun b => sg (Wa (lr (Wm (V (Cu iP rfl rfl) (Wm (Vg rfl rfl (lO rfl) (bS hm fun r1 a4 hm => P0 rfl rfl (Eg b lq (th J _ _  a4) (fun W3 b => V (mo rfl rfl) ?_))))))))))
 refine Wm (LJ hm (fun B E W => ∃ z x D I, mn Z D ∧ ST true (keys ((j, Ob #[c] 239) :: (a ++ []))) w W D ((j, Ob #[z] 239) :: (x ++ I)) ∧ E 4 = (.bool false) ∧ E 16 = (.bool B.1) ∧ my 5 (nr .u8) 1 z B.2 x) 5 ?_ (fun B g y => ?_))
 ·rintro ⟨q, c0⟩ E W ⟨z, x, D, I, L, b, b9, a3, T⟩ M
  refine Wg a3 (lt ?_)
  obtain rfl := sj M
  exact ng (v := (.bool q)) rfl rfl ⟨_, _, rfl, (b.ol (Kb (Kr Sn))), z, x, rfl, rfl, T⟩
 refine bC g (fun i g => ?_) (fun i g => ?_)
 ·refine ug i (lO rfl) (ug i (lO rfl) (bS g fun a5 N g => uJ i (Kt b bU cN jB rfl N (fun R o c3 b G l U O => bS g fun c1 Q g => ?_))))
  refine uJ i (eM b (Cb Pz (Cr Qz Cn)) call241 (fun F h => (Hp j c t a o a5 _ _ F k (U.mono (Pl.mono _) h) Q)) ?_)
  rintro _ c2 s P b H m d ⟨a9, a2, u, rfl, Y⟩
  obtain rfl := u.symm
  replace b := b.perm (Tb (Tr Tn))
  refine V (mo (cB i) rfl) ?_
  obtain rfl := sj g
  exact y _ _ ⟨a9, a2, s, _, (G.trans H), (b.lG St), rfl, rfl, Y⟩
 refine un i (un i (un i (un i (V (mq (cB i) rfl) ?_))))
 obtain rfl := sj g
 exact y _ _ ⟨c, a, Z, _, (mn.refl _), (b.lG St), rfl, rfl, k⟩
theorem xo (c : Nat) (i : Value) (D : List Int) (a : LO) (x : lC) (r : (Bool × (List Int))) (w : World) {μ0 : mF} (h0 : po μ0 ((c, Ob #[i] 239) :: (a ++ [])) w) (y : my 5 (nr .u8) 1 i D a) (hm : si D x = some r) :
  nH true Tryz.prog 182 [(.pointer (some ⟨c, 0, none⟩)), (.agg (lE x).toArray)] w ((c, Ob #[i] 239) :: (a ++ [])) (fun v L1 W' => ∃ q S2, v = (.bool (r.1)) ∧ L1 = ((c, Ob #[q] 239) :: (S2 ++ [])) ∧ my 5 (nr .u8) 1 q r.2 S2) := by
 let l := ((c, Ob #[i] 239) :: (a ++ []))
 refine AF h0 23 func182 rfl (fun b => sg (VE (mI b rfl (fun W2 m b => Wa (lr (Wm (V (Cu iP rfl rfl) (Wm (Vg rfl rfl (lK rfl (lP b.has Mh (lE x) rfl bB aH)) (bS hm fun r3 c4 hm => P0 rfl rfl (Eg b kI (tL x _ _  c4) (fun W5 b => ?_))))))))))))
 refine V (mo rfl rfl) (Wm (LJ hm (fun T E W => ∃ z u B a0, mn μ0 B ∧ ST true (keys l) w W B ((m, Ol (lE x) 50) :: ((c, Ob #[z] 239) :: (u ++ a0))) ∧ E 0 = (.pointer (some ⟨c, 0, none⟩)) ∧ E 3 = (.pointer (some ⟨m, 0, none⟩)) ∧ E 4 = (.bool false) ∧ E 16 = (.bool T.1) ∧ my 5 (nr .u8) 1 z T.2 u) 5 ?_ (fun T t K => ?_)))
 ·rintro ⟨e6, c5⟩ E W ⟨z, u, B, a0, d2, b, c0, c1, a3, c2, N⟩ s
  refine Wh c2 (LJ s (fun Q E W => ∃ M I U a2, mn B U ∧ ST true (keys l) w W U ((c, Ob #[M] 239) :: (I ++ a2)) ∧ E 4 = (.bool false) ∧ E 22 = (.bool Q.1) ∧ my 5 (nr .u8) 1 M Q.2 I) 5 ?_ (fun Q k J => ?_))
  ·rintro ⟨c6, e1⟩ E W ⟨M, I, U, a2, d3, b, e0, c3, L⟩ A
   refine Wg c3 (lt ?_)
   obtain rfl := sj A
   exact ng (v := (.bool c6)) rfl rfl ⟨_, _, rfl, (b.ol (Kb (Kr Sn))), M, I, rfl, rfl, L⟩
  refine bC k (fun g k => ?_) (fun g k => ?_)
  ·refine ug g (lO c0) (ug g (lN xQ c1) (ug g (lK rfl (ma b.has Mh rfl bZ)) (bS k fun e2 F k => ?_)))
   refine uJ g (eM b (Cb (Pb Pz) (Cr (Qb Qz) Cn)) call183 (fun h _ => (AG c z c5 u x.lM _ _ h N F)) ?_)
   rintro _ e4 d0 d6 b Y n d ⟨c8, R, G, rfl, O⟩
   obtain rfl := G.symm
   replace b := b.perm (Tb (Tr Tn))
   refine V (mo (cB g) rfl) ?_
   obtain rfl := sj k
   exact J _ _ ⟨c8, R, d0, _, Y, (b.lG (Kb (Kr (Db St)))), a3, rfl, O⟩
  refine un g (un g (un g (un g (V (mq (cB g) rfl) ?_))))
  obtain rfl := sj k
  exact J _ _ ⟨z, u, B, _, (mn.refl _), (b.lG (Db St)), a3, rfl, N⟩
 refine bC t (fun j t => ?_) (fun j t => ?_)
 ·refine ug j (lO rfl) (ug j (lN xe rfl) (ug j (lK rfl (ma b.has Mh rfl bZ)) (bS t fun e3 a9 t => ?_)))
  refine uJ j (eM b (Cb (Pb Pz) (Cr (Qb Qz) Cn)) call183 (fun h _ => (AG c i D a x.lI _ _ h y a9)) ?_)
  rintro _ e5 d1 d7 b Z o d ⟨c9, b7, H, rfl, P⟩
  obtain rfl := H.symm
  replace b := b.perm (Tb (Tr Tn))
  refine V (mo (cB j) rfl) ?_
  obtain rfl := sj t
  exact K _ _ ⟨c9, b7, d1, _, Z, (b.lG (Sb (Pb (Pr Pz)) St)), rfl, rfl, rfl, rfl, P⟩
 refine un j (un j (un j (un j (V (mq (cB j) rfl) ?_))))
 obtain rfl := sj t
 exact K _ _ ⟨i, a, μ0, _, (mn.refl _), (b.lG St), rfl, rfl, rfl, rfl, y⟩
theorem KJ (g : Value) (i r : List Int) (w : World) (a : Sl (Pl (nr .u8)) 1 (hp w) g i) (hm : wx i = some r) :
  nC true Tryz.prog 58 [g] w 5 (nr .u8) 1 r := by
 unfold wx at hm
 refine vV 8 func58 rfl (fun b => sg (Wa (lS (Wm ?_))))
 obtain ⟨y, B, rfl⟩ := a.form
 refine V (Ap cN rfl rfl) (ln ?_)
 rcases y with _ | z
 ·have u := a.isNil
  replace hm : some [] = some r := by rw [u] at hm; simpa [oI, maxLen] using hm
  refine vr (rfl) (sg (Wa (lt (mQ ?_))))
  obtain rfl := sj hm
  exact ng (v := (.slice none 0 0)) rfl rfl ⟨_, [], rfl, b.oA (fun p d => by cases d) (by simp), my.nil _ _ _⟩
 ·refine qi (rfl) (kg (VE (mN (cs := #[]) b sL (Au [] cN sizeOf5 zeroValue5 dc rfl (by simp) rfl rfl) (fun G k b => Wm (bS hm fun H t hm => VE (pf (enc := (nr .u8)) (v := (.slice (some ⟨k, 0, none⟩) 0 0)) (vs := (.slice (some z) i.length B)) (R := [(k, Ob #[] 5)]) b (fun _ => rfl) dc (D8 _) cN rh.1 rh.2.1 rfl rh.2.2.1 rh.2.2.2 rfl rfl (my.lit (l := []) (enc := (nr .u8)) rfl dc rfl rfl) (a.mono (Pl.mono _) b.lJ) t (fun D x j b c => Wa (lt ?_))))))))
  obtain rfl := sj hm
  exact ng (v := x) rfl rfl ⟨_, j, rfl, b.oA (fun p d => (Ml d)) c.nd, c⟩
theorem CR (g : Nat) (a : Value) (c r : List Int) (w : World) (j : Sl (Pl (nr .u8)) 1 (hp w) a c) (k : At (hp w) (.pointer (some ⟨g, 0, none⟩)) [a]) (hm : vY c = some r) :
  nC true Tryz.prog 184 [(.pointer (some ⟨g, 0, none⟩))] w 5 (nr .u8) 1 r := by
 refine vV 10 func184 rfl (fun b => sg (Wa (lS (Wm (V (tN iP rfl rfl) (ln (qi rfl (np ?_))))))))
 refine lU (sg (Wm (Wn (VQ (sO [a] Be rfl k rfl) (fun G u => V (lK rfl (pp b.has (y := a) u jv)) (bS hm fun H x hm => VE (pF b call58 (KJ a c _ _ (j.mono (Pl.mono _) b.lJ) x) (fun D z I t b B d i => Wa (lt ?_)))))))))
 obtain rfl := sj hm
 exact ng (v := z) rfl rfl ⟨_, t, rfl, b.oA (fun p h => (Ml h)) i.nd, i⟩
theorem G0 (c : lB) (r : List Int) (w : World) (hm : yG c = some r) :
  nC true Tryz.prog 119 [(.agg (lD c).toArray)] w 5 (nr .u8) 1 r := by
 refine vV 53 func119 rfl (fun d => sg (VE (mI d rfl (fun W2 b1 d => Wa (lS (VA d Mh (lD c) bH aI (bS hm fun r3 g3 hm => VE (Eg d call113 (yJ c _ _  g3) (fun W5 d => V (oH rfl) (mD ?_))))))))))
 refine lU (CI hm rfl (fun g0 hm => ?_) (fun g0 hm => ?_))
 ·refine sg (Wa (ln ?_))
  replace d := d.lG (Db St)
  refine mB (mQ ?_)
  obtain rfl := sj hm
  exact ng (v := (.slice none 0 0)) rfl rfl ⟨_, [], rfl, d.oA (fun p m => by cases m) (by simp), my.nil _ _ _⟩
 refine kg (V (nZ (v := (.agg #[(.slice none 0 0)])) sL (nB zeroValue239 iO (Ru _ iO) kr)) (VE (mI d rfl (fun W8 g d => Wa (lr (Wm (Wf zx (VB d (Mt Mh) rfl rfl cP (bS hm fun r9 e2 hm => ?_)))))))))
 refine VE (eM d (Cb Pz (C0 Cn)) call181 (fun l _ => (ue g (.slice none 0 0) ([]) [] c.Kind _ _ l (my.nil _ _ _) e2)) ?_)
 rintro _ k3 k5 j9 d g7 P h ⟨g4, f9, I, rfl, e4⟩
 obtain rfl := I.symm
 replace d := d.perm (Tb (Tr Tn))
 refine lr (Wm (Wf vX (VA d (Mt (Ma Mh)) (lE c.Head) bB aH (bS hm fun N e3 hm => ?_))))
 refine VE (eM d (Cb Pz (Cr Qz Cn)) call182 (fun l _ => (xo g g4 r9.2 f9 c.Head _ _ l e4 e3)) ?_)
 rintro _ k4 d1 k0 d g8 R h ⟨G, D, J, rfl, i⟩
 obtain rfl := J.symm
 replace d := d.perm (Tb (Tr Tn))
 refine ln (me (CJ hm (fun a3 E W => ∃ B H K Q, mn d1 K ∧ ST true mX w W K ((g, Ob #[B] 239) :: (H ++ Q)) ∧ E 3 = (.pointer (some ⟨g, 0, none⟩)) ∧ my 5 (nr .u8) 1 B a3 H) (fun a3 a => ?_) ?_))
 ·refine sg (Wf zx (VB d (Mt (Ma Mh)) rfl rfl cP (ln (bg (Wi rfl (Wa (ln (CI a rfl (fun b0 a => ?_) (fun b0 a => ?_)))))))))
  ·refine mc (Wm (Wf Eu (VB d (Mt (Ma Mh)) rfl rfl bZ (bS a fun i3 b6 a => ?_))))
   refine VE (eM d (Cb Pz (Cr Qz Cn)) call183 (fun l _ => (AG g G N.2 D c.mS _ _ l i b6)) ?_)
   rintro _ i8 f5 g9 d T q h ⟨e9, d3, k, rfl, c5⟩
   obtain rfl := k.symm
   replace d := d.perm (Tb (Tr Tn))
   refine mD (mL (lU ?_))
   obtain rfl := sj a
   exact ⟨e9, d3, f5, _, T, (d.lG (Kb (Kr (Db St)))), rfl, c5⟩
  refine sg (Wi rfl (Wa (ln (CI a rfl (fun b2 a => ?_) (fun b2 a => ?_)))))
  ·refine mc (Wm (Wf so (VA d (Mt (Ma Mh)) (lE c.B) bB aH (bS a fun i4 b9 a => ?_))))
   refine VE (eM d (Cb Pz (Cr Qz Cn)) call182 (fun l _ => (xo g G N.2 D c.B _ _ l i b9)) ?_)
   rintro _ i9 f6 h0 d U s h ⟨f0, d4, t, rfl, c6⟩
   obtain rfl := t.symm
   replace d := d.perm (Tb (Tr Tn))
   refine mD (mL (lU ?_))
   obtain rfl := sj a
   exact ⟨f0, d4, f6, _, U, (d.lG (Kb (Kr (Db St)))), rfl, c6⟩
  refine sg (Wi rfl (Wa (ln (CI a rfl (fun b3 a => ?_) (fun b3 a => ?_)))))
  ·refine sg (Wm (Wf so (VA d (Mt (Ma Mh)) (lE c.B) bB aH (bS a fun e6 c0 a => ?_))))
   refine VE (eM d (Cb Pz (Cr Qz Cn)) call182 (fun l _ => (xo g G N.2 D c.B _ _ l i c0)) ?_)
   rintro _ j0 j7 h1 d Y A h ⟨f1, d5, u, rfl, c7⟩
   obtain rfl := u.symm
   replace d := d.perm (Tb (Tr Tn))
   refine ln (mc (Wm (Wf AV (VB d (Mt (Ma Mh)) rfl rfl bZ (bS a fun i5 c1 a => ?_)))))
   refine VE (eM d (Cb Pz (Cr Qz Cn)) call183 (fun l _ => (AG g f1 e6.2 d5 c.mK _ _ l c7 c1)) ?_)
   rintro _ j3 f7 h2 d Z F h ⟨f2, d6, x, rfl, c8⟩
   obtain rfl := x.symm
   replace d := d.perm (Tb (Tr Tn))
   refine mD (mL (lU ?_))
   obtain rfl := sj a
   exact ⟨f2, d6, f7, _, (Y.trans Z), (d.lG (Kb (Kr (Db St)))), rfl, c8⟩
  refine sg (Wi rfl (Wa (ln (CI a rfl (fun b4 a => ?_) (fun b4 a => ?_)))))
  ·refine sg (Wm (Wf so (VA d (Mt (Ma Mh)) (lE c.B) bB aH (bS a fun e7 c2 a => ?_))))
   refine VE (eM d (Cb Pz (Cr Qz Cn)) call182 (fun l _ => (xo g G N.2 D c.B _ _ l i c2)) ?_)
   rintro _ j4 j8 h3 d a1 L h ⟨f3, d7, y, rfl, c9⟩
   obtain rfl := y.symm
   replace d := d.perm (Tb (Tr Tn))
   refine ln (mc (Wm (Wf Az (VA d (Mt (Ma Mh)) (lE c.C) bB aH (bS a fun i6 c3 a => ?_)))))
   refine VE (eM d (Cb Pz (Cr Qz Cn)) call182 (fun l _ => (xo g f3 e7.2 d7 c.C _ _ l c9 c3)) ?_)
   rintro _ j5 f8 h4 d a2 O h ⟨f4, d8, z, rfl, d0⟩
   obtain rfl := z.symm
   replace d := d.perm (Tb (Tr Tn))
   refine mD (mL (lU ?_))
   obtain rfl := sj a
   exact ⟨f4, d8, f8, _, (a1.trans a2), (d.lG (Kb (Kr (Db St)))), rfl, d0⟩
  refine np (mL (lU ?_))
  obtain rfl := sj a
  exact ⟨G, D, d1, _, (mn.refl _), (d.lG (Kb (Kr (Db St)))), rfl, i⟩
 rintro e5 E W ⟨B, H, K, Q, g1, d, d9, c4⟩ j
 refine sg (Wh d9 (bS j fun i2 b5 j => VE (pF d call184 (CR g B e5 _ _ (c4.sl (fun _ => rfl) (fun b o m => d.at_ (Mt (Ml m)))) (At.of (d.at_ Mh) _ rfl) b5) (fun h5 e8 j6 d2 d g2 n M => Wa (ln ?_)))))
 replace d := d.lG (Kr (Db (Dr St)))
 refine mB ?_
 obtain rfl := sj j
 exact ng (v := e8) rfl rfl ⟨_, d2, rfl, d.oA (fun p m => (Ml m)) M.nd, M⟩
theorem Tp (w : World) {c d : Value} {a b : List Int} (h1 : Sl (Pl (nr .u8)) 1 (hp w) c a) (g : Sl (Pl (nr .u8)) 1 (hp w) d b) : (callFunc 240 [c, d].toArray).run Tryz.prog w = .ok (.value (.int .i64 (An a b))) w := QZ func240 (by kernel_rfl) (by kernel_rfl) (by kernel_rfl) (by kernel_rfl) h1 g
theorem Dw (a : Value) (g : List Int) (c : Value) (i : List Int) (r : Int) (w : World) (j : Sl (Pl (nr .u8)) 1 (hp w) a g) (k : Sl (Pl (nr .u8)) 1 (hp w) c i) (hm : yt g i = some r) :
  mw true Tryz.prog 178 [a, c] w (.int .i64 r) := by
 exact cG 8 func178 rfl (fun b => sg (Wa (lr (Wm (Wm (VE (Oq (args := [a, c]) (v := .int .i64 (An g i)) rfl (by exact xM rfl rfl) (Tp _ (j.mono (Pl.mono _) b.lJ) (k.mono (Pl.mono _) b.lJ)) (Wa (lt (rQ hm b))))))))))
theorem Ed (g i : lB) (r : Int) (w : World) (hm : sN g i = some r) :
  mw true Tryz.prog 115 [(.agg (lD g).toArray), (.agg (lD i).toArray)] w (.int .i64 r) := by
 refine cG 10 func115 rfl (fun d => sg (VE (mI d rfl (fun T Y d => VE (mI d rfl (fun U Z d => Wa (ln (me ?_))))))))
 replace d := d.drew
 have h := d.has.lG (Kb (Kb Sn))
 refine mO h mu (XH 0 rfl h (fun _ l => lK rfl (lP l (Mt Mh) (lD g) rfl bH aI)) (XH 2 rfl h (fun _ l => lK rfl (lP l Mh (lD i) rfl bH aI)) (bS hm fun y t hm => XE 1 rfl (pF d call119 (G0 g _ _  t) (fun I B N G d a n j => ?_)))))
 have h := d.has.pC a (Dr (Kb (Kb Sn)))
 refine ⟨h, (bS hm fun z u hm => XE 3 rfl (pF d call119 (G0 i _ _  u) (fun J D Q H d c q k => ?_)))⟩
 have h := d.has.pC (a.trans c) (Dr (Dr (Kb (Kb Sn))))
 refine ⟨h, (bS hm fun M x hm => XE 4 rfl (Eg d call178 (Dw B y D z _ _ (j.sl (fun _ => rfl) (fun b o m => d.at_ (Ma (Ml m)))) (k.sl (fun _ => rfl) (fun b o m => d.at_ (Ml m))) x) (fun K d => ?_)))⟩
 have h := d.has.pC (a.trans c) (Dr (Dr (Kb (Kb Sn))))
 refine ⟨h, (X 5 rfl h (oL rfl) (nc kr (lU ?_)))⟩
 exact mB (rQ hm d)
theorem EO (j : Value) (a0 : List lB) (x : LO) (r : List lB) (w : World) {μ0 : mF} (h0 : po μ0 (x ++ []) w) (B : my 52 lD 9 j a0 x) (hm : uW a0 = some r) :
  nH true Tryz.prog 116 [j] w (x ++ []) (fun v L1 W' => ∃ y1 S2, v = y1 ∧ L1 = (S2 ++ []) ∧ my 52 lD 9 y1 r S2) := by
 refine AF h0 61 func116 rfl (fun b => sg (Wa (lS (Wm (V (qb aJ rfl B) (Wi rfl (ln (CI hm rfl (fun g0 hm => ?_) (fun g0 hm => ?_)))))))))
 ·refine sg (Wm (Wa (lt (mQ ?_))))
  obtain rfl := sj hm
  exact ng (v := j) rfl rfl ⟨_, _, rfl, (b.ol (Kr Sn)), j, x, rfl, rfl, B⟩
 refine kS (Wa (ln (nS (py (fun m E W => ∃ t P, ST true (keys (x ++ [])) w W μ0 (x ++ P) ∧ E 0 = j ∧ E 3 = (.int .i64 t) ∧ qh a0 m t = some r) mR ⟨1, _, (b.lG St), rfl, rfl, hm⟩ ?_))))
 rintro m E W ⟨t, P, b, D, H, a⟩
 cases m with
 | zero => rw [qh] at a; cases a
 | succ f5 =>
  refine me (sg (Wh H (Wh D (V (qb aJ rfl B) (Wi rfl (ln (CI a rfl (fun d0 a => ?_) (fun d0 a => ?_))))))))
  ·refine kn (me (nS (me ?_)))
   replace b := b.drew
   have d := b.has.lG (Kr Sn)
   refine mO d mu (X 0 rfl d (lO D) (X 1 rfl d (lO H) (bS a fun c3 Z a => XQ 2 rfl d (pu (i := t) (x0 := c3) aJ aI rfl rfl B (mE Z) (mA Z)) (fun g7 d6 => XH 3 rfl d (fun _ l => lK rfl (rz l (fun p h => (Ml h)) B nj d6 (mA Z) bH aI)) (X 4 rfl d (lO D) (X 5 rfl d (lO H) (X 6 rfl d (mU rfl rfl rfl) (bS a fun c4 n a => XQ 7 rfl d (pu (i := (IntKind.i64.wrap (t - 1))) (x0 := c4) aJ aI rfl rfl B (mE n) (mA n)) (fun g8 d7 => XH 8 rfl d (fun _ l => lK rfl (rz l (fun p h => (Ml h)) B nj d7 (mA n) bH aI)) (X 9 rfl d (yU rfl rfl (qt fQ) (vL (wS _ c3 c4))) (nc kr (lU ?_))))))))))))
   refine CI a rfl (fun d1 a => ?_) (fun d1 a => ?_)
   ·refine sg (Wh D (Wh H (bS a fun _ A a => VQ (wQ (i := t) aJ aI rfl rfl B (tQ A) (tu A)) (fun c1 M => Wa (lS (Wa (ln ?_)))))))
    refine CJ a (fun U E W => ∃ o R, ST true (keys (x ++ [])) w W μ0 (o ++ R) ∧ E 0 = j ∧ E 3 = (.int .i64 U.2) ∧ my 52 lD 9 j U.1 o) (fun U d4 => ?_) ?_
    ·refine nS (py (fun m E W => ∃ q K Y y b6, ST true (keys (x ++ [])) w W μ0 (K ++ b6) ∧ E 0 = j ∧ E 3 = (.int .i64 Y) ∧ E 4 = c1 ∧ E 5 = (.int .i64 y) ∧ my 52 lD 9 j q K ∧ qa t m q Y y = some U) mR ⟨a0, x, t, 1, _, (b.lG St), D, H, rfl, rfl, B, d4⟩ ?_)
     rintro m E W ⟨q, K, Y, y, b6, b, Q, T, I, J, g, k⟩
     cases m with
     | zero => rw [qa] at k; cases k
     | succ f6 =>
      refine me (sg (Wh J (Wh I (V (Gg aJ rfl M g) (Wi rfl (ln (CI k rfl (fun d2 k => ?_) (fun d2 k => ?_))))))))
      ·refine kn (me (CJ k (fun s E W => ∃ N b7, ST true (keys (x ++ [])) w W μ0 (N ++ b7) ∧ E 0 = j ∧ E 3 = (.int .i64 s.2) ∧ E 4 = c1 ∧ E 5 = (.int .i64 y) ∧ my 52 lD 9 j s.1 N) (fun s c => ?_) ?_))
       ·refine nS (me ?_)
        replace b := b.drew
        have d := b.has.lG (Kr Sn)
        refine mO d mu (X 0 rfl d (lO I) (X 1 rfl d (lO J) (bS c fun c6 a2 c => XQ 2 rfl d (wT (i := y) (x0 := c6) aJ aI rfl rfl g M (mE a2) (mA a2)) (fun g9 d8 => XH 3 rfl d (fun _ l => lK rfl (rz l (fun p h => (Ml h)) g nj d8 (yI (mA a2)) bH aI)) (X 4 rfl d (lO I) (X 5 rfl d (lO J) (X 6 rfl d (mU rfl rfl rfl) (bS c fun c7 a3 c => XQ 7 rfl d (wT (i := (IntKind.i64.wrap (y - 1))) (x0 := c7) aJ aI rfl rfl g M (mE a3) (mA a3)) (fun h1 d9 => XH 8 rfl d (fun _ l => lK rfl (rz l (fun p h => (Ml h)) g nj d9 (yI (mA a3)) bH aI)) (X 9 rfl d (KZ rfl rfl (qt fQ) (G6 (wS _ c6 c7))) (nc kr (lU ?_))))))))))))
        refine CI c rfl (fun d3 c => ?_) (fun d3 c => ?_)
        ·refine sg (Wh Q (Wh T (Wh I (Wh J (bS c fun a9 a4 c => VQ (wT (i := y) (x0 := a9) aJ aI rfl rfl g M (mE a4) (mA a4)) (fun h2 e0 => V (lK rfl (rz b.has (fun p h => (Ml h)) g nj e0 (yI (mA a4)) bH aI)) (bS c fun f8 a5 c => VQ (pu (i := Y) (x0 := f8) aJ aI rfl rfl g (mE a5) (mA a5)) (fun h3 e1 => VO (Ay (u := (.agg (lD a9).toArray)) (x1 := a9)  b g nj pb rfl rfl rfl e1 (mA a5) aI (fun g3 e8 b c9 => ln (mc ?_)))))))))))
         refine Wh T (Wi rfl (Wa (mD (mL (lU ?_)))))
         obtain rfl := sj c
         exact ⟨e8, _, (b.lG St), Q, rfl, I, J, c9⟩
        refine np (mL (lU ?_))
        obtain rfl := sj c
        exact ⟨K, _, (b.lG St), Q, T, I, J, g⟩
       rintro ⟨f4, f7⟩ E W ⟨N, b7, b, f0, f1, f2, f3, e4⟩ d5
       exact mc (Wh f3 (Wi rfl (Wa (ln ⟨f6, bL _, f4, N, f7, (IntKind.i64.wrap (y + 1)), _, (b.lG St), f0, f1, f2, rfl, e4, d5⟩))))
      refine pc (oQ (oQ (tX (lU ?_))))
      obtain rfl := sj k
      exact ⟨K, _, (b.lG St), Q, T, g⟩
    rintro ⟨g4, c5⟩ E W ⟨o, R, b, b9, c0, O⟩ G
    refine sg (Wh b9 (Wh c0 (bS G fun _ F G => VQ (wQ (i := c5) aJ aI rfl rfl O (tQ F) (tu F)) (fun h4 e2 => VO (zJ (z := Ty)  b O nj pb aJ cM e2 rfl rfl (fun g2 e7 b c8 => lr (Wh b9 (Wh c0 (bS G fun _ L G => VQ (wA (i := c5) aJ aI rfl rfl c8 nj (tQ L) (tu L)) (fun c2 e3 => ?_))))))))))
    refine Wa (lt (oh (mQ (mQ (oh (mQ ?_))))))
    obtain rfl := sj G
    exact ng (v := c2) rfl rfl ⟨_, _, rfl, (b.ol (Kr Sn)), c2, e7, rfl, rfl, e3⟩
   exact np (mL (lU (mc (Wh H (Wi rfl (Wa (ln ⟨f5, bL _, (IntKind.i64.wrap (t + 1)), _, (b.lG St), D, rfl, a⟩)))))))
  refine pc (oQ (oQ (tX (lU (sg (Wh D (Wa (lt ?_))))))))
  obtain rfl := sj a
  exact ng (v := j) rfl rfl ⟨_, _, rfl, (b.ol (Kr Sn)), j, x, rfl, rfl, B⟩
theorem wC (i : Value) (t r : List lB) (w : World) (B : Sl (Pl lD) 9 (hp w) i t) (hm : oW t = some r) :
  nC false Tryz.prog 52 [i] w 52 lD 9 r := by
 refine vV 11 func52 rfl (fun b => sg (Wa (lr (Wm (bS hm fun u T hm => VE (pF b call61 (nC.nz (A4 i t _ _ (B.mono (Pl.mono _) b.lJ) T)) (fun W3 v7 y R8 b a5 o Q => bS hm fun U D hm => ?_)))))))
 refine VE (eM b (Cr Qz Cn) call111 (fun h _ => (tO v7 u R8 (.func (.func 112) #[] #[]) (fun (x : lB) => zM x) _ _ h Q ⟨112, #[], #[], rfl, call112, fun W x r s hm => (KB x r W  hm).nz⟩ D)) ?_)
 rintro _ O b9 A b z l d ⟨k, K, a, rfl, I⟩
 obtain rfl := a.symm
 replace b := b.perm (Tr Tn)
 refine Wa (lr (Wm (bS hm fun Y G hm => ?_)))
 refine VE (eM b (Cr Qz Cn) call114 (fun h _ => nH.nz (OJ k U K (.func (.func 115) #[] #[]) (fun (x : (lB × lB)) => sN x.1 x.2) _ _ h I ⟨115, #[], rfl, call115, fun W x r s hm => Ed x.1 x.2 r W  hm⟩ G)) ?_)
 rintro _ P c0 a9 b a2 m d ⟨M, c, rfl, J⟩
 obtain rfl := c.symm
 replace b := b.perm (Tr Tn)
 refine lr (Wm (bS hm fun L H hm => ?_))
 refine VE (eM b (Cr Qz Cn) call116 (fun h _ => nH.nz (EO k Y M _ _ h J H)) ?_)
 rintro _ R c1 F b a3 n d ⟨Z, N, g, rfl, j⟩
 obtain rfl := g.symm
 replace b := b.perm (Tr Tn)
 refine Wa (lt ?_)
 obtain rfl := sj hm
 exact ng (v := Z) rfl rfl ⟨_, N, rfl, b.oA (fun p q => (Ml q)) j.nd, j⟩
theorem yf (t : Value) (y : List lB) (u : Value) (K : List lB) (r : Bool) (w : World) (c : Sl (Pl lD) 9 (hp w) t y) (z : Sl (Pl lD) 9 (hp w) u K) (hm : qX y K = some r) :
  mw true Tryz.prog 144 [t, u] w (.bool r) := by
 refine cG 26 func144 rfl (fun d => sg (Wa (lS (Wm (V (nh aJ rfl c) (Wm (V (nh aJ rfl z) (Wi rfl (mD ?_)))))))))
 refine lU (CI hm rfl (fun U hm => ?_) (fun U hm => ?_))
 ·refine sg (Wa (lt (mQ ?_)))
  obtain rfl := sj hm
  exact rP d
 refine kS (Wm (V (nh aJ rfl c) (Wm (ln (mY (fun i E W => ∃ g, (E 13 = .int .i64 (i : Nat) ∧ E 12 = .int .i64 (y.length : Nat)) ∧ ST true mX w W (hp w) g ∧ E 0 = t ∧ E 1 = u ∧ sb K (y.drop i) i = some r) y.length c.len ⟨_, ⟨rfl, rfl⟩, (d.lG St), rfl, rfl, hm⟩ dc dc dc (fun _ _ _ h => by obtain ⟨_, m, _⟩ := h; exact m) ?_ ?_)))))
 ·rintro I E W M ⟨g, ⟨l, o⟩, d, j, k, a⟩
  obtain ⟨J, a3, Q, N, T⟩ := mM M
  rw [Q] at a
  refine bg (Wh l (Wa (ln (me ?_))))
  replace d := d.drew
  have b := d.has.lG Sn
  refine mO b mu (X 0 rfl b (lO j) (X 1 rfl b (lO rfl) (XQ 2 rfl b (pg (enc := lD) (i := (I : Int)) (x0 := J) aJ aI rfl rfl c (aG _) N) (fun Y G => XH 3 rfl b (fun _ n => lK rfl (ms n G bH aI)) (X 4 rfl b (lO k) (X 5 rfl b (lO rfl) (bS a fun B x a => XQ 6 rfl b (pg (enc := lD) (i := (I : Int)) (x0 := B) aJ aI rfl rfl z (mE x) (mA x)) (fun Z H => XH 7 rfl b (fun _ n => lK rfl (ms n H bH aI)) (X 8 rfl b (KZ rfl rfl (qt fQ) (G6 (wS _ J B))) (nc kr (lU (CI a rfl (fun D a => ?_) (fun D a => ?_)))))))))))))
  ·refine sg (Wa (lt (oh (mQ (oh (mQ ?_))))))
   obtain rfl := sj a
   exact rP d
  exact np (mL (lU ⟨l, _, ⟨rfl, o⟩, (d.lG St), j, k, (by rw [T]; exact a)⟩))
 rintro E W ⟨g, ⟨l, o⟩, d, j, k, a⟩
 rw [aK] at a
 exact lU (sg (Wa (lt (rQ a d))))
theorem EM (a : Value) (g : List lB) (r : Bool) (w : World) (c : Sl (Pl lD) 9 (hp w) a g) (hm : xi g = some r) :
  mw false Tryz.prog 201 [a] w (.bool r) := by
 refine cG 7 func201 rfl (fun d => sg (Wa (lr (Wm (bS hm fun u t hm => VE (pF d call52 (wC a g _ _ (c.mono (Pl.mono _) d.lJ) t) (fun D x G B d i h k => Wm (bS hm fun z j hm => VE (Eg d call144 (mw.nz (yf x u a g _ _ (k.sl nj (fun b o l => d.at_ (Ml l))) (c.mono (Pl.mono _) (i.trans d.lJ)) j)) (fun y d => Wa ?_))))))))))
 refine ln ?_
 exact mB (rQ hm d)
theorem Kz (z : lF) (x B : Value) (r : Bool) (w : World) (g : Sl mx 15 (hp w) x z.lX) (M : Sl mV 8 (hp w) B z.ml) (hm : B5 z = some r) :
  mw false Tryz.prog 141 [(.agg #[(.string z.Name), x, B])] w (.bool r) := by
 refine cG 33 func141 rfl (fun d => sg ?_)
 obtain ⟨A1, c2, rfl⟩ := g.form
 obtain ⟨A3, c4, rfl⟩ := M.form
 refine VE (mI d rfl (fun W6 b5 d => Wa (lr (Wa (lS (Wf AD (VB d Mh rfl rfl kH (V (nh dN rfl g) ?_))))))))
 refine Wm (ln ?_)
 replace d := d.lG (Db St)
 refine mY (fun i E W => ∃ u H y T, (E 9 = .int .i64 (i : Nat) ∧ E 8 = .int .i64 (z.lX.length : Nat)) ∧ ST false mX w W (hp w) (y ++ T) ∧ E 3 = u ∧ E 7 = (.slice A1 z.lX.length c2) ∧ my 52 lD 9 u H y ∧ ui (z.lX.drop i) H = some r) z.lX.length g.len ⟨(.slice none 0 0), ([]), [], _, ⟨rfl, rfl⟩, (d.lG St), rfl, rfl, (my.nil _ _ _), hm⟩ dc dc dc (fun _ _ _ h => by obtain ⟨_, _, _, _, n, _⟩ := h; exact n) ?_ ?_
 ·rintro a3 E W L ⟨u, H, y, T, ⟨m, q⟩, d, I, J, K, j⟩
  obtain ⟨a, d1, b3, b2, b4⟩ := mM L
  rw [b3] at j
  refine bg (VQ (od (i := (a3 : Int)) (x0 := a) mx.out dN dQ J m g (aG _) b2) (fun e0 ⟨_, ⟨e3, e4, rfl, Y, Z⟩, a9⟩ => V (lK rfl (ms d.has a9 kJ dQ)) (VE (mz d eZ (fun d3 a2 d => ?_)))))
  obtain ⟨Q, U, rfl⟩ := Y.form
  obtain ⟨D, G, rfl⟩ := Z.form
  let a0 := (C4 a.Signed.lB.Kind a.Signed.lB.Head.lI a.Signed.lB.Head.lM a.Signed.lB.mS a.Signed.lB.B.lI a.Signed.lB.B.lM a.Signed.lB.C.lI a.Signed.lB.C.lM a.Signed.lB.mK Q a.Signed.Tag.length U a.lL.Op a.lL.K a.lL.lC.lI a.lL.lC.lM D a.lL.Kids.length G)
  refine VO (mh (.agg a0.toArray) (a0.toArray) d rfl rfl dQ oc nb rfl (fun d4 d => lS (Wf yE (Wf En (VB d Mh rfl rfl jv (V (nh cN rfl Y) (Wi rfl (Wm (LJ j (fun a4 E W => ∃ s, ST false mX w W (hp w) ((a2, Ol a0 60) :: (y ++ s)) ∧ E 3 = u ∧ E 5 = (.pointer (some ⟨a2, 0, none⟩)) ∧ E 7 = (.slice A1 z.lX.length c2) ∧ E 8 = (.int .i64 (z.lX.length : Int)) ∧ E 9 = (.int .i64 (a3 : Int)) ∧ E 23 = (.bool a4)) 5 ?_ (fun a4 t N => ?_))))))))))
  ·rintro e5 E W ⟨s, d, c1, c3, c5, c6, c7, c8⟩ k
   refine ln (CI k c8 (fun A k => ?_) (fun A k => ?_))
   ·refine sg (Wa (ln ?_))
    replace d := d.lG (Db (Dr St))
    refine mB (mQ (oh (mQ (oh (mQ ?_)))))
    obtain rfl := sj k
    exact rP d
   refine kn (mc (Wh c1 (V (lN yE c3) (Wf tj (VA d Mh (lD a.Signed.lB) bH aI (VE (mN (cs := (lD a.Signed.lB).toArray) d (oX rfl) (oR aJ aI cM) (fun d5 b9 d => ?_))))))))
   replace d := d.perm (Nr (Qb (Qb Qz)) Nz)
   refine bS k fun c9 F k => VE (pf (enc := lD) (v := u) (vs := (.slice (some ⟨b9, 0, none⟩) 1 1)) (R := y) d nj dc pb aJ oG.1 oG.2.1 rfl oG.2.2.1 oG.2.2.2 rfl rfl K (Sl.lit (enc := lD) (l := [a.Signed.lB]) nj rfl nb rfl (d.at_ (Ma Mh))) F (fun d6 d0 b7 d a5 => Wa (mD (mL (lU ?_)))))
   replace d := d.lG (Kr (Db (Db St)))
   exact ⟨c7, d0, c9, b7, _, ⟨rfl, c6⟩, (d.lG St), rfl, c5, a5, (by rw [b4]; exact k)⟩
  refine bC t (fun c t => ?_) (fun c t => ?_)
  ·refine un c (un c (un c (un c (V (mo (cB c) rfl) ?_))))
   obtain rfl := sj t
   exact N _ _ ⟨_, (d.lG St), I, rfl, J, q, m, rfl⟩
  refine ug c (lN LZ rfl) (ug c (lK rfl (lP d.has Mh (C1 a.lL.Op a.lL.K a.lL.lC.lI a.lL.lC.lM D a.lL.Kids.length G) rfl aZ aD)) (bS t fun e1 O t => uJ c (Eg d call72 (uT a.lL (.slice D a.lL.Kids.length G) _ _ (Z.mono mf.mono d.lJ) O) (fun d7 d => ug c (oH rfl) (V (mq (cB c) rfl) ?_)))))
  obtain rfl := sj t
  exact N _ _ ⟨_, (d.lG St), I, rfl, J, q, m, rfl⟩
 rintro E W ⟨u, H, y, T, ⟨m, q⟩, d, I, J, K, j⟩
 rw [aK] at j
 refine lU (sg (Wh I (bS j fun e2 P j => VE (Eg d call201 (EM u H _ _ (K.sl nj (fun b o hq => d.at_ (Ml hq))) P) (fun d8 d => Wa (ln ?_))))))
 exact mB (rQ j d)
theorem Mw (x : Value) (T : List ny) (r : Bool) (w : World) (n : Sl mV 8 (hp w) x T) (hm : CF T = some r) :
  mw false Tryz.prog 142 [x] w (.bool r) := by
 refine cG 45 func142 rfl (fun d => sg (Wa (lS (Wm (V (nh cO rfl n) (Wm (ln (mY (fun i E W => ∃ a2, (E 7 = .int .i64 (i : Nat) ∧ E 6 = .int .i64 (T.length : Nat)) ∧ ST false mX w W (hp w) a2 ∧ E 0 = x ∧ E 5 = x ∧ ve T (T.drop i) i = some r) T.length n.len ⟨_, ⟨rfl, rfl⟩, (d.lG St), rfl, rfl, hm⟩ dc dc dc (fun _ _ _ h => by obtain ⟨_, s, _⟩ := h; exact s) ?_ ?_))))))))
 ·rintro G E W c9 ⟨a2, ⟨m, v⟩, d, a3, N, t⟩
  obtain ⟨a, g0, e1, e0, e2⟩ := mM c9
  rw [e1] at t
  refine bg (Wh m (VQ (od (i := (G : Int)) (x0 := a) mV.out cO dP N m n (aG _) e0) (fun g9 ⟨_, ⟨h6, h7, rfl, F, L⟩, d3⟩ => V (lK rfl (ms d.has d3 kG dP)) (VE (mz d iB (fun g1 M d => Wa ?_))))))
  let g5 : Value := (.int .i64 (T.length : Int))
  let b8 : Value := (.int .i64 (G : Int))
  obtain ⟨B, D, rfl⟩ := F.form
  obtain ⟨H, I, rfl⟩ := L.form
  let a0 := (C6 a.lC.lI a.lC.lM a.lL.Op a.lL.K a.lL.lC.lI a.lL.lC.lM B a.lL.Kids.length D H a.nn.length I)
  refine VO (mh (.agg a0.toArray) (a0.toArray) d rfl rfl dP oc nb rfl (fun g2 d => ln (me ?_)))
  replace d := d.drew
  have b := d.has.lG (Kb Sn)
  refine mO b mu (X 0 rfl b (lN Gf rfl) (XH 1 rfl b (fun _ l => lK rfl (lP l Mh (lE a.lC) rfl bB aH)) (bS t fun h2 d6 t => XE 2 rfl (Eg d kI (mw.nz (tL a.lC _ _  d6)) (fun g3 d => ?_)))))
  have b := d.has.lG (Kb Sn)
  refine ⟨b, (X 3 rfl b (oH rfl) (X 4 rfl b (lO rfl) (PJ t (fun c7 E W => ∃ P, ST false mX w W (hp w) ((M, Ol a0 87) :: P) ∧ E 0 = x ∧ E 3 = b8 ∧ E 4 = (.pointer (some ⟨M, 0, none⟩)) ∧ E 5 = x ∧ E 6 = g5 ∧ E 7 = b8 ∧ E 21 = (.bool c7)) (bm 32 1023) 22 ?_ (fun c7 z A => ?_))))⟩
  ·rintro i0 E W ⟨P, d, b7, b9, a4, c0, c1, c2, e3⟩ d0
   have b := d.has.lG (Kb Sn)
   refine X 10 rfl b (lO e3) (PJ d0 (fun c6 E W => ∃ R, ST false mX w W (hp w) ((M, Ol a0 87) :: R) ∧ E 0 = x ∧ E 3 = b8 ∧ E 4 = (.pointer (some ⟨M, 0, none⟩)) ∧ E 5 = x ∧ E 6 = g5 ∧ E 7 = b8 ∧ E 27 = (.bool c6)) (bm 32 65535) 16 ?_ (fun c6 y Z => ?_))
   ·rintro f7 E W ⟨R, d, Q, c3, e4, a5, o, q, e5⟩ d1
    have b := d.has.lG (Kb Sn)
    refine X 16 rfl b (lO e5) (PJ d1 (fun c4 E W => ∃ b5, ST false mX w W (hp w) ((M, Ol a0 87) :: b5) ∧ E 0 = x ∧ E 5 = x ∧ E 6 = g5 ∧ E 7 = b8 ∧ E 43 = (.bool c4)) (bm 32 4294967295) 0 ?_ (fun c4 K U => ?_))
    ·rintro i1 E W ⟨b5, d, e6, e7, e8, e9, f0⟩ J
     refine nc kr (lU ?_)
     replace d := d.lG (Db St)
     refine CI J f0 (fun c8 J => ?_) (fun c8 J => ?_)
     ·refine sg (Wa (lt (oh (mQ (oh (mQ ?_))))))
      obtain rfl := sj J
      exact rP d
     exact np (mL (lU ⟨e9, _, ⟨rfl, e8⟩, (d.lG St), e6, e7, (by rw [e2]; exact J)⟩))
    refine bC K (fun g K => ?_) (fun g K => ?_)
    ·refine Xn 17 rfl rfl (cB g) b (Xn 18 rfl rfl (cB g) b (Xn 19 rfl rfl (cB g) b (Xu 20 rfl rfl rfl b (Xu 21 rfl rfl rfl b (Xu 22 rfl rfl rfl b (Xu 23 rfl rfl rfl b (Xu 24 rfl rfl rfl b (Xu 25 rfl rfl rfl b (Xu 26 rfl rfl rfl b (Xu 27 rfl rfl rfl b (Xu 28 rfl rfl rfl b (Xu 29 rfl rfl rfl b (Xn 30 rfl rfl (cB g) b (X 31 rfl b (mo (cB g) rfl) ?_))))))))))))))
     obtain rfl := sj K
     refine nE kr (U _ _ ⟨_, (d.lG St), Q, a5, o, q, rfl⟩)
    refine Xg 17 rfl rfl (cB g) b (lO c3) (Xg 18 rfl rfl (cB g) b (mU rfl rfl rfl) (Xg 19 rfl rfl (cB g) b (lO rfl) (PJ K (fun c5 E W => ∃ b6, ST false mX w W (hp w) ((M, Ol a0 87) :: b6) ∧ E 0 = x ∧ E 5 = x ∧ E 6 = g5 ∧ E 7 = b8 ∧ E 28 = (.bool f7) ∧ E 42 = (.bool c5)) (bm 32 2147483647) 1 ?_ (fun c5 u Y => ?_))))
    ·rintro i2 E W ⟨b6, d, f1, f2, f3, f4, f5, f6⟩ d2
     have b := d.has.lG (Kb Sn)
     refine X 31 rfl b (mq (f5.trans (cB g)) f6) ?_
     obtain rfl := sj d2
     refine nE kr (U _ _ ⟨_, (d.lG St), f1, f2, f3, f4, rfl⟩)
    refine bC u (fun c u => ?_) (fun c u => ?_)
    ·refine Xg 20 rfl rfl (cB c) b (lO Q) (Xg 21 rfl rfl (cB c) b (lO c3) (Xg 22 rfl rfl (cB c) b (mU rfl rfl rfl) (bS u fun a9 O u => uP 23 rfl kr (.inr ⟨19, true, 31, rfl, rfl, by decide, (cB c)⟩) rfl dc (fun _ _ h => h) b (od (i := (IntKind.i64.wrap ((G : Int) - 1))) (x0 := a9) mV.out cO dP rfl rfl n (mE O) (mA O)) (fun h0 ⟨_, ⟨h8, h9, rfl, f8, f9⟩, d4⟩ => uP 24 rfl kr (.inr ⟨19, true, 31, rfl, rfl, by decide, (cB c)⟩) rfl dc (fun _ _ h => h) b (sO (lE a9.lC) Gf rfl d4 rfl) (fun h1 d5 => sc 25 rfl rfl (cB c) b (fun _ l => lK rfl (ms l d5 bB aH)) (Xg 26 rfl rfl (cB c) b (lN Gf e4) (sc 27 rfl rfl (cB c) b (fun _ l => lK rfl (lP l Mh (lE a.lC) rfl bB aH)) (bS u fun h3 d7 u => As 28 rfl rfl (cB c) (Eg d call155 (mw.nz (Bd a9.lC a.lC _ _  d7)) (fun g4 d => ?_))))))))))
     have b := d.has.lG (Kb Sn)
     refine ⟨b, (Xg 29 rfl rfl (cB c) b (mU rfl rfl rfl) (Xg 30 rfl rfl (cB g) b (mo (cB c) rfl) ?_))⟩
     obtain rfl := sj u
     refine nE kr (Y _ _ ⟨_, (d.lG St), Q, a5, o, q, rfl, rfl⟩)
    refine Xn 20 rfl rfl (cB c) b (Xn 21 rfl rfl (cB c) b (Xn 22 rfl rfl (cB c) b (Xn 23 rfl rfl (cB c) b (Xn 24 rfl rfl (cB c) b (Xn 25 rfl rfl (cB c) b (Xn 26 rfl rfl (cB c) b (Xn 27 rfl rfl (cB c) b (Xn 28 rfl rfl (cB c) b (Xn 29 rfl rfl (cB c) b (Xg 30 rfl rfl (cB g) b (mq (cB c) rfl) ?_))))))))))
    obtain rfl := sj u
    refine nE kr (Y _ _ ⟨_, (d.lG St), Q, a5, o, q, rfl, rfl⟩)
   refine bC y (fun k y => ?_) (fun k y => ?_)
   ·refine Xn 11 rfl rfl (cB k) b (Xn 12 rfl rfl (cB k) b (Xn 13 rfl rfl (cB k) b (Xn 14 rfl rfl (cB k) b (X 15 rfl b (mo (cB k) rfl) ?_))))
    obtain rfl := sj y
    refine nE kr (Z _ _ ⟨_, (d.lG St), b7, b9, a4, c0, c1, c2, rfl⟩)
   refine Xg 11 rfl rfl (cB k) b (lN EQ a4) (sc 12 rfl rfl (cB k) b (fun _ l => lK rfl (ma l Mh rfl eU)) (bS y fun h4 d8 y => As 13 rfl rfl (cB k) (Eg d call201 (EM (.slice H a.nn.length I) a.nn _ _ (L.mono (Pl.mono _) d.lJ) d8) (fun g7 d => ?_))))
   have b := d.has.lG (Kb Sn)
   refine ⟨b, (Xg 14 rfl rfl (cB k) b (oH rfl) (X 15 rfl b (mq (cB k) rfl) ?_))⟩
   obtain rfl := sj y
   refine nE kr (Z _ _ ⟨_, (d.lG St), b7, b9, a4, c0, c1, c2, rfl⟩)
  refine bC z (fun j z => ?_) (fun j z => ?_)
  ·refine Xn 5 rfl rfl (cB j) b (Xn 6 rfl rfl (cB j) b (Xn 7 rfl rfl (cB j) b (Xn 8 rfl rfl (cB j) b (X 9 rfl b (mo (cB j) rfl) ?_))))
   obtain rfl := sj z
   refine nE kr (A _ _ ⟨_, (d.lG St), a3, rfl, rfl, N, v, m, rfl⟩)
  refine Xg 5 rfl rfl (cB j) b (lN GZ rfl) (sc 6 rfl rfl (cB j) b (fun _ l => lK rfl (lP l Mh (C1 a.lL.Op a.lL.K a.lL.lC.lI a.lL.lC.lM B a.lL.Kids.length D) rfl aZ aD)) (bS z fun h5 d9 z => As 7 rfl rfl (cB j) (Eg d call72 (uT a.lL (.slice B a.lL.Kids.length D) _ _ (F.mono mf.mono d.lJ) d9) (fun g8 d => ?_))))
  have b := d.has.lG (Kb Sn)
  refine ⟨b, (Xg 8 rfl rfl (cB j) b (oH rfl) (X 9 rfl b (mq (cB j) rfl) ?_))⟩
  obtain rfl := sj z
  refine nE kr (A _ _ ⟨_, (d.lG St), a3, rfl, rfl, N, v, m, rfl⟩)
 rintro E W ⟨a2, ⟨m, v⟩, d, a3, N, t⟩
 rw [aK] at t
 exact lU (sg (Wa (lt (rQ t d))))
theorem xR (g : Value) (t : List mG) (j : Value) (z : mG → Option Bool) (r : Int) (w : World) (c : Sl mx 15 (hp w) g t) (B : yo Tryz.prog j (hp w) (Br mx) (fun (r : Bool) => (.bool r)) z) (hm : qS t z = some r) :
  mw false Tryz.prog 127 [g, j] w (.int .i64 r) := by
 refine cG 19 func127 rfl (fun b => sg (Wa (lS (Wm (V (nh dN rfl c) (Wm (ln (mY (fun i E W => ∃ k, (E 8 = .int .i64 (i : Nat) ∧ E 7 = .int .i64 (t.length : Nat)) ∧ ST false mX w W (hp w) k ∧ E 0 = g ∧ E 1 = j ∧ pd z (t.drop i) i = some r) t.length c.len ⟨_, ⟨rfl, rfl⟩, (b.lG St), rfl, rfl, hm⟩ dc dc dc (fun _ _ _ h => by obtain ⟨_, l, _⟩ := h; exact l) ?_ ?_))))))))
 ·rintro T E W G ⟨k, ⟨d, m⟩, b, u, x, a⟩
  obtain ⟨y, Z, N, M, Q⟩ := mM G
  rw [N] at a
  refine bg (Wh d (Wa (lr (Wh x (Wh u (Wm (VQ (od (i := (T : Int)) (x0 := y) mx.out dN dQ rfl rfl c (aG _) M) (fun a2 ⟨_, ⟨U, Y, rfl, J, K⟩, H⟩ => V (lK rfl (ms b.has H kJ dQ)) (bS a fun a3 I a => ?_)))))))))
  refine VE (zO y b B (mn.refl _) (Br.mk mH (mx.mk ⟨U, Y, rfl, J, K⟩) b.lJ) rfl (uC rfl) I (fun n b => ln (CI a rfl (fun D a => ?_) (fun D a => ?_))))
  ·refine sg (Wm (Wa (lt (oh (mQ (oh (mQ ?_)))))))
   obtain rfl := sj a
   exact rP b
  exact np (mL (lU ⟨d, _, ⟨rfl, m⟩, (b.lG St), u, x, (by rw [Q]; exact a)⟩))
 rintro E W ⟨k, ⟨d, m⟩, b, u, x, a⟩
 rw [aK] at a
 exact lU (sg (Wa (lt (rQ a b))))
theorem AZ (a : Value) (g : List mG) (c : Value) (i : mG → Option Bool) (r : Bool) (w : World) (j : Sl mx 15 (hp w) a g) (k : yo Tryz.prog c (hp w) (Br mx) (fun (r : Bool) => (.bool r)) i) (hm : ri g i = some r) :
  mw false Tryz.prog 202 [a, c] w (.bool r) := by
 refine cG 9 func202 rfl (fun b => sg (Wa (lr (Wm (Wm (bS hm fun x t hm => VE (Eg b call127 (xR a g c i _ _ (j.mono mH.mono b.lJ) (k.mono b.lJ) t) (fun u b => Wi rfl (Wa (mD ?_))))))))))
 exact lU (mB (rQ hm b))
theorem IE (a : mG) (g c : Value) (k : Nat) (u : lB) (r : Bool) (w : World) (j : Sl (Pl (nr .u8)) 1 (hp w) g a.Signed.Tag) (i : Sl lH 5 (hp w) c a.lL.Kids) (t : At (hp w) (.pointer (some ⟨k, 0, none⟩)) (lD u)) (hm : yp a u = some r) :
  mw true Tryz.prog 128 [(.agg #[(.int .i64 a.Signed.lB.Kind), (.string a.Signed.lB.Head.lI), (.string a.Signed.lB.Head.lM), (.string a.Signed.lB.mS), (.string a.Signed.lB.B.lI), (.string a.Signed.lB.B.lM), (.string a.Signed.lB.C.lI), (.string a.Signed.lB.C.lM), (.string a.Signed.lB.mK), g, (.int .i64 a.lL.Op), (.int .i64 a.lL.K), (.string a.lL.lC.lI), (.string a.lL.lC.lM), c]), (.pointer (some ⟨k, 0, none⟩))] w (.bool r) := by
 refine cG 9 func128 rfl (fun b => sg ?_)
 obtain ⟨x, z, rfl⟩ := j.form
 obtain ⟨y, B, rfl⟩ := i.form
 refine VE (mI b rfl (fun D G b => Wa (lr (Wf yE (Wf tj (VA b Mh (lD a.Signed.lB) bH aI (V (lK rfl (ms b.has t bH aI)) (V (yU rfl rfl (qt fQ) (vL (wS _ a.Signed.lB u))) (Wa (ln ?_))))))))))
 exact mB (rQ hm b)
theorem Mo (k : lF) (g j : Value) (D : lB) (r : (mG × Bool)) (w : World) {J : mF} (l : po J [] w) (c : Sl mx 15 J g k.lX) (B : Sl mV 8 J j k.ml) (hm : AH k D = some r) :
  nM false Tryz.prog 69 [(.agg #[(.string k.Name), g, j]), (.agg (lD D).toArray)] w J [] (fun v L1 μ1 => ∃ d h, v = (.tuple #[(.agg #[(.int .i64 ((((r.1).Signed).lB).Kind)), (.string (((((r.1).Signed).lB).Head).lI)), (.string (((((r.1).Signed).lB).Head).lM)), (.string ((((r.1).Signed).lB).mS)), (.string (((((r.1).Signed).lB).B).lI)), (.string (((((r.1).Signed).lB).B).lM)), (.string (((((r.1).Signed).lB).C).lI)), (.string (((((r.1).Signed).lB).C).lM)), (.string ((((r.1).Signed).lB).mK)), d, (.int .i64 (((r.1).lL).Op)), (.int .i64 (((r.1).lL).K)), (.string ((((r.1).lL).lC).lI)), (.string ((((r.1).lL).lC).lM)), h]), (.bool (r.2))]) ∧ L1 = [] ∧ Sl (Pl (nr .u8)) 1 μ1 d (((r.1).Signed).Tag) ∧ Sl lH 5 μ1 h (((r.1).lL).Kids)) := by
 refine vA l 19 func69 rfl (fun b => sg ?_)
 obtain ⟨T, U, rfl⟩ := c.form
 obtain ⟨A3, c4, rfl⟩ := B.form
 refine VE (mI b rfl (fun W6 O b => VE (mI b rfl (fun W8 K b => VE (mz b eZ (fun F R b => Wa (lr (Wf AD (VB b (Mt (Mt Mh)) rfl rfl kH (V (qk (by exact uC rfl) rfl) (bS hm fun Z Q hm => VE (Eg b call127 (xR (.slice T k.lX.length U) k.lX (.func (.func 128) #[] #[(.pointer (some ⟨K, 0, none⟩))]) (fun (x : mG) => yp x D) _ _ (c.mono mH.mono b.lJ) ⟨128, #[], #[(.pointer (some ⟨K, 0, none⟩))], rfl, call128, fun W x vs r n m hm => by obtain ⟨_, rfl, Y⟩ := m; obtain ⟨s, A, rfl, o, q⟩ := Y.out; exact (IE x s A K D r W o q (At.of (n _ _ (b.at_ (Mt Mh))) _ rfl) hm).nz⟩ Q) (fun L b => Wa (mD ?_))))))))))))))
 refine lU ?_
 replace b := b.lG (Kb (Db St))
 refine me (sg (Wm (Wi rfl (ln (CI hm rfl (fun M hm => ?_) (fun M hm => ?_))))))
 ·refine sg (V (nZ (v := (.agg PK.toArray)) sL (nB eZ gH (QH _ gH) kr)) (VO (mh (.agg PK.toArray) (PK.toArray) b rfl rfl dQ oc nb rfl (fun P b => Wa (ln ?_)))))
  replace b := b.lG (Kb (Db St))
  refine mB (mQ ?_)
  obtain rfl := sj hm
  exact sK (v0 := (.agg PK.toArray)) (v1 := (.bool false)) rfl rfl (lP b.has Mh PK rfl kJ dQ) rfl ⟨_, _, _, rfl, (b.ol Sn), (mn.refl _), Lo.refl, (ST.nm b (oK.mem Sn)), (.slice none 0 0), (.slice none 0 0), rfl, rfl, (Sl.nil _ _ _), (Sl.nil _ _ _)⟩
 refine kg (Wf AD (VB b (Mt Mh) rfl rfl kH (Wm (bS hm fun a I hm => VQ (od (i := Z) (x0 := a) mx.out dN dQ rfl rfl c (mE I) (mA I)) (fun c1 ⟨_, ⟨c3, c5, rfl, G, H⟩, N⟩ => V (lK rfl (ms b.has N kJ dQ)) ?_)))))
 obtain ⟨t, y, rfl⟩ := G.form
 obtain ⟨u, z, rfl⟩ := H.form
 let a0 := (C4 a.Signed.lB.Kind a.Signed.lB.Head.lI a.Signed.lB.Head.lM a.Signed.lB.mS a.Signed.lB.B.lI a.Signed.lB.B.lM a.Signed.lB.C.lI a.Signed.lB.C.lM a.Signed.lB.mK t a.Signed.Tag.length y a.lL.Op a.lL.K a.lL.lC.lI a.lL.lC.lM u a.lL.Kids.length z)
 refine VO (mh (.agg a0.toArray) (a0.toArray) b rfl rfl dQ oc nb rfl (fun c0 b => Wa (ln ?_)))
 replace b := b.lG (Kb (Db St))
 refine mB ?_
 obtain rfl := sj hm
 exact sK (v0 := (.agg a0.toArray)) (v1 := (.bool true)) rfl rfl (lP b.has Mh a0 rfl kJ dQ) rfl ⟨_, _, _, rfl, (b.ol Sn), (mn.refl _), Lo.refl, (ST.nm b (oK.mem Sn)), (.slice t a.Signed.Tag.length y), (.slice u a.lL.Kids.length z), rfl, rfl, G, H⟩
theorem yF (c : Value) (u r : List ny) (w : World) {j : mF} (I : po j [] w) (a : Sl mV 8 j c u) (hm : qu u = some r) :
  nM true Tryz.prog 130 [c] w j [] (fun v G J => ∃ z t, v = z ∧ G = (t ++ []) ∧ nl 87 mV 8 J z r t) := by
 unfold qu at hm
 refine vA I 8 func130 rfl (fun b => sg (Wa (lS (Wm ?_))))
 obtain ⟨D, Q, rfl⟩ := a.form
 refine V (Ap cO rfl rfl) (ln ?_)
 rcases D with _ | M
 ·have y := a.isNil
  replace hm : some [] = some r := by rw [y] at hm; simpa [oI, maxLen] using hm
  refine vr (rfl) (sg (Wa (lt (mQ ?_))))
  obtain rfl := sj hm
  refine ng (v := (.slice none 0 0)) rfl rfl ?_
  replace b := b.TR
  exact ⟨_, _, _, rfl, (b.ol (Kr Sn)), (mn.refl _), Lo.refl, (ST.nm b (oK.mem (Kr Sn))), (.slice none 0 0), [], rfl, rfl, (nl.nil _ _ _ _)⟩
 ·refine qi (rfl) (kg (VE (mN (cs := #[]) b sL (Au [] cO dP iB dc rfl (by simp) rfl rfl) (fun N H b => Wm (bS hm fun T x hm => VE (xt (B := [(H, Ob #[] 87)]) nK b dc cO IU.1 IU.2.1 rfl IU.2.2.1 IU.2.2.2 rfl rfl (nl.lit nK (l := []) .nil rfl nb rfl) (EG.sl nK a b.lJ) x (fun K g k b i => Wa (lt ?_))))))))
  obtain rfl := sj hm
  exact ng (v := g) rfl rfl ⟨_, _, _, rfl, (b.ol (Kr Sn)), (mn.refl _), Lo.refl, (ST.nm b (oK.mem (Kr Sn))), g, k, rfl, rfl, i⟩
theorem wq (k : Value) (a0 : List ny) (y : LO) (J : Value) (f1 : ny → Option Bool) (r : List ny) (w : World) {Y : mF} (h0 : po Y (y ++ []) w) (n : nl 87 mV 8 Y k a0 y) (a9 : yo Tryz.prog J Y (Br mV) (fun (r : Bool) => (.bool r)) f1) (hm : oP a0 f1 = some r) :
  nM false Tryz.prog 129 [k, J] w Y (y ++ []) (fun v L1 μ1 => ∃ R, v = R ∧ L1 = [] ∧ Sl mV 8 μ1 R (r)) := by
 refine vA h0 42 func129 rfl (fun d => sg (Wa (lr (Wm (Wm (bS hm fun P d7 hm => VE (Eg d call190 (zy k a0 J f1 _ _ (n.sl nK d.lJ (fun b o s => d.at_ (Ml s))) (a9.mono d.lJ) d7) (fun W3 d => Wa (ln ?_)))))))))
 refine me (sg (Wm (Wi rfl (ln (CI hm rfl (fun d6 hm => ?_) (fun d6 hm => ?_))))))
 ·refine sg (Wm (Wa (lt (mQ ?_))))
  obtain rfl := sj hm
  refine ng (v := k) rfl rfl ?_
  obtain ⟨aa, d, d2, q, d8⟩ := ST.zq nK d n
  exact ⟨_, _, _, rfl, (d.ol Sn), d2, q, (ST.nm d (oK.mem Sn)), k, rfl, rfl, d8⟩
 refine kS (Wm (Wi rfl (Wa (ln (nS (py (fun m E W => ∃ a2 K G H F, ST false (keys (y ++ [])) w W Y (K ++ F) ∧ E 0 = k ∧ E 1 = J ∧ E 5 = (.int .i64 G) ∧ E 6 = (.int .i64 H) ∧ nl 87 mV 8 Y k a2 K ∧ pH f1 m a2 G H = some r) mR ⟨a0, y, P, (IntKind.i64.wrap (P + 1)), _, (d.lG St), rfl, rfl, rfl, rfl, n, hm⟩ ?_))))))
 rintro m E W ⟨a2, K, G, H, F, d, t, Z, I, N, j, c⟩
 cases m with
 | zero => rw [pH] at c; cases c
 | succ d4 =>
  refine me (sg (Wh N (Wh t (V (Av cO rfl j) (Wi rfl (ln (CI c rfl (fun b6 c => ?_) (fun b6 c => ?_))))))))
  ·refine kn (me (CJ c (fun a3 E W => ∃ M L, ST false (keys (y ++ [])) w W Y (M ++ L) ∧ E 0 = k ∧ E 1 = J ∧ E 5 = (.int .i64 a3.2) ∧ E 6 = (.int .i64 H) ∧ nl 87 mV 8 Y k a3.1 M) (fun a3 g => ?_) ?_))
   ·refine bg (Wh t (Wh N (bS g fun a A g => VQ (nP (i := H) mV.out cO dP rfl rfl j (mE A) (mA A)) (fun f5 ⟨_, ⟨f8, f9, rfl, Q, T⟩, c1, e1⟩ => V (lK rfl (ms (pS.hp _) (c1.mono (ou (fun b o s => d.has.2 b o (Ml s)))) kG dP)) (VE (mz d iB (fun e7 f3 d => ?_)))))))
    obtain ⟨u, B, rfl⟩ := Q.form
    obtain ⟨x, D, rfl⟩ := T.form
    let l := (C6 a.lC.lI a.lC.lM a.lL.Op a.lL.K a.lL.lC.lI a.lL.lC.lM u a.lL.Kids.length B x a.nn.length D)
    refine VO (mh (.agg l.toArray) (l.toArray) d rfl rfl dP oc nb rfl (fun e8 d => lr (Wh Z (VA d Mh l kG dP (bS g fun f7 c2 g => VE (zO a d a9 (mn.refl _) (Br.mk nK (mV.mk ⟨(.slice u a.lL.Kids.length B), (.slice x a.nn.length D), rfl, Q, T⟩) d.lJ) rfl (uC rfl) c2 (fun e9 d => V (oH rfl) (ln (CI g rfl (fun b7 g => ?_) (fun b7 g => ?_))))))))))
    ·refine sg (Wh t (Wh I (VA d Mh l kG dP (bS g fun g3 U g => VQ (nP (i := G) mV.out cO dP rfl rfl j (mE U) (mA U)) (fun f6 ⟨_, ⟨g0, g1, rfl, e3, e4⟩, e2, b9⟩ => ?_)))))
     replace d := d.perm (Nr (Qb Qz) Nz)
     refine VO (tg (x1 := a) nK d j rfl rfl (mV.mk ⟨(.slice u a.lL.Kids.length B), (.slice x a.nn.length D), rfl, Q, T⟩) b9 (mA U) dP (fun f0 c7 d b4 => ln ?_))
     replace d := d.lG (Kr (Db St))
     refine mc (Wh I (Wi rfl (Wa (mD (mL (lU ?_))))))
     obtain rfl := sj g
     exact ⟨c7, _, (d.lG St), t, Z, rfl, N, b4⟩
    refine np (mL (lU ?_))
    obtain rfl := sj g
    exact ⟨K, _, (d.lG (Db St)), t, Z, I, N, j⟩
   rintro ⟨d3, d5⟩ E W ⟨M, L, d, c8, c9, d0, d1, c3⟩ c0
   exact mc (Wh d1 (Wi rfl (Wa (ln ⟨d4, bL _, d3, M, d5, (IntKind.i64.wrap (H + 1)), _, (d.lG St), c8, c9, d0, rfl, c3, c0⟩))))
  refine pc (oQ (oQ (tX (lU (sg (Wh t (Wh I (bS c fun _ a4 c => VQ (CO (i := G) cO dP rfl rfl j (tQ a4) (tu a4)) (fun g2 c4 => VO (F4 (z := (⟨K0, (⟨0, 0, K0, []⟩ : Formula), []⟩ : ny)) (zs := [(.string zS), (.string zS), (.int .i64 0), (.int .i64 0), (.string zS), (.string zS), (.slice none 0 0), (.slice none 0 0)]) nK d j (mV.mk ⟨(.slice none 0 0), (.slice none 0 0), rfl, (Sl.nil _ _ _), (Sl.nil _ _ _)⟩) cO iB c4 rfl rfl (fun f2 e6 d b5 => lr (Wh t ?_))))))))))))
  refine Wh I (bS c fun _ a5 c => VQ (IJ (i := G) cO dP rfl rfl b5 (tQ a5) (tu a5)) (fun O c5 => Wa (lt ?_)))
  obtain rfl := sj c
  refine ng (v := O) rfl rfl ?_
  obtain ⟨g7, d, b0, h, c6⟩ := ST.zq nK d c5
  exact ⟨_, _, _, rfl, (d.ol Sn), b0, h, (ST.nm d (oK.mem Sn)), O, rfl, rfl, c6⟩
theorem FX (j : Value) (t : List lB) (c : lB) (r : Int) (w : World) (g : Sl (Pl lD) 9 (hp w) j t) (hm : yj t c = some r) :
  mw true Tryz.prog 186 [j, (.agg (lD c).toArray)] w (.int .i64 r) := by
 refine cG 19 func186 rfl (fun b => sg (VE (mI b rfl (fun Q J b => Wa (lS (Wm (V (nh aJ rfl g) (Wm (ln ?_)))))))))
 refine mY (fun i E W => ∃ k, (E 8 = .int .i64 (i : Nat) ∧ E 7 = .int .i64 (t.length : Nat)) ∧ ST true mX w W (hp w) ((J, Ol (lD c) 52) :: k) ∧ E 0 = j ∧ E 3 = (.pointer (some ⟨J, 0, none⟩)) ∧ rZ c (t.drop i) i = some r) t.length g.len ⟨_, ⟨rfl, rfl⟩, (b.lG St), rfl, rfl, hm⟩ dc dc dc (fun _ _ _ h => by obtain ⟨_, m, _⟩ := h; exact m) ?_ ?_
 ·rintro K E W B ⟨k, ⟨l, o⟩, b, u, x, a⟩
  obtain ⟨y, M, H, G, I⟩ := mM B
  rw [H] at a
  refine bg (Wh l (Wa (ln (me ?_))))
  replace b := b.drew
  have d := b.has.lG (Kb Sn)
  refine mO d mu (XH 0 rfl d (fun _ n => lK x (lP n Mh (lD c) rfl bH aI)) (X 1 rfl d (lO u) (X 2 rfl d (lO rfl) (XQ 3 rfl d (pg (enc := lD) (i := (K : Int)) (x0 := y) aJ aI rfl rfl g (aG _) G) (fun N D => XH 4 rfl d (fun _ n => lK rfl (ms n D bH aI)) (X 5 rfl d (yU rfl rfl (qt fQ) (vL (wS _ c y))) (nc kr (lU (CI a rfl (fun z a => ?_) (fun z a => ?_))))))))))
  ·refine sg (Wm (Wa (ln ?_)))
   replace b := b.lG (Db St)
   refine mB (oh (mQ (oh (mQ ?_))))
   obtain rfl := sj a
   exact rP b
  exact np (mL (lU ⟨l, _, ⟨rfl, o⟩, (b.lG St), u, x, (by rw [I]; exact a)⟩))
 rintro E W ⟨k, ⟨l, o⟩, b, u, x, a⟩
 rw [aK] at a
 refine lU ?_
 replace b := b.lG (Db St)
 exact sg (Wa (lt (rQ a b)))
theorem DM (a : Value) (g : List lB) (c : lB) (r : Bool) (w : World) (i : Sl (Pl lD) 9 (hp w) a g) (hm : uD g c = some r) :
  mw true Tryz.prog 124 [a, (.agg (lD c).toArray)] w (.bool r) := by
 refine cG 9 func124 rfl (fun b => sg (VE (mI b rfl (fun k u b => Wa (lr (Wm (VA b Mh (lD c) bH aI (bS hm fun x j hm => VE (Eg b call186 (FX a g c _ _ (i.mono (Pl.mono _) b.lJ) j) (fun t b => Wi rfl (Wa ?_)))))))))))
 refine ln ?_
 exact mB (rQ hm b)
theorem AJ (a : Value) (g : List lB) (c : lB) (r : Bool) (w : World) (i : Sl (Pl lD) 9 (hp w) a g) (hm : rL g c = some r) :
  mw true Tryz.prog 60 [a, (.agg (lD c).toArray)] w (.bool r) := by
 refine cG 8 func60 rfl (fun b => sg (VE (mI b rfl (fun k u b => Wa (lr (Wm (VA b Mh (lD c) bH aI (bS hm fun x j hm => VE (Eg b call124 (DM a g c _ _ (i.mono (Pl.mono _) b.lJ) j) (fun t b => Wa (mD ?_)))))))))))
 refine lU ?_
 exact mB (rQ hm b)
theorem HS (c : ny) (a i : Value) (k : Nat) (u : lB) (r : Bool) (w : World) (j : Sl lH 5 (hp w) a c.lL.Kids) (g : Sl (Pl lD) 9 (hp w) i c.nn) (t : At (hp w) (.pointer (some ⟨k, 0, none⟩)) (lD u)) (hm : ux c u = some r) :
  mw true Tryz.prog 131 [(.agg #[(.string c.lC.lI), (.string c.lC.lM), (.int .i64 c.lL.Op), (.int .i64 c.lL.K), (.string c.lL.lC.lI), (.string c.lL.lC.lM), a, i]), (.pointer (some ⟨k, 0, none⟩))] w (.bool r) := by
 refine cG 9 func131 rfl (fun b => sg ?_)
 obtain ⟨B, D, rfl⟩ := j.form
 obtain ⟨x, y, rfl⟩ := g.form
 refine VE (mI b rfl (fun G I b => Wa (lr (Wf EQ (VB b Mh rfl rfl eU (V (lK rfl (ms b.has t bH aI)) (bS hm fun J z hm => VE (Eg b call60 (AJ (.slice x c.nn.length y) c.nn u _ _ (g.mono (Pl.mono _) b.lJ) z) (fun H b => V (oH rfl) (Wa (ln ?_)))))))))))
 exact mB (rQ hm b)
theorem KO (i : lF) (a g : Value) (y : lB) (r : List ny) (w : World) {G : mF} (q : po G [] w) (j : Sl mx 15 G a i.lX) (c : Sl mV 8 G g i.ml) (hm : zT i y = some r) :
  nM false Tryz.prog 70 [(.agg #[(.string i.Name), a, g]), (.agg (lD y).toArray)] w G [] (fun v L1 μ1 => ∃ n, v = n ∧ L1 = [] ∧ Sl mV 8 μ1 n (r)) := by
 refine vA q 10 func70 rfl (fun b => sg ?_)
 obtain ⟨A1, c2, rfl⟩ := j.form
 obtain ⟨Y, o, rfl⟩ := c.form
 refine VE (mI b rfl (fun W6 b5 b => VE (mI b rfl (fun W8 z b => Wa (lr (Wf Es (VB b (Mt Mh) rfl rfl isAgg23 (bS hm fun J N hm => ?_))))))))
 refine VE (eD b (bE _) call130 (fun m => nM.nz (yF (.slice Y i.ml.length o) i.ml _ _ m (c.mono nK.mono (mn.refl _)) N)) ?_ (L0 := []))
 rintro _ c3 c6 P b B d ⟨a5, Z, k, rfl, T⟩
 obtain rfl := k.symm
 replace b := b.perm (Tr Tn)
 refine V (qk (by exact uC rfl) rfl) ?_
 replace b := b.perm (Nb (Pr Pz) Nz)
 obtain ⟨c7, b, u, h, M⟩ := ST.xP (R := [(z, Ol (lD y) 52)]) b
 have K := At.of (M _ _ (.head _)) _ rfl
 refine bS hm fun c1 Q hm => ?_
 refine VE (eD b (Cr Qz Cn) call129 (fun m => (wq a5 J Z (.func (.func 131) #[] #[(.pointer (some ⟨z, 0, none⟩))]) (fun (x : ny) => ux x y) _ _ m (T.mono nK u) ⟨131, #[], #[(.pointer (some ⟨z, 0, none⟩))], rfl, call131, fun W x vs r A s hm => by obtain ⟨_, rfl, a3⟩ := s; obtain ⟨L, O, rfl, F, I⟩ := a3.out; exact (HS x L O z y r W F I (K.mono ((mn.refl _).trans A)) hm).nz⟩ Q)) ?_)
 rintro _ c5 c8 b6 b D l ⟨H, t, rfl, U⟩
 obtain rfl := t.symm
 refine Wa (ln ?_)
 replace b := b.lG (Db St)
 refine mB ?_
 obtain rfl := sj hm
 exact ng (v := H) rfl rfl ⟨_, _, _, rfl, (b.ol Sn), ((B.trans u).trans D), ((d.trans h).trans l), (ST.nm b (oK.mem Sn)), H, rfl, rfl, U⟩
theorem Bp (i : Formula) (g : Value) (x : Int) (r : Bool) (w : World) (c : Sl lH 5 (hp w) g i.Kids) (hm : vJ i x = some r) :
  mw true Tryz.prog 285 [(.agg #[(.int .i64 i.Op), (.int .i64 i.K), (.string i.lC.lI), (.string i.lC.lM), g]), (.int .i64 x)] w (.bool r) := by
 refine cG 15 func285 rfl (fun b => sg ?_)
 obtain ⟨B, D, rfl⟩ := c.form
 refine VE (mI b rfl (fun G H b => Wa (lr (Wf vT (VB b Mh rfl rfl cP (Wm (Wi rfl (Wm (LJ hm (fun t E W => ∃ u, ST true mX w W (hp w) u ∧ E 4 = (.bool false) ∧ E 14 = (.bool t)) 5 ?_ (fun t j k => ?_))))))))))
 ·rintro J E W ⟨u, b, I, y⟩ z
  exact Wg y (lt (rQ z b))
 refine bC j (fun a j => ?_) (fun a j => ?_)
 ·refine ug a (lN uO rfl) (ug a (lK rfl (ma b.has Mh rfl gP)) (ug a (nh aF rfl c) (ug a (mU rfl rfl rfl) (V (mo (cB a) rfl) ?_))))
  obtain rfl := sj j
  exact k _ _ ⟨_, (b.lG (Db St)), rfl, rfl⟩
 refine un a (un a (un a (un a (V (mq (cB a) rfl) ?_))))
 obtain rfl := sj j
 exact k _ _ ⟨_, (b.lG (Db St)), rfl, rfl⟩
theorem IB (r : Formula) (w : World) {c : mF} (i : po c [] w) (hm : AQ  = some r) :
  nM true Tryz.prog 286 [] w c [] (fun v g j => ∃ a, v = (.agg #[(.int .i64 ((r).Op)), (.int .i64 ((r).K)), (.string (((r).lC).lI)), (.string (((r).lC).lM)), a]) ∧ g = [] ∧ Sl lH 5 j a ((r).Kids)) := by
 refine vA i 2 func286 rfl (fun b => sg (VE (mz b bI (fun k u b => lr (V (nZ (v := (.agg Ql.toArray)) (oX rfl) (nB bI cK (CL _ cK) kr)) (VO (mh (.agg Ql.toArray) (Ql.toArray) b rfl rfl aD oc nb rfl (fun t b => lt ?_))))))))
 obtain rfl := sj hm
 exact rU (v := (.agg Ql.toArray)) rfl rfl (lP b.has Mh Ql rfl aZ aD) ⟨_, _, _, rfl, (b.ol Sn), (mn.refl _), Lo.refl, (ST.nm b (oK.mem Sn)), (.slice none 0 0), rfl, rfl, (Sl.nil _ _ _)⟩
theorem Jv (r : Formula) (w : World) {c : mF} (i : po c [] w) (hm : Bm  = some r) :
  nM true Tryz.prog 287 [] w c [] (fun v g j => ∃ a, v = (.agg #[(.int .i64 ((r).Op)), (.int .i64 ((r).K)), (.string (((r).lC).lI)), (.string (((r).lC).lM)), a]) ∧ g = [] ∧ Sl lH 5 j a ((r).Kids)) := by
 refine vA i 2 func287 rfl (fun b => sg (VE (mz b bI (fun k u b => lr (V (nZ (v := (.agg PD.toArray)) (oX rfl) (nB bI cK (CL _ cK) kr)) (VO (mh (.agg PD.toArray) (PD.toArray) b rfl rfl aD oc nb rfl (fun t b => lt ?_))))))))
 obtain rfl := sj hm
 exact rU (v := (.agg PD.toArray)) rfl rfl (lP b.has Mh PD rfl aZ aD) ⟨_, _, _, rfl, (b.ol Sn), (mn.refl _), Lo.refl, (ST.nm b (oK.mem Sn)), (.slice none 0 0), rfl, rfl, (Sl.nil _ _ _)⟩
theorem KN (T : Int) (J : Value) (M r : List Formula) (w : World) {Q : mF} (h0 : po Q [] w) (I : Sl lH 5 Q J M) (hm : B6 T M = some r) :
  nM true Tryz.prog 289 [(.int .i64 T), J] w Q [] (fun v L1 μ1 => ∃ q, v = q ∧ L1 = [] ∧ Sl lH 5 μ1 q (r)) := by
 refine vA h0 28 func289 rfl (fun b => sg (Wa (lr (Wa (lS (Wm ?_))))))
 refine V (nh aF rfl I) (Wm (ln (mY (fun i E W => ∃ t G k H, (E 10 = .int .i64 (i : Nat) ∧ E 9 = .int .i64 (M.length : Nat)) ∧ ST true (keys []) w W Q (k ++ H) ∧ E 0 = (.int .i64 T) ∧ E 5 = t ∧ E 8 = J ∧ nl 58 lH 5 Q t G k ∧ sG T (M.drop i) G = some r) M.length I.len ⟨(.slice none 0 0), ([]), [], _, ⟨rfl, rfl⟩, (b.lG St), rfl, rfl, rfl, (nl.nil _ _ _ _), hm⟩ dc dc dc (fun _ _ _ h => by obtain ⟨_, _, _, _, n, _⟩ := h; exact n) ?_ ?_)))
 ·rintro b5 E W a4 ⟨t, G, k, H, ⟨m, o⟩, b, x, y, z, u, c⟩
  obtain ⟨a, b7, F, A, K⟩ := mM a4
  rw [F] at c
  refine bg (VQ (od (i := (b5 : Int)) (x0 := a) lH.out aF aD z m I (aG _) A) (fun c8 ⟨_, ⟨c9, rfl, D⟩, a5⟩ => V (lK rfl (ms b.has a5 aZ aD)) (VE (mz b bI (fun c0 c5 b => ?_)))))
  obtain ⟨g, j, rfl⟩ := D.form
  let a0 := (C1 a.Op a.K a.lC.lI a.lC.lM g a.Kids.length j)
  refine VO (mh (.agg a0.toArray) (a0.toArray) b rfl rfl aD oc nb rfl (fun c1 b => lr (Wf vT (VB b Mh rfl rfl cP (Wh x (Wi rfl (ln (CI c rfl (fun Z c => ?_) (fun Z c => ?_)))))))))
  ·refine mc (Wh y (Wf uO (VB b Mh rfl rfl gP ?_)))
   replace b := b.perm (Nr (Qb Qz) Nz)
   refine bS c fun O a2 c => VE (xt (B := k) mf b dc aF ra.1 ra.2.1 rfl ra.2.2.1 ra.2.2.2 rfl rfl u (EG.sl mf D b.lJ) a2 (fun c2 R a9 b U => Wa (mD (mL (lU ?_)))))
   replace b := b.lG (Kr (Db St))
   exact ⟨m, R, O, a9, _, ⟨rfl, o⟩, (b.lG St), x, rfl, z, U, (by rw [K]; exact c)⟩
  refine mc (Wh y (VA b Mh a0 aZ aD (VE (mN (cs := a0.toArray) b (oX rfl) (oR aF aD bI) (fun c3 c6 b => ?_)))))
  replace b := b.perm (Nr (Qb (Qb Qz)) Nz)
  refine bS c fun P a3 c => VE (xt (B := k) mf b dc aF ra.1 ra.2.1 rfl ra.2.2.1 ra.2.2.2 rfl rfl u (EG.lit mf (l := [a]) (.cons (ys := C1 a.Op a.K a.lC.lI a.lC.lM g a.Kids.length j) (lH.mk ⟨(.slice g a.Kids.length j), rfl, D⟩) .nil) rfl nb (b.at_ (Ma Mh))) a3 (fun c4 b4 L b Y => Wa (mD (mL (lU ?_)))))
  replace b := b.lG (Kr (Db (Db St)))
  exact ⟨m, b4, P, L, _, ⟨rfl, o⟩, (b.lG St), x, rfl, z, Y, (by rw [K]; exact c)⟩
 rintro E W ⟨t, G, k, H, ⟨m, o⟩, b, x, y, z, u, c⟩
 rw [aK] at c
 refine lU (sg (Wh y (Wa (lt ?_))))
 obtain rfl := sj c
 refine ng (v := t) rfl rfl ?_
 obtain ⟨d1, b, N, d, s⟩ := ST.zq mf b u
 exact ⟨_, _, _, rfl, (b.ol Sn), N, d, (ST.nm b (oK.mem Sn)), t, rfl, rfl, s⟩
theorem Co (a : Formula) (g : Value) (i : Nat) (j : Int) (r : Bool) (w : World) (c : Sl lH 5 (hp w) g a.Kids) (k : At (hp w) (.pointer (some ⟨i, 0, none⟩)) [(.int .i64 j)]) (hm : sQ a j = some r) :
  mw true Tryz.prog 290 [(.agg #[(.int .i64 a.Op), (.int .i64 a.K), (.string a.lC.lI), (.string a.lC.lM), g]), (.pointer (some ⟨i, 0, none⟩))] w (.bool r) := by
 refine cG 7 func290 rfl (fun b => sg ?_)
 obtain ⟨t, u, rfl⟩ := c.form
 refine VE (mI b rfl (fun z D b => Wa (lr (VA b Mh (C1 a.Op a.K a.lC.lI a.lC.lM t a.Kids.length u) aZ aD (V (lK rfl (pp b.has (y := (.int .i64 j)) k cP)) (bS hm fun G x hm => VE (Eg b call285 (Bp a (.slice t a.Kids.length u) j _ _ (c.mono mf.mono b.lJ) x) (fun B b => Wa (ln ?_)))))))))
 exact mB (rQ hm b)
theorem DR (c : Value) (u r : List Formula) (w : World) {j : mF} (I : po j [] w) (a : Sl lH 5 j c u) (hm : uB u = some r) :
  nM true Tryz.prog 320 [c] w j [] (fun v G J => ∃ z t, v = z ∧ G = (t ++ []) ∧ nl 58 lH 5 J z r t) := by
 unfold uB at hm
 refine vA I 8 func320 rfl (fun b => sg (Wa (lS (Wm ?_))))
 obtain ⟨D, Q, rfl⟩ := a.form
 refine V (Ap aF rfl rfl) (ln ?_)
 rcases D with _ | M
 ·have y := a.isNil
  replace hm : some [] = some r := by rw [y] at hm; simpa [oI, maxLen] using hm
  refine vr (rfl) (sg (Wa (lt (mQ ?_))))
  obtain rfl := sj hm
  refine ng (v := (.slice none 0 0)) rfl rfl ?_
  replace b := b.TR
  exact ⟨_, _, _, rfl, (b.ol (Kr Sn)), (mn.refl _), Lo.refl, (ST.nm b (oK.mem (Kr Sn))), (.slice none 0 0), [], rfl, rfl, (nl.nil _ _ _ _)⟩
 ·refine qi (rfl) (kg (VE (mN (cs := #[]) b sL (Au [] aF aD bI dc rfl (by simp) rfl rfl) (fun N H b => Wm (bS hm fun T x hm => VE (xt (B := [(H, Ob #[] 58)]) mf b dc aF ra.1 ra.2.1 rfl ra.2.2.1 ra.2.2.2 rfl rfl (nl.lit mf (l := []) .nil rfl nb rfl) (EG.sl mf a b.lJ) x (fun K g k b i => Wa (lt ?_))))))))
  obtain rfl := sj hm
  exact ng (v := g) rfl rfl ⟨_, _, _, rfl, (b.ol (Kr Sn)), (mn.refl _), Lo.refl, (ST.nm b (oK.mem (Kr Sn))), g, k, rfl, rfl, i⟩
theorem uy (y : Value) (a0 : List Formula) (D : LO) (s a2 : Int) (T : Value) (f3 : (Formula × Formula) → Option Int) (r : List Formula) (w : World) {μ0 : mF} (h0 : po μ0 (D ++ []) w) (h4 : nl 58 lH 5 μ0 y a0 D) (h5 : yo Tryz.prog T μ0 (wR lH lH) (fun (r : Int) => (.int .i64 r)) f3) (hm : oU a0 s a2 f3 = some r) :
  nM false Tryz.prog 356 [y, (.int .i64 s), (.int .i64 a2), T] w μ0 (D ++ []) (fun v L1 μ1 => ∃ S1, v = (.tuple #[]) ∧ L1 = (S1 ++ []) ∧ nl 58 lH 5 μ1 y r S1) := by
 refine vA h0 53 func356 rfl (fun n => sg (Wm (Wi rfl (Wa (ln (xg (nS (py (fun m E W => ∃ Y J x c9, ST false (keys (D ++ [])) w W μ0 (J ++ c9) ∧ E 0 = y ∧ E 1 = (.int .i64 s) ∧ E 2 = (.int .i64 a2) ∧ E 3 = T ∧ E 8 = (.int .i64 x) ∧ nl 58 lH 5 μ0 y Y J ∧ nG a2 s f3 m Y x = some r) mR ⟨a0, D, (IntKind.i64.wrap (s + 1)), _, (n.lG St), rfl, rfl, rfl, rfl, rfl, h4, hm⟩ ?_))))))))
 rintro m E W ⟨Y, J, x, c9, n, f9, g0, d1, g1, O, c6, u⟩
 cases m with
 | zero => rw [nG] at u; cases u
 | succ h2 =>
  refine me (sg (Wh O (Wh d1 (Wi rfl (ln (CI u rfl (fun e9 u => ?_) (fun e9 u => ?_)))))))
  ·refine kn (me (bg (Wh O (Wa (ln (xg (CJ u (fun P E W => ∃ U d0, ST false (keys (D ++ [])) w W μ0 (U ++ d0) ∧ E 0 = y ∧ E 1 = (.int .i64 s) ∧ E 2 = (.int .i64 a2) ∧ E 3 = T ∧ E 8 = (.int .i64 x) ∧ nl 58 lH 5 μ0 y P U) (fun P f1 => ?_) ?_)))))))
   ·refine nS (py (fun m E W => ∃ M B j b7, ST false (keys (D ++ [])) w W μ0 (B ++ b7) ∧ E 0 = y ∧ E 1 = (.int .i64 s) ∧ E 2 = (.int .i64 a2) ∧ E 3 = T ∧ E 8 = (.int .i64 x) ∧ E 9 = (.int .i64 j) ∧ nl 58 lH 5 μ0 y M B ∧ nR s f3 m M j = some P) mR ⟨Y, J, x, _, (n.lG St), f9, g0, d1, g1, O, rfl, c6, f1⟩ ?_)
    rintro m E W ⟨M, B, j, b7, n, K, Z, c0, a3, c1, G, t, I⟩
    cases m with
    | zero => rw [nR] at I; cases I
    | succ f4 =>
     refine me (me ?_)
     replace n := n.drew
     have d := n.has.lG (Kr Sn)
     refine mO d mu (X 0 rfl d (lO G) (X 1 rfl d (lO Z) (X 2 rfl d (mU rfl rfl rfl) (X 3 rfl d (lO rfl) (PJ I (fun c7 E W => ∃ b9, ST false (keys (D ++ [])) w W μ0 (B ++ b9) ∧ E 0 = y ∧ E 1 = (.int .i64 s) ∧ E 2 = (.int .i64 a2) ∧ E 3 = T ∧ E 8 = (.int .i64 x) ∧ E 9 = (.int .i64 j) ∧ E 34 = (.bool c7)) (bm 17 131071) 0 ?_ (fun c7 g a4 => ?_))))))
     ·rintro k2 E W ⟨b9, n, z, c2, c3, c4, c5, H, e8⟩ c
      have d := n.has.lG (Kr Sn)
      refine nc kr (lU (CI c e8 (fun d3 c => ?_) (fun d3 c => ?_)))
      ·refine kn (me (nS ?_))
       replace n := n.drew
       have d := n.has.lG Sn
       have q := n.has.lG (Kr Sn)
       refine xq 15 d q mu (nt 0 rfl kr (.inl rfl) rfl dc (fun _ _ h => ⟨h.1, nO br h.2⟩) ⟨d, fun _ => q⟩ (fun _ _ _ _ => lO z) (nt 1 rfl kr (.inl rfl) rfl dc (fun _ _ h => ⟨h.1, nO br h.2⟩) ⟨d, fun _ => q⟩ (fun _ _ _ _ => lO H) (nt 2 rfl kr (.inl rfl) rfl dc (fun _ _ h => ⟨h.1, nO br h.2⟩) ⟨d, fun _ => q⟩ (fun _ _ _ _ => lO z) (nt 3 rfl kr (.inl rfl) rfl dc (fun _ _ h => ⟨h.1, nO br h.2⟩) ⟨d, fun _ => q⟩ (fun _ _ _ _ => lO H) (nt 4 rfl kr (.inl rfl) rfl dc (fun _ _ h => ⟨h.1, nO br h.2⟩) ⟨d, fun _ => q⟩ (fun _ _ _ _ => mU rfl rfl rfl) (nt 5 rfl kr (.inl rfl) rfl dc (fun _ _ h => ⟨h.1, nO br h.2⟩) ⟨d, fun _ => q⟩ (fun _ _ _ _ => lO z) (nt 6 rfl kr (.inl rfl) rfl dc (fun _ _ h => ⟨h.1, nO br h.2⟩) ⟨d, fun _ => q⟩ (fun _ _ _ _ => lO H) (nt 7 rfl kr (.inl rfl) rfl dc (fun _ _ h => ⟨h.1, nO br h.2⟩) ⟨d, fun _ => q⟩ (fun _ _ _ _ => mU rfl rfl rfl) (bS c fun a5 b0 c => uP 8 rfl kr (.inl rfl) rfl dc (fun _ _ h => ⟨h.1, nO br h.2⟩) ⟨d, fun _ => q⟩ (nP (i := (IntKind.i64.wrap (j - 1))) lH.out aF aD rfl rfl t (mE b0) (mA b0)) (fun i9 ⟨_, ⟨j8, rfl, a8⟩, d6, h6⟩ => nt 9 rfl kr (.inl rfl) rfl dc (fun _ _ h => ⟨h.1, nO br h.2⟩) ⟨d, fun _ => q⟩ (fun l W F R => have A := (R.2 (F.FQ 15 [9] kr rfl)); lK rfl (ms (pS.hp _) (d6.mono (ou (fun b o L => A.2 b o (Ml L)))) aZ aD)) (nt 10 rfl kr (.inl rfl) rfl dc (fun _ _ h => ⟨h.1, nO br h.2⟩) ⟨d, fun _ => q⟩ (fun _ _ _ _ => lO z) (nt 11 rfl kr (.inl rfl) rfl dc (fun _ _ h => ⟨h.1, nO br h.2⟩) ⟨d, fun _ => q⟩ (fun _ _ _ _ => lO H) (bS c fun k b1 c => ?_)))))))))))))
       refine uP 12 rfl kr (.inl rfl) rfl dc (fun _ _ h => ⟨h.1, nO br h.2⟩) ⟨d, fun _ => q⟩ (nP (i := j) lH.out aF aD rfl rfl t (mE b1) (mA b1)) (fun j0 ⟨_, ⟨j9, rfl, a9⟩, d7, h7⟩ => nt 13 rfl kr (.inl rfl) rfl dc (fun _ _ h => ⟨h.1, nO br h.2⟩) ⟨d, fun _ => q⟩ (fun l W F R => have A := (R.2 (F.FQ 15 [13] kr rfl)); lK rfl (ms (pS.hp _) (d7.mono (ou (fun b o L => A.2 b o (Ml L)))) aZ aD)) (bS c fun k3 N c => uP 14 rfl kr (.inl rfl) rfl dc (fun _ _ h => ⟨h.1, nO br h.2⟩) ⟨d, fun _ => q⟩ (nP (i := j) lH.out aF aD rfl rfl t (mE N) (mA N)) (fun j3 ⟨_, ⟨k0, rfl, i2⟩, i0, d4⟩ => ?_)))
       obtain ⟨e3, e6, rfl⟩ := a8.form
       refine XO 15 rfl (tg (x1 := a5) mf n t rfl rfl (lH.mk ⟨(.slice e3 a5.Kids.length e6), rfl, a8⟩) d4 (mA N) aD (fun i6 i4 n a7 => ?_))
       have d := n.has.lG Sn
       refine ⟨⟨d, fun h => BN kr h⟩, (bS c fun k4 Q c => uP 16 rfl kr (.inl rfl) rfl dc (fun _ _ h => ⟨h.1, nO br h.2⟩) ⟨d, fun h => BN kr h⟩ (nP (i := (IntKind.i64.wrap (j - 1))) lH.out aF aD rfl rfl a7 (mE Q) (mA Q)) (fun j4 ⟨_, ⟨k1, rfl, i3⟩, i1, d5⟩ => ?_))⟩
       obtain ⟨e4, e7, rfl⟩ := a9.form
       refine XO 17 rfl (tg (x1 := (⟨k.Op, k.K, k.lC, k.Kids⟩ : Formula)) mf n a7 rfl rfl (lH.mk ⟨(.slice e4 k.Kids.length e7), rfl, a9⟩) d5 (mA Q) aD (fun i7 e5 n d2 => ?_))
       have d := n.has.lG Sn
       exact ⟨⟨d, fun h => BN kr h⟩, (nc kr (mL (lU (mc (Wh H (Wi rfl (Wa (ln ⟨f4, bL _, ((M.set (Int.toNat j) a5).set (Int.toNat (IntKind.i64.wrap (j - 1))) (⟨k.Op, k.K, k.lC, k.Kids⟩ : Formula)), e5, (IntKind.i64.wrap (j - 1)), _, (n.lG St), z, c2, c3, c4, c5, rfl, d2, c⟩))))))))⟩
      refine pc (oQ (oQ (tX (lU ?_))))
      obtain rfl := sj c
      exact ⟨B, _, (n.lG St), z, c2, c3, c4, c5, t⟩
     refine bC g (fun a g => ?_) (fun a g => ?_)
     ·refine Xg 4 rfl rfl (cB a) d (lO a3) (Xg 5 rfl rfl (cB a) d (lO K) (Xg 6 rfl rfl (cB a) d (lO G) (bS g fun f7 b2 g => uP 7 rfl kr (.inr ⟨3, true, 21, rfl, rfl, by decide, (cB a)⟩) rfl dc (fun _ _ h => h) d (nP (i := j) lH.out aF aD rfl rfl t (mE b2) (mA b2)) (fun j5 ⟨_, ⟨f5, rfl, e1⟩, d8, h8⟩ => sc 8 rfl rfl (cB a) d (fun _ A => lK rfl (ms (pS.hp _) (d8.mono (ou (fun b o L => A.2 b o (Ml L)))) aZ aD)) (Xg 9 rfl rfl (cB a) d (lO K) (Xg 10 rfl rfl (cB a) d (lO G) (Xg 11 rfl rfl (cB a) d (mU rfl rfl rfl) (bS g fun f8 b3 g => uP 12 rfl kr (.inr ⟨3, true, 21, rfl, rfl, by decide, (cB a)⟩) rfl dc (fun _ _ h => h) d (nP (i := (IntKind.i64.wrap (j - 1))) lH.out aF aD rfl rfl t (mE b3) (mA b3)) (fun j6 ⟨_, ⟨f6, rfl, e2⟩, d9, h9⟩ => sc 13 rfl rfl (cB a) d (fun _ A => lK rfl (ms (pS.hp _) (d9.mono (ou (fun b o L => A.2 b o (Ml L)))) aZ aD)) (bS g fun j7 e0 g => As 14 rfl rfl (cB a) (zO (f7, f8) n h5 (mn.refl _) (wR.mk mf mf (lH.mk ⟨f5, rfl, e1⟩) (lH.mk ⟨f6, rfl, e2⟩) n.lJ) rfl (xM rfl rfl) e0 (fun i8 n => ?_))))))))))))
      have d := n.has.lG (Kr Sn)
      refine ⟨d, (Xg 15 rfl rfl (cB a) d (mU rfl rfl rfl) (X 16 rfl d (mo (cB a) rfl) ?_))⟩
      obtain rfl := sj g
      refine nE kr (a4 _ _ ⟨_, (n.lG St), K, Z, c0, a3, c1, G, rfl⟩)
     refine Xn 4 rfl rfl (cB a) d (Xn 5 rfl rfl (cB a) d (Xn 6 rfl rfl (cB a) d (Xn 7 rfl rfl (cB a) d (Xn 8 rfl rfl (cB a) d (Xn 9 rfl rfl (cB a) d (Xn 10 rfl rfl (cB a) d (Xn 11 rfl rfl (cB a) d (Xn 12 rfl rfl (cB a) d (Xn 13 rfl rfl (cB a) d (Xn 14 rfl rfl (cB a) d (Xn 15 rfl rfl (cB a) d (X 16 rfl d (mq (cB a) rfl) ?_))))))))))))
     obtain rfl := sj g
     refine nE kr (a4 _ _ ⟨_, (n.lG St), K, Z, c0, a3, c1, G, rfl⟩)
   rintro h1 E W ⟨U, d0, n, g2, g3, g4, g7, g8, f2⟩ f0
   exact mL (lU (mc (Wh g8 (Wi rfl (Wa (ln ⟨h2, bL _, h1, U, (IntKind.i64.wrap (x + 1)), _, (n.lG St), g2, g3, g4, g7, rfl, f2, f0⟩))))))
  refine pc (oQ (oQ (tX (lU (rD ?_)))))
  obtain rfl := sj u
  exact qg rfl ⟨_, _, _, rfl, (n.ol (Kr Sn)), (mn.refl _), Lo.refl, (ST.nm n (oK.mem (Kr Sn))), J, rfl, rfl, c6⟩
theorem sr (x : Value) (a0 : List Formula) (t : LO) (G H a3 : Int) (a5 : Value) (f4 : (Formula × Formula) → Option Int) (r : List Formula) (w : World) {Y : mF} (h0 : po Y (t ++ []) w) (c0 : nl 58 lH 5 Y x a0 t) (d5 : yo Tryz.prog a5 Y (wR lH lH) (fun (r : Int) => (.int .i64 r)) f4) (hm : oO a0 G H a3 f4 = some r) :
  nM true Tryz.prog 367 [x, (.int .i64 G), (.int .i64 H), (.int .i64 a3), a5] w Y (t ++ []) (fun v L1 μ1 => ∃ S1, v = (.tuple #[]) ∧ L1 = (S1 ++ []) ∧ nl 58 lH 5 μ1 x r S1) := by
 refine vA h0 38 func367 rfl (fun q => sg (Wa (ln (xg (nS (py (fun m E W => ∃ D y c Z, ST true (keys (t ++ [])) w W Y (y ++ Z) ∧ E 0 = x ∧ E 1 = (.int .i64 G) ∧ E 2 = (.int .i64 H) ∧ E 3 = (.int .i64 a3) ∧ E 10 = (.int .i64 c) ∧ nl 58 lH 5 Y x D y ∧ og a3 H G m D c = some r) mR ⟨a0, t, 0, _, (q.lG St), rfl, rfl, rfl, rfl, rfl, c0, hm⟩ ?_))))))
 rintro m E W ⟨D, y, c, Z, q, u, I, J, a4, k, j, a⟩
 cases m with
 | zero => rw [og] at a; cases a
 | succ c1 =>
  refine me (sg (Wh k (Wh a4 (Wi rfl (ln (CI a rfl (fun R a => ?_) (fun R a => ?_)))))))
  ·refine kn (me (nS ?_))
   replace q := q.drew
   have d := q.has.lG Sn
   have n := q.has.lG (Kr Sn)
   refine xq 21 d n mu (nt 0 rfl kr (.inl rfl) rfl dc (fun _ _ h => ⟨h.1, nO br h.2⟩) ⟨d, fun _ => n⟩ (fun _ _ _ _ => lO u) (nt 1 rfl kr (.inl rfl) rfl dc (fun _ _ h => ⟨h.1, nO br h.2⟩) ⟨d, fun _ => n⟩ (fun _ _ _ _ => lO I) (nt 2 rfl kr (.inl rfl) rfl dc (fun _ _ h => ⟨h.1, nO br h.2⟩) ⟨d, fun _ => n⟩ (fun _ _ _ _ => lO k) (nt 3 rfl kr (.inl rfl) rfl dc (fun _ _ h => ⟨h.1, nO br h.2⟩) ⟨d, fun _ => n⟩ (fun _ _ _ _ => mU rfl rfl rfl) (nt 4 rfl kr (.inl rfl) rfl dc (fun _ _ h => ⟨h.1, nO br h.2⟩) ⟨d, fun _ => n⟩ (fun _ _ _ _ => lO u) (nt 5 rfl kr (.inl rfl) rfl dc (fun _ _ h => ⟨h.1, nO br h.2⟩) ⟨d, fun _ => n⟩ (fun _ _ _ _ => lO J) (nt 6 rfl kr (.inl rfl) rfl dc (fun _ _ h => ⟨h.1, nO br h.2⟩) ⟨d, fun _ => n⟩ (fun _ _ _ _ => lO k) (nt 7 rfl kr (.inl rfl) rfl dc (fun _ _ h => ⟨h.1, nO br h.2⟩) ⟨d, fun _ => n⟩ (fun _ _ _ _ => mU rfl rfl rfl) (nt 8 rfl kr (.inl rfl) rfl dc (fun _ _ h => ⟨h.1, nO br h.2⟩) ⟨d, fun _ => n⟩ (fun _ _ _ _ => lO u) (nt 9 rfl kr (.inl rfl) rfl dc (fun _ _ h => ⟨h.1, nO br h.2⟩) ⟨d, fun _ => n⟩ (fun _ _ _ _ => lO J) (nt 10 rfl kr (.inl rfl) rfl dc (fun _ _ h => ⟨h.1, nO br h.2⟩) ⟨d, fun _ => n⟩ (fun _ _ _ _ => lO k) (nt 11 rfl kr (.inl rfl) rfl dc (fun _ _ h => ⟨h.1, nO br h.2⟩) ⟨d, fun _ => n⟩ (fun _ _ _ _ => mU rfl rfl rfl) (bS a fun K T a => uP 12 rfl kr (.inl rfl) rfl dc (fun _ _ h => ⟨h.1, nO br h.2⟩) ⟨d, fun _ => n⟩ (nP (i := (IntKind.i64.wrap (H + c))) lH.out aF aD rfl rfl j (mE T) (mA T)) (fun d6 ⟨_, ⟨e0, rfl, N⟩, b1, c4⟩ => ?_))))))))))))))
   refine nt 13 rfl kr (.inl rfl) rfl dc (fun _ _ h => ⟨h.1, nO br h.2⟩) ⟨d, fun _ => n⟩ (fun l W s L => have A := (L.2 (s.FQ 21 [13] kr rfl)); lK rfl (ms (pS.hp _) (b1.mono (ou (fun b o F => A.2 b o (Ml F)))) aZ aD)) (nt 14 rfl kr (.inl rfl) rfl dc (fun _ _ h => ⟨h.1, nO br h.2⟩) ⟨d, fun _ => n⟩ (fun _ _ _ _ => lO u) (nt 15 rfl kr (.inl rfl) rfl dc (fun _ _ h => ⟨h.1, nO br h.2⟩) ⟨d, fun _ => n⟩ (fun _ _ _ _ => lO I) (nt 16 rfl kr (.inl rfl) rfl dc (fun _ _ h => ⟨h.1, nO br h.2⟩) ⟨d, fun _ => n⟩ (fun _ _ _ _ => lO k) (nt 17 rfl kr (.inl rfl) rfl dc (fun _ _ h => ⟨h.1, nO br h.2⟩) ⟨d, fun _ => n⟩ (fun _ _ _ _ => mU rfl rfl rfl) (bS a fun g U a => uP 18 rfl kr (.inl rfl) rfl dc (fun _ _ h => ⟨h.1, nO br h.2⟩) ⟨d, fun _ => n⟩ (nP (i := (IntKind.i64.wrap (G + c))) lH.out aF aD rfl rfl j (mE U) (mA U)) (fun d7 ⟨_, ⟨e1, rfl, Q⟩, b2, c5⟩ => nt 19 rfl kr (.inl rfl) rfl dc (fun _ _ h => ⟨h.1, nO br h.2⟩) ⟨d, fun _ => n⟩ (fun l W s L => have A := (L.2 (s.FQ 21 [19] kr rfl)); lK rfl (ms (pS.hp _) (b2.mono (ou (fun b o F => A.2 b o (Ml F)))) aZ aD)) (bS a fun e5 z a => uP 20 rfl kr (.inl rfl) rfl dc (fun _ _ h => ⟨h.1, nO br h.2⟩) ⟨d, fun _ => n⟩ (nP (i := (IntKind.i64.wrap (G + c))) lH.out aF aD rfl rfl j (mE z) (mA z)) (fun d8 ⟨_, ⟨e2, rfl, c8⟩, c6, a9⟩ => ?_))))))))
   let O := (⟨g.Op, g.K, g.lC, g.Kids⟩ : Formula)
   obtain ⟨b3, b7, rfl⟩ := N.form
   refine XO 21 rfl (tg (x1 := K) mf q j rfl rfl (lH.mk ⟨(.slice b3 K.Kids.length b7), rfl, N⟩) a9 (mA z) aD (fun d2 d1 q M => ?_))
   have d := q.has.lG Sn
   refine ⟨⟨d, fun h => BN kr h⟩, (bS a fun e6 B a => uP 22 rfl kr (.inl rfl) rfl dc (fun _ _ h => ⟨h.1, nO br h.2⟩) ⟨d, fun h => BN kr h⟩ (nP (i := (IntKind.i64.wrap (H + c))) lH.out aF aD rfl rfl M (mE B) (mA B)) (fun d9 ⟨_, ⟨e3, rfl, c9⟩, c7, b0⟩ => ?_))⟩
   obtain ⟨b4, b9, rfl⟩ := Q.form
   refine XO 23 rfl (tg (x1 := O) mf q M rfl rfl (lH.mk ⟨(.slice b4 g.Kids.length b9), rfl, Q⟩) b0 (mA B) aD (fun d3 b5 q P => ?_))
   have d := q.has.lG Sn
   exact ⟨⟨d, fun h => BN kr h⟩, (nc kr (mL (lU (mc (Wh k (Wi rfl (Wa (ln ⟨c1, bL _, ((D.set (Int.toNat (IntKind.i64.wrap (G + c))) K).set (Int.toNat (IntKind.i64.wrap (H + c))) O), b5, (IntKind.i64.wrap (c + 1)), _, (q.lG St), u, I, J, a4, rfl, P, a⟩))))))))⟩
  refine pc (oQ (oQ (tX (lU (rD ?_)))))
  obtain rfl := sj a
  exact qg rfl ⟨_, _, _, rfl, (q.ol (Kr Sn)), (mn.refl _), Lo.refl, (ST.nm q (oK.mem (Kr Sn))), y, rfl, rfl, j⟩
theorem AE (k : Value) (a0 : List Formula) (y : LO) (q D a3 : Int) (B : Value) (U : (Formula × Formula) → Option Int) (r : List Formula) (w : World) {T : mF} (h0 : po T (y ++ []) w) (c5 : nl 58 lH 5 T k a0 y) (Q : yo Tryz.prog B T (wR lH lH) (fun (r : Int) => (.int .i64 r)) U) (hm : oJ a0 q D a3 U = some r) :
  nM true Tryz.prog 364 [k, (.int .i64 q), (.int .i64 D), (.int .i64 a3), B] w T (y ++ []) (fun v L1 μ1 => ∃ S1, v = (.tuple #[]) ∧ L1 = (S1 ++ []) ∧ nl 58 lH 5 μ1 k r S1) := by
 refine vA h0 58 func364 rfl (fun b => sg (Wm (Wm (Wi rfl (Wa (lr (Wm (Wm (Wi rfl (Wa ?_))))))))))
 refine ln (me (nS (py (fun m E W => ∃ z x c t I Y, mn T I ∧ Lo (keys (y ++ [])) w T I ∧ ST true (keys (y ++ [])) w W I (x ++ Y) ∧ E 0 = k ∧ E 2 = (.int .i64 D) ∧ E 4 = B ∧ E 10 = (.int .i64 c) ∧ E 11 = (.int .i64 t) ∧ nl 58 lH 5 I k z x ∧ ox D U m z c t = some r) mR ⟨a0, y, (IntKind.i64.wrap (D - q)), (IntKind.i64.wrap (a3 - D)), T, _, (mn.refl _), Lo.refl, (b.lG St), rfl, rfl, rfl, rfl, rfl, c5, hm⟩ ?_)))
 rintro m E W ⟨z, x, c, t, I, Y, i, d, b, G, j, H, g, u, J, a⟩
 let a2 := (IntKind.i64.wrap (D - c))
 cases m with
 | zero => rw [ox] at a; cases a
 | succ s =>
  refine me (sg (Wh g (Wh u (Wi rfl (ln (CI a rfl (fun A a => ?_) (fun A a => ?_)))))))
  ·refine kn (bg (Wh g (Wh u (Wi rfl (ln (CI a rfl (fun F a => ?_) (fun F a => ?_)))))))
   ·refine sg (Wh G (Wh j (Wh g (Wi rfl (Wh j (Wh u (Wh H (bS a fun c6 L a => ?_))))))))
    refine VE (eD b (Cr Qz Cn) call367 (fun o => (sr k z x a2 D t B U _ _ o J (Q.mono i) L)) ?_)
    rintro _ e0 c8 d2 b Z h ⟨b9, K, rfl, R⟩
    obtain rfl := K.symm
    replace b := b.perm (Tr Tn)
    exact ln (mc (Wh g (Wh u (Wi rfl (Wa (mD (mL (lU ⟨s, bL _, c6, b9, (IntKind.i64.wrap (c - t)), t, c8, _, (i.trans Z), (d.trans h), (b.lG St), G, j, H, rfl, u, R, a⟩))))))))
   refine sg (Wh G (Wh j (Wh g (Wi rfl (Wh j (Wh u (Wi rfl (Wh g (Wi rfl (Wh g (Wh H (bS a fun c7 O a => ?_))))))))))))
   refine VE (eD b (Cr Qz Cn) call367 (fun o => (sr k z x a2 (IntKind.i64.wrap ((IntKind.i64.wrap (D + t)) - c)) c B U _ _ o J (Q.mono i) O)) ?_)
   rintro _ e1 c9 d3 b a4 l ⟨c0, M, rfl, b6⟩
   obtain rfl := M.symm
   replace b := b.perm (Tr Tn)
   exact ln (mc (Wh u (Wh g (Wi rfl (Wa (mD (mL (lU ⟨s, bL _, c7, c0, c, (IntKind.i64.wrap (t - c)), c9, _, (i.trans a4), (d.trans l), (b.lG St), G, j, H, g, rfl, b6, a⟩))))))))
  refine pc (oQ (oQ (tX (lU (mc (Wh G (Wh j (Wh g (Wi rfl (Wh j (Wh g (Wh H (bS a fun d9 P a => ?_)))))))))))))
  refine VE (eD b (Cr Qz Cn) call367 (fun o => (sr k z x a2 D c B U _ _ o J (Q.mono i) P)) ?_)
  rintro _ e2 e4 d4 b a5 n ⟨c1, N, rfl, b7⟩
  obtain rfl := N.symm
  replace b := b.perm (Tr Tn)
  refine mD (rD ?_)
  obtain rfl := sj a
  exact qg rfl ⟨_, _, _, rfl, (b.ol (Kr Sn)), (i.trans a5), (d.trans n), (ST.nm b (oK.mem (Kr Sn))), c1, rfl, rfl, b7⟩
set_option maxHeartbeats 1000000 in
theorem yu (t6 : (List Formula) → Int → Int → Int → ((Formula × Formula) → Option Int) → Option (List Formula)) (s6 : ∀ (t : Value) (a0 : List Formula) (c : LO) (z : Int) (M : Int) (B : Int) (D : Value) (f4 : (Formula × Formula) → Option Int) (r : List Formula) (w : World) {U : mF} (h0 : po U (c ++ []) w) (a5 : nl 58 lH 5 U t a0 c) (c6 : yo Tryz.prog D U (wR lH lH) (fun (r : Int) => (.int .i64 r)) f4), t6 a0 z M B f4 = some r → nM false Tryz.prog 357 [t, (.int .i64 z), (.int .i64 M), (.int .i64 B), D] w U (c ++ []) (fun v L1 μ1 => ∃ S1, v = (.tuple #[]) ∧ L1 = (S1 ++ []) ∧ nl 58 lH 5 μ1 t r S1)) (t : Value) (a0 : List Formula) (c : LO) (z M B : Int) (D : Value) (f4 : (Formula × Formula) → Option Int) (r : List Formula) (w : World) {U : mF} (h0 : po U (c ++ []) w) (a5 : nl 58 lH 5 U t a0 c) (c6 : yo Tryz.prog D U (wR lH lH) (fun (r : Int) => (.int .i64 r)) f4) (hm : rf t6 a0 z M B f4 = some r) :
  nM false Tryz.prog 357 [t, (.int .i64 z), (.int .i64 M), (.int .i64 B), D] w U (c ++ []) (fun v L1 μ1 => ∃ S1, v = (.tuple #[]) ∧ L1 = (S1 ++ []) ∧ nl 58 lH 5 μ1 t r S1) := by
 refine vA h0 220 func357 rfl (fun d => me (sg (Wm (Wm (Wi rfl (Wi rfl (ln (CI hm rfl (fun ae hm => ?_) (fun ae hm => ?_)))))))))
 ·refine sg (Wm (Wa (lr (Wm (Wa (ln (me (nS (py (fun m E W => ∃ T a9 o3, ST false (keys (c ++ [])) w W U (c ++ o3) ∧ E 0 = t ∧ E 1 = (.int .i64 z) ∧ E 4 = D ∧ E 10 = (.int .i64 T) ∧ E 11 = (.int .i64 a9) ∧ nw a0 z f4 m T a9 = some r) mR ⟨M, B, _, (d.lG St), rfl, rfl, rfl, rfl, rfl, hm⟩ ?_)))))))))
  rintro m E W ⟨T, a9, o3, d, e4, h8, k3, h9, k4, y⟩
  cases m with
  | zero => rw [nw] at y; cases y
  | succ t5 =>
   refine me (sg (Wh h9 (Wh k4 (Wi rfl (ln (CI y rfl (fun w9 y => ?_) (fun w9 y => ?_)))))))
   ·refine kn (bg (Wh h9 (Wh k4 (Wi rfl (V (vC (k' := .i64) (a := (IntKind.i64.wrap (T + a9))) eT gL rfl) (V (Jg (a := (IntKind.u64.wrap (IntKind.i64.wrap (T + a9)))) (b := 1) rfl rfl dc) (V (vC (k' := .u64) (a := (Int.fdiv (IntKind.u64.wrap (IntKind.i64.wrap (T + a9))) (2 ^ min (Int.toNat 1) (IntKind.bits .u64)))) gL eT rfl) (Wa (ln (me ?_))))))))))
    let e3 := (Int.fdiv (IntKind.u64.wrap (IntKind.i64.wrap (T + a9))) (2 ^ min (Int.toNat 1) (IntKind.bits .u64)))
    replace d := d.drew
    have n := d.has.lG (Kr Sn)
    refine mO n mu (X 0 rfl n (lO k3) (X 1 rfl n (lO e4) (X 2 rfl n (lO rfl) (bS y fun aa n1 y => XQ 3 rfl n (nP (i := (IntKind.i64.wrap e3)) lH.out aF aD rfl rfl a5 (mE n1) (mA n1)) (fun di ⟨_, ⟨z7, rfl, x7⟩, x4, bp⟩ => XH 4 rfl n (fun _ A => lK rfl (ms (pS.hp _) (x4.mono (ou (fun b o F => A.2 b o (Ml F)))) aZ aD)) (X 5 rfl n (lO e4) (X 6 rfl n (lO h8) (bS y fun ab n2 y => XQ 7 rfl n (nP (i := z) lH.out aF aD rfl rfl a5 (mE n2) (mA n2)) (fun dj ⟨_, ⟨z8, rfl, x8⟩, x5, bq⟩ => XH 8 rfl n (fun _ A => lK rfl (ms (pS.hp _) (x5.mono (ou (fun b o F => A.2 b o (Ml F)))) aZ aD)) (bS y fun dk x6 y => XE 9 rfl (zO (aa, ab) d c6 (mn.refl _) (wR.mk mf mf (lH.mk ⟨z7, rfl, x7⟩) (lH.mk ⟨z8, rfl, x8⟩) d.lJ) rfl (xM rfl rfl) x6 (fun dg d => ?_))))))))))))
    have n := d.has.lG (Kr Sn)
    refine ⟨n, (X 10 rfl n (mU rfl rfl rfl) (nc kr (lU (CI y rfl (fun x0 y => ?_) (fun x0 y => ?_)))))⟩
    ·exact mc (Wm (Wi rfl (Wa (mD (mL (lU ⟨t5, bL _, (IntKind.i64.wrap ((IntKind.i64.wrap e3) + 1)), a9, _, (d.lG St), e4, h8, k3, rfl, k4, y⟩))))))
    exact mc (Wm (Wa (mD (mL (lU ⟨t5, bL _, T, (IntKind.i64.wrap e3), _, (d.lG St), e4, h8, k3, h9, rfl, y⟩)))))
   refine pc (oQ (oQ (tX (lU (me (sg (Wh h8 (Wa (ln (CJ y (fun k5 E W => ∃ f7 o4, ST false (keys (c ++ [])) w W U (f7 ++ o4) ∧ nl 58 lH 5 U t k5 f7) (fun k5 x3 => ?_) ?_))))))))))
   ·refine nS (py (fun m E W => ∃ i0 f8 b0 k6, ST false (keys (c ++ [])) w W U (f8 ++ k6) ∧ E 0 = t ∧ E 10 = (.int .i64 T) ∧ E 13 = (.int .i64 b0) ∧ nl 58 lH 5 U t i0 f8 ∧ ot T m i0 b0 = some k5) mR ⟨a0, c, z, _, (d.lG St), e4, h9, rfl, a5, x3⟩ ?_)
    rintro m E W ⟨i0, f8, b0, k6, d, c7, l7, c0, d1, u⟩
    cases m with
    | zero => rw [ot] at u; cases u
    | succ y2 =>
     refine me (sg (Wh c0 (Wh l7 (Wi rfl (Wi rfl (ln (CI u rfl (fun p1 u => ?_) (fun p1 u => ?_))))))))
     ·refine kn (me (nS ?_))
      replace d := d.drew
      have n := d.has.lG Sn
      have q := d.has.lG (Kr Sn)
      refine xq 15 n q mu (nt 0 rfl kr (.inl rfl) rfl dc (fun _ _ h => ⟨h.1, nO (by rfl) h.2⟩) ⟨n, fun _ => q⟩ (fun _ _ _ _ => lO c7) (nt 1 rfl kr (.inl rfl) rfl dc (fun _ _ h => ⟨h.1, nO (by rfl) h.2⟩) ⟨n, fun _ => q⟩ (fun _ _ _ _ => lO c0) (nt 2 rfl kr (.inl rfl) rfl dc (fun _ _ h => ⟨h.1, nO (by rfl) h.2⟩) ⟨n, fun _ => q⟩ (fun _ _ _ _ => lO c7) (nt 3 rfl kr (.inl rfl) rfl dc (fun _ _ h => ⟨h.1, nO (by rfl) h.2⟩) ⟨n, fun _ => q⟩ (fun _ _ _ _ => lO c0) (nt 4 rfl kr (.inl rfl) rfl dc (fun _ _ h => ⟨h.1, nO (by rfl) h.2⟩) ⟨n, fun _ => q⟩ (fun _ _ _ _ => mU rfl rfl rfl) (nt 5 rfl kr (.inl rfl) rfl dc (fun _ _ h => ⟨h.1, nO (by rfl) h.2⟩) ⟨n, fun _ => q⟩ (fun _ _ _ _ => lO c7) (nt 6 rfl kr (.inl rfl) rfl dc (fun _ _ h => ⟨h.1, nO (by rfl) h.2⟩) ⟨n, fun _ => q⟩ (fun _ _ _ _ => lO c0) (nt 7 rfl kr (.inl rfl) rfl dc (fun _ _ h => ⟨h.1, nO (by rfl) h.2⟩) ⟨n, fun _ => q⟩ (fun _ _ _ _ => mU rfl rfl rfl) (bS u fun i3 j5 u => uP 8 rfl kr (.inl rfl) rfl dc (fun _ _ h => ⟨h.1, nO (by rfl) h.2⟩) ⟨n, fun _ => q⟩ (nP (i := (IntKind.i64.wrap (b0 + 1))) lH.out aF aD rfl rfl d1 (mE j5) (mA j5)) (fun bt ⟨_, ⟨cl, rfl, i7⟩, r3, af⟩ => nt 9 rfl kr (.inl rfl) rfl dc (fun _ _ h => ⟨h.1, nO (by rfl) h.2⟩) ⟨n, fun _ => q⟩ (fun l W L hs => have A := (hs.2 (L.FQ 15 [9] kr rfl)); lK rfl (ms (pS.hp _) (r3.mono (ou (fun b o F => A.2 b o (Ml F)))) aZ aD)) (nt 10 rfl kr (.inl rfl) rfl dc (fun _ _ h => ⟨h.1, nO (by rfl) h.2⟩) ⟨n, fun _ => q⟩ (fun _ _ _ _ => lO c7) (nt 11 rfl kr (.inl rfl) rfl dc (fun _ _ h => ⟨h.1, nO (by rfl) h.2⟩) ⟨n, fun _ => q⟩ (fun _ _ _ _ => lO c0) (bS u fun Y j6 u => ?_)))))))))))))
      refine uP 12 rfl kr (.inl rfl) rfl dc (fun _ _ h => ⟨h.1, nO (by rfl) h.2⟩) ⟨n, fun _ => q⟩ (nP (i := b0) lH.out aF aD rfl rfl d1 (mE j6) (mA j6)) (fun bu ⟨_, ⟨cm, rfl, i8⟩, r4, ag⟩ => nt 13 rfl kr (.inl rfl) rfl dc (fun _ _ h => ⟨h.1, nO (by rfl) h.2⟩) ⟨n, fun _ => q⟩ (fun l W L hs => have A := (hs.2 (L.FQ 15 [13] kr rfl)); lK rfl (ms (pS.hp _) (r4.mono (ou (fun b o F => A.2 b o (Ml F)))) aZ aD)) (bS u fun cw e9 u => uP 14 rfl kr (.inl rfl) rfl dc (fun _ _ h => ⟨h.1, nO (by rfl) h.2⟩) ⟨n, fun _ => q⟩ (nP (i := b0) lH.out aF aD rfl rfl d1 (mE e9) (mA e9)) (fun bv ⟨_, ⟨cn, rfl, ar⟩, an, q2⟩ => ?_)))
      obtain ⟨t7, u6, rfl⟩ := i7.form
      refine XO 15 rfl (tg (x1 := i3) mf d d1 rfl rfl (lH.mk ⟨(.slice t7 i3.Kids.length u6), rfl, i7⟩) q2 (mA e9) aD (fun be bc d i5 => ?_))
      have n := d.has.lG Sn
      refine ⟨⟨n, fun h => BN kr h⟩, (bS u fun cx f0 u => uP 16 rfl kr (.inl rfl) rfl dc (fun _ _ h => ⟨h.1, nO (by rfl) h.2⟩) ⟨n, fun h => BN kr h⟩ (nP (i := (IntKind.i64.wrap (b0 + 1))) lH.out aF aD rfl rfl i5 (mE f0) (mA f0)) (fun bw ⟨_, ⟨co, rfl, au⟩, ao, q3⟩ => ?_))⟩
      obtain ⟨t8, u7, rfl⟩ := i8.form
      refine XO 17 rfl (tg (x1 := (⟨Y.Op, Y.K, Y.lC, Y.Kids⟩ : Formula)) mf d i5 rfl rfl (lH.mk ⟨(.slice t8 Y.Kids.length u7), rfl, i8⟩) q3 (mA f0) aD (fun bf u1 d o9 => ?_))
      have n := d.has.lG Sn
      exact ⟨⟨n, fun h => BN kr h⟩, (nc kr (mL (lU (mc (Wh c0 (Wi rfl (Wa (ln ⟨y2, bL _, ((i0.set (Int.toNat b0) i3).set (Int.toNat (IntKind.i64.wrap (b0 + 1))) (⟨Y.Op, Y.K, Y.lC, Y.Kids⟩ : Formula)), u1, (IntKind.i64.wrap (b0 + 1)), _, (d.lG St), c7, l7, rfl, o9, u⟩))))))))⟩
     refine pc (oQ (oQ (tX (lU ?_))))
     have s := sj u; subst s
     exact ⟨f8, _, (d.lG St), d1⟩
   rintro dh E W ⟨f7, o4, d, x9⟩ x2
   refine mB (mQ ?_)
   have s := sj x2; subst s
   exact qg rfl ⟨_, _, _, rfl, (d.ol (Kr Sn)), (mn.refl _), Lo.refl, (ST.nm d (oK.mem (Kr Sn))), f7, rfl, rfl, x9⟩
 refine kS (Wm (Wm (Wi rfl (Wi rfl (ln (CI hm rfl (fun p2 hm => ?_) (fun p2 hm => ?_)))))))
 ·refine sg (Wm (Wa (lr (Wm (Wa (ln (me (nS (py (fun m E W => ∃ G N k7, ST false (keys (c ++ [])) w W U (c ++ k7) ∧ E 0 = t ∧ E 2 = (.int .i64 M) ∧ E 4 = D ∧ E 14 = (.int .i64 G) ∧ E 15 = (.int .i64 N) ∧ nx a0 M f4 m G N = some r) mR ⟨z, M, _, (d.lG St), rfl, rfl, rfl, rfl, rfl, hm⟩ ?_)))))))))
  rintro m E W ⟨G, N, k7, d, c8, d5, f9, d6, g0, j⟩
  let j1 := (IntKind.u64.wrap (IntKind.i64.wrap (G + N)))
  let b8 := (Int.fdiv j1 (2 ^ min (Int.toNat 1) (IntKind.bits .u64)))
  cases m with
  | zero => rw [nx] at j; cases j
  | succ n3 =>
   refine me (sg (Wh d6 (Wh g0 (Wi rfl (ln (CI j rfl (fun p3 j => ?_) (fun p3 j => ?_)))))))
   ·refine kn (bg (Wh d6 (Wh g0 (Wi rfl (V (vC (k' := .i64) (a := (IntKind.i64.wrap (G + N))) eT gL rfl) (V (Jg (a := j1) (b := 1) rfl rfl dc) (V (vC (k' := .u64) (a := (Int.fdiv j1 (2 ^ min (Int.toNat 1) (IntKind.bits .u64)))) gL eT rfl) (Wa (ln (me ?_))))))))))
    replace d := d.drew
    have n := d.has.lG (Kr Sn)
    refine mO n mu (X 0 rfl n (lO f9) (X 1 rfl n (lO c8) (X 2 rfl n (lO d5) (bS j fun y8 j7 j => XQ 3 rfl n (nP (i := M) lH.out aF aD rfl rfl a5 (mE j7) (mA j7)) (fun bx ⟨_, ⟨y4, rfl, s7⟩, r5, ah⟩ => XH 4 rfl n (fun _ A => lK rfl (ms (pS.hp _) (r5.mono (ou (fun b o F => A.2 b o (Ml F)))) aZ aD)) (X 5 rfl n (lO c8) (X 6 rfl n (lO rfl) (bS j fun y9 j8 j => XQ 7 rfl n (nP (i := (IntKind.i64.wrap b8)) lH.out aF aD rfl rfl a5 (mE j8) (mA j8)) (fun bz ⟨_, ⟨y5, rfl, s8⟩, r6, ai⟩ => XH 8 rfl n (fun _ A => lK rfl (ms (pS.hp _) (r6.mono (ou (fun b o F => A.2 b o (Ml F)))) aZ aD)) (bS j fun cg s1 j => XE 9 rfl (zO (y8, y9) d c6 (mn.refl _) (wR.mk mf mf (lH.mk ⟨y4, rfl, s7⟩) (lH.mk ⟨y5, rfl, s8⟩) d.lJ) rfl (xM rfl rfl) s1 (fun bh d => ?_))))))))))))
    have n := d.has.lG (Kr Sn)
    refine ⟨n, (X 10 rfl n (mU rfl rfl rfl) (X 11 rfl n (oH rfl) (nc kr (lU (CI j rfl (fun p4 j => ?_) (fun p4 j => ?_))))))⟩
    ·exact mc (Wm (Wi rfl (Wa (mD (mL (lU ⟨n3, bL _, (IntKind.i64.wrap ((IntKind.i64.wrap b8) + 1)), N, _, (d.lG St), c8, d5, f9, rfl, g0, j⟩))))))
    exact mc (Wm (Wa (mD (mL (lU ⟨n3, bL _, G, (IntKind.i64.wrap b8), _, (d.lG St), c8, d5, f9, d6, rfl, j⟩)))))
   refine pc (oQ (oQ (tX (lU (me (sg (Wh d5 (Wa (ln (CJ j (fun i1 E W => ∃ d3 k8, ST false (keys (c ++ [])) w W U (d3 ++ k8) ∧ nl 58 lH 5 U t i1 d3) (fun i1 q7 => ?_) ?_))))))))))
   ·refine nS (py (fun m E W => ∃ e2 d4 Q k9, ST false (keys (c ++ [])) w W U (d4 ++ k9) ∧ E 0 = t ∧ E 14 = (.int .i64 G) ∧ E 17 = (.int .i64 Q) ∧ nl 58 lH 5 U t e2 d4 ∧ oq G m e2 Q = some i1) mR ⟨a0, c, M, _, (d.lG St), c8, d6, rfl, a5, q7⟩ ?_)
    rintro m E W ⟨e2, d4, Q, k9, d, c9, l8, c1, b6, x⟩
    cases m with
    | zero => rw [oq] at x; cases x
    | succ y3 =>
     refine me (sg (Wh c1 (Wh l8 (Wi rfl (ln (CI x rfl (fun p5 x => ?_) (fun p5 x => ?_)))))))
     ·refine kn (me (nS ?_))
      replace d := d.drew
      have n := d.has.lG Sn
      have q := d.has.lG (Kr Sn)
      refine xq 15 n q mu (nt 0 rfl kr (.inl rfl) rfl dc (fun _ _ h => ⟨h.1, nO (by rfl) h.2⟩) ⟨n, fun _ => q⟩ (fun _ _ _ _ => lO c9) (nt 1 rfl kr (.inl rfl) rfl dc (fun _ _ h => ⟨h.1, nO (by rfl) h.2⟩) ⟨n, fun _ => q⟩ (fun _ _ _ _ => lO c1) (nt 2 rfl kr (.inl rfl) rfl dc (fun _ _ h => ⟨h.1, nO (by rfl) h.2⟩) ⟨n, fun _ => q⟩ (fun _ _ _ _ => lO c9) (nt 3 rfl kr (.inl rfl) rfl dc (fun _ _ h => ⟨h.1, nO (by rfl) h.2⟩) ⟨n, fun _ => q⟩ (fun _ _ _ _ => lO c1) (nt 4 rfl kr (.inl rfl) rfl dc (fun _ _ h => ⟨h.1, nO (by rfl) h.2⟩) ⟨n, fun _ => q⟩ (fun _ _ _ _ => mU rfl rfl rfl) (nt 5 rfl kr (.inl rfl) rfl dc (fun _ _ h => ⟨h.1, nO (by rfl) h.2⟩) ⟨n, fun _ => q⟩ (fun _ _ _ _ => lO c9) (nt 6 rfl kr (.inl rfl) rfl dc (fun _ _ h => ⟨h.1, nO (by rfl) h.2⟩) ⟨n, fun _ => q⟩ (fun _ _ _ _ => lO c1) (nt 7 rfl kr (.inl rfl) rfl dc (fun _ _ h => ⟨h.1, nO (by rfl) h.2⟩) ⟨n, fun _ => q⟩ (fun _ _ _ _ => mU rfl rfl rfl) (bS x fun i4 j9 x => uP 8 rfl kr (.inl rfl) rfl dc (fun _ _ h => ⟨h.1, nO (by rfl) h.2⟩) ⟨n, fun _ => q⟩ (nP (i := (IntKind.i64.wrap (Q - 1))) lH.out aF aD rfl rfl b6 (mE j9) (mA j9)) (fun ca ⟨_, ⟨cp, rfl, i9⟩, r7, aj⟩ => nt 9 rfl kr (.inl rfl) rfl dc (fun _ _ h => ⟨h.1, nO (by rfl) h.2⟩) ⟨n, fun _ => q⟩ (fun l W L hs => have A := (hs.2 (L.FQ 15 [9] kr rfl)); lK rfl (ms (pS.hp _) (r7.mono (ou (fun b o F => A.2 b o (Ml F)))) aZ aD)) (nt 10 rfl kr (.inl rfl) rfl dc (fun _ _ h => ⟨h.1, nO (by rfl) h.2⟩) ⟨n, fun _ => q⟩ (fun _ _ _ _ => lO c9) (nt 11 rfl kr (.inl rfl) rfl dc (fun _ _ h => ⟨h.1, nO (by rfl) h.2⟩) ⟨n, fun _ => q⟩ (fun _ _ _ _ => lO c1) (bS x fun Z k0 x => ?_)))))))))))))
      refine uP 12 rfl kr (.inl rfl) rfl dc (fun _ _ h => ⟨h.1, nO (by rfl) h.2⟩) ⟨n, fun _ => q⟩ (nP (i := Q) lH.out aF aD rfl rfl b6 (mE k0) (mA k0)) (fun cb ⟨_, ⟨cq, rfl, j0⟩, r8, ak⟩ => nt 13 rfl kr (.inl rfl) rfl dc (fun _ _ h => ⟨h.1, nO (by rfl) h.2⟩) ⟨n, fun _ => q⟩ (fun l W L hs => have A := (hs.2 (L.FQ 15 [13] kr rfl)); lK rfl (ms (pS.hp _) (r8.mono (ou (fun b o F => A.2 b o (Ml F)))) aZ aD)) (bS x fun cy f1 x => uP 14 rfl kr (.inl rfl) rfl dc (fun _ _ h => ⟨h.1, nO (by rfl) h.2⟩) ⟨n, fun _ => q⟩ (nP (i := Q) lH.out aF aD rfl rfl b6 (mE f1) (mA f1)) (fun cc ⟨_, ⟨cr, rfl, av⟩, ap, q4⟩ => ?_)))
      obtain ⟨t9, u8, rfl⟩ := i9.form
      refine XO 15 rfl (tg (x1 := i4) mf d b6 rfl rfl (lH.mk ⟨(.slice t9 i4.Kids.length u8), rfl, i9⟩) q4 (mA f1) aD (fun bi bd d i6 => ?_))
      have n := d.has.lG Sn
      refine ⟨⟨n, fun h => BN kr h⟩, (bS x fun cz f2 x => uP 16 rfl kr (.inl rfl) rfl dc (fun _ _ h => ⟨h.1, nO (by rfl) h.2⟩) ⟨n, fun h => BN kr h⟩ (nP (i := (IntKind.i64.wrap (Q - 1))) lH.out aF aD rfl rfl i6 (mE f2) (mA f2)) (fun cd ⟨_, ⟨cs, rfl, aw⟩, aq, q5⟩ => ?_))⟩
      obtain ⟨u0, u9, rfl⟩ := j0.form
      refine XO 17 rfl (tg (x1 := (⟨Z.Op, Z.K, Z.lC, Z.Kids⟩ : Formula)) mf d i6 rfl rfl (lH.mk ⟨(.slice u0 Z.Kids.length u9), rfl, j0⟩) q5 (mA f2) aD (fun bj u2 d p0 => ?_))
      have n := d.has.lG Sn
      exact ⟨⟨n, fun h => BN kr h⟩, (nc kr (mL (lU (mc (Wh c1 (Wi rfl (Wa (ln ⟨y3, bL _, ((e2.set (Int.toNat Q) i4).set (Int.toNat (IntKind.i64.wrap (Q - 1))) (⟨Z.Op, Z.K, Z.lC, Z.Kids⟩ : Formula)), u2, (IntKind.i64.wrap (Q - 1)), _, (d.lG St), c9, l8, rfl, p0, x⟩))))))))⟩
     refine pc (oQ (oQ (tX (lU ?_))))
     have s := sj x; subst s
     exact ⟨d4, _, (d.lG St), b6⟩
   rintro bs E W ⟨d3, k8, d, s9⟩ q6
   refine mB (mQ ?_)
   have s := sj q6; subst s
   exact qg rfl ⟨_, _, _, rfl, (d.ol (Kr Sn)), (mn.refl _), Lo.refl, (ST.nm d (oK.mem (Kr Sn))), d3, rfl, rfl, s9⟩
 let g5 := (IntKind.u64.wrap (IntKind.i64.wrap (z + B)))
 refine kg (Wm (Wm (Wi rfl (V (vC (k' := .i64) (a := (IntKind.i64.wrap (z + B))) eT gL rfl) (V (Jg (a := g5) (b := 1) rfl rfl dc) (V (vC (k' := .u64) (a := (Int.fdiv g5 (2 ^ min (Int.toNat 1) (IntKind.bits .u64)))) gL eT rfl) (Wa (lr ?_))))))))
 let R := (IntKind.i64.wrap (Int.fdiv g5 (2 ^ min (Int.toNat 1) (IntKind.bits .u64))))
 let e5 := (IntKind.i64.wrap (R + M))
 refine Wm (Wm (Wi rfl (Wa (lr (Wa (Wa (ln (me (CJ hm (fun i2 E W => ∃ l0, ST false (keys (c ++ [])) w W U (c ++ l0) ∧ E 0 = t ∧ E 1 = (.int .i64 z) ∧ E 2 = (.int .i64 M) ∧ E 3 = (.int .i64 B) ∧ E 4 = D ∧ E 18 = (.int .i64 R) ∧ E 19 = (.int .i64 e5) ∧ E 20 = (.int .i64 i2.1) ∧ E 21 = (.int .i64 i2.2)) (fun i2 b5 => ?_) ?_)))))))))
 ·refine sg (Wm (Wm (Wi rfl (ln (CI b5 rfl (fun q1 b5 => ?_) (fun q1 b5 => ?_))))))
  ·refine sg (Wm (Wm (Wi rfl (Wa (ln (mc (Wm (Wa (ln ?_)))))))))
   have s := sj b5; subst s
   exact ⟨_, (d.lG St), rfl, rfl, rfl, rfl, rfl, rfl, rfl, rfl, rfl⟩
  refine sg (Wm (Wa (ln (mc (Wm (Wa (ln ?_)))))))
  have s := sj b5; subst s
  exact ⟨_, (d.lG St), rfl, rfl, rfl, rfl, rfl, rfl, rfl, rfl, rfl⟩
 rintro ⟨z0, z1⟩ E W ⟨l0, d, v0, v1, v2, v3, v4, v5, l9, v6, v7⟩ q8
 refine sg (Wh l9 (Wi rfl (Wa (ln (me (nS (py (fun m E W => ∃ g K l1, ST false (keys (c ++ [])) w W U (c ++ l1) ∧ E 0 = t ∧ E 1 = (.int .i64 z) ∧ E 2 = (.int .i64 M) ∧ E 3 = (.int .i64 B) ∧ E 4 = D ∧ E 18 = (.int .i64 R) ∧ E 19 = (.int .i64 e5) ∧ E 20 = (.int .i64 g) ∧ E 21 = (.int .i64 K) ∧ E 22 = (.int .i64 (IntKind.i64.wrap (e5 - 1))) ∧ ni a0 z B M f4 t6 m g K = some r) mR ⟨z0, z1, _, (d.lG St), v0, v1, v2, v3, v4, v5, l9, v6, v7, rfl, q8⟩ ?_)))))))
 rintro m E W ⟨g, K, l1, d, c2, d7, c3, d8, d0, d9, g1, b1, g2, g3, k⟩
 let g6 := (IntKind.u64.wrap (IntKind.i64.wrap (g + K)))
 let a3 := (Int.fdiv g6 (2 ^ min (Int.toNat 1) (IntKind.bits .u64)))
 let j2 := (IntKind.i64.wrap a3)
 let a2 := (IntKind.i64.wrap (e5 - g))
 cases m with
 | zero => rw [ni] at k; cases k
 | succ n4 =>
  refine me (sg (Wh b1 (Wh g2 (Wi rfl (ln (CI k rfl (fun p6 k => ?_) (fun p6 k => ?_)))))))
  ·refine kn (bg (Wh b1 (Wh g2 (Wi rfl (V (vC (k' := .i64) (a := (IntKind.i64.wrap (g + K))) eT gL rfl) (V (Jg (a := g6) (b := 1) rfl rfl dc) (V (vC (k' := .u64) (a := (Int.fdiv g6 (2 ^ min (Int.toNat 1) (IntKind.bits .u64)))) gL eT rfl) (Wa (ln (me ?_))))))))))
   replace d := d.drew
   have n := d.has.lG (Kr Sn)
   refine mO n mu (X 0 rfl n (lO d0) (X 1 rfl n (lO c2) (X 2 rfl n (lO g3) (X 3 rfl n (lO rfl) (X 4 rfl n (mU rfl rfl rfl) (bS k fun z2 k1 k => XQ 5 rfl n (nP (i := (IntKind.i64.wrap ((IntKind.i64.wrap (e5 - 1)) - j2))) lH.out aF aD rfl rfl a5 (mE k1) (mA k1)) (fun ce ⟨_, ⟨y6, rfl, t0⟩, r9, al⟩ => XH 6 rfl n (fun _ A => lK rfl (ms (pS.hp _) (r9.mono (ou (fun b o F => A.2 b o (Ml F)))) aZ aD)) (X 7 rfl n (lO c2) (X 8 rfl n (lO rfl) (bS k fun z3 k2 k => XQ 9 rfl n (nP (i := (IntKind.i64.wrap a3)) lH.out aF aD rfl rfl a5 (mE k2) (mA k2)) (fun cf ⟨_, ⟨y7, rfl, t1⟩, s0, am⟩ => XH 10 rfl n (fun _ A => lK rfl (ms (pS.hp _) (s0.mono (ou (fun b o F => A.2 b o (Ml F)))) aZ aD)) (bS k fun ch s2 k => ?_))))))))))))
   refine XE 11 rfl (zO (z2, z3) d c6 (mn.refl _) (wR.mk mf mf (lH.mk ⟨y6, rfl, t0⟩) (lH.mk ⟨y7, rfl, t1⟩) d.lJ) rfl (xM rfl rfl) s2 (fun bk d => ?_))
   have n := d.has.lG (Kr Sn)
   refine ⟨n, (X 12 rfl n (mU rfl rfl rfl) (X 13 rfl n (oH rfl) (nc kr (lU (CI k rfl (fun p7 k => ?_) (fun p7 k => ?_))))))⟩
   ·exact mc (Wm (Wi rfl (Wa (mD (mL (lU ⟨n4, bL _, (IntKind.i64.wrap (j2 + 1)), K, _, (d.lG St), c2, d7, c3, d8, d0, d9, g1, rfl, g2, g3, k⟩))))))
   exact mc (Wm (Wa (mD (mL (lU ⟨n4, bL _, g, j2, _, (d.lG St), c2, d7, c3, d8, d0, d9, g1, b1, rfl, g3, k⟩)))))
  refine pc (oQ (oQ (tX (lU (sg (Wh g1 (Wh b1 (Wi rfl (Wa (ln (me (CJ k (fun n8 E W => ∃ b7 a4 l2, mn U a4 ∧ Lo (keys (c ++ [])) w U a4 ∧ ST false (keys (c ++ [])) w W a4 (b7 ++ l2) ∧ E 0 = t ∧ E 1 = (.int .i64 z) ∧ E 3 = (.int .i64 B) ∧ E 4 = D ∧ E 18 = (.int .i64 R) ∧ E 20 = (.int .i64 g) ∧ E 24 = (.int .i64 a2) ∧ nl 58 lH 5 a4 t n8 b7) (fun n8 r2 => ?_) ?_))))))))))))
  ·refine sg (Wh b1 (Wh c3 (Wi rfl (Wm (LJ r2 (fun n9 E W => ∃ l6, ST false (keys (c ++ [])) w W U (c ++ l6) ∧ E 0 = t ∧ E 1 = (.int .i64 z) ∧ E 2 = (.int .i64 M) ∧ E 3 = (.int .i64 B) ∧ E 4 = D ∧ E 18 = (.int .i64 R) ∧ E 20 = (.int .i64 g) ∧ E 24 = (.int .i64 a2) ∧ E 185 = (.bool n9)) 4 ?_ (fun n9 b4 f6 => ?_))))))
   ·rintro de E W ⟨l6, d, h4, m8, w7, m9, h5, n0, h6, h7, w8⟩ a8
    refine ln (CI a8 w8 (fun q0 a8 => ?_) (fun q0 a8 => ?_))
    ·refine mc (Wh h4 (Wh h6 (Wh w7 (Wh h7 (Wh h5 (bS a8 fun ck s5 a8 => ?_))))))
     refine VE (eD d (Cr Qz Cn) call364 (fun hh => nM.nz (AE t a0 c g M a2 D f4 _ _ hh a5 (c6.mono (mn.refl _)) s5)) ?_)
     rintro _ cv z5 ba d o2 bl ⟨u5, e8, rfl, t4⟩
     obtain rfl := e8.symm
     replace d := d.perm (Tr Tn)
     refine ln ?_
     have s := sj a8; subst s
     exact ⟨u5, z5, _, o2, bl, (d.lG St), h4, m8, m9, h5, n0, h6, h7, t4⟩
    refine kn ?_
    have s := sj a8; subst s
    exact ⟨c, U, _, (mn.refl _), Lo.refl, (d.lG St), h4, m8, m9, h5, n0, h6, h7, a5⟩
   refine bC b4 (fun J b4 => ?_) (fun J b4 => ?_)
   ·refine ug J (lO c3) (ug J (lO rfl) (ug J (mU rfl rfl rfl) (V (mo (cB J) rfl) ?_)))
    have s := sj b4; subst s
    exact f6 _ _ ⟨_, (d.lG St), c2, d7, c3, d8, d0, d9, b1, rfl, rfl⟩
   refine un J (un J (un J (V (mq (cB J) rfl) ?_)))
   have s := sj b4; subst s
   exact f6 _ _ ⟨_, (d.lG St), c2, d7, c3, d8, d0, d9, b1, rfl, rfl⟩
  rintro y0 E W ⟨b7, a4, l2, c4, O, d, m0, g4, m1, m2, g7, e0, m3, j3⟩ q9
  refine me (CJ q9 (fun n6 E W => ∃ b9 c5 l3, mn a4 c5 ∧ Lo (keys (c ++ [])) w a4 c5 ∧ ST false (keys (c ++ [])) w W c5 (b9 ++ l3) ∧ E 0 = t ∧ E 3 = (.int .i64 B) ∧ E 4 = D ∧ E 18 = (.int .i64 R) ∧ E 24 = (.int .i64 a2) ∧ nl 58 lH 5 c5 t n6 b9) (fun n6 r1 => ?_) ?_)
  ·refine sg (Wh g4 (Wh e0 (Wi rfl (Wm (LJ r1 (fun n7 E W => ∃ l5, ST false (keys (c ++ [])) w W a4 (b7 ++ l5) ∧ E 0 = t ∧ E 1 = (.int .i64 z) ∧ E 3 = (.int .i64 B) ∧ E 4 = D ∧ E 18 = (.int .i64 R) ∧ E 20 = (.int .i64 g) ∧ E 24 = (.int .i64 a2) ∧ E 199 = (.bool n7)) 4 ?_ (fun n7 b3 f5 => ?_))))))
   ·rintro db E W ⟨l5, d, h1, w4, m6, h2, h3, w5, m7, w6⟩ a7
    refine ln (CI a7 w6 (fun p9 a7 => ?_) (fun p9 a7 => ?_))
    ·refine mc (Wh h1 (Wh w4 (Wh w5 (Wh h3 (Wh h2 (bS a7 fun cj s4 a7 => ?_))))))
     refine VE (eD d (Cr Qz Cn) call357 (fun hh => (s6 t y0 b7 z g R D f4 _ _ hh j3 (c6.mono c4) s4)) ?_)
     rintro _ cu z4 az d o1 aE ⟨u4, e7, rfl, t3⟩
     obtain rfl := e7.symm
     replace d := d.perm (Tr Tn)
     refine ln ?_
     have s := sj a7; subst s
     exact ⟨u4, z4, _, o1, aE, (d.lG St), h1, m6, h2, h3, m7, t3⟩
    refine kn ?_
    have s := sj a7; subst s
    exact ⟨b7, a4, _, (mn.refl _), Lo.refl, (d.lG St), h1, m6, h2, h3, m7, j3⟩
   refine bC b3 (fun I b3 => ?_) (fun I b3 => ?_)
   ·refine ug I (lO e0) (ug I (lO g7) (ug I (mU rfl rfl rfl) (V (mo (cB I) rfl) ?_)))
    have s := sj b3; subst s
    exact f5 _ _ ⟨_, (d.lG St), m0, g4, m1, m2, g7, e0, m3, rfl⟩
   refine un I (un I (un I (V (mq (cB I) rfl) ?_)))
   have s := sj b3; subst s
   exact f5 _ _ ⟨_, (d.lG St), m0, g4, m1, m2, g7, e0, m3, rfl⟩
  rintro y1 E W ⟨b9, c5, l3, d2, P, d, m4, g8, m5, g9, e1, j4⟩ r0
  refine sg (Wh g9 (Wh e1 (Wi rfl (Wm (LJ r0 (fun n5 E W => ∃ l4, ST false (keys (c ++ [])) w W c5 (b9 ++ l4) ∧ E 0 = t ∧ E 3 = (.int .i64 B) ∧ E 4 = D ∧ E 18 = (.int .i64 R) ∧ E 24 = (.int .i64 a2) ∧ E 213 = (.bool n5)) 4 ?_ (fun n5 b2 f3 => ?_))))))
  ·rintro da E W ⟨l4, d, v8, v9, w0, w1, w2, w3⟩ a6
   refine ln (CI a6 w3 (fun p8 a6 => ?_) (fun p8 a6 => ?_))
   ·refine mc (Wh v8 (Wh w1 (Wh w2 (Wh v9 (Wh w0 (bS a6 fun ci s3 a6 => ?_))))))
    refine VE (eD d (Cr Qz Cn) call357 (fun hh => (s6 t y1 b9 R a2 B D f4 _ _ hh j4 (c6.mono (c4.trans d2)) s3)) ?_)
    rintro _ ct df ay d o0 ad ⟨u3, e6, rfl, t2⟩
    obtain rfl := e6.symm
    replace d := d.perm (Tr Tn)
    refine mD (rD ?_)
    have s := sj a6; subst s
    exact qg rfl ⟨_, _, _, rfl, (d.ol (Kr Sn)), ((c4.trans d2).trans o0), ((O.trans P).trans ad), (ST.nm d (oK.mem (Kr Sn))), u3, rfl, rfl, t2⟩
   refine np (rD ?_)
   have s := sj a6; subst s
   exact qg rfl ⟨_, _, _, rfl, (d.ol (Kr Sn)), (c4.trans d2), (O.trans P), (ST.nm d (oK.mem (Kr Sn))), b9, rfl, rfl, j4⟩
  refine bC b2 (fun H b2 => ?_) (fun H b2 => ?_)
  ·refine ug H (lO e1) (ug H (lO g8) (ug H (mU rfl rfl rfl) (V (mo (cB H) rfl) ?_)))
   have s := sj b2; subst s
   exact f3 _ _ ⟨_, (d.lG St), m4, g8, m5, g9, e1, rfl⟩
  refine un H (un H (un H (V (mq (cB H) rfl) ?_)))
  have s := sj b2; subst s
  exact f3 _ _ ⟨_, (d.lG St), m4, g8, m5, g9, e1, rfl⟩
theorem sC : ∀ (n : Nat) (c : Value) (k : List Formula) (a : LO) (t : Int) (u : Int) (x : Int) (g : Value) (y : (Formula × Formula) → Option Int) (r : List Formula) (w : World) {i : mF} (H : po i (a ++ []) w) (B : nl 58 lH 5 i c k a) (D : yo Tryz.prog g i (wR lH lH) (fun (r : Int) => (.int .i64 r)) y) (_ : nJ n k t u x y = some r),
  nM false Tryz.prog 357 [c, (.int .i64 t), (.int .i64 u), (.int .i64 x), g] w i (a ++ []) (fun v z G => ∃ j, v = (.tuple #[]) ∧ z = (j ++ []) ∧ nl 58 lH 5 G c r j)
 | 0 => by intros; rename_i h; simp only [nJ] at h; cases h
 | n + 1 => yu (nJ n) (sC n)
theorem AT (a : Value) (a0 : List Formula) (c : LO) (Q : Int) (x : Value) (f2 : (Formula × Formula) → Option Int) (r : List Formula) (w : World) {μ0 : mF} (h0 : po μ0 (c ++ []) w) (k4 : nl 58 lH 5 μ0 a a0 c) (c7 : yo Tryz.prog x μ0 (wR lH lH) (fun (r : Int) => (.int .i64 r)) f2) (hm : tI a0 Q f2 = some r) :
  nM false Tryz.prog 338 [a, (.int .i64 Q), x] w μ0 (c ++ []) (fun v L1 μ1 => ∃ S1, v = (.tuple #[]) ∧ L1 = (S1 ++ []) ∧ nl 58 lH 5 μ1 a r S1) := by
 refine vA h0 63 func338 rfl (fun b => sg (Wa (lr (Wm (Wa (Wa (ln (me (nS (py (fun m E W => ∃ d4 d0 d5 P d6 f1, mn μ0 d6 ∧ Lo (keys (c ++ [])) w μ0 d6 ∧ ST false (keys (c ++ [])) w W d6 (d0 ++ f1) ∧ E 0 = a ∧ E 1 = (.int .i64 Q) ∧ E 2 = x ∧ E 6 = (.int .i64 20) ∧ E 7 = (.int .i64 d5) ∧ E 8 = (.int .i64 P) ∧ nl 58 lH 5 d6 a d4 d0 ∧ nX Q f2 m d4 d5 P = some r) mR ⟨a0, c, 0, 20, μ0, _, (mn.refl _), Lo.refl, (b.lG St), rfl, rfl, rfl, rfl, rfl, rfl, k4, hm⟩ ?_))))))))))
 rintro m E W ⟨d4, d0, d5, P, d6, f1, z, l, b, b4, b5, b6, d7, f4, b7, h1, i⟩
 cases m with
 | zero => rw [nX] at i; cases i
 | succ k5 =>
  refine me (sg (Wh b7 (Wh b5 (Wi rfl (ln (CI i rfl (fun i4 i => ?_) (fun i4 i => ?_)))))))
  ·refine kn (bg (Wh b4 (Wh f4 (Wh b7 (Wh b6 (bS i fun k6 i7 i => ?_))))))
   refine VE (eD b (Cr Qz Cn) call356 (fun A => (uy a d4 d0 d5 P x f2 _ _ A h1 (c7.mono z) i7)) ?_)
   rintro _ m4 k8 l8 b g0 F ⟨k1, c8, rfl, j0⟩
   obtain rfl := c8.symm
   replace b := b.perm (Tr Tn)
   refine lr (Wh b7 (Wa (ln (mc (Wh b7 (Wh d7 (Wi rfl (Wa (mD (mL ?_))))))))))
   exact lU ⟨k5, bL _, k6, k1, P, (IntKind.i64.wrap (P + 20)), k8, _, (z.trans g0), (l.trans F), (b.lG St), b4, b5, b6, d7, rfl, rfl, j0, i⟩
  refine pc (oQ (oQ (tX (lU (sg (Wh b4 (Wh f4 (Wh b5 (Wh b6 (bS i fun k7 i8 i => ?_))))))))))
  refine VE (eD b (Cr Qz Cn) call356 (fun A => (uy a d4 d0 d5 Q x f2 _ _ A h1 (c7.mono z) i8)) ?_)
  rintro _ m5 R l9 b a5 L ⟨k2, c9, rfl, j3⟩
  obtain rfl := c9.symm
  replace b := b.perm (Tr Tn)
  refine ln (xg (CJ i (fun d8 E W => ∃ b2 a9 f3, mn R a9 ∧ Lo (keys (c ++ [])) w R a9 ∧ ST false (keys (c ++ [])) w W a9 (b2 ++ f3) ∧ nl 58 lH 5 a9 a d8 b2) (fun d8 i6 => ?_) ?_))
  ·refine nS (py (fun m E W => ∃ a2 I j k e0, mn R k ∧ Lo (keys (c ++ [])) w R k ∧ ST false (keys (c ++ [])) w W k (I ++ e0) ∧ E 0 = a ∧ E 1 = (.int .i64 Q) ∧ E 2 = x ∧ E 6 = (.int .i64 j) ∧ nl 58 lH 5 k a a2 I ∧ nW Q f2 m a2 j = some d8) mR ⟨k7, k2, 20, R, _, (mn.refl _), Lo.refl, (b.lG St), b4, b5, b6, d7, j3, i6⟩ ?_)
   rintro m E W ⟨a2, I, j, k, e0, B, d, b, h6, e4, h7, b3, d1, t⟩
   cases m with
   | zero => rw [nW] at t; cases t
   | succ j6 =>
    refine me (sg (Wh b3 (Wh e4 (Wi rfl (ln (CI t rfl (fun f7 t => ?_) (fun f7 t => ?_)))))))
    ·refine kn (bg (Wh b3 (Wi rfl (Wa (Wa (ln (me (CJ t (fun a4 E W => ∃ J y e1, mn k y ∧ Lo (keys (c ++ [])) w k y ∧ ST false (keys (c ++ [])) w W y (J ++ e1) ∧ E 0 = a ∧ E 1 = (.int .i64 Q) ∧ E 2 = x ∧ E 6 = (.int .i64 j) ∧ E 7 = (.int .i64 a4.2) ∧ nl 58 lH 5 y a a4.1 J) (fun a4 g4 => ?_) ?_))))))))
     ·refine nS (py (fun m E W => ∃ a3 K M D H e3, mn k H ∧ Lo (keys (c ++ [])) w k H ∧ ST false (keys (c ++ [])) w W H (K ++ e3) ∧ E 0 = a ∧ E 1 = (.int .i64 Q) ∧ E 2 = x ∧ E 6 = (.int .i64 j) ∧ E 7 = (.int .i64 M) ∧ E 8 = (.int .i64 D) ∧ nl 58 lH 5 H a a3 K ∧ ow Q j f2 m a3 M D = some a4) mR ⟨a2, I, 0, (IntKind.i64.wrap (2 * j)), k, _, (mn.refl _), Lo.refl, (b.lG St), h6, e4, h7, b3, rfl, rfl, d1, g4⟩ ?_)
      rintro m E W ⟨a3, K, M, D, H, e3, N, h, b, c2, c3, c4, Y, c5, Z, d3, g⟩
      cases m with
      | zero => rw [ow] at g; cases g
      | succ j7 =>
       refine me (sg (Wh Z (Wh c3 (Wi rfl (ln (CI g rfl (fun f9 g => ?_) (fun f9 g => ?_)))))))
       ·refine kn (bg (Wh c2 (Wh c5 (Wh c5 (Wh Y (Wi rfl (Wh Z (Wh c4 (bS g fun j8 g8 g => ?_)))))))))
        refine VE (eD b (Cr Qz Cn) call357 (fun A => ((sC mR) a a3 K M (IntKind.i64.wrap (M + j)) D x f2 _ _ A d3 (c7.mono (((z.trans a5).trans B).trans N)) g8)) ?_)
        rintro _ l6 k0 l1 b f0 s ⟨h5, a7, rfl, h3⟩
        obtain rfl := a7.symm
        replace b := b.perm (Tr Tn)
        refine lr (Wh Z (Wa (ln (mc (Wh Z (Wh Y (Wi rfl (Wi rfl (Wa (mD ?_))))))))))
        exact mL (lU ⟨j7, bL _, j8, h5, D, (IntKind.i64.wrap (D + (IntKind.i64.wrap (2 * j)))), k0, _, (N.trans f0), (h.trans s), (b.lG St), c2, c3, c4, Y, rfl, rfl, h3, g⟩)
       refine pc (oQ (oQ (tX (lU ?_))))
       obtain rfl := sj g
       exact ⟨K, H, _, N, h, (b.lG St), c2, c3, c4, Y, c5, d3⟩
     rintro ⟨j4, e7⟩ E W ⟨J, y, e1, b0, n, b, b9, U, c0, c1, e5, d2⟩ g2
     refine me (CJ g2 (fun e6 E W => ∃ T G e2, mn y G ∧ Lo (keys (c ++ [])) w y G ∧ ST false (keys (c ++ [])) w W G (T ++ e2) ∧ E 0 = a ∧ E 1 = (.int .i64 Q) ∧ E 2 = x ∧ E 6 = (.int .i64 j) ∧ nl 58 lH 5 G a e6 T) (fun e6 u => ?_) ?_)
     ·refine sg (Wh e5 (Wh c1 (Wi rfl (Wa (lr (Wm (Wh U (Wi rfl (ln ?_)))))))))
      refine CI u rfl (fun f8 u => ?_) (fun f8 u => ?_)
      ·refine mc (Wh b9 (Wh e5 (Wm (Wh U (Wh c0 (bS u fun l4 g7 u => ?_))))))
       refine VE (eD b (Cr Qz Cn) call357 (fun A => ((sC mR) a j4 J e7 (IntKind.i64.wrap (e7 + j)) Q x f2 _ _ A d2 (c7.mono (((z.trans a5).trans B).trans b0)) g7)) ?_)
       rintro _ l5 j9 l0 b e9 q ⟨h4, a6, rfl, h2⟩
       obtain rfl := a6.symm
       replace b := b.perm (Tr Tn)
       refine ln ?_
       obtain rfl := sj u
       exact ⟨h4, j9, _, e9, q, (b.lG St), b9, U, c0, c1, h2⟩
      refine kn ?_
      obtain rfl := sj u
      exact ⟨J, y, _, (mn.refl _), Lo.refl, (b.lG St), b9, U, c0, c1, d2⟩
     rintro j5 E W ⟨T, G, e2, e8, o, b, h8, h9, i0, i1, g9⟩ g3
     exact mc (Wh i1 (Wi rfl (Wa (mD (mL (lU ⟨j6, bL _, j5, T, (IntKind.i64.wrap (j * 2)), G, _, ((B.trans b0).trans e8), ((d.trans n).trans o), (b.lG St), h8, h9, i0, rfl, g9, g3⟩))))))
    refine pc (oQ (oQ (tX (lU ?_))))
    obtain rfl := sj t
    exact ⟨I, k, _, B, d, (b.lG St), d1⟩
  rintro m3 E W ⟨b2, a9, f3, g1, O, b, i9⟩ i5
  refine rD ?_
  obtain rfl := sj i5
  exact qg rfl ⟨_, _, _, rfl, (b.ol (Kr Sn)), ((z.trans a5).trans g1), ((l.trans L).trans O), (ST.nm b (oK.mem (Kr Sn))), b2, rfl, rfl, i9⟩
theorem Aw (c : Value) (k : List Formula) (a : LO) (i : Value) (u : (Formula × Formula) → Option Int) (r : List Formula) (w : World) {t : mF} (J : po t (a ++ []) w) (j : nl 58 lH 5 t c k a) (x : yo Tryz.prog i t (wR lH lH) (fun (r : Int) => (.int .i64 r)) u) (hm : qT k u = some r) :
  nM false Tryz.prog 321 [c, i] w t (a ++ []) (fun v I K => ∃ B, v = (.tuple #[]) ∧ I = (B ++ []) ∧ nl 58 lH 5 K c r B) := by
 refine vA J 9 func321 rfl (fun b => mc (Wm (Wm (V (Av aF rfl j) (Wm (bS hm fun Q H hm => ?_))))))
 refine VE (eD b (Cr Qz Cn) call338 (fun h => (AT c k a (k.length : Int) i u _ _ h j (x.mono (mn.refl _)) H)) ?_)
 rintro _ T U M b y d ⟨D, g, rfl, z⟩
 obtain rfl := g.symm
 replace b := b.perm (Tr Tn)
 refine mD (rD ?_)
 obtain rfl := sj hm
 exact qg rfl ⟨_, _, _, rfl, (b.ol (Kr Sn)), y, d, (ST.nm b (oK.mem (Kr Sn))), D, rfl, rfl, z⟩
theorem Fy (A : (List Int) → Formula → Option (List Int)) (f2 : ∀ (a : Nat) (k : Value) (B : List Int) (g : LO) (j : Formula) (u : Value) (r : List Int) (w : World) {μ0 : mF} (h0 : po μ0 ((a, Ob #[k] 239) :: (g ++ [])) w) (T : my 5 (nr .u8) 1 k B g) (t : Sl lH 5 μ0 u j.Kids), A B j = some r → nH false Tryz.prog 365 [(.pointer (some ⟨a, 0, none⟩)), (.agg #[(.int .i64 j.Op), (.int .i64 j.K), (.string j.lC.lI), (.string j.lC.lM), u])] w ((a, Ob #[k] 239) :: (g ++ [])) (fun v L1 W' => ∃ m S2, v = (.tuple #[]) ∧ L1 = ((a, Ob #[m] 239) :: (S2 ++ [])) ∧ my 5 (nr .u8) 1 m r S2)) (a : Nat) (k : Value) (B : List Int) (g : LO) (j : Formula) (u : Value) (r : List Int) (w : World) {μ0 : mF} (h0 : po μ0 ((a, Ob #[k] 239) :: (g ++ [])) w) (T : my 5 (nr .u8) 1 k B g) (t : Sl lH 5 μ0 u j.Kids) (hm : xJ A B j = some r) :
  nH false Tryz.prog 365 [(.pointer (some ⟨a, 0, none⟩)), (.agg #[(.int .i64 j.Op), (.int .i64 j.K), (.string j.lC.lI), (.string j.lC.lM), u])] w ((a, Ob #[k] 239) :: (g ++ [])) (fun v L1 W' => ∃ m S2, v = (.tuple #[]) ∧ L1 = ((a, Ob #[m] 239) :: (S2 ++ [])) ∧ my 5 (nr .u8) 1 m r S2) := by
 let b0 := ((a, Ob #[k] 239) :: (g ++ []))
 refine AF h0 40 func365 rfl (fun b => sg ?_)
 obtain ⟨A1, c2, rfl⟩ := t.form
 refine VE (mI b rfl (fun W4 b3 b => lr (Wm (Wf vT (VB b Mh rfl rfl cP (bS hm fun r5 g8 hm => ?_))))))
 refine VE (eM b (Cb (Pb Pz) (Cr (Qb Qz) Cn)) call181 (fun l _ => nH.nz (ue a k B g j.Op _ _ l T g8)) ?_)
 rintro _ j8 n j0 b e9 ad d ⟨F, a9, a2, rfl, a5⟩
 obtain rfl := a2.symm
 replace b := b.perm (Tb (Tr Tn))
 refine lS (Wf vT (VB b (Mt (Ma Mh)) rfl rfl cP (Wi rfl (ln (CI hm rfl (fun e8 hm => ?_) (fun e8 hm => ?_))))))
 ·refine sg (Wm (Wf xW (VA b (Mt (Ma Mh)) (lE j.lC) bB aH (bS hm fun j7 f0 hm => ?_))))
  refine VE (eM b (Cb Pz (Cr Qz Cn)) call182 (fun l _ => nH.nz (xo a F r5.2 a9 j.lC _ _ l a5 f0)) ?_)
  rintro _ j9 k1 j3 b h6 ae d ⟨h3, g2, a3, rfl, f4⟩
  obtain rfl := a3.symm
  replace b := b.perm (Tb (Tr Tn))
  refine ln ?_
  replace b := b.lG (Kb (Kr (Db St)))
  refine mB (mQ ?_)
  obtain rfl := sj hm
  exact qg rfl ⟨_, _, rfl, (b.ol (Kb (Kr Sn))), h3, g2, rfl, rfl, f4⟩
 refine kn (me (CJ hm (fun b5 E W => ∃ q o L d6, mn n L ∧ ST false (keys b0) w W L ((a, Ob #[q] 239) :: ((b3, Ol (C1 j.Op j.K j.lC.lI j.lC.lM A1 j.Kids.length c2) 58) :: (o ++ d6))) ∧ E 0 = (.pointer (some ⟨a, 0, none⟩)) ∧ E 3 = (.pointer (some ⟨b3, 0, none⟩)) ∧ my 5 (nr .u8) 1 q b5 o) (fun b5 y => ?_) ?_))
 ·refine sg (Wf vT (VB b (Mt (Ma Mh)) rfl rfl cP (Wi rfl (ln (CI y rfl (fun c4 y => ?_) (fun c4 y => ?_))))))
  ·refine mc (Wm (Wf AO (VB b (Mt (Ma Mh)) rfl rfl cP (bS y fun i6 d0 y => ?_))))
   refine VE (eM b (Cb Pz (Cr Qz Cn)) call181 (fun l _ => nH.nz (ue a F r5.2 a9 j.K _ _ l a5 d0)) ?_)
   rintro _ i9 g1 h9 b b2 aa d ⟨f9, e3, N, rfl, d5⟩
   obtain rfl := N.symm
   replace b := b.perm (Tb (Tr Tn))
   refine ln ?_
   obtain rfl := sj y
   exact ⟨f9, e3, g1, _, b2, (b.lG (Kb (Sb (Pr Pz) St))), rfl, rfl, d5⟩
  refine kn ?_
  obtain rfl := sj y
  exact ⟨F, a9, n, _, (mn.refl _), (b.lG (Kb (Sb (Pr Pz) St))), rfl, rfl, a5⟩
 rintro g9 E W ⟨q, o, L, d6, c6, b, d7, d8, f3⟩ a0
 refine sg (Wh d7 (V (lN uO d8) (VB b (Mt Mh) rfl rfl gP (V (nh aF rfl t) (bS a0 fun h2 f1 a0 => ?_)))))
 refine VE (eM b (Cb Pz (Cr (Qb Qz) Cn)) call181 (fun l _ => nH.nz (ue a q g9 o (j.Kids.length : Int) _ _ l f3 f1)) ?_)
 rintro _ k0 d9 j4 b c7 af d ⟨h4, g3, a4, rfl, f5⟩
 obtain rfl := a4.symm
 replace b := b.perm (Tb (Tr Tn))
 refine lr (V (lN uO d8) (VB b (Mt (Ma Mh)) rfl rfl gP (V (nh aF rfl t) (Wm (ln ?_)))))
 replace b := b.lG (Kb (Kr (Db St)))
 refine xg (mY (fun i E W => ∃ D H z Q U, (E 32 = .int .i64 (i : Nat) ∧ E 31 = .int .i64 (j.Kids.length : Nat)) ∧ mn d9 Q ∧ ST false (keys b0) w W Q ((a, Ob #[D] 239) :: (z ++ U)) ∧ E 0 = (.pointer (some ⟨a, 0, none⟩)) ∧ E 30 = (.slice A1 j.Kids.length c2) ∧ my 5 (nr .u8) 1 D H z ∧ sH A (j.Kids.drop i) H = some r) j.Kids.length t.len ⟨h4, h2.2, g3, d9, _, ⟨rfl, rfl⟩, (mn.refl _), (b.lG St), d7, rfl, f5, a0⟩ dc dc dc (fun _ _ _ h => by obtain ⟨_, _, _, _, _, P, _⟩ := h; exact P) ?_ ?_)
 ·rintro f6 E W c5 ⟨D, H, z, Q, U, ⟨O, eN⟩, G, b, Y, Z, K, x⟩
  obtain ⟨c, h7, d2, d1, d3⟩ := mM c5
  rw [d2] at x
  refine bg (VQ (od (i := (f6 : Int)) (x0 := c) lH.out aF aD Z O (t.mono mf.mono (((e9.trans c6).trans c7).trans G)) (aG _) d1) (fun i5 ⟨_, ⟨i7, rfl, a7⟩, c8⟩ => V (lK rfl (ms b.has c8 aZ aD)) (VE (mz b bI (fun i0 i4 b => ?_)))))
  obtain ⟨I, J, rfl⟩ := a7.form
  let s := (C1 c.Op c.K c.lC.lI c.lC.lM I c.Kids.length J)
  refine VO (mh (.agg s.toArray) (s.toArray) b rfl rfl aD oc nb rfl (fun i1 b => ln (mc (Wh Y (VA b Mh s aZ aD (bS x fun f7 c9 x => ?_))))))
  refine VE (eM b (Cb (Pb Pz) (Cr (Qb Qz) Cn)) call365 (fun l ab => (f2 a D H z c (.slice I c.Kids.length J) _ _ l K (a7.mono mf.mono ab) c9)) ?_)
  rintro _ i8 g0 h8 b b1 R d ⟨f8, e2, M, rfl, d4⟩
  obtain rfl := M.symm
  replace b := b.perm (Tb (Tr Tn))
  refine mD (mL (lU ?_))
  replace b := b.lG (Kb (Kr (Db St)))
  exact ⟨O, f8, f7, e2, g0, _, ⟨rfl, eN⟩, (G.trans b1), (b.lG St), Y, Z, d4, (by rw [d3]; exact x)⟩
 rintro E W ⟨D, H, z, Q, U, ⟨O, eN⟩, G, b, Y, Z, K, x⟩
 rw [aK] at x
 refine lU (rD ?_)
 obtain rfl := sj x
 exact qg rfl ⟨_, _, rfl, (b.ol (Kb (Kr Sn))), D, z, rfl, rfl, K⟩
theorem DJ : ∀ (n : Nat) (i : Nat) (g : Value) (k : List Int) (c : LO) (j : Formula) (a : Value) (r : List Int) (w : World) {z : mF} (D : po z ((i, Ob #[g] 239) :: (c ++ [])) w) (x : my 5 (nr .u8) 1 g k c) (t : Sl lH 5 z a j.Kids) (_ : rT n k j = some r),
  nH false Tryz.prog 365 [(.pointer (some ⟨i, 0, none⟩)), (.agg #[(.int .i64 j.Op), (.int .i64 j.K), (.string j.lC.lI), (.string j.lC.lM), a])] w ((i, Ob #[g] 239) :: (c ++ [])) (fun v B W' => ∃ y u, v = (.tuple #[]) ∧ B = ((i, Ob #[y] 239) :: (u ++ [])) ∧ my 5 (nr .u8) 1 y r u)
 | 0 => by intros; rename_i h; simp only [rT] at h; cases h
 | n + 1 => Fy (rT n) (DJ n)
theorem IS (k : Nat) (i : Value) (u : List Int) (c : LO) (a : Formula) (j : Value) (r : (Bool × (List Int))) (w : World) {Q : mF} (Y : po Q ((k, Ob #[i] 239) :: (c ++ [])) w) (t : my 5 (nr .u8) 1 i u c) (g : Sl lH 5 Q j a.Kids) (hm : yq u a = some r) :
  nH false Tryz.prog 358 [(.pointer (some ⟨k, 0, none⟩)), (.agg #[(.int .i64 a.Op), (.int .i64 a.K), (.string a.lC.lI), (.string a.lC.lM), j])] w ((k, Ob #[i] 239) :: (c ++ [])) (fun v U W' => ∃ M I, v = (.bool (r.1)) ∧ U = ((k, Ob #[M] 239) :: (I ++ [])) ∧ my 5 (nr .u8) 1 M r.2 I) := by
 refine AF Y 15 func358 rfl (fun b => sg ?_)
 obtain ⟨y, z, rfl⟩ := g.form
 let B := (C1 a.Op a.K a.lC.lI a.lC.lM y a.Kids.length z)
 refine VE (mI b rfl (fun W4 n b => Wa (lS (Wm (V (tN iP rfl rfl) (Wm (Vg rfl rfl (lK rfl (lP b.has Mh B rfl aZ aD)) (bS hm fun o K hm => P0 rfl rfl (Eg b call72 (uT a (.slice y a.Kids.length z) _ _ (g.mono mf.mono b.lJ) K) (fun W7 b => Vg rfl rfl (oH rfl) (V (mq rfl rfl) ?_)))))))))))
 refine ln (CI hm rfl (fun J hm => ?_) (fun J hm => ?_))
 ·refine sg (Wa (ln ?_))
  replace b := b.lG (Db St)
  refine mB (mQ ?_)
  obtain rfl := sj hm
  exact ng (v := (.bool false)) rfl rfl ⟨_, _, rfl, (b.ol (Kb (Kr Sn))), i, c, rfl, rfl, t⟩
 refine kg (Wm (VA b Mh B aZ aD (bS hm fun q D hm => ?_)))
 refine VE (eM b (Cb (Pb Pz) (Cr (Qb Qz) Cn)) call365 (fun m h => ((DJ mR) k i u c a (.slice y a.Kids.length z) _ _ m t (g.mono mf.mono h) D)) ?_)
 rintro _ a2 a3 Z b T l d ⟨N, H, x, rfl, G⟩
 obtain rfl := x.symm
 replace b := b.perm (Tb (Tr Tn))
 refine ln ?_
 replace b := b.lG (Kb (Kr (Db St)))
 refine sg (Wa (lt ?_))
 obtain rfl := sj hm
 exact ng (v := (.bool true)) rfl rfl ⟨_, _, rfl, (b.ol (Kb (Kr Sn))), N, H, rfl, rfl, G⟩
theorem Cf (a : Formula) (g : Value) (r : List Int) (w : World) (c : Sl lH 5 (hp w) g a.Kids) (hm : vp a = some r) :
  nC false Tryz.prog 339 [(.agg #[(.int .i64 a.Op), (.int .i64 a.K), (.string a.lC.lI), (.string a.lC.lM), g])] w 5 (nr .u8) 1 r := by
 refine vV 11 func339 rfl (fun d => sg ?_)
 obtain ⟨k, t, rfl⟩ := c.form
 refine VE (mI d rfl (fun W4 u d => Wa (lr (V (nZ (v := (.agg #[(.slice none 0 0)])) sL (nB zeroValue239 iO (Ru _ iO) kr)) (VE (mI d rfl (fun W6 B d => Wa (lr (Wm (VA d (Mt Mh) (C1 a.Op a.K a.lC.lI a.lC.lM k a.Kids.length t) aZ aD ?_))))))))))
 refine bS hm fun K D hm => ?_
 refine VE (eM d (Cb Pz (C0 Cn)) call358 (fun s m => (IS B (.slice none 0 0) ([]) [] a (.slice k a.Kids.length t) _ _ s (my.nil _ _ _) (c.mono mf.mono m) D)) ?_)
 rintro _ U Y M d I n h ⟨H, N, i, rfl, y⟩
 obtain rfl := i.symm
 replace d := d.perm (Tb (Tr Tn))
 refine ln ?_
 replace d := d.lG (Kb (Kr (Db St)))
 refine sg (Wm (bS hm fun T x hm => VE (pF d call184 (nC.nz (CR B H K.2 _ _ (y.sl (fun _ => rfl) (fun b o l => d.at_ (Mt (Ml l)))) (At.of (d.at_ Mh) _ rfl) x)) (fun Q G Z z d J q j => Wa (ln ?_)))))
 replace d := d.lG (Kr (Db (Dr St)))
 refine mB ?_
 obtain rfl := sj hm
 exact ng (v := G) rfl rfl ⟨_, z, rfl, d.oA (fun p l => (Ml l)) j.nd, j⟩
theorem Hl (a : Formula) (j : Value) (c : Formula) (k : Value) (r : Int) (w : World) (g : Sl lH 5 (hp w) j a.Kids) (i : Sl lH 5 (hp w) k c.Kids) (hm : vn a c = some r) :
  mw false Tryz.prog 322 [(.agg #[(.int .i64 a.Op), (.int .i64 a.K), (.string a.lC.lI), (.string a.lC.lM), j]), (.agg #[(.int .i64 c.Op), (.int .i64 c.K), (.string c.lC.lI), (.string c.lC.lM), k])] w (.int .i64 r) := by
 refine cG 10 func322 rfl (fun d => sg ?_)
 obtain ⟨x, z, rfl⟩ := g.form
 refine VE (mI d rfl (fun W4 s d => ?_))
 obtain ⟨y, B, rfl⟩ := i.form
 refine VE (mI d rfl (fun W8 v d => Wa (ln (me ?_))))
 replace d := d.drew
 have h := d.has.lG (Kb (Kb Sn))
 refine mO h mu (XH 0 rfl h (fun _ l => lK rfl (lP l (Mt Mh) (C1 a.Op a.K a.lC.lI a.lC.lM x a.Kids.length z) rfl aZ aD)) (XH 2 rfl h (fun _ l => lK rfl (lP l Mh (C1 c.Op c.K c.lC.lI c.lC.lM y c.Kids.length B) rfl aZ aD)) (bS hm fun K H hm => XE 1 rfl (pF d call339 (Cf a (.slice x a.Kids.length z) _ _ (g.mono mf.mono d.lJ) H) (fun Y N a4 T d t n D => ?_)))))
 have h := d.has.pC t (Dr (Kb (Kb Sn)))
 refine ⟨h, (bS hm fun M I hm => XE 3 rfl (pF d call339 (Cf c (.slice y c.Kids.length B) _ _ (i.mono mf.mono (t.trans d.lJ)) I) (fun Z Q a5 U d u q G => ?_)))⟩
 have h := d.has.pC (t.trans u) (Dr (Dr (Kb (Kb Sn))))
 refine ⟨h, (bS hm fun a3 J hm => XE 4 rfl (Eg d call178 (mw.nz (Dw N K Q M _ _ (D.sl (fun _ => rfl) (fun b o m => d.at_ (Ma (Ml m)))) (G.sl (fun _ => rfl) (fun b o m => d.at_ (Ml m))) J)) (fun a2 d => ?_)))⟩
 have h := d.has.pC (t.trans u) (Dr (Dr (Kb (Kb Sn))))
 refine ⟨h, (X 5 rfl h (oL rfl) (nc kr (lU ?_)))⟩
 exact mB (rQ hm d)
theorem El (g : Value) (k r : List Formula) (w : World) {G : mF} (Y : po G [] w) (u : Sl lH 5 G g k) (hm : xl k = some r) :
  nM false Tryz.prog 288 [g] w G [] (fun v U μ1 => ∃ T I, v = T ∧ U = (I ++ []) ∧ nl 58 lH 5 μ1 T r I) := by
 refine vA Y 9 func288 rfl (fun b => sg (Wa (lr (Wm (bS hm fun Z Q hm => ?_)))))
 refine VE (eD b (bE _) call320 (fun h => nM.nz (DR g k _ _ h (u.mono mf.mono (mn.refl _)) Q)) ?_ (L0 := []))
 rintro _ v7 s L9 b y l ⟨i, H, a, rfl, B⟩
 obtain rfl := a.symm
 replace b := b.perm (Tr Tn)
 refine Wa (lr (Wm (bS hm fun a5 z hm => ?_)))
 refine VE (eD b (Cr Qz Cn) call321 (fun h => (Aw i Z H (.func (.func 322) #[] #[]) (fun (x : (Formula × Formula)) => vn x.1 x.2) _ _ h B ⟨322, #[], #[], rfl, call322, fun W x vs r F m hm => by obtain ⟨_, _, rfl, M, N⟩ := m; obtain ⟨q, rfl, o⟩ := M.out; obtain ⟨t0, rfl, n⟩ := N.out; exact Hl x.1 q x.2 t0 r W o n hm⟩ z)) ?_)
 rintro _ t A a3 b j d ⟨J, c, rfl, D⟩
 obtain rfl := c.symm
 replace b := b.perm (Tr Tn)
 refine lr (Wm (Wa (lt ?_)))
 obtain rfl := sj hm
 exact ng (v := i) rfl rfl ⟨_, _, _, rfl, (b.ol (Kr Sn)), (y.trans j), (l.trans d), (ST.nm b (oK.mem (Kr Sn))), i, J, rfl, rfl, D⟩
theorem Bo (g : Value) (a0 : List Formula) (x : LO) (Z : Value) (f1 : (Formula × Formula) → Option Bool) (r : List Formula) (w : World) {μ0 : mF} (h0 : po μ0 (x ++ []) w) (B : nl 58 lH 5 μ0 g a0 x) (d2 : yo Tryz.prog Z μ0 (wR lH lH) (fun (r : Bool) => (.bool r)) f1) (hm : rI a0 f1 = some r) :
  nM false Tryz.prog 291 [g, Z] w μ0 (x ++ []) (fun v L1 μ1 => ∃ y1, v = y1 ∧ L1 = [] ∧ Sl lH 5 μ1 y1 (r)) := by
 refine vA h0 66 func291 rfl (fun d => sg (Wa (lS (Wm (V (Av aF rfl B) (Wi rfl (ln (CI hm rfl (fun i3 hm => ?_) (fun i3 hm => ?_)))))))))
 ·refine sg (Wm (Wa (lt (mQ ?_))))
  obtain rfl := sj hm
  refine ng (v := g) rfl rfl ?_
  obtain ⟨a1, d, i2, F, j0⟩ := ST.zq mf d B
  exact ⟨_, _, _, rfl, (d.ol Sn), i2, F, (ST.nm d (oK.mem Sn)), g, rfl, rfl, j0⟩
 refine kS (Wa (ln (nS (py (fun m E W => ∃ t b7, ST false (keys (x ++ [])) w W μ0 (x ++ b7) ∧ E 0 = g ∧ E 1 = Z ∧ E 5 = (.int .i64 t) ∧ oC a0 f1 m t = some r) mR ⟨1, _, (d.lG St), rfl, rfl, rfl, hm⟩ ?_))))
 rintro m E W ⟨t, b7, d, y, a3, G, a⟩
 cases m with
 | zero => rw [oC] at a; cases a
 | succ h1 =>
  refine me (sg (Wh G (Wh y (V (Av aF rfl B) (Wi rfl (ln (CI a rfl (fun d3 a => ?_) (fun d3 a => ?_))))))))
  ·refine kn (me (nS (me ?_)))
   replace d := d.drew
   have h := d.has.lG (Kr Sn)
   refine mO h mu (X 0 rfl h (lO a3) (X 1 rfl h (lO y) (X 2 rfl h (lO G) (bS a fun h7 b2 a => XQ 3 rfl h (nP (i := t) lH.out aF aD rfl rfl B (mE b2) (mA b2)) (fun k1 ⟨_, ⟨h3, rfl, e7⟩, e0, i4⟩ => XH 4 rfl h (fun _ s => lK rfl (ms (pS.hp _) (e0.mono (ou (fun b o q => s.2 b o (Ml q)))) aZ aD)) (X 5 rfl h (lO y) (X 6 rfl h (lO G) (X 7 rfl h (mU rfl rfl rfl) (bS a fun h8 b3 a => XQ 8 rfl h (nP (i := (IntKind.i64.wrap (t - 1))) lH.out aF aD rfl rfl B (mE b3) (mA b3)) (fun k2 ⟨_, ⟨h4, rfl, e8⟩, e1, i5⟩ => XH 9 rfl h (fun _ s => lK rfl (ms (pS.hp _) (e1.mono (ou (fun b o q => s.2 b o (Ml q)))) aZ aD)) (bS a fun k7 e5 a => XE 10 rfl (zO (h7, h8) d d2 (mn.refl _) (wR.mk mf mf (lH.mk ⟨h3, rfl, e7⟩) (lH.mk ⟨h4, rfl, e8⟩) d.lJ) rfl (xM rfl rfl) e5 (fun j6 d => ?_)))))))))))))
   have h := d.has.lG (Kr Sn)
   refine ⟨h, (nc kr (lU (CI a rfl (fun d4 a => ?_) (fun d4 a => ?_))))⟩
   ·refine sg (Wh y (Wh G (bS a fun _ L a => VQ (CO (i := t) aF aD rfl rfl B (tQ L) (tu L)) (fun c4 K => Wa (lS (Wa (ln ?_)))))))
    refine CJ a (fun T E W => ∃ a2 b9, ST false (keys (x ++ [])) w W μ0 (a2 ++ b9) ∧ E 0 = g ∧ E 5 = (.int .i64 T.2) ∧ nl 58 lH 5 μ0 g T.1 a2) (fun T d8 => ?_) ?_
    ·refine nS (py (fun m E W => ∃ a5 J U u c0, ST false (keys (x ++ [])) w W μ0 (J ++ c0) ∧ E 0 = g ∧ E 1 = Z ∧ E 5 = (.int .i64 U) ∧ E 6 = c4 ∧ E 7 = (.int .i64 u) ∧ nl 58 lH 5 μ0 g a5 J ∧ oE t f1 m a5 U u = some T) mR ⟨a0, x, t, 1, _, (d.lG St), y, a3, G, rfl, rfl, B, d8⟩ ?_)
     rintro m E W ⟨a5, J, U, u, c0, d, N, a4, Q, H, I, k, j⟩
     cases m with
     | zero => rw [oE] at j; cases j
     | succ h2 =>
      refine me (sg (Wh I (Wh H (V (N7 aF rfl K k) (Wi rfl (ln (CI j rfl (fun d5 j => ?_) (fun d5 j => ?_))))))))
      ·refine kn (me (CJ j (fun A E W => ∃ M c1, ST false (keys (x ++ [])) w W μ0 (M ++ c1) ∧ E 0 = g ∧ E 1 = Z ∧ E 5 = (.int .i64 A.2) ∧ E 6 = c4 ∧ E 7 = (.int .i64 u) ∧ nl 58 lH 5 μ0 g A.1 M) (fun A c => ?_) ?_))
       ·refine nS (me ?_)
        replace d := d.drew
        have h := d.has.lG (Kr Sn)
        refine mO h mu (X 0 rfl h (lO a4) (X 1 rfl h (lO H) (X 2 rfl h (lO I) (bS c fun i0 b4 c => XQ 3 rfl h (Dc (i := u) lH.out aF aD rfl rfl k K (mE b4) (mA b4)) (fun k3 ⟨_, ⟨h5, rfl, f4⟩, e2, i6⟩ => XH 4 rfl h (fun _ s => lK rfl (ms (pS.hp _) (e2.mono (ou (fun b o q => s.2 b o (Ml q)))) aZ aD)) (X 5 rfl h (lO H) (X 6 rfl h (lO I) (X 7 rfl h (mU rfl rfl rfl) (bS c fun i1 b5 c => XQ 8 rfl h (Dc (i := (IntKind.i64.wrap (u - 1))) lH.out aF aD rfl rfl k K (mE b5) (mA b5)) (fun k4 ⟨_, ⟨h6, rfl, f5⟩, e3, i7⟩ => XH 9 rfl h (fun _ s => lK rfl (ms (pS.hp _) (e3.mono (ou (fun b o q => s.2 b o (Ml q)))) aZ aD)) (bS c fun k8 e6 c => XE 10 rfl (zO (i0, i1) d d2 (mn.refl _) (wR.mk mf mf (lH.mk ⟨h5, rfl, f4⟩) (lH.mk ⟨h6, rfl, f5⟩) d.lJ) rfl (xM rfl rfl) e6 (fun j8 d => ?_)))))))))))))
        have h := d.has.lG (Kr Sn)
        refine ⟨h, (X 11 rfl h (oH rfl) (nc kr (lU (CI c rfl (fun d6 c => ?_) (fun d6 c => ?_)))))⟩
        ·refine sg (Wh N (Wh Q (Wh H (Wh I (bS c fun c7 b6 c => VQ (Dc (i := u) lH.out aF aD rfl rfl k K (mE b6) (mA b6)) (fun k5 ⟨_, ⟨l0, rfl, R⟩, e4, i8⟩ => V (lK rfl (ms (pS.hp _) (e4.mono (ou (fun b o q => d.has.2 b o (Ml q)))) aZ aD)) (bS c fun l2 Y c => VQ (nP (i := U) lH.out aF aD rfl rfl k (mE Y) (mA Y)) (fun k6 ⟨_, ⟨l1, rfl, j3⟩, i9, d7⟩ => ?_))))))))
         obtain ⟨f7, g0, rfl⟩ := R.form
         refine VO (tg (x1 := c7) mf d k rfl rfl (lH.mk ⟨(.slice f7 c7.Kids.length g0), rfl, R⟩) d7 (mA Y) aD (fun j9 f8 d d1 => ln (mc (Wh Q (Wi rfl (Wa (mD (mL (lU ?_)))))))))
         obtain rfl := sj c
         exact ⟨f8, _, (d.lG St), N, a4, rfl, H, I, d1⟩
        refine np (mL (lU ?_))
        obtain rfl := sj c
        exact ⟨J, _, (d.lG St), N, a4, Q, H, I, k⟩
       rintro ⟨g9, h9⟩ E W ⟨M, c1, d, g1, g2, g3, g4, g7, f3⟩ d9
       exact mc (Wh g7 (Wi rfl (Wa (ln ⟨h2, bL _, g9, M, h9, (IntKind.i64.wrap (u + 1)), _, (d.lG St), g1, g2, g3, g4, rfl, f3, d9⟩))))
      refine pc (oQ (oQ (tX (lU ?_))))
      obtain rfl := sj j
      exact ⟨J, _, (d.lG St), N, Q, k⟩
    rintro ⟨k0, c6⟩ E W ⟨a2, b9, d, c2, c3, P⟩ D
    refine sg (Wh c2 (Wh c3 (bS D fun _ O D => VQ (CO (i := c6) aF aD rfl rfl P (tQ O) (tu O)) (fun k9 e9 => VO (F4 (z := (⟨0, 0, K0, []⟩ : Formula)) (zs := C8) mf d P (lH.mk ⟨(.slice none 0 0), rfl, (Sl.nil _ _ _)⟩) aF bI e9 rfl rfl (fun j7 j5 d d0 => lr (Wh c2 (Wh c3 (bS D fun _ a9 D => VQ (IJ (i := c6) aF aD rfl rfl d0 (tQ a9) (tu a9)) (fun c5 f0 => ?_))))))))))
    refine Wa (lt (oh (mQ (mQ (oh (mQ ?_))))))
    obtain rfl := sj D
    refine ng (v := c5) rfl rfl ?_
    obtain ⟨l3, d, c8, l, f2⟩ := ST.zq mf d f0
    exact ⟨_, _, _, rfl, (d.ol Sn), c8, l, (ST.nm d (oK.mem Sn)), c5, rfl, rfl, f2⟩
   exact np (mL (lU (mc (Wh G (Wi rfl (Wa (ln ⟨h1, bL _, (IntKind.i64.wrap (t + 1)), _, (d.lG St), y, a3, rfl, a⟩)))))))
  refine pc (oQ (oQ (tX (lU (sg (Wh y (Wa (lt ?_))))))))
  obtain rfl := sj a
  refine ng (v := g) rfl rfl ?_
  obtain ⟨l4, d, c9, n, f6⟩ := ST.zq mf d B
  exact ⟨_, _, _, rfl, (d.ol Sn), c9, n, (ST.nm d (oK.mem Sn)), g, rfl, rfl, f6⟩
theorem te (G : Value) (N : List Formula) (H : Value) (l : List Formula) (I : Value) (f2 : (Formula × Formula) → Option Bool) (r : Bool) (w : World) (x : Sl lH 5 (hp w) G N) (Q : Sl lH 5 (hp w) H l) (o : yo Tryz.prog I (hp w) (wR lH lH) (fun (r : Bool) => (.bool r)) f2) (hm : oD N l f2 = some r) :
  mw false Tryz.prog 323 [G, H, I] w (.bool r) := by
 refine cG 32 func323 rfl (fun b => sg (Wa (lS (Wm (V (nh aF rfl x) (Wm (V (nh aF rfl Q) (Wi rfl (mD ?_)))))))))
 refine lU (CI hm rfl (fun s hm => ?_) (fun s hm => ?_))
 ·refine sg (Wa (lt (mQ ?_)))
  obtain rfl := sj hm
  exact rP b
 refine kS (Wm (V (nh aF rfl x) (Wm (ln (mY (fun i E W => ∃ y, (E 17 = .int .i64 (i : Nat) ∧ E 16 = .int .i64 (N.length : Nat)) ∧ ST false mX w W (hp w) y ∧ E 1 = H ∧ E 2 = I ∧ E 15 = G ∧ nv l f2 (N.drop i) i = some r) N.length x.len ⟨_, ⟨rfl, rfl⟩, (b.lG St), rfl, rfl, rfl, hm⟩ dc dc dc (fun _ _ _ h => by obtain ⟨_, m, _⟩ := h; exact m) ?_ ?_)))))
 ·rintro a4 E W U ⟨y, ⟨d, n⟩, b, z, B, D, a⟩
  obtain ⟨g, c5, a9, q, a3⟩ := mM U
  rw [a9] at a
  refine bg (Wh d (VQ (od (i := (a4 : Int)) (x0 := g) lH.out aF aD D d x (aG _) q) (fun b9 ⟨_, ⟨c2, rfl, J⟩, Y⟩ => V (lK rfl (ms b.has Y aZ aD)) (VE (mz b bI (fun v P b => Wa ?_))))))
  obtain ⟨j, t, rfl⟩ := J.form
  let a0 := (C1 g.Op g.K g.lC.lI g.lC.lM j g.Kids.length t)
  refine VO (mh (.agg a0.toArray) (a0.toArray) b rfl rfl aD oc nb rfl (fun A b => lr (Wh z (Wm (bS a fun c M a => VQ (od (i := (a4 : Int)) (x0 := c) lH.out aF aD rfl rfl Q (mE M) (mA M)) (fun c0 ⟨_, ⟨c3, rfl, K⟩, Z⟩ => V (lK rfl (ms b.has Z aZ aD)) (VE (mz b bI (fun F R b => ?_)))))))))
  obtain ⟨k, u, rfl⟩ := K.form
  let a5 := (C1 c.Op c.K c.lC.lI c.lC.lM k c.Kids.length u)
  refine VO (mh (.agg a5.toArray) (a5.toArray) b rfl rfl aD oc nb rfl (fun L b => lr (Wh B (VA b (Mt Mh) a0 aZ aD (VA b Mh a5 aZ aD (bS a fun c1 a2 a => VE (zO (g, c) b o (mn.refl _) (wR.mk mf mf (lH.mk ⟨(.slice j g.Kids.length t), rfl, J⟩) (lH.mk ⟨(.slice k c.Kids.length u), rfl, K⟩) b.lJ) rfl (xM rfl rfl) a2 (fun O b => V (oH rfl) (ln ?_)))))))))
  replace b := b.lG (Db (Db St))
  refine CI a rfl (fun T a => ?_) (fun T a => ?_)
  ·refine sg (Wa (lt (oh (mQ (oh (mQ ?_))))))
   obtain rfl := sj a
   exact rP b
  exact np (mL (lU ⟨d, _, ⟨rfl, n⟩, (b.lG St), z, B, D, (by rw [a3]; exact a)⟩))
 rintro E W ⟨y, ⟨d, n⟩, b, z, B, D, a⟩
 rw [aK] at a
 exact lU (sg (Wa (lt (rQ a b))))
theorem FV (M : Formula → Formula → Option Bool) (v : ∀ (a : Formula) (j : Value) (c : Formula) (k : Value) (r : Bool) (w : World) (u : Sl lH 5 (hp w) j a.Kids) (y : Sl lH 5 (hp w) k c.Kids), M a c = some r → mw false Tryz.prog 292 [(.agg #[(.int .i64 a.Op), (.int .i64 a.K), (.string a.lC.lI), (.string a.lC.lM), j]), (.agg #[(.int .i64 c.Op), (.int .i64 c.K), (.string c.lC.lI), (.string c.lC.lM), k])] w (.bool r)) (a : Formula) (j : Value) (c : Formula) (k : Value) (r : Bool) (w : World) (u : Sl lH 5 (hp w) j a.Kids) (y : Sl lH 5 (hp w) k c.Kids) (hm : yg M a c = some r) :
  mw false Tryz.prog 292 [(.agg #[(.int .i64 a.Op), (.int .i64 a.K), (.string a.lC.lI), (.string a.lC.lM), j]), (.agg #[(.int .i64 c.Op), (.int .i64 c.K), (.string c.lC.lI), (.string c.lC.lM), k])] w (.bool r) := by
 refine cG 31 func292 rfl (fun b => sg ?_)
 obtain ⟨N, Y, rfl⟩ := u.form
 let d := (C1 a.Op a.K a.lC.lI a.lC.lM N a.Kids.length Y)
 refine VE (mI b rfl (fun W4 T b => ?_))
 obtain ⟨Q, Z, rfl⟩ := y.form
 let a0 := (C1 c.Op c.K c.lC.lI c.lC.lM Q c.Kids.length Z)
 refine VE (mI b rfl (fun W8 U b => Wa (lr (Wf vT (VB b (Mt Mh) rfl rfl cP (Wf vT (VB b Mh rfl rfl cP (Wi rfl (Wm (LJ hm (fun a9 E W => ∃ a2, ST false mX w W (hp w) ((U, Ol a0 58) :: ((T, Ol d 58) :: a2)) ∧ E 2 = (.pointer (some ⟨T, 0, none⟩)) ∧ E 3 = (.pointer (some ⟨U, 0, none⟩)) ∧ E 4 = (.bool false) ∧ E 16 = (.bool a9)) 6 ?_ (fun a9 D I => ?_)))))))))))
 ·rintro d1 E W ⟨a2, b, J, K, a5, A⟩ n
  refine Wh A (LJ n (fun m E W => ∃ a3, ST false mX w W (hp w) ((U, Ol a0 58) :: ((T, Ol d 58) :: a3)) ∧ E 2 = (.pointer (some ⟨T, 0, none⟩)) ∧ E 3 = (.pointer (some ⟨U, 0, none⟩)) ∧ E 4 = (.bool false) ∧ E 23 = (.bool m)) 6 ?_ (fun m B H => ?_))
  ·rintro d2 E W ⟨a3, b, F, L, h, c1⟩ o
   refine Wh c1 (LJ o (fun l E W => ∃ a4, ST false mX w W (hp w) a4 ∧ E 4 = (.bool false) ∧ E 30 = (.bool l)) 6 ?_ (fun l z G => ?_))
   ·rintro d3 E W ⟨a4, b, c9, O⟩ q
    exact Wg O (lt (rQ q b))
   refine bC z (fun i z => ?_) (fun i z => ?_)
   ·refine ug i (lN uO F) (ug i (lK rfl (ma b.has (Mt Mh) rfl gP)) (ug i (lN uO L) (ug i (lK rfl (ma b.has Mh rfl gP)) (bS z fun d0 s z => uJ i (Eg b call323 (te (.slice N a.Kids.length Y) a.Kids (.slice Q c.Kids.length Z) c.Kids (.func (.func 292) #[] #[]) (fun (x : (Formula × Formula)) => M x.1 x.2) _ _ (u.mono mf.mono b.lJ) (y.mono mf.mono b.lJ) ⟨292, #[], #[], rfl, call292, fun W x vs r hs hR hm => by obtain ⟨_, _, rfl, P, R⟩ := hR; obtain ⟨u0, rfl, k0⟩ := P.out; obtain ⟨t0, rfl, j0⟩ := R.out; exact v x.1 u0 x.2 t0 r W k0 j0 hm⟩ s) (fun c8 b => V (mo (cB i) rfl) ?_))))))
    obtain rfl := sj z
    exact G _ _ ⟨_, (b.lG (Db (Db St))), h, rfl⟩
   refine un i (un i (un i (un i (un i (V (mq (cB i) rfl) ?_)))))
   obtain rfl := sj z
   exact G _ _ ⟨_, (b.lG (Db (Db St))), h, rfl⟩
  refine bC B (fun g B => ?_) (fun g B => ?_)
  ·refine ug g (lN xW J) (ug g (lK rfl (lP b.has (Mt Mh) (lE a.lC) rfl bB aH)) (ug g (lN xW K) (ug g (lK rfl (lP b.has Mh (lE c.lC) rfl bB aH)) (ug g (yU rfl rfl (qt gK) (vL (vg _ a.lC c.lC))) (V (mo (cB g) rfl) ?_)))))
   obtain rfl := sj B
   exact H _ _ ⟨_, (b.lG St), J, K, a5, rfl⟩
  refine un g (un g (un g (un g (un g (V (mq (cB g) rfl) ?_)))))
  obtain rfl := sj B
  exact H _ _ ⟨_, (b.lG St), J, K, a5, rfl⟩
 refine bC D (fun t D => ?_) (fun t D => ?_)
 ·refine ug t (lN AO rfl) (ug t (lK rfl (ma b.has (Mt Mh) rfl cP)) (ug t (lN AO rfl) (ug t (lK rfl (ma b.has Mh rfl cP)) (ug t (mU rfl rfl rfl) (V (mo (cB t) rfl) ?_)))))
  obtain rfl := sj D
  exact I _ _ ⟨_, (b.lG St), rfl, rfl, rfl, rfl⟩
 refine un t (un t (un t (un t (un t (V (mq (cB t) rfl) ?_)))))
 obtain rfl := sj D
 exact I _ _ ⟨_, (b.lG St), rfl, rfl, rfl, rfl⟩
theorem EA : ∀ (n : Nat) (g : Formula) (a : Value) (i : Formula) (c : Value) (r : Bool) (w : World) (j : Sl lH 5 (hp w) a g.Kids) (k : Sl lH 5 (hp w) c i.Kids) (_ : pZ n g i = some r),
  mw false Tryz.prog 292 [(.agg #[(.int .i64 g.Op), (.int .i64 g.K), (.string g.lC.lI), (.string g.lC.lM), a]), (.agg #[(.int .i64 i.Op), (.int .i64 i.K), (.string i.lC.lI), (.string i.lC.lM), c])] w (.bool r)
 | 0 => by intros; rename_i h; simp only [pZ] at h; cases h
 | n + 1 => FV (pZ n) (EA n)
theorem vU (j : Nat) (a0 : mZ) (c : Int) (K : Value) (a2 : List Formula) (r : (Formula × mZ)) (w : World) {μ0 : mF} (h0 : po μ0 ((j, Ol (nL a0) 249) :: []) w) (b5 : Sl lH 5 μ0 K a2) (hm : qc a0 c a2 = some r) :
  nM false Tryz.prog 248 [(.pointer (some ⟨j, 0, none⟩)), (.int .i64 c), K] w μ0 ((j, Ol (nL a0) 249) :: []) (fun v L1 μ1 => ∃ y1, v = (.agg #[(.int .i64 ((r.1).Op)), (.int .i64 ((r.1).K)), (.string (((r.1).lC).lI)), (.string (((r.1).lC).lM)), y1]) ∧ L1 = ((j, Ol (nL (r.2)) 249) :: []) ∧ Sl lH 5 μ1 y1 ((r.1).Kids)) := by
 refine vA h0 37 func248 rfl (fun b => sg (VE (mz b bI (fun W2 R b => lr (Wm (Wi rfl (VE (mz b zeroValue3 (fun W4 s b => VO (mh (.int .i64 (IntKind.i64.wrap (5 - c))) (#[(.int .i64 (IntKind.i64.wrap (5 - c)))]) b rfl rfl iG (D8 _ (IntKind.i64.wrap (5 - c))) nb rfl (fun W5 b => ln (me ?_))))))))))))
 let m := (IntKind.i64.wrap (5 - c))
 let q : Value := (.agg (TK m).toArray)
 refine mc (Wm (Wm (bS hm fun r6 d1 hm => ?_)))
 refine VE (eD b (bE _) call289 (fun n => nM.nz (KN c K a2 _ _ n (b5.mono mf.mono (mn.refl _)) d1)) ?_ (L0 := []))
 rintro _ f4 aa e2 b B d ⟨P, H, rfl, a3⟩
 obtain rfl := H.symm
 refine Wa (lS (Wm (V (qk (by exact uC rfl) rfl) (bS hm fun f3 c1 hm => VE (Eg b call194 (wV P r6 (.func (.func 290) #[] #[(.pointer (some ⟨s, 0, none⟩))]) (fun (x : Formula) => sQ x m) _ _ (a3.mono mf.mono b.lJ) ⟨290, #[], #[(.pointer (some ⟨s, 0, none⟩))], rfl, call290, fun W x vs r hs A hm => by obtain ⟨_, rfl, U⟩ := A; obtain ⟨L, rfl, F⟩ := U.out; exact (Co x L s m r W F (At.of (hs _ _ (b.at_ Mh)) _ rfl) hm).nz⟩ c1) (fun e5 b => ln (CI hm rfl (fun b6 hm => ?_) (fun b6 hm => ?_))))))))
 ·refine sg (VB b Mh rfl rfl cP (V (nZ (v := q) (oX rfl) (nB bI cK (CL _ cK) kr)) ?_))
  replace b := b.perm (Nb (Pb Pz) Nz)
  refine VO (mh q ((TK m).toArray) b rfl rfl aD oc nb rfl (fun e6 b => ln ?_))
  replace b := b.lG (Kb (Db St))
  refine mB (mQ ?_)
  obtain rfl := sj hm
  exact rU (v := q) rfl rfl (lP b.has Mh (TK m) rfl aZ aD) ⟨_, _, _, rfl, (b.ol (Db (Kb Sn))), B, d, (ST.nm b (oK.mem (Db (Kb Sn)))), (.slice none 0 0), rfl, rfl, (Sl.nil _ _ _)⟩
 refine kn ?_
 replace b := b.lG (Db St)
 refine sg (Wm (bS hm fun d2 c2 hm => ?_))
 refine VE (eD b (bE _) call288 (fun n => (El P r6 _ _ n (a3.mono mf.mono (mn.refl _)) c2)) ?_ (L0 := []))
 rintro _ f5 f9 e3 b N h ⟨d5, c7, I, rfl, c4⟩
 obtain rfl := I.symm
 replace b := b.perm (Tr Tn)
 refine bS hm fun z c3 hm => ?_
 refine VE (eD b (Cr Qz Cn) call291 (fun n => (Bo d5 d2 c7 (.func (.func 292) #[] #[]) (fun (x : (Formula × Formula)) => pZ mR x.1 x.2) _ _ n c4 ⟨292, #[], #[], rfl, call292, fun W x vs r hs A hm => by obtain ⟨_, _, rfl, U, d0⟩ := A; obtain ⟨L, rfl, F⟩ := U.out; obtain ⟨t0, rfl, j0⟩ := d0.out; exact (EA mR) x.1 L x.2 t0 r W F j0 hm⟩ c3)) ?_)
 rintro _ f6 d7 e4 b Q l ⟨d6, J, rfl, y⟩
 obtain rfl := J.symm
 refine Wa (ln (me (CJ hm (fun O E W => ∃ a5, ST false (keys ((j, Ol (nL a0) 249) :: [])) w W d7 ((R, Ol C8 58) :: ((j, Ol (nL O) 249) :: a5)) ∧ E 1 = (.int .i64 c) ∧ E 6 = (.pointer (some ⟨R, 0, none⟩)) ∧ E 8 = d6) (fun O u => ?_) ?_)))
 ·refine sg (Wm (V (nh aF rfl y) (Wi rfl (ln (CI u rfl (fun b9 u => ?_) (fun b9 u => ?_))))))
  ·refine mc (Wm (Wn (Wf M6 ?_)))
   replace b := b.perm (Nb (Pb Pz) Nz)
   refine VO (mh (.int .i64 12) ((nL (⟨12⟩ : mZ)).toArray) b rfl rfl sizeOf40 (D8 _ 12) nb rfl (fun f1 b => ln ?_))
   obtain rfl := sj u
   exact ⟨_, (b.lG (Sb (Pb Pz) St)), rfl, rfl, rfl⟩
  refine kn ?_
  obtain rfl := sj u
  exact ⟨_, (b.lG St), rfl, rfl, rfl⟩
 rintro f8 E W ⟨a5, b, c9, M, T⟩ g
 refine me (sg (Wh T (V (nh aF rfl y) (Wi rfl (ln (CI g rfl (fun b7 g => ?_) (fun b7 g => ?_)))))))
 ·refine sg (Wh T (bS g fun a Z g => VQ (od (i := 0) (x0 := a) lH.out aF aD rfl rfl y (mE Z) (mA Z)) (fun f2 ⟨_, ⟨f7, rfl, Y⟩, c0⟩ => V (lK rfl (ms b.has c0 aZ aD)) ?_)))
  obtain ⟨D, G, rfl⟩ := Y.form
  let a4 := (C1 a.Op a.K a.lC.lI a.lC.lM D a.Kids.length G)
  refine VO (mh (.agg a4.toArray) (a4.toArray) b M rfl aD oc nb rfl (fun e9 b => lt (mQ ?_)))
  obtain rfl := sj g
  exact rU (v := (.agg a4.toArray)) rfl M (lP b.has Mh a4 rfl aZ aD) ⟨_, _, _, rfl, (b.ol (Db (Kb Sn))), ((B.trans N).trans Q), ((d.trans h).trans l), (ST.nm b (oK.mem (Db (Kb Sn)))), (.slice D a.Kids.length G), rfl, rfl, Y⟩
 refine kg (Wh c9 (Wh T ?_))
 obtain ⟨k, t, rfl⟩ := y.form
 let a9 : Value := (.slice k z.length t)
 let o : Value := (.agg #[(.int .i64 c), (.int .i64 0), (.string zS), (.string zS), a9])
 refine V (nZ (v := o) (rA rfl rfl) (nB bI cK (CL _ cK) kr)) (VO (mh o (#[(.int .i64 c), (.int .i64 0), (.string zS), (.string zS), a9]) b M rfl aD oc nb rfl (fun f0 b => lt ?_)))
 obtain rfl := sj g
 exact rU (v := o) rfl M (lP b.has Mh [(.int .i64 c), (.int .i64 0), (.string zS), (.string zS), a9] rfl aZ aD) ⟨_, _, _, rfl, (b.ol (Db (Kb Sn))), ((B.trans N).trans Q), ((d.trans h).trans l), (ST.nm b (oK.mem (Db (Kb Sn)))), a9, rfl, rfl, y⟩
theorem Ci (G : Nat) (a0 : mZ) (a1 : Int) (c2 : Value) (a2 : List Formula) (r : (Formula × mZ)) (w : World) {μ0 : mF} (h0 : po μ0 ((G, Ol (nL a0) 249) :: []) w) (c1 : Sl lH 5 μ0 c2 a2) (hm : sS a0 a1 a2 = some r) :
  nM false Tryz.prog 247 [(.pointer (some ⟨G, 0, none⟩)), (.int .i64 a1), c2] w μ0 ((G, Ol (nL a0) 249) :: []) (fun v L1 μ1 => ∃ y1, v = (.agg #[(.int .i64 ((r.1).Op)), (.int .i64 ((r.1).K)), (.string (((r.1).lC).lI)), (.string (((r.1).lC).lM)), y1]) ∧ L1 = ((G, Ol (nL (r.2)) 249) :: []) ∧ Sl lH 5 μ1 y1 ((r.1).Kids)) := by
 let j8 := ((nL a0).toArray : Array Value)
 refine vA h0 58 func247 rfl (fun b => sg (VE (mz b bI (fun W2 b1 b => lr (Wa (lS (Wm ?_)))))))
 refine V (nh aF rfl c1) (Wm (ln (mY (fun i E W => ∃ x K J N c0, (E 12 = .int .i64 (i : Nat) ∧ E 11 = .int .i64 (a2.length : Nat)) ∧ ST false (keys ((G, Obj.cells j8 249 (0, 0)) :: [])) w W μ0 ((b1, Ol C8 58) :: ((G, Obj.cells j8 249 (0, 0)) :: (N ++ c0))) ∧ E 0 = (.pointer (some ⟨G, 0, none⟩)) ∧ E 1 = (.int .i64 x) ∧ E 6 = (.pointer (some ⟨b1, 0, none⟩)) ∧ E 7 = K ∧ E 10 = c2 ∧ nl 58 lH 5 μ0 K J N ∧ oB a0 (a2.drop i) x J = some r) a2.length c1.len ⟨a1, (.slice none 0 0), ([]), [], _, ⟨rfl, rfl⟩, (b.lG St), rfl, rfl, rfl, rfl, rfl, (nl.nil _ _ _ _), hm⟩ dc dc dc (fun _ _ _ h => by obtain ⟨_, _, _, _, _, aa, _⟩ := h; exact aa) ?_ ?_)))
 ·rintro h2 E W f2 ⟨x, K, J, N, c0, ⟨R, eN⟩, b, U, H, u, I, P, D, a⟩
  obtain ⟨c, h8, g8, g7, b7⟩ := mM f2
  rw [g8] at a
  refine bg (VQ (od (i := (h2 : Int)) (x0 := c) lH.out aF aD P R c1 (aG _) g7) (fun k7 ⟨_, ⟨l0, rfl, Y⟩, f3⟩ => V (lK rfl (ms b.has f3 aZ aD)) (VE (mz b bI (fun i6 k4 b => ?_)))))
  obtain ⟨y, z, rfl⟩ := Y.form
  let j6 : Value := (.slice y c.Kids.length z)
  let b8 := (C1 c.Op c.K c.lC.lI c.lC.lM y c.Kids.length z)
  refine VO (mh (.agg b8.toArray) (b8.toArray) b rfl rfl aD oc nb rfl (fun i7 b => ln (bg (VA b Mh b8 aZ aD (bS a fun k8 f4 a => VE (Eg b call285 (mw.nz (Bp c j6 2 _ _ (Y.mono mf.mono b.lJ) f4)) (fun i8 b => Wa (ln (CI a rfl (fun e5 a => ?_) (fun e5 a => ?_))))))))))
  ·refine mc (Wh H (Wi rfl (Wa (mD (mL (mL (lU ?_)))))))
   replace b := b.lG (Db St)
   exact ⟨R, (IntKind.i64.wrap (x - 1)), K, J, N, _, ⟨rfl, eN⟩, (b.lG St), U, rfl, u, I, P, D, (by rw [b7]; exact a)⟩
  refine sg (VA b Mh b8 aZ aD (bS a fun k9 f5 a => VE (Eg b call285 (mw.nz (Bp c j6 3 _ _ (Y.mono mf.mono b.lJ) f5)) (fun i9 b => V (oH rfl) (Wa (ln (CI a rfl (fun e6 a => ?_) (fun e6 a => ?_))))))))
  ·refine mc (Wh I (VA b Mh b8 aZ aD (VE (mN (cs := b8.toArray) b (oX rfl) (oR aF aD bI) (fun j0 k5 b => ?_)))))
   replace b := b.perm (Nr (Qb (Qb (Qb (Qb Qz)))) Nz)
   refine bS a fun h3 e7 a => VE (xt (B := N) mf b dc aF ra.1 ra.2.1 rfl ra.2.2.1 ra.2.2.2 rfl rfl D (EG.lit mf (l := [c]) (.cons (ys := C1 c.Op c.K c.lC.lI c.lC.lM y c.Kids.length z) (lH.mk ⟨j6, rfl, Y⟩) .nil) rfl nb (b.at_ (Ma Mh))) e7 (fun j3 h4 g9 b e4 => Wa (mD (mL (mL (lU ?_))))))
   replace b := b.lG (Kr (Db (Db St)))
   exact ⟨R, x, h4, h3, g9, _, ⟨rfl, eN⟩, (b.lG (Sb (Pr Pz) (Sb (Pr Pz) St))), U, H, u, rfl, P, e4, (by rw [b7]; exact a)⟩
  refine np (mL (mL (lU ?_)))
  replace b := b.lG (Db St)
  exact ⟨R, x, K, J, N, _, ⟨rfl, eN⟩, (b.lG St), U, H, u, I, P, D, (by rw [b7]; exact a)⟩
 rintro E W ⟨x, K, J, N, c0, ⟨R, eN⟩, b, U, H, u, I, P, D, a⟩
 rw [aK] at a
 refine lU (me (bg (Wh H (Wi rfl (Wa (ln (CI a rfl (fun e8 a => ?_) (fun e8 a => ?_))))))))
 ·refine sg (bS a fun g f6 a => ?_)
  let j2 : Value := (.string (((g).lC).lM))
  let h9 : Value := (.string (((g).lC).lI))
  refine VE (eD b (bE _) call286 (fun d => nM.nz (IB  _ _ d  f6)) ?_ (L0 := []))
  rintro _ l1 m2 i0 b c9 m ⟨l6, b2, rfl, c3⟩
  obtain rfl := b2.symm
  obtain ⟨Z, a6, rfl⟩ := c3.form
  let g5 : Value := (.slice Z ((g).Kids).length a6)
  let e0 : Value := (.agg #[(.int .i64 ((g).Op)), (.int .i64 ((g).K)), h9, j2, g5])
  refine VO (mh e0 (#[(.int .i64 ((g).Op)), (.int .i64 ((g).K)), h9, j2, g5]) b u rfl aD oc nb rfl (fun j5 b => ln ?_))
  replace b := b.lG (Kb (Kb (Dr St)))
  refine mB (oh (mQ ?_))
  obtain rfl := sj a
  exact rU (v := e0) rfl u (lP b.has Mh [(.int .i64 ((g).Op)), (.int .i64 ((g).K)), h9, j2, g5] rfl aZ aD) ⟨_, _, _, rfl, (b.ol (Db (Kb Sn))), c9, m, (ST.nm b (oK.mem (Db (Kb Sn)))), g5, rfl, rfl, c3⟩
 refine sg (Wh H (Wh I (V (Av aF rfl D) (Wi rfl (Wa (ln (CI a rfl (fun e9 a => ?_) (fun e9 a => ?_))))))))
 ·refine sg (bS a fun j f7 a => ?_)
  let j4 : Value := (.string (((j).lC).lM))
  let j1 : Value := (.string (((j).lC).lI))
  refine VE (eD b (bE _) call287 (fun d => nM.nz (Jv  _ _ d  f7)) ?_ (L0 := []))
  rintro _ l2 m3 i1 b d0 n ⟨l7, b3, rfl, c4⟩
  obtain rfl := b3.symm
  obtain ⟨a3, a7, rfl⟩ := c4.form
  let e3 : Value := (.slice a3 ((j).Kids).length a7)
  let d9 : Value := (.agg #[(.int .i64 ((j).Op)), (.int .i64 ((j).K)), j1, j4, e3])
  refine VO (mh d9 (#[(.int .i64 ((j).Op)), (.int .i64 ((j).K)), j1, j4, e3]) b u rfl aD oc nb rfl (fun j7 b => ln ?_))
  replace b := b.lG (Kb (Kb (Dr St)))
  refine mB (oh (mQ ?_))
  obtain rfl := sj a
  exact rU (v := d9) rfl u (lP b.has Mh [(.int .i64 ((j).Op)), (.int .i64 ((j).K)), j1, j4, e3] rfl aZ aD) ⟨_, _, _, rfl, (b.ol (Db (Kb Sn))), d0, n, (ST.nm b (oK.mem (Db (Kb Sn)))), e3, rfl, rfl, c4⟩
 refine sg (Wh H (Wh I (V (Av aF rfl D) (Wi rfl (Wa (ln (CI a rfl (fun f0 a => ?_) (fun f0 a => ?_))))))))
 ·refine sg (Wh U (Wh I ?_))
  replace b := b.perm (Nr (Qb (Qb Qz)) Nz)
  obtain ⟨m4, b, d1, o, g1⟩ := ST.zq mf b D
  refine bS a fun k f8 a => ?_
  let h6 : Value := (.string (((k.1).lC).lM))
  let h1 : Value := (.string (((k.1).lC).lI))
  refine VE (eD b (Cb (Pb Pz) Cn) call248 (fun d => (vU G a0 2 K J _ _ d (g1.mono mf.mono (mn.refl _)) f8)) ?_)
  rintro _ l3 m5 i2 b d2 q ⟨l8, b4, rfl, c5⟩
  obtain rfl := b4.symm
  replace b := b.perm (Tb Tn)
  obtain ⟨a4, a8, rfl⟩ := c5.form
  let e1 : Value := (.slice a4 ((k.1).Kids).length a8)
  let c8 : Value := (.agg #[(.int .i64 ((k.1).Op)), (.int .i64 ((k.1).K)), h1, h6, e1])
  replace b := b.perm (Nb (Pb Pz) Nz)
  refine VO (mh c8 (#[(.int .i64 ((k.1).Op)), (.int .i64 ((k.1).K)), h1, h6, e1]) b u rfl aD oc nb rfl (fun j9 b => lt (oh (mQ ?_))))
  obtain rfl := sj a
  exact rU (v := c8) rfl u (lP b.has Mh [(.int .i64 ((k.1).Op)), (.int .i64 ((k.1).K)), h1, h6, e1] rfl aZ aD) ⟨_, _, _, rfl, (b.ol (Db (Kb Sn))), (d1.trans d2), (o.trans q), (ST.nm b (oK.mem (Db (Kb Sn)))), e1, rfl, rfl, c5⟩
 refine sg (Wh H (Wi rfl (Wa (ln (CI a rfl (fun f1 a => ?_) (fun f1 a => ?_))))))
 ·refine sg (Wh U (Wh I ?_))
  replace b := b.perm (Nr (Qb (Qb Qz)) Nz)
  obtain ⟨m6, b, d3, s, g2⟩ := ST.zq mf b D
  refine bS a fun t f9 a => ?_
  let h7 : Value := (.string (((t.1).lC).lM))
  let h5 : Value := (.string (((t.1).lC).lI))
  refine VE (eD b (Cb (Pb Pz) Cn) call248 (fun d => (vU G a0 3 K J _ _ d (g2.mono mf.mono (mn.refl _)) f9)) ?_)
  rintro _ l4 m7 i3 b d4 A ⟨l9, b5, rfl, c6⟩
  obtain rfl := b5.symm
  replace b := b.perm (Tb Tn)
  obtain ⟨a5, a9, rfl⟩ := c6.form
  let e2 : Value := (.slice a5 ((t.1).Kids).length a9)
  let d8 : Value := (.agg #[(.int .i64 ((t.1).Op)), (.int .i64 ((t.1).K)), h5, h7, e2])
  replace b := b.perm (Nb (Pb Pz) Nz)
  refine VO (mh d8 (#[(.int .i64 ((t.1).Op)), (.int .i64 ((t.1).K)), h5, h7, e2]) b u rfl aD oc nb rfl (fun k1 b => lt (oh (mQ ?_))))
  obtain rfl := sj a
  exact rU (v := d8) rfl u (lP b.has Mh [(.int .i64 ((t.1).Op)), (.int .i64 ((t.1).K)), h5, h7, e2] rfl aZ aD) ⟨_, _, _, rfl, (b.ol (Db (Kb Sn))), (d3.trans d4), (s.trans A), (ST.nm b (oK.mem (Db (Kb Sn)))), e2, rfl, rfl, c6⟩
 refine np (mL (lU (sg (Wh H (Wh I ?_)))))
 replace b := b.perm (Nr (Qb (Qb Qz)) Nz)
 obtain ⟨m8, b, d5, F, g3⟩ := ST.zq mf b D
 refine bS a fun T g0 a => ?_
 refine VE (eD b (bE _) call288 (fun d => (El K J _ _ d (g3.mono mf.mono (mn.refl _)) g0)) ?_ (L0 := []))
 rintro _ l5 m9 i4 b d6 L ⟨m0, i5, b6, rfl, c7⟩
 obtain rfl := b6.symm
 replace b := b.perm (Tr Tn)
 obtain ⟨M, Q, rfl⟩ := c7.form
 let g6 : Value := (.slice M T.length Q)
 let b9 : Value := (.agg #[(.int .i64 4), (.int .i64 x), (.string zS), (.string zS), g6])
 refine V (nZ (v := b9) (ES rfl rfl rfl) (nB bI cK (CL _ cK) kr)) ?_
 replace b := b.perm (Nb (Pr Pz) Nz)
 refine VO (mh b9 (#[(.int .i64 4), (.int .i64 x), (.string zS), (.string zS), g6]) b u rfl aD oc nb rfl (fun k3 b => lt ?_))
 obtain rfl := sj a
 refine rU (v := b9) rfl u (lP b.has Mh [(.int .i64 4), (.int .i64 x), (.string zS), (.string zS), g6] rfl aZ aD) ?_
 replace b := b.perm (Nr (Qb Qz) Nz)
 obtain ⟨n0, b, d7, O, g4⟩ := ST.zq mf b c7
 exact ⟨_, _, _, rfl, (b.ol (Db (Kb Sn))), ((d5.trans d6).trans d7), ((F.trans L).trans O), (ST.nm b (oK.mem (Db (Kb Sn)))), g6, rfl, rfl, g4⟩
theorem Bt (c9 : mZ → Formula → Option (Formula × mZ)) (e9 : ∀ (u : Nat) (a0 : mZ) (a : Formula) (y : Value) (r : (Formula × mZ)) (w : World) {μ0 : mF} (h0 : po μ0 ((u, Ol (nL a0) 249) :: []) w) (x : Sl lH 5 μ0 y a.Kids), c9 a0 a = some r → nM false Tryz.prog 191 [(.pointer (some ⟨u, 0, none⟩)), (.agg #[(.int .i64 a.Op), (.int .i64 a.K), (.string a.lC.lI), (.string a.lC.lM), y])] w μ0 ((u, Ol (nL a0) 249) :: []) (fun v L1 μ1 => ∃ L, v = (.agg #[(.int .i64 ((r.1).Op)), (.int .i64 ((r.1).K)), (.string (((r.1).lC).lI)), (.string (((r.1).lC).lM)), L]) ∧ L1 = ((u, Ol (nL (r.2)) 249) :: []) ∧ Sl lH 5 μ1 L ((r.1).Kids))) (u : Nat) (a0 : mZ) (a : Formula) (y : Value) (r : (Formula × mZ)) (w : World) {μ0 : mF} (h0 : po μ0 ((u, Ol (nL a0) 249) :: []) w) (x : Sl lH 5 μ0 y a.Kids) (hm : uw c9 a0 a = some r) :
  nM false Tryz.prog 191 [(.pointer (some ⟨u, 0, none⟩)), (.agg #[(.int .i64 a.Op), (.int .i64 a.K), (.string a.lC.lI), (.string a.lC.lM), y])] w μ0 ((u, Ol (nL a0) 249) :: []) (fun v L1 μ1 => ∃ L, v = (.agg #[(.int .i64 ((r.1).Op)), (.int .i64 ((r.1).K)), (.string (((r.1).lC).lI)), (.string (((r.1).lC).lM)), L]) ∧ L1 = ((u, Ol (nL (r.2)) 249) :: []) ∧ Sl lH 5 μ1 L ((r.1).Kids)) := by
 let d0 := ((u, Ol (nL a0) 249) :: [])
 refine vA h0 39 func191 rfl (fun b => sg ?_)
 obtain ⟨A1, c2, rfl⟩ := x.form
 let A := (C1 a.Op a.K a.lC.lI a.lC.lM A1 a.Kids.length c2)
 refine VE (mI b rfl (fun W4 b3 b => VE (mz b bI (fun W6 b5 b => lS (Wf vT (VB b (Mt Mh) rfl rfl cP (Wi rfl (ln (CI hm rfl (fun f8 hm => ?_) (fun f8 hm => ?_))))))))))
 ·refine sg (VA b (Mt Mh) A aZ aD (VO (mh (.agg A.toArray) (A.toArray) b rfl rfl aD oc nb rfl (fun W8 b => ln ?_))))
  replace b := b.lG (Kb (Db St))
  refine mB (mQ ?_)
  obtain rfl := sj hm
  exact rU (v := (.agg A.toArray)) rfl rfl (lP b.has Mh A rfl aZ aD) ⟨_, _, _, rfl, (b.ol (Db (Kb Sn))), (mn.refl _), Lo.refl, (ST.nm b (oK.mem (Db (Kb Sn)))), (.slice A1 a.Kids.length c2), rfl, rfl, x⟩
 refine kg (Wa (lS (Wf uO (VB b (Mt Mh) rfl rfl gP (V (nh aF rfl x) (Wm (mD ?_)))))))
 refine lU (mY (fun i E W => ∃ I H T D J b7, (E 15 = .int .i64 (i : Nat) ∧ E 14 = .int .i64 (a.Kids.length : Nat)) ∧ mn μ0 J ∧ Lo (keys d0) w μ0 J ∧ ST false (keys d0) w W J ((u, Ol (nL D) 249) :: ((b5, Ol C8 58) :: ((b3, Ol A 58) :: (T ++ b7)))) ∧ E 0 = (.pointer (some ⟨u, 0, none⟩)) ∧ E 3 = (.pointer (some ⟨b3, 0, none⟩)) ∧ E 4 = (.pointer (some ⟨b5, 0, none⟩)) ∧ E 5 = I ∧ E 13 = (.slice A1 a.Kids.length c2) ∧ nl 58 lH 5 J I H T ∧ pI c9 a (a.Kids.drop i) H D = some r) a.Kids.length x.len ⟨(.slice none 0 0), ([]), [], a0, μ0, _, ⟨rfl, rfl⟩, (mn.refl _), Lo.refl, (b.lG (Sb (Pb (Pb Pz)) St)), rfl, rfl, rfl, rfl, rfl, (nl.nil _ _ _ _), hm⟩ dc dc dc (fun _ _ _ h => by obtain ⟨_, _, _, _, _, _, aa, _⟩ := h; exact aa) ?_ ?_)
 ·rintro f0 E W d7 ⟨I, H, T, D, J, b7, ⟨eI, eN⟩, z, d, b, a2, a3, G, P, b9, K, c⟩
  obtain ⟨t, f9, e5, e4, e6⟩ := mM d7
  rw [e5] at c
  refine bg (VQ (od (i := (f0 : Int)) (x0 := t) lH.out aF aD b9 eI (x.mono mf.mono z) (aG _) e4) (fun h7 ⟨_, ⟨h8, rfl, c0⟩, d8⟩ => V (lK rfl (ms b.has d8 aZ aD)) (VE (mz b bI (fun g3 h5 b => ?_)))))
  obtain ⟨a7, a9, rfl⟩ := c0.form
  let R := (C1 t.Op t.K t.lC.lI t.lC.lM a7 t.Kids.length a9)
  refine VO (mh (.agg R.toArray) (R.toArray) b rfl rfl aD oc nb rfl (fun g4 b => ln (mc (Wh P (Wh a2 (VA b Mh R aZ aD (bS c fun g d9 c => ?_)))))))
  refine VE (eD b (Cb (Pb Pz) Cn) call191 (fun F => (e9 u D t (.slice a7 t.Kids.length a9) _ _ F (c0.mono mf.mono (mn.refl _)) d9)) ?_)
  rintro _ h9 f4 g0 b b6 m ⟨i2, b1, rfl, c1⟩
  obtain rfl := b1.symm
  replace b := b.perm (Tb Tn)
  obtain ⟨M, U, rfl⟩ := c1.form
  let d1 : Value := (.slice M ((g.1).Kids).length U)
  refine VE (mN (cs := #[(.int .i64 ((g.1).Op)), (.int .i64 ((g.1).K)), (.string (((g.1).lC).lI)), (.string (((g.1).lC).lM)), d1]) b (oX rfl) (oR aF aD bI) (fun g8 h6 b => ?_))
  replace b := b.perm (Nr (Qb (Qb (Qb (Qb (Qb Qz))))) Nz)
  refine bS c fun f1 d5 c => VE (xt (B := T) mf b dc aF ra.1 ra.2.1 rfl ra.2.2.1 ra.2.2.2 rfl rfl (K.mono mf b6) (EG.lit mf (l := [g.1]) (.cons (ys := [(.int .i64 ((g.1).Op)), (.int .i64 ((g.1).K)), (.string (((g.1).lC).lI)), (.string (((g.1).lC).lM)), d1]) (lH.mk ⟨d1, rfl, c1⟩) .nil) rfl nb (b.at_ (Ma Mh))) d5 (fun g9 f2 e8 b d4 => Wa (mD (mL (lU ?_)))))
  replace b := b.lG (Kr (Db (Kb (Db St))))
  exact ⟨eI, f2, f1, e8, g.2, f4, _, ⟨rfl, eN⟩, (z.trans b6), (d.trans m), (b.lG (Sb (Pr Pz) (Sb (Pr Pz) (Sb (Pr Pz) St)))), a2, a3, G, rfl, b9, d4, (by rw [e6]; exact c)⟩
 rintro E W ⟨I, H, T, D, J, b7, ⟨eI, eN⟩, z, d, b, a2, a3, G, P, b9, K, c⟩
 rw [aK] at c
 refine lU (me (sg (V (lN vT a3) (VB b (Mt (Mt Mh)) rfl rfl cP (Wi rfl (ln (CI c rfl (fun d6 c => ?_) (fun d6 c => ?_))))))))
 ·refine sg (Wh a2 (V (lN AO a3) (VB b (Mt (Mt Mh)) rfl rfl cP (Wh P ?_))))
  replace b := b.perm (Nr (Qb (Qb (Qb Qz))) Nz)
  obtain ⟨i5, b, c5, n, e2⟩ := ST.zq mf b K
  refine bS c fun j e0 c => ?_
  let f3 : Value := (.string (((j.1).lC).lM))
  let d3 : Value := (.string (((j.1).lC).lI))
  refine VE (eD b (Cb Pz Cn) call247 (fun F => (Ci u D a.K I H _ _ F (e2.mono mf.mono (mn.refl _)) e0)) ?_)
  rintro _ i0 i6 g1 b c6 o ⟨i3, b2, rfl, c3⟩
  obtain rfl := b2.symm
  replace b := b.perm (Tb Tn)
  obtain ⟨N, Y, rfl⟩ := c3.form
  let b8 : Value := (.slice N ((j.1).Kids).length Y)
  let a5 : Value := (.agg #[(.int .i64 ((j.1).Op)), (.int .i64 ((j.1).K)), d3, f3, b8])
  replace b := b.perm (Nb (Pb Pz) Nz)
  refine VO (mh a5 (#[(.int .i64 ((j.1).Op)), (.int .i64 ((j.1).K)), d3, f3, b8]) b G rfl aD oc nb rfl (fun h2 b => ln ?_))
  replace b := b.lG (Kb (Kb (Db St)))
  refine mB (mQ ?_)
  obtain rfl := sj c
  exact rU (v := a5) rfl G (lP b.has Mh [(.int .i64 ((j.1).Op)), (.int .i64 ((j.1).K)), d3, f3, b8] rfl aZ aD) ⟨_, _, _, rfl, (b.ol (Db (Kb Sn))), ((z.trans c5).trans c6), ((d.trans n).trans o), (ST.nm b (oK.mem (Db (Kb Sn)))), b8, rfl, rfl, c3⟩
 refine kg (Wh a2 (V (lN vT a3) (VB b (Mt (Mt Mh)) rfl rfl cP (Wh P ?_))))
 replace b := b.perm (Nr (Qb (Qb (Qb Qz))) Nz)
 obtain ⟨i7, b, c7, q, e3⟩ := ST.zq mf b K
 refine bS c fun k e1 c => ?_
 let f5 : Value := (.int .i64 ((k.1).Op))
 let e7 : Value := (.string (((k.1).lC).lM))
 let d2 : Value := (.string (((k.1).lC).lI))
 refine VE (eD b (Cb Pz Cn) call248 (fun F => (vU u D a.Op I H _ _ F (e3.mono mf.mono (mn.refl _)) e1)) ?_)
 rintro _ i1 i8 g2 b c8 s ⟨i4, b4, rfl, c4⟩
 obtain rfl := b4.symm
 replace b := b.perm (Tb Tn)
 obtain ⟨Q, Z, rfl⟩ := c4.form
 let O : Value := (.slice Q ((k.1).Kids).length Z)
 let a4 : Value := (.agg #[f5, (.int .i64 ((k.1).K)), d2, e7, O])
 replace b := b.perm (Nb (Pb Pz) Nz)
 refine VO (mh a4 (#[f5, (.int .i64 ((k.1).K)), d2, e7, O]) b G rfl aD oc nb rfl (fun h4 b => ln ?_))
 replace b := b.lG (Kb (Kb (Db St)))
 refine mB ?_
 obtain rfl := sj c
 exact rU (v := a4) rfl G (lP b.has Mh [f5, (.int .i64 ((k.1).K)), d2, e7, O] rfl aZ aD) ⟨_, _, _, rfl, (b.ol (Db (Kb Sn))), ((z.trans c7).trans c8), ((d.trans q).trans s), (ST.nm b (oK.mem (Db (Kb Sn)))), O, rfl, rfl, c4⟩
theorem zi : ∀ (n : Nat) (c : Nat) (j : mZ) (g : Formula) (a : Value) (r : (Formula × mZ)) (w : World) {k : mF} (y : po k ((c, Ol (nL j) 249) :: []) w) (i : Sl lH 5 k a g.Kids) (_ : oZ n j g = some r),
  nM false Tryz.prog 191 [(.pointer (some ⟨c, 0, none⟩)), (.agg #[(.int .i64 g.Op), (.int .i64 g.K), (.string g.lC.lI), (.string g.lC.lM), a])] w k ((c, Ol (nL j) 249) :: []) (fun v u x => ∃ t, v = (.agg #[(.int .i64 ((r.1).Op)), (.int .i64 ((r.1).K)), (.string (((r.1).lC).lI)), (.string (((r.1).lC).lM)), t]) ∧ u = ((c, Ol (nL (r.2)) 249) :: []) ∧ Sl lH 5 x t ((r.1).Kids))
 | 0 => by intros; rename_i h; simp only [oZ] at h; cases h
 | n + 1 => Bt (oZ n) (zi n)
theorem HD (c : Formula) (u : Value) (r : (Formula × Int)) (w : World) {Z : mF} (A : po Z [] w) (k : Sl lH 5 Z u c.Kids) (hm : zG c = some r) :
  nM false Tryz.prog 132 [(.agg #[(.int .i64 c.Op), (.int .i64 c.K), (.string c.lC.lI), (.string c.lC.lM), u])] w Z [] (fun v L1 μ1 => ∃ q, v = (.tuple #[(.agg #[(.int .i64 ((r.1).Op)), (.int .i64 ((r.1).K)), (.string (((r.1).lC).lI)), (.string (((r.1).lC).lM)), q]), (.int .i64 (r.2))]) ∧ L1 = [] ∧ Sl lH 5 μ1 q ((r.1).Kids)) := by
 refine vA A 27 func132 rfl (fun b => sg ?_)
 obtain ⟨H, I, rfl⟩ := k.form
 let n := (C1 c.Op c.K c.lC.lI c.lC.lM H c.Kids.length I)
 refine VE (mI b rfl (fun W4 L b => VE (mz b bI (fun W6 o b => Wa (lS (VA b (Mt Mh) n aZ aD (bS hm fun r7 a5 hm => VE (Eg b call72 (uT c (.slice H c.Kids.length I) _ _ (k.mono mf.mono b.lJ) a5) (fun W9 b => V (oH rfl) (ln (CI hm rfl (fun Q hm => ?_) (fun Q hm => ?_))))))))))))
 ·refine sg (V (nZ (v := (.agg C8.toArray)) sL (nB bI cK (CL _ cK) kr)) (VO (mh (.agg C8.toArray) (C8.toArray) b rfl rfl aD oc nb rfl (fun P b => Wa (ln ?_)))))
  replace b := b.lG (Kb (Db St))
  refine mB (mQ ?_)
  obtain rfl := sj hm
  exact sK (v0 := (.agg C8.toArray)) (v1 := (.int .i64 11)) rfl rfl (lP b.has Mh C8 rfl aZ aD) rfl ⟨_, _, _, rfl, (b.ol Sn), (mn.refl _), Lo.refl, (ST.nm b (oK.mem Sn)), (.slice none 0 0), rfl, rfl, (Sl.nil _ _ _)⟩
 refine kg (V (nZ (v := (.agg (nL K6).toArray)) sL (nB zeroValue249 kN (UA _ kN) kr)) (VE (mI b rfl (fun R s b => Wa (lr (Wm (VA b (Mt (Mt Mh)) n aZ aD (bS hm fun a U hm => ?_))))))))
 let m : Value := (.int .i64 ((a.1).K))
 let l : Value := (.int .i64 ((a.1).Op))
 let h : Value := (.string (((a.1).lC).lM))
 let a2 : Value := (.string (((a.1).lC).lI))
 refine VE (eD b (Cb Pz Cn) call191 (fun F => ((zi mR) s K6 c (.slice H c.Kids.length I) _ _ F (k.mono mf.mono (mn.refl _)) U)) ?_)
 rintro _ c7 a9 O b D d ⟨c9, y, rfl, z⟩
 obtain rfl := y.symm
 replace b := b.perm (Tb Tn)
 refine VE (mz b bI (fun c0 K b => ?_))
 obtain ⟨i, j, rfl⟩ := z.form
 let a0 : Value := (.slice i ((a.1).Kids).length j)
 let N : Value := (.agg #[l, m, a2, h, a0])
 refine VO (mh N (#[l, m, a2, h, a0]) b rfl rfl aD oc nb rfl (fun c1 b => ln ?_))
 replace b := b.lG (Kb (Kb (Kb (Db St))))
 refine me (sg (Wm (Wn (Wf M6 (VB b (Mt Mh) rfl rfl isAgg40 (Wi rfl (Wm (LJ hm (fun M E W => ∃ J, ST false (keys []) w W a9 ((K, Ob #[l, m, a2, h, a0] 58) :: ((o, Ol C8 58) :: J)) ∧ E 2 = (.pointer (some ⟨o, 0, none⟩)) ∧ E 5 = (.pointer (some ⟨K, 0, none⟩)) ∧ E 24 = (.bool M)) 4 ?_ (fun M t G => ?_)))))))))
 ·rintro c8 E W ⟨J, b, B, a3, a4⟩ x
  refine ln (CI x a4 (fun T x => ?_) (fun T x => ?_))
  ·refine sg (V (nZ (v := (.agg C8.toArray)) sL (nB bI cK (CL _ cK) kr)) ?_)
   replace b := b.perm (Nb (Pb Pz) Nz)
   refine VO (mh (.agg C8.toArray) (C8.toArray) b B rfl aD oc nb rfl (fun c3 b => Wa (ln ?_)))
   replace b := b.lG (Kb (Db St))
   refine mB (mQ ?_)
   obtain rfl := sj x
   exact sK (v0 := (.agg C8.toArray)) (v1 := (.int .i64 12)) rfl B (lP b.has Mh C8 rfl aZ aD) rfl ⟨_, _, _, rfl, (b.ol Sn), D, d, (ST.nm b (oK.mem Sn)), (.slice none 0 0), rfl, rfl, (Sl.nil _ _ _)⟩
  refine kg (V (lK a3 (lP b.has Mh [l, m, a2, h, a0] rfl aZ aD)) ?_)
  replace b := b.perm (Nb (Pb Pz) Nz)
  refine VO (mh N (#[l, m, a2, h, a0]) b B rfl aD oc nb rfl (fun c4 b => Wa (ln ?_)))
  replace b := b.lG (Kb (Db St))
  refine mB ?_
  obtain rfl := sj x
  exact sK (v0 := N) (v1 := (.int .i64 0)) rfl B (lP b.has Mh [l, m, a2, h, a0] rfl aZ aD) rfl ⟨_, _, _, rfl, (b.ol Sn), D, d, (ST.nm b (oK.mem Sn)), a0, rfl, rfl, z⟩
 refine bC t (fun g t => ?_) (fun g t => ?_)
 ·refine un g (un g (un g (V (mo (cB g) rfl) ?_)))
  obtain rfl := sj t
  exact G _ _ ⟨_, (b.lG (Kb (Db St))), rfl, rfl, rfl⟩
 refine ug g (lK rfl (lP b.has Mh [l, m, a2, h, a0] rfl aZ aD)) (bS t fun c6 Y t => uJ g (Eg b call72 (uT a.1 a0 _ _ (z.mono mf.mono b.lJ) Y) (fun c5 b => ug g (oH rfl) (V (mq (cB g) rfl) ?_))))
 obtain rfl := sj t
 exact G _ _ ⟨_, (b.lG (Kb (Db St))), rfl, rfl, rfl⟩
end Go.Proofs.YtklbhegeiijbjaaGreat
