/- a part of a proof of EagerRests -/
import Derived.Test.YtmlncblocfcmiaaGreatE9Me
import Derived.Test.YtmlncblocfcmiaaGreatProg
set_option linter.all false
namespace Go.Proofs.YtmlncblocfcmiaaGreat
open Go.RowKit
set_option maxRecDepth 10000
open Tryz
def aC := @sizeOf113
def aF := @underlying111
def aG := @underlying22
def aH := @sizeOf53
def aI := @sizeOf28
def aS := @isAgg113
def bD := @zeroValue113
def bF := @underlying34
def bL := @isAgg28
def bQ := @underlying9
def bR := @isAgg53
def bY := @underlying113
def bZ := @isAgg9
def cJ := @underlying54
def cL := @isAgg3
def cT := @underlying108
def cX := @zeroValue53
def cZ := @underlying50
def dm := @sizeOf56
def du := @underlying107
def dx := @underlying28
def dz := @sizeOf138
def dA := @underlying164
def dD := @underlying53
def dG := @sizeOf263
def dH := @zeroValue56
def dN := @sizeOf160
def dS := @sizeOf110
def dT := @sizeOf164
def dW := @underlying160
def eb := @zeroValue28
def ed := @zeroValue138
def ee := @zeroValue164
def ej := @underlying3
def et := @underlying56
def eu := @underlying110
def ew := @isAgg160
def ez := @isAgg110
def eB := @isAgg22
def eE := @underlying138
def eF := @underlying294
def eG := @eqGuardType53
def eH := @underlying290
def eO := @isAgg111
def fa := @underlying353
def fp := @zeroValue296
def fw := @underlying296
def fG := @sizeOf9
def fH := @sizeOf3
def fI := @underlying38
def fQ := @eqGuardType28
def gi := @underlying92
def gj := @underlying90
def gk := @zeroValue263
def gl := @isAgg164
def gm := @zeroValue110
def gw := @isAgg54
def gx := @isAgg56
def gy := @underlying337
def gz := @isAgg34
def gC := @sizeOf22
def gD := @underlying5
def gE := @isAgg107
def gF := @isAgg290
def gP := @underlying68
def iq := @isAgg138
def ir := @zeroValue4
def iN := @call152
def iO := @call254
def iP := @zeroValue22
def iV := @underlying376
def jd := @isAgg263
def jk := @zeroValue160
def jl := @underlying82
def jv := @sizeOf54
def jw := @zeroValue38
def jx := @sizeOf38
def jz := @isAgg50
abbrev K0 : jB := ⟨zS, zS⟩
abbrev K1 : ByteArray := ⟨#[120]⟩
abbrev K2 : ByteArray := ⟨#[121]⟩
abbrev K3 : ByteArray := ⟨#[109, 101]⟩
abbrev K4 : kD := ⟨0⟩
abbrev K5 : jB := ⟨K1, K2⟩
abbrev K6 : jA := ⟨0, K0, zS, K0, K0, zS⟩
abbrev K7 : Formula := ⟨2, 0, K0, []⟩
abbrev K9 : jA := ⟨1, K5, K3, K0, K0, zS⟩
abbrev C1 (a b : Int) (c d : ByteArray) (g : Option Addr) (h i : Nat) : List Value := [(.int .i64 a), (.int .i64 b), (.string c), (.string d), (.slice g h i)]
abbrev C2 (c : Int) (d g h i j k l m : ByteArray) (n : Option Addr) (a b : Nat) : List Value := [(.int .i64 c), (.string d), (.string g), (.string h), (.string i), (.string j), (.string k), (.string l), (.string m), (.slice n a b)]
abbrev C3 (n : ByteArray) (o : Option Addr) (q r : Nat) (s : Option Addr) (t u : Nat) (v : ByteArray) (w : Int) (x : Option Addr) (a b : Nat) (c : Option Addr) (d g : Nat) (h : Option Addr) (i j : Nat) (k : Option Addr) (l m : Nat) : List Value := [(.string n), (.slice o q r), (.slice s t u), (.string v), (.int .i64 w), (.slice x a b), (.slice c d g), (.slice h i j), (.slice k l m)]
abbrev C4 (a : Option Addr) (b c : Nat) : List Value := [(.int .i64 1), (.string (K5.jF)), (.string (K5.jK)), (.string K3), (.string (K0.jF)), (.string (K0.jK)), (.string (K0.jF)), (.string (K0.jK)), (.string zS), (.slice a b c), (.int .i64 2), (.int .i64 0), (.string zS), (.string zS), (.slice none 0 0)]
abbrev C5 (l : Int) (m n o q r s t u : ByteArray) (v : Option Addr) (a b : Nat) (c d : Int) (g h : ByteArray) (i : Option Addr) (j k : Nat) : List Value := [(.int .i64 l), (.string m), (.string n), (.string o), (.string q), (.string r), (.string s), (.string t), (.string u), (.slice v a b), (.int .i64 c), (.int .i64 d), (.string g), (.string h), (.slice i j k)]
abbrev C6 (c d : ByteArray) (g h : Int) (i j : ByteArray) (k : Option Addr) (l m : Nat) (n : Option Addr) (a b : Nat) : List Value := [(.string c), (.string d), (.int .i64 g), (.int .i64 h), (.string i), (.string j), (.slice k l m), (.slice n a b)]
abbrev C7 : List Value := [(.int .i64 0), (.int .i64 0), (.string zS), (.string zS), (.slice none 0 0)]
abbrev C8 (a : ByteArray) (b : Option Addr) (c d : Nat) (g : Option Addr) (h i : Nat) : List Value := [(.string a), (.slice b c d), (.slice g h i)]
abbrev C9 (a b c : Int) (d : ByteArray) (g : Option Addr) (h i : Nat) (j : Option Addr) (k l : Nat) : List Value := [(.int .i64 a), (.int .i64 b), (.int .i64 c), (.string d), (.slice g h i), (.slice j k l)]
abbrev Ly : List Value := [(.int .i64 0), (.string (K0.jF)), (.string (K0.jK)), (.string zS), (.string (K0.jF)), (.string (K0.jK)), (.string (K0.jF)), (.string (K0.jK)), (.string zS), (.slice none 0 0), (.int .i64 0), (.int .i64 0), (.string zS), (.string zS), (.slice none 0 0)]
abbrev IM : List Value := [(.int .i64 0), (.string (K0.jF)), (.string (K0.jK)), (.string zS), (.string (K0.jF)), (.string (K0.jK)), (.string (K0.jF)), (.string (K0.jK)), (.string zS), (.slice none 0 0)]
abbrev Ht : List Value := [(.string zS), (.slice none 0 0), (.slice none 0 0), (.string zS), (.int .i64 0), (.slice none 0 0), (.slice none 0 0), (.slice none 0 0), (.slice none 0 0)]
abbrev Cw : List Value := [(.int .i64 0), (.int .i64 0), (.int .i64 0), (.string zS), (.slice none 0 0), (.slice none 0 0)]
abbrev QN (a : ByteArray) (b : Option Addr) (c d : Nat) (g : Option Addr) (h i : Nat) (j : ByteArray) (k : Int) : List Value := [(.string a), (.slice b c d), (.slice g h i), (.string j), (.int .i64 k), (.slice none 0 0), (.slice none 0 0), (.slice none 0 0), (.slice none 0 0)]
abbrev Qm (a : Option Addr) (b c : Nat) : List Value := [(.int .i64 1), (.string (K5.jF)), (.string (K5.jK)), (.string K3), (.string (K0.jF)), (.string (K0.jK)), (.string (K0.jF)), (.string (K0.jK)), (.string zS), (.slice a b c)]
abbrev IT : List Value := [(.int .i64 2), (.int .i64 0), (.string zS), (.string zS), (.slice none 0 0)]
abbrev QI (a : Option Addr) (b c : Nat) : List Value := [(.int .i64 2), (.int .i64 0), (.int .i64 0), (.string zS), (.slice none 0 0), (.slice a b c)]
abbrev O4 (a : Int) : List Value := [(.int .i64 a), (.int .i64 0), (.string zS), (.string zS), (.slice none 0 0)]
abbrev KK : List Value := [(.int .i64 3), (.int .i64 0), (.string zS), (.string zS), (.slice none 0 0)]
abbrev Ow (a : Int) : List Value := [(.int .i64 a), (.int .i64 0), (.int .i64 0), (.string zS), (.slice none 0 0), (.slice none 0 0)]
theorem ko : Tryz.prog.follows .mixedOrders = true := by rfl
theorem oH : Tryz.prog.info? 5 = some Tryz.t5 ∧ Tryz.t5.zero = some (.int .u8 0) ∧ Tryz.t5.size = 1 ∧ Tryz.t5.bytes = 1 := ⟨by kernel_rfl, by kernel_rfl, by kernel_rfl, by kernel_rfl⟩
theorem pO : Tryz.prog.info? 28 = some Tryz.t28 ∧ Tryz.t28.zero = some (.agg #[(.string ⟨#[]⟩), (.string ⟨#[]⟩)]) ∧ Tryz.t28.size = 2 ∧ Tryz.t28.bytes = 32 := ⟨by kernel_rfl, by kernel_rfl, by kernel_rfl, by kernel_rfl⟩
theorem EM : Tryz.prog.info? 38 = some Tryz.t38 ∧ Tryz.t38.zero = some (.agg #[(.string ⟨#[]⟩), (.string ⟨#[]⟩), (.string ⟨#[]⟩)]) ∧ Tryz.t38.size = 3 ∧ Tryz.t38.bytes = 48 := ⟨by kernel_rfl, by kernel_rfl, by kernel_rfl, by kernel_rfl⟩
theorem mP : Tryz.prog.info? 53 = some Tryz.t53 ∧ Tryz.t53.zero = some (.agg #[(.int .i64 0), (.string ⟨#[]⟩), (.string ⟨#[]⟩), (.string ⟨#[]⟩), (.string ⟨#[]⟩), (.string ⟨#[]⟩), (.string ⟨#[]⟩), (.string ⟨#[]⟩), (.string ⟨#[]⟩)]) ∧ Tryz.t53.size = 9 ∧ Tryz.t53.bytes = 136 := ⟨by kernel_rfl, by kernel_rfl, by kernel_rfl, by kernel_rfl⟩
theorem Fp : Tryz.prog.info? 56 = some Tryz.t56 ∧ Tryz.t56.zero = some (.agg #[(.int .i64 0), (.string ⟨#[]⟩), (.string ⟨#[]⟩), (.string ⟨#[]⟩), (.string ⟨#[]⟩), (.string ⟨#[]⟩), (.string ⟨#[]⟩), (.string ⟨#[]⟩), (.string ⟨#[]⟩), (.slice none 0 0)]) ∧ Tryz.t56.size = 10 ∧ Tryz.t56.bytes = 160 := ⟨by kernel_rfl, by kernel_rfl, by kernel_rfl, by kernel_rfl⟩
theorem nq : Tryz.prog.info? 113 = some Tryz.t113 ∧ Tryz.t113.zero = some (.agg #[(.int .i64 0), (.int .i64 0), (.string ⟨#[]⟩), (.string ⟨#[]⟩), (.slice none 0 0)]) ∧ Tryz.t113.size = 5 ∧ Tryz.t113.bytes = 72 := ⟨by kernel_rfl, by kernel_rfl, by kernel_rfl, by kernel_rfl⟩
theorem Dq : Tryz.prog.info? 263 = some Tryz.t263 ∧ Tryz.t263.zero = some (.agg #[(.string ⟨#[]⟩), (.string ⟨#[]⟩), (.int .i64 0), (.int .i64 0), (.string ⟨#[]⟩), (.string ⟨#[]⟩), (.slice none 0 0), (.slice none 0 0)]) ∧ Tryz.t263.size = 8 ∧ Tryz.t263.bytes = 128 := ⟨by kernel_rfl, by kernel_rfl, by kernel_rfl, by kernel_rfl⟩
theorem tO : lp Tryz.prog 28 0 0 := kE dx rfl fG (by decide) rfl
theorem vd : lp Tryz.prog 28 1 1 := kE dx rfl fG (by decide) rfl
theorem L4 : (Tryz.prog.fieldsOf 28).toList = (match Tryz.prog.underlying 28 with | some (.struct a) => a.toList | _ => []) := by rw [dx]; simp [Program.fieldsOf, dx]
theorem tk (d : Nat) (x y : jB) (W : World) : (Op.equalIn (d + 2) 28 (.agg (jH x).toArray) (.agg (jH y).toArray)).run Tryz.prog W = .ok (kc x y) W := by
 rw [run_equalIn_struct W (d + 1) 28 _ _ (by kernel_rfl) Tryz.stoodInHeld28, L4, dx]
 exact (qp (by decide) (nm bZ rfl) (nm bZ rfl) (Nd bQ _ _ _ _) (qp (by decide) (nm bZ rfl) (nm bZ rfl) (Nd bQ _ _ _ _) (CB _ _ _)))
theorem MU : ∀ a, Tryz.prog.underlying 28 = some (.struct a) → ∀ w, (a.mapM (fun (f : Field) => do pure (f.offset, ← sizeOf f.type)) : Sem (Array (Nat × Nat))).run Tryz.prog w = .ok #[(0, 1), (1, 1)] w := by
 intro a h w
 rw [dx] at h
 cases h
 kernel_rfl
theorem xh : lp Tryz.prog 53 0 0 := kE dD rfl fH (by decide) rfl
theorem uo : lp Tryz.prog 53 1 1 := kE dD rfl aI (by decide) rfl
theorem AG : lp Tryz.prog 53 2 3 := kE dD rfl fG (by decide) rfl
theorem pu : lp Tryz.prog 53 3 4 := kE dD rfl aI (by decide) rfl
theorem xt : lp Tryz.prog 53 4 6 := kE dD rfl aI (by decide) rfl
theorem yg : lp Tryz.prog 53 5 8 := kE dD rfl fG (by decide) rfl
theorem MH : (Tryz.prog.fieldsOf 53).toList = (match Tryz.prog.underlying 53 with | some (.struct a) => a.toList | _ => []) := by rw [dD]; simp [Program.fieldsOf, dD]
theorem tp (d : Nat) (x y : jA) (W : World) : (Op.equalIn (d + 3) 53 (.agg (jD x).toArray) (.agg (jD y).toArray)).run Tryz.prog W = .ok (kp x y) W := by
 rw [run_equalIn_struct W (d + 2) 53 _ _ (by kernel_rfl) Tryz.stoodInHeld53, MH, dD]
 exact (qp (by decide) (nm cL rfl) (nm cL rfl) (QM ej _ _ _ _) (qp (by decide) (uk bL aI rfl) (uk bL aI rfl) (tk _ x.Head y.Head W) (qp (by decide) (nm bZ rfl) (nm bZ rfl) (Nd bQ _ _ _ _) (qp (by decide) (uk bL aI rfl) (uk bL aI rfl) (tk _ x.B y.B W) (qp (by decide) (uk bL aI rfl) (uk bL aI rfl) (tk _ x.C y.C W) (qp (by decide) (nm bZ rfl) (nm bZ rfl) (Nd bQ _ _ _ _) (CB _ _ _)))))))
theorem Ox : ∀ a, Tryz.prog.underlying 53 = some (.struct a) → ∀ w, (a.mapM (fun (f : Field) => do pure (f.offset, ← sizeOf f.type)) : Sem (Array (Nat × Nat))).run Tryz.prog w = .ok #[(0, 1), (1, 2), (3, 1), (4, 2), (6, 2), (8, 1)] w := by
 intro a h w
 rw [dD] at h
 cases h
 kernel_rfl
theorem G7 : lp Tryz.prog 38 0 0 := kE fI rfl aI (by decide) rfl
theorem Ba : lp Tryz.prog 38 1 2 := kE fI rfl fG (by decide) rfl
theorem Pn : ∀ a, Tryz.prog.underlying 38 = some (.struct a) → ∀ w, (a.mapM (fun (f : Field) => do pure (f.offset, ← sizeOf f.type)) : Sem (Array (Nat × Nat))).run Tryz.prog w = .ok #[(0, 2), (2, 1)] w := by
 intro a h w
 rw [fI] at h
 cases h
 kernel_rfl
theorem Jk : lp Tryz.prog 376 0 0 := kE iV rfl sizeOf57 (by decide) rfl
theorem P5 : ∀ a, Tryz.prog.underlying 376 = some (.struct a) → ∀ w, (a.mapM (fun (f : Field) => do pure (f.offset, ← sizeOf f.type)) : Sem (Array (Nat × Nat))).run Tryz.prog w = .ok #[(0, 1)] w := by
 intro a h w
 rw [iV] at h
 cases h
 kernel_rfl
theorem NH : lp Tryz.prog 196 0 0 := kE underlying196 rfl fG (by decide) rfl
theorem N1 : lp Tryz.prog 196 1 1 := kE underlying196 rfl jv (by decide) rfl
theorem rM : lp Tryz.prog 56 0 0 := kE et rfl aH (by decide) rfl
theorem Bm : lp Tryz.prog 56 1 9 := kE et rfl jv (by decide) rfl
theorem JR : ∀ a, Tryz.prog.underlying 56 = some (.struct a) → ∀ w, (a.mapM (fun (f : Field) => do pure (f.offset, ← sizeOf f.type)) : Sem (Array (Nat × Nat))).run Tryz.prog w = .ok #[(0, 9), (9, 1)] w := by
 intro a h w
 rw [et] at h
 cases h
 kernel_rfl
theorem zp : lp Tryz.prog 92 0 0 := kE gi rfl jv (by decide) rfl
theorem Ov : ∀ a, Tryz.prog.underlying 92 = some (.struct a) → ∀ w, (a.mapM (fun (f : Field) => do pure (f.offset, ← sizeOf f.type)) : Sem (Array (Nat × Nat))).run Tryz.prog w = .ok #[(0, 1)] w := by
 intro a h w
 rw [gi] at h
 cases h
 kernel_rfl
theorem rD : lp Tryz.prog 113 0 0 := kE bY rfl fH (by decide) rfl
theorem vH : lp Tryz.prog 113 1 1 := kE bY rfl fH (by decide) rfl
theorem vI : lp Tryz.prog 113 2 2 := kE bY rfl aI (by decide) rfl
theorem qm : lp Tryz.prog 113 3 4 := kE bY rfl sizeOf111 (by decide) rfl
theorem xo : ∀ a, Tryz.prog.underlying 113 = some (.struct a) → ∀ w, (a.mapM (fun (f : Field) => do pure (f.offset, ← sizeOf f.type)) : Sem (Array (Nat × Nat))).run Tryz.prog w = .ok #[(0, 1), (1, 1), (2, 2), (4, 1)] w := by
 intro a h w
 rw [bY] at h
 cases h
 kernel_rfl
theorem vu : lp Tryz.prog 138 0 0 := kE eE rfl dm (by decide) rfl
theorem FV : lp Tryz.prog 138 1 10 := kE eE rfl aC (by decide) rfl
theorem Kl : ∀ a, Tryz.prog.underlying 138 = some (.struct a) → ∀ w, (a.mapM (fun (f : Field) => do pure (f.offset, ← sizeOf f.type)) : Sem (Array (Nat × Nat))).run Tryz.prog w = .ok #[(0, 10), (10, 5)] w := by
 intro a h w
 rw [eE] at h
 cases h
 kernel_rfl
theorem AO : lp Tryz.prog 263 0 0 := kE underlying263 rfl aI (by decide) rfl
theorem FM : lp Tryz.prog 263 1 2 := kE underlying263 rfl aC (by decide) rfl
theorem Dt : lp Tryz.prog 263 2 7 := kE underlying263 rfl gC (by decide) rfl
theorem IJ : lp Tryz.prog 110 0 0 := kE eu rfl fG (by decide) rfl
theorem vA : lp Tryz.prog 110 1 1 := kE eu rfl sizeOf107 (by decide) rfl
theorem AS : lp Tryz.prog 110 2 2 := kE eu rfl sizeOf108 (by decide) rfl
theorem Jy : ∀ a, Tryz.prog.underlying 110 = some (.struct a) → ∀ w, (a.mapM (fun (f : Field) => do pure (f.offset, ← sizeOf f.type)) : Sem (Array (Nat × Nat))).run Tryz.prog w = .ok #[(0, 1), (1, 1), (2, 1)] w := by
 intro a h w
 rw [eu] at h
 cases h
 kernel_rfl
theorem wP : lp Tryz.prog 160 0 0 := kE dW rfl dS (by decide) rfl
theorem Dv : lp Tryz.prog 160 1 3 := kE dW rfl fG (by decide) rfl
theorem Jg : lp Tryz.prog 160 2 4 := kE dW rfl fH (by decide) rfl
theorem AI : lp Tryz.prog 160 3 5 := kE dW rfl gC (by decide) rfl
theorem wN : lp Tryz.prog 160 4 6 := kE dW rfl gC (by decide) rfl
theorem FX : lp Tryz.prog 160 5 7 := kE dW rfl sizeOf34 (by decide) rfl
theorem FG : lp Tryz.prog 160 6 8 := kE dW rfl sizeOf34 (by decide) rfl
theorem No : ∀ a, Tryz.prog.underlying 160 = some (.struct a) → ∀ w, (a.mapM (fun (f : Field) => do pure (f.offset, ← sizeOf f.type)) : Sem (Array (Nat × Nat))).run Tryz.prog w = .ok #[(0, 3), (3, 1), (4, 1), (5, 1), (6, 1), (7, 1), (8, 1)] w := by
 intro a h w
 rw [dW] at h
 cases h
 kernel_rfl
theorem xa : lp Tryz.prog 164 0 0 := kE dA rfl fH (by decide) rfl
theorem yZ : lp Tryz.prog 164 1 1 := kE dA rfl fH (by decide) rfl
theorem yV : lp Tryz.prog 164 2 2 := kE dA rfl fH (by decide) rfl
theorem AU : lp Tryz.prog 164 3 3 := kE dA rfl fG (by decide) rfl
theorem yY : lp Tryz.prog 164 4 4 := kE dA rfl sizeOf34 (by decide) rfl
theorem wU : lp Tryz.prog 164 5 5 := kE dA rfl sizeOf50 (by decide) rfl
theorem GW : ∀ a, Tryz.prog.underlying 164 = some (.struct a) → ∀ w, (a.mapM (fun (f : Field) => do pure (f.offset, ← sizeOf f.type)) : Sem (Array (Nat × Nat))).run Tryz.prog w = .ok #[(0, 1), (1, 1), (2, 1), (3, 1), (4, 1), (5, 1)] w := by
 intro a h w
 rw [dA] at h
 cases h
 kernel_rfl
theorem vw : lp Tryz.prog 294 0 0 := kE eF rfl sizeOf290 (by decide) rfl
theorem FP : lp Tryz.prog 294 1 1 := kE eF rfl gC (by decide) rfl
theorem Jm : lp Tryz.prog 294 2 2 := kE eF rfl sizeOf291 (by decide) rfl
theorem FB : lp Tryz.prog 294 3 3 := kE eF rfl sizeOf292 (by decide) rfl
theorem yX : lp Tryz.prog 294 4 4 := kE eF rfl sizeOf68 (by decide) rfl
theorem DD : lp Tryz.prog 294 5 5 := kE eF rfl fH (by decide) rfl
theorem PI : ∀ a, Tryz.prog.underlying 294 = some (.struct a) → ∀ w, (a.mapM (fun (f : Field) => do pure (f.offset, ← sizeOf f.type)) : Sem (Array (Nat × Nat))).run Tryz.prog w = .ok #[(0, 1), (1, 1), (2, 1), (3, 1), (4, 1), (5, 1)] w := by
 intro a h w
 rw [eF] at h
 cases h
 kernel_rfl
def AM : pj Key := fun μ ys x => ∃ (v0 : Value), ys = [.string x.kA, v0] ∧ Sl (Pl (kU .u8)) 1 μ v0 x.Key
theorem AM.out {μ : km} {ys : List Value} {x : Key} (h : AM μ ys x) : ∃ (v0 : Value), ys = [.string x.kA, v0] ∧ Sl (Pl (kU .u8)) 1 μ v0 x.Key := h
theorem AM.mk {μ : km} {ys : List Value} {x : Key} (h : ∃ (v0 : Value), ys = [.string x.kA, v0] ∧ Sl (Pl (kU .u8)) 1 μ v0 x.Key) : AM μ ys x := h
def lL : pj Signed := fun μ ys x => ∃ (v0 : Value), ys = [.int .i64 x.jA.Kind, .string x.jA.Head.jF, .string x.jA.Head.jK, .string x.jA.kA, .string x.jA.B.jF, .string x.jA.B.jK, .string x.jA.C.jF, .string x.jA.C.jK, .string x.jA.kz, v0] ∧ Sl (Pl (kU .u8)) 1 μ v0 x.Tag
theorem lL.out {μ : km} {ys : List Value} {x : Signed} (h : lL μ ys x) : ∃ (v0 : Value), ys = [.int .i64 x.jA.Kind, .string x.jA.Head.jF, .string x.jA.Head.jK, .string x.jA.kA, .string x.jA.B.jF, .string x.jA.B.jK, .string x.jA.C.jF, .string x.jA.C.jK, .string x.jA.kz, v0] ∧ Sl (Pl (kU .u8)) 1 μ v0 x.Tag := h
theorem lL.mk {μ : km} {ys : List Value} {x : Signed} (h : ∃ (v0 : Value), ys = [.int .i64 x.jA.Kind, .string x.jA.Head.jF, .string x.jA.Head.jK, .string x.jA.kA, .string x.jA.B.jF, .string x.jA.B.jK, .string x.jA.C.jF, .string x.jA.C.jK, .string x.jA.kz, v0] ∧ Sl (Pl (kU .u8)) 1 μ v0 x.Tag) : lL μ ys x := h
theorem nC : Deep lL 10 where
 mono := by rintro _ _ _ _ b ⟨v0, rfl, a⟩; exact ⟨v0, rfl, a.mono (Pl.mono _) b⟩
 len := by rintro _ _ _ ⟨v0, rfl, a⟩; rfl
 one := by
  rintro _ _ _ ⟨v0, rfl, a⟩
  intro u hu; simp only [aQ, dF, fP] at hu; rcases hu with rfl | rfl | rfl | rfl | rfl | rfl | rfl | rfl | rfl | rfl
  ·rfl
  ·rfl
  ·rfl
  ·rfl
  ·rfl
  ·rfl
  ·rfl
  ·rfl
  ·rfl
  ·exact a.zQ
def wg : Nat → pj Formula
 | 0 => fun _ _ _ => False
 | n + 1 => fun μ ys x => ∃ (v0 : Value), ys = [.int .i64 x.Op, .int .i64 x.K, .string x.jB.jF, .string x.jB.jK, v0] ∧ Sl (wg n) 5 μ v0 x.Kids
def jC : pj Formula := fun μ ys x => ∃ n, wg n μ ys x
theorem Dk : ∀ n, E0 (wg n)
 | 0 => fun _ _ _ _ _ h => h
 | n + 1 => by rintro _ _ _ _ b ⟨v0, rfl, a⟩; exact ⟨v0, rfl, a.mono (Dk n) b⟩
theorem E6 : ∀ n m (μ : km) (ys : List Value) (x : Formula), n ≤ m → wg n μ ys x → wg m μ ys x
 | 0, _, _, _, _, _, h => h.elim
 | n + 1, 0, _, _, _, a, _ => absurd a (by omega)
 | n + 1, m + 1, μ, ys, x, a, h => by
  obtain ⟨v0, rfl, b⟩ := h
  exact ⟨v0, rfl, b.imp fun ys x h => E6 n m μ ys x (by omega) h⟩
theorem jC.out {μ : km} {ys : List Value} {x : Formula} (h : jC μ ys x) : ∃ (v0 : Value), ys = [.int .i64 x.Op, .int .i64 x.K, .string x.jB.jF, .string x.jB.jK, v0] ∧ Sl jC 5 μ v0 x.Kids := by
 obtain ⟨n, h⟩ := h
 cases n with
 | zero => exact h.elim
 | succ n =>
  obtain ⟨v0, rfl, a⟩ := h
  exact ⟨v0, rfl, a.imp fun ys x h => ⟨n, h⟩⟩
theorem jC.mk {μ : km} {ys : List Value} {x : Formula} (h : ∃ (v0 : Value), ys = [.int .i64 x.Op, .int .i64 x.K, .string x.jB.jF, .string x.jB.jK, v0] ∧ Sl jC 5 μ v0 x.Kids) : jC μ ys x := by
 obtain ⟨v0, rfl, c⟩ := h
 obtain ⟨n, g⟩ := c.Qa (fun _ _ h => h) (fun a b ys x d h => E6 a b _ ys x d h)
 exact ⟨n + 1, v0, rfl, g⟩
theorem jT : Deep jC 5 where
 mono := fun _ _ _ _ b ⟨n, h⟩ => ⟨n, Dk n _ _ _ _ b h⟩
 len := by rintro _ _ _ h; obtain ⟨v0, rfl, a⟩ := h.out; rfl
 one := by
  rintro _ _ _ h
  obtain ⟨v0, rfl, a⟩ := h.out
  intro u hu; simp only [aQ, dF, fP] at hu; rcases hu with rfl | rfl | rfl | rfl | rfl
  ·rfl
  ·rfl
  ·rfl
  ·rfl
  ·exact a.zQ
def ku : pj kw := fun μ ys x => ∃ (v0 : Value) (v1 : Value), ys = [.int .i64 x.Signed.jA.Kind, .string x.Signed.jA.Head.jF, .string x.Signed.jA.Head.jK, .string x.Signed.jA.kA, .string x.Signed.jA.B.jF, .string x.Signed.jA.B.jK, .string x.Signed.jA.C.jF, .string x.Signed.jA.C.jK, .string x.Signed.jA.kz, v0, .int .i64 x.jL.Op, .int .i64 x.jL.K, .string x.jL.jB.jF, .string x.jL.jB.jK, v1] ∧ Sl (Pl (kU .u8)) 1 μ v0 x.Signed.Tag ∧ Sl jC 5 μ v1 x.jL.Kids
theorem ku.out {μ : km} {ys : List Value} {x : kw} (h : ku μ ys x) : ∃ (v0 : Value) (v1 : Value), ys = [.int .i64 x.Signed.jA.Kind, .string x.Signed.jA.Head.jF, .string x.Signed.jA.Head.jK, .string x.Signed.jA.kA, .string x.Signed.jA.B.jF, .string x.Signed.jA.B.jK, .string x.Signed.jA.C.jF, .string x.Signed.jA.C.jK, .string x.Signed.jA.kz, v0, .int .i64 x.jL.Op, .int .i64 x.jL.K, .string x.jL.jB.jF, .string x.jL.jB.jK, v1] ∧ Sl (Pl (kU .u8)) 1 μ v0 x.Signed.Tag ∧ Sl jC 5 μ v1 x.jL.Kids := h
theorem ku.mk {μ : km} {ys : List Value} {x : kw} (h : ∃ (v0 : Value) (v1 : Value), ys = [.int .i64 x.Signed.jA.Kind, .string x.Signed.jA.Head.jF, .string x.Signed.jA.Head.jK, .string x.Signed.jA.kA, .string x.Signed.jA.B.jF, .string x.Signed.jA.B.jK, .string x.Signed.jA.C.jF, .string x.Signed.jA.C.jK, .string x.Signed.jA.kz, v0, .int .i64 x.jL.Op, .int .i64 x.jL.K, .string x.jL.jB.jF, .string x.jL.jB.jK, v1] ∧ Sl (Pl (kU .u8)) 1 μ v0 x.Signed.Tag ∧ Sl jC 5 μ v1 x.jL.Kids) : ku μ ys x := h
theorem kT : Deep ku 15 where
 mono := by rintro _ _ _ _ b ⟨v0, v1, rfl, a, h1⟩; exact ⟨v0, v1, rfl, a.mono (Pl.mono _) b, h1.mono jT.mono b⟩
 len := by rintro _ _ _ ⟨v0, v1, rfl, a, h1⟩; rfl
 one := by
  rintro _ _ _ ⟨v0, v1, rfl, a, h1⟩
  intro u hu; simp only [aQ, dF, fP] at hu; rcases hu with rfl | rfl | rfl | rfl | rfl | rfl | rfl | rfl | rfl | rfl | rfl | rfl | rfl | rfl | rfl
  ·rfl
  ·rfl
  ·rfl
  ·rfl
  ·rfl
  ·rfl
  ·rfl
  ·rfl
  ·rfl
  ·exact a.zQ
  ·rfl
  ·rfl
  ·rfl
  ·rfl
  ·exact h1.zQ
def kW : pj ml := fun μ ys x => ∃ (v0 : Value) (v1 : Value), ys = [.string x.jB.jF, .string x.jB.jK, .int .i64 x.jL.Op, .int .i64 x.jL.K, .string x.jL.jB.jF, .string x.jL.jB.jK, v0, v1] ∧ Sl jC 5 μ v0 x.jL.Kids ∧ Sl (Pl jD) 9 μ v1 x.lI
theorem kW.out {μ : km} {ys : List Value} {x : ml} (h : kW μ ys x) : ∃ (v0 : Value) (v1 : Value), ys = [.string x.jB.jF, .string x.jB.jK, .int .i64 x.jL.Op, .int .i64 x.jL.K, .string x.jL.jB.jF, .string x.jL.jB.jK, v0, v1] ∧ Sl jC 5 μ v0 x.jL.Kids ∧ Sl (Pl jD) 9 μ v1 x.lI := h
theorem kW.mk {μ : km} {ys : List Value} {x : ml} (h : ∃ (v0 : Value) (v1 : Value), ys = [.string x.jB.jF, .string x.jB.jK, .int .i64 x.jL.Op, .int .i64 x.jL.K, .string x.jL.jB.jF, .string x.jL.jB.jK, v0, v1] ∧ Sl jC 5 μ v0 x.jL.Kids ∧ Sl (Pl jD) 9 μ v1 x.lI) : kW μ ys x := h
theorem mz : Deep kW 8 where
 mono := by rintro _ _ _ _ b ⟨v0, v1, rfl, a, h1⟩; exact ⟨v0, v1, rfl, a.mono jT.mono b, h1.mono (Pl.mono _) b⟩
 len := by rintro _ _ _ ⟨v0, v1, rfl, a, h1⟩; rfl
 one := by
  rintro _ _ _ ⟨v0, v1, rfl, a, h1⟩
  intro u hu; simp only [aQ, dF, fP] at hu; rcases hu with rfl | rfl | rfl | rfl | rfl | rfl | rfl | rfl
  ·rfl
  ·rfl
  ·rfl
  ·rfl
  ·rfl
  ·rfl
  ·exact a.zQ
  ·exact h1.zQ
theorem Fi : od Tryz.prog 9 Value.string lh := od.string bQ
theorem yw : od Tryz.prog 28 (fun (x : jB) => (.agg (jH x).toArray)) kc :=
 od.struct dx (fun d x y W => tk (d + 8) x y W) (fun b k W => sW dx rfl (cC.2 ⟨fun _ => ⟨.string k.jF, nm bZ rfl, nk bQ _ _ _ _⟩, (cC.2 ⟨fun _ => ⟨.string k.jK, nm bZ rfl, nk bQ _ _ _ _⟩, (fun _ h => by cases h)⟩)⟩))
  (fun k x h => (jZ.1 h).symm) (fun k => by simp [Instr.sameBits, jH, Ad, mc])
theorem LY : od Tryz.prog 53 (fun (x : jA) => (.agg (jD x).toArray)) kp :=
 od.struct dD (fun d x y W => tp (d + 7) x y W) (fun b k W => sW dD rfl (cC.2 ⟨fun _ => ⟨.int .i64 k.Kind, nm cL rfl, HQ ej _ _ _ _ _⟩, (cC.2 ⟨fun _ => ⟨.agg (jH k.Head).toArray, uk bL aI rfl, sW dx rfl (cC.2 ⟨fun _ => ⟨.string k.Head.jF, nm bZ rfl, nk bQ _ _ _ _⟩, (cC.2 ⟨fun _ => ⟨.string k.Head.jK, nm bZ rfl, nk bQ _ _ _ _⟩, (fun _ h => by cases h)⟩)⟩)⟩, (cC.2 ⟨fun _ => ⟨.string k.kA, nm bZ rfl, nk bQ _ _ _ _⟩, (cC.2 ⟨fun _ => ⟨.agg (jH k.B).toArray, uk bL aI rfl, sW dx rfl (cC.2 ⟨fun _ => ⟨.string k.B.jF, nm bZ rfl, nk bQ _ _ _ _⟩, (cC.2 ⟨fun _ => ⟨.string k.B.jK, nm bZ rfl, nk bQ _ _ _ _⟩, (fun _ h => by cases h)⟩)⟩)⟩, (cC.2 ⟨fun _ => ⟨.agg (jH k.C).toArray, uk bL aI rfl, sW dx rfl (cC.2 ⟨fun _ => ⟨.string k.C.jF, nm bZ rfl, nk bQ _ _ _ _⟩, (cC.2 ⟨fun _ => ⟨.string k.C.jK, nm bZ rfl, nk bQ _ _ _ _⟩, (fun _ h => by cases h)⟩)⟩)⟩, (cC.2 ⟨fun _ => ⟨.string k.kz, nm bZ rfl, nk bQ _ _ _ _⟩, (fun _ h => by cases h)⟩)⟩)⟩)⟩)⟩)⟩))
  (fun k x h => (lK.1 h).symm) (fun k => by simp [Instr.sameBits, jD, Ad, mc])
theorem Pu (w : World) (s : ByteArray) (c : Int) : (callFunc 395 [Value.string s, .int .u8 c].toArray).run Tryz.prog w = .ok (.value (.int .i64 (vq s c))) w := FI func395 (by kernel_rfl) (by kernel_rfl) (by kernel_rfl) (by kernel_rfl) s c w
theorem wJ (a : ByteArray) (c r : Int) (w : World) (hm : nT a c = some r) :
  ki true Tryz.prog 341 [(.string a), (.int .u8 c)] w (.int .i64 r) := by
 exact cG 8 func341 rfl (fun b => sg (Wa (lr (Wm (Wm (VE (J0 (args := [(.string a), (.int .u8 c)]) (v := .int .i64 (vq a c)) rfl (by exact ua rfl rfl) (Pu _ a c) (Wa (lt (rQ hm b))))))))))
theorem xG (a : ByteArray) (c r : Int) (w : World) (hm : qD a c = some r) :
  ki true Tryz.prog 266 [(.string a), (.int .u8 c)] w (.int .i64 r) := by
 refine cG 8 func266 rfl (fun b => sg (Wa (lr (Wm (Wm (bS hm fun j g hm => VE (Eg b call341 (wJ a c _ _  g) (fun i b => Wa (ln ?_)))))))))
 exact kB (rQ hm b)
theorem Iu (I : ByteArray) (r : Bool) (w : World) (hm : Ak I = some r) :
  ki true Tryz.prog 267 [(.string I)] w (.bool r) := by
 refine cG 16 func267 rfl (fun b => sg (Wa (lS (Wm (bS hm fun H J hm => VE (Gq b bQ cJ gD rfl J (fun W3 N T b M n j Y => V (lf cJ rfl j) (Wm (ky ?_)))))))))
 refine jQ (li (fun i E W => ∃ c, (E 8 = .int .i64 (i : Nat) ∧ E 7 = .int .i64 (H.length : Nat)) ∧ ST true kQ w W T c ∧ E 6 = N ∧ tN (H.drop i) = some r) H.length j.len ⟨_, ⟨rfl, rfl⟩, (b.jE St), rfl, hm⟩ dc dc dc (fun _ _ _ h => by obtain ⟨_, l, _⟩ := h; exact l) ?_ ?_)
 ·rintro K E W u ⟨c, ⟨d, m⟩, b, g, a⟩
  obtain ⟨k, Q, D, B, G⟩ := kP u
  rw [D] at a
  refine bg (VQ (ot (enc := (kU .u8)) (i := (K : Int)) (x0 := k) cJ sizeOf5 g d j (aJ _) B) (fun Z x => V (jG rfl (qO b.has (y := (.int .u8 k)) x isAgg5)) (Wa (lr (Wm (bS a fun o z a => VE (Eg b call266 (xG (⟨#[97, 98, 99, 100, 101, 102, 103, 104, 105, 106, 107, 108, 109, 110, 111, 112, 113, 114, 115, 116, 117, 118, 119, 120, 121, 122, 48, 49, 50, 51, 52, 53, 54, 55, 56, 57, 45]⟩ : ByteArray) k _ _  z) (fun U b => Wi rfl (ky ?_)))))))))
  refine jQ (CI a rfl (fun t a => ?_) (fun t a => ?_))
  ·refine sg (Wa (lt (mn (kI (mn (kI ?_))))))
   obtain rfl := sj a
   exact rP b
  exact ll (kF (jQ ⟨d, _, ⟨rfl, m⟩, (b.jE St), g, (by rw [G]; exact a)⟩))
 rintro E W ⟨c, ⟨d, m⟩, b, g, a⟩
 rw [aP] at a
 exact jQ (sg (Wa (lt (rQ a b))))
theorem qk (z : ByteArray) (r : Bool) (w : World) (hm : nY z = some r) :
  ki true Tryz.prog 152 [(.string z)] w (.bool r) := by
 refine cG 21 func152 rfl (fun b => sg (Wa (lr (Wm (V (nV bQ rfl) (Wi rfl (Wm (LJ hm (fun K E W => ∃ Y, ST true kQ w W (hp w) Y ∧ E 0 = (.string z) ∧ E 2 = (.bool false) ∧ E 10 = (.bool K)) 4 ?_ (fun K t y => ?_)))))))))
 ·rintro x2 E W ⟨Y, b, M, d, l⟩ a5
  refine Wh l (LJ a5 (fun J E W => ∃ D, ST true kQ w W (hp w) D ∧ E 0 = (.string z) ∧ E 2 = (.bool false) ∧ E 16 = (.bool J)) 5 ?_ (fun J a x => ?_))
  ·rintro s E W ⟨D, b, h, H, a2⟩ N
   refine Wh a2 (LJ N (fun I E W => ∃ G, ST true kQ w W (hp w) G ∧ E 2 = (.bool false) ∧ E 20 = (.bool I)) 3 ?_ (fun I j u => ?_))
   ·rintro v E W ⟨G, b, a9, a3⟩ Q
    exact Wg a3 (lt (rQ Q b))
   refine bC j (fun g j => ?_) (fun g j => ?_)
   ·refine ug g (jN h) (bS j fun o T j => rl g (Eg b call267 (Iu z _ _  T) (fun m b => V (kd (cB g) rfl) ?_)))
    obtain rfl := sj j
    exact u _ _ ⟨_, (b.jE St), H, rfl⟩
   refine un g (un g (V (ke (cB g) rfl) ?_))
   obtain rfl := sj j
   exact u _ _ ⟨_, (b.jE St), H, rfl⟩
  refine bC a (fun c a => ?_) (fun c a => ?_)
  ·refine ug c (jN M) (bS a fun Z B a => ug c (Kn (i := 0) bQ rfl rfl (Is B) (LV B)) (bS a fun q U a => rl c (Eg b call266 (xG (⟨#[97, 98, 99, 100, 101, 102, 103, 104, 105, 106, 107, 108, 109, 110, 111, 112, 113, 114, 115, 116, 117, 118, 119, 120, 121, 122]⟩ : ByteArray) (Z.toNat : Int) _ _  U) (fun n b => ug c (kL rfl rfl rfl) (V (kd (cB c) rfl) ?_)))))
   obtain rfl := sj a
   exact x _ _ ⟨_, (b.jE St), M, d, rfl⟩
  refine un c (un c (un c (un c (V (ke (cB c) rfl) ?_))))
  obtain rfl := sj a
  exact x _ _ ⟨_, (b.jE St), M, d, rfl⟩
 refine bC t (fun k t => ?_) (fun k t => ?_)
 ·refine ug k (jN rfl) (ug k (nV bQ rfl) (ug k (kL rfl rfl rfl) (V (kd (cB k) rfl) ?_)))
  obtain rfl := sj t
  exact y _ _ ⟨_, (b.jE St), rfl, rfl, rfl⟩
 refine un k (un k (un k (V (ke (cB k) rfl) ?_)))
 obtain rfl := sj t
 exact y _ _ ⟨_, (b.jE St), rfl, rfl, rfl⟩
theorem wh (g : Value) (t : List ml) (j : Value) (z : ml → Option Bool) (r : Int) (w : World) (c : Sl kW 8 (hp w) g t) (B : uK Tryz.prog j (hp w) (xM kW) (fun (r : Bool) => (.bool r)) z) (hm : pk t z = some r) :
  ki false Tryz.prog 304 [g, j] w (.int .i64 r) := by
 refine cG 19 func304 rfl (fun b => sg (Wa (lS (Wm (V (lf cT rfl c) (Wm (ln (li (fun i E W => ∃ k, (E 8 = .int .i64 (i : Nat) ∧ E 7 = .int .i64 (t.length : Nat)) ∧ ST false kQ w W (hp w) k ∧ E 0 = g ∧ E 1 = j ∧ nn z (t.drop i) i = some r) t.length c.len ⟨_, ⟨rfl, rfl⟩, (b.jE St), rfl, rfl, hm⟩ dc dc dc (fun _ _ _ h => by obtain ⟨_, l, _⟩ := h; exact l) ?_ ?_))))))))
 ·rintro T E W G ⟨k, ⟨d, m⟩, b, u, x, a⟩
  obtain ⟨y, Z, N, M, Q⟩ := kP G
  rw [N] at a
  refine bg (Wh d (Wa (lr (Wh x (Wh u (Wm (VQ (mo (i := (T : Int)) (x0 := y) kW.out cT dG rfl rfl c (aJ _) M) (fun a2 ⟨_, ⟨U, Y, rfl, J, K⟩, H⟩ => V (jG rfl (kl b.has H jd dG)) (bS a fun a3 I a => ?_)))))))))
  refine VE (wu y b B (kf.refl _) (xM.mk mz (kW.mk ⟨U, Y, rfl, J, K⟩) b.jJ) rfl (tD rfl) I (fun n b => ln (CI a rfl (fun D a => ?_) (fun D a => ?_))))
  ·refine sg (Wm (Wa (lt (mn (kI (mn (kI ?_)))))))
   obtain rfl := sj a
   exact rP b
  exact ll (kF (jQ ⟨d, _, ⟨rfl, m⟩, (b.jE St), u, x, (by rw [Q]; exact a)⟩))
 rintro E W ⟨k, ⟨d, m⟩, b, u, x, a⟩
 rw [aP] at a
 exact jQ (sg (Wa (lt (rQ a b))))
theorem yS (a : Value) (g : List ml) (c : Value) (i : ml → Option Bool) (r : Bool) (w : World) (j : Sl kW 8 (hp w) a g) (k : uK Tryz.prog c (hp w) (xM kW) (fun (r : Bool) => (.bool r)) i) (hm : pP g i = some r) :
  ki false Tryz.prog 210 [a, c] w (.bool r) := by
 refine cG 9 func210 rfl (fun b => sg (Wa (lr (Wm (Wm (bS hm fun x t hm => VE (Eg b call304 (wh a g c i _ _ (j.mono mz.mono b.jJ) (k.mono b.jJ) t) (fun u b => Wi rfl (Wa (ky ?_))))))))))
 exact jQ (kB (rQ hm b))
theorem E1 (c : ml) (a i : Value) (r : Bool) (w : World) (j : Sl jC 5 (hp w) a c.jL.Kids) (g : Sl (Pl jD) 9 (hp w) i c.lI) (hm : uO c = some r) :
  ki true Tryz.prog 297 [(.agg #[(.string c.jB.jF), (.string c.jB.jK), (.int .i64 c.jL.Op), (.int .i64 c.jL.K), (.string c.jL.jB.jF), (.string c.jL.jB.jK), a, i])] w (.bool r) := by
 refine cG 7 func297 rfl (fun b => sg ?_)
 obtain ⟨k, u, rfl⟩ := j.form
 obtain ⟨t, x, rfl⟩ := g.form
 refine VE (kH b rfl (fun y z b => Wa (lr (Wf Dt (VB b Mh rfl rfl eB (V (lf aG rfl g) (Wi rfl (Wa (ln ?_)))))))))
 exact kB (rQ hm b)
theorem Hp (u : jI) (k t : Value) (r : Bool) (w : World) (j : Sl ku 15 (hp w) k u.jV) (c : Sl kW 8 (hp w) t u.kx) (hm : xr u = some r) :
  ki false Tryz.prog 205 [(.agg #[(.string u.Name), k, t])] w (.bool r) := by
 refine cG 18 func205 rfl (fun b => sg ?_)
 obtain ⟨T, Z, rfl⟩ := j.form
 obtain ⟨J, K, rfl⟩ := c.form
 refine VE (kH b rfl (fun W6 Y b => Wa (lr (Wf vA (VB b Mh rfl rfl gE (V (lf du rfl j) (Wi rfl (Wm (LJ hm (fun I E W => ∃ U, ST false kQ w W (hp w) ((Y, Ol (C8 u.Name T u.jV.length Z J u.kx.length K) 110) :: U) ∧ E 1 = (.pointer (some ⟨Y, 0, none⟩)) ∧ E 2 = (.bool false) ∧ E 12 = (.bool I)) 5 ?_ (fun I y B => ?_))))))))))
 ·rintro x8 E W ⟨U, b, d, G, a2⟩ M
  refine Wh a2 (LJ M (fun H E W => ∃ D, ST false kQ w W (hp w) D ∧ E 2 = (.bool false) ∧ E 17 = (.bool H)) 4 ?_ (fun H i z => ?_))
  ·rintro v E W ⟨D, b, s, a3⟩ N
   exact Wg a3 (lt (rQ N b))
  refine bC i (fun a i => ?_) (fun a i => ?_)
  ·refine un a (un a (un a (V (kd (cB a) rfl) ?_)))
   obtain rfl := sj i
   exact z _ _ ⟨_, (b.jE (Db St)), G, rfl⟩
  refine ug a (jM AS d) (ug a (jG rfl (jS b.has Mh rfl isAgg108)) (bS i fun a9 Q i => rl a (Eg b call210 (yS (.slice J u.kx.length K) u.kx (.func (.func 297) #[] #[]) (fun (x : ml) => uO x) _ _ (c.mono mz.mono b.jJ) ⟨297, #[], #[], rfl, call297, fun W x vs r A h hm => by obtain ⟨_, rfl, a4⟩ := h; obtain ⟨n, o, rfl, l, m⟩ := a4.out; exact (E1 x n o r W l m hm).lD⟩ Q) (fun q b => V (ke (cB a) rfl) ?_))))
  obtain rfl := sj i
  exact z _ _ ⟨_, (b.jE (Db St)), G, rfl⟩
 refine bC y (fun g y => ?_) (fun g y => ?_)
 ·refine un g (un g (un g (un g (V (kd (cB g) rfl) ?_))))
  obtain rfl := sj y
  exact B _ _ ⟨_, (b.jE St), rfl, rfl, rfl⟩
 refine ug g (jM AS rfl) (ug g (jG rfl (jS b.has Mh rfl isAgg108)) (ug g (lf cT rfl c) (ug g (kL rfl rfl rfl) (V (ke (cB g) rfl) ?_))))
 obtain rfl := sj y
 exact B _ _ ⟨_, (b.jE St), rfl, rfl, rfl⟩
theorem BB (T : Formula → Int → Option (Int × Int)) (n : ∀ (t : Formula) (j : Value) (I : Int) (r : (Int × Int)) (w : World) (g : Sl jC 5 (hp w) j t.Kids), T t I = some r → ki false Tryz.prog 308 [(.agg #[(.int .i64 t.Op), (.int .i64 t.K), (.string t.jB.jF), (.string t.jB.jK), j]), (.int .i64 I)] w (.tuple #[(.int .i64 r.1), (.int .i64 r.2)])) (t : Formula) (j : Value) (I : Int) (r : (Int × Int)) (w : World) (g : Sl jC 5 (hp w) j t.Kids) (hm : ue T t I = some r) :
  ki false Tryz.prog 308 [(.agg #[(.int .i64 t.Op), (.int .i64 t.K), (.string t.jB.jF), (.string t.jB.jK), j]), (.int .i64 I)] w (.tuple #[(.int .i64 r.1), (.int .i64 r.2)]) := by
 refine cG 40 func308 rfl (fun b => sg ?_)
 obtain ⟨A1, c2, rfl⟩ := g.form
 refine VE (kH b rfl (fun W4 P b => Wa (Wa (lr (Wa (Wa (lS (Wf qm ?_))))))))
 refine VB b Mh rfl rfl eO (V (lf aF rfl g) (Wm (ln ?_)))
 replace b := b.jE (Db St)
 refine CJ hm (fun Q E W => ∃ a2, ST false kQ w W (hp w) a2 ∧ E 6 = (.int .i64 Q.1) ∧ E 7 = (.int .i64 Q.2)) (fun Q a5 => ?_) ?_
 ·refine li (fun i E W => ∃ y z J, (E 15 = .int .i64 (i : Nat) ∧ E 14 = .int .i64 (t.Kids.length : Nat)) ∧ ST false kQ w W (hp w) J ∧ E 1 = (.int .i64 I) ∧ E 6 = (.int .i64 y) ∧ E 7 = (.int .i64 z) ∧ E 13 = (.slice A1 t.Kids.length c2) ∧ oJ I T (t.Kids.drop i) y z = some Q) t.Kids.length g.len ⟨1, 0, _, ⟨rfl, rfl⟩, (b.jE St), rfl, rfl, rfl, rfl, a5⟩ dc dc dc (fun _ _ _ h => by obtain ⟨_, _, _, l, _⟩ := h; exact l) ?_ ?_
  ·rintro F E W a3 ⟨y, z, J, ⟨d, m⟩, b, G, x, H, K, a⟩
   obtain ⟨c, c6, q, o, a9⟩ := kP a3
   rw [q] at a
   refine bg (VQ (mo (i := (F : Int)) (x0 := c) jC.out aF aC K d g (aJ _) o) (fun c4 ⟨_, ⟨c5, rfl, N⟩, Y⟩ => V (jG rfl (kl b.has Y aS aC)) (VE (kv b bD (fun R c3 b => ?_)))))
   obtain ⟨B, D, rfl⟩ := N.form
   let a0 := (C1 c.Op c.K c.jB.jF c.jB.jK B c.Kids.length D)
   refine VO (jY (.agg a0.toArray) (a0.toArray) b rfl rfl aC oc nb rfl (fun c0 b => lS (Wh x (Wh G (Wi rfl (ln (CI a rfl (fun U a => ?_) (fun U a => ?_))))))))
   ·refine mZ (mI (O3 (by simp) (mI (rf (jQ ?_)))))
    obtain rfl := sj a
    exact ⟨_, (b.jE (Db St)), x, H⟩
   refine kg (VA b Mh a0 aS aC (Wh G (Wh x (Wi rfl (bS a fun M Z a => VE (Eg b call308 (n c (.slice B c.Kids.length D) (IntKind.i64.wrap (I - y)) _ _ (N.mono jT.mono b.jJ) Z) (fun c1 b => Wm (Wx rfl (Wx rfl (Wa (Wa ?_)))))))))))
   refine ln ?_
   replace b := b.jE (Db St)
   exact jW (Wh x (Wm (Wi rfl (Wh H (Wm (V (OK (k := .i64) rfl rfl) (Wa (Wa (ky (kF (jQ ⟨d, (IntKind.i64.wrap (y + M.1)), (if M.2 > z then M.2 else z), _, ⟨rfl, m⟩, (b.jE St), G, rfl, rfl, K, (by rw [a9]; exact a)⟩)))))))))))
  rintro E W ⟨y, z, J, ⟨d, m⟩, b, G, x, H, K, a⟩
  rw [aP] at a
  refine jQ ?_
  obtain rfl := sj a
  exact ⟨_, (b.jE St), x, H⟩
 rintro ⟨L, O⟩ E W ⟨a2, b, s, A⟩ a4
 refine sg (Wh s (Wh A (Wi rfl (Wa (Wa (lt ?_))))))
 obtain rfl := sj a4
 exact Dd (v := (.int .i64 L)) (u := (.int .i64 (IntKind.i64.wrap (O + 1)))) rfl rfl rfl ⟨rfl, b.ex⟩
theorem zX : ∀ (n : Nat) (c : Formula) (a : Value) (i : Int) (r : (Int × Int)) (w : World) (g : Sl jC 5 (hp w) a c.Kids) (_ : nJ n c i = some r),
  ki false Tryz.prog 308 [(.agg #[(.int .i64 c.Op), (.int .i64 c.K), (.string c.jB.jF), (.string c.jB.jK), a]), (.int .i64 i)] w (.tuple #[(.int .i64 r.1), (.int .i64 r.2)])
 | 0 => by intros; rename_i h; simp only [nJ] at h; cases h
 | n + 1 => BB (nJ n) (zX n)
theorem Fx (a : Formula) (g : Value) (r : (Int × Int)) (w : World) (c : Sl jC 5 (hp w) g a.Kids) (hm : vC a = some r) :
  ki false Tryz.prog 214 [(.agg #[(.int .i64 a.Op), (.int .i64 a.K), (.string a.jB.jF), (.string a.jB.jK), g])] w (.tuple #[(.int .i64 r.1), (.int .i64 r.2)]) := by
 refine cG 15 func214 rfl (fun b => sg ?_)
 obtain ⟨i, j, rfl⟩ := c.form
 refine VE (kH b rfl (fun y B b => Wa (Wa (lr (VA b Mh (C1 a.Op a.K a.jB.jF a.jB.jK i a.Kids.length j) aS aC (bS hm fun x t hm => VE (Eg b call308 ((zX kC) a (.slice i a.Kids.length j) 4096 _ _ (c.mono jT.mono b.jJ) t) (fun z b => Wm (Wx rfl (Wx rfl (Wa (Wa ?_))))))))))))
 refine ln ?_
 replace b := b.jE (Db St)
 refine jX (sg (Wm (Wi rfl (ln (CI hm rfl (fun k hm => ?_) (fun k hm => ?_))))))
 ·refine sg (Wa (Wa (lt (kI ?_))))
  obtain rfl := sj hm
  exact Dd (v := (.int .i64 0)) (u := (.int .i64 0)) rfl rfl rfl ⟨rfl, b.ex⟩
 refine kg (Wm (Wm (Wa (Wa (lt ?_)))))
 obtain rfl := sj hm
 exact Dd (v := (.int .i64 x.1)) (u := (.int .i64 x.2)) rfl rfl rfl ⟨rfl, b.ex⟩
theorem pZ (i : jB) (r : Bool) (w : World) (hm : ob i = some r) :
  ki true Tryz.prog 254 [(.agg (jH i).toArray)] w (.bool r) := by
 refine cG 11 func254 rfl (fun b => sg (VE (kH b rfl (fun H J b => Wa (lr (Wf tO (VB b Mh rfl rfl bZ (bS hm fun K y hm => VE (Eg b iN (qk i.jF _ _  y) (fun I b => Wm (LJ hm (fun k E W => ∃ j, ST true kQ w W (hp w) j ∧ E 2 = (.bool false) ∧ E 10 = (.bool k)) 4 ?_ (fun k a g => ?_))))))))))))
 ·rintro G E W ⟨j, b, B, x⟩ t
  exact Wg x (lt (rQ t b))
 refine bC a (fun c a => ?_) (fun c a => ?_)
 ·refine ug c (jM vd rfl) (ug c (jG rfl (jS b.has Mh rfl bZ)) (bS a fun D u a => rl c (Eg b iN (qk i.jK _ _  u) (fun z b => V (kd (cB c) rfl) ?_))))
  obtain rfl := sj a
  exact g _ _ ⟨_, (b.jE (Db St)), rfl, rfl⟩
 refine un c (un c (un c (V (ke (cB c) rfl) ?_)))
 obtain rfl := sj a
 exact g _ _ ⟨_, (b.jE (Db St)), rfl, rfl⟩
theorem FQ (a : Formula) (H : Value) (r : Bool) (w : World) (t : Sl jC 5 (hp w) H a.Kids) (hm : vx a = some r) :
  ki true Tryz.prog 309 [(.agg #[(.int .i64 a.Op), (.int .i64 a.K), (.string a.jB.jF), (.string a.jB.jK), H])] w (.bool r) := by
 refine cG 63 func309 rfl (fun b => sg ?_)
 obtain ⟨A1, c2, rfl⟩ := t.form
 let l := (C1 a.Op a.K a.jB.jF a.jB.jK A1 a.Kids.length c2)
 refine VE (kH b rfl (fun W4 N b => Wa (lr (V (ma (v := (.agg (jH K0).toArray)) pK (ly eb dx (MU _ dx) kr)) (VE (kv b eb (fun W6 A b => VO (jY (.agg (jH K0).toArray) ((jH K0).toArray) b rfl rfl aI (pg K0) nb rfl (fun W7 b => lS (Wf rD ?_))))))))))
 refine VB b (Mt Mh) rfl rfl cL (ln (bg (Wi rfl (Wa (ln (CI hm rfl (fun d9 hm => ?_) (fun d9 hm => ?_)))))))
 ·refine sg (Wf vI (VA b (Mt Mh) (jH a.jB) bL aI (bS hm fun f7 e5 hm => VE (Eg b iO (pZ a.jB _ _  e5) (fun f5 b => Wm (LJ hm (fun d2 E W => ∃ O, ST true kQ w W (hp w) ((N, Ol l 113) :: O) ∧ E 1 = (.pointer (some ⟨N, 0, none⟩)) ∧ E 2 = (.bool false) ∧ E 17 = (.bool d2)) 5 ?_ (fun d2 J a4 => ?_)))))))
  ·rintro f8 E W ⟨O, b, e7, c9, e8⟩ e1
   refine Wh e8 (LJ e1 (fun d1 E W => ∃ P, ST true kQ w W (hp w) P ∧ E 2 = (.bool false) ∧ E 22 = (.bool d1)) 4 ?_ (fun d1 I a3 => ?_))
   ·rintro f9 E W ⟨P, b, f6, e9⟩ e2
    refine Wg e9 (lt (mn (kI ?_)))
    obtain rfl := sj e2
    exact rP b
   refine bC I (fun u I => ?_) (fun u I => ?_)
   ·refine ug u (jM vH e7) (ug u (jG rfl (jS b.has Mh rfl cL)) (ug u (kL rfl rfl rfl) (V (kd (cB u) rfl) ?_)))
    obtain rfl := sj I
    exact a3 _ _ ⟨_, (b.jE (Db St)), c9, rfl⟩
   refine un u (un u (un u (V (ke (cB u) rfl) ?_)))
   obtain rfl := sj I
   exact a3 _ _ ⟨_, (b.jE (Db St)), c9, rfl⟩
  refine bC J (fun j J => ?_) (fun j J => ?_)
  ·refine ug j (jM qm rfl) (ug j (jG rfl (jS b.has (Mt Mh) rfl eO)) (ug j (lf aF rfl t) (ug j (kL rfl rfl rfl) (V (kd (cB j) rfl) ?_))))
   obtain rfl := sj J
   exact a4 _ _ ⟨_, (b.jE (Db St)), rfl, rfl, rfl⟩
  refine un j (un j (un j (un j (V (ke (cB j) rfl) ?_))))
  obtain rfl := sj J
  exact a4 _ _ ⟨_, (b.jE (Db St)), rfl, rfl, rfl⟩
 let a0 := (l.toArray : Array Value)
 let d : Value := (.pointer (some ⟨N, 0, none⟩))
 refine jX (CJ hm (fun L E W => ∃ R, ST true kQ w W (hp w) ((A, Ol (jH K0) 28) :: ((N, Obj.cells a0 113 (0, 0)) :: R)) ∧ E 1 = d ∧ E 3 = (.pointer (some ⟨A, 0, none⟩)) ∧ E 23 = (.bool L)) (fun L G => ?_) ?_)
 ·refine sg (Wi rfl (Wa (ln (CI G rfl (fun b9 G => ?_) (fun b9 G => ?_)))))
  ·refine kn ?_
   obtain rfl := sj G
   exact ⟨_, (b.jE St), rfl, rfl, rfl⟩
  refine jW (Wi rfl (Wa (ln ?_)))
  obtain rfl := sj G
  exact ⟨_, (b.jE St), rfl, rfl, rfl⟩
 rintro g0 E W ⟨R, b, Q, d0, f0⟩ K
 refine CI K f0 (fun e0 K => ?_) (fun e0 K => ?_)
 ·refine sg (V (jM vI Q) (VA b (Mt Mh) (jH a.jB) bL aI (V (jG d0 (jO b.has Mh (jH K0) rfl bL aI)) (V (xg rfl rfl (oQ fQ) (tR (tk _ a.jB K0))) (Wm (LJ K (fun d3 E W => ∃ c7, ST true kQ w W (hp w) c7 ∧ E 34 = (.bool d3)) 4 ?_ (fun d3 M a5 => ?_)))))))
  ·rintro g1 E W ⟨c7, b, f1⟩ e3
   refine Wg f1 (lt (mn (kI ?_)))
   obtain rfl := sj e3
   exact rP b
  refine bC M (fun x M => ?_) (fun x M => ?_)
  ·refine ug x (jM vH Q) (ug x (jG rfl (jS b.has (Mt Mh) rfl cL)) (ug x (kL rfl rfl rfl) (V (kd (cB x) rfl) ?_)))
   obtain rfl := sj M
   exact a5 _ _ ⟨_, (b.jE (Db (Db St))), rfl⟩
  refine un x (un x (un x (V (ke (cB x) rfl) ?_)))
  obtain rfl := sj M
  exact a5 _ _ ⟨_, (b.jE (Db (Db St))), rfl⟩
 refine ll (kF (jQ (sg (V (jM rD Q) (VB b (Mt Mh) rfl rfl cL (Wi rfl (Wm (LJ K (fun F E W => ∃ c8, ST true kQ w W (hp w) ((N, Obj.cells a0 113 (0, 0)) :: c8) ∧ E 1 = d ∧ E 43 = (.bool F)) 5 ?_ (fun F D h => ?_)))))))))
 ·rintro g2 E W ⟨c8, b, a2, d4⟩ e4
  refine Wh d4 (LJ e4 (fun s E W => ∃ m, ST true kQ w W (hp w) ((N, Obj.cells a0 113 (0, 0)) :: m) ∧ E 1 = d ∧ E 48 = (.bool s)) 4 ?_ (fun s B Z => ?_))
  ·rintro f2 E W ⟨m, b, T, d5⟩ c0
   refine Wh d5 (LJ c0 (fun q E W => ∃ a9, ST true kQ w W (hp w) ((N, Obj.cells a0 113 (0, 0)) :: a9) ∧ E 1 = d ∧ E 56 = (.bool q)) 7 ?_ (fun q z Y => ?_))
   ·rintro f3 E W ⟨a9, b, d6, d7⟩ c1
    refine Wh d7 (LJ c1 (fun o E W => ∃ n, ST true kQ w W (hp w) n ∧ E 62 = (.bool o)) 5 ?_ (fun o y U => ?_))
    ·rintro f4 E W ⟨n, b, d8⟩ c3
     exact Wg d8 (lt (rQ c3 b))
    refine bC y (fun g y => ?_) (fun g y => ?_)
    ·refine ug g (jM qm d6) (ug g (jG rfl (jS b.has Mh rfl eO)) (ug g (lf aF rfl t) (ug g (kL rfl rfl rfl) (V (kd (cB g) rfl) ?_))))
     obtain rfl := sj y
     exact U _ _ ⟨_, (b.jE (Db St)), rfl⟩
    refine un g (un g (un g (un g (V (ke (cB g) rfl) ?_))))
    obtain rfl := sj y
    exact U _ _ ⟨_, (b.jE (Db St)), rfl⟩
   refine bC z (fun c z => ?_) (fun c z => ?_)
   ·refine ug c (jM vH T) (ug c (jG rfl (jS b.has Mh rfl cL)) (ug c (jM qm T) (ug c (jG rfl (jS b.has Mh rfl eO)) (ug c (lf aF rfl t) (ug c (kL rfl rfl rfl) (V (kd (cB c) rfl) ?_))))))
    obtain rfl := sj z
    exact Y _ _ ⟨_, (b.jE St), T, rfl⟩
   refine un c (un c (un c (un c (un c (un c (V (ke (cB c) rfl) ?_))))))
   obtain rfl := sj z
   exact Y _ _ ⟨_, (b.jE St), T, rfl⟩
  refine bC B (fun i B => ?_) (fun i B => ?_)
  ·refine ug i (jM vH a2) (ug i (jG rfl (jS b.has Mh rfl cL)) (ug i (kL rfl rfl rfl) (V (kd (cB i) rfl) ?_)))
   obtain rfl := sj B
   exact Z _ _ ⟨_, (b.jE St), a2, rfl⟩
  refine un i (un i (un i (V (ke (cB i) rfl) ?_)))
  obtain rfl := sj B
  exact Z _ _ ⟨_, (b.jE St), a2, rfl⟩
 refine bC D (fun k D => ?_) (fun k D => ?_)
 ·refine ug k (jM vI Q) (ug k (jG rfl (jO b.has (Mt Mh) (jH a.jB) rfl bL aI)) (ug k (jG d0 (jO b.has Mh (jH K0) rfl bL aI)) (ug k (xg rfl rfl (oQ fQ) (tR (tk _ a.jB K0))) (V (kd (cB k) rfl) ?_))))
  obtain rfl := sj D
  exact h _ _ ⟨_, (b.jE (Db St)), Q, rfl⟩
 refine un k (un k (un k (un k (V (ke (cB k) rfl) ?_))))
 obtain rfl := sj D
 exact h _ _ ⟨_, (b.jE (Db St)), Q, rfl⟩
theorem yu (g : Value) (t : List Formula) (j : Value) (z : Formula → Option Bool) (r : Int) (w : World) (c : Sl jC 5 (hp w) g t) (B : uK Tryz.prog j (hp w) (xM jC) (fun (r : Bool) => (.bool r)) z) (hm : rG t z = some r) :
  ki false Tryz.prog 352 [g, j] w (.int .i64 r) := by
 refine cG 19 func352 rfl (fun b => sg (Wa (lS (Wm (V (lf aF rfl c) (Wm (ln (li (fun i E W => ∃ k, (E 8 = .int .i64 (i : Nat) ∧ E 7 = .int .i64 (t.length : Nat)) ∧ ST false kQ w W (hp w) k ∧ E 0 = g ∧ E 1 = j ∧ mN z (t.drop i) i = some r) t.length c.len ⟨_, ⟨rfl, rfl⟩, (b.jE St), rfl, rfl, hm⟩ dc dc dc (fun _ _ _ h => by obtain ⟨_, l, _⟩ := h; exact l) ?_ ?_))))))))
 ·rintro Q E W G ⟨k, ⟨d, m⟩, b, u, x, a⟩
  obtain ⟨y, U, M, K, N⟩ := kP G
  rw [M] at a
  refine bg (Wh d (Wa (lr (Wh x (Wh u (Wm (VQ (mo (i := (Q : Int)) (x0 := y) jC.out aF aC rfl rfl c (aJ _) K) (fun Z ⟨_, ⟨T, rfl, J⟩, H⟩ => V (jG rfl (kl b.has H aS aC)) (bS a fun n I a => ?_)))))))))
  refine VE (wu y b B (kf.refl _) (xM.mk jT (jC.mk ⟨T, rfl, J⟩) b.jJ) rfl (tD rfl) I (fun Y b => ln (CI a rfl (fun D a => ?_) (fun D a => ?_))))
  ·refine sg (Wm (Wa (lt (mn (kI (mn (kI ?_)))))))
   obtain rfl := sj a
   exact rP b
  exact ll (kF (jQ ⟨d, _, ⟨rfl, m⟩, (b.jE St), u, x, (by rw [N]; exact a)⟩))
 rintro E W ⟨k, ⟨d, m⟩, b, u, x, a⟩
 rw [aP] at a
 exact jQ (sg (Wa (lt (rQ a b))))
theorem tq (a : Value) (g : List Formula) (c : Value) (i : Formula → Option Bool) (r : Bool) (w : World) (j : Sl jC 5 (hp w) a g) (k : uK Tryz.prog c (hp w) (xM jC) (fun (r : Bool) => (.bool r)) i) (hm : nu g i = some r) :
  ki false Tryz.prog 310 [a, c] w (.bool r) := by
 refine cG 9 func310 rfl (fun b => sg (Wa (lr (Wm (Wm (bS hm fun x t hm => VE (Eg b call352 (yu a g c i _ _ (j.mono jT.mono b.jJ) (k.mono b.jJ) t) (fun u b => Wi rfl (Wa (ky ?_))))))))))
 exact jQ (kB (rQ hm b))
theorem Ck (i : Formula → Option Bool) (t : ∀ (c : Formula) (a : Value) (r : Bool) (w : World) (g : Sl jC 5 (hp w) a c.Kids), i c = some r → ki false Tryz.prog 215 [(.agg #[(.int .i64 c.Op), (.int .i64 c.K), (.string c.jB.jF), (.string c.jB.jK), a])] w (.bool r)) (c : Formula) (a : Value) (r : Bool) (w : World) (g : Sl jC 5 (hp w) a c.Kids) (hm : sR i c = some r) :
  ki false Tryz.prog 311 [(.agg #[(.int .i64 c.Op), (.int .i64 c.K), (.string c.jB.jF), (.string c.jB.jK), a])] w (.bool r) := by
 refine cG 6 func311 rfl (fun b => sg ?_)
 obtain ⟨j, k, rfl⟩ := g.form
 refine VE (kH b rfl (fun x z b => Wa (lr (VA b Mh (C1 c.Op c.K c.jB.jF c.jB.jK j c.Kids.length k) aS aC (bS hm fun B u hm => VE (Eg b call215 (t c (.slice j c.Kids.length k) _ _ (g.mono jT.mono b.jJ) u) (fun y b => V (mC rfl) (Wa (ln ?_)))))))))
 exact kB (rQ hm b)
theorem BJ (z : Formula → Option Bool) (T : ∀ (a : Formula) (g : Value) (r : Bool) (w : World) (c : Sl jC 5 (hp w) g a.Kids), z a = some r → ki false Tryz.prog 215 [(.agg #[(.int .i64 a.Op), (.int .i64 a.K), (.string a.jB.jF), (.string a.jB.jK), g])] w (.bool r)) (a : Formula) (g : Value) (r : Bool) (w : World) (c : Sl jC 5 (hp w) g a.Kids) (hm : ul z a = some r) :
  ki false Tryz.prog 215 [(.agg #[(.int .i64 a.Op), (.int .i64 a.K), (.string a.jB.jF), (.string a.jB.jK), g])] w (.bool r) := by
 refine cG 17 func215 rfl (fun b => sg ?_)
 obtain ⟨B, D, rfl⟩ := c.form
 let a0 := (C1 a.Op a.K a.jB.jF a.jB.jK B a.Kids.length D)
 refine VE (kH b rfl (fun W4 U b => Wa (lr (VA b Mh a0 aS aC (bS hm fun v a3 hm => VE (Eg b call309 (ki.lD (FQ a (.slice B a.Kids.length D) _ _ (c.mono jT.mono b.jJ) a3)) (fun W7 b => Wm (LJ hm (fun K E W => ∃ G, ST false kQ w W (hp w) ((U, Ol a0 113) :: G) ∧ E 1 = (.pointer (some ⟨U, 0, none⟩)) ∧ E 2 = (.bool false) ∧ E 10 = (.bool K)) 5 ?_ (fun K t y => ?_)))))))))
 ·rintro A E W ⟨G, b, Y, I, Z⟩ M
  refine Wh Z (LJ M (fun J E W => ∃ H, ST false kQ w W (hp w) H ∧ E 2 = (.bool false) ∧ E 16 = (.bool J)) 5 ?_ (fun J k u => ?_))
  ·rintro q E W ⟨H, b, n, d⟩ N
   exact Wg d (lt (rQ N b))
  refine bC k (fun i k => ?_) (fun i k => ?_)
  ·refine ug i (jM qm Y) (ug i (jG rfl (jS b.has Mh rfl eO)) (bS k fun o Q k => rl i (Eg b call310 (tq (.slice B a.Kids.length D) a.Kids (.func (.func 311) #[] #[]) (fun (x : Formula) => sR z x) _ _ (c.mono jT.mono b.jJ) ⟨311, #[], #[], rfl, call311, fun W x vs r s h hm => by obtain ⟨_, rfl, a2⟩ := h; obtain ⟨m, rfl, l⟩ := a2.out; exact Ck z T x m r W l hm⟩ Q) (fun a5 b => ug i (mC rfl) (V (kd (cB i) rfl) ?_)))))
   obtain rfl := sj k
   exact u _ _ ⟨_, (b.jE (Db St)), I, rfl⟩
  refine un i (un i (un i (un i (V (ke (cB i) rfl) ?_))))
  obtain rfl := sj k
  exact u _ _ ⟨_, (b.jE (Db St)), I, rfl⟩
 refine bC t (fun j t => ?_) (fun j t => ?_)
 ·refine ug j (jM qm rfl) (ug j (jG rfl (jS b.has Mh rfl eO)) (ug j (lf aF rfl c) (ug j (kL rfl rfl rfl) (V (kd (cB j) rfl) ?_))))
  obtain rfl := sj t
  exact y _ _ ⟨_, (b.jE St), rfl, rfl, rfl⟩
 refine un j (un j (un j (un j (V (ke (cB j) rfl) ?_))))
 obtain rfl := sj t
 exact y _ _ ⟨_, (b.jE St), rfl, rfl, rfl⟩
theorem Aj : ∀ (n : Nat) (c : Formula) (a : Value) (r : Bool) (w : World) (g : Sl jC 5 (hp w) a c.Kids) (_ : qb n c = some r),
  ki false Tryz.prog 215 [(.agg #[(.int .i64 c.Op), (.int .i64 c.K), (.string c.jB.jF), (.string c.jB.jK), a])] w (.bool r)
 | 0 => by intros; rename_i h; simp only [qb] at h; cases h
 | n + 1 => BJ (qb n) (Aj n)
theorem rr (a : Formula) (k : Value) (r : Bool) (w : World) (c : Sl jC 5 (hp w) k a.Kids) (hm : ov a = some r) :
  ki false Tryz.prog 107 [(.agg #[(.int .i64 a.Op), (.int .i64 a.K), (.string a.jB.jF), (.string a.jB.jK), k])] w (.bool r) := by
 refine cG 24 func107 rfl (fun b => sg ?_)
 obtain ⟨y, z, rfl⟩ := c.form
 let a0 := (C1 a.Op a.K a.jB.jF a.jB.jK y a.Kids.length z)
 refine VE (kH b rfl (fun W4 H b => Wa (lr (VA b Mh a0 aS aC (bS hm fun n a9 hm => VE (Eg b call214 (Fx a (.slice y a.Kids.length z) _ _ (c.mono jT.mono b.jJ) a9) (fun W7 b => Wm (Wx rfl (Wx rfl (Wa (Wa (ky ?_))))))))))))
 refine jQ (sg (Wm (Wi rfl (Wm (LJ hm (fun Y E W => ∃ I, ST false kQ w W (hp w) ((H, Ol a0 113) :: I) ∧ E 1 = (.pointer (some ⟨H, 0, none⟩)) ∧ E 2 = (.bool false) ∧ E 4 = (.int .i64 n.2) ∧ E 15 = (.bool Y)) 3 ?_ (fun Y x G => ?_))))))
 ·rintro F E W ⟨I, b, M, N, a4, a5⟩ Z
  refine Wh a5 (LJ Z (fun U E W => ∃ J, ST false kQ w W (hp w) ((H, Ol a0 113) :: J) ∧ E 1 = (.pointer (some ⟨H, 0, none⟩)) ∧ E 2 = (.bool false) ∧ E 19 = (.bool U)) 3 ?_ (fun U u D => ?_))
  ·rintro v E W ⟨J, b, h, Q, l⟩ d
   refine Wh l (LJ d (fun T E W => ∃ K, ST false kQ w W (hp w) K ∧ E 2 = (.bool false) ∧ E 23 = (.bool T)) 3 ?_ (fun T j B => ?_))
   ·rintro A E W ⟨K, b, q, m⟩ a2
    exact Wg m (lt (rQ a2 b))
   refine bC j (fun i j => ?_) (fun i j => ?_)
   ·refine ug i (jG h (jO b.has Mh a0 rfl aS aC)) (bS j fun s a3 j => rl i (Eg b call215 ((Aj kC) a (.slice y a.Kids.length z) _ _ (c.mono jT.mono b.jJ) a3) (fun o b => V (kd (cB i) rfl) ?_)))
    obtain rfl := sj j
    exact B _ _ ⟨_, (b.jE (Db St)), Q, rfl⟩
   refine un i (un i (V (ke (cB i) rfl) ?_))
   obtain rfl := sj j
   exact B _ _ ⟨_, (b.jE (Db St)), Q, rfl⟩
  refine bC u (fun g u => ?_) (fun g u => ?_)
  ·refine ug g (jN a4) (ug g (kL rfl rfl rfl) (V (kd (cB g) rfl) ?_))
   obtain rfl := sj u
   exact D _ _ ⟨_, (b.jE St), M, N, rfl⟩
  refine un g (un g (V (ke (cB g) rfl) ?_))
  obtain rfl := sj u
  exact D _ _ ⟨_, (b.jE St), M, N, rfl⟩
 refine bC x (fun t x => ?_) (fun t x => ?_)
 ·refine ug t (jN rfl) (ug t (kL rfl rfl rfl) (V (kd (cB t) rfl) ?_))
  obtain rfl := sj x
  exact G _ _ ⟨_, (b.jE St), rfl, rfl, rfl, rfl⟩
 refine un t (un t (V (ke (cB t) rfl) ?_))
 obtain rfl := sj x
 exact G _ _ ⟨_, (b.jE St), rfl, rfl, rfl, rfl⟩
theorem Cf (g : Value) (i r : List jA) (w : World) (a : Sl (Pl jD) 9 (hp w) g i) (hm : qE i = some r) :
  mw true Tryz.prog 228 [g] w 53 jD 9 r := by
 unfold qE at hm
 refine wX 8 func228 rfl (fun b => sg (Wa (lS (Wm ?_))))
 obtain ⟨y, B, rfl⟩ := a.form
 refine V (wT aG rfl rfl) (ln ?_)
 rcases y with _ | z
 ·have u := a.isNil
  replace hm : some [] = some r := by rw [u] at hm; simpa [mG, maxLen] using hm
  refine sV (rfl) (sg (Wa (lt (kI ?_))))
  obtain rfl := sj hm
  exact lq (v := (.slice none 0 0)) rfl rfl ⟨_, [], rfl, b.nQ (fun p d => by cases d) (by simp), kk.nil _ _ _⟩
 ·refine oS (rfl) (kg (VE (kJ (cs := #[]) b pK (wS [] aG aH cX dc rfl (by simp) rfl rfl) (fun G k b => Wm (bS hm fun H t hm => VE (oq (enc := jD) (v := (.slice (some ⟨k, 0, none⟩) 0 0)) (vs := (.slice (some z) i.length B)) (R := [(k, Ob #[] 53)]) b lm dc nF aG mP.1 mP.2.1 rfl mP.2.2.1 mP.2.2.2 rfl rfl (kk.lit (l := []) (enc := jD) rfl dc rfl rfl) (a.mono (Pl.mono _) b.jJ) t (fun D x j b c => Wa (lt ?_))))))))
  obtain rfl := sj hm
  exact lq (v := x) rfl rfl ⟨_, j, rfl, b.nQ (fun p d => (Ml d)) c.nd, c⟩
theorem vN (g : Value) (t : List jA) (j : Value) (B : jA → Option Bool) (r : Int) (w : World) (c : Sl (Pl jD) 9 (hp w) g t) (D : wL Tryz.prog j (hp w) (fun (x : jA) => [(.agg (jD x).toArray)]) (fun (r : Bool) => (.bool r)) B) (hm : oX t B = some r) :
  ki false Tryz.prog 260 [g, j] w (.int .i64 r) := by
 refine cG 19 func260 rfl (fun b => sg (Wa (lS (Wm (V (lf aG rfl c) (Wm (ln (li (fun i E W => ∃ k, (E 8 = .int .i64 (i : Nat) ∧ E 7 = .int .i64 (t.length : Nat)) ∧ ST false kQ w W (hp w) k ∧ E 0 = g ∧ E 1 = j ∧ oe B (t.drop i) i = some r) t.length c.len ⟨_, ⟨rfl, rfl⟩, (b.jE St), rfl, rfl, hm⟩ dc dc dc (fun _ _ _ h => by obtain ⟨_, l, _⟩ := h; exact l) ?_ ?_))))))))
 ·rintro Q E W H ⟨k, ⟨d, m⟩, b, u, y, a⟩
  obtain ⟨z, T, M, K, N⟩ := kP H
  rw [M] at a
  refine bg (Wh d (Wa (lr (Wh y (Wh u (Wm (VQ (ot (enc := jD) (i := (Q : Int)) (x0 := z) aG aH rfl rfl c (aJ _) K) (fun Y I => V (jG rfl (kl b.has I bR aH)) (bS a fun Z J a => ?_)))))))))
  refine VE (Hl z b D (kf.refl _) rfl (tD rfl) J (fun U b => ln (CI a rfl (fun G a => ?_) (fun G a => ?_))))
  ·refine sg (Wm (Wa (lt (mn (kI (mn (kI ?_)))))))
   obtain rfl := sj a
   exact rP b
  exact ll (kF (jQ ⟨d, _, ⟨rfl, m⟩, (b.jE St), u, y, (by rw [N]; exact a)⟩))
 rintro E W ⟨k, ⟨d, m⟩, b, u, y, a⟩
 rw [aP] at a
 exact jQ (sg (Wa (lt (rQ a b))))
theorem uZ (j : Value) (a0 : List jA) (t : LO) (H : Value) (f1 : jA → Option Bool) (r : List jA) (w : World) {μ0 : km} (h0 : ni μ0 (t ++ []) w) (T : kk 53 jD 9 j a0 t) (a4 : wL Tryz.prog H μ0 (fun (x : jA) => [(.agg (jD x).toArray)]) (fun (r : Bool) => (.bool r)) f1) (hm : oM a0 f1 = some r) :
  lC false Tryz.prog 143 [j, H] w (t ++ []) (fun v L1 W' => ∃ q S2, v = q ∧ L1 = (S2 ++ []) ∧ kk 53 jD 9 q r S2) := by
 refine yl h0 42 func143 rfl (fun d => sg (Wa (lr (Wm (Wm (bS hm fun n d3 hm => VE (Eg d call260 (vN j a0 H f1 _ _ (T.sl lm (fun b o h => d.at_ (Ml h))) (a4.mono d.jJ) d3) (fun W3 d => Wa (ln ?_)))))))))
 refine jX (sg (Wm (Wi rfl (ln (CI hm rfl (fun d2 hm => ?_) (fun d2 hm => ?_))))))
 ·refine sg (Wm (Wa (lt (kI ?_))))
  obtain rfl := sj hm
  exact lq (v := j) rfl rfl ⟨_, _, rfl, (d.mg (Kr Sn)), j, t, rfl, rfl, T⟩
 refine kS (Wm (Wi rfl (Wa (ln (lQ (np (fun m E W => ∃ U I B D a2, ST false (keys (t ++ [])) w W μ0 (I ++ a2) ∧ E 0 = j ∧ E 1 = H ∧ E 5 = (.int .i64 B) ∧ E 6 = (.int .i64 D) ∧ kk 53 jD 9 j U I ∧ mX f1 m U B D = some r) kC ⟨a0, t, n, (IntKind.i64.wrap (n + 1)), _, (d.jE St), rfl, rfl, rfl, rfl, T, hm⟩ ?_))))))
 rintro m E W ⟨U, I, B, D, a2, d, y, Q, G, K, g, a⟩
 cases m with
 | zero => rw [mX] at a; cases a
 | succ c8 =>
  refine jX (sg (Wh K (Wh y (V (qV aG rfl g) (Wi rfl (ln (CI a rfl (fun A a => ?_) (fun A a => ?_))))))))
  ·refine kn (jX (CJ a (fun Y E W => ∃ J a3, ST false (keys (t ++ [])) w W μ0 (J ++ a3) ∧ E 0 = j ∧ E 1 = H ∧ E 5 = (.int .i64 Y.2) ∧ E 6 = (.int .i64 D) ∧ kk 53 jD 9 j Y.1 J) (fun Y c => ?_) ?_))
   ·refine bg (Wh y (Wh K (bS c fun k M c => VQ (nz (i := D) (x0 := k) aG aH rfl rfl g (kj M) (kh M)) (fun e4 O => V (jG rfl (pB d.has (fun p h => (Ml h)) g lm O (kh M) bR aH)) (VE (kv d cX (fun d7 e2 d => VO (jY (.agg (jD k).toArray) ((jD k).toArray) d rfl rfl aH (nF k) nb rfl (fun d8 d => lr (Wh Q ?_))))))))))
    refine VA d Mh (jD k) bR aH (bS c fun e6 R c => VE (Hl k d a4 (kf.refl _) rfl (tD rfl) R (fun d9 d => V (mC rfl) (ln (CI c rfl (fun F c => ?_) (fun F c => ?_))))))
    ·refine sg (Wh y (Wh G (VA d Mh (jD k) bR aH (bS c fun d0 N c => VQ (nz (i := B) (x0 := d0) aG aH rfl rfl g (kj N) (kh N)) (fun e5 P => ?_)))))
     replace d := d.perm (Nr (Qb Qz) Nz)
     refine VO (xq (u := (.agg (jD k).toArray)) (x1 := k)  d g lm nF rfl rfl rfl P (kh N) aH (fun e0 c1 d s => ln ?_))
     replace d := d.jE (Kr (Db St))
     refine jW (Wh G (Wi rfl (Wa (ky (kF (jQ ?_))))))
     obtain rfl := sj c
     exact ⟨c1, _, (d.jE St), y, Q, rfl, K, s⟩
    refine ll (kF (jQ ?_))
    obtain rfl := sj c
    exact ⟨I, _, (d.jE (Db St)), y, Q, G, K, g⟩
   rintro ⟨c7, c9⟩ E W ⟨J, a3, d, c3, c4, c5, c6, b6⟩ L
   exact jW (Wh c6 (Wi rfl (Wa (ln ⟨c8, bI _, c7, J, c9, (IntKind.i64.wrap (D + 1)), _, (d.jE St), c3, c4, c5, rfl, b6, L⟩))))
  refine mZ (mI (mI (rf (jQ (sg (Wh y (Wh G (bS a fun _ Z a => VQ (tg (i := B) aG aH rfl rfl g (rp Z) (ry Z)) (fun e7 b7 => VO (vY (z := K6)  d g lm nF aG cX b7 rfl rfl (fun e1 c2 d a9 => lr (Wh y ?_))))))))))))
  refine Wh G (bS a fun _ l a => VQ (vj (i := B) aG aH rfl rfl a9 lm (rp l) (ry l)) (fun a5 b9 => Wa (lt ?_)))
  obtain rfl := sj a
  exact lq (v := a5) rfl rfl ⟨_, _, rfl, (d.mg (Kr Sn)), a5, c2, rfl, rfl, b9⟩
theorem OC (w : World) (a b : ByteArray) : (callFunc 380 [Value.string a, .string b].toArray).run Tryz.prog w = .ok (.value (.int .i64 (oN a b))) w := M0 func380 (by kernel_rfl) (by kernel_rfl) (by kernel_rfl) (by kernel_rfl) a b w
theorem wG (a c : ByteArray) (r : Int) (w : World) (hm : mV a c = some r) :
  ki true Tryz.prog 330 [(.string a), (.string c)] w (.int .i64 r) := by
 exact cG 8 func330 rfl (fun b => sg (Wa (lr (Wm (Wm (VE (J0 (args := [(.string a), (.string c)]) (v := .int .i64 (oN a c)) rfl (by exact ua rfl rfl) (OC _ a c) (Wa (lt (rQ hm b))))))))))
theorem yI (a c : ByteArray) (r : Int) (w : World) (hm : pa a c = some r) :
  ki true Tryz.prog 239 [(.string a), (.string c)] w (.int .i64 r) := by
 refine cG 8 func239 rfl (fun b => sg (Wa (lr (Wm (Wm (bS hm fun j g hm => VE (Eg b call330 (wG a c _ _  g) (fun i b => Wa (ln ?_)))))))))
 exact kB (rQ hm b)
theorem Hj (g : Value) (t : List Int) (r : Int) (w : World) (c : Sl (Pl (kU .i64)) 1 (hp w) g t) (hm : tK t = some r) :
  ki true Tryz.prog 238 [g] w (.int .i64 r) := by
 refine cG 18 func238 rfl (fun b => sg (Wa (lr (Wa (lS (Wm ?_))))))
 refine V (lf underlying256 rfl c) (Wm (ln (li (fun i E W => ∃ k, (E 8 = .int .i64 (i : Nat) ∧ E 7 = .int .i64 (t.length : Nat)) ∧ ST true kQ w W (hp w) k ∧ E 3 = (.int .i64 0) ∧ E 6 = g ∧ rn (t.drop i) = some r) t.length c.len ⟨_, ⟨rfl, rfl⟩, (b.jE St), rfl, rfl, hm⟩ dc dc dc (fun _ _ _ h => by obtain ⟨_, l, _⟩ := h; exact l) ?_ ?_)))
 ·rintro J E W B ⟨k, ⟨d, m⟩, b, j, u, a⟩
  obtain ⟨x, K, H, G, I⟩ := kP B
  rw [H] at a
  refine bg (VQ (ot (enc := (kU .i64)) (i := (J : Int)) (x0 := x) underlying256 fH u d c (aJ _) G) (fun M D => V (jG rfl (qO b.has (y := (.int .i64 x)) D cL)) (Wa (lr (Wm (Wh j (Wi rfl (ln ?_))))))))
  refine CI a rfl (fun z a => ?_) (fun z a => ?_)
  ·refine sg (Wm (Wa (lt (mn (kI (mn (kI ?_)))))))
   obtain rfl := sj a
   exact rP b
  exact ll (kF (jQ ⟨d, _, ⟨rfl, m⟩, (b.jE St), j, u, (by rw [I]; exact a)⟩))
 rintro E W ⟨k, ⟨d, m⟩, b, j, u, a⟩
 rw [aP] at a
 exact jQ (sg (Wh j (Wa (lt (rQ a b)))))
theorem xO (g i : jB) (r : Int) (w : World) (hm : nc g i = some r) :
  ki true Tryz.prog 123 [(.agg (jH g).toArray), (.agg (jH i).toArray)] w (.int .i64 r) := by
 refine cG 17 func123 rfl (fun b => sg (VE (kH b rfl (fun G I b => VE (kH b rfl (fun H J b => Wa (ln (jX ?_))))))))
 replace b := b.drew
 have d := b.has.jE (Kb (Kb Sn))
 refine kM d ko (X 0 rfl d (jM tO rfl) (XH 1 rfl d (fun _ h => jG rfl (jS h (Mt Mh) rfl bZ)) (X 2 rfl d (jM tO rfl) (XH 3 rfl d (fun _ h => jG rfl (jS h Mh rfl bZ)) (X 5 rfl d (jM vd rfl) (XH 6 rfl d (fun _ h => jG rfl (jS h (Mt Mh) rfl bZ)) (X 7 rfl d (jM vd rfl) (XH 8 rfl d (fun _ h => jG rfl (jS h Mh rfl bZ)) (bS hm fun a j hm => XE 4 rfl (Eg b call239 (yI g.jF i.jF _ _  j) (fun x b => ?_)))))))))))
 have d := b.has.jE (Kb (Kb Sn))
 refine ⟨d, (bS hm fun c k hm => XE 9 rfl (Eg b call239 (yI g.jK i.jK _ _  k) (fun y b => ?_)))⟩
 have d := b.has.jE (Kb (Kb Sn))
 refine ⟨d, (XE 10 rfl (kJ (cs := #[(.int .i64 a), (.int .i64 c)]) b (qf rfl rfl) (na underlying256 fH zeroValue3) (fun z u b => ?_)))⟩
 have d := b.has.jE (Db (Kb (Kb Sn)))
 refine ⟨d, (bS hm fun D t hm => XE 11 rfl (Eg b call238 (Hj (.slice (some ⟨u, 0, none⟩) 2 2) ([a, c]) _ _ (Sl.lit (enc := (kU .i64)) (l := [a, c]) (fun _ => rfl) rfl nb rfl (b.at_ Mh)) t) (fun B b => ?_)))⟩
 have d := b.has.jE (Db (Kb (Kb Sn)))
 refine ⟨d, (X 12 rfl d (nU rfl) (kV kr (jQ ?_)))⟩
 exact kB (rQ hm b)
set_option maxHeartbeats 1000000 in
theorem uY (a : jA) (r : Bool) (w : World) (hm : rh a = some r) :
  ki true Tryz.prog 137 [(.agg (jD a).toArray)] w (.bool r) := by
 let m9 := (⟨a.Kind, a.Head, zS, a.B, a.C, zS⟩ : jA)
 let j2 := (⟨a.Kind, a.Head, zS, a.B, K0, a.kz⟩ : jA)
 let j1 : Value := (.agg (jH a.B).toArray)
 let g6 := ((jD (⟨a.Kind, a.Head, zS, a.B, K0, zS⟩ : jA)).toArray)
 let o := (⟨a.Kind, a.Head, zS, K0, K0, zS⟩ : jA)
 refine cG 98 func137 rfl (fun b => sg (VE (kH b rfl (fun W2 N b => Wa (lr (Wf xh (VB b Mh rfl rfl cL (Wf uo (VA b Mh (jH a.Head) bL aI (V (ma (v := (.agg (jD o).toArray)) (qf rfl rfl) (ly cX dD (Ox _ dD) kr)) (VE (kv b cX (fun W4 B b => ?_)))))))))))))
 refine VO (jY (.agg (jD o).toArray) ((jD o).toArray) b rfl rfl aH (nF o) nb rfl (fun W5 b => lr (Wf uo (VA b (Mt Mh) (jH a.Head) bL aI (bS hm fun n j4 hm => VE (Eg b iO (pZ a.Head _ _  j4) (fun W8 b => Wa (ln (jX (M5 hm (fun A E W => ∃ R, ST true kQ w W (hp w) ((B, Ol (jD A.2) 53) :: ((N, Ol (jD a) 53) :: R)) ∧ E 1 = (.pointer (some ⟨N, 0, none⟩)) ∧ E 3 = (.pointer (some ⟨B, 0, none⟩)) ∧ E 4 = (.bool A.1)) (fun A g Z => ?_) ?_))))))))))
 ·let g5 := ((jD m9).toArray : Array Value)
  let b8 := ((jD j2).toArray : Array Value)
  let m : Value := (.pointer (some ⟨B, 0, none⟩))
  let l : Value := (.pointer (some ⟨N, 0, none⟩))
  let a0 := ((jD a).toArray : Array Value)
  refine sg (Wf xh (VB b (Mt Mh) rfl rfl cL (ln (bg (Wi rfl (Wa (ln (CI g rfl (fun e5 g => ?_) (fun e5 g => ?_)))))))))
  ·replace b := b.drew
   have d := b.has.jE (Db (Kb Sn))
   refine kM d ko (X 0 rfl d (jM AG rfl) (XH 1 rfl d (fun _ h => jG rfl (jS h Mh rfl bZ)) (X 2 rfl d (jN rfl) (X 3 rfl d (jN rfl) (X 8 rfl d (jM AG rfl) (PJ g (fun d6 E W => ∃ b9, ST true kQ w W (hp w) ((B, Ol (jD o) 53) :: ((N, Obj.cells a0 53 (0, 0)) :: b9)) ∧ E 1 = l ∧ E 3 = m ∧ E 4 = (.bool n) ∧ E 18 = (.string a.kA) ∧ E 24 = (.bool d6) ∧ E 25 = (.pointer (some ⟨B, 3, none⟩))) (bm 11 511) 2 ?_ (fun d6 D a2 => ?_)))))))
   ·rintro m1 E W ⟨b9, b, h2, h3, k8, h4, h5, h6⟩ f1
    refine XO 9 rfl (jY (.string a.kA) ((jD (⟨a.Kind, a.Head, a.kA, K0, K0, zS⟩ : jA)).toArray) b h6 h4 fG (Ms a.kA) nb rfl (fun j5 b => ?_))
    have d := b.has.jE (Db (Kb Sn))
    refine ⟨d, (X 10 rfl d (nU h5) (kV kr (kF (jQ ?_))))⟩
    obtain rfl := sj f1
    exact ⟨_, rfl, _, (b.jE St), h2, h3, rfl⟩
   refine bC D (fun k D => ?_) (fun k D => ?_)
   ·refine Xg 4 rfl rfl (cB k) d (jM AG rfl) (ri 5 rfl rfl (cB k) d (fun _ h => jG rfl (jS h Mh rfl bZ)) (bS D fun l2 f9 D => xC 6 rfl rfl (cB k) (Eg b iN (qk a.kA _ _  f9) (fun j6 b => ?_))))
    have d := b.has.jE (Db (Kb Sn))
    refine ⟨d, (X 7 rfl d (kd (cB k) rfl) ?_)⟩
    obtain rfl := sj D
    refine lU kr (a2 _ _ ⟨_, (b.jE St), rfl, rfl, rfl, rfl, rfl, rfl⟩)
   refine Xn 4 rfl rfl (cB k) d (Xn 5 rfl rfl (cB k) d (Xn 6 rfl rfl (cB k) d (X 7 rfl d (ke (cB k) rfl) ?_)))
   obtain rfl := sj D
   refine lU kr (a2 _ _ ⟨_, (b.jE St), rfl, rfl, rfl, rfl, rfl, rfl⟩)
  refine sg (Wi rfl (Wa (ln (CI g rfl (fun e6 g => ?_) (fun e6 g => ?_)))))
  ·replace b := b.drew
   have d := b.has.jE (Db (Kb Sn))
   refine kM d ko (X 0 rfl d (jM pu rfl) (XH 1 rfl d (fun _ h => jG rfl (jO h Mh (jH a.B) rfl bL aI)) (X 2 rfl d (jN rfl) (X 3 rfl d (jN rfl) (X 8 rfl d (jM pu rfl) (PJ g (fun d7 E W => ∃ c0, ST true kQ w W (hp w) ((B, Ol (jD o) 53) :: ((N, Obj.cells a0 53 (0, 0)) :: c0)) ∧ E 1 = l ∧ E 3 = m ∧ E 4 = (.bool n) ∧ E 29 = j1 ∧ E 35 = (.bool d7) ∧ E 36 = (.pointer (some ⟨B, 4, none⟩))) (bm 11 511) 2 ?_ (fun d7 G a3 => ?_)))))))
   ·rintro m2 E W ⟨c0, b, h7, h8, k9, h9, i0, i1⟩ f2
    refine XO 9 rfl (jY j1 g6 b i1 h9 aI (pg a.B) nb rfl (fun j7 b => ?_))
    have d := b.has.jE (Db (Kb Sn))
    refine ⟨d, (X 10 rfl d (nU i0) (kV kr (kF (jQ ?_))))⟩
    obtain rfl := sj f2
    exact ⟨_, rfl, _, (b.jE St), h7, h8, rfl⟩
   refine bC G (fun t G => ?_) (fun t G => ?_)
   ·refine Xg 4 rfl rfl (cB t) d (jM pu rfl) (ri 5 rfl rfl (cB t) d (fun _ h => jG rfl (jO h Mh (jH a.B) rfl bL aI)) (bS G fun l3 g0 G => xC 6 rfl rfl (cB t) (Eg b iO (pZ a.B _ _  g0) (fun j8 b => ?_))))
    have d := b.has.jE (Db (Kb Sn))
    refine ⟨d, (X 7 rfl d (kd (cB t) rfl) ?_)⟩
    obtain rfl := sj G
    refine lU kr (a3 _ _ ⟨_, (b.jE St), rfl, rfl, rfl, rfl, rfl, rfl⟩)
   refine Xn 4 rfl rfl (cB t) d (Xn 5 rfl rfl (cB t) d (Xn 6 rfl rfl (cB t) d (X 7 rfl d (ke (cB t) rfl) ?_)))
   obtain rfl := sj G
   refine lU kr (a3 _ _ ⟨_, (b.jE St), rfl, rfl, rfl, rfl, rfl, rfl⟩)
  refine sg (Wi rfl (Wa (ln (CI g rfl (fun e7 g => ?_) (fun e7 g => ?_)))))
  ·refine jX ?_
   replace b := b.drew
   have d := b.has.jE (Db (Kb Sn))
   refine kM d ko (X 0 rfl d (jM pu rfl) (XH 1 rfl d (fun _ h => jG rfl (jO h Mh (jH a.B) rfl bL aI)) (X 2 rfl d (jM yg rfl) (XH 3 rfl d (fun _ h => jG rfl (jS h Mh rfl bZ)) (X 4 rfl d (jM pu rfl) (XO 5 rfl (jY j1 g6 b rfl rfl aI (pg a.B) nb rfl (fun j9 b => ?_))))))))
   have d := b.has.jE (Db (Kb Sn))
   refine ⟨d, (X 6 rfl d (jM yg rfl) (XO 7 rfl (jY (.string a.kz) ((jD j2).toArray) b rfl rfl fG (Ms a.kz) nb rfl (fun k0 b => ?_))))⟩
   have d := b.has.jE (Db (Kb Sn))
   refine ⟨d, (kV kr (jQ (jW (Wm (Wm (LJ g (fun e0 E W => ∃ c1, ST true kQ w W (hp w) ((B, Obj.cells b8 53 (0, 0)) :: ((N, Obj.cells a0 53 (0, 0)) :: c1)) ∧ E 1 = l ∧ E 3 = m ∧ E 4 = (.bool n) ∧ E 50 = (.bool e0)) 4 ?_ (fun e0 I L => ?_)))))))⟩
   ·rintro m3 E W ⟨c1, b, U, c7, c8, i2⟩ f3
    refine Wh i2 (LJ f3 (fun d9 E W => ∃ c2, ST true kQ w W (hp w) ((B, Obj.cells b8 53 (0, 0)) :: ((N, Obj.cells a0 53 (0, 0)) :: c2)) ∧ E 1 = l ∧ E 3 = m ∧ E 4 = (.bool n) ∧ E 59 = (.bool d9)) 8 ?_ (fun d9 T a5 => ?_))
    ·rintro m4 E W ⟨c2, b, q, c9, d0, i3⟩ f4
     refine Wh i3 (LJ f4 (fun d8 E W => ∃ c3, ST true kQ w W (hp w) ((B, Obj.cells b8 53 (0, 0)) :: ((N, Obj.cells a0 53 (0, 0)) :: c3)) ∧ E 1 = l ∧ E 3 = m ∧ E 4 = (.bool n) ∧ E 64 = (.bool d8)) 4 ?_ (fun d8 H a4 => ?_))
     ·rintro m5 E W ⟨c3, b, i4, i5, l0, i6⟩ f5
      refine Wg i6 (ky (kF (jQ ?_)))
      obtain rfl := sj f5
      exact ⟨_, rfl, _, (b.jE St), i4, i5, rfl⟩
     refine bC H (fun x H => ?_) (fun x H => ?_)
     ·refine ug x (jM yg q) (ug x (jG rfl (jS b.has (Mt Mh) rfl bZ)) (bS H fun l4 g1 H => rl x (Eg b iN (qk a.kz _ _  g1) (fun k1 b => V (kd (cB x) rfl) ?_))))
      obtain rfl := sj H
      exact a4 _ _ ⟨_, (b.jE St), q, c9, d0, rfl⟩
     refine un x (un x (un x (V (ke (cB x) rfl) ?_)))
     obtain rfl := sj H
     exact a4 _ _ ⟨_, (b.jE St), q, c9, d0, rfl⟩
    refine bC T (fun c T => ?_) (fun c T => ?_)
    ·refine ug c (jM pu U) (ug c (jM tO rfl) (ug c (jG rfl (jS b.has (Mt Mh) rfl bZ)) (ug c (jM uo U) (ug c (jM tO rfl) (ug c (jG rfl (jS b.has (Mt Mh) rfl bZ)) (ug c (JY rfl rfl rfl) (V (kd (cB c) rfl) ?_)))))))
     obtain rfl := sj T
     exact a5 _ _ ⟨_, (b.jE St), U, c7, c8, rfl⟩
    refine un c (un c (un c (un c (un c (un c (un c (V (ke (cB c) rfl) ?_)))))))
    obtain rfl := sj T
    exact a5 _ _ ⟨_, (b.jE St), U, c7, c8, rfl⟩
   refine bC I (fun u I => ?_) (fun u I => ?_)
   ·refine ug u (jM pu rfl) (ug u (jG rfl (jO b.has (Mt Mh) (jH a.B) rfl bL aI)) (bS I fun l5 g2 I => rl u (Eg b iO (pZ a.B _ _  g2) (fun k2 b => V (kd (cB u) rfl) ?_))))
    obtain rfl := sj I
    exact L _ _ ⟨_, (b.jE St), rfl, rfl, rfl, rfl⟩
   refine un u (un u (un u (V (ke (cB u) rfl) ?_)))
   obtain rfl := sj I
   exact L _ _ ⟨_, (b.jE St), rfl, rfl, rfl, rfl⟩
  refine sg (Wi rfl (Wa (ln (CI g rfl (fun e8 g => ?_) (fun e8 g => ?_)))))
  ·refine jX ?_
   replace b := b.drew
   have d := b.has.jE (Db (Kb Sn))
   refine kM d ko (X 0 rfl d (jM pu rfl) (XH 1 rfl d (fun _ h => jG rfl (jO h Mh (jH a.B) rfl bL aI)) (X 2 rfl d (jM xt rfl) (XH 3 rfl d (fun _ h => jG rfl (jO h Mh (jH a.C) rfl bL aI)) (X 4 rfl d (jM pu rfl) (XO 5 rfl (jY j1 g6 b rfl rfl aI (pg a.B) nb rfl (fun k3 b => ?_))))))))
   have d := b.has.jE (Db (Kb Sn))
   refine ⟨d, (X 6 rfl d (jM xt rfl) (XO 7 rfl (jY (.agg (jH a.C).toArray) ((jD m9).toArray) b rfl rfl aI (pg a.C) nb rfl (fun k4 b => ?_))))⟩
   have d := b.has.jE (Db (Kb Sn))
   refine ⟨d, (kV kr (jQ (jW (Wm (Wm (LJ g (fun e3 E W => ∃ c4, ST true kQ w W (hp w) ((B, Obj.cells g5 53 (0, 0)) :: ((N, Obj.cells a0 53 (0, 0)) :: c4)) ∧ E 1 = l ∧ E 3 = m ∧ E 4 = (.bool n) ∧ E 78 = (.bool e3)) 4 ?_ (fun e3 M a9 => ?_)))))))⟩
   ·rintro m6 E W ⟨c4, b, s, d1, d2, i7⟩ f6
    refine Wh i7 (LJ f6 (fun e2 E W => ∃ c5, ST true kQ w W (hp w) ((B, Obj.cells g5 53 (0, 0)) :: ((N, Obj.cells a0 53 (0, 0)) :: c5)) ∧ E 1 = l ∧ E 3 = m ∧ E 4 = (.bool n) ∧ E 83 = (.bool e2)) 4 ?_ (fun e2 K P => ?_))
    ·rintro m7 E W ⟨c5, b, Y, d3, d4, i8⟩ f7
     refine Wh i8 (LJ f7 (fun e1 E W => ∃ c6, ST true kQ w W (hp w) ((B, Obj.cells g5 53 (0, 0)) :: ((N, Obj.cells a0 53 (0, 0)) :: c6)) ∧ E 1 = l ∧ E 3 = m ∧ E 4 = (.bool n) ∧ E 91 = (.bool e1)) 7 ?_ (fun e1 J O => ?_))
     ·rintro m8 E W ⟨c6, b, i9, j0, l1, j3⟩ f8
      refine Wg j3 (ky (kF (jQ ?_)))
      obtain rfl := sj f8
      exact ⟨_, rfl, _, (b.jE St), i9, j0, rfl⟩
     refine bC J (fun i J => ?_) (fun i J => ?_)
     ·refine ug i (jM pu Y) (ug i (jG rfl (jO b.has (Mt Mh) (jH a.B) rfl bL aI)) (ug i (jM xt Y) (ug i (jG rfl (jO b.has (Mt Mh) (jH a.C) rfl bL aI)) (bS J fun l6 g3 J => rl i (Eg b call123 (xO a.B a.C _ _  g3) (fun k5 b => ug i (kL rfl rfl rfl) (V (kd (cB i) rfl) ?_)))))))
      obtain rfl := sj J
      exact O _ _ ⟨_, (b.jE St), Y, d3, d4, rfl⟩
     refine un i (un i (un i (un i (un i (un i (V (ke (cB i) rfl) ?_))))))
     obtain rfl := sj J
     exact O _ _ ⟨_, (b.jE St), Y, d3, d4, rfl⟩
    refine bC K (fun z K => ?_) (fun z K => ?_)
    ·refine ug z (jM xt s) (ug z (jG rfl (jO b.has (Mt Mh) (jH a.C) rfl bL aI)) (bS K fun l7 g4 K => rl z (Eg b iO (pZ a.C _ _  g4) (fun k6 b => V (kd (cB z) rfl) ?_))))
     obtain rfl := sj K
     exact P _ _ ⟨_, (b.jE St), s, d1, d2, rfl⟩
    refine un z (un z (un z (V (ke (cB z) rfl) ?_)))
    obtain rfl := sj K
    exact P _ _ ⟨_, (b.jE St), s, d1, d2, rfl⟩
   refine bC M (fun y M => ?_) (fun y M => ?_)
   ·refine ug y (jM pu rfl) (ug y (jG rfl (jO b.has (Mt Mh) (jH a.B) rfl bL aI)) (bS M fun l8 g7 M => rl y (Eg b iO (pZ a.B _ _  g7) (fun k7 b => V (kd (cB y) rfl) ?_))))
    obtain rfl := sj M
    exact a9 _ _ ⟨_, (b.jE St), rfl, rfl, rfl, rfl⟩
   refine un y (un y (un y (V (ke (cB y) rfl) ?_)))
   obtain rfl := sj M
   exact a9 _ _ ⟨_, (b.jE St), rfl, rfl, rfl, rfl⟩
  refine sg (Wa (ln ?_))
  replace b := b.jE (Db (Db St))
  refine kB (mn (kI ?_))
  obtain rfl := sj g
  replace Z : some false = some r := Z
  obtain rfl := sj Z
  exact rP b
 rintro ⟨l9, e4⟩ E W ⟨R, b, g8, g9, h0⟩ e9
 refine sg (Wh h0 (Wm (LJ e9 (fun d5 E W => ∃ b7, ST true kQ w W (hp w) b7 ∧ E 97 = (.bool d5)) 4 ?_ (fun d5 Q F => ?_))))
 ·rintro m0 E W ⟨b7, b, h1⟩ f0
  exact Wg h1 (lt (rQ f0 b))
 refine bC Q (fun j Q => ?_) (fun j Q => ?_)
 ·refine ug j (jG g9 (jO b.has Mh (jD e4) rfl bR aH)) (ug j (jG g8 (jO b.has (Mt Mh) (jD a) rfl bR aH)) (ug j (xg rfl rfl (oQ eG) (tR (tp _ e4 a))) (V (kd (cB j) rfl) ?_)))
  obtain rfl := sj Q
  exact F _ _ ⟨_, (b.jE (Db (Db St))), rfl⟩
 refine un j (un j (un j (V (ke (cB j) rfl) ?_)))
 obtain rfl := sj Q
 exact F _ _ ⟨_, (b.jE (Db (Db St))), rfl⟩
theorem GL (a : jA) (r : Bool) (w : World) (hm : wm a = some r) :
  ki true Tryz.prog 229 [(.agg (jD a).toArray)] w (.bool r) := by
 refine cG 6 func229 rfl (fun b => sg (VE (kH b rfl (fun g j b => Wa (lr (VA b Mh (jD a) bR aH (bS hm fun k c hm => VE (Eg b call137 (uY a _ _  c) (fun i b => V (mC rfl) (Wa (ky ?_)))))))))))
 refine jQ ?_
 exact kB (rQ hm b)
theorem JW (c : Value) (k : List jA) (a : LO) (g : Value) (t : (jA × jA) → Option Int) (r : List jA) (w : World) {y : km} (u : ni y (a ++ []) w) (i : kk 53 jD 9 c k a) (j : Pe Tryz.prog g y (fun (x : (jA × jA)) => [(.agg (jD x.1).toArray), (.agg (jD x.2).toArray)]) (fun (r : Int) => (.int .i64 r)) t) (hm : wE t k = some r) :
  lC true Tryz.prog 230 [c, g] w (a ++ []) (fun v z W' => ∃ S, v = (.tuple #[]) ∧ z = (S ++ []) ∧ kk 53 jD 9 c r S) := DM (P := Tryz.prog) (ρ := LF) O5 9 bR aH jD lm nF u.H u.S i j hm
theorem qF (t : Nat) (j : Value) (G : List Int) (i : LO) (h : Int) (r : (Bool × (List Int))) (w : World) {μ0 : km} (A : ni μ0 ((t, Ob #[j] 92) :: (i ++ [])) w) (y : kk 5 (kU .u8) 1 j G i) (hm : nx G h = some r) :
  lC true Tryz.prog 268 [(.pointer (some ⟨t, 0, none⟩)), (.int .i64 h)] w ((t, Ob #[j] 92) :: (i ++ [])) (fun v L1 W' => ∃ n S2, v = (.bool (r.1)) ∧ L1 = ((t, Ob #[n] 92) :: (S2 ++ [])) ∧ kk 5 (kU .u8) 1 n r.2 S2) := by
 refine yl A 38 func268 rfl (fun d => sg (Wa (lS (Wm (V (rS gj rfl rfl) (Wm (Vg rfl rfl (jN rfl) (Vg rfl rfl (kL rfl rfl rfl) (V (ke rfl rfl) ?_)))))))))
 refine ln (CI hm rfl (fun a9 hm => ?_) (fun a9 hm => ?_))
 ·refine sg (Wa (lt (kI ?_)))
  obtain rfl := sj hm
  exact lq (v := (.bool false)) rfl rfl ⟨_, _, rfl, (d.mg (Kb (Kr Sn))), j, i, rfl, rfl, y⟩
 refine kn (jX (lQ (np (fun m E W => ∃ c z U u a0, ST true (keys ((t, Ob #[j] 92) :: (i ++ []))) w W μ0 ((t, Ob #[z] 92) :: (u ++ a0)) ∧ E 0 = (.pointer (some ⟨t, 0, none⟩)) ∧ E 1 = (.int .i64 c) ∧ kk 5 (kU .u8) 1 z U u ∧ pv m c U = some r) kC ⟨h, j, G, i, _, (d.jE St), rfl, rfl, y, hm⟩ ?_)))
 rintro m E W ⟨c, z, U, u, a0, d, x, K, T, g⟩
 cases m with
 | zero => rw [pv] at g; cases g
 | succ s =>
  refine jX (sg (Wh K (Wi rfl (ln (CI g rfl (fun o g => ?_) (fun o g => ?_))))))
  ·refine kn (jX (lQ (jW (Wh x (Wh x (Wn (Wf zp (VB d Mh rfl rfl gw (Wh K (V (rY (k' := .i64) (a := c) ej gD rfl) (V (M4 (k := .u8) (a := (IntKind.u8.wrap c)) (b := 128) (v := (.int .u8 (IntKind.u8.wrap (BitVec.ofInt (IntKind.bits .u8) (IntKind.u8.wrap c) ||| BitVec.ofInt (IntKind.bits .u8) 128).toNat))) rfl rfl dc rfl) (VE (kJ (cs := [(.int .u8 (IntKind.u8.wrap (BitVec.ofInt (IntKind.bits .u8) (IntKind.u8.wrap c) ||| BitVec.ofInt (IntKind.bits .u8) 128).toNat))].toArray) d (mQ rfl) (na cJ sizeOf5 zeroValue5) (fun c3 q d => ?_))))))))))))))
   replace d := d.perm (Nr (Qb (Qb Qz)) Nz)
   refine bS g fun Q Y g => VE (oq (enc := (kU .u8)) (v := z) (vs := (.slice (some ⟨q, 0, none⟩) 1 1)) (R := u) d (fun _ => rfl) dc (Aq _) cJ oH.1 oH.2.1 rfl oH.2.2.1 oH.2.2.2 rfl rfl T (Sl.lit (enc := (kU .u8)) (l := [(IntKind.u8.wrap (BitVec.ofInt (IntKind.bits .u8) (IntKind.u8.wrap c) ||| BitVec.ofInt (IntKind.bits .u8) 128).toNat)]) (fun _ => rfl) rfl nb rfl (d.at_ (Ma Mh))) Y (fun F c1 a2 d M => Wn (Wf zp ?_)))
   obtain ⟨B, H, rfl⟩ := M.form
   replace d := d.perm (Nb (Pr (Pb Pz)) Nz)
   refine VO (jY (.slice B Q.length H) (#[(.slice B Q.length H)]) d rfl rfl jv oc nb rfl (fun L d => ky (kF (jQ ?_))))
   replace d := d.jE (Kb (Kr (Db St)))
   exact jW (Wh K (V (Fh (a := c) (b := 7) rfl rfl dc) (Wa (ln ⟨s, bI _, (Int.fdiv c (2 ^ min (Int.toNat 7) (IntKind.bits .i64))), (.slice B Q.length H), Q, a2, _, (d.jE St), x, rfl, M, g⟩))))
  refine mZ (mI (mI (rf (jQ (sg (Wh x (Wh x (Wn (Wf zp (VB d Mh rfl rfl gw (Wh K (V (rY (k' := .i64) (a := c) ej gD rfl) (VE (kJ (cs := [(.int .u8 (IntKind.u8.wrap c))].toArray) d (mQ rfl) (na cJ sizeOf5 zeroValue5) (fun O a5 d => ?_)))))))))))))))
  replace d := d.perm (Nr (Qb (Qb Qz)) Nz)
  refine bS g fun J Z g => VE (oq (enc := (kU .u8)) (v := z) (vs := (.slice (some ⟨a5, 0, none⟩) 1 1)) (R := u) d (fun _ => rfl) dc (Aq _) cJ oH.1 oH.2.1 rfl oH.2.2.1 oH.2.2.2 rfl rfl T (Sl.lit (enc := (kU .u8)) (l := [(IntKind.u8.wrap c)]) (fun _ => rfl) rfl nb rfl (d.at_ (Ma Mh))) Z (fun P c2 a3 d N => Wn (Wf zp ?_)))
  obtain ⟨D, I, rfl⟩ := N.form
  replace d := d.perm (Nb (Pr (Pb Pz)) Nz)
  refine VO (jY (.slice D J.length I) (#[(.slice D J.length I)]) d rfl rfl jv oc nb rfl (fun b9 d => ln ?_))
  replace d := d.jE (Kb (Kr (Db St)))
  refine sg (Wa (lt ?_))
  obtain rfl := sj g
  exact lq (v := (.bool true)) rfl rfl ⟨_, _, rfl, (d.mg (Kb (Kr Sn))), (.slice D J.length I), a3, rfl, rfl, N⟩
theorem DG (g : Nat) (c : Value) (j : List Int) (a : LO) (u : Value) (D : List Int) (r : (Bool × (List Int))) (w : World) {Z : km} (h : ni Z ((g, Ob #[c] 92) :: (a ++ [])) w) (i : kk 5 (kU .u8) 1 c j a) (k : Sl (Pl (kU .u8)) 1 Z u D) (hm : vR j D = some r) :
  lC true Tryz.prog 165 [(.pointer (some ⟨g, 0, none⟩)), u] w ((g, Ob #[c] 92) :: (a ++ [])) (fun v L1 W' => ∃ U M, v = (.bool (r.1)) ∧ L1 = ((g, Ob #[U] 92) :: (M ++ [])) ∧ kk 5 (kU .u8) 1 U r.2 M) := by
 refine yl h 25 func165 rfl (fun b => sg (Wa (lS (Wm (V (rS gj rfl rfl) (Wm (Vg rfl rfl (jN rfl) (Vg rfl rfl (lf cJ rfl k) (Vg rfl rfl (kL rfl rfl rfl) ?_)))))))))
 refine V (ke rfl rfl) (ln (CI hm rfl (fun Q hm => ?_) (fun Q hm => ?_)))
 ·refine sg (Wa (lt (kI ?_)))
  obtain rfl := sj hm
  exact lq (v := (.bool false)) rfl rfl ⟨_, _, rfl, (b.mg (Kb (Kr Sn))), c, a, rfl, rfl, i⟩
 refine kg (Wm (Wm (V (lf cJ rfl k) (bS hm fun q T hm => ?_))))
 refine VE (eM b (Cb Pz (Cr Qz Cn)) call268 (fun l _ => (qF g c j a (D.length : Int) _ _ l i T)) ?_)
 rintro _ v8 n a3 b H m d ⟨Y, K, t, rfl, I⟩
 obtain rfl := t.symm
 replace b := b.perm (Tb (Tr Tn))
 refine lr (Wm (Wm (Wn (Wf zp (VB b Mh rfl rfl gw (Wm ?_))))))
 replace b := b.perm (Nr (Qb Qz) Nz)
 refine bS hm fun B G hm => VE (oq (enc := (kU .u8)) (v := Y) (vs := u) (R := K) b (fun _ => rfl) dc (Aq _) cJ oH.1 oH.2.1 rfl oH.2.2.1 oH.2.2.2 rfl rfl I (k.mono (Pl.mono _) (H.trans b.jJ)) G (fun a4 o J b z => Wn (Wf zp ?_)))
 obtain ⟨x, y, rfl⟩ := z.form
 replace b := b.perm (Nb (Pr Pz) Nz)
 refine VO (jY (.slice x B.length y) (#[(.slice x B.length y)]) b rfl rfl jv oc nb rfl (fun a5 b => lr (Wa (lt ?_))))
 obtain rfl := sj hm
 exact lq (v := (.bool true)) rfl rfl ⟨_, _, rfl, (b.mg (Kb (Kr Sn))), (.slice x B.length y), J, rfl, rfl, z⟩
theorem xc (j : Nat) (c : Value) (t : List Int) (a : LO) (J : ByteArray) (r : (Bool × (List Int))) (w : World) {Z : km} (A : ni Z ((j, Ob #[c] 92) :: (a ++ [])) w) (k : kk 5 (kU .u8) 1 c t a) (hm : si t J = some r) :
  lC true Tryz.prog 270 [(.pointer (some ⟨j, 0, none⟩)), (.string J)] w ((j, Ob #[c] 92) :: (a ++ [])) (fun v L1 W' => ∃ n S2, v = (.bool (r.1)) ∧ L1 = ((j, Ob #[n] 92) :: (S2 ++ [])) ∧ kk 5 (kU .u8) 1 n r.2 S2) := by
 refine yl A 17 func270 rfl (fun b => sg (Wa (lr (Wm (V (BU gj rfl rfl) (Wm (Vg rfl rfl (jN rfl) (bS hm fun r1 a4 hm => Lb rfl rfl (Eg b iN (qk J _ _  a4) (fun W3 b => V (kd rfl rfl) ?_))))))))))
 refine Wm (LJ hm (fun B E W => ∃ z x D I, kf Z D ∧ ST true (keys ((j, Ob #[c] 92) :: (a ++ []))) w W D ((j, Ob #[z] 92) :: (x ++ I)) ∧ E 4 = (.bool false) ∧ E 16 = (.bool B.1) ∧ kk 5 (kU .u8) 1 z B.2 x) 5 ?_ (fun B g y => ?_))
 ·rintro ⟨q, c0⟩ E W ⟨z, x, D, I, L, b, b9, a3, T⟩ M
  refine Wg a3 (lt ?_)
  obtain rfl := sj M
  exact lq (v := (.bool q)) rfl rfl ⟨_, _, rfl, (b.mg (Kb (Kr Sn))), z, x, rfl, rfl, T⟩
 refine bC g (fun i g => ?_) (fun i g => ?_)
 ·refine ug i (jN rfl) (ug i (jN rfl) (bS g fun a5 N g => rl i (Gq b bQ cJ gD rfl N (fun R o c3 b G l U O => bS g fun c1 Q g => ?_))))
  refine rl i (eM b (Cb Pz (Cr Qz Cn)) call165 (fun F h => (DG j c t a o a5 _ _ F k (U.mono (Pl.mono _) h) Q)) ?_)
  rintro _ c2 s P b H m d ⟨a9, a2, u, rfl, Y⟩
  obtain rfl := u.symm
  replace b := b.perm (Tb (Tr Tn))
  refine V (kd (cB i) rfl) ?_
  obtain rfl := sj g
  exact y _ _ ⟨a9, a2, s, _, (G.trans H), (b.jE St), rfl, rfl, Y⟩
 refine un i (un i (un i (un i (V (ke (cB i) rfl) ?_))))
 obtain rfl := sj g
 exact y _ _ ⟨c, a, Z, _, (kf.refl _), (b.jE St), rfl, rfl, k⟩
theorem tQ (c : Nat) (i : Value) (D : List Int) (a : LO) (x : jB) (r : (Bool × (List Int))) (w : World) {μ0 : km} (h0 : ni μ0 ((c, Ob #[i] 92) :: (a ++ [])) w) (y : kk 5 (kU .u8) 1 i D a) (hm : pq D x = some r) :
  lC true Tryz.prog 269 [(.pointer (some ⟨c, 0, none⟩)), (.agg (jH x).toArray)] w ((c, Ob #[i] 92) :: (a ++ [])) (fun v L1 W' => ∃ q S2, v = (.bool (r.1)) ∧ L1 = ((c, Ob #[q] 92) :: (S2 ++ [])) ∧ kk 5 (kU .u8) 1 q r.2 S2) := by
 let l := ((c, Ob #[i] 92) :: (a ++ []))
 refine yl h0 23 func269 rfl (fun b => sg (VE (kH b rfl (fun W2 m b => Wa (lr (Wm (V (BU gj rfl rfl) (Wm (Vg rfl rfl (jG rfl (jO b.has Mh (jH x) rfl bL aI)) (bS hm fun r3 c4 hm => Lb rfl rfl (Eg b iO (pZ x _ _  c4) (fun W5 b => ?_))))))))))))
 refine V (kd rfl rfl) (Wm (LJ hm (fun T E W => ∃ z u B a0, kf μ0 B ∧ ST true (keys l) w W B ((m, Ol (jH x) 28) :: ((c, Ob #[z] 92) :: (u ++ a0))) ∧ E 0 = (.pointer (some ⟨c, 0, none⟩)) ∧ E 3 = (.pointer (some ⟨m, 0, none⟩)) ∧ E 4 = (.bool false) ∧ E 16 = (.bool T.1) ∧ kk 5 (kU .u8) 1 z T.2 u) 5 ?_ (fun T t K => ?_)))
 ·rintro ⟨e6, c5⟩ E W ⟨z, u, B, a0, d2, b, c0, c1, a3, c2, N⟩ s
  refine Wh c2 (LJ s (fun Q E W => ∃ M I U a2, kf B U ∧ ST true (keys l) w W U ((c, Ob #[M] 92) :: (I ++ a2)) ∧ E 4 = (.bool false) ∧ E 22 = (.bool Q.1) ∧ kk 5 (kU .u8) 1 M Q.2 I) 5 ?_ (fun Q k J => ?_))
  ·rintro ⟨c6, e1⟩ E W ⟨M, I, U, a2, d3, b, e0, c3, L⟩ A
   refine Wg c3 (lt ?_)
   obtain rfl := sj A
   exact lq (v := (.bool c6)) rfl rfl ⟨_, _, rfl, (b.mg (Kb (Kr Sn))), M, I, rfl, rfl, L⟩
  refine bC k (fun g k => ?_) (fun g k => ?_)
  ·refine ug g (jN c0) (ug g (jM vd c1) (ug g (jG rfl (jS b.has Mh rfl bZ)) (bS k fun e2 F k => ?_)))
   refine rl g (eM b (Cb (Pb Pz) (Cr (Qb Qz) Cn)) call270 (fun h _ => (xc c z c5 u x.jK _ _ h N F)) ?_)
   rintro _ e4 d0 d6 b Y n d ⟨c8, R, G, rfl, O⟩
   obtain rfl := G.symm
   replace b := b.perm (Tb (Tr Tn))
   refine V (kd (cB g) rfl) ?_
   obtain rfl := sj k
   exact J _ _ ⟨c8, R, d0, _, Y, (b.jE (Kb (Kr (Db St)))), a3, rfl, O⟩
  refine un g (un g (un g (un g (V (ke (cB g) rfl) ?_))))
  obtain rfl := sj k
  exact J _ _ ⟨z, u, B, _, (kf.refl _), (b.jE (Db St)), a3, rfl, N⟩
 refine bC t (fun j t => ?_) (fun j t => ?_)
 ·refine ug j (jN rfl) (ug j (jM tO rfl) (ug j (jG rfl (jS b.has Mh rfl bZ)) (bS t fun e3 a9 t => ?_)))
  refine rl j (eM b (Cb (Pb Pz) (Cr (Qb Qz) Cn)) call270 (fun h _ => (xc c i D a x.jF _ _ h y a9)) ?_)
  rintro _ e5 d1 d7 b Z o d ⟨c9, b7, H, rfl, P⟩
  obtain rfl := H.symm
  replace b := b.perm (Tb (Tr Tn))
  refine V (kd (cB j) rfl) ?_
  obtain rfl := sj t
  exact K _ _ ⟨c9, b7, d1, _, Z, (b.jE (Sb (Pb (Pr Pz)) St)), rfl, rfl, rfl, rfl, P⟩
 refine un j (un j (un j (un j (V (ke (cB j) rfl) ?_))))
 obtain rfl := sj t
 exact K _ _ ⟨i, a, μ0, _, (kf.refl _), (b.jE St), rfl, rfl, rfl, rfl, y⟩
theorem GR (g : Value) (i r : List Int) (w : World) (a : Sl (Pl (kU .u8)) 1 (hp w) g i) (hm : sJ i = some r) :
  mw true Tryz.prog 153 [g] w 5 (kU .u8) 1 r := by
 unfold sJ at hm
 refine wX 8 func153 rfl (fun b => sg (Wa (lS (Wm ?_))))
 obtain ⟨y, B, rfl⟩ := a.form
 refine V (wT cJ rfl rfl) (ln ?_)
 rcases y with _ | z
 ·have u := a.isNil
  replace hm : some [] = some r := by rw [u] at hm; simpa [mG, maxLen] using hm
  refine sV (rfl) (sg (Wa (lt (kI ?_))))
  obtain rfl := sj hm
  exact lq (v := (.slice none 0 0)) rfl rfl ⟨_, [], rfl, b.nQ (fun p d => by cases d) (by simp), kk.nil _ _ _⟩
 ·refine oS (rfl) (kg (VE (kJ (cs := #[]) b pK (wS [] cJ sizeOf5 zeroValue5 dc rfl (by simp) rfl rfl) (fun G k b => Wm (bS hm fun H t hm => VE (oq (enc := (kU .u8)) (v := (.slice (some ⟨k, 0, none⟩) 0 0)) (vs := (.slice (some z) i.length B)) (R := [(k, Ob #[] 5)]) b (fun _ => rfl) dc (Aq _) cJ oH.1 oH.2.1 rfl oH.2.2.1 oH.2.2.2 rfl rfl (kk.lit (l := []) (enc := (kU .u8)) rfl dc rfl rfl) (a.mono (Pl.mono _) b.jJ) t (fun D x j b c => Wa (lt ?_))))))))
  obtain rfl := sj hm
  exact lq (v := x) rfl rfl ⟨_, j, rfl, b.nQ (fun p d => (Ml d)) c.nd, c⟩
theorem zr (g : Nat) (a : Value) (c r : List Int) (w : World) (j : Sl (Pl (kU .u8)) 1 (hp w) a c) (k : At (hp w) (.pointer (some ⟨g, 0, none⟩)) [a]) (hm : sy c = some r) :
  mw true Tryz.prog 66 [(.pointer (some ⟨g, 0, none⟩))] w 5 (kU .u8) 1 r := by
 refine wX 10 func66 rfl (fun b => sg (Wa (lS (Wm (V (rS gj rfl rfl) (ln (oS rfl (ll ?_))))))))
 refine jQ (sg (Wm (Wn (VQ (tY [a] zp rfl k rfl) (fun G u => V (jG rfl (qO b.has (y := a) u gw)) (bS hm fun H x hm => VE (sG b call153 (GR a c _ _ (j.mono (Pl.mono _) b.jJ) x) (fun D z I t b B d i => Wa (lt ?_)))))))))
 obtain rfl := sj hm
 exact lq (v := z) rfl rfl ⟨_, t, rfl, b.nQ (fun p h => (Ml h)) i.nd, i⟩
theorem CZ (c : jA) (r : List Int) (w : World) (hm : vc c = some r) :
  mw true Tryz.prog 155 [(.agg (jD c).toArray)] w 5 (kU .u8) 1 r := by
 refine wX 53 func155 rfl (fun d => sg (VE (kH d rfl (fun W2 b1 d => Wa (lS (VA d Mh (jD c) bR aH (bS hm fun r3 g3 hm => VE (Eg d call137 (uY c _ _  g3) (fun W5 d => V (mC rfl) (ky ?_))))))))))
 refine jQ (CI hm rfl (fun g0 hm => ?_) (fun g0 hm => ?_))
 ·refine sg (Wa (ln ?_))
  replace d := d.jE (Db St)
  refine kB (kI ?_)
  obtain rfl := sj hm
  exact lq (v := (.slice none 0 0)) rfl rfl ⟨_, [], rfl, d.nQ (fun p m => by cases m) (by simp), kk.nil _ _ _⟩
 refine kg (V (ma (v := (.agg #[(.slice none 0 0)])) pK (ly zeroValue92 gi (Ov _ gi) kr)) (VE (kH d rfl (fun W8 g d => Wa (lr (Wm (Wf xh (VB d (Mt Mh) rfl rfl cL (bS hm fun r9 e2 hm => ?_)))))))))
 refine VE (eM d (Cb Pz (C0 Cn)) call268 (fun l _ => (qF g (.slice none 0 0) ([]) [] c.Kind _ _ l (kk.nil _ _ _) e2)) ?_)
 rintro _ k3 k5 j9 d g7 P h ⟨g4, f9, I, rfl, e4⟩
 obtain rfl := I.symm
 replace d := d.perm (Tb (Tr Tn))
 refine lr (Wm (Wf uo (VA d (Mt (Ma Mh)) (jH c.Head) bL aI (bS hm fun N e3 hm => ?_))))
 refine VE (eM d (Cb Pz (Cr Qz Cn)) call269 (fun l _ => (tQ g g4 r9.2 f9 c.Head _ _ l e4 e3)) ?_)
 rintro _ k4 d1 k0 d g8 R h ⟨G, D, J, rfl, i⟩
 obtain rfl := J.symm
 replace d := d.perm (Tb (Tr Tn))
 refine ln (jX (CJ hm (fun a3 E W => ∃ B H K Q, kf d1 K ∧ ST true kQ w W K ((g, Ob #[B] 92) :: (H ++ Q)) ∧ E 3 = (.pointer (some ⟨g, 0, none⟩)) ∧ kk 5 (kU .u8) 1 B a3 H) (fun a3 a => ?_) ?_))
 ·refine sg (Wf xh (VB d (Mt (Ma Mh)) rfl rfl cL (ln (bg (Wi rfl (Wa (ln (CI a rfl (fun b0 a => ?_) (fun b0 a => ?_)))))))))
  ·refine jW (Wm (Wf AG (VB d (Mt (Ma Mh)) rfl rfl bZ (bS a fun i3 b6 a => ?_))))
   refine VE (eM d (Cb Pz (Cr Qz Cn)) call270 (fun l _ => (xc g G N.2 D c.kA _ _ l i b6)) ?_)
   rintro _ i8 f5 g9 d T q h ⟨e9, d3, k, rfl, c5⟩
   obtain rfl := k.symm
   replace d := d.perm (Tb (Tr Tn))
   refine ky (kF (jQ ?_))
   obtain rfl := sj a
   exact ⟨e9, d3, f5, _, T, (d.jE (Kb (Kr (Db St)))), rfl, c5⟩
  refine sg (Wi rfl (Wa (ln (CI a rfl (fun b2 a => ?_) (fun b2 a => ?_)))))
  ·refine jW (Wm (Wf pu (VA d (Mt (Ma Mh)) (jH c.B) bL aI (bS a fun i4 b9 a => ?_))))
   refine VE (eM d (Cb Pz (Cr Qz Cn)) call269 (fun l _ => (tQ g G N.2 D c.B _ _ l i b9)) ?_)
   rintro _ i9 f6 h0 d U s h ⟨f0, d4, t, rfl, c6⟩
   obtain rfl := t.symm
   replace d := d.perm (Tb (Tr Tn))
   refine ky (kF (jQ ?_))
   obtain rfl := sj a
   exact ⟨f0, d4, f6, _, U, (d.jE (Kb (Kr (Db St)))), rfl, c6⟩
  refine sg (Wi rfl (Wa (ln (CI a rfl (fun b3 a => ?_) (fun b3 a => ?_)))))
  ·refine sg (Wm (Wf pu (VA d (Mt (Ma Mh)) (jH c.B) bL aI (bS a fun e6 c0 a => ?_))))
   refine VE (eM d (Cb Pz (Cr Qz Cn)) call269 (fun l _ => (tQ g G N.2 D c.B _ _ l i c0)) ?_)
   rintro _ j0 j7 h1 d Y A h ⟨f1, d5, u, rfl, c7⟩
   obtain rfl := u.symm
   replace d := d.perm (Tb (Tr Tn))
   refine ln (jW (Wm (Wf yg (VB d (Mt (Ma Mh)) rfl rfl bZ (bS a fun i5 c1 a => ?_)))))
   refine VE (eM d (Cb Pz (Cr Qz Cn)) call270 (fun l _ => (xc g f1 e6.2 d5 c.kz _ _ l c7 c1)) ?_)
   rintro _ j3 f7 h2 d Z F h ⟨f2, d6, x, rfl, c8⟩
   obtain rfl := x.symm
   replace d := d.perm (Tb (Tr Tn))
   refine ky (kF (jQ ?_))
   obtain rfl := sj a
   exact ⟨f2, d6, f7, _, (Y.trans Z), (d.jE (Kb (Kr (Db St)))), rfl, c8⟩
  refine sg (Wi rfl (Wa (ln (CI a rfl (fun b4 a => ?_) (fun b4 a => ?_)))))
  ·refine sg (Wm (Wf pu (VA d (Mt (Ma Mh)) (jH c.B) bL aI (bS a fun e7 c2 a => ?_))))
   refine VE (eM d (Cb Pz (Cr Qz Cn)) call269 (fun l _ => (tQ g G N.2 D c.B _ _ l i c2)) ?_)
   rintro _ j4 j8 h3 d a1 L h ⟨f3, d7, y, rfl, c9⟩
   obtain rfl := y.symm
   replace d := d.perm (Tb (Tr Tn))
   refine ln (jW (Wm (Wf xt (VA d (Mt (Ma Mh)) (jH c.C) bL aI (bS a fun i6 c3 a => ?_)))))
   refine VE (eM d (Cb Pz (Cr Qz Cn)) call269 (fun l _ => (tQ g f3 e7.2 d7 c.C _ _ l c9 c3)) ?_)
   rintro _ j5 f8 h4 d a2 O h ⟨f4, d8, z, rfl, d0⟩
   obtain rfl := z.symm
   replace d := d.perm (Tb (Tr Tn))
   refine ky (kF (jQ ?_))
   obtain rfl := sj a
   exact ⟨f4, d8, f8, _, (a1.trans a2), (d.jE (Kb (Kr (Db St)))), rfl, d0⟩
  refine ll (kF (jQ ?_))
  obtain rfl := sj a
  exact ⟨G, D, d1, _, (kf.refl _), (d.jE (Kb (Kr (Db St)))), rfl, i⟩
 rintro e5 E W ⟨B, H, K, Q, g1, d, d9, c4⟩ j
 refine sg (Wh d9 (bS j fun i2 b5 j => VE (sG d call66 (zr g B e5 _ _ (c4.sl (fun _ => rfl) (fun b o m => d.at_ (Mt (Ml m)))) (At.of (d.at_ Mh) _ rfl) b5) (fun h5 e8 j6 d2 d g2 n M => Wa (ln ?_)))))
 replace d := d.jE (Kr (Db (Dr St)))
 refine kB ?_
 obtain rfl := sj j
 exact lq (v := e8) rfl rfl ⟨_, d2, rfl, d.nQ (fun p m => (Ml m)) M.nd, M⟩
theorem Pm (w : World) {c d : Value} {a b : List Int} (h1 : Sl (Pl (kU .u8)) 1 (hp w) c a) (g : Sl (Pl (kU .u8)) 1 (hp w) d b) : (callFunc 369 [c, d].toArray).run Tryz.prog w = .ok (.value (.int .i64 (wO a b))) w := Mp func369 (by kernel_rfl) (by kernel_rfl) (by kernel_rfl) (by kernel_rfl) h1 g
theorem zU (a : Value) (g : List Int) (c : Value) (i : List Int) (r : Int) (w : World) (j : Sl (Pl (kU .u8)) 1 (hp w) a g) (k : Sl (Pl (kU .u8)) 1 (hp w) c i) (hm : uT g i = some r) :
  ki true Tryz.prog 323 [a, c] w (.int .i64 r) := by
 exact cG 8 func323 rfl (fun b => sg (Wa (lr (Wm (Wm (VE (J0 (args := [a, c]) (v := .int .i64 (wO g i)) rfl (by exact ua rfl rfl) (Pm _ (j.mono (Pl.mono _) b.jJ) (k.mono (Pl.mono _) b.jJ)) (Wa (lt (rQ hm b))))))))))
theorem Bk (g i : jA) (r : Int) (w : World) (hm : pJ g i = some r) :
  ki true Tryz.prog 231 [(.agg (jD g).toArray), (.agg (jD i).toArray)] w (.int .i64 r) := by
 refine cG 10 func231 rfl (fun d => sg (VE (kH d rfl (fun T Y d => VE (kH d rfl (fun U Z d => Wa (ln (jX ?_))))))))
 replace d := d.drew
 have h := d.has.jE (Kb (Kb Sn))
 refine kM h ko (XH 0 rfl h (fun _ l => jG rfl (jO l (Mt Mh) (jD g) rfl bR aH)) (XH 2 rfl h (fun _ l => jG rfl (jO l Mh (jD i) rfl bR aH)) (bS hm fun y t hm => XE 1 rfl (sG d call155 (CZ g _ _  t) (fun I B N G d a n j => ?_)))))
 have h := d.has.oA a (Dr (Kb (Kb Sn)))
 refine ⟨h, (bS hm fun z u hm => XE 3 rfl (sG d call155 (CZ i _ _  u) (fun J D Q H d c q k => ?_)))⟩
 have h := d.has.oA (a.trans c) (Dr (Dr (Kb (Kb Sn))))
 refine ⟨h, (bS hm fun M x hm => XE 4 rfl (Eg d call323 (zU B y D z _ _ (j.sl (fun _ => rfl) (fun b o m => d.at_ (Ma (Ml m)))) (k.sl (fun _ => rfl) (fun b o m => d.at_ (Ml m))) x) (fun K d => ?_)))⟩
 have h := d.has.oA (a.trans c) (Dr (Dr (Kb (Kb Sn))))
 refine ⟨h, (X 5 rfl h (nU rfl) (kV kr (jQ ?_)))⟩
 exact kB (rQ hm d)
theorem A6 (j : Value) (a0 : List jA) (x : LO) (r : List jA) (w : World) {μ0 : km} (h0 : ni μ0 (x ++ []) w) (B : kk 53 jD 9 j a0 x) (hm : rF a0 = some r) :
  lC true Tryz.prog 232 [j] w (x ++ []) (fun v L1 W' => ∃ y1 S2, v = y1 ∧ L1 = (S2 ++ []) ∧ kk 53 jD 9 y1 r S2) := by
 refine yl h0 61 func232 rfl (fun b => sg (Wa (lS (Wm (V (qV aG rfl B) (Wi rfl (ln (CI hm rfl (fun g0 hm => ?_) (fun g0 hm => ?_)))))))))
 ·refine sg (Wm (Wa (lt (kI ?_))))
  obtain rfl := sj hm
  exact lq (v := j) rfl rfl ⟨_, _, rfl, (b.mg (Kr Sn)), j, x, rfl, rfl, B⟩
 refine kS (Wa (ln (lQ (np (fun m E W => ∃ t P, ST true (keys (x ++ [])) w W μ0 (x ++ P) ∧ E 0 = j ∧ E 3 = (.int .i64 t) ∧ nG a0 m t = some r) kC ⟨1, _, (b.jE St), rfl, rfl, hm⟩ ?_))))
 rintro m E W ⟨t, P, b, D, H, a⟩
 cases m with
 | zero => rw [nG] at a; cases a
 | succ f5 =>
  refine jX (sg (Wh H (Wh D (V (qV aG rfl B) (Wi rfl (ln (CI a rfl (fun d0 a => ?_) (fun d0 a => ?_))))))))
  ·refine kn (jX (lQ (jX ?_)))
   replace b := b.drew
   have d := b.has.jE (Kr Sn)
   refine kM d ko (X 0 rfl d (jN D) (X 1 rfl d (jN H) (bS a fun c3 Z a => XQ 2 rfl d (nz (i := t) (x0 := c3) aG aH rfl rfl B (kj Z) (kh Z)) (fun g7 d6 => XH 3 rfl d (fun _ l => jG rfl (pB l (fun p h => (Ml h)) B lm d6 (kh Z) bR aH)) (X 4 rfl d (jN D) (X 5 rfl d (jN H) (X 6 rfl d (kL rfl rfl rfl) (bS a fun c4 n a => XQ 7 rfl d (nz (i := (IntKind.i64.wrap (t - 1))) (x0 := c4) aG aH rfl rfl B (kj n) (kh n)) (fun g8 d7 => XH 8 rfl d (fun _ l => jG rfl (pB l (fun p h => (Ml h)) B lm d7 (kh n) bR aH)) (X 9 rfl d (xg rfl rfl (oQ eG) (tR (tp _ c3 c4))) (kV kr (jQ ?_))))))))))))
   refine CI a rfl (fun d1 a => ?_) (fun d1 a => ?_)
   ·refine sg (Wh D (Wh H (bS a fun _ A a => VQ (tg (i := t) aG aH rfl rfl B (rp A) (ry A)) (fun c1 M => Wa (lS (Wa (ln ?_)))))))
    refine CJ a (fun U E W => ∃ o R, ST true (keys (x ++ [])) w W μ0 (o ++ R) ∧ E 0 = j ∧ E 3 = (.int .i64 U.2) ∧ kk 53 jD 9 j U.1 o) (fun U d4 => ?_) ?_
    ·refine lQ (np (fun m E W => ∃ q K Y y b6, ST true (keys (x ++ [])) w W μ0 (K ++ b6) ∧ E 0 = j ∧ E 3 = (.int .i64 Y) ∧ E 4 = c1 ∧ E 5 = (.int .i64 y) ∧ kk 53 jD 9 j q K ∧ nH t m q Y y = some U) kC ⟨a0, x, t, 1, _, (b.jE St), D, H, rfl, rfl, B, d4⟩ ?_)
     rintro m E W ⟨q, K, Y, y, b6, b, Q, T, I, J, g, k⟩
     cases m with
     | zero => rw [nH] at k; cases k
     | succ f6 =>
      refine jX (sg (Wh J (Wh I (V (CN aG rfl M g) (Wi rfl (ln (CI k rfl (fun d2 k => ?_) (fun d2 k => ?_))))))))
      ·refine kn (jX (CJ k (fun s E W => ∃ N b7, ST true (keys (x ++ [])) w W μ0 (N ++ b7) ∧ E 0 = j ∧ E 3 = (.int .i64 s.2) ∧ E 4 = c1 ∧ E 5 = (.int .i64 y) ∧ kk 53 jD 9 j s.1 N) (fun s c => ?_) ?_))
       ·refine lQ (jX ?_)
        replace b := b.drew
        have d := b.has.jE (Kr Sn)
        refine kM d ko (X 0 rfl d (jN I) (X 1 rfl d (jN J) (bS c fun c6 a2 c => XQ 2 rfl d (tf (i := y) (x0 := c6) aG aH rfl rfl g M (kj a2) (kh a2)) (fun g9 d8 => XH 3 rfl d (fun _ l => jG rfl (pB l (fun p h => (Ml h)) g lm d8 (vg (kh a2)) bR aH)) (X 4 rfl d (jN I) (X 5 rfl d (jN J) (X 6 rfl d (kL rfl rfl rfl) (bS c fun c7 a3 c => XQ 7 rfl d (tf (i := (IntKind.i64.wrap (y - 1))) (x0 := c7) aG aH rfl rfl g M (kj a3) (kh a3)) (fun h1 d9 => XH 8 rfl d (fun _ l => jG rfl (pB l (fun p h => (Ml h)) g lm d9 (vg (kh a3)) bR aH)) (X 9 rfl d (GS rfl rfl (oQ eG) (Dx (tp _ c6 c7))) (kV kr (jQ ?_))))))))))))
        refine CI c rfl (fun d3 c => ?_) (fun d3 c => ?_)
        ·refine sg (Wh Q (Wh T (Wh I (Wh J (bS c fun a9 a4 c => VQ (tf (i := y) (x0 := a9) aG aH rfl rfl g M (kj a4) (kh a4)) (fun h2 e0 => V (jG rfl (pB b.has (fun p h => (Ml h)) g lm e0 (vg (kh a4)) bR aH)) (bS c fun f8 a5 c => VQ (nz (i := Y) (x0 := f8) aG aH rfl rfl g (kj a5) (kh a5)) (fun h3 e1 => VO (xq (u := (.agg (jD a9).toArray)) (x1 := a9)  b g lm nF rfl rfl rfl e1 (kh a5) aH (fun g3 e8 b c9 => ln (jW ?_)))))))))))
         refine Wh T (Wi rfl (Wa (ky (kF (jQ ?_)))))
         obtain rfl := sj c
         exact ⟨e8, _, (b.jE St), Q, rfl, I, J, c9⟩
        refine ll (kF (jQ ?_))
        obtain rfl := sj c
        exact ⟨K, _, (b.jE St), Q, T, I, J, g⟩
       rintro ⟨f4, f7⟩ E W ⟨N, b7, b, f0, f1, f2, f3, e4⟩ d5
       exact jW (Wh f3 (Wi rfl (Wa (ln ⟨f6, bI _, f4, N, f7, (IntKind.i64.wrap (y + 1)), _, (b.jE St), f0, f1, f2, rfl, e4, d5⟩))))
      refine mZ (mI (mI (rf (jQ ?_))))
      obtain rfl := sj k
      exact ⟨K, _, (b.jE St), Q, T, g⟩
    rintro ⟨g4, c5⟩ E W ⟨o, R, b, b9, c0, O⟩ G
    refine sg (Wh b9 (Wh c0 (bS G fun _ F G => VQ (tg (i := c5) aG aH rfl rfl O (rp F) (ry F)) (fun h4 e2 => VO (vY (z := K6)  b O lm nF aG cX e2 rfl rfl (fun g2 e7 b c8 => lr (Wh b9 (Wh c0 (bS G fun _ L G => VQ (vj (i := c5) aG aH rfl rfl c8 lm (rp L) (ry L)) (fun c2 e3 => ?_))))))))))
    refine Wa (lt (mn (kI (kI (mn (kI ?_))))))
    obtain rfl := sj G
    exact lq (v := c2) rfl rfl ⟨_, _, rfl, (b.mg (Kr Sn)), c2, e7, rfl, rfl, e3⟩
   exact ll (kF (jQ (jW (Wh H (Wi rfl (Wa (ln ⟨f5, bI _, (IntKind.i64.wrap (t + 1)), _, (b.jE St), D, rfl, a⟩)))))))
  refine mZ (mI (mI (rf (jQ (sg (Wh D (Wa (lt ?_))))))))
  obtain rfl := sj a
  exact lq (v := j) rfl rfl ⟨_, _, rfl, (b.mg (Kr Sn)), j, x, rfl, rfl, B⟩
theorem vv (i : Value) (t r : List jA) (w : World) (B : Sl (Pl jD) 9 (hp w) i t) (hm : oW t = some r) :
  mw false Tryz.prog 116 [i] w 53 jD 9 r := by
 refine wX 11 func116 rfl (fun b => sg (Wa (lr (Wm (bS hm fun u T hm => VE (sG b call228 (mw.lD (Cf i t _ _ (B.mono (Pl.mono _) b.jJ) T)) (fun W3 v7 y R8 b a5 o Q => bS hm fun U D hm => ?_)))))))
 refine VE (eM b (Cr Qz Cn) call143 (fun h _ => (uZ v7 u R8 (.func (.func 229) #[] #[]) (fun (x : jA) => wm x) _ _ h Q ⟨229, #[], #[], rfl, call229, fun W x r s hm => (GL x r W  hm).lD⟩ D)) ?_)
 rintro _ O b9 A b z l d ⟨k, K, a, rfl, I⟩
 obtain rfl := a.symm
 replace b := b.perm (Tr Tn)
 refine Wa (lr (Wm (bS hm fun Y G hm => ?_)))
 refine VE (eM b (Cr Qz Cn) call230 (fun h _ => lC.lD (JW k U K (.func (.func 231) #[] #[]) (fun (x : (jA × jA)) => pJ x.1 x.2) _ _ h I ⟨231, #[], rfl, call231, fun W x r s hm => Bk x.1 x.2 r W  hm⟩ G)) ?_)
 rintro _ P c0 a9 b a2 m d ⟨M, c, rfl, J⟩
 obtain rfl := c.symm
 replace b := b.perm (Tr Tn)
 refine lr (Wm (bS hm fun L H hm => ?_))
 refine VE (eM b (Cr Qz Cn) call232 (fun h _ => lC.lD (A6 k Y M _ _ h J H)) ?_)
 rintro _ R c1 F b a3 n d ⟨Z, N, g, rfl, j⟩
 obtain rfl := g.symm
 replace b := b.perm (Tr Tn)
 refine Wa (lt ?_)
 obtain rfl := sj hm
 exact lq (v := Z) rfl rfl ⟨_, N, rfl, b.nQ (fun p q => (Ml q)) j.nd, j⟩
theorem uG (t : Value) (y : List jA) (u : Value) (K : List jA) (r : Bool) (w : World) (c : Sl (Pl jD) 9 (hp w) t y) (z : Sl (Pl jD) 9 (hp w) u K) (hm : ou y K = some r) :
  ki true Tryz.prog 313 [t, u] w (.bool r) := by
 refine cG 26 func313 rfl (fun d => sg (Wa (lS (Wm (V (lf aG rfl c) (Wm (V (lf aG rfl z) (Wi rfl (ky ?_)))))))))
 refine jQ (CI hm rfl (fun U hm => ?_) (fun U hm => ?_))
 ·refine sg (Wa (lt (kI ?_)))
  obtain rfl := sj hm
  exact rP d
 refine kS (Wm (V (lf aG rfl c) (Wm (ln (li (fun i E W => ∃ g, (E 13 = .int .i64 (i : Nat) ∧ E 12 = .int .i64 (y.length : Nat)) ∧ ST true kQ w W (hp w) g ∧ E 0 = t ∧ E 1 = u ∧ ph K (y.drop i) i = some r) y.length c.len ⟨_, ⟨rfl, rfl⟩, (d.jE St), rfl, rfl, hm⟩ dc dc dc (fun _ _ _ h => by obtain ⟨_, m, _⟩ := h; exact m) ?_ ?_)))))
 ·rintro I E W M ⟨g, ⟨l, o⟩, d, j, k, a⟩
  obtain ⟨J, a3, Q, N, T⟩ := kP M
  rw [Q] at a
  refine bg (Wh l (Wa (ln (jX ?_))))
  replace d := d.drew
  have b := d.has.jE Sn
  refine kM b ko (X 0 rfl b (jN j) (X 1 rfl b (jN rfl) (XQ 2 rfl b (ot (enc := jD) (i := (I : Int)) (x0 := J) aG aH rfl rfl c (aJ _) N) (fun Y G => XH 3 rfl b (fun _ n => jG rfl (kl n G bR aH)) (X 4 rfl b (jN k) (X 5 rfl b (jN rfl) (bS a fun B x a => XQ 6 rfl b (ot (enc := jD) (i := (I : Int)) (x0 := B) aG aH rfl rfl z (kj x) (kh x)) (fun Z H => XH 7 rfl b (fun _ n => jG rfl (kl n H bR aH)) (X 8 rfl b (GS rfl rfl (oQ eG) (Dx (tp _ J B))) (kV kr (jQ (CI a rfl (fun D a => ?_) (fun D a => ?_)))))))))))))
  ·refine sg (Wa (lt (mn (kI (mn (kI ?_))))))
   obtain rfl := sj a
   exact rP d
  exact ll (kF (jQ ⟨l, _, ⟨rfl, o⟩, (d.jE St), j, k, (by rw [T]; exact a)⟩))
 rintro E W ⟨g, ⟨l, o⟩, d, j, k, a⟩
 rw [aP] at a
 exact jQ (sg (Wa (lt (rQ a d))))
theorem Bh (a : Value) (g : List jA) (r : Bool) (w : World) (c : Sl (Pl jD) 9 (hp w) a g) (hm : tI g = some r) :
  ki false Tryz.prog 298 [a] w (.bool r) := by
 refine cG 7 func298 rfl (fun d => sg (Wa (lr (Wm (bS hm fun u t hm => VE (sG d call116 (vv a g _ _ (c.mono (Pl.mono _) d.jJ) t) (fun D x G B d i h k => Wm (bS hm fun z j hm => VE (Eg d call313 (ki.lD (uG x u a g _ _ (k.sl lm (fun b o l => d.at_ (Ml l))) (c.mono (Pl.mono _) (i.trans d.jJ)) j)) (fun y d => Wa ?_))))))))))
 refine ln ?_
 exact kB (rQ hm d)
theorem GB (z : jI) (x B : Value) (r : Bool) (w : World) (g : Sl ku 15 (hp w) x z.jV) (M : Sl kW 8 (hp w) B z.kx) (hm : yx z = some r) :
  ki false Tryz.prog 206 [(.agg #[(.string z.Name), x, B])] w (.bool r) := by
 refine cG 33 func206 rfl (fun d => sg ?_)
 obtain ⟨A1, c2, rfl⟩ := g.form
 obtain ⟨A3, c4, rfl⟩ := M.form
 refine VE (kH d rfl (fun W6 b5 d => Wa (lr (Wa (lS (Wf vA (VB d Mh rfl rfl gE (V (lf du rfl g) ?_))))))))
 refine Wm (ln ?_)
 replace d := d.jE (Db St)
 refine li (fun i E W => ∃ u H y T, (E 9 = .int .i64 (i : Nat) ∧ E 8 = .int .i64 (z.jV.length : Nat)) ∧ ST false kQ w W (hp w) (y ++ T) ∧ E 3 = u ∧ E 7 = (.slice A1 z.jV.length c2) ∧ kk 53 jD 9 u H y ∧ qJ (z.jV.drop i) H = some r) z.jV.length g.len ⟨(.slice none 0 0), ([]), [], _, ⟨rfl, rfl⟩, (d.jE St), rfl, rfl, (kk.nil _ _ _), hm⟩ dc dc dc (fun _ _ _ h => by obtain ⟨_, _, _, _, n, _⟩ := h; exact n) ?_ ?_
 ·rintro a3 E W L ⟨u, H, y, T, ⟨m, q⟩, d, I, J, K, j⟩
  obtain ⟨a, d1, b3, b2, b4⟩ := kP L
  rw [b3] at j
  refine bg (VQ (mo (i := (a3 : Int)) (x0 := a) ku.out du dz J m g (aJ _) b2) (fun e0 ⟨_, ⟨e3, e4, rfl, Y, Z⟩, a9⟩ => V (jG rfl (kl d.has a9 iq dz)) (VE (kv d ed (fun d3 a2 d => ?_)))))
  obtain ⟨Q, U, rfl⟩ := Y.form
  obtain ⟨D, G, rfl⟩ := Z.form
  let a0 := (C5 a.Signed.jA.Kind a.Signed.jA.Head.jF a.Signed.jA.Head.jK a.Signed.jA.kA a.Signed.jA.B.jF a.Signed.jA.B.jK a.Signed.jA.C.jF a.Signed.jA.C.jK a.Signed.jA.kz Q a.Signed.Tag.length U a.jL.Op a.jL.K a.jL.jB.jF a.jL.jB.jK D a.jL.Kids.length G)
  refine VO (jY (.agg a0.toArray) (a0.toArray) d rfl rfl dz oc nb rfl (fun d4 d => lS (Wf vu (Wf Bm (VB d Mh rfl rfl gw (V (lf cJ rfl Y) (Wi rfl (Wm (LJ j (fun a4 E W => ∃ s, ST false kQ w W (hp w) ((a2, Ol a0 138) :: (y ++ s)) ∧ E 3 = u ∧ E 5 = (.pointer (some ⟨a2, 0, none⟩)) ∧ E 7 = (.slice A1 z.jV.length c2) ∧ E 8 = (.int .i64 (z.jV.length : Int)) ∧ E 9 = (.int .i64 (a3 : Int)) ∧ E 23 = (.bool a4)) 5 ?_ (fun a4 t N => ?_))))))))))
  ·rintro e5 E W ⟨s, d, c1, c3, c5, c6, c7, c8⟩ k
   refine ln (CI k c8 (fun A k => ?_) (fun A k => ?_))
   ·refine sg (Wa (ln ?_))
    replace d := d.jE (Db (Dr St))
    refine kB (kI (mn (kI (mn (kI ?_)))))
    obtain rfl := sj k
    exact rP d
   refine kn (jW (Wh c1 (V (jM vu c3) (Wf rM (VA d Mh (jD a.Signed.jA) bR aH (VE (kJ (cs := (jD a.Signed.jA).toArray) d (mQ rfl) (na aG aH cX) (fun d5 b9 d => ?_))))))))
   replace d := d.perm (Nr (Qb (Qb Qz)) Nz)
   refine bS k fun c9 F k => VE (oq (enc := jD) (v := u) (vs := (.slice (some ⟨b9, 0, none⟩) 1 1)) (R := y) d lm dc nF aG mP.1 mP.2.1 rfl mP.2.2.1 mP.2.2.2 rfl rfl K (Sl.lit (enc := jD) (l := [a.Signed.jA]) lm rfl nb rfl (d.at_ (Ma Mh))) F (fun d6 d0 b7 d a5 => Wa (ky (kF (jQ ?_)))))
   replace d := d.jE (Kr (Db (Db St)))
   exact ⟨c7, d0, c9, b7, _, ⟨rfl, c6⟩, (d.jE St), rfl, c5, a5, (by rw [b4]; exact k)⟩
  refine bC t (fun c t => ?_) (fun c t => ?_)
  ·refine un c (un c (un c (un c (V (kd (cB c) rfl) ?_))))
   obtain rfl := sj t
   exact N _ _ ⟨_, (d.jE St), I, rfl, J, q, m, rfl⟩
  refine ug c (jM FV rfl) (ug c (jG rfl (jO d.has Mh (C1 a.jL.Op a.jL.K a.jL.jB.jF a.jL.jB.jK D a.jL.Kids.length G) rfl aS aC)) (bS t fun e1 O t => rl c (Eg d call107 (rr a.jL (.slice D a.jL.Kids.length G) _ _ (Z.mono jT.mono d.jJ) O) (fun d7 d => ug c (mC rfl) (V (ke (cB c) rfl) ?_)))))
  obtain rfl := sj t
  exact N _ _ ⟨_, (d.jE St), I, rfl, J, q, m, rfl⟩
 rintro E W ⟨u, H, y, T, ⟨m, q⟩, d, I, J, K, j⟩
 rw [aP] at j
 refine jQ (sg (Wh I (bS j fun e2 P j => VE (Eg d call298 (Bh u H _ _ (K.sl lm (fun b o hq => d.at_ (Ml hq))) P) (fun d8 d => Wa (ln ?_))))))
 exact kB (rQ j d)
theorem Ii (x : Value) (T : List ml) (r : Bool) (w : World) (n : Sl kW 8 (hp w) x T) (hm : zA T = some r) :
  ki false Tryz.prog 207 [x] w (.bool r) := by
 refine cG 45 func207 rfl (fun d => sg (Wa (lS (Wm (V (lf cT rfl n) (Wm (ln (li (fun i E W => ∃ a2, (E 7 = .int .i64 (i : Nat) ∧ E 6 = .int .i64 (T.length : Nat)) ∧ ST false kQ w W (hp w) a2 ∧ E 0 = x ∧ E 5 = x ∧ rA T (T.drop i) i = some r) T.length n.len ⟨_, ⟨rfl, rfl⟩, (d.jE St), rfl, rfl, hm⟩ dc dc dc (fun _ _ _ h => by obtain ⟨_, s, _⟩ := h; exact s) ?_ ?_))))))))
 ·rintro G E W c9 ⟨a2, ⟨m, v⟩, d, a3, N, t⟩
  obtain ⟨a, g0, e1, e0, e2⟩ := kP c9
  rw [e1] at t
  refine bg (Wh m (VQ (mo (i := (G : Int)) (x0 := a) kW.out cT dG N m n (aJ _) e0) (fun g9 ⟨_, ⟨h6, h7, rfl, F, L⟩, d3⟩ => V (jG rfl (kl d.has d3 jd dG)) (VE (kv d gk (fun g1 M d => Wa ?_))))))
  let g5 : Value := (.int .i64 (T.length : Int))
  let b8 : Value := (.int .i64 (G : Int))
  obtain ⟨B, D, rfl⟩ := F.form
  obtain ⟨H, I, rfl⟩ := L.form
  let a0 := (C6 a.jB.jF a.jB.jK a.jL.Op a.jL.K a.jL.jB.jF a.jL.jB.jK B a.jL.Kids.length D H a.lI.length I)
  refine VO (jY (.agg a0.toArray) (a0.toArray) d rfl rfl dG oc nb rfl (fun g2 d => ln (jX ?_)))
  replace d := d.drew
  have b := d.has.jE (Kb Sn)
  refine kM b ko (X 0 rfl b (jM AO rfl) (XH 1 rfl b (fun _ l => jG rfl (jO l Mh (jH a.jB) rfl bL aI)) (bS t fun h2 d6 t => XE 2 rfl (Eg d iO (ki.lD (pZ a.jB _ _  d6)) (fun g3 d => ?_)))))
  have b := d.has.jE (Kb Sn)
  refine ⟨b, (X 3 rfl b (mC rfl) (X 4 rfl b (jN rfl) (PJ t (fun c7 E W => ∃ P, ST false kQ w W (hp w) ((M, Ol a0 263) :: P) ∧ E 0 = x ∧ E 3 = b8 ∧ E 4 = (.pointer (some ⟨M, 0, none⟩)) ∧ E 5 = x ∧ E 6 = g5 ∧ E 7 = b8 ∧ E 21 = (.bool c7)) (bm 32 1023) 22 ?_ (fun c7 z A => ?_))))⟩
  ·rintro i0 E W ⟨P, d, b7, b9, a4, c0, c1, c2, e3⟩ d0
   have b := d.has.jE (Kb Sn)
   refine X 10 rfl b (jN e3) (PJ d0 (fun c6 E W => ∃ R, ST false kQ w W (hp w) ((M, Ol a0 263) :: R) ∧ E 0 = x ∧ E 3 = b8 ∧ E 4 = (.pointer (some ⟨M, 0, none⟩)) ∧ E 5 = x ∧ E 6 = g5 ∧ E 7 = b8 ∧ E 27 = (.bool c6)) (bm 32 65535) 16 ?_ (fun c6 y Z => ?_))
   ·rintro f7 E W ⟨R, d, Q, c3, e4, a5, o, q, e5⟩ d1
    have b := d.has.jE (Kb Sn)
    refine X 16 rfl b (jN e5) (PJ d1 (fun c4 E W => ∃ b5, ST false kQ w W (hp w) ((M, Ol a0 263) :: b5) ∧ E 0 = x ∧ E 5 = x ∧ E 6 = g5 ∧ E 7 = b8 ∧ E 43 = (.bool c4)) (bm 32 4294967295) 0 ?_ (fun c4 K U => ?_))
    ·rintro i1 E W ⟨b5, d, e6, e7, e8, e9, f0⟩ J
     refine kV kr (jQ ?_)
     replace d := d.jE (Db St)
     refine CI J f0 (fun c8 J => ?_) (fun c8 J => ?_)
     ·refine sg (Wa (lt (mn (kI (mn (kI ?_))))))
      obtain rfl := sj J
      exact rP d
     exact ll (kF (jQ ⟨e9, _, ⟨rfl, e8⟩, (d.jE St), e6, e7, (by rw [e2]; exact J)⟩))
    refine bC K (fun g K => ?_) (fun g K => ?_)
    ·refine Xn 17 rfl rfl (cB g) b (Xn 18 rfl rfl (cB g) b (Xn 19 rfl rfl (cB g) b (Xu 20 rfl rfl rfl b (Xu 21 rfl rfl rfl b (Xu 22 rfl rfl rfl b (Xu 23 rfl rfl rfl b (Xu 24 rfl rfl rfl b (Xu 25 rfl rfl rfl b (Xu 26 rfl rfl rfl b (Xu 27 rfl rfl rfl b (Xu 28 rfl rfl rfl b (Xu 29 rfl rfl rfl b (Xn 30 rfl rfl (cB g) b (X 31 rfl b (kd (cB g) rfl) ?_))))))))))))))
     obtain rfl := sj K
     refine lU kr (U _ _ ⟨_, (d.jE St), Q, a5, o, q, rfl⟩)
    refine Xg 17 rfl rfl (cB g) b (jN c3) (Xg 18 rfl rfl (cB g) b (kL rfl rfl rfl) (Xg 19 rfl rfl (cB g) b (jN rfl) (PJ K (fun c5 E W => ∃ b6, ST false kQ w W (hp w) ((M, Ol a0 263) :: b6) ∧ E 0 = x ∧ E 5 = x ∧ E 6 = g5 ∧ E 7 = b8 ∧ E 28 = (.bool f7) ∧ E 42 = (.bool c5)) (bm 32 2147483647) 1 ?_ (fun c5 u Y => ?_))))
    ·rintro i2 E W ⟨b6, d, f1, f2, f3, f4, f5, f6⟩ d2
     have b := d.has.jE (Kb Sn)
     refine X 31 rfl b (ke (f5.trans (cB g)) f6) ?_
     obtain rfl := sj d2
     refine lU kr (U _ _ ⟨_, (d.jE St), f1, f2, f3, f4, rfl⟩)
    refine bC u (fun c u => ?_) (fun c u => ?_)
    ·refine Xg 20 rfl rfl (cB c) b (jN Q) (Xg 21 rfl rfl (cB c) b (jN c3) (Xg 22 rfl rfl (cB c) b (kL rfl rfl rfl) (bS u fun a9 O u => rH 23 rfl kr (.inr ⟨19, true, 31, rfl, rfl, by decide, (cB c)⟩) rfl dc (fun _ _ h => h) b (mo (i := (IntKind.i64.wrap ((G : Int) - 1))) (x0 := a9) kW.out cT dG rfl rfl n (kj O) (kh O)) (fun h0 ⟨_, ⟨h8, h9, rfl, f8, f9⟩, d4⟩ => rH 24 rfl kr (.inr ⟨19, true, 31, rfl, rfl, by decide, (cB c)⟩) rfl dc (fun _ _ h => h) b (tY (jH a9.jB) AO rfl d4 rfl) (fun h1 d5 => ri 25 rfl rfl (cB c) b (fun _ l => jG rfl (kl l d5 bL aI)) (Xg 26 rfl rfl (cB c) b (jM AO e4) (ri 27 rfl rfl (cB c) b (fun _ l => jG rfl (jO l Mh (jH a.jB) rfl bL aI)) (bS u fun h3 d7 u => xC 28 rfl rfl (cB c) (Eg d call123 (ki.lD (xO a9.jB a.jB _ _  d7)) (fun g4 d => ?_))))))))))
     have b := d.has.jE (Kb Sn)
     refine ⟨b, (Xg 29 rfl rfl (cB c) b (kL rfl rfl rfl) (Xg 30 rfl rfl (cB g) b (kd (cB c) rfl) ?_))⟩
     obtain rfl := sj u
     refine lU kr (Y _ _ ⟨_, (d.jE St), Q, a5, o, q, rfl, rfl⟩)
    refine Xn 20 rfl rfl (cB c) b (Xn 21 rfl rfl (cB c) b (Xn 22 rfl rfl (cB c) b (Xn 23 rfl rfl (cB c) b (Xn 24 rfl rfl (cB c) b (Xn 25 rfl rfl (cB c) b (Xn 26 rfl rfl (cB c) b (Xn 27 rfl rfl (cB c) b (Xn 28 rfl rfl (cB c) b (Xn 29 rfl rfl (cB c) b (Xg 30 rfl rfl (cB g) b (ke (cB c) rfl) ?_))))))))))
    obtain rfl := sj u
    refine lU kr (Y _ _ ⟨_, (d.jE St), Q, a5, o, q, rfl, rfl⟩)
   refine bC y (fun k y => ?_) (fun k y => ?_)
   ·refine Xn 11 rfl rfl (cB k) b (Xn 12 rfl rfl (cB k) b (Xn 13 rfl rfl (cB k) b (Xn 14 rfl rfl (cB k) b (X 15 rfl b (kd (cB k) rfl) ?_))))
    obtain rfl := sj y
    refine lU kr (Z _ _ ⟨_, (d.jE St), b7, b9, a4, c0, c1, c2, rfl⟩)
   refine Xg 11 rfl rfl (cB k) b (jM Dt a4) (ri 12 rfl rfl (cB k) b (fun _ l => jG rfl (jS l Mh rfl eB)) (bS y fun h4 d8 y => xC 13 rfl rfl (cB k) (Eg d call298 (Bh (.slice H a.lI.length I) a.lI _ _ (L.mono (Pl.mono _) d.jJ) d8) (fun g7 d => ?_))))
   have b := d.has.jE (Kb Sn)
   refine ⟨b, (Xg 14 rfl rfl (cB k) b (mC rfl) (X 15 rfl b (ke (cB k) rfl) ?_))⟩
   obtain rfl := sj y
   refine lU kr (Z _ _ ⟨_, (d.jE St), b7, b9, a4, c0, c1, c2, rfl⟩)
  refine bC z (fun j z => ?_) (fun j z => ?_)
  ·refine Xn 5 rfl rfl (cB j) b (Xn 6 rfl rfl (cB j) b (Xn 7 rfl rfl (cB j) b (Xn 8 rfl rfl (cB j) b (X 9 rfl b (kd (cB j) rfl) ?_))))
   obtain rfl := sj z
   refine lU kr (A _ _ ⟨_, (d.jE St), a3, rfl, rfl, N, v, m, rfl⟩)
  refine Xg 5 rfl rfl (cB j) b (jM FM rfl) (ri 6 rfl rfl (cB j) b (fun _ l => jG rfl (jO l Mh (C1 a.jL.Op a.jL.K a.jL.jB.jF a.jL.jB.jK B a.jL.Kids.length D) rfl aS aC)) (bS z fun h5 d9 z => xC 7 rfl rfl (cB j) (Eg d call107 (rr a.jL (.slice B a.jL.Kids.length D) _ _ (F.mono jT.mono d.jJ) d9) (fun g8 d => ?_))))
  have b := d.has.jE (Kb Sn)
  refine ⟨b, (Xg 8 rfl rfl (cB j) b (mC rfl) (X 9 rfl b (ke (cB j) rfl) ?_))⟩
  obtain rfl := sj z
  refine lU kr (A _ _ ⟨_, (d.jE St), a3, rfl, rfl, N, v, m, rfl⟩)
 rintro E W ⟨a2, ⟨m, v⟩, d, a3, N, t⟩
 rw [aP] at t
 exact jQ (sg (Wa (lt (rQ t d))))
theorem ux (g : Value) (t : List kw) (j : Value) (z : kw → Option Bool) (r : Int) (w : World) (c : Sl ku 15 (hp w) g t) (B : uK Tryz.prog j (hp w) (xM ku) (fun (r : Bool) => (.bool r)) z) (hm : nW t z = some r) :
  ki false Tryz.prog 184 [g, j] w (.int .i64 r) := by
 refine cG 19 func184 rfl (fun b => sg (Wa (lS (Wm (V (lf du rfl c) (Wm (ln (li (fun i E W => ∃ k, (E 8 = .int .i64 (i : Nat) ∧ E 7 = .int .i64 (t.length : Nat)) ∧ ST false kQ w W (hp w) k ∧ E 0 = g ∧ E 1 = j ∧ mM z (t.drop i) i = some r) t.length c.len ⟨_, ⟨rfl, rfl⟩, (b.jE St), rfl, rfl, hm⟩ dc dc dc (fun _ _ _ h => by obtain ⟨_, l, _⟩ := h; exact l) ?_ ?_))))))))
 ·rintro T E W G ⟨k, ⟨d, m⟩, b, u, x, a⟩
  obtain ⟨y, Z, N, M, Q⟩ := kP G
  rw [N] at a
  refine bg (Wh d (Wa (lr (Wh x (Wh u (Wm (VQ (mo (i := (T : Int)) (x0 := y) ku.out du dz rfl rfl c (aJ _) M) (fun a2 ⟨_, ⟨U, Y, rfl, J, K⟩, H⟩ => V (jG rfl (kl b.has H iq dz)) (bS a fun a3 I a => ?_)))))))))
  refine VE (wu y b B (kf.refl _) (xM.mk kT (ku.mk ⟨U, Y, rfl, J, K⟩) b.jJ) rfl (tD rfl) I (fun n b => ln (CI a rfl (fun D a => ?_) (fun D a => ?_))))
  ·refine sg (Wm (Wa (lt (mn (kI (mn (kI ?_)))))))
   obtain rfl := sj a
   exact rP b
  exact ll (kF (jQ ⟨d, _, ⟨rfl, m⟩, (b.jE St), u, x, (by rw [Q]; exact a)⟩))
 rintro E W ⟨k, ⟨d, m⟩, b, u, x, a⟩
 rw [aP] at a
 exact jQ (sg (Wa (lt (rQ a b))))
theorem xB (a : Value) (g : List kw) (c : Value) (i : kw → Option Bool) (r : Bool) (w : World) (j : Sl ku 15 (hp w) a g) (k : uK Tryz.prog c (hp w) (xM ku) (fun (r : Bool) => (.bool r)) i) (hm : oG g i = some r) :
  ki false Tryz.prog 299 [a, c] w (.bool r) := by
 refine cG 9 func299 rfl (fun b => sg (Wa (lr (Wm (Wm (bS hm fun x t hm => VE (Eg b call184 (ux a g c i _ _ (j.mono kT.mono b.jJ) (k.mono b.jJ) t) (fun u b => Wi rfl (Wa (ky ?_))))))))))
 exact jQ (kB (rQ hm b))
theorem EN (a : kw) (g c : Value) (k : Nat) (u : jA) (r : Bool) (w : World) (j : Sl (Pl (kU .u8)) 1 (hp w) g a.Signed.Tag) (i : Sl jC 5 (hp w) c a.jL.Kids) (t : At (hp w) (.pointer (some ⟨k, 0, none⟩)) (jD u)) (hm : uR a u = some r) :
  ki true Tryz.prog 305 [(.agg #[(.int .i64 a.Signed.jA.Kind), (.string a.Signed.jA.Head.jF), (.string a.Signed.jA.Head.jK), (.string a.Signed.jA.kA), (.string a.Signed.jA.B.jF), (.string a.Signed.jA.B.jK), (.string a.Signed.jA.C.jF), (.string a.Signed.jA.C.jK), (.string a.Signed.jA.kz), g, (.int .i64 a.jL.Op), (.int .i64 a.jL.K), (.string a.jL.jB.jF), (.string a.jL.jB.jK), c]), (.pointer (some ⟨k, 0, none⟩))] w (.bool r) := by
 refine cG 9 func305 rfl (fun b => sg ?_)
 obtain ⟨x, z, rfl⟩ := j.form
 obtain ⟨y, B, rfl⟩ := i.form
 refine VE (kH b rfl (fun D G b => Wa (lr (Wf vu (Wf rM (VA b Mh (jD a.Signed.jA) bR aH (V (jG rfl (kl b.has t bR aH)) (V (xg rfl rfl (oQ eG) (tR (tp _ a.Signed.jA u))) (Wa (ln ?_))))))))))
 exact kB (rQ hm b)
theorem G2 (k : jI) (g j : Value) (D : jA) (r : (kw × Bool)) (w : World) {J : km} (l : ni J [] w) (c : Sl ku 15 J g k.jV) (B : Sl kW 8 J j k.kx) (hm : xe k D = some r) :
  lM false Tryz.prog 212 [(.agg #[(.string k.Name), g, j]), (.agg (jD D).toArray)] w J [] (fun v L1 μ1 => ∃ d h, v = (.tuple #[(.agg #[(.int .i64 ((((r.1).Signed).jA).Kind)), (.string (((((r.1).Signed).jA).Head).jF)), (.string (((((r.1).Signed).jA).Head).jK)), (.string ((((r.1).Signed).jA).kA)), (.string (((((r.1).Signed).jA).B).jF)), (.string (((((r.1).Signed).jA).B).jK)), (.string (((((r.1).Signed).jA).C).jF)), (.string (((((r.1).Signed).jA).C).jK)), (.string ((((r.1).Signed).jA).kz)), d, (.int .i64 (((r.1).jL).Op)), (.int .i64 (((r.1).jL).K)), (.string ((((r.1).jL).jB).jF)), (.string ((((r.1).jL).jB).jK)), h]), (.bool (r.2))]) ∧ L1 = [] ∧ Sl (Pl (kU .u8)) 1 μ1 d (((r.1).Signed).Tag) ∧ Sl jC 5 μ1 h (((r.1).jL).Kids)) := by
 refine sO l 19 func212 rfl (fun b => sg ?_)
 obtain ⟨T, U, rfl⟩ := c.form
 obtain ⟨A3, c4, rfl⟩ := B.form
 refine VE (kH b rfl (fun W6 O b => VE (kH b rfl (fun W8 K b => VE (kv b ed (fun F R b => Wa (lr (Wf vA (VB b (Mt (Mt Mh)) rfl rfl gE (V (qX (by exact tD rfl) rfl) (bS hm fun Z Q hm => VE (Eg b call184 (ux (.slice T k.jV.length U) k.jV (.func (.func 305) #[] #[(.pointer (some ⟨K, 0, none⟩))]) (fun (x : kw) => uR x D) _ _ (c.mono kT.mono b.jJ) ⟨305, #[], #[(.pointer (some ⟨K, 0, none⟩))], rfl, call305, fun W x vs r n m hm => by obtain ⟨_, rfl, Y⟩ := m; obtain ⟨s, A, rfl, o, q⟩ := Y.out; exact (EN x s A K D r W o q (At.of (n _ _ (b.at_ (Mt Mh))) _ rfl) hm).lD⟩ Q) (fun L b => Wa (ky ?_))))))))))))))
 refine jQ ?_
 replace b := b.jE (Kb (Db St))
 refine jX (sg (Wm (Wi rfl (ln (CI hm rfl (fun M hm => ?_) (fun M hm => ?_))))))
 ·refine sg (V (ma (v := (.agg Ly.toArray)) pK (ly ed eE (Kl _ eE) kr)) (VO (jY (.agg Ly.toArray) (Ly.toArray) b rfl rfl dz oc nb rfl (fun P b => Wa (ln ?_)))))
  replace b := b.jE (Kb (Db St))
  refine kB (kI ?_)
  obtain rfl := sj hm
  exact pN (v0 := (.agg Ly.toArray)) (v1 := (.bool false)) rfl rfl (jO b.has Mh Ly rfl iq dz) rfl ⟨_, _, _, rfl, (b.mg Sn), (kf.refl _), Lo.refl, (ST.kY b (mB.mem Sn)), (.slice none 0 0), (.slice none 0 0), rfl, rfl, (Sl.nil _ _ _), (Sl.nil _ _ _)⟩
 refine kg (Wf vA (VB b (Mt Mh) rfl rfl gE (Wm (bS hm fun a I hm => VQ (mo (i := Z) (x0 := a) ku.out du dz rfl rfl c (kj I) (kh I)) (fun c1 ⟨_, ⟨c3, c5, rfl, G, H⟩, N⟩ => V (jG rfl (kl b.has N iq dz)) ?_)))))
 obtain ⟨t, y, rfl⟩ := G.form
 obtain ⟨u, z, rfl⟩ := H.form
 let a0 := (C5 a.Signed.jA.Kind a.Signed.jA.Head.jF a.Signed.jA.Head.jK a.Signed.jA.kA a.Signed.jA.B.jF a.Signed.jA.B.jK a.Signed.jA.C.jF a.Signed.jA.C.jK a.Signed.jA.kz t a.Signed.Tag.length y a.jL.Op a.jL.K a.jL.jB.jF a.jL.jB.jK u a.jL.Kids.length z)
 refine VO (jY (.agg a0.toArray) (a0.toArray) b rfl rfl dz oc nb rfl (fun c0 b => Wa (ln ?_)))
 replace b := b.jE (Kb (Db St))
 refine kB ?_
 obtain rfl := sj hm
 exact pN (v0 := (.agg a0.toArray)) (v1 := (.bool true)) rfl rfl (jO b.has Mh a0 rfl iq dz) rfl ⟨_, _, _, rfl, (b.mg Sn), (kf.refl _), Lo.refl, (ST.kY b (mB.mem Sn)), (.slice t a.Signed.Tag.length y), (.slice u a.jL.Kids.length z), rfl, rfl, G, H⟩
theorem CA (c : Value) (u r : List ml) (w : World) {j : km} (I : ni j [] w) (a : Sl kW 8 j c u) (hm : sQ u = some r) :
  lM true Tryz.prog 302 [c] w j [] (fun v G J => ∃ z t, v = z ∧ G = (t ++ []) ∧ kR 263 kW 8 J z r t) := by
 unfold sQ at hm
 refine sO I 8 func302 rfl (fun b => sg (Wa (lS (Wm ?_))))
 obtain ⟨D, Q, rfl⟩ := a.form
 refine V (wT cT rfl rfl) (ln ?_)
 rcases D with _ | M
 ·have y := a.isNil
  replace hm : some [] = some r := by rw [y] at hm; simpa [mG, maxLen] using hm
  refine sV (rfl) (sg (Wa (lt (kI ?_))))
  obtain rfl := sj hm
  refine lq (v := (.slice none 0 0)) rfl rfl ?_
  replace b := b.On
  exact ⟨_, _, _, rfl, (b.mg (Kr Sn)), (kf.refl _), Lo.refl, (ST.kY b (mB.mem (Kr Sn))), (.slice none 0 0), [], rfl, rfl, (kR.nil _ _ _ _)⟩
 ·refine oS (rfl) (kg (VE (kJ (cs := #[]) b pK (wS [] cT dG gk dc rfl (by simp) rfl rfl) (fun N H b => Wm (bS hm fun T x hm => VE (tZ (B := [(H, Ob #[] 263)]) mz b dc cT Dq.1 Dq.2.1 rfl Dq.2.2.1 Dq.2.2.2 rfl rfl (kR.lit mz (l := []) .nil rfl nb rfl) (Bn.sl mz a b.jJ) x (fun K g k b i => Wa (lt ?_))))))))
  obtain rfl := sj hm
  exact lq (v := g) rfl rfl ⟨_, _, _, rfl, (b.mg (Kr Sn)), (kf.refl _), Lo.refl, (ST.kY b (mB.mem (Kr Sn))), g, k, rfl, rfl, i⟩
theorem zM (k : Value) (a0 : List ml) (y : LO) (J : Value) (f1 : ml → Option Bool) (r : List ml) (w : World) {Y : km} (h0 : ni Y (y ++ []) w) (n : kR 263 kW 8 Y k a0 y) (a9 : uK Tryz.prog J Y (xM kW) (fun (r : Bool) => (.bool r)) f1) (hm : qy a0 f1 = some r) :
  lM false Tryz.prog 301 [k, J] w Y (y ++ []) (fun v L1 μ1 => ∃ R, v = R ∧ L1 = [] ∧ Sl kW 8 μ1 R (r)) := by
 refine sO h0 42 func301 rfl (fun d => sg (Wa (lr (Wm (Wm (bS hm fun P d7 hm => VE (Eg d call304 (wh k a0 J f1 _ _ (n.sl mz d.jJ (fun b o s => d.at_ (Ml s))) (a9.mono d.jJ) d7) (fun W3 d => Wa (ln ?_)))))))))
 refine jX (sg (Wm (Wi rfl (ln (CI hm rfl (fun d6 hm => ?_) (fun d6 hm => ?_))))))
 ·refine sg (Wm (Wa (lt (kI ?_))))
  obtain rfl := sj hm
  refine lq (v := k) rfl rfl ?_
  obtain ⟨aa, d, d2, q, d8⟩ := ST.vS mz d n
  exact ⟨_, _, _, rfl, (d.mg Sn), d2, q, (ST.kY d (mB.mem Sn)), k, rfl, rfl, d8⟩
 refine kS (Wm (Wi rfl (Wa (ln (lQ (np (fun m E W => ∃ a2 K G H F, ST false (keys (y ++ [])) w W Y (K ++ F) ∧ E 0 = k ∧ E 1 = J ∧ E 5 = (.int .i64 G) ∧ E 6 = (.int .i64 H) ∧ kR 263 kW 8 Y k a2 K ∧ nf f1 m a2 G H = some r) kC ⟨a0, y, P, (IntKind.i64.wrap (P + 1)), _, (d.jE St), rfl, rfl, rfl, rfl, n, hm⟩ ?_))))))
 rintro m E W ⟨a2, K, G, H, F, d, t, Z, I, N, j, c⟩
 cases m with
 | zero => rw [nf] at c; cases c
 | succ d4 =>
  refine jX (sg (Wh N (Wh t (V (wR cT rfl j) (Wi rfl (ln (CI c rfl (fun b6 c => ?_) (fun b6 c => ?_))))))))
  ·refine kn (jX (CJ c (fun a3 E W => ∃ M L, ST false (keys (y ++ [])) w W Y (M ++ L) ∧ E 0 = k ∧ E 1 = J ∧ E 5 = (.int .i64 a3.2) ∧ E 6 = (.int .i64 H) ∧ kR 263 kW 8 Y k a3.1 M) (fun a3 g => ?_) ?_))
   ·refine bg (Wh t (Wh N (bS g fun a A g => VQ (lE (i := H) kW.out cT dG rfl rfl j (kj A) (kh A)) (fun f5 ⟨_, ⟨f8, f9, rfl, Q, T⟩, c1, e1⟩ => V (jG rfl (kl (nt.hp _) (c1.mono (mf (fun b o s => d.has.2 b o (Ml s)))) jd dG)) (VE (kv d gk (fun e7 f3 d => ?_)))))))
    obtain ⟨u, B, rfl⟩ := Q.form
    obtain ⟨x, D, rfl⟩ := T.form
    let l := (C6 a.jB.jF a.jB.jK a.jL.Op a.jL.K a.jL.jB.jF a.jL.jB.jK u a.jL.Kids.length B x a.lI.length D)
    refine VO (jY (.agg l.toArray) (l.toArray) d rfl rfl dG oc nb rfl (fun e8 d => lr (Wh Z (VA d Mh l jd dG (bS g fun f7 c2 g => VE (wu a d a9 (kf.refl _) (xM.mk mz (kW.mk ⟨(.slice u a.jL.Kids.length B), (.slice x a.lI.length D), rfl, Q, T⟩) d.jJ) rfl (tD rfl) c2 (fun e9 d => V (mC rfl) (ln (CI g rfl (fun b7 g => ?_) (fun b7 g => ?_))))))))))
    ·refine sg (Wh t (Wh I (VA d Mh l jd dG (bS g fun g3 U g => VQ (lE (i := G) kW.out cT dG rfl rfl j (kj U) (kh U)) (fun f6 ⟨_, ⟨g0, g1, rfl, e3, e4⟩, e2, b9⟩ => ?_)))))
     replace d := d.perm (Nr (Qb Qz) Nz)
     refine VO (pW (x1 := a) mz d j rfl rfl (kW.mk ⟨(.slice u a.jL.Kids.length B), (.slice x a.lI.length D), rfl, Q, T⟩) b9 (kh U) dG (fun f0 c7 d b4 => ln ?_))
     replace d := d.jE (Kr (Db St))
     refine jW (Wh I (Wi rfl (Wa (ky (kF (jQ ?_))))))
     obtain rfl := sj g
     exact ⟨c7, _, (d.jE St), t, Z, rfl, N, b4⟩
    refine ll (kF (jQ ?_))
    obtain rfl := sj g
    exact ⟨K, _, (d.jE (Db St)), t, Z, I, N, j⟩
   rintro ⟨d3, d5⟩ E W ⟨M, L, d, c8, c9, d0, d1, c3⟩ c0
   exact jW (Wh d1 (Wi rfl (Wa (ln ⟨d4, bI _, d3, M, d5, (IntKind.i64.wrap (H + 1)), _, (d.jE St), c8, c9, d0, rfl, c3, c0⟩))))
  refine mZ (mI (mI (rf (jQ (sg (Wh t (Wh I (bS c fun _ a4 c => VQ (zy (i := G) cT dG rfl rfl j (rp a4) (ry a4)) (fun g2 c4 => VO (Cq (z := (⟨K0, (⟨0, 0, K0, []⟩ : Formula), []⟩ : ml)) (zs := [(.string zS), (.string zS), (.int .i64 0), (.int .i64 0), (.string zS), (.string zS), (.slice none 0 0), (.slice none 0 0)]) mz d j (kW.mk ⟨(.slice none 0 0), (.slice none 0 0), rfl, (Sl.nil _ _ _), (Sl.nil _ _ _)⟩) cT gk c4 rfl rfl (fun f2 e6 d b5 => lr (Wh t ?_))))))))))))
  refine Wh I (bS c fun _ a5 c => VQ (EO (i := G) cT dG rfl rfl b5 (rp a5) (ry a5)) (fun O c5 => Wa (lt ?_)))
  obtain rfl := sj c
  refine lq (v := O) rfl rfl ?_
  obtain ⟨g7, d, b0, h, c6⟩ := ST.vS mz d c5
  exact ⟨_, _, _, rfl, (d.mg Sn), b0, h, (ST.kY d (mB.mem Sn)), O, rfl, rfl, c6⟩
theorem Cd (j : Value) (t : List jA) (c : jA) (r : Int) (w : World) (g : Sl (Pl jD) 9 (hp w) j t) (hm : uI t c = some r) :
  ki true Tryz.prog 339 [j, (.agg (jD c).toArray)] w (.int .i64 r) := by
 refine cG 19 func339 rfl (fun b => sg (VE (kH b rfl (fun Q J b => Wa (lS (Wm (V (lf aG rfl g) (Wm (ln ?_)))))))))
 refine li (fun i E W => ∃ k, (E 8 = .int .i64 (i : Nat) ∧ E 7 = .int .i64 (t.length : Nat)) ∧ ST true kQ w W (hp w) ((J, Ol (jD c) 53) :: k) ∧ E 0 = j ∧ E 3 = (.pointer (some ⟨J, 0, none⟩)) ∧ pp c (t.drop i) i = some r) t.length g.len ⟨_, ⟨rfl, rfl⟩, (b.jE St), rfl, rfl, hm⟩ dc dc dc (fun _ _ _ h => by obtain ⟨_, m, _⟩ := h; exact m) ?_ ?_
 ·rintro K E W B ⟨k, ⟨l, o⟩, b, u, x, a⟩
  obtain ⟨y, M, H, G, I⟩ := kP B
  rw [H] at a
  refine bg (Wh l (Wa (ln (jX ?_))))
  replace b := b.drew
  have d := b.has.jE (Kb Sn)
  refine kM d ko (XH 0 rfl d (fun _ n => jG x (jO n Mh (jD c) rfl bR aH)) (X 1 rfl d (jN u) (X 2 rfl d (jN rfl) (XQ 3 rfl d (ot (enc := jD) (i := (K : Int)) (x0 := y) aG aH rfl rfl g (aJ _) G) (fun N D => XH 4 rfl d (fun _ n => jG rfl (kl n D bR aH)) (X 5 rfl d (xg rfl rfl (oQ eG) (tR (tp _ c y))) (kV kr (jQ (CI a rfl (fun z a => ?_) (fun z a => ?_))))))))))
  ·refine sg (Wm (Wa (ln ?_)))
   replace b := b.jE (Db St)
   refine kB (mn (kI (mn (kI ?_))))
   obtain rfl := sj a
   exact rP b
  exact ll (kF (jQ ⟨l, _, ⟨rfl, o⟩, (b.jE St), u, x, (by rw [I]; exact a)⟩))
 rintro E W ⟨k, ⟨l, o⟩, b, u, x, a⟩
 rw [aP] at a
 refine jQ ?_
 replace b := b.jE (Db St)
 exact sg (Wa (lt (rQ a b)))
theorem AF (a : Value) (g : List jA) (c : jA) (r : Bool) (w : World) (i : Sl (Pl jD) 9 (hp w) a g) (hm : ra g c = some r) :
  ki true Tryz.prog 262 [a, (.agg (jD c).toArray)] w (.bool r) := by
 refine cG 9 func262 rfl (fun b => sg (VE (kH b rfl (fun k u b => Wa (lr (Wm (VA b Mh (jD c) bR aH (bS hm fun x j hm => VE (Eg b call339 (Cd a g c _ _ (i.mono (Pl.mono _) b.jJ) j) (fun t b => Wi rfl (Wa ?_)))))))))))
 refine ln ?_
 exact kB (rQ hm b)
theorem By (a : Value) (g : List jA) (c : jA) (r : Bool) (w : World) (i : Sl (Pl jD) 9 (hp w) a g) (hm : rV g c = some r) :
  ki true Tryz.prog 201 [a, (.agg (jD c).toArray)] w (.bool r) := by
 refine cG 8 func201 rfl (fun b => sg (VE (kH b rfl (fun k u b => Wa (lr (Wm (VA b Mh (jD c) bR aH (bS hm fun x j hm => VE (Eg b call262 (AF a g c _ _ (i.mono (Pl.mono _) b.jJ) j) (fun t b => Wa (ky ?_)))))))))))
 refine jQ ?_
 exact kB (rQ hm b)
theorem EC (c : ml) (a i : Value) (k : Nat) (u : jA) (r : Bool) (w : World) (j : Sl jC 5 (hp w) a c.jL.Kids) (g : Sl (Pl jD) 9 (hp w) i c.lI) (t : At (hp w) (.pointer (some ⟨k, 0, none⟩)) (jD u)) (hm : qS c u = some r) :
  ki true Tryz.prog 303 [(.agg #[(.string c.jB.jF), (.string c.jB.jK), (.int .i64 c.jL.Op), (.int .i64 c.jL.K), (.string c.jL.jB.jF), (.string c.jL.jB.jK), a, i]), (.pointer (some ⟨k, 0, none⟩))] w (.bool r) := by
 refine cG 9 func303 rfl (fun b => sg ?_)
 obtain ⟨B, D, rfl⟩ := j.form
 obtain ⟨x, y, rfl⟩ := g.form
 refine VE (kH b rfl (fun G I b => Wa (lr (Wf Dt (VB b Mh rfl rfl eB (V (jG rfl (kl b.has t bR aH)) (bS hm fun J z hm => VE (Eg b call201 (By (.slice x c.lI.length y) c.lI u _ _ (g.mono (Pl.mono _) b.jJ) z) (fun H b => V (mC rfl) (Wa (ln ?_)))))))))))
 exact kB (rQ hm b)
theorem GO (i : jI) (a g : Value) (y : jA) (r : List ml) (w : World) {G : km} (q : ni G [] w) (j : Sl ku 15 G a i.jV) (c : Sl kW 8 G g i.kx) (hm : wC i y = some r) :
  lM false Tryz.prog 209 [(.agg #[(.string i.Name), a, g]), (.agg (jD y).toArray)] w G [] (fun v L1 μ1 => ∃ n, v = n ∧ L1 = [] ∧ Sl kW 8 μ1 n (r)) := by
 refine sO q 10 func209 rfl (fun b => sg ?_)
 obtain ⟨A1, c2, rfl⟩ := j.form
 obtain ⟨Y, o, rfl⟩ := c.form
 refine VE (kH b rfl (fun W6 b5 b => VE (kH b rfl (fun W8 z b => Wa (lr (Wf AS (VB b (Mt Mh) rfl rfl isAgg108 (bS hm fun J N hm => ?_))))))))
 refine VE (eD b (bT _) call302 (fun m => lM.lD (CA (.slice Y i.kx.length o) i.kx _ _ m (c.mono mz.mono (kf.refl _)) N)) ?_ (L0 := []))
 rintro _ c3 c6 P b B d ⟨a5, Z, k, rfl, T⟩
 obtain rfl := k.symm
 replace b := b.perm (Tr Tn)
 refine V (qX (by exact tD rfl) rfl) ?_
 replace b := b.perm (Nb (Pr Pz) Nz)
 obtain ⟨c7, b, u, h, M⟩ := ST.Hr (R := [(z, Ol (jD y) 53)]) b
 have K := At.of (M _ _ (.head _)) _ rfl
 refine bS hm fun c1 Q hm => ?_
 refine VE (eD b (Cr Qz Cn) call301 (fun m => (zM a5 J Z (.func (.func 303) #[] #[(.pointer (some ⟨z, 0, none⟩))]) (fun (x : ml) => qS x y) _ _ m (T.mono mz u) ⟨303, #[], #[(.pointer (some ⟨z, 0, none⟩))], rfl, call303, fun W x vs r A s hm => by obtain ⟨_, rfl, a3⟩ := s; obtain ⟨L, O, rfl, F, I⟩ := a3.out; exact (EC x L O z y r W F I (K.mono ((kf.refl _).trans A)) hm).lD⟩ Q)) ?_)
 rintro _ c5 c8 b6 b D l ⟨H, t, rfl, U⟩
 obtain rfl := t.symm
 refine Wa (ln ?_)
 replace b := b.jE (Db St)
 refine kB ?_
 obtain rfl := sj hm
 exact lq (v := H) rfl rfl ⟨_, _, _, rfl, (b.mg Sn), ((B.trans u).trans D), ((d.trans h).trans l), (ST.kY b (mB.mem Sn)), H, rfl, rfl, U⟩
theorem xS (i : Formula) (g : Value) (x : Int) (r : Bool) (w : World) (c : Sl jC 5 (hp w) g i.Kids) (hm : sd i x = some r) :
  ki true Tryz.prog 433 [(.agg #[(.int .i64 i.Op), (.int .i64 i.K), (.string i.jB.jF), (.string i.jB.jK), g]), (.int .i64 x)] w (.bool r) := by
 refine cG 15 func433 rfl (fun b => sg ?_)
 obtain ⟨B, D, rfl⟩ := c.form
 refine VE (kH b rfl (fun G H b => Wa (lr (Wf rD (VB b Mh rfl rfl cL (Wm (Wi rfl (Wm (LJ hm (fun t E W => ∃ u, ST true kQ w W (hp w) u ∧ E 4 = (.bool false) ∧ E 14 = (.bool t)) 5 ?_ (fun t j k => ?_))))))))))
 ·rintro J E W ⟨u, b, I, y⟩ z
  exact Wg y (lt (rQ z b))
 refine bC j (fun a j => ?_) (fun a j => ?_)
 ·refine ug a (jM qm rfl) (ug a (jG rfl (jS b.has Mh rfl eO)) (ug a (lf aF rfl c) (ug a (kL rfl rfl rfl) (V (kd (cB a) rfl) ?_))))
  obtain rfl := sj j
  exact k _ _ ⟨_, (b.jE (Db St)), rfl, rfl⟩
 refine un a (un a (un a (un a (V (ke (cB a) rfl) ?_))))
 obtain rfl := sj j
 exact k _ _ ⟨_, (b.jE (Db St)), rfl, rfl⟩
theorem EY (r : Formula) (w : World) {c : km} (i : ni c [] w) (hm : xm  = some r) :
  lM true Tryz.prog 434 [] w c [] (fun v g j => ∃ a, v = (.agg #[(.int .i64 ((r).Op)), (.int .i64 ((r).K)), (.string (((r).jB).jF)), (.string (((r).jB).jK)), a]) ∧ g = [] ∧ Sl jC 5 j a ((r).Kids)) := by
 refine sO i 2 func434 rfl (fun b => sg (VE (kv b bD (fun k u b => lr (V (ma (v := (.agg IT.toArray)) (mQ rfl) (ly bD bY (xo _ bY) kr)) (VO (jY (.agg IT.toArray) (IT.toArray) b rfl rfl aC oc nb rfl (fun t b => lt ?_))))))))
 obtain rfl := sj hm
 exact pc (v := (.agg IT.toArray)) rfl rfl (jO b.has Mh IT rfl aS aC) ⟨_, _, _, rfl, (b.mg Sn), (kf.refl _), Lo.refl, (ST.kY b (mB.mem Sn)), (.slice none 0 0), rfl, rfl, (Sl.nil _ _ _)⟩
theorem FN (r : Formula) (w : World) {c : km} (i : ni c [] w) (hm : xV  = some r) :
  lM true Tryz.prog 435 [] w c [] (fun v g j => ∃ a, v = (.agg #[(.int .i64 ((r).Op)), (.int .i64 ((r).K)), (.string (((r).jB).jF)), (.string (((r).jB).jK)), a]) ∧ g = [] ∧ Sl jC 5 j a ((r).Kids)) := by
 refine sO i 2 func435 rfl (fun b => sg (VE (kv b bD (fun k u b => lr (V (ma (v := (.agg KK.toArray)) (mQ rfl) (ly bD bY (xo _ bY) kr)) (VO (jY (.agg KK.toArray) (KK.toArray) b rfl rfl aC oc nb rfl (fun t b => lt ?_))))))))
 obtain rfl := sj hm
 exact pc (v := (.agg KK.toArray)) rfl rfl (jO b.has Mh KK rfl aS aC) ⟨_, _, _, rfl, (b.mg Sn), (kf.refl _), Lo.refl, (ST.kY b (mB.mem Sn)), (.slice none 0 0), rfl, rfl, (Sl.nil _ _ _)⟩
theorem Gy (T : Int) (J : Value) (M r : List Formula) (w : World) {Q : km} (h0 : ni Q [] w) (I : Sl jC 5 Q J M) (hm : yq T M = some r) :
  lM true Tryz.prog 437 [(.int .i64 T), J] w Q [] (fun v L1 μ1 => ∃ q, v = q ∧ L1 = [] ∧ Sl jC 5 μ1 q (r)) := by
 refine sO h0 28 func437 rfl (fun b => sg (Wa (lr (Wa (lS (Wm ?_))))))
 refine V (lf aF rfl I) (Wm (ln (li (fun i E W => ∃ t G k H, (E 10 = .int .i64 (i : Nat) ∧ E 9 = .int .i64 (M.length : Nat)) ∧ ST true (keys []) w W Q (k ++ H) ∧ E 0 = (.int .i64 T) ∧ E 5 = t ∧ E 8 = J ∧ kR 113 jC 5 Q t G k ∧ pG T (M.drop i) G = some r) M.length I.len ⟨(.slice none 0 0), ([]), [], _, ⟨rfl, rfl⟩, (b.jE St), rfl, rfl, rfl, (kR.nil _ _ _ _), hm⟩ dc dc dc (fun _ _ _ h => by obtain ⟨_, _, _, _, n, _⟩ := h; exact n) ?_ ?_)))
 ·rintro b5 E W a4 ⟨t, G, k, H, ⟨m, o⟩, b, x, y, z, u, c⟩
  obtain ⟨a, b7, F, A, K⟩ := kP a4
  rw [F] at c
  refine bg (VQ (mo (i := (b5 : Int)) (x0 := a) jC.out aF aC z m I (aJ _) A) (fun c8 ⟨_, ⟨c9, rfl, D⟩, a5⟩ => V (jG rfl (kl b.has a5 aS aC)) (VE (kv b bD (fun c0 c5 b => ?_)))))
  obtain ⟨g, j, rfl⟩ := D.form
  let a0 := (C1 a.Op a.K a.jB.jF a.jB.jK g a.Kids.length j)
  refine VO (jY (.agg a0.toArray) (a0.toArray) b rfl rfl aC oc nb rfl (fun c1 b => lr (Wf rD (VB b Mh rfl rfl cL (Wh x (Wi rfl (ln (CI c rfl (fun Z c => ?_) (fun Z c => ?_)))))))))
  ·refine jW (Wh y (Wf qm (VB b Mh rfl rfl eO ?_)))
   replace b := b.perm (Nr (Qb Qz) Nz)
   refine bS c fun O a2 c => VE (tZ (B := k) jT b dc aF nq.1 nq.2.1 rfl nq.2.2.1 nq.2.2.2 rfl rfl u (Bn.sl jT D b.jJ) a2 (fun c2 R a9 b U => Wa (ky (kF (jQ ?_)))))
   replace b := b.jE (Kr (Db St))
   exact ⟨m, R, O, a9, _, ⟨rfl, o⟩, (b.jE St), x, rfl, z, U, (by rw [K]; exact c)⟩
  refine jW (Wh y (VA b Mh a0 aS aC (VE (kJ (cs := a0.toArray) b (mQ rfl) (na aF aC bD) (fun c3 c6 b => ?_)))))
  replace b := b.perm (Nr (Qb (Qb Qz)) Nz)
  refine bS c fun P a3 c => VE (tZ (B := k) jT b dc aF nq.1 nq.2.1 rfl nq.2.2.1 nq.2.2.2 rfl rfl u (Bn.lit jT (l := [a]) (.cons (ys := C1 a.Op a.K a.jB.jF a.jB.jK g a.Kids.length j) (jC.mk ⟨(.slice g a.Kids.length j), rfl, D⟩) .nil) rfl nb (b.at_ (Ma Mh))) a3 (fun c4 b4 L b Y => Wa (ky (kF (jQ ?_)))))
  replace b := b.jE (Kr (Db (Db St)))
  exact ⟨m, b4, P, L, _, ⟨rfl, o⟩, (b.jE St), x, rfl, z, Y, (by rw [K]; exact c)⟩
 rintro E W ⟨t, G, k, H, ⟨m, o⟩, b, x, y, z, u, c⟩
 rw [aP] at c
 refine jQ (sg (Wh y (Wa (lt ?_))))
 obtain rfl := sj c
 refine lq (v := t) rfl rfl ?_
 obtain ⟨d1, b, N, d, s⟩ := ST.vS jT b u
 exact ⟨_, _, _, rfl, (b.mg Sn), N, d, (ST.kY b (mB.mem Sn)), t, rfl, rfl, s⟩
theorem yP (a : Formula) (g : Value) (i : Nat) (j : Int) (r : Bool) (w : World) (c : Sl jC 5 (hp w) g a.Kids) (k : At (hp w) (.pointer (some ⟨i, 0, none⟩)) [(.int .i64 j)]) (hm : pR a j = some r) :
  ki true Tryz.prog 438 [(.agg #[(.int .i64 a.Op), (.int .i64 a.K), (.string a.jB.jF), (.string a.jB.jK), g]), (.pointer (some ⟨i, 0, none⟩))] w (.bool r) := by
 refine cG 7 func438 rfl (fun b => sg ?_)
 obtain ⟨t, u, rfl⟩ := c.form
 refine VE (kH b rfl (fun z D b => Wa (lr (VA b Mh (C1 a.Op a.K a.jB.jF a.jB.jK t a.Kids.length u) aS aC (V (jG rfl (qO b.has (y := (.int .i64 j)) k cL)) (bS hm fun G x hm => VE (Eg b call433 (xS a (.slice t a.Kids.length u) j _ _ (c.mono jT.mono b.jJ) x) (fun B b => Wa (ln ?_)))))))))
 exact kB (rQ hm b)
theorem Al (c : Value) (u r : List Formula) (w : World) {j : km} (I : ni j [] w) (a : Sl jC 5 j c u) (hm : qY u = some r) :
  lM true Tryz.prog 456 [c] w j [] (fun v G J => ∃ z t, v = z ∧ G = (t ++ []) ∧ kR 113 jC 5 J z r t) := by
 unfold qY at hm
 refine sO I 8 func456 rfl (fun b => sg (Wa (lS (Wm ?_))))
 obtain ⟨D, Q, rfl⟩ := a.form
 refine V (wT aF rfl rfl) (ln ?_)
 rcases D with _ | M
 ·have y := a.isNil
  replace hm : some [] = some r := by rw [y] at hm; simpa [mG, maxLen] using hm
  refine sV (rfl) (sg (Wa (lt (kI ?_))))
  obtain rfl := sj hm
  refine lq (v := (.slice none 0 0)) rfl rfl ?_
  replace b := b.On
  exact ⟨_, _, _, rfl, (b.mg (Kr Sn)), (kf.refl _), Lo.refl, (ST.kY b (mB.mem (Kr Sn))), (.slice none 0 0), [], rfl, rfl, (kR.nil _ _ _ _)⟩
 ·refine oS (rfl) (kg (VE (kJ (cs := #[]) b pK (wS [] aF aC bD dc rfl (by simp) rfl rfl) (fun N H b => Wm (bS hm fun T x hm => VE (tZ (B := [(H, Ob #[] 113)]) jT b dc aF nq.1 nq.2.1 rfl nq.2.2.1 nq.2.2.2 rfl rfl (kR.lit jT (l := []) .nil rfl nb rfl) (Bn.sl jT a b.jJ) x (fun K g k b i => Wa (lt ?_))))))))
  obtain rfl := sj hm
  exact lq (v := g) rfl rfl ⟨_, _, _, rfl, (b.mg (Kr Sn)), (kf.refl _), Lo.refl, (ST.kY b (mB.mem (Kr Sn))), g, k, rfl, rfl, i⟩
theorem qW (y : Value) (a0 : List Formula) (D : LO) (s a2 : Int) (T : Value) (f3 : (Formula × Formula) → Option Int) (r : List Formula) (w : World) {μ0 : km} (h0 : ni μ0 (D ++ []) w) (h4 : kR 113 jC 5 μ0 y a0 D) (h5 : uK Tryz.prog T μ0 (th jC jC) (fun (r : Int) => (.int .i64 r)) f3) (hm : mF a0 s a2 f3 = some r) :
  lM false Tryz.prog 467 [y, (.int .i64 s), (.int .i64 a2), T] w μ0 (D ++ []) (fun v L1 μ1 => ∃ S1, v = (.tuple #[]) ∧ L1 = (S1 ++ []) ∧ kR 113 jC 5 μ1 y r S1) := by
 refine sO h0 53 func467 rfl (fun n => sg (Wm (Wi rfl (Wa (ln (uD (lQ (np (fun m E W => ∃ Y J x c9, ST false (keys (D ++ [])) w W μ0 (J ++ c9) ∧ E 0 = y ∧ E 1 = (.int .i64 s) ∧ E 2 = (.int .i64 a2) ∧ E 3 = T ∧ E 8 = (.int .i64 x) ∧ kR 113 jC 5 μ0 y Y J ∧ lu a2 s f3 m Y x = some r) kC ⟨a0, D, (IntKind.i64.wrap (s + 1)), _, (n.jE St), rfl, rfl, rfl, rfl, rfl, h4, hm⟩ ?_))))))))
 rintro m E W ⟨Y, J, x, c9, n, f9, g0, d1, g1, O, c6, u⟩
 cases m with
 | zero => rw [lu] at u; cases u
 | succ h2 =>
  refine jX (sg (Wh O (Wh d1 (Wi rfl (ln (CI u rfl (fun e9 u => ?_) (fun e9 u => ?_)))))))
  ·refine kn (jX (bg (Wh O (Wa (ln (uD (CJ u (fun P E W => ∃ U d0, ST false (keys (D ++ [])) w W μ0 (U ++ d0) ∧ E 0 = y ∧ E 1 = (.int .i64 s) ∧ E 2 = (.int .i64 a2) ∧ E 3 = T ∧ E 8 = (.int .i64 x) ∧ kR 113 jC 5 μ0 y P U) (fun P f1 => ?_) ?_)))))))
   ·refine lQ (np (fun m E W => ∃ M B j b7, ST false (keys (D ++ [])) w W μ0 (B ++ b7) ∧ E 0 = y ∧ E 1 = (.int .i64 s) ∧ E 2 = (.int .i64 a2) ∧ E 3 = T ∧ E 8 = (.int .i64 x) ∧ E 9 = (.int .i64 j) ∧ kR 113 jC 5 μ0 y M B ∧ lJ s f3 m M j = some P) kC ⟨Y, J, x, _, (n.jE St), f9, g0, d1, g1, O, rfl, c6, f1⟩ ?_)
    rintro m E W ⟨M, B, j, b7, n, K, Z, c0, a3, c1, G, t, I⟩
    cases m with
    | zero => rw [lJ] at I; cases I
    | succ f4 =>
     refine jX (jX ?_)
     replace n := n.drew
     have d := n.has.jE (Kr Sn)
     refine kM d ko (X 0 rfl d (jN G) (X 1 rfl d (jN Z) (X 2 rfl d (kL rfl rfl rfl) (X 3 rfl d (jN rfl) (PJ I (fun c7 E W => ∃ b9, ST false (keys (D ++ [])) w W μ0 (B ++ b9) ∧ E 0 = y ∧ E 1 = (.int .i64 s) ∧ E 2 = (.int .i64 a2) ∧ E 3 = T ∧ E 8 = (.int .i64 x) ∧ E 9 = (.int .i64 j) ∧ E 34 = (.bool c7)) (bm 17 131071) 0 ?_ (fun c7 g a4 => ?_))))))
     ·rintro k2 E W ⟨b9, n, z, c2, c3, c4, c5, H, e8⟩ c
      have d := n.has.jE (Kr Sn)
      refine kV kr (jQ (CI c e8 (fun d3 c => ?_) (fun d3 c => ?_)))
      ·refine kn (jX (lQ ?_))
       replace n := n.drew
       have d := n.has.jE Sn
       have q := n.has.jE (Kr Sn)
       refine tV 15 d q ko (kX 0 rfl kr (.inl rfl) rfl dc (fun _ _ h => ⟨h.1, lF br h.2⟩) ⟨d, fun _ => q⟩ (fun _ _ _ _ => jN z) (kX 1 rfl kr (.inl rfl) rfl dc (fun _ _ h => ⟨h.1, lF br h.2⟩) ⟨d, fun _ => q⟩ (fun _ _ _ _ => jN H) (kX 2 rfl kr (.inl rfl) rfl dc (fun _ _ h => ⟨h.1, lF br h.2⟩) ⟨d, fun _ => q⟩ (fun _ _ _ _ => jN z) (kX 3 rfl kr (.inl rfl) rfl dc (fun _ _ h => ⟨h.1, lF br h.2⟩) ⟨d, fun _ => q⟩ (fun _ _ _ _ => jN H) (kX 4 rfl kr (.inl rfl) rfl dc (fun _ _ h => ⟨h.1, lF br h.2⟩) ⟨d, fun _ => q⟩ (fun _ _ _ _ => kL rfl rfl rfl) (kX 5 rfl kr (.inl rfl) rfl dc (fun _ _ h => ⟨h.1, lF br h.2⟩) ⟨d, fun _ => q⟩ (fun _ _ _ _ => jN z) (kX 6 rfl kr (.inl rfl) rfl dc (fun _ _ h => ⟨h.1, lF br h.2⟩) ⟨d, fun _ => q⟩ (fun _ _ _ _ => jN H) (kX 7 rfl kr (.inl rfl) rfl dc (fun _ _ h => ⟨h.1, lF br h.2⟩) ⟨d, fun _ => q⟩ (fun _ _ _ _ => kL rfl rfl rfl) (bS c fun a5 b0 c => rH 8 rfl kr (.inl rfl) rfl dc (fun _ _ h => ⟨h.1, lF br h.2⟩) ⟨d, fun _ => q⟩ (lE (i := (IntKind.i64.wrap (j - 1))) jC.out aF aC rfl rfl t (kj b0) (kh b0)) (fun i9 ⟨_, ⟨j8, rfl, a8⟩, d6, h6⟩ => kX 9 rfl kr (.inl rfl) rfl dc (fun _ _ h => ⟨h.1, lF br h.2⟩) ⟨d, fun _ => q⟩ (fun l W F R => have A := (R.2 (F.B6 15 [9] kr rfl)); jG rfl (kl (nt.hp _) (d6.mono (mf (fun b o L => A.2 b o (Ml L)))) aS aC)) (kX 10 rfl kr (.inl rfl) rfl dc (fun _ _ h => ⟨h.1, lF br h.2⟩) ⟨d, fun _ => q⟩ (fun _ _ _ _ => jN z) (kX 11 rfl kr (.inl rfl) rfl dc (fun _ _ h => ⟨h.1, lF br h.2⟩) ⟨d, fun _ => q⟩ (fun _ _ _ _ => jN H) (bS c fun k b1 c => ?_)))))))))))))
       refine rH 12 rfl kr (.inl rfl) rfl dc (fun _ _ h => ⟨h.1, lF br h.2⟩) ⟨d, fun _ => q⟩ (lE (i := j) jC.out aF aC rfl rfl t (kj b1) (kh b1)) (fun j0 ⟨_, ⟨j9, rfl, a9⟩, d7, h7⟩ => kX 13 rfl kr (.inl rfl) rfl dc (fun _ _ h => ⟨h.1, lF br h.2⟩) ⟨d, fun _ => q⟩ (fun l W F R => have A := (R.2 (F.B6 15 [13] kr rfl)); jG rfl (kl (nt.hp _) (d7.mono (mf (fun b o L => A.2 b o (Ml L)))) aS aC)) (bS c fun k3 N c => rH 14 rfl kr (.inl rfl) rfl dc (fun _ _ h => ⟨h.1, lF br h.2⟩) ⟨d, fun _ => q⟩ (lE (i := j) jC.out aF aC rfl rfl t (kj N) (kh N)) (fun j3 ⟨_, ⟨k0, rfl, i2⟩, i0, d4⟩ => ?_)))
       obtain ⟨e3, e6, rfl⟩ := a8.form
       refine XO 15 rfl (pW (x1 := a5) jT n t rfl rfl (jC.mk ⟨(.slice e3 a5.Kids.length e6), rfl, a8⟩) d4 (kh N) aC (fun i6 i4 n a7 => ?_))
       have d := n.has.jE Sn
       refine ⟨⟨d, fun h => ym kr h⟩, (bS c fun k4 Q c => rH 16 rfl kr (.inl rfl) rfl dc (fun _ _ h => ⟨h.1, lF br h.2⟩) ⟨d, fun h => ym kr h⟩ (lE (i := (IntKind.i64.wrap (j - 1))) jC.out aF aC rfl rfl a7 (kj Q) (kh Q)) (fun j4 ⟨_, ⟨k1, rfl, i3⟩, i1, d5⟩ => ?_))⟩
       obtain ⟨e4, e7, rfl⟩ := a9.form
       refine XO 17 rfl (pW (x1 := (⟨k.Op, k.K, k.jB, k.Kids⟩ : Formula)) jT n a7 rfl rfl (jC.mk ⟨(.slice e4 k.Kids.length e7), rfl, a9⟩) d5 (kh Q) aC (fun i7 e5 n d2 => ?_))
       have d := n.has.jE Sn
       exact ⟨⟨d, fun h => ym kr h⟩, (kV kr (kF (jQ (jW (Wh H (Wi rfl (Wa (ln ⟨f4, bI _, ((M.set (Int.toNat j) a5).set (Int.toNat (IntKind.i64.wrap (j - 1))) (⟨k.Op, k.K, k.jB, k.Kids⟩ : Formula)), e5, (IntKind.i64.wrap (j - 1)), _, (n.jE St), z, c2, c3, c4, c5, rfl, d2, c⟩))))))))⟩
      refine mZ (mI (mI (rf (jQ ?_))))
      obtain rfl := sj c
      exact ⟨B, _, (n.jE St), z, c2, c3, c4, c5, t⟩
     refine bC g (fun a g => ?_) (fun a g => ?_)
     ·refine Xg 4 rfl rfl (cB a) d (jN a3) (Xg 5 rfl rfl (cB a) d (jN K) (Xg 6 rfl rfl (cB a) d (jN G) (bS g fun f7 b2 g => rH 7 rfl kr (.inr ⟨3, true, 21, rfl, rfl, by decide, (cB a)⟩) rfl dc (fun _ _ h => h) d (lE (i := j) jC.out aF aC rfl rfl t (kj b2) (kh b2)) (fun j5 ⟨_, ⟨f5, rfl, e1⟩, d8, h8⟩ => ri 8 rfl rfl (cB a) d (fun _ A => jG rfl (kl (nt.hp _) (d8.mono (mf (fun b o L => A.2 b o (Ml L)))) aS aC)) (Xg 9 rfl rfl (cB a) d (jN K) (Xg 10 rfl rfl (cB a) d (jN G) (Xg 11 rfl rfl (cB a) d (kL rfl rfl rfl) (bS g fun f8 b3 g => rH 12 rfl kr (.inr ⟨3, true, 21, rfl, rfl, by decide, (cB a)⟩) rfl dc (fun _ _ h => h) d (lE (i := (IntKind.i64.wrap (j - 1))) jC.out aF aC rfl rfl t (kj b3) (kh b3)) (fun j6 ⟨_, ⟨f6, rfl, e2⟩, d9, h9⟩ => ri 13 rfl rfl (cB a) d (fun _ A => jG rfl (kl (nt.hp _) (d9.mono (mf (fun b o L => A.2 b o (Ml L)))) aS aC)) (bS g fun j7 e0 g => xC 14 rfl rfl (cB a) (wu (f7, f8) n h5 (kf.refl _) (th.mk jT jT (jC.mk ⟨f5, rfl, e1⟩) (jC.mk ⟨f6, rfl, e2⟩) n.jJ) rfl (ua rfl rfl) e0 (fun i8 n => ?_))))))))))))
      have d := n.has.jE (Kr Sn)
      refine ⟨d, (Xg 15 rfl rfl (cB a) d (kL rfl rfl rfl) (X 16 rfl d (kd (cB a) rfl) ?_))⟩
      obtain rfl := sj g
      refine lU kr (a4 _ _ ⟨_, (n.jE St), K, Z, c0, a3, c1, G, rfl⟩)
     refine Xn 4 rfl rfl (cB a) d (Xn 5 rfl rfl (cB a) d (Xn 6 rfl rfl (cB a) d (Xn 7 rfl rfl (cB a) d (Xn 8 rfl rfl (cB a) d (Xn 9 rfl rfl (cB a) d (Xn 10 rfl rfl (cB a) d (Xn 11 rfl rfl (cB a) d (Xn 12 rfl rfl (cB a) d (Xn 13 rfl rfl (cB a) d (Xn 14 rfl rfl (cB a) d (Xn 15 rfl rfl (cB a) d (X 16 rfl d (ke (cB a) rfl) ?_))))))))))))
     obtain rfl := sj g
     refine lU kr (a4 _ _ ⟨_, (n.jE St), K, Z, c0, a3, c1, G, rfl⟩)
   rintro h1 E W ⟨U, d0, n, g2, g3, g4, g7, g8, f2⟩ f0
   exact kF (jQ (jW (Wh g8 (Wi rfl (Wa (ln ⟨h2, bI _, h1, U, (IntKind.i64.wrap (x + 1)), _, (n.jE St), g2, g3, g4, g7, rfl, f2, f0⟩))))))
  refine mZ (mI (mI (rf (jQ (pM ?_)))))
  obtain rfl := sj u
  exact ow rfl ⟨_, _, _, rfl, (n.mg (Kr Sn)), (kf.refl _), Lo.refl, (ST.kY n (mB.mem (Kr Sn))), J, rfl, rfl, c6⟩
theorem pw (x : Value) (a0 : List Formula) (t : LO) (G H a3 : Int) (a5 : Value) (f4 : (Formula × Formula) → Option Int) (r : List Formula) (w : World) {Y : km} (h0 : ni Y (t ++ []) w) (c0 : kR 113 jC 5 Y x a0 t) (d5 : uK Tryz.prog a5 Y (th jC jC) (fun (r : Int) => (.int .i64 r)) f4) (hm : mA a0 G H a3 f4 = some r) :
  lM true Tryz.prog 472 [x, (.int .i64 G), (.int .i64 H), (.int .i64 a3), a5] w Y (t ++ []) (fun v L1 μ1 => ∃ S1, v = (.tuple #[]) ∧ L1 = (S1 ++ []) ∧ kR 113 jC 5 μ1 x r S1) := by
 refine sO h0 38 func472 rfl (fun q => sg (Wa (ln (uD (lQ (np (fun m E W => ∃ D y c Z, ST true (keys (t ++ [])) w W Y (y ++ Z) ∧ E 0 = x ∧ E 1 = (.int .i64 G) ∧ E 2 = (.int .i64 H) ∧ E 3 = (.int .i64 a3) ∧ E 10 = (.int .i64 c) ∧ kR 113 jC 5 Y x D y ∧ lX a3 H G m D c = some r) kC ⟨a0, t, 0, _, (q.jE St), rfl, rfl, rfl, rfl, rfl, c0, hm⟩ ?_))))))
 rintro m E W ⟨D, y, c, Z, q, u, I, J, a4, k, j, a⟩
 cases m with
 | zero => rw [lX] at a; cases a
 | succ c1 =>
  refine jX (sg (Wh k (Wh a4 (Wi rfl (ln (CI a rfl (fun R a => ?_) (fun R a => ?_)))))))
  ·refine kn (jX (lQ ?_))
   replace q := q.drew
   have d := q.has.jE Sn
   have n := q.has.jE (Kr Sn)
   refine tV 21 d n ko (kX 0 rfl kr (.inl rfl) rfl dc (fun _ _ h => ⟨h.1, lF br h.2⟩) ⟨d, fun _ => n⟩ (fun _ _ _ _ => jN u) (kX 1 rfl kr (.inl rfl) rfl dc (fun _ _ h => ⟨h.1, lF br h.2⟩) ⟨d, fun _ => n⟩ (fun _ _ _ _ => jN I) (kX 2 rfl kr (.inl rfl) rfl dc (fun _ _ h => ⟨h.1, lF br h.2⟩) ⟨d, fun _ => n⟩ (fun _ _ _ _ => jN k) (kX 3 rfl kr (.inl rfl) rfl dc (fun _ _ h => ⟨h.1, lF br h.2⟩) ⟨d, fun _ => n⟩ (fun _ _ _ _ => kL rfl rfl rfl) (kX 4 rfl kr (.inl rfl) rfl dc (fun _ _ h => ⟨h.1, lF br h.2⟩) ⟨d, fun _ => n⟩ (fun _ _ _ _ => jN u) (kX 5 rfl kr (.inl rfl) rfl dc (fun _ _ h => ⟨h.1, lF br h.2⟩) ⟨d, fun _ => n⟩ (fun _ _ _ _ => jN J) (kX 6 rfl kr (.inl rfl) rfl dc (fun _ _ h => ⟨h.1, lF br h.2⟩) ⟨d, fun _ => n⟩ (fun _ _ _ _ => jN k) (kX 7 rfl kr (.inl rfl) rfl dc (fun _ _ h => ⟨h.1, lF br h.2⟩) ⟨d, fun _ => n⟩ (fun _ _ _ _ => kL rfl rfl rfl) (kX 8 rfl kr (.inl rfl) rfl dc (fun _ _ h => ⟨h.1, lF br h.2⟩) ⟨d, fun _ => n⟩ (fun _ _ _ _ => jN u) (kX 9 rfl kr (.inl rfl) rfl dc (fun _ _ h => ⟨h.1, lF br h.2⟩) ⟨d, fun _ => n⟩ (fun _ _ _ _ => jN J) (kX 10 rfl kr (.inl rfl) rfl dc (fun _ _ h => ⟨h.1, lF br h.2⟩) ⟨d, fun _ => n⟩ (fun _ _ _ _ => jN k) (kX 11 rfl kr (.inl rfl) rfl dc (fun _ _ h => ⟨h.1, lF br h.2⟩) ⟨d, fun _ => n⟩ (fun _ _ _ _ => kL rfl rfl rfl) (bS a fun K T a => rH 12 rfl kr (.inl rfl) rfl dc (fun _ _ h => ⟨h.1, lF br h.2⟩) ⟨d, fun _ => n⟩ (lE (i := (IntKind.i64.wrap (H + c))) jC.out aF aC rfl rfl j (kj T) (kh T)) (fun d6 ⟨_, ⟨e0, rfl, N⟩, b1, c4⟩ => ?_))))))))))))))
   refine kX 13 rfl kr (.inl rfl) rfl dc (fun _ _ h => ⟨h.1, lF br h.2⟩) ⟨d, fun _ => n⟩ (fun l W s L => have A := (L.2 (s.B6 21 [13] kr rfl)); jG rfl (kl (nt.hp _) (b1.mono (mf (fun b o F => A.2 b o (Ml F)))) aS aC)) (kX 14 rfl kr (.inl rfl) rfl dc (fun _ _ h => ⟨h.1, lF br h.2⟩) ⟨d, fun _ => n⟩ (fun _ _ _ _ => jN u) (kX 15 rfl kr (.inl rfl) rfl dc (fun _ _ h => ⟨h.1, lF br h.2⟩) ⟨d, fun _ => n⟩ (fun _ _ _ _ => jN I) (kX 16 rfl kr (.inl rfl) rfl dc (fun _ _ h => ⟨h.1, lF br h.2⟩) ⟨d, fun _ => n⟩ (fun _ _ _ _ => jN k) (kX 17 rfl kr (.inl rfl) rfl dc (fun _ _ h => ⟨h.1, lF br h.2⟩) ⟨d, fun _ => n⟩ (fun _ _ _ _ => kL rfl rfl rfl) (bS a fun g U a => rH 18 rfl kr (.inl rfl) rfl dc (fun _ _ h => ⟨h.1, lF br h.2⟩) ⟨d, fun _ => n⟩ (lE (i := (IntKind.i64.wrap (G + c))) jC.out aF aC rfl rfl j (kj U) (kh U)) (fun d7 ⟨_, ⟨e1, rfl, Q⟩, b2, c5⟩ => kX 19 rfl kr (.inl rfl) rfl dc (fun _ _ h => ⟨h.1, lF br h.2⟩) ⟨d, fun _ => n⟩ (fun l W s L => have A := (L.2 (s.B6 21 [19] kr rfl)); jG rfl (kl (nt.hp _) (b2.mono (mf (fun b o F => A.2 b o (Ml F)))) aS aC)) (bS a fun e5 z a => rH 20 rfl kr (.inl rfl) rfl dc (fun _ _ h => ⟨h.1, lF br h.2⟩) ⟨d, fun _ => n⟩ (lE (i := (IntKind.i64.wrap (G + c))) jC.out aF aC rfl rfl j (kj z) (kh z)) (fun d8 ⟨_, ⟨e2, rfl, c8⟩, c6, a9⟩ => ?_))))))))
   let O := (⟨g.Op, g.K, g.jB, g.Kids⟩ : Formula)
   obtain ⟨b3, b7, rfl⟩ := N.form
   refine XO 21 rfl (pW (x1 := K) jT q j rfl rfl (jC.mk ⟨(.slice b3 K.Kids.length b7), rfl, N⟩) a9 (kh z) aC (fun d2 d1 q M => ?_))
   have d := q.has.jE Sn
   refine ⟨⟨d, fun h => ym kr h⟩, (bS a fun e6 B a => rH 22 rfl kr (.inl rfl) rfl dc (fun _ _ h => ⟨h.1, lF br h.2⟩) ⟨d, fun h => ym kr h⟩ (lE (i := (IntKind.i64.wrap (H + c))) jC.out aF aC rfl rfl M (kj B) (kh B)) (fun d9 ⟨_, ⟨e3, rfl, c9⟩, c7, b0⟩ => ?_))⟩
   obtain ⟨b4, b9, rfl⟩ := Q.form
   refine XO 23 rfl (pW (x1 := O) jT q M rfl rfl (jC.mk ⟨(.slice b4 g.Kids.length b9), rfl, Q⟩) b0 (kh B) aC (fun d3 b5 q P => ?_))
   have d := q.has.jE Sn
   exact ⟨⟨d, fun h => ym kr h⟩, (kV kr (kF (jQ (jW (Wh k (Wi rfl (Wa (ln ⟨c1, bI _, ((D.set (Int.toNat (IntKind.i64.wrap (G + c))) K).set (Int.toNat (IntKind.i64.wrap (H + c))) O), b5, (IntKind.i64.wrap (c + 1)), _, (q.jE St), u, I, J, a4, rfl, P, a⟩))))))))⟩
  refine mZ (mI (mI (rf (jQ (pM ?_)))))
  obtain rfl := sj a
  exact ow rfl ⟨_, _, _, rfl, (q.mg (Kr Sn)), (kf.refl _), Lo.refl, (ST.kY q (mB.mem (Kr Sn))), y, rfl, rfl, j⟩
theorem xy (k : Value) (a0 : List Formula) (y : LO) (q D a3 : Int) (B : Value) (U : (Formula × Formula) → Option Int) (r : List Formula) (w : World) {T : km} (h0 : ni T (y ++ []) w) (c5 : kR 113 jC 5 T k a0 y) (Q : uK Tryz.prog B T (th jC jC) (fun (r : Int) => (.int .i64 r)) U) (hm : mx a0 q D a3 U = some r) :
  lM true Tryz.prog 470 [k, (.int .i64 q), (.int .i64 D), (.int .i64 a3), B] w T (y ++ []) (fun v L1 μ1 => ∃ S1, v = (.tuple #[]) ∧ L1 = (S1 ++ []) ∧ kR 113 jC 5 μ1 k r S1) := by
 refine sO h0 58 func470 rfl (fun b => sg (Wm (Wm (Wi rfl (Wa (lr (Wm (Wm (Wi rfl (Wa ?_))))))))))
 refine ln (jX (lQ (np (fun m E W => ∃ z x c t I Y, kf T I ∧ Lo (keys (y ++ [])) w T I ∧ ST true (keys (y ++ [])) w W I (x ++ Y) ∧ E 0 = k ∧ E 2 = (.int .i64 D) ∧ E 4 = B ∧ E 10 = (.int .i64 c) ∧ E 11 = (.int .i64 t) ∧ kR 113 jC 5 I k z x ∧ mj D U m z c t = some r) kC ⟨a0, y, (IntKind.i64.wrap (D - q)), (IntKind.i64.wrap (a3 - D)), T, _, (kf.refl _), Lo.refl, (b.jE St), rfl, rfl, rfl, rfl, rfl, c5, hm⟩ ?_)))
 rintro m E W ⟨z, x, c, t, I, Y, i, d, b, G, j, H, g, u, J, a⟩
 let a2 := (IntKind.i64.wrap (D - c))
 cases m with
 | zero => rw [mj] at a; cases a
 | succ s =>
  refine jX (sg (Wh g (Wh u (Wi rfl (ln (CI a rfl (fun A a => ?_) (fun A a => ?_)))))))
  ·refine kn (bg (Wh g (Wh u (Wi rfl (ln (CI a rfl (fun F a => ?_) (fun F a => ?_)))))))
   ·refine sg (Wh G (Wh j (Wh g (Wi rfl (Wh j (Wh u (Wh H (bS a fun c6 L a => ?_))))))))
    refine VE (eD b (Cr Qz Cn) call472 (fun o => (pw k z x a2 D t B U _ _ o J (Q.mono i) L)) ?_)
    rintro _ e0 c8 d2 b Z h ⟨b9, K, rfl, R⟩
    obtain rfl := K.symm
    replace b := b.perm (Tr Tn)
    exact ln (jW (Wh g (Wh u (Wi rfl (Wa (ky (kF (jQ ⟨s, bI _, c6, b9, (IntKind.i64.wrap (c - t)), t, c8, _, (i.trans Z), (d.trans h), (b.jE St), G, j, H, rfl, u, R, a⟩))))))))
   refine sg (Wh G (Wh j (Wh g (Wi rfl (Wh j (Wh u (Wi rfl (Wh g (Wi rfl (Wh g (Wh H (bS a fun c7 O a => ?_))))))))))))
   refine VE (eD b (Cr Qz Cn) call472 (fun o => (pw k z x a2 (IntKind.i64.wrap ((IntKind.i64.wrap (D + t)) - c)) c B U _ _ o J (Q.mono i) O)) ?_)
   rintro _ e1 c9 d3 b a4 l ⟨c0, M, rfl, b6⟩
   obtain rfl := M.symm
   replace b := b.perm (Tr Tn)
   exact ln (jW (Wh u (Wh g (Wi rfl (Wa (ky (kF (jQ ⟨s, bI _, c7, c0, c, (IntKind.i64.wrap (t - c)), c9, _, (i.trans a4), (d.trans l), (b.jE St), G, j, H, g, rfl, b6, a⟩))))))))
  refine mZ (mI (mI (rf (jQ (jW (Wh G (Wh j (Wh g (Wi rfl (Wh j (Wh g (Wh H (bS a fun d9 P a => ?_)))))))))))))
  refine VE (eD b (Cr Qz Cn) call472 (fun o => (pw k z x a2 D c B U _ _ o J (Q.mono i) P)) ?_)
  rintro _ e2 e4 d4 b a5 n ⟨c1, N, rfl, b7⟩
  obtain rfl := N.symm
  replace b := b.perm (Tr Tn)
  refine ky (pM ?_)
  obtain rfl := sj a
  exact ow rfl ⟨_, _, _, rfl, (b.mg (Kr Sn)), (i.trans a5), (d.trans n), (ST.kY b (mB.mem (Kr Sn))), c1, rfl, rfl, b7⟩
set_option maxHeartbeats 1000000 in
theorem uU (t6 : (List Formula) → Int → Int → Int → ((Formula × Formula) → Option Int) → Option (List Formula)) (s6 : ∀ (t : Value) (a0 : List Formula) (c : LO) (z : Int) (M : Int) (B : Int) (D : Value) (f4 : (Formula × Formula) → Option Int) (r : List Formula) (w : World) {U : km} (h0 : ni U (c ++ []) w) (a5 : kR 113 jC 5 U t a0 c) (c6 : uK Tryz.prog D U (th jC jC) (fun (r : Int) => (.int .i64 r)) f4), t6 a0 z M B f4 = some r → lM false Tryz.prog 468 [t, (.int .i64 z), (.int .i64 M), (.int .i64 B), D] w U (c ++ []) (fun v L1 μ1 => ∃ S1, v = (.tuple #[]) ∧ L1 = (S1 ++ []) ∧ kR 113 jC 5 μ1 t r S1)) (t : Value) (a0 : List Formula) (c : LO) (z M B : Int) (D : Value) (f4 : (Formula × Formula) → Option Int) (r : List Formula) (w : World) {U : km} (h0 : ni U (c ++ []) w) (a5 : kR 113 jC 5 U t a0 c) (c6 : uK Tryz.prog D U (th jC jC) (fun (r : Int) => (.int .i64 r)) f4) (hm : oB t6 a0 z M B f4 = some r) :
  lM false Tryz.prog 468 [t, (.int .i64 z), (.int .i64 M), (.int .i64 B), D] w U (c ++ []) (fun v L1 μ1 => ∃ S1, v = (.tuple #[]) ∧ L1 = (S1 ++ []) ∧ kR 113 jC 5 μ1 t r S1) := by
 refine sO h0 220 func468 rfl (fun d => jX (sg (Wm (Wm (Wi rfl (Wi rfl (ln (CI hm rfl (fun ae hm => ?_) (fun ae hm => ?_)))))))))
 ·refine sg (Wm (Wa (lr (Wm (Wa (ln (jX (lQ (np (fun m E W => ∃ T a9 o3, ST false (keys (c ++ [])) w W U (c ++ o3) ∧ E 0 = t ∧ E 1 = (.int .i64 z) ∧ E 4 = D ∧ E 10 = (.int .i64 T) ∧ E 11 = (.int .i64 a9) ∧ lb a0 z f4 m T a9 = some r) kC ⟨M, B, _, (d.jE St), rfl, rfl, rfl, rfl, rfl, hm⟩ ?_)))))))))
  rintro m E W ⟨T, a9, o3, d, e4, h8, k3, h9, k4, y⟩
  cases m with
  | zero => rw [lb] at y; cases y
  | succ t5 =>
   refine jX (sg (Wh h9 (Wh k4 (Wi rfl (ln (CI y rfl (fun w9 y => ?_) (fun w9 y => ?_)))))))
   ·refine kn (bg (Wh h9 (Wh k4 (Wi rfl (V (rY (k' := .i64) (a := (IntKind.i64.wrap (T + a9))) ej fa rfl) (V (Fh (a := (IntKind.u64.wrap (IntKind.i64.wrap (T + a9)))) (b := 1) rfl rfl dc) (V (rY (k' := .u64) (a := (Int.fdiv (IntKind.u64.wrap (IntKind.i64.wrap (T + a9))) (2 ^ min (Int.toNat 1) (IntKind.bits .u64)))) fa ej rfl) (Wa (ln (jX ?_))))))))))
    let e3 := (Int.fdiv (IntKind.u64.wrap (IntKind.i64.wrap (T + a9))) (2 ^ min (Int.toNat 1) (IntKind.bits .u64)))
    replace d := d.drew
    have n := d.has.jE (Kr Sn)
    refine kM n ko (X 0 rfl n (jN k3) (X 1 rfl n (jN e4) (X 2 rfl n (jN rfl) (bS y fun aa n1 y => XQ 3 rfl n (lE (i := (IntKind.i64.wrap e3)) jC.out aF aC rfl rfl a5 (kj n1) (kh n1)) (fun di ⟨_, ⟨z7, rfl, x7⟩, x4, bp⟩ => XH 4 rfl n (fun _ A => jG rfl (kl (nt.hp _) (x4.mono (mf (fun b o F => A.2 b o (Ml F)))) aS aC)) (X 5 rfl n (jN e4) (X 6 rfl n (jN h8) (bS y fun ab n2 y => XQ 7 rfl n (lE (i := z) jC.out aF aC rfl rfl a5 (kj n2) (kh n2)) (fun dj ⟨_, ⟨z8, rfl, x8⟩, x5, bq⟩ => XH 8 rfl n (fun _ A => jG rfl (kl (nt.hp _) (x5.mono (mf (fun b o F => A.2 b o (Ml F)))) aS aC)) (bS y fun dk x6 y => XE 9 rfl (wu (aa, ab) d c6 (kf.refl _) (th.mk jT jT (jC.mk ⟨z7, rfl, x7⟩) (jC.mk ⟨z8, rfl, x8⟩) d.jJ) rfl (ua rfl rfl) x6 (fun dg d => ?_))))))))))))
    have n := d.has.jE (Kr Sn)
    refine ⟨n, (X 10 rfl n (kL rfl rfl rfl) (kV kr (jQ (CI y rfl (fun x0 y => ?_) (fun x0 y => ?_)))))⟩
    ·exact jW (Wm (Wi rfl (Wa (ky (kF (jQ ⟨t5, bI _, (IntKind.i64.wrap ((IntKind.i64.wrap e3) + 1)), a9, _, (d.jE St), e4, h8, k3, rfl, k4, y⟩))))))
    exact jW (Wm (Wa (ky (kF (jQ ⟨t5, bI _, T, (IntKind.i64.wrap e3), _, (d.jE St), e4, h8, k3, h9, rfl, y⟩)))))
   refine mZ (mI (mI (rf (jQ (jX (sg (Wh h8 (Wa (ln (CJ y (fun k5 E W => ∃ f7 o4, ST false (keys (c ++ [])) w W U (f7 ++ o4) ∧ kR 113 jC 5 U t k5 f7) (fun k5 x3 => ?_) ?_))))))))))
   ·refine lQ (np (fun m E W => ∃ i0 f8 b0 k6, ST false (keys (c ++ [])) w W U (f8 ++ k6) ∧ E 0 = t ∧ E 10 = (.int .i64 T) ∧ E 13 = (.int .i64 b0) ∧ kR 113 jC 5 U t i0 f8 ∧ lZ T m i0 b0 = some k5) kC ⟨a0, c, z, _, (d.jE St), e4, h9, rfl, a5, x3⟩ ?_)
    rintro m E W ⟨i0, f8, b0, k6, d, c7, l7, c0, d1, u⟩
    cases m with
    | zero => rw [lZ] at u; cases u
    | succ y2 =>
     refine jX (sg (Wh c0 (Wh l7 (Wi rfl (Wi rfl (ln (CI u rfl (fun p1 u => ?_) (fun p1 u => ?_))))))))
     ·refine kn (jX (lQ ?_))
      replace d := d.drew
      have n := d.has.jE Sn
      have q := d.has.jE (Kr Sn)
      refine tV 15 n q ko (kX 0 rfl kr (.inl rfl) rfl dc (fun _ _ h => ⟨h.1, lF (by rfl) h.2⟩) ⟨n, fun _ => q⟩ (fun _ _ _ _ => jN c7) (kX 1 rfl kr (.inl rfl) rfl dc (fun _ _ h => ⟨h.1, lF (by rfl) h.2⟩) ⟨n, fun _ => q⟩ (fun _ _ _ _ => jN c0) (kX 2 rfl kr (.inl rfl) rfl dc (fun _ _ h => ⟨h.1, lF (by rfl) h.2⟩) ⟨n, fun _ => q⟩ (fun _ _ _ _ => jN c7) (kX 3 rfl kr (.inl rfl) rfl dc (fun _ _ h => ⟨h.1, lF (by rfl) h.2⟩) ⟨n, fun _ => q⟩ (fun _ _ _ _ => jN c0) (kX 4 rfl kr (.inl rfl) rfl dc (fun _ _ h => ⟨h.1, lF (by rfl) h.2⟩) ⟨n, fun _ => q⟩ (fun _ _ _ _ => kL rfl rfl rfl) (kX 5 rfl kr (.inl rfl) rfl dc (fun _ _ h => ⟨h.1, lF (by rfl) h.2⟩) ⟨n, fun _ => q⟩ (fun _ _ _ _ => jN c7) (kX 6 rfl kr (.inl rfl) rfl dc (fun _ _ h => ⟨h.1, lF (by rfl) h.2⟩) ⟨n, fun _ => q⟩ (fun _ _ _ _ => jN c0) (kX 7 rfl kr (.inl rfl) rfl dc (fun _ _ h => ⟨h.1, lF (by rfl) h.2⟩) ⟨n, fun _ => q⟩ (fun _ _ _ _ => kL rfl rfl rfl) (bS u fun i3 j5 u => rH 8 rfl kr (.inl rfl) rfl dc (fun _ _ h => ⟨h.1, lF (by rfl) h.2⟩) ⟨n, fun _ => q⟩ (lE (i := (IntKind.i64.wrap (b0 + 1))) jC.out aF aC rfl rfl d1 (kj j5) (kh j5)) (fun bt ⟨_, ⟨cl, rfl, i7⟩, r3, af⟩ => kX 9 rfl kr (.inl rfl) rfl dc (fun _ _ h => ⟨h.1, lF (by rfl) h.2⟩) ⟨n, fun _ => q⟩ (fun l W L hs => have A := (hs.2 (L.B6 15 [9] kr rfl)); jG rfl (kl (nt.hp _) (r3.mono (mf (fun b o F => A.2 b o (Ml F)))) aS aC)) (kX 10 rfl kr (.inl rfl) rfl dc (fun _ _ h => ⟨h.1, lF (by rfl) h.2⟩) ⟨n, fun _ => q⟩ (fun _ _ _ _ => jN c7) (kX 11 rfl kr (.inl rfl) rfl dc (fun _ _ h => ⟨h.1, lF (by rfl) h.2⟩) ⟨n, fun _ => q⟩ (fun _ _ _ _ => jN c0) (bS u fun Y j6 u => ?_)))))))))))))
      refine rH 12 rfl kr (.inl rfl) rfl dc (fun _ _ h => ⟨h.1, lF (by rfl) h.2⟩) ⟨n, fun _ => q⟩ (lE (i := b0) jC.out aF aC rfl rfl d1 (kj j6) (kh j6)) (fun bu ⟨_, ⟨cm, rfl, i8⟩, r4, ag⟩ => kX 13 rfl kr (.inl rfl) rfl dc (fun _ _ h => ⟨h.1, lF (by rfl) h.2⟩) ⟨n, fun _ => q⟩ (fun l W L hs => have A := (hs.2 (L.B6 15 [13] kr rfl)); jG rfl (kl (nt.hp _) (r4.mono (mf (fun b o F => A.2 b o (Ml F)))) aS aC)) (bS u fun cw e9 u => rH 14 rfl kr (.inl rfl) rfl dc (fun _ _ h => ⟨h.1, lF (by rfl) h.2⟩) ⟨n, fun _ => q⟩ (lE (i := b0) jC.out aF aC rfl rfl d1 (kj e9) (kh e9)) (fun bv ⟨_, ⟨cn, rfl, ar⟩, an, q2⟩ => ?_)))
      obtain ⟨t7, u6, rfl⟩ := i7.form
      refine XO 15 rfl (pW (x1 := i3) jT d d1 rfl rfl (jC.mk ⟨(.slice t7 i3.Kids.length u6), rfl, i7⟩) q2 (kh e9) aC (fun be bc d i5 => ?_))
      have n := d.has.jE Sn
      refine ⟨⟨n, fun h => ym kr h⟩, (bS u fun cx f0 u => rH 16 rfl kr (.inl rfl) rfl dc (fun _ _ h => ⟨h.1, lF (by rfl) h.2⟩) ⟨n, fun h => ym kr h⟩ (lE (i := (IntKind.i64.wrap (b0 + 1))) jC.out aF aC rfl rfl i5 (kj f0) (kh f0)) (fun bw ⟨_, ⟨co, rfl, au⟩, ao, q3⟩ => ?_))⟩
      obtain ⟨t8, u7, rfl⟩ := i8.form
      refine XO 17 rfl (pW (x1 := (⟨Y.Op, Y.K, Y.jB, Y.Kids⟩ : Formula)) jT d i5 rfl rfl (jC.mk ⟨(.slice t8 Y.Kids.length u7), rfl, i8⟩) q3 (kh f0) aC (fun bf u1 d o9 => ?_))
      have n := d.has.jE Sn
      exact ⟨⟨n, fun h => ym kr h⟩, (kV kr (kF (jQ (jW (Wh c0 (Wi rfl (Wa (ln ⟨y2, bI _, ((i0.set (Int.toNat b0) i3).set (Int.toNat (IntKind.i64.wrap (b0 + 1))) (⟨Y.Op, Y.K, Y.jB, Y.Kids⟩ : Formula)), u1, (IntKind.i64.wrap (b0 + 1)), _, (d.jE St), c7, l7, rfl, o9, u⟩))))))))⟩
     refine mZ (mI (mI (rf (jQ ?_))))
     have s := sj u; subst s
     exact ⟨f8, _, (d.jE St), d1⟩
   rintro dh E W ⟨f7, o4, d, x9⟩ x2
   refine kB (kI ?_)
   have s := sj x2; subst s
   exact ow rfl ⟨_, _, _, rfl, (d.mg (Kr Sn)), (kf.refl _), Lo.refl, (ST.kY d (mB.mem (Kr Sn))), f7, rfl, rfl, x9⟩
 refine kS (Wm (Wm (Wi rfl (Wi rfl (ln (CI hm rfl (fun p2 hm => ?_) (fun p2 hm => ?_)))))))
 ·refine sg (Wm (Wa (lr (Wm (Wa (ln (jX (lQ (np (fun m E W => ∃ G N k7, ST false (keys (c ++ [])) w W U (c ++ k7) ∧ E 0 = t ∧ E 2 = (.int .i64 M) ∧ E 4 = D ∧ E 14 = (.int .i64 G) ∧ E 15 = (.int .i64 N) ∧ la a0 M f4 m G N = some r) kC ⟨z, M, _, (d.jE St), rfl, rfl, rfl, rfl, rfl, hm⟩ ?_)))))))))
  rintro m E W ⟨G, N, k7, d, c8, d5, f9, d6, g0, j⟩
  let j1 := (IntKind.u64.wrap (IntKind.i64.wrap (G + N)))
  let b8 := (Int.fdiv j1 (2 ^ min (Int.toNat 1) (IntKind.bits .u64)))
  cases m with
  | zero => rw [la] at j; cases j
  | succ n3 =>
   refine jX (sg (Wh d6 (Wh g0 (Wi rfl (ln (CI j rfl (fun p3 j => ?_) (fun p3 j => ?_)))))))
   ·refine kn (bg (Wh d6 (Wh g0 (Wi rfl (V (rY (k' := .i64) (a := (IntKind.i64.wrap (G + N))) ej fa rfl) (V (Fh (a := j1) (b := 1) rfl rfl dc) (V (rY (k' := .u64) (a := (Int.fdiv j1 (2 ^ min (Int.toNat 1) (IntKind.bits .u64)))) fa ej rfl) (Wa (ln (jX ?_))))))))))
    replace d := d.drew
    have n := d.has.jE (Kr Sn)
    refine kM n ko (X 0 rfl n (jN f9) (X 1 rfl n (jN c8) (X 2 rfl n (jN d5) (bS j fun y8 j7 j => XQ 3 rfl n (lE (i := M) jC.out aF aC rfl rfl a5 (kj j7) (kh j7)) (fun bx ⟨_, ⟨y4, rfl, s7⟩, r5, ah⟩ => XH 4 rfl n (fun _ A => jG rfl (kl (nt.hp _) (r5.mono (mf (fun b o F => A.2 b o (Ml F)))) aS aC)) (X 5 rfl n (jN c8) (X 6 rfl n (jN rfl) (bS j fun y9 j8 j => XQ 7 rfl n (lE (i := (IntKind.i64.wrap b8)) jC.out aF aC rfl rfl a5 (kj j8) (kh j8)) (fun bz ⟨_, ⟨y5, rfl, s8⟩, r6, ai⟩ => XH 8 rfl n (fun _ A => jG rfl (kl (nt.hp _) (r6.mono (mf (fun b o F => A.2 b o (Ml F)))) aS aC)) (bS j fun cg s1 j => XE 9 rfl (wu (y8, y9) d c6 (kf.refl _) (th.mk jT jT (jC.mk ⟨y4, rfl, s7⟩) (jC.mk ⟨y5, rfl, s8⟩) d.jJ) rfl (ua rfl rfl) s1 (fun bh d => ?_))))))))))))
    have n := d.has.jE (Kr Sn)
    refine ⟨n, (X 10 rfl n (kL rfl rfl rfl) (X 11 rfl n (mC rfl) (kV kr (jQ (CI j rfl (fun p4 j => ?_) (fun p4 j => ?_))))))⟩
    ·exact jW (Wm (Wi rfl (Wa (ky (kF (jQ ⟨n3, bI _, (IntKind.i64.wrap ((IntKind.i64.wrap b8) + 1)), N, _, (d.jE St), c8, d5, f9, rfl, g0, j⟩))))))
    exact jW (Wm (Wa (ky (kF (jQ ⟨n3, bI _, G, (IntKind.i64.wrap b8), _, (d.jE St), c8, d5, f9, d6, rfl, j⟩)))))
   refine mZ (mI (mI (rf (jQ (jX (sg (Wh d5 (Wa (ln (CJ j (fun i1 E W => ∃ d3 k8, ST false (keys (c ++ [])) w W U (d3 ++ k8) ∧ kR 113 jC 5 U t i1 d3) (fun i1 q7 => ?_) ?_))))))))))
   ·refine lQ (np (fun m E W => ∃ e2 d4 Q k9, ST false (keys (c ++ [])) w W U (d4 ++ k9) ∧ E 0 = t ∧ E 14 = (.int .i64 G) ∧ E 17 = (.int .i64 Q) ∧ kR 113 jC 5 U t e2 d4 ∧ lY G m e2 Q = some i1) kC ⟨a0, c, M, _, (d.jE St), c8, d6, rfl, a5, q7⟩ ?_)
    rintro m E W ⟨e2, d4, Q, k9, d, c9, l8, c1, b6, x⟩
    cases m with
    | zero => rw [lY] at x; cases x
    | succ y3 =>
     refine jX (sg (Wh c1 (Wh l8 (Wi rfl (ln (CI x rfl (fun p5 x => ?_) (fun p5 x => ?_)))))))
     ·refine kn (jX (lQ ?_))
      replace d := d.drew
      have n := d.has.jE Sn
      have q := d.has.jE (Kr Sn)
      refine tV 15 n q ko (kX 0 rfl kr (.inl rfl) rfl dc (fun _ _ h => ⟨h.1, lF (by rfl) h.2⟩) ⟨n, fun _ => q⟩ (fun _ _ _ _ => jN c9) (kX 1 rfl kr (.inl rfl) rfl dc (fun _ _ h => ⟨h.1, lF (by rfl) h.2⟩) ⟨n, fun _ => q⟩ (fun _ _ _ _ => jN c1) (kX 2 rfl kr (.inl rfl) rfl dc (fun _ _ h => ⟨h.1, lF (by rfl) h.2⟩) ⟨n, fun _ => q⟩ (fun _ _ _ _ => jN c9) (kX 3 rfl kr (.inl rfl) rfl dc (fun _ _ h => ⟨h.1, lF (by rfl) h.2⟩) ⟨n, fun _ => q⟩ (fun _ _ _ _ => jN c1) (kX 4 rfl kr (.inl rfl) rfl dc (fun _ _ h => ⟨h.1, lF (by rfl) h.2⟩) ⟨n, fun _ => q⟩ (fun _ _ _ _ => kL rfl rfl rfl) (kX 5 rfl kr (.inl rfl) rfl dc (fun _ _ h => ⟨h.1, lF (by rfl) h.2⟩) ⟨n, fun _ => q⟩ (fun _ _ _ _ => jN c9) (kX 6 rfl kr (.inl rfl) rfl dc (fun _ _ h => ⟨h.1, lF (by rfl) h.2⟩) ⟨n, fun _ => q⟩ (fun _ _ _ _ => jN c1) (kX 7 rfl kr (.inl rfl) rfl dc (fun _ _ h => ⟨h.1, lF (by rfl) h.2⟩) ⟨n, fun _ => q⟩ (fun _ _ _ _ => kL rfl rfl rfl) (bS x fun i4 j9 x => rH 8 rfl kr (.inl rfl) rfl dc (fun _ _ h => ⟨h.1, lF (by rfl) h.2⟩) ⟨n, fun _ => q⟩ (lE (i := (IntKind.i64.wrap (Q - 1))) jC.out aF aC rfl rfl b6 (kj j9) (kh j9)) (fun ca ⟨_, ⟨cp, rfl, i9⟩, r7, aj⟩ => kX 9 rfl kr (.inl rfl) rfl dc (fun _ _ h => ⟨h.1, lF (by rfl) h.2⟩) ⟨n, fun _ => q⟩ (fun l W L hs => have A := (hs.2 (L.B6 15 [9] kr rfl)); jG rfl (kl (nt.hp _) (r7.mono (mf (fun b o F => A.2 b o (Ml F)))) aS aC)) (kX 10 rfl kr (.inl rfl) rfl dc (fun _ _ h => ⟨h.1, lF (by rfl) h.2⟩) ⟨n, fun _ => q⟩ (fun _ _ _ _ => jN c9) (kX 11 rfl kr (.inl rfl) rfl dc (fun _ _ h => ⟨h.1, lF (by rfl) h.2⟩) ⟨n, fun _ => q⟩ (fun _ _ _ _ => jN c1) (bS x fun Z k0 x => ?_)))))))))))))
      refine rH 12 rfl kr (.inl rfl) rfl dc (fun _ _ h => ⟨h.1, lF (by rfl) h.2⟩) ⟨n, fun _ => q⟩ (lE (i := Q) jC.out aF aC rfl rfl b6 (kj k0) (kh k0)) (fun cb ⟨_, ⟨cq, rfl, j0⟩, r8, ak⟩ => kX 13 rfl kr (.inl rfl) rfl dc (fun _ _ h => ⟨h.1, lF (by rfl) h.2⟩) ⟨n, fun _ => q⟩ (fun l W L hs => have A := (hs.2 (L.B6 15 [13] kr rfl)); jG rfl (kl (nt.hp _) (r8.mono (mf (fun b o F => A.2 b o (Ml F)))) aS aC)) (bS x fun cy f1 x => rH 14 rfl kr (.inl rfl) rfl dc (fun _ _ h => ⟨h.1, lF (by rfl) h.2⟩) ⟨n, fun _ => q⟩ (lE (i := Q) jC.out aF aC rfl rfl b6 (kj f1) (kh f1)) (fun cc ⟨_, ⟨cr, rfl, av⟩, ap, q4⟩ => ?_)))
      obtain ⟨t9, u8, rfl⟩ := i9.form
      refine XO 15 rfl (pW (x1 := i4) jT d b6 rfl rfl (jC.mk ⟨(.slice t9 i4.Kids.length u8), rfl, i9⟩) q4 (kh f1) aC (fun bi bd d i6 => ?_))
      have n := d.has.jE Sn
      refine ⟨⟨n, fun h => ym kr h⟩, (bS x fun cz f2 x => rH 16 rfl kr (.inl rfl) rfl dc (fun _ _ h => ⟨h.1, lF (by rfl) h.2⟩) ⟨n, fun h => ym kr h⟩ (lE (i := (IntKind.i64.wrap (Q - 1))) jC.out aF aC rfl rfl i6 (kj f2) (kh f2)) (fun cd ⟨_, ⟨cs, rfl, aw⟩, aq, q5⟩ => ?_))⟩
      obtain ⟨u0, u9, rfl⟩ := j0.form
      refine XO 17 rfl (pW (x1 := (⟨Z.Op, Z.K, Z.jB, Z.Kids⟩ : Formula)) jT d i6 rfl rfl (jC.mk ⟨(.slice u0 Z.Kids.length u9), rfl, j0⟩) q5 (kh f2) aC (fun bj u2 d p0 => ?_))
      have n := d.has.jE Sn
      exact ⟨⟨n, fun h => ym kr h⟩, (kV kr (kF (jQ (jW (Wh c1 (Wi rfl (Wa (ln ⟨y3, bI _, ((e2.set (Int.toNat Q) i4).set (Int.toNat (IntKind.i64.wrap (Q - 1))) (⟨Z.Op, Z.K, Z.jB, Z.Kids⟩ : Formula)), u2, (IntKind.i64.wrap (Q - 1)), _, (d.jE St), c9, l8, rfl, p0, x⟩))))))))⟩
     refine mZ (mI (mI (rf (jQ ?_))))
     have s := sj x; subst s
     exact ⟨d4, _, (d.jE St), b6⟩
   rintro bs E W ⟨d3, k8, d, s9⟩ q6
   refine kB (kI ?_)
   have s := sj q6; subst s
   exact ow rfl ⟨_, _, _, rfl, (d.mg (Kr Sn)), (kf.refl _), Lo.refl, (ST.kY d (mB.mem (Kr Sn))), d3, rfl, rfl, s9⟩
 let g5 := (IntKind.u64.wrap (IntKind.i64.wrap (z + B)))
 refine kg (Wm (Wm (Wi rfl (V (rY (k' := .i64) (a := (IntKind.i64.wrap (z + B))) ej fa rfl) (V (Fh (a := g5) (b := 1) rfl rfl dc) (V (rY (k' := .u64) (a := (Int.fdiv g5 (2 ^ min (Int.toNat 1) (IntKind.bits .u64)))) fa ej rfl) (Wa (lr ?_))))))))
 let R := (IntKind.i64.wrap (Int.fdiv g5 (2 ^ min (Int.toNat 1) (IntKind.bits .u64))))
 let e5 := (IntKind.i64.wrap (R + M))
 refine Wm (Wm (Wi rfl (Wa (lr (Wa (Wa (ln (jX (CJ hm (fun i2 E W => ∃ l0, ST false (keys (c ++ [])) w W U (c ++ l0) ∧ E 0 = t ∧ E 1 = (.int .i64 z) ∧ E 2 = (.int .i64 M) ∧ E 3 = (.int .i64 B) ∧ E 4 = D ∧ E 18 = (.int .i64 R) ∧ E 19 = (.int .i64 e5) ∧ E 20 = (.int .i64 i2.1) ∧ E 21 = (.int .i64 i2.2)) (fun i2 b5 => ?_) ?_)))))))))
 ·refine sg (Wm (Wm (Wi rfl (ln (CI b5 rfl (fun q1 b5 => ?_) (fun q1 b5 => ?_))))))
  ·refine sg (Wm (Wm (Wi rfl (Wa (ln (jW (Wm (Wa (ln ?_)))))))))
   have s := sj b5; subst s
   exact ⟨_, (d.jE St), rfl, rfl, rfl, rfl, rfl, rfl, rfl, rfl, rfl⟩
  refine sg (Wm (Wa (ln (jW (Wm (Wa (ln ?_)))))))
  have s := sj b5; subst s
  exact ⟨_, (d.jE St), rfl, rfl, rfl, rfl, rfl, rfl, rfl, rfl, rfl⟩
 rintro ⟨z0, z1⟩ E W ⟨l0, d, v0, v1, v2, v3, v4, v5, l9, v6, v7⟩ q8
 refine sg (Wh l9 (Wi rfl (Wa (ln (jX (lQ (np (fun m E W => ∃ g K l1, ST false (keys (c ++ [])) w W U (c ++ l1) ∧ E 0 = t ∧ E 1 = (.int .i64 z) ∧ E 2 = (.int .i64 M) ∧ E 3 = (.int .i64 B) ∧ E 4 = D ∧ E 18 = (.int .i64 R) ∧ E 19 = (.int .i64 e5) ∧ E 20 = (.int .i64 g) ∧ E 21 = (.int .i64 K) ∧ E 22 = (.int .i64 (IntKind.i64.wrap (e5 - 1))) ∧ kK a0 z B M f4 t6 m g K = some r) kC ⟨z0, z1, _, (d.jE St), v0, v1, v2, v3, v4, v5, l9, v6, v7, rfl, q8⟩ ?_)))))))
 rintro m E W ⟨g, K, l1, d, c2, d7, c3, d8, d0, d9, g1, b1, g2, g3, k⟩
 let g6 := (IntKind.u64.wrap (IntKind.i64.wrap (g + K)))
 let a3 := (Int.fdiv g6 (2 ^ min (Int.toNat 1) (IntKind.bits .u64)))
 let j2 := (IntKind.i64.wrap a3)
 let a2 := (IntKind.i64.wrap (e5 - g))
 cases m with
 | zero => rw [kK] at k; cases k
 | succ n4 =>
  refine jX (sg (Wh b1 (Wh g2 (Wi rfl (ln (CI k rfl (fun p6 k => ?_) (fun p6 k => ?_)))))))
  ·refine kn (bg (Wh b1 (Wh g2 (Wi rfl (V (rY (k' := .i64) (a := (IntKind.i64.wrap (g + K))) ej fa rfl) (V (Fh (a := g6) (b := 1) rfl rfl dc) (V (rY (k' := .u64) (a := (Int.fdiv g6 (2 ^ min (Int.toNat 1) (IntKind.bits .u64)))) fa ej rfl) (Wa (ln (jX ?_))))))))))
   replace d := d.drew
   have n := d.has.jE (Kr Sn)
   refine kM n ko (X 0 rfl n (jN d0) (X 1 rfl n (jN c2) (X 2 rfl n (jN g3) (X 3 rfl n (jN rfl) (X 4 rfl n (kL rfl rfl rfl) (bS k fun z2 k1 k => XQ 5 rfl n (lE (i := (IntKind.i64.wrap ((IntKind.i64.wrap (e5 - 1)) - j2))) jC.out aF aC rfl rfl a5 (kj k1) (kh k1)) (fun ce ⟨_, ⟨y6, rfl, t0⟩, r9, al⟩ => XH 6 rfl n (fun _ A => jG rfl (kl (nt.hp _) (r9.mono (mf (fun b o F => A.2 b o (Ml F)))) aS aC)) (X 7 rfl n (jN c2) (X 8 rfl n (jN rfl) (bS k fun z3 k2 k => XQ 9 rfl n (lE (i := (IntKind.i64.wrap a3)) jC.out aF aC rfl rfl a5 (kj k2) (kh k2)) (fun cf ⟨_, ⟨y7, rfl, t1⟩, s0, am⟩ => XH 10 rfl n (fun _ A => jG rfl (kl (nt.hp _) (s0.mono (mf (fun b o F => A.2 b o (Ml F)))) aS aC)) (bS k fun ch s2 k => ?_))))))))))))
   refine XE 11 rfl (wu (z2, z3) d c6 (kf.refl _) (th.mk jT jT (jC.mk ⟨y6, rfl, t0⟩) (jC.mk ⟨y7, rfl, t1⟩) d.jJ) rfl (ua rfl rfl) s2 (fun bk d => ?_))
   have n := d.has.jE (Kr Sn)
   refine ⟨n, (X 12 rfl n (kL rfl rfl rfl) (X 13 rfl n (mC rfl) (kV kr (jQ (CI k rfl (fun p7 k => ?_) (fun p7 k => ?_))))))⟩
   ·exact jW (Wm (Wi rfl (Wa (ky (kF (jQ ⟨n4, bI _, (IntKind.i64.wrap (j2 + 1)), K, _, (d.jE St), c2, d7, c3, d8, d0, d9, g1, rfl, g2, g3, k⟩))))))
   exact jW (Wm (Wa (ky (kF (jQ ⟨n4, bI _, g, j2, _, (d.jE St), c2, d7, c3, d8, d0, d9, g1, b1, rfl, g3, k⟩)))))
  refine mZ (mI (mI (rf (jQ (sg (Wh g1 (Wh b1 (Wi rfl (Wa (ln (jX (CJ k (fun n8 E W => ∃ b7 a4 l2, kf U a4 ∧ Lo (keys (c ++ [])) w U a4 ∧ ST false (keys (c ++ [])) w W a4 (b7 ++ l2) ∧ E 0 = t ∧ E 1 = (.int .i64 z) ∧ E 3 = (.int .i64 B) ∧ E 4 = D ∧ E 18 = (.int .i64 R) ∧ E 20 = (.int .i64 g) ∧ E 24 = (.int .i64 a2) ∧ kR 113 jC 5 a4 t n8 b7) (fun n8 r2 => ?_) ?_))))))))))))
  ·refine sg (Wh b1 (Wh c3 (Wi rfl (Wm (LJ r2 (fun n9 E W => ∃ l6, ST false (keys (c ++ [])) w W U (c ++ l6) ∧ E 0 = t ∧ E 1 = (.int .i64 z) ∧ E 2 = (.int .i64 M) ∧ E 3 = (.int .i64 B) ∧ E 4 = D ∧ E 18 = (.int .i64 R) ∧ E 20 = (.int .i64 g) ∧ E 24 = (.int .i64 a2) ∧ E 185 = (.bool n9)) 4 ?_ (fun n9 b4 f6 => ?_))))))
   ·rintro de E W ⟨l6, d, h4, m8, w7, m9, h5, n0, h6, h7, w8⟩ a8
    refine ln (CI a8 w8 (fun q0 a8 => ?_) (fun q0 a8 => ?_))
    ·refine jW (Wh h4 (Wh h6 (Wh w7 (Wh h7 (Wh h5 (bS a8 fun ck s5 a8 => ?_))))))
     refine VE (eD d (Cr Qz Cn) call470 (fun hh => lM.lD (xy t a0 c g M a2 D f4 _ _ hh a5 (c6.mono (kf.refl _)) s5)) ?_)
     rintro _ cv z5 ba d o2 bl ⟨u5, e8, rfl, t4⟩
     obtain rfl := e8.symm
     replace d := d.perm (Tr Tn)
     refine ln ?_
     have s := sj a8; subst s
     exact ⟨u5, z5, _, o2, bl, (d.jE St), h4, m8, m9, h5, n0, h6, h7, t4⟩
    refine kn ?_
    have s := sj a8; subst s
    exact ⟨c, U, _, (kf.refl _), Lo.refl, (d.jE St), h4, m8, m9, h5, n0, h6, h7, a5⟩
   refine bC b4 (fun J b4 => ?_) (fun J b4 => ?_)
   ·refine ug J (jN c3) (ug J (jN rfl) (ug J (kL rfl rfl rfl) (V (kd (cB J) rfl) ?_)))
    have s := sj b4; subst s
    exact f6 _ _ ⟨_, (d.jE St), c2, d7, c3, d8, d0, d9, b1, rfl, rfl⟩
   refine un J (un J (un J (V (ke (cB J) rfl) ?_)))
   have s := sj b4; subst s
   exact f6 _ _ ⟨_, (d.jE St), c2, d7, c3, d8, d0, d9, b1, rfl, rfl⟩
  rintro y0 E W ⟨b7, a4, l2, c4, O, d, m0, g4, m1, m2, g7, e0, m3, j3⟩ q9
  refine jX (CJ q9 (fun n6 E W => ∃ b9 c5 l3, kf a4 c5 ∧ Lo (keys (c ++ [])) w a4 c5 ∧ ST false (keys (c ++ [])) w W c5 (b9 ++ l3) ∧ E 0 = t ∧ E 3 = (.int .i64 B) ∧ E 4 = D ∧ E 18 = (.int .i64 R) ∧ E 24 = (.int .i64 a2) ∧ kR 113 jC 5 c5 t n6 b9) (fun n6 r1 => ?_) ?_)
  ·refine sg (Wh g4 (Wh e0 (Wi rfl (Wm (LJ r1 (fun n7 E W => ∃ l5, ST false (keys (c ++ [])) w W a4 (b7 ++ l5) ∧ E 0 = t ∧ E 1 = (.int .i64 z) ∧ E 3 = (.int .i64 B) ∧ E 4 = D ∧ E 18 = (.int .i64 R) ∧ E 20 = (.int .i64 g) ∧ E 24 = (.int .i64 a2) ∧ E 199 = (.bool n7)) 4 ?_ (fun n7 b3 f5 => ?_))))))
   ·rintro db E W ⟨l5, d, h1, w4, m6, h2, h3, w5, m7, w6⟩ a7
    refine ln (CI a7 w6 (fun p9 a7 => ?_) (fun p9 a7 => ?_))
    ·refine jW (Wh h1 (Wh w4 (Wh w5 (Wh h3 (Wh h2 (bS a7 fun cj s4 a7 => ?_))))))
     refine VE (eD d (Cr Qz Cn) call468 (fun hh => (s6 t y0 b7 z g R D f4 _ _ hh j3 (c6.mono c4) s4)) ?_)
     rintro _ cu z4 az d o1 aE ⟨u4, e7, rfl, t3⟩
     obtain rfl := e7.symm
     replace d := d.perm (Tr Tn)
     refine ln ?_
     have s := sj a7; subst s
     exact ⟨u4, z4, _, o1, aE, (d.jE St), h1, m6, h2, h3, m7, t3⟩
    refine kn ?_
    have s := sj a7; subst s
    exact ⟨b7, a4, _, (kf.refl _), Lo.refl, (d.jE St), h1, m6, h2, h3, m7, j3⟩
   refine bC b3 (fun I b3 => ?_) (fun I b3 => ?_)
   ·refine ug I (jN e0) (ug I (jN g7) (ug I (kL rfl rfl rfl) (V (kd (cB I) rfl) ?_)))
    have s := sj b3; subst s
    exact f5 _ _ ⟨_, (d.jE St), m0, g4, m1, m2, g7, e0, m3, rfl⟩
   refine un I (un I (un I (V (ke (cB I) rfl) ?_)))
   have s := sj b3; subst s
   exact f5 _ _ ⟨_, (d.jE St), m0, g4, m1, m2, g7, e0, m3, rfl⟩
  rintro y1 E W ⟨b9, c5, l3, d2, P, d, m4, g8, m5, g9, e1, j4⟩ r0
  refine sg (Wh g9 (Wh e1 (Wi rfl (Wm (LJ r0 (fun n5 E W => ∃ l4, ST false (keys (c ++ [])) w W c5 (b9 ++ l4) ∧ E 0 = t ∧ E 3 = (.int .i64 B) ∧ E 4 = D ∧ E 18 = (.int .i64 R) ∧ E 24 = (.int .i64 a2) ∧ E 213 = (.bool n5)) 4 ?_ (fun n5 b2 f3 => ?_))))))
  ·rintro da E W ⟨l4, d, v8, v9, w0, w1, w2, w3⟩ a6
   refine ln (CI a6 w3 (fun p8 a6 => ?_) (fun p8 a6 => ?_))
   ·refine jW (Wh v8 (Wh w1 (Wh w2 (Wh v9 (Wh w0 (bS a6 fun ci s3 a6 => ?_))))))
    refine VE (eD d (Cr Qz Cn) call468 (fun hh => (s6 t y1 b9 R a2 B D f4 _ _ hh j4 (c6.mono (c4.trans d2)) s3)) ?_)
    rintro _ ct df ay d o0 ad ⟨u3, e6, rfl, t2⟩
    obtain rfl := e6.symm
    replace d := d.perm (Tr Tn)
    refine ky (pM ?_)
    have s := sj a6; subst s
    exact ow rfl ⟨_, _, _, rfl, (d.mg (Kr Sn)), ((c4.trans d2).trans o0), ((O.trans P).trans ad), (ST.kY d (mB.mem (Kr Sn))), u3, rfl, rfl, t2⟩
   refine ll (pM ?_)
   have s := sj a6; subst s
   exact ow rfl ⟨_, _, _, rfl, (d.mg (Kr Sn)), (c4.trans d2), (O.trans P), (ST.kY d (mB.mem (Kr Sn))), b9, rfl, rfl, j4⟩
  refine bC b2 (fun H b2 => ?_) (fun H b2 => ?_)
  ·refine ug H (jN e1) (ug H (jN g8) (ug H (kL rfl rfl rfl) (V (kd (cB H) rfl) ?_)))
   have s := sj b2; subst s
   exact f3 _ _ ⟨_, (d.jE St), m4, g8, m5, g9, e1, rfl⟩
  refine un H (un H (un H (V (ke (cB H) rfl) ?_)))
  have s := sj b2; subst s
  exact f3 _ _ ⟨_, (d.jE St), m4, g8, m5, g9, e1, rfl⟩
theorem pE : ∀ (n : Nat) (c : Value) (k : List Formula) (a : LO) (t : Int) (u : Int) (x : Int) (g : Value) (y : (Formula × Formula) → Option Int) (r : List Formula) (w : World) {i : km} (H : ni i (a ++ []) w) (B : kR 113 jC 5 i c k a) (D : uK Tryz.prog g i (th jC jC) (fun (r : Int) => (.int .i64 r)) y) (_ : lx n k t u x y = some r),
  lM false Tryz.prog 468 [c, (.int .i64 t), (.int .i64 u), (.int .i64 x), g] w i (a ++ []) (fun v z G => ∃ j, v = (.tuple #[]) ∧ z = (j ++ []) ∧ kR 113 jC 5 G c r j)
 | 0 => by intros; rename_i h; simp only [lx] at h; cases h
 | n + 1 => uU (lx n) (pE n)
theorem xp (a : Value) (a0 : List Formula) (c : LO) (Q : Int) (x : Value) (f2 : (Formula × Formula) → Option Int) (r : List Formula) (w : World) {μ0 : km} (h0 : ni μ0 (c ++ []) w) (k4 : kR 113 jC 5 μ0 a a0 c) (c7 : uK Tryz.prog x μ0 (th jC jC) (fun (r : Int) => (.int .i64 r)) f2) (hm : qi a0 Q f2 = some r) :
  lM false Tryz.prog 464 [a, (.int .i64 Q), x] w μ0 (c ++ []) (fun v L1 μ1 => ∃ S1, v = (.tuple #[]) ∧ L1 = (S1 ++ []) ∧ kR 113 jC 5 μ1 a r S1) := by
 refine sO h0 63 func464 rfl (fun b => sg (Wa (lr (Wm (Wa (Wa (ln (jX (lQ (np (fun m E W => ∃ d4 d0 d5 P d6 f1, kf μ0 d6 ∧ Lo (keys (c ++ [])) w μ0 d6 ∧ ST false (keys (c ++ [])) w W d6 (d0 ++ f1) ∧ E 0 = a ∧ E 1 = (.int .i64 Q) ∧ E 2 = x ∧ E 6 = (.int .i64 20) ∧ E 7 = (.int .i64 d5) ∧ E 8 = (.int .i64 P) ∧ kR 113 jC 5 d6 a d4 d0 ∧ lT Q f2 m d4 d5 P = some r) kC ⟨a0, c, 0, 20, μ0, _, (kf.refl _), Lo.refl, (b.jE St), rfl, rfl, rfl, rfl, rfl, rfl, k4, hm⟩ ?_))))))))))
 rintro m E W ⟨d4, d0, d5, P, d6, f1, z, l, b, b4, b5, b6, d7, f4, b7, h1, i⟩
 cases m with
 | zero => rw [lT] at i; cases i
 | succ k5 =>
  refine jX (sg (Wh b7 (Wh b5 (Wi rfl (ln (CI i rfl (fun i4 i => ?_) (fun i4 i => ?_)))))))
  ·refine kn (bg (Wh b4 (Wh f4 (Wh b7 (Wh b6 (bS i fun k6 i7 i => ?_))))))
   refine VE (eD b (Cr Qz Cn) call467 (fun A => (qW a d4 d0 d5 P x f2 _ _ A h1 (c7.mono z) i7)) ?_)
   rintro _ m4 k8 l8 b g0 F ⟨k1, c8, rfl, j0⟩
   obtain rfl := c8.symm
   replace b := b.perm (Tr Tn)
   refine lr (Wh b7 (Wa (ln (jW (Wh b7 (Wh d7 (Wi rfl (Wa (ky (kF ?_))))))))))
   exact jQ ⟨k5, bI _, k6, k1, P, (IntKind.i64.wrap (P + 20)), k8, _, (z.trans g0), (l.trans F), (b.jE St), b4, b5, b6, d7, rfl, rfl, j0, i⟩
  refine mZ (mI (mI (rf (jQ (sg (Wh b4 (Wh f4 (Wh b5 (Wh b6 (bS i fun k7 i8 i => ?_))))))))))
  refine VE (eD b (Cr Qz Cn) call467 (fun A => (qW a d4 d0 d5 Q x f2 _ _ A h1 (c7.mono z) i8)) ?_)
  rintro _ m5 R l9 b a5 L ⟨k2, c9, rfl, j3⟩
  obtain rfl := c9.symm
  replace b := b.perm (Tr Tn)
  refine ln (uD (CJ i (fun d8 E W => ∃ b2 a9 f3, kf R a9 ∧ Lo (keys (c ++ [])) w R a9 ∧ ST false (keys (c ++ [])) w W a9 (b2 ++ f3) ∧ kR 113 jC 5 a9 a d8 b2) (fun d8 i6 => ?_) ?_))
  ·refine lQ (np (fun m E W => ∃ a2 I j k e0, kf R k ∧ Lo (keys (c ++ [])) w R k ∧ ST false (keys (c ++ [])) w W k (I ++ e0) ∧ E 0 = a ∧ E 1 = (.int .i64 Q) ∧ E 2 = x ∧ E 6 = (.int .i64 j) ∧ kR 113 jC 5 k a a2 I ∧ lR Q f2 m a2 j = some d8) kC ⟨k7, k2, 20, R, _, (kf.refl _), Lo.refl, (b.jE St), b4, b5, b6, d7, j3, i6⟩ ?_)
   rintro m E W ⟨a2, I, j, k, e0, B, d, b, h6, e4, h7, b3, d1, t⟩
   cases m with
   | zero => rw [lR] at t; cases t
   | succ j6 =>
    refine jX (sg (Wh b3 (Wh e4 (Wi rfl (ln (CI t rfl (fun f7 t => ?_) (fun f7 t => ?_)))))))
    ·refine kn (bg (Wh b3 (Wi rfl (Wa (Wa (ln (jX (CJ t (fun a4 E W => ∃ J y e1, kf k y ∧ Lo (keys (c ++ [])) w k y ∧ ST false (keys (c ++ [])) w W y (J ++ e1) ∧ E 0 = a ∧ E 1 = (.int .i64 Q) ∧ E 2 = x ∧ E 6 = (.int .i64 j) ∧ E 7 = (.int .i64 a4.2) ∧ kR 113 jC 5 y a a4.1 J) (fun a4 g4 => ?_) ?_))))))))
     ·refine lQ (np (fun m E W => ∃ a3 K M D H e3, kf k H ∧ Lo (keys (c ++ [])) w k H ∧ ST false (keys (c ++ [])) w W H (K ++ e3) ∧ E 0 = a ∧ E 1 = (.int .i64 Q) ∧ E 2 = x ∧ E 6 = (.int .i64 j) ∧ E 7 = (.int .i64 M) ∧ E 8 = (.int .i64 D) ∧ kR 113 jC 5 H a a3 K ∧ mi Q j f2 m a3 M D = some a4) kC ⟨a2, I, 0, (IntKind.i64.wrap (2 * j)), k, _, (kf.refl _), Lo.refl, (b.jE St), h6, e4, h7, b3, rfl, rfl, d1, g4⟩ ?_)
      rintro m E W ⟨a3, K, M, D, H, e3, N, h, b, c2, c3, c4, Y, c5, Z, d3, g⟩
      cases m with
      | zero => rw [mi] at g; cases g
      | succ j7 =>
       refine jX (sg (Wh Z (Wh c3 (Wi rfl (ln (CI g rfl (fun f9 g => ?_) (fun f9 g => ?_)))))))
       ·refine kn (bg (Wh c2 (Wh c5 (Wh c5 (Wh Y (Wi rfl (Wh Z (Wh c4 (bS g fun j8 g8 g => ?_)))))))))
        refine VE (eD b (Cr Qz Cn) call468 (fun A => ((pE kC) a a3 K M (IntKind.i64.wrap (M + j)) D x f2 _ _ A d3 (c7.mono (((z.trans a5).trans B).trans N)) g8)) ?_)
        rintro _ l6 k0 l1 b f0 s ⟨h5, a7, rfl, h3⟩
        obtain rfl := a7.symm
        replace b := b.perm (Tr Tn)
        refine lr (Wh Z (Wa (ln (jW (Wh Z (Wh Y (Wi rfl (Wi rfl (Wa (ky ?_))))))))))
        exact kF (jQ ⟨j7, bI _, j8, h5, D, (IntKind.i64.wrap (D + (IntKind.i64.wrap (2 * j)))), k0, _, (N.trans f0), (h.trans s), (b.jE St), c2, c3, c4, Y, rfl, rfl, h3, g⟩)
       refine mZ (mI (mI (rf (jQ ?_))))
       obtain rfl := sj g
       exact ⟨K, H, _, N, h, (b.jE St), c2, c3, c4, Y, c5, d3⟩
     rintro ⟨j4, e7⟩ E W ⟨J, y, e1, b0, n, b, b9, U, c0, c1, e5, d2⟩ g2
     refine jX (CJ g2 (fun e6 E W => ∃ T G e2, kf y G ∧ Lo (keys (c ++ [])) w y G ∧ ST false (keys (c ++ [])) w W G (T ++ e2) ∧ E 0 = a ∧ E 1 = (.int .i64 Q) ∧ E 2 = x ∧ E 6 = (.int .i64 j) ∧ kR 113 jC 5 G a e6 T) (fun e6 u => ?_) ?_)
     ·refine sg (Wh e5 (Wh c1 (Wi rfl (Wa (lr (Wm (Wh U (Wi rfl (ln ?_)))))))))
      refine CI u rfl (fun f8 u => ?_) (fun f8 u => ?_)
      ·refine jW (Wh b9 (Wh e5 (Wm (Wh U (Wh c0 (bS u fun l4 g7 u => ?_))))))
       refine VE (eD b (Cr Qz Cn) call468 (fun A => ((pE kC) a j4 J e7 (IntKind.i64.wrap (e7 + j)) Q x f2 _ _ A d2 (c7.mono (((z.trans a5).trans B).trans b0)) g7)) ?_)
       rintro _ l5 j9 l0 b e9 q ⟨h4, a6, rfl, h2⟩
       obtain rfl := a6.symm
       replace b := b.perm (Tr Tn)
       refine ln ?_
       obtain rfl := sj u
       exact ⟨h4, j9, _, e9, q, (b.jE St), b9, U, c0, c1, h2⟩
      refine kn ?_
      obtain rfl := sj u
      exact ⟨J, y, _, (kf.refl _), Lo.refl, (b.jE St), b9, U, c0, c1, d2⟩
     rintro j5 E W ⟨T, G, e2, e8, o, b, h8, h9, i0, i1, g9⟩ g3
     exact jW (Wh i1 (Wi rfl (Wa (ky (kF (jQ ⟨j6, bI _, j5, T, (IntKind.i64.wrap (j * 2)), G, _, ((B.trans b0).trans e8), ((d.trans n).trans o), (b.jE St), h8, h9, i0, rfl, g9, g3⟩))))))
    refine mZ (mI (mI (rf (jQ ?_))))
    obtain rfl := sj t
    exact ⟨I, k, _, B, d, (b.jE St), d1⟩
  rintro m3 E W ⟨b2, a9, f3, g1, O, b, i9⟩ i5
  refine pM ?_
  obtain rfl := sj i5
  exact ow rfl ⟨_, _, _, rfl, (b.mg (Kr Sn)), ((z.trans a5).trans g1), ((l.trans L).trans O), (ST.kY b (mB.mem (Kr Sn))), b2, rfl, rfl, i9⟩
theorem xb (c : Value) (k : List Formula) (a : LO) (i : Value) (u : (Formula × Formula) → Option Int) (r : List Formula) (w : World) {t : km} (J : ni t (a ++ []) w) (j : kR 113 jC 5 t c k a) (x : uK Tryz.prog i t (th jC jC) (fun (r : Int) => (.int .i64 r)) u) (hm : oh k u = some r) :
  lM false Tryz.prog 457 [c, i] w t (a ++ []) (fun v I K => ∃ B, v = (.tuple #[]) ∧ I = (B ++ []) ∧ kR 113 jC 5 K c r B) := by
 refine sO J 9 func457 rfl (fun b => jW (Wm (Wm (V (wR aF rfl j) (Wm (bS hm fun Q H hm => ?_))))))
 refine VE (eD b (Cr Qz Cn) call464 (fun h => (xp c k a (k.length : Int) i u _ _ h j (x.mono (kf.refl _)) H)) ?_)
 rintro _ T U M b y d ⟨D, g, rfl, z⟩
 obtain rfl := g.symm
 replace b := b.perm (Tr Tn)
 refine ky (pM ?_)
 obtain rfl := sj hm
 exact ow rfl ⟨_, _, _, rfl, (b.mg (Kr Sn)), y, d, (ST.kY b (mB.mem (Kr Sn))), D, rfl, rfl, z⟩
theorem Bo (A : (List Int) → Formula → Option (List Int)) (f2 : ∀ (a : Nat) (k : Value) (B : List Int) (g : LO) (j : Formula) (u : Value) (r : List Int) (w : World) {μ0 : km} (h0 : ni μ0 ((a, Ob #[k] 92) :: (g ++ [])) w) (T : kk 5 (kU .u8) 1 k B g) (t : Sl jC 5 μ0 u j.Kids), A B j = some r → lC false Tryz.prog 471 [(.pointer (some ⟨a, 0, none⟩)), (.agg #[(.int .i64 j.Op), (.int .i64 j.K), (.string j.jB.jF), (.string j.jB.jK), u])] w ((a, Ob #[k] 92) :: (g ++ [])) (fun v L1 W' => ∃ m S2, v = (.tuple #[]) ∧ L1 = ((a, Ob #[m] 92) :: (S2 ++ [])) ∧ kk 5 (kU .u8) 1 m r S2)) (a : Nat) (k : Value) (B : List Int) (g : LO) (j : Formula) (u : Value) (r : List Int) (w : World) {μ0 : km} (h0 : ni μ0 ((a, Ob #[k] 92) :: (g ++ [])) w) (T : kk 5 (kU .u8) 1 k B g) (t : Sl jC 5 μ0 u j.Kids) (hm : ui A B j = some r) :
  lC false Tryz.prog 471 [(.pointer (some ⟨a, 0, none⟩)), (.agg #[(.int .i64 j.Op), (.int .i64 j.K), (.string j.jB.jF), (.string j.jB.jK), u])] w ((a, Ob #[k] 92) :: (g ++ [])) (fun v L1 W' => ∃ m S2, v = (.tuple #[]) ∧ L1 = ((a, Ob #[m] 92) :: (S2 ++ [])) ∧ kk 5 (kU .u8) 1 m r S2) := by
 let b0 := ((a, Ob #[k] 92) :: (g ++ []))
 refine yl h0 40 func471 rfl (fun b => sg ?_)
 obtain ⟨A1, c2, rfl⟩ := t.form
 refine VE (kH b rfl (fun W4 b3 b => lr (Wm (Wf rD (VB b Mh rfl rfl cL (bS hm fun r5 g8 hm => ?_))))))
 refine VE (eM b (Cb (Pb Pz) (Cr (Qb Qz) Cn)) call268 (fun l _ => lC.lD (qF a k B g j.Op _ _ l T g8)) ?_)
 rintro _ j8 n j0 b e9 ad d ⟨F, a9, a2, rfl, a5⟩
 obtain rfl := a2.symm
 replace b := b.perm (Tb (Tr Tn))
 refine lS (Wf rD (VB b (Mt (Ma Mh)) rfl rfl cL (Wi rfl (ln (CI hm rfl (fun e8 hm => ?_) (fun e8 hm => ?_))))))
 ·refine sg (Wm (Wf vI (VA b (Mt (Ma Mh)) (jH j.jB) bL aI (bS hm fun j7 f0 hm => ?_))))
  refine VE (eM b (Cb Pz (Cr Qz Cn)) call269 (fun l _ => lC.lD (tQ a F r5.2 a9 j.jB _ _ l a5 f0)) ?_)
  rintro _ j9 k1 j3 b h6 ae d ⟨h3, g2, a3, rfl, f4⟩
  obtain rfl := a3.symm
  replace b := b.perm (Tb (Tr Tn))
  refine ln ?_
  replace b := b.jE (Kb (Kr (Db St)))
  refine kB (kI ?_)
  obtain rfl := sj hm
  exact ow rfl ⟨_, _, rfl, (b.mg (Kb (Kr Sn))), h3, g2, rfl, rfl, f4⟩
 refine kn (jX (CJ hm (fun b5 E W => ∃ q o L d6, kf n L ∧ ST false (keys b0) w W L ((a, Ob #[q] 92) :: ((b3, Ol (C1 j.Op j.K j.jB.jF j.jB.jK A1 j.Kids.length c2) 113) :: (o ++ d6))) ∧ E 0 = (.pointer (some ⟨a, 0, none⟩)) ∧ E 3 = (.pointer (some ⟨b3, 0, none⟩)) ∧ kk 5 (kU .u8) 1 q b5 o) (fun b5 y => ?_) ?_))
 ·refine sg (Wf rD (VB b (Mt (Ma Mh)) rfl rfl cL (Wi rfl (ln (CI y rfl (fun c4 y => ?_) (fun c4 y => ?_))))))
  ·refine jW (Wm (Wf vH (VB b (Mt (Ma Mh)) rfl rfl cL (bS y fun i6 d0 y => ?_))))
   refine VE (eM b (Cb Pz (Cr Qz Cn)) call268 (fun l _ => lC.lD (qF a F r5.2 a9 j.K _ _ l a5 d0)) ?_)
   rintro _ i9 g1 h9 b b2 aa d ⟨f9, e3, N, rfl, d5⟩
   obtain rfl := N.symm
   replace b := b.perm (Tb (Tr Tn))
   refine ln ?_
   obtain rfl := sj y
   exact ⟨f9, e3, g1, _, b2, (b.jE (Kb (Sb (Pr Pz) St))), rfl, rfl, d5⟩
  refine kn ?_
  obtain rfl := sj y
  exact ⟨F, a9, n, _, (kf.refl _), (b.jE (Kb (Sb (Pr Pz) St))), rfl, rfl, a5⟩
 rintro g9 E W ⟨q, o, L, d6, c6, b, d7, d8, f3⟩ a0
 refine sg (Wh d7 (V (jM qm d8) (VB b (Mt Mh) rfl rfl eO (V (lf aF rfl t) (bS a0 fun h2 f1 a0 => ?_)))))
 refine VE (eM b (Cb Pz (Cr (Qb Qz) Cn)) call268 (fun l _ => lC.lD (qF a q g9 o (j.Kids.length : Int) _ _ l f3 f1)) ?_)
 rintro _ k0 d9 j4 b c7 af d ⟨h4, g3, a4, rfl, f5⟩
 obtain rfl := a4.symm
 replace b := b.perm (Tb (Tr Tn))
 refine lr (V (jM qm d8) (VB b (Mt (Ma Mh)) rfl rfl eO (V (lf aF rfl t) (Wm (ln ?_)))))
 replace b := b.jE (Kb (Kr (Db St)))
 refine uD (li (fun i E W => ∃ D H z Q U, (E 32 = .int .i64 (i : Nat) ∧ E 31 = .int .i64 (j.Kids.length : Nat)) ∧ kf d9 Q ∧ ST false (keys b0) w W Q ((a, Ob #[D] 92) :: (z ++ U)) ∧ E 0 = (.pointer (some ⟨a, 0, none⟩)) ∧ E 30 = (.slice A1 j.Kids.length c2) ∧ kk 5 (kU .u8) 1 D H z ∧ pI A (j.Kids.drop i) H = some r) j.Kids.length t.len ⟨h4, h2.2, g3, d9, _, ⟨rfl, rfl⟩, (kf.refl _), (b.jE St), d7, rfl, f5, a0⟩ dc dc dc (fun _ _ _ h => by obtain ⟨_, _, _, _, _, P, _⟩ := h; exact P) ?_ ?_)
 ·rintro f6 E W c5 ⟨D, H, z, Q, U, ⟨O, eN⟩, G, b, Y, Z, K, x⟩
  obtain ⟨c, h7, d2, d1, d3⟩ := kP c5
  rw [d2] at x
  refine bg (VQ (mo (i := (f6 : Int)) (x0 := c) jC.out aF aC Z O (t.mono jT.mono (((e9.trans c6).trans c7).trans G)) (aJ _) d1) (fun i5 ⟨_, ⟨i7, rfl, a7⟩, c8⟩ => V (jG rfl (kl b.has c8 aS aC)) (VE (kv b bD (fun i0 i4 b => ?_)))))
  obtain ⟨I, J, rfl⟩ := a7.form
  let s := (C1 c.Op c.K c.jB.jF c.jB.jK I c.Kids.length J)
  refine VO (jY (.agg s.toArray) (s.toArray) b rfl rfl aC oc nb rfl (fun i1 b => ln (jW (Wh Y (VA b Mh s aS aC (bS x fun f7 c9 x => ?_))))))
  refine VE (eM b (Cb (Pb Pz) (Cr (Qb Qz) Cn)) call471 (fun l ab => (f2 a D H z c (.slice I c.Kids.length J) _ _ l K (a7.mono jT.mono ab) c9)) ?_)
  rintro _ i8 g0 h8 b b1 R d ⟨f8, e2, M, rfl, d4⟩
  obtain rfl := M.symm
  replace b := b.perm (Tb (Tr Tn))
  refine ky (kF (jQ ?_))
  replace b := b.jE (Kb (Kr (Db St)))
  exact ⟨O, f8, f7, e2, g0, _, ⟨rfl, eN⟩, (G.trans b1), (b.jE St), Y, Z, d4, (by rw [d3]; exact x)⟩
 rintro E W ⟨D, H, z, Q, U, ⟨O, eN⟩, G, b, Y, Z, K, x⟩
 rw [aP] at x
 refine jQ (pM ?_)
 obtain rfl := sj x
 exact ow rfl ⟨_, _, rfl, (b.mg (Kb (Kr Sn))), D, z, rfl, rfl, K⟩
theorem zZ : ∀ (n : Nat) (i : Nat) (g : Value) (k : List Int) (c : LO) (j : Formula) (a : Value) (r : List Int) (w : World) {z : km} (D : ni z ((i, Ob #[g] 92) :: (c ++ [])) w) (x : kk 5 (kU .u8) 1 g k c) (t : Sl jC 5 z a j.Kids) (_ : pd n k j = some r),
  lC false Tryz.prog 471 [(.pointer (some ⟨i, 0, none⟩)), (.agg #[(.int .i64 j.Op), (.int .i64 j.K), (.string j.jB.jF), (.string j.jB.jK), a])] w ((i, Ob #[g] 92) :: (c ++ [])) (fun v B W' => ∃ y u, v = (.tuple #[]) ∧ B = ((i, Ob #[y] 92) :: (u ++ [])) ∧ kk 5 (kU .u8) 1 y r u)
 | 0 => by intros; rename_i h; simp only [pd] at h; cases h
 | n + 1 => Bo (pd n) (zZ n)
theorem Ff (k : Nat) (i : Value) (u : List Int) (c : LO) (a : Formula) (j : Value) (r : (Bool × (List Int))) (w : World) {Q : km} (Y : ni Q ((k, Ob #[i] 92) :: (c ++ [])) w) (t : kk 5 (kU .u8) 1 i u c) (g : Sl jC 5 Q j a.Kids) (hm : uQ u a = some r) :
  lC false Tryz.prog 469 [(.pointer (some ⟨k, 0, none⟩)), (.agg #[(.int .i64 a.Op), (.int .i64 a.K), (.string a.jB.jF), (.string a.jB.jK), j])] w ((k, Ob #[i] 92) :: (c ++ [])) (fun v U W' => ∃ M I, v = (.bool (r.1)) ∧ U = ((k, Ob #[M] 92) :: (I ++ [])) ∧ kk 5 (kU .u8) 1 M r.2 I) := by
 refine yl Y 15 func469 rfl (fun b => sg ?_)
 obtain ⟨y, z, rfl⟩ := g.form
 let B := (C1 a.Op a.K a.jB.jF a.jB.jK y a.Kids.length z)
 refine VE (kH b rfl (fun W4 n b => Wa (lS (Wm (V (rS gj rfl rfl) (Wm (Vg rfl rfl (jG rfl (jO b.has Mh B rfl aS aC)) (bS hm fun o K hm => Lb rfl rfl (Eg b call107 (rr a (.slice y a.Kids.length z) _ _ (g.mono jT.mono b.jJ) K) (fun W7 b => Vg rfl rfl (mC rfl) (V (ke rfl rfl) ?_)))))))))))
 refine ln (CI hm rfl (fun J hm => ?_) (fun J hm => ?_))
 ·refine sg (Wa (ln ?_))
  replace b := b.jE (Db St)
  refine kB (kI ?_)
  obtain rfl := sj hm
  exact lq (v := (.bool false)) rfl rfl ⟨_, _, rfl, (b.mg (Kb (Kr Sn))), i, c, rfl, rfl, t⟩
 refine kg (Wm (VA b Mh B aS aC (bS hm fun q D hm => ?_)))
 refine VE (eM b (Cb (Pb Pz) (Cr (Qb Qz) Cn)) call471 (fun m h => ((zZ kC) k i u c a (.slice y a.Kids.length z) _ _ m t (g.mono jT.mono h) D)) ?_)
 rintro _ a2 a3 Z b T l d ⟨N, H, x, rfl, G⟩
 obtain rfl := x.symm
 replace b := b.perm (Tb (Tr Tn))
 refine ln ?_
 replace b := b.jE (Kb (Kr (Db St)))
 refine sg (Wa (lt ?_))
 obtain rfl := sj hm
 exact lq (v := (.bool true)) rfl rfl ⟨_, _, rfl, (b.mg (Kb (Kr Sn))), N, H, rfl, rfl, G⟩
theorem yK (a : Formula) (g : Value) (r : List Int) (w : World) (c : Sl jC 5 (hp w) g a.Kids) (hm : rJ a = some r) :
  mw false Tryz.prog 465 [(.agg #[(.int .i64 a.Op), (.int .i64 a.K), (.string a.jB.jF), (.string a.jB.jK), g])] w 5 (kU .u8) 1 r := by
 refine wX 11 func465 rfl (fun d => sg ?_)
 obtain ⟨k, t, rfl⟩ := c.form
 refine VE (kH d rfl (fun W4 u d => Wa (lr (V (ma (v := (.agg #[(.slice none 0 0)])) pK (ly zeroValue92 gi (Ov _ gi) kr)) (VE (kH d rfl (fun W6 B d => Wa (lr (Wm (VA d (Mt Mh) (C1 a.Op a.K a.jB.jF a.jB.jK k a.Kids.length t) aS aC ?_))))))))))
 refine bS hm fun K D hm => ?_
 refine VE (eM d (Cb Pz (C0 Cn)) call469 (fun s m => (Ff B (.slice none 0 0) ([]) [] a (.slice k a.Kids.length t) _ _ s (kk.nil _ _ _) (c.mono jT.mono m) D)) ?_)
 rintro _ U Y M d I n h ⟨H, N, i, rfl, y⟩
 obtain rfl := i.symm
 replace d := d.perm (Tb (Tr Tn))
 refine ln ?_
 replace d := d.jE (Kb (Kr (Db St)))
 refine sg (Wm (bS hm fun T x hm => VE (sG d call66 (mw.lD (zr B H K.2 _ _ (y.sl (fun _ => rfl) (fun b o l => d.at_ (Mt (Ml l)))) (At.of (d.at_ Mh) _ rfl) x)) (fun Q G Z z d J q j => Wa (ln ?_)))))
 replace d := d.jE (Kr (Db (Dr St)))
 refine kB ?_
 obtain rfl := sj hm
 exact lq (v := G) rfl rfl ⟨_, z, rfl, d.nQ (fun p l => (Ml l)) j.nd, j⟩
theorem DF (a : Formula) (j : Value) (c : Formula) (k : Value) (r : Int) (w : World) (g : Sl jC 5 (hp w) j a.Kids) (i : Sl jC 5 (hp w) k c.Kids) (hm : rL a c = some r) :
  ki false Tryz.prog 458 [(.agg #[(.int .i64 a.Op), (.int .i64 a.K), (.string a.jB.jF), (.string a.jB.jK), j]), (.agg #[(.int .i64 c.Op), (.int .i64 c.K), (.string c.jB.jF), (.string c.jB.jK), k])] w (.int .i64 r) := by
 refine cG 10 func458 rfl (fun d => sg ?_)
 obtain ⟨x, z, rfl⟩ := g.form
 refine VE (kH d rfl (fun W4 s d => ?_))
 obtain ⟨y, B, rfl⟩ := i.form
 refine VE (kH d rfl (fun W8 v d => Wa (ln (jX ?_))))
 replace d := d.drew
 have h := d.has.jE (Kb (Kb Sn))
 refine kM h ko (XH 0 rfl h (fun _ l => jG rfl (jO l (Mt Mh) (C1 a.Op a.K a.jB.jF a.jB.jK x a.Kids.length z) rfl aS aC)) (XH 2 rfl h (fun _ l => jG rfl (jO l Mh (C1 c.Op c.K c.jB.jF c.jB.jK y c.Kids.length B) rfl aS aC)) (bS hm fun K H hm => XE 1 rfl (sG d call465 (yK a (.slice x a.Kids.length z) _ _ (g.mono jT.mono d.jJ) H) (fun Y N a4 T d t n D => ?_)))))
 have h := d.has.oA t (Dr (Kb (Kb Sn)))
 refine ⟨h, (bS hm fun M I hm => XE 3 rfl (sG d call465 (yK c (.slice y c.Kids.length B) _ _ (i.mono jT.mono (t.trans d.jJ)) I) (fun Z Q a5 U d u q G => ?_)))⟩
 have h := d.has.oA (t.trans u) (Dr (Dr (Kb (Kb Sn))))
 refine ⟨h, (bS hm fun a3 J hm => XE 4 rfl (Eg d call323 (ki.lD (zU N K Q M _ _ (D.sl (fun _ => rfl) (fun b o m => d.at_ (Ma (Ml m)))) (G.sl (fun _ => rfl) (fun b o m => d.at_ (Ml m))) J)) (fun a2 d => ?_)))⟩
 have h := d.has.oA (t.trans u) (Dr (Dr (Kb (Kb Sn))))
 refine ⟨h, (X 5 rfl h (nU rfl) (kV kr (jQ ?_)))⟩
 exact kB (rQ hm d)
theorem Bj (g : Value) (k r : List Formula) (w : World) {G : km} (Y : ni G [] w) (u : Sl jC 5 G g k) (hm : tH k = some r) :
  lM false Tryz.prog 436 [g] w G [] (fun v U μ1 => ∃ T I, v = T ∧ U = (I ++ []) ∧ kR 113 jC 5 μ1 T r I) := by
 refine sO Y 9 func436 rfl (fun b => sg (Wa (lr (Wm (bS hm fun Z Q hm => ?_)))))
 refine VE (eD b (bT _) call456 (fun h => lM.lD (Al g k _ _ h (u.mono jT.mono (kf.refl _)) Q)) ?_ (L0 := []))
 rintro _ v7 s L9 b y l ⟨i, H, a, rfl, B⟩
 obtain rfl := a.symm
 replace b := b.perm (Tr Tn)
 refine Wa (lr (Wm (bS hm fun a5 z hm => ?_)))
 refine VE (eD b (Cr Qz Cn) call457 (fun h => (xb i Z H (.func (.func 458) #[] #[]) (fun (x : (Formula × Formula)) => rL x.1 x.2) _ _ h B ⟨458, #[], #[], rfl, call458, fun W x vs r F m hm => by obtain ⟨_, _, rfl, M, N⟩ := m; obtain ⟨q, rfl, o⟩ := M.out; obtain ⟨t0, rfl, n⟩ := N.out; exact DF x.1 q x.2 t0 r W o n hm⟩ z)) ?_)
 rintro _ t A a3 b j d ⟨J, c, rfl, D⟩
 obtain rfl := c.symm
 replace b := b.perm (Tr Tn)
 refine lr (Wm (Wa (lt ?_)))
 obtain rfl := sj hm
 exact lq (v := i) rfl rfl ⟨_, _, _, rfl, (b.mg (Kr Sn)), (y.trans j), (l.trans d), (ST.kY b (mB.mem (Kr Sn))), i, J, rfl, rfl, D⟩
theorem xL (g : Value) (a0 : List Formula) (x : LO) (Z : Value) (f1 : (Formula × Formula) → Option Bool) (r : List Formula) (w : World) {μ0 : km} (h0 : ni μ0 (x ++ []) w) (B : kR 113 jC 5 μ0 g a0 x) (d2 : uK Tryz.prog Z μ0 (th jC jC) (fun (r : Bool) => (.bool r)) f1) (hm : oV a0 f1 = some r) :
  lM false Tryz.prog 439 [g, Z] w μ0 (x ++ []) (fun v L1 μ1 => ∃ y1, v = y1 ∧ L1 = [] ∧ Sl jC 5 μ1 y1 (r)) := by
 refine sO h0 66 func439 rfl (fun d => sg (Wa (lS (Wm (V (wR aF rfl B) (Wi rfl (ln (CI hm rfl (fun i3 hm => ?_) (fun i3 hm => ?_)))))))))
 ·refine sg (Wm (Wa (lt (kI ?_))))
  obtain rfl := sj hm
  refine lq (v := g) rfl rfl ?_
  obtain ⟨a1, d, i2, F, j0⟩ := ST.vS jT d B
  exact ⟨_, _, _, rfl, (d.mg Sn), i2, F, (ST.kY d (mB.mem Sn)), g, rfl, rfl, j0⟩
 refine kS (Wa (ln (lQ (np (fun m E W => ∃ t b7, ST false (keys (x ++ [])) w W μ0 (x ++ b7) ∧ E 0 = g ∧ E 1 = Z ∧ E 5 = (.int .i64 t) ∧ mr a0 f1 m t = some r) kC ⟨1, _, (d.jE St), rfl, rfl, rfl, hm⟩ ?_))))
 rintro m E W ⟨t, b7, d, y, a3, G, a⟩
 cases m with
 | zero => rw [mr] at a; cases a
 | succ h1 =>
  refine jX (sg (Wh G (Wh y (V (wR aF rfl B) (Wi rfl (ln (CI a rfl (fun d3 a => ?_) (fun d3 a => ?_))))))))
  ·refine kn (jX (lQ (jX ?_)))
   replace d := d.drew
   have h := d.has.jE (Kr Sn)
   refine kM h ko (X 0 rfl h (jN a3) (X 1 rfl h (jN y) (X 2 rfl h (jN G) (bS a fun h7 b2 a => XQ 3 rfl h (lE (i := t) jC.out aF aC rfl rfl B (kj b2) (kh b2)) (fun k1 ⟨_, ⟨h3, rfl, e7⟩, e0, i4⟩ => XH 4 rfl h (fun _ s => jG rfl (kl (nt.hp _) (e0.mono (mf (fun b o q => s.2 b o (Ml q)))) aS aC)) (X 5 rfl h (jN y) (X 6 rfl h (jN G) (X 7 rfl h (kL rfl rfl rfl) (bS a fun h8 b3 a => XQ 8 rfl h (lE (i := (IntKind.i64.wrap (t - 1))) jC.out aF aC rfl rfl B (kj b3) (kh b3)) (fun k2 ⟨_, ⟨h4, rfl, e8⟩, e1, i5⟩ => XH 9 rfl h (fun _ s => jG rfl (kl (nt.hp _) (e1.mono (mf (fun b o q => s.2 b o (Ml q)))) aS aC)) (bS a fun k7 e5 a => XE 10 rfl (wu (h7, h8) d d2 (kf.refl _) (th.mk jT jT (jC.mk ⟨h3, rfl, e7⟩) (jC.mk ⟨h4, rfl, e8⟩) d.jJ) rfl (ua rfl rfl) e5 (fun j6 d => ?_)))))))))))))
   have h := d.has.jE (Kr Sn)
   refine ⟨h, (kV kr (jQ (CI a rfl (fun d4 a => ?_) (fun d4 a => ?_))))⟩
   ·refine sg (Wh y (Wh G (bS a fun _ L a => VQ (zy (i := t) aF aC rfl rfl B (rp L) (ry L)) (fun c4 K => Wa (lS (Wa (ln ?_)))))))
    refine CJ a (fun T E W => ∃ a2 b9, ST false (keys (x ++ [])) w W μ0 (a2 ++ b9) ∧ E 0 = g ∧ E 5 = (.int .i64 T.2) ∧ kR 113 jC 5 μ0 g T.1 a2) (fun T d8 => ?_) ?_
    ·refine lQ (np (fun m E W => ∃ a5 J U u c0, ST false (keys (x ++ [])) w W μ0 (J ++ c0) ∧ E 0 = g ∧ E 1 = Z ∧ E 5 = (.int .i64 U) ∧ E 6 = c4 ∧ E 7 = (.int .i64 u) ∧ kR 113 jC 5 μ0 g a5 J ∧ mu t f1 m a5 U u = some T) kC ⟨a0, x, t, 1, _, (d.jE St), y, a3, G, rfl, rfl, B, d8⟩ ?_)
     rintro m E W ⟨a5, J, U, u, c0, d, N, a4, Q, H, I, k, j⟩
     cases m with
     | zero => rw [mu] at j; cases j
     | succ h2 =>
      refine jX (sg (Wh I (Wh H (V (JD aF rfl K k) (Wi rfl (ln (CI j rfl (fun d5 j => ?_) (fun d5 j => ?_))))))))
      ·refine kn (jX (CJ j (fun A E W => ∃ M c1, ST false (keys (x ++ [])) w W μ0 (M ++ c1) ∧ E 0 = g ∧ E 1 = Z ∧ E 5 = (.int .i64 A.2) ∧ E 6 = c4 ∧ E 7 = (.int .i64 u) ∧ kR 113 jC 5 μ0 g A.1 M) (fun A c => ?_) ?_))
       ·refine lQ (jX ?_)
        replace d := d.drew
        have h := d.has.jE (Kr Sn)
        refine kM h ko (X 0 rfl h (jN a4) (X 1 rfl h (jN H) (X 2 rfl h (jN I) (bS c fun i0 b4 c => XQ 3 rfl h (zD (i := u) jC.out aF aC rfl rfl k K (kj b4) (kh b4)) (fun k3 ⟨_, ⟨h5, rfl, f4⟩, e2, i6⟩ => XH 4 rfl h (fun _ s => jG rfl (kl (nt.hp _) (e2.mono (mf (fun b o q => s.2 b o (Ml q)))) aS aC)) (X 5 rfl h (jN H) (X 6 rfl h (jN I) (X 7 rfl h (kL rfl rfl rfl) (bS c fun i1 b5 c => XQ 8 rfl h (zD (i := (IntKind.i64.wrap (u - 1))) jC.out aF aC rfl rfl k K (kj b5) (kh b5)) (fun k4 ⟨_, ⟨h6, rfl, f5⟩, e3, i7⟩ => XH 9 rfl h (fun _ s => jG rfl (kl (nt.hp _) (e3.mono (mf (fun b o q => s.2 b o (Ml q)))) aS aC)) (bS c fun k8 e6 c => XE 10 rfl (wu (i0, i1) d d2 (kf.refl _) (th.mk jT jT (jC.mk ⟨h5, rfl, f4⟩) (jC.mk ⟨h6, rfl, f5⟩) d.jJ) rfl (ua rfl rfl) e6 (fun j8 d => ?_)))))))))))))
        have h := d.has.jE (Kr Sn)
        refine ⟨h, (X 11 rfl h (mC rfl) (kV kr (jQ (CI c rfl (fun d6 c => ?_) (fun d6 c => ?_)))))⟩
        ·refine sg (Wh N (Wh Q (Wh H (Wh I (bS c fun c7 b6 c => VQ (zD (i := u) jC.out aF aC rfl rfl k K (kj b6) (kh b6)) (fun k5 ⟨_, ⟨l0, rfl, R⟩, e4, i8⟩ => V (jG rfl (kl (nt.hp _) (e4.mono (mf (fun b o q => d.has.2 b o (Ml q)))) aS aC)) (bS c fun l2 Y c => VQ (lE (i := U) jC.out aF aC rfl rfl k (kj Y) (kh Y)) (fun k6 ⟨_, ⟨l1, rfl, j3⟩, i9, d7⟩ => ?_))))))))
         obtain ⟨f7, g0, rfl⟩ := R.form
         refine VO (pW (x1 := c7) jT d k rfl rfl (jC.mk ⟨(.slice f7 c7.Kids.length g0), rfl, R⟩) d7 (kh Y) aC (fun j9 f8 d d1 => ln (jW (Wh Q (Wi rfl (Wa (ky (kF (jQ ?_)))))))))
         obtain rfl := sj c
         exact ⟨f8, _, (d.jE St), N, a4, rfl, H, I, d1⟩
        refine ll (kF (jQ ?_))
        obtain rfl := sj c
        exact ⟨J, _, (d.jE St), N, a4, Q, H, I, k⟩
       rintro ⟨g9, h9⟩ E W ⟨M, c1, d, g1, g2, g3, g4, g7, f3⟩ d9
       exact jW (Wh g7 (Wi rfl (Wa (ln ⟨h2, bI _, g9, M, h9, (IntKind.i64.wrap (u + 1)), _, (d.jE St), g1, g2, g3, g4, rfl, f3, d9⟩))))
      refine mZ (mI (mI (rf (jQ ?_))))
      obtain rfl := sj j
      exact ⟨J, _, (d.jE St), N, Q, k⟩
    rintro ⟨k0, c6⟩ E W ⟨a2, b9, d, c2, c3, P⟩ D
    refine sg (Wh c2 (Wh c3 (bS D fun _ O D => VQ (zy (i := c6) aF aC rfl rfl P (rp O) (ry O)) (fun k9 e9 => VO (Cq (z := (⟨0, 0, K0, []⟩ : Formula)) (zs := C7) jT d P (jC.mk ⟨(.slice none 0 0), rfl, (Sl.nil _ _ _)⟩) aF bD e9 rfl rfl (fun j7 j5 d d0 => lr (Wh c2 (Wh c3 (bS D fun _ a9 D => VQ (EO (i := c6) aF aC rfl rfl d0 (rp a9) (ry a9)) (fun c5 f0 => ?_))))))))))
    refine Wa (lt (mn (kI (kI (mn (kI ?_))))))
    obtain rfl := sj D
    refine lq (v := c5) rfl rfl ?_
    obtain ⟨l3, d, c8, l, f2⟩ := ST.vS jT d f0
    exact ⟨_, _, _, rfl, (d.mg Sn), c8, l, (ST.kY d (mB.mem Sn)), c5, rfl, rfl, f2⟩
   exact ll (kF (jQ (jW (Wh G (Wi rfl (Wa (ln ⟨h1, bI _, (IntKind.i64.wrap (t + 1)), _, (d.jE St), y, a3, rfl, a⟩)))))))
  refine mZ (mI (mI (rf (jQ (sg (Wh y (Wa (lt ?_))))))))
  obtain rfl := sj a
  refine lq (v := g) rfl rfl ?_
  obtain ⟨l4, d, c9, n, f6⟩ := ST.vS jT d B
  exact ⟨_, _, _, rfl, (d.mg Sn), c9, n, (ST.kY d (mB.mem Sn)), g, rfl, rfl, f6⟩
theorem pT (G : Value) (N : List Formula) (H : Value) (l : List Formula) (I : Value) (f2 : (Formula × Formula) → Option Bool) (r : Bool) (w : World) (x : Sl jC 5 (hp w) G N) (Q : Sl jC 5 (hp w) H l) (o : uK Tryz.prog I (hp w) (th jC jC) (fun (r : Bool) => (.bool r)) f2) (hm : ms N l f2 = some r) :
  ki false Tryz.prog 459 [G, H, I] w (.bool r) := by
 refine cG 32 func459 rfl (fun b => sg (Wa (lS (Wm (V (lf aF rfl x) (Wm (V (lf aF rfl Q) (Wi rfl (ky ?_)))))))))
 refine jQ (CI hm rfl (fun s hm => ?_) (fun s hm => ?_))
 ·refine sg (Wa (lt (kI ?_)))
  obtain rfl := sj hm
  exact rP b
 refine kS (Wm (V (lf aF rfl x) (Wm (ln (li (fun i E W => ∃ y, (E 17 = .int .i64 (i : Nat) ∧ E 16 = .int .i64 (N.length : Nat)) ∧ ST false kQ w W (hp w) y ∧ E 1 = H ∧ E 2 = I ∧ E 15 = G ∧ kZ l f2 (N.drop i) i = some r) N.length x.len ⟨_, ⟨rfl, rfl⟩, (b.jE St), rfl, rfl, rfl, hm⟩ dc dc dc (fun _ _ _ h => by obtain ⟨_, m, _⟩ := h; exact m) ?_ ?_)))))
 ·rintro a4 E W U ⟨y, ⟨d, n⟩, b, z, B, D, a⟩
  obtain ⟨g, c5, a9, q, a3⟩ := kP U
  rw [a9] at a
  refine bg (Wh d (VQ (mo (i := (a4 : Int)) (x0 := g) jC.out aF aC D d x (aJ _) q) (fun b9 ⟨_, ⟨c2, rfl, J⟩, Y⟩ => V (jG rfl (kl b.has Y aS aC)) (VE (kv b bD (fun v P b => Wa ?_))))))
  obtain ⟨j, t, rfl⟩ := J.form
  let a0 := (C1 g.Op g.K g.jB.jF g.jB.jK j g.Kids.length t)
  refine VO (jY (.agg a0.toArray) (a0.toArray) b rfl rfl aC oc nb rfl (fun A b => lr (Wh z (Wm (bS a fun c M a => VQ (mo (i := (a4 : Int)) (x0 := c) jC.out aF aC rfl rfl Q (kj M) (kh M)) (fun c0 ⟨_, ⟨c3, rfl, K⟩, Z⟩ => V (jG rfl (kl b.has Z aS aC)) (VE (kv b bD (fun F R b => ?_)))))))))
  obtain ⟨k, u, rfl⟩ := K.form
  let a5 := (C1 c.Op c.K c.jB.jF c.jB.jK k c.Kids.length u)
  refine VO (jY (.agg a5.toArray) (a5.toArray) b rfl rfl aC oc nb rfl (fun L b => lr (Wh B (VA b (Mt Mh) a0 aS aC (VA b Mh a5 aS aC (bS a fun c1 a2 a => VE (wu (g, c) b o (kf.refl _) (th.mk jT jT (jC.mk ⟨(.slice j g.Kids.length t), rfl, J⟩) (jC.mk ⟨(.slice k c.Kids.length u), rfl, K⟩) b.jJ) rfl (ua rfl rfl) a2 (fun O b => V (mC rfl) (ln ?_)))))))))
  replace b := b.jE (Db (Db St))
  refine CI a rfl (fun T a => ?_) (fun T a => ?_)
  ·refine sg (Wa (lt (mn (kI (mn (kI ?_))))))
   obtain rfl := sj a
   exact rP b
  exact ll (kF (jQ ⟨d, _, ⟨rfl, n⟩, (b.jE St), z, B, D, (by rw [a3]; exact a)⟩))
 rintro E W ⟨y, ⟨d, n⟩, b, z, B, D, a⟩
 rw [aP] at a
 exact jQ (sg (Wa (lt (rQ a b))))
theorem Ch (M : Formula → Formula → Option Bool) (v : ∀ (a : Formula) (j : Value) (c : Formula) (k : Value) (r : Bool) (w : World) (u : Sl jC 5 (hp w) j a.Kids) (y : Sl jC 5 (hp w) k c.Kids), M a c = some r → ki false Tryz.prog 440 [(.agg #[(.int .i64 a.Op), (.int .i64 a.K), (.string a.jB.jF), (.string a.jB.jK), j]), (.agg #[(.int .i64 c.Op), (.int .i64 c.K), (.string c.jB.jF), (.string c.jB.jK), k])] w (.bool r)) (a : Formula) (j : Value) (c : Formula) (k : Value) (r : Bool) (w : World) (u : Sl jC 5 (hp w) j a.Kids) (y : Sl jC 5 (hp w) k c.Kids) (hm : uH M a c = some r) :
  ki false Tryz.prog 440 [(.agg #[(.int .i64 a.Op), (.int .i64 a.K), (.string a.jB.jF), (.string a.jB.jK), j]), (.agg #[(.int .i64 c.Op), (.int .i64 c.K), (.string c.jB.jF), (.string c.jB.jK), k])] w (.bool r) := by
 refine cG 31 func440 rfl (fun b => sg ?_)
 obtain ⟨N, Y, rfl⟩ := u.form
 let d := (C1 a.Op a.K a.jB.jF a.jB.jK N a.Kids.length Y)
 refine VE (kH b rfl (fun W4 T b => ?_))
 obtain ⟨Q, Z, rfl⟩ := y.form
 let a0 := (C1 c.Op c.K c.jB.jF c.jB.jK Q c.Kids.length Z)
 refine VE (kH b rfl (fun W8 U b => Wa (lr (Wf rD (VB b (Mt Mh) rfl rfl cL (Wf rD (VB b Mh rfl rfl cL (Wi rfl (Wm (LJ hm (fun a9 E W => ∃ a2, ST false kQ w W (hp w) ((U, Ol a0 113) :: ((T, Ol d 113) :: a2)) ∧ E 2 = (.pointer (some ⟨T, 0, none⟩)) ∧ E 3 = (.pointer (some ⟨U, 0, none⟩)) ∧ E 4 = (.bool false) ∧ E 16 = (.bool a9)) 6 ?_ (fun a9 D I => ?_)))))))))))
 ·rintro d1 E W ⟨a2, b, J, K, a5, A⟩ n
  refine Wh A (LJ n (fun m E W => ∃ a3, ST false kQ w W (hp w) ((U, Ol a0 113) :: ((T, Ol d 113) :: a3)) ∧ E 2 = (.pointer (some ⟨T, 0, none⟩)) ∧ E 3 = (.pointer (some ⟨U, 0, none⟩)) ∧ E 4 = (.bool false) ∧ E 23 = (.bool m)) 6 ?_ (fun m B H => ?_))
  ·rintro d2 E W ⟨a3, b, F, L, h, c1⟩ o
   refine Wh c1 (LJ o (fun l E W => ∃ a4, ST false kQ w W (hp w) a4 ∧ E 4 = (.bool false) ∧ E 30 = (.bool l)) 6 ?_ (fun l z G => ?_))
   ·rintro d3 E W ⟨a4, b, c9, O⟩ q
    exact Wg O (lt (rQ q b))
   refine bC z (fun i z => ?_) (fun i z => ?_)
   ·refine ug i (jM qm F) (ug i (jG rfl (jS b.has (Mt Mh) rfl eO)) (ug i (jM qm L) (ug i (jG rfl (jS b.has Mh rfl eO)) (bS z fun d0 s z => rl i (Eg b call459 (pT (.slice N a.Kids.length Y) a.Kids (.slice Q c.Kids.length Z) c.Kids (.func (.func 440) #[] #[]) (fun (x : (Formula × Formula)) => M x.1 x.2) _ _ (u.mono jT.mono b.jJ) (y.mono jT.mono b.jJ) ⟨440, #[], #[], rfl, call440, fun W x vs r hs hR hm => by obtain ⟨_, _, rfl, P, R⟩ := hR; obtain ⟨u0, rfl, k0⟩ := P.out; obtain ⟨t0, rfl, j0⟩ := R.out; exact v x.1 u0 x.2 t0 r W k0 j0 hm⟩ s) (fun c8 b => V (kd (cB i) rfl) ?_))))))
    obtain rfl := sj z
    exact G _ _ ⟨_, (b.jE (Db (Db St))), h, rfl⟩
   refine un i (un i (un i (un i (un i (V (ke (cB i) rfl) ?_)))))
   obtain rfl := sj z
   exact G _ _ ⟨_, (b.jE (Db (Db St))), h, rfl⟩
  refine bC B (fun g B => ?_) (fun g B => ?_)
  ·refine ug g (jM vI J) (ug g (jG rfl (jO b.has (Mt Mh) (jH a.jB) rfl bL aI)) (ug g (jM vI K) (ug g (jG rfl (jO b.has Mh (jH c.jB) rfl bL aI)) (ug g (xg rfl rfl (oQ fQ) (tR (tk _ a.jB c.jB))) (V (kd (cB g) rfl) ?_)))))
   obtain rfl := sj B
   exact H _ _ ⟨_, (b.jE St), J, K, a5, rfl⟩
  refine un g (un g (un g (un g (un g (V (ke (cB g) rfl) ?_)))))
  obtain rfl := sj B
  exact H _ _ ⟨_, (b.jE St), J, K, a5, rfl⟩
 refine bC D (fun t D => ?_) (fun t D => ?_)
 ·refine ug t (jM vH rfl) (ug t (jG rfl (jS b.has (Mt Mh) rfl cL)) (ug t (jM vH rfl) (ug t (jG rfl (jS b.has Mh rfl cL)) (ug t (kL rfl rfl rfl) (V (kd (cB t) rfl) ?_)))))
  obtain rfl := sj D
  exact I _ _ ⟨_, (b.jE St), rfl, rfl, rfl, rfl⟩
 refine un t (un t (un t (un t (un t (V (ke (cB t) rfl) ?_)))))
 obtain rfl := sj D
 exact I _ _ ⟨_, (b.jE St), rfl, rfl, rfl, rfl⟩
theorem AZ : ∀ (n : Nat) (g : Formula) (a : Value) (i : Formula) (c : Value) (r : Bool) (w : World) (j : Sl jC 5 (hp w) a g.Kids) (k : Sl jC 5 (hp w) c i.Kids) (_ : nI n g i = some r),
  ki false Tryz.prog 440 [(.agg #[(.int .i64 g.Op), (.int .i64 g.K), (.string g.jB.jF), (.string g.jB.jK), a]), (.agg #[(.int .i64 i.Op), (.int .i64 i.K), (.string i.jB.jF), (.string i.jB.jK), c])] w (.bool r)
 | 0 => by intros; rename_i h; simp only [nI] at h; cases h
 | n + 1 => Ch (nI n) (AZ n)
theorem sv (j : Nat) (a0 : kD) (c : Int) (K : Value) (a2 : List Formula) (r : (Formula × kD)) (w : World) {μ0 : km} (h0 : ni μ0 ((j, Ol (lB a0) 376) :: []) w) (b5 : Sl jC 5 μ0 K a2) (hm : nA a0 c a2 = some r) :
  lM false Tryz.prog 407 [(.pointer (some ⟨j, 0, none⟩)), (.int .i64 c), K] w μ0 ((j, Ol (lB a0) 376) :: []) (fun v L1 μ1 => ∃ y1, v = (.agg #[(.int .i64 ((r.1).Op)), (.int .i64 ((r.1).K)), (.string (((r.1).jB).jF)), (.string (((r.1).jB).jK)), y1]) ∧ L1 = ((j, Ol (lB (r.2)) 376) :: []) ∧ Sl jC 5 μ1 y1 ((r.1).Kids)) := by
 refine sO h0 37 func407 rfl (fun b => sg (VE (kv b bD (fun W2 R b => lr (Wm (Wi rfl (VE (kv b zeroValue3 (fun W4 s b => VO (jY (.int .i64 (IntKind.i64.wrap (5 - c))) (#[(.int .i64 (IntKind.i64.wrap (5 - c)))]) b rfl rfl fH (Aq _ (IntKind.i64.wrap (5 - c))) nb rfl (fun W5 b => ln (jX ?_))))))))))))
 let m := (IntKind.i64.wrap (5 - c))
 let q : Value := (.agg (O4 m).toArray)
 refine jW (Wm (Wm (bS hm fun r6 d1 hm => ?_)))
 refine VE (eD b (bT _) call437 (fun n => lM.lD (Gy c K a2 _ _ n (b5.mono jT.mono (kf.refl _)) d1)) ?_ (L0 := []))
 rintro _ f4 aa e2 b B d ⟨P, H, rfl, a3⟩
 obtain rfl := H.symm
 refine Wa (lS (Wm (V (qX (by exact tD rfl) rfl) (bS hm fun f3 c1 hm => VE (Eg b call310 (tq P r6 (.func (.func 438) #[] #[(.pointer (some ⟨s, 0, none⟩))]) (fun (x : Formula) => pR x m) _ _ (a3.mono jT.mono b.jJ) ⟨438, #[], #[(.pointer (some ⟨s, 0, none⟩))], rfl, call438, fun W x vs r hs A hm => by obtain ⟨_, rfl, U⟩ := A; obtain ⟨L, rfl, F⟩ := U.out; exact (yP x L s m r W F (At.of (hs _ _ (b.at_ Mh)) _ rfl) hm).lD⟩ c1) (fun e5 b => ln (CI hm rfl (fun b6 hm => ?_) (fun b6 hm => ?_))))))))
 ·refine sg (VB b Mh rfl rfl cL (V (ma (v := q) (mQ rfl) (ly bD bY (xo _ bY) kr)) ?_))
  replace b := b.perm (Nb (Pb Pz) Nz)
  refine VO (jY q ((O4 m).toArray) b rfl rfl aC oc nb rfl (fun e6 b => ln ?_))
  replace b := b.jE (Kb (Db St))
  refine kB (kI ?_)
  obtain rfl := sj hm
  exact pc (v := q) rfl rfl (jO b.has Mh (O4 m) rfl aS aC) ⟨_, _, _, rfl, (b.mg (Db (Kb Sn))), B, d, (ST.kY b (mB.mem (Db (Kb Sn)))), (.slice none 0 0), rfl, rfl, (Sl.nil _ _ _)⟩
 refine kn ?_
 replace b := b.jE (Db St)
 refine sg (Wm (bS hm fun d2 c2 hm => ?_))
 refine VE (eD b (bT _) call436 (fun n => (Bj P r6 _ _ n (a3.mono jT.mono (kf.refl _)) c2)) ?_ (L0 := []))
 rintro _ f5 f9 e3 b N h ⟨d5, c7, I, rfl, c4⟩
 obtain rfl := I.symm
 replace b := b.perm (Tr Tn)
 refine bS hm fun z c3 hm => ?_
 refine VE (eD b (Cr Qz Cn) call439 (fun n => (xL d5 d2 c7 (.func (.func 440) #[] #[]) (fun (x : (Formula × Formula)) => nI kC x.1 x.2) _ _ n c4 ⟨440, #[], #[], rfl, call440, fun W x vs r hs A hm => by obtain ⟨_, _, rfl, U, d0⟩ := A; obtain ⟨L, rfl, F⟩ := U.out; obtain ⟨t0, rfl, j0⟩ := d0.out; exact (AZ kC) x.1 L x.2 t0 r W F j0 hm⟩ c3)) ?_)
 rintro _ f6 d7 e4 b Q l ⟨d6, J, rfl, y⟩
 obtain rfl := J.symm
 refine Wa (ln (jX (CJ hm (fun O E W => ∃ a5, ST false (keys ((j, Ol (lB a0) 376) :: [])) w W d7 ((R, Ol C7 113) :: ((j, Ol (lB O) 376) :: a5)) ∧ E 1 = (.int .i64 c) ∧ E 6 = (.pointer (some ⟨R, 0, none⟩)) ∧ E 8 = d6) (fun O u => ?_) ?_)))
 ·refine sg (Wm (V (lf aF rfl y) (Wi rfl (ln (CI u rfl (fun b9 u => ?_) (fun b9 u => ?_))))))
  ·refine jW (Wm (Wn (Wf Jk ?_)))
   replace b := b.perm (Nb (Pb Pz) Nz)
   refine VO (jY (.int .i64 12) ((lB (⟨12⟩ : kD)).toArray) b rfl rfl sizeOf57 (Aq _ 12) nb rfl (fun f1 b => ln ?_))
   obtain rfl := sj u
   exact ⟨_, (b.jE (Sb (Pb Pz) St)), rfl, rfl, rfl⟩
  refine kn ?_
  obtain rfl := sj u
  exact ⟨_, (b.jE St), rfl, rfl, rfl⟩
 rintro f8 E W ⟨a5, b, c9, M, T⟩ g
 refine jX (sg (Wh T (V (lf aF rfl y) (Wi rfl (ln (CI g rfl (fun b7 g => ?_) (fun b7 g => ?_)))))))
 ·refine sg (Wh T (bS g fun a Z g => VQ (mo (i := 0) (x0 := a) jC.out aF aC rfl rfl y (kj Z) (kh Z)) (fun f2 ⟨_, ⟨f7, rfl, Y⟩, c0⟩ => V (jG rfl (kl b.has c0 aS aC)) ?_)))
  obtain ⟨D, G, rfl⟩ := Y.form
  let a4 := (C1 a.Op a.K a.jB.jF a.jB.jK D a.Kids.length G)
  refine VO (jY (.agg a4.toArray) (a4.toArray) b M rfl aC oc nb rfl (fun e9 b => lt (kI ?_)))
  obtain rfl := sj g
  exact pc (v := (.agg a4.toArray)) rfl M (jO b.has Mh a4 rfl aS aC) ⟨_, _, _, rfl, (b.mg (Db (Kb Sn))), ((B.trans N).trans Q), ((d.trans h).trans l), (ST.kY b (mB.mem (Db (Kb Sn)))), (.slice D a.Kids.length G), rfl, rfl, Y⟩
 refine kg (Wh c9 (Wh T ?_))
 obtain ⟨k, t, rfl⟩ := y.form
 let a9 : Value := (.slice k z.length t)
 let o : Value := (.agg #[(.int .i64 c), (.int .i64 0), (.string zS), (.string zS), a9])
 refine V (ma (v := o) (qf rfl rfl) (ly bD bY (xo _ bY) kr)) (VO (jY o (#[(.int .i64 c), (.int .i64 0), (.string zS), (.string zS), a9]) b M rfl aC oc nb rfl (fun f0 b => lt ?_)))
 obtain rfl := sj g
 exact pc (v := o) rfl M (jO b.has Mh [(.int .i64 c), (.int .i64 0), (.string zS), (.string zS), a9] rfl aS aC) ⟨_, _, _, rfl, (b.mg (Db (Kb Sn))), ((B.trans N).trans Q), ((d.trans h).trans l), (ST.kY b (mB.mem (Db (Kb Sn)))), a9, rfl, rfl, y⟩
theorem yT (G : Nat) (a0 : kD) (a1 : Int) (c2 : Value) (a2 : List Formula) (r : (Formula × kD)) (w : World) {μ0 : km} (h0 : ni μ0 ((G, Ol (lB a0) 376) :: []) w) (c1 : Sl jC 5 μ0 c2 a2) (hm : pQ a0 a1 a2 = some r) :
  lM false Tryz.prog 406 [(.pointer (some ⟨G, 0, none⟩)), (.int .i64 a1), c2] w μ0 ((G, Ol (lB a0) 376) :: []) (fun v L1 μ1 => ∃ y1, v = (.agg #[(.int .i64 ((r.1).Op)), (.int .i64 ((r.1).K)), (.string (((r.1).jB).jF)), (.string (((r.1).jB).jK)), y1]) ∧ L1 = ((G, Ol (lB (r.2)) 376) :: []) ∧ Sl jC 5 μ1 y1 ((r.1).Kids)) := by
 let j8 := ((lB a0).toArray : Array Value)
 refine sO h0 58 func406 rfl (fun b => sg (VE (kv b bD (fun W2 b1 b => lr (Wa (lS (Wm ?_)))))))
 refine V (lf aF rfl c1) (Wm (ln (li (fun i E W => ∃ x K J N c0, (E 12 = .int .i64 (i : Nat) ∧ E 11 = .int .i64 (a2.length : Nat)) ∧ ST false (keys ((G, Obj.cells j8 376 (0, 0)) :: [])) w W μ0 ((b1, Ol C7 113) :: ((G, Obj.cells j8 376 (0, 0)) :: (N ++ c0))) ∧ E 0 = (.pointer (some ⟨G, 0, none⟩)) ∧ E 1 = (.int .i64 x) ∧ E 6 = (.pointer (some ⟨b1, 0, none⟩)) ∧ E 7 = K ∧ E 10 = c2 ∧ kR 113 jC 5 μ0 K J N ∧ mq a0 (a2.drop i) x J = some r) a2.length c1.len ⟨a1, (.slice none 0 0), ([]), [], _, ⟨rfl, rfl⟩, (b.jE St), rfl, rfl, rfl, rfl, rfl, (kR.nil _ _ _ _), hm⟩ dc dc dc (fun _ _ _ h => by obtain ⟨_, _, _, _, _, aa, _⟩ := h; exact aa) ?_ ?_)))
 ·rintro h2 E W f2 ⟨x, K, J, N, c0, ⟨R, eN⟩, b, U, H, u, I, P, D, a⟩
  obtain ⟨c, h8, g8, g7, b7⟩ := kP f2
  rw [g8] at a
  refine bg (VQ (mo (i := (h2 : Int)) (x0 := c) jC.out aF aC P R c1 (aJ _) g7) (fun k7 ⟨_, ⟨l0, rfl, Y⟩, f3⟩ => V (jG rfl (kl b.has f3 aS aC)) (VE (kv b bD (fun i6 k4 b => ?_)))))
  obtain ⟨y, z, rfl⟩ := Y.form
  let j6 : Value := (.slice y c.Kids.length z)
  let b8 := (C1 c.Op c.K c.jB.jF c.jB.jK y c.Kids.length z)
  refine VO (jY (.agg b8.toArray) (b8.toArray) b rfl rfl aC oc nb rfl (fun i7 b => ln (bg (VA b Mh b8 aS aC (bS a fun k8 f4 a => VE (Eg b call433 (ki.lD (xS c j6 2 _ _ (Y.mono jT.mono b.jJ) f4)) (fun i8 b => Wa (ln (CI a rfl (fun e5 a => ?_) (fun e5 a => ?_))))))))))
  ·refine jW (Wh H (Wi rfl (Wa (ky (kF (kF (jQ ?_)))))))
   replace b := b.jE (Db St)
   exact ⟨R, (IntKind.i64.wrap (x - 1)), K, J, N, _, ⟨rfl, eN⟩, (b.jE St), U, rfl, u, I, P, D, (by rw [b7]; exact a)⟩
  refine sg (VA b Mh b8 aS aC (bS a fun k9 f5 a => VE (Eg b call433 (ki.lD (xS c j6 3 _ _ (Y.mono jT.mono b.jJ) f5)) (fun i9 b => V (mC rfl) (Wa (ln (CI a rfl (fun e6 a => ?_) (fun e6 a => ?_))))))))
  ·refine jW (Wh I (VA b Mh b8 aS aC (VE (kJ (cs := b8.toArray) b (mQ rfl) (na aF aC bD) (fun j0 k5 b => ?_)))))
   replace b := b.perm (Nr (Qb (Qb (Qb (Qb Qz)))) Nz)
   refine bS a fun h3 e7 a => VE (tZ (B := N) jT b dc aF nq.1 nq.2.1 rfl nq.2.2.1 nq.2.2.2 rfl rfl D (Bn.lit jT (l := [c]) (.cons (ys := C1 c.Op c.K c.jB.jF c.jB.jK y c.Kids.length z) (jC.mk ⟨j6, rfl, Y⟩) .nil) rfl nb (b.at_ (Ma Mh))) e7 (fun j3 h4 g9 b e4 => Wa (ky (kF (kF (jQ ?_))))))
   replace b := b.jE (Kr (Db (Db St)))
   exact ⟨R, x, h4, h3, g9, _, ⟨rfl, eN⟩, (b.jE (Sb (Pr Pz) (Sb (Pr Pz) St))), U, H, u, rfl, P, e4, (by rw [b7]; exact a)⟩
  refine ll (kF (kF (jQ ?_)))
  replace b := b.jE (Db St)
  exact ⟨R, x, K, J, N, _, ⟨rfl, eN⟩, (b.jE St), U, H, u, I, P, D, (by rw [b7]; exact a)⟩
 rintro E W ⟨x, K, J, N, c0, ⟨R, eN⟩, b, U, H, u, I, P, D, a⟩
 rw [aP] at a
 refine jQ (jX (bg (Wh H (Wi rfl (Wa (ln (CI a rfl (fun e8 a => ?_) (fun e8 a => ?_))))))))
 ·refine sg (bS a fun g f6 a => ?_)
  let j2 : Value := (.string (((g).jB).jK))
  let h9 : Value := (.string (((g).jB).jF))
  refine VE (eD b (bT _) call434 (fun d => lM.lD (EY  _ _ d  f6)) ?_ (L0 := []))
  rintro _ l1 m2 i0 b c9 m ⟨l6, b2, rfl, c3⟩
  obtain rfl := b2.symm
  obtain ⟨Z, a6, rfl⟩ := c3.form
  let g5 : Value := (.slice Z ((g).Kids).length a6)
  let e0 : Value := (.agg #[(.int .i64 ((g).Op)), (.int .i64 ((g).K)), h9, j2, g5])
  refine VO (jY e0 (#[(.int .i64 ((g).Op)), (.int .i64 ((g).K)), h9, j2, g5]) b u rfl aC oc nb rfl (fun j5 b => ln ?_))
  replace b := b.jE (Kb (Kb (Dr St)))
  refine kB (mn (kI ?_))
  obtain rfl := sj a
  exact pc (v := e0) rfl u (jO b.has Mh [(.int .i64 ((g).Op)), (.int .i64 ((g).K)), h9, j2, g5] rfl aS aC) ⟨_, _, _, rfl, (b.mg (Db (Kb Sn))), c9, m, (ST.kY b (mB.mem (Db (Kb Sn)))), g5, rfl, rfl, c3⟩
 refine sg (Wh H (Wh I (V (wR aF rfl D) (Wi rfl (Wa (ln (CI a rfl (fun e9 a => ?_) (fun e9 a => ?_))))))))
 ·refine sg (bS a fun j f7 a => ?_)
  let j4 : Value := (.string (((j).jB).jK))
  let j1 : Value := (.string (((j).jB).jF))
  refine VE (eD b (bT _) call435 (fun d => lM.lD (FN  _ _ d  f7)) ?_ (L0 := []))
  rintro _ l2 m3 i1 b d0 n ⟨l7, b3, rfl, c4⟩
  obtain rfl := b3.symm
  obtain ⟨a3, a7, rfl⟩ := c4.form
  let e3 : Value := (.slice a3 ((j).Kids).length a7)
  let d9 : Value := (.agg #[(.int .i64 ((j).Op)), (.int .i64 ((j).K)), j1, j4, e3])
  refine VO (jY d9 (#[(.int .i64 ((j).Op)), (.int .i64 ((j).K)), j1, j4, e3]) b u rfl aC oc nb rfl (fun j7 b => ln ?_))
  replace b := b.jE (Kb (Kb (Dr St)))
  refine kB (mn (kI ?_))
  obtain rfl := sj a
  exact pc (v := d9) rfl u (jO b.has Mh [(.int .i64 ((j).Op)), (.int .i64 ((j).K)), j1, j4, e3] rfl aS aC) ⟨_, _, _, rfl, (b.mg (Db (Kb Sn))), d0, n, (ST.kY b (mB.mem (Db (Kb Sn)))), e3, rfl, rfl, c4⟩
 refine sg (Wh H (Wh I (V (wR aF rfl D) (Wi rfl (Wa (ln (CI a rfl (fun f0 a => ?_) (fun f0 a => ?_))))))))
 ·refine sg (Wh U (Wh I ?_))
  replace b := b.perm (Nr (Qb (Qb Qz)) Nz)
  obtain ⟨m4, b, d1, o, g1⟩ := ST.vS jT b D
  refine bS a fun k f8 a => ?_
  let h6 : Value := (.string (((k.1).jB).jK))
  let h1 : Value := (.string (((k.1).jB).jF))
  refine VE (eD b (Cb (Pb Pz) Cn) call407 (fun d => (sv G a0 2 K J _ _ d (g1.mono jT.mono (kf.refl _)) f8)) ?_)
  rintro _ l3 m5 i2 b d2 q ⟨l8, b4, rfl, c5⟩
  obtain rfl := b4.symm
  replace b := b.perm (Tb Tn)
  obtain ⟨a4, a8, rfl⟩ := c5.form
  let e1 : Value := (.slice a4 ((k.1).Kids).length a8)
  let c8 : Value := (.agg #[(.int .i64 ((k.1).Op)), (.int .i64 ((k.1).K)), h1, h6, e1])
  replace b := b.perm (Nb (Pb Pz) Nz)
  refine VO (jY c8 (#[(.int .i64 ((k.1).Op)), (.int .i64 ((k.1).K)), h1, h6, e1]) b u rfl aC oc nb rfl (fun j9 b => lt (mn (kI ?_))))
  obtain rfl := sj a
  exact pc (v := c8) rfl u (jO b.has Mh [(.int .i64 ((k.1).Op)), (.int .i64 ((k.1).K)), h1, h6, e1] rfl aS aC) ⟨_, _, _, rfl, (b.mg (Db (Kb Sn))), (d1.trans d2), (o.trans q), (ST.kY b (mB.mem (Db (Kb Sn)))), e1, rfl, rfl, c5⟩
 refine sg (Wh H (Wi rfl (Wa (ln (CI a rfl (fun f1 a => ?_) (fun f1 a => ?_))))))
 ·refine sg (Wh U (Wh I ?_))
  replace b := b.perm (Nr (Qb (Qb Qz)) Nz)
  obtain ⟨m6, b, d3, s, g2⟩ := ST.vS jT b D
  refine bS a fun t f9 a => ?_
  let h7 : Value := (.string (((t.1).jB).jK))
  let h5 : Value := (.string (((t.1).jB).jF))
  refine VE (eD b (Cb (Pb Pz) Cn) call407 (fun d => (sv G a0 3 K J _ _ d (g2.mono jT.mono (kf.refl _)) f9)) ?_)
  rintro _ l4 m7 i3 b d4 A ⟨l9, b5, rfl, c6⟩
  obtain rfl := b5.symm
  replace b := b.perm (Tb Tn)
  obtain ⟨a5, a9, rfl⟩ := c6.form
  let e2 : Value := (.slice a5 ((t.1).Kids).length a9)
  let d8 : Value := (.agg #[(.int .i64 ((t.1).Op)), (.int .i64 ((t.1).K)), h5, h7, e2])
  replace b := b.perm (Nb (Pb Pz) Nz)
  refine VO (jY d8 (#[(.int .i64 ((t.1).Op)), (.int .i64 ((t.1).K)), h5, h7, e2]) b u rfl aC oc nb rfl (fun k1 b => lt (mn (kI ?_))))
  obtain rfl := sj a
  exact pc (v := d8) rfl u (jO b.has Mh [(.int .i64 ((t.1).Op)), (.int .i64 ((t.1).K)), h5, h7, e2] rfl aS aC) ⟨_, _, _, rfl, (b.mg (Db (Kb Sn))), (d3.trans d4), (s.trans A), (ST.kY b (mB.mem (Db (Kb Sn)))), e2, rfl, rfl, c6⟩
 refine ll (kF (jQ (sg (Wh H (Wh I ?_)))))
 replace b := b.perm (Nr (Qb (Qb Qz)) Nz)
 obtain ⟨m8, b, d5, F, g3⟩ := ST.vS jT b D
 refine bS a fun T g0 a => ?_
 refine VE (eD b (bT _) call436 (fun d => (Bj K J _ _ d (g3.mono jT.mono (kf.refl _)) g0)) ?_ (L0 := []))
 rintro _ l5 m9 i4 b d6 L ⟨m0, i5, b6, rfl, c7⟩
 obtain rfl := b6.symm
 replace b := b.perm (Tr Tn)
 obtain ⟨M, Q, rfl⟩ := c7.form
 let g6 : Value := (.slice M T.length Q)
 let b9 : Value := (.agg #[(.int .i64 4), (.int .i64 x), (.string zS), (.string zS), g6])
 refine V (ma (v := b9) (Ft rfl rfl rfl) (ly bD bY (xo _ bY) kr)) ?_
 replace b := b.perm (Nb (Pr Pz) Nz)
 refine VO (jY b9 (#[(.int .i64 4), (.int .i64 x), (.string zS), (.string zS), g6]) b u rfl aC oc nb rfl (fun k3 b => lt ?_))
 obtain rfl := sj a
 refine pc (v := b9) rfl u (jO b.has Mh [(.int .i64 4), (.int .i64 x), (.string zS), (.string zS), g6] rfl aS aC) ?_
 replace b := b.perm (Nr (Qb Qz) Nz)
 obtain ⟨n0, b, d7, O, g4⟩ := ST.vS jT b c7
 exact ⟨_, _, _, rfl, (b.mg (Db (Kb Sn))), ((d5.trans d6).trans d7), ((F.trans L).trans O), (ST.kY b (mB.mem (Db (Kb Sn)))), g6, rfl, rfl, g4⟩
theorem xI (c9 : kD → Formula → Option (Formula × kD)) (e9 : ∀ (u : Nat) (a0 : kD) (a : Formula) (y : Value) (r : (Formula × kD)) (w : World) {μ0 : km} (h0 : ni μ0 ((u, Ol (lB a0) 376) :: []) w) (x : Sl jC 5 μ0 y a.Kids), c9 a0 a = some r → lM false Tryz.prog 351 [(.pointer (some ⟨u, 0, none⟩)), (.agg #[(.int .i64 a.Op), (.int .i64 a.K), (.string a.jB.jF), (.string a.jB.jK), y])] w μ0 ((u, Ol (lB a0) 376) :: []) (fun v L1 μ1 => ∃ L, v = (.agg #[(.int .i64 ((r.1).Op)), (.int .i64 ((r.1).K)), (.string (((r.1).jB).jF)), (.string (((r.1).jB).jK)), L]) ∧ L1 = ((u, Ol (lB (r.2)) 376) :: []) ∧ Sl jC 5 μ1 L ((r.1).Kids))) (u : Nat) (a0 : kD) (a : Formula) (y : Value) (r : (Formula × kD)) (w : World) {μ0 : km} (h0 : ni μ0 ((u, Ol (lB a0) 376) :: []) w) (x : Sl jC 5 μ0 y a.Kids) (hm : qK c9 a0 a = some r) :
  lM false Tryz.prog 351 [(.pointer (some ⟨u, 0, none⟩)), (.agg #[(.int .i64 a.Op), (.int .i64 a.K), (.string a.jB.jF), (.string a.jB.jK), y])] w μ0 ((u, Ol (lB a0) 376) :: []) (fun v L1 μ1 => ∃ L, v = (.agg #[(.int .i64 ((r.1).Op)), (.int .i64 ((r.1).K)), (.string (((r.1).jB).jF)), (.string (((r.1).jB).jK)), L]) ∧ L1 = ((u, Ol (lB (r.2)) 376) :: []) ∧ Sl jC 5 μ1 L ((r.1).Kids)) := by
 let d0 := ((u, Ol (lB a0) 376) :: [])
 refine sO h0 39 func351 rfl (fun b => sg ?_)
 obtain ⟨A1, c2, rfl⟩ := x.form
 let A := (C1 a.Op a.K a.jB.jF a.jB.jK A1 a.Kids.length c2)
 refine VE (kH b rfl (fun W4 b3 b => VE (kv b bD (fun W6 b5 b => lS (Wf rD (VB b (Mt Mh) rfl rfl cL (Wi rfl (ln (CI hm rfl (fun f8 hm => ?_) (fun f8 hm => ?_))))))))))
 ·refine sg (VA b (Mt Mh) A aS aC (VO (jY (.agg A.toArray) (A.toArray) b rfl rfl aC oc nb rfl (fun W8 b => ln ?_))))
  replace b := b.jE (Kb (Db St))
  refine kB (kI ?_)
  obtain rfl := sj hm
  exact pc (v := (.agg A.toArray)) rfl rfl (jO b.has Mh A rfl aS aC) ⟨_, _, _, rfl, (b.mg (Db (Kb Sn))), (kf.refl _), Lo.refl, (ST.kY b (mB.mem (Db (Kb Sn)))), (.slice A1 a.Kids.length c2), rfl, rfl, x⟩
 refine kg (Wa (lS (Wf qm (VB b (Mt Mh) rfl rfl eO (V (lf aF rfl x) (Wm (ky ?_)))))))
 refine jQ (li (fun i E W => ∃ I H T D J b7, (E 15 = .int .i64 (i : Nat) ∧ E 14 = .int .i64 (a.Kids.length : Nat)) ∧ kf μ0 J ∧ Lo (keys d0) w μ0 J ∧ ST false (keys d0) w W J ((u, Ol (lB D) 376) :: ((b5, Ol C7 113) :: ((b3, Ol A 113) :: (T ++ b7)))) ∧ E 0 = (.pointer (some ⟨u, 0, none⟩)) ∧ E 3 = (.pointer (some ⟨b3, 0, none⟩)) ∧ E 4 = (.pointer (some ⟨b5, 0, none⟩)) ∧ E 5 = I ∧ E 13 = (.slice A1 a.Kids.length c2) ∧ kR 113 jC 5 J I H T ∧ ng c9 a (a.Kids.drop i) H D = some r) a.Kids.length x.len ⟨(.slice none 0 0), ([]), [], a0, μ0, _, ⟨rfl, rfl⟩, (kf.refl _), Lo.refl, (b.jE (Sb (Pb (Pb Pz)) St)), rfl, rfl, rfl, rfl, rfl, (kR.nil _ _ _ _), hm⟩ dc dc dc (fun _ _ _ h => by obtain ⟨_, _, _, _, _, _, aa, _⟩ := h; exact aa) ?_ ?_)
 ·rintro f0 E W d7 ⟨I, H, T, D, J, b7, ⟨eI, eN⟩, z, d, b, a2, a3, G, P, b9, K, c⟩
  obtain ⟨t, f9, e5, e4, e6⟩ := kP d7
  rw [e5] at c
  refine bg (VQ (mo (i := (f0 : Int)) (x0 := t) jC.out aF aC b9 eI (x.mono jT.mono z) (aJ _) e4) (fun h7 ⟨_, ⟨h8, rfl, c0⟩, d8⟩ => V (jG rfl (kl b.has d8 aS aC)) (VE (kv b bD (fun g3 h5 b => ?_)))))
  obtain ⟨a7, a9, rfl⟩ := c0.form
  let R := (C1 t.Op t.K t.jB.jF t.jB.jK a7 t.Kids.length a9)
  refine VO (jY (.agg R.toArray) (R.toArray) b rfl rfl aC oc nb rfl (fun g4 b => ln (jW (Wh P (Wh a2 (VA b Mh R aS aC (bS c fun g d9 c => ?_)))))))
  refine VE (eD b (Cb (Pb Pz) Cn) call351 (fun F => (e9 u D t (.slice a7 t.Kids.length a9) _ _ F (c0.mono jT.mono (kf.refl _)) d9)) ?_)
  rintro _ h9 f4 g0 b b6 m ⟨i2, b1, rfl, c1⟩
  obtain rfl := b1.symm
  replace b := b.perm (Tb Tn)
  obtain ⟨M, U, rfl⟩ := c1.form
  let d1 : Value := (.slice M ((g.1).Kids).length U)
  refine VE (kJ (cs := #[(.int .i64 ((g.1).Op)), (.int .i64 ((g.1).K)), (.string (((g.1).jB).jF)), (.string (((g.1).jB).jK)), d1]) b (mQ rfl) (na aF aC bD) (fun g8 h6 b => ?_))
  replace b := b.perm (Nr (Qb (Qb (Qb (Qb (Qb Qz))))) Nz)
  refine bS c fun f1 d5 c => VE (tZ (B := T) jT b dc aF nq.1 nq.2.1 rfl nq.2.2.1 nq.2.2.2 rfl rfl (K.mono jT b6) (Bn.lit jT (l := [g.1]) (.cons (ys := [(.int .i64 ((g.1).Op)), (.int .i64 ((g.1).K)), (.string (((g.1).jB).jF)), (.string (((g.1).jB).jK)), d1]) (jC.mk ⟨d1, rfl, c1⟩) .nil) rfl nb (b.at_ (Ma Mh))) d5 (fun g9 f2 e8 b d4 => Wa (ky (kF (jQ ?_)))))
  replace b := b.jE (Kr (Db (Kb (Db St))))
  exact ⟨eI, f2, f1, e8, g.2, f4, _, ⟨rfl, eN⟩, (z.trans b6), (d.trans m), (b.jE (Sb (Pr Pz) (Sb (Pr Pz) (Sb (Pr Pz) St)))), a2, a3, G, rfl, b9, d4, (by rw [e6]; exact c)⟩
 rintro E W ⟨I, H, T, D, J, b7, ⟨eI, eN⟩, z, d, b, a2, a3, G, P, b9, K, c⟩
 rw [aP] at c
 refine jQ (jX (sg (V (jM rD a3) (VB b (Mt (Mt Mh)) rfl rfl cL (Wi rfl (ln (CI c rfl (fun d6 c => ?_) (fun d6 c => ?_))))))))
 ·refine sg (Wh a2 (V (jM vH a3) (VB b (Mt (Mt Mh)) rfl rfl cL (Wh P ?_))))
  replace b := b.perm (Nr (Qb (Qb (Qb Qz))) Nz)
  obtain ⟨i5, b, c5, n, e2⟩ := ST.vS jT b K
  refine bS c fun j e0 c => ?_
  let f3 : Value := (.string (((j.1).jB).jK))
  let d3 : Value := (.string (((j.1).jB).jF))
  refine VE (eD b (Cb Pz Cn) call406 (fun F => (yT u D a.K I H _ _ F (e2.mono jT.mono (kf.refl _)) e0)) ?_)
  rintro _ i0 i6 g1 b c6 o ⟨i3, b2, rfl, c3⟩
  obtain rfl := b2.symm
  replace b := b.perm (Tb Tn)
  obtain ⟨N, Y, rfl⟩ := c3.form
  let b8 : Value := (.slice N ((j.1).Kids).length Y)
  let a5 : Value := (.agg #[(.int .i64 ((j.1).Op)), (.int .i64 ((j.1).K)), d3, f3, b8])
  replace b := b.perm (Nb (Pb Pz) Nz)
  refine VO (jY a5 (#[(.int .i64 ((j.1).Op)), (.int .i64 ((j.1).K)), d3, f3, b8]) b G rfl aC oc nb rfl (fun h2 b => ln ?_))
  replace b := b.jE (Kb (Kb (Db St)))
  refine kB (kI ?_)
  obtain rfl := sj c
  exact pc (v := a5) rfl G (jO b.has Mh [(.int .i64 ((j.1).Op)), (.int .i64 ((j.1).K)), d3, f3, b8] rfl aS aC) ⟨_, _, _, rfl, (b.mg (Db (Kb Sn))), ((z.trans c5).trans c6), ((d.trans n).trans o), (ST.kY b (mB.mem (Db (Kb Sn)))), b8, rfl, rfl, c3⟩
 refine kg (Wh a2 (V (jM rD a3) (VB b (Mt (Mt Mh)) rfl rfl cL (Wh P ?_))))
 replace b := b.perm (Nr (Qb (Qb (Qb Qz))) Nz)
 obtain ⟨i7, b, c7, q, e3⟩ := ST.vS jT b K
 refine bS c fun k e1 c => ?_
 let f5 : Value := (.int .i64 ((k.1).Op))
 let e7 : Value := (.string (((k.1).jB).jK))
 let d2 : Value := (.string (((k.1).jB).jF))
 refine VE (eD b (Cb Pz Cn) call407 (fun F => (sv u D a.Op I H _ _ F (e3.mono jT.mono (kf.refl _)) e1)) ?_)
 rintro _ i1 i8 g2 b c8 s ⟨i4, b4, rfl, c4⟩
 obtain rfl := b4.symm
 replace b := b.perm (Tb Tn)
 obtain ⟨Q, Z, rfl⟩ := c4.form
 let O : Value := (.slice Q ((k.1).Kids).length Z)
 let a4 : Value := (.agg #[f5, (.int .i64 ((k.1).K)), d2, e7, O])
 replace b := b.perm (Nb (Pb Pz) Nz)
 refine VO (jY a4 (#[f5, (.int .i64 ((k.1).K)), d2, e7, O]) b G rfl aC oc nb rfl (fun h4 b => ln ?_))
 replace b := b.jE (Kb (Kb (Db St)))
 refine kB ?_
 obtain rfl := sj c
 exact pc (v := a4) rfl G (jO b.has Mh [f5, (.int .i64 ((k.1).K)), d2, e7, O] rfl aS aC) ⟨_, _, _, rfl, (b.mg (Db (Kb Sn))), ((z.trans c7).trans c8), ((d.trans q).trans s), (ST.kY b (mB.mem (Db (Kb Sn)))), O, rfl, rfl, c4⟩
theorem vP : ∀ (n : Nat) (c : Nat) (j : kD) (g : Formula) (a : Value) (r : (Formula × kD)) (w : World) {k : km} (y : ni k ((c, Ol (lB j) 376) :: []) w) (i : Sl jC 5 k a g.Kids) (_ : mK n j g = some r),
  lM false Tryz.prog 351 [(.pointer (some ⟨c, 0, none⟩)), (.agg #[(.int .i64 g.Op), (.int .i64 g.K), (.string g.jB.jF), (.string g.jB.jK), a])] w k ((c, Ol (lB j) 376) :: []) (fun v u x => ∃ t, v = (.agg #[(.int .i64 ((r.1).Op)), (.int .i64 ((r.1).K)), (.string (((r.1).jB).jF)), (.string (((r.1).jB).jK)), t]) ∧ u = ((c, Ol (lB (r.2)) 376) :: []) ∧ Sl jC 5 x t ((r.1).Kids))
 | 0 => by intros; rename_i h; simp only [mK] at h; cases h
 | n + 1 => xI (mK n) (vP n)
theorem DJ (c : Formula) (u : Value) (r : (Formula × Int)) (w : World) {Z : km} (A : ni Z [] w) (k : Sl jC 5 Z u c.Kids) (hm : wi c = some r) :
  lM false Tryz.prog 306 [(.agg #[(.int .i64 c.Op), (.int .i64 c.K), (.string c.jB.jF), (.string c.jB.jK), u])] w Z [] (fun v L1 μ1 => ∃ q, v = (.tuple #[(.agg #[(.int .i64 ((r.1).Op)), (.int .i64 ((r.1).K)), (.string (((r.1).jB).jF)), (.string (((r.1).jB).jK)), q]), (.int .i64 (r.2))]) ∧ L1 = [] ∧ Sl jC 5 μ1 q ((r.1).Kids)) := by
 refine sO A 27 func306 rfl (fun b => sg ?_)
 obtain ⟨H, I, rfl⟩ := k.form
 let n := (C1 c.Op c.K c.jB.jF c.jB.jK H c.Kids.length I)
 refine VE (kH b rfl (fun W4 L b => VE (kv b bD (fun W6 o b => Wa (lS (VA b (Mt Mh) n aS aC (bS hm fun r7 a5 hm => VE (Eg b call107 (rr c (.slice H c.Kids.length I) _ _ (k.mono jT.mono b.jJ) a5) (fun W9 b => V (mC rfl) (ln (CI hm rfl (fun Q hm => ?_) (fun Q hm => ?_))))))))))))
 ·refine sg (V (ma (v := (.agg C7.toArray)) pK (ly bD bY (xo _ bY) kr)) (VO (jY (.agg C7.toArray) (C7.toArray) b rfl rfl aC oc nb rfl (fun P b => Wa (ln ?_)))))
  replace b := b.jE (Kb (Db St))
  refine kB (kI ?_)
  obtain rfl := sj hm
  exact pN (v0 := (.agg C7.toArray)) (v1 := (.int .i64 11)) rfl rfl (jO b.has Mh C7 rfl aS aC) rfl ⟨_, _, _, rfl, (b.mg Sn), (kf.refl _), Lo.refl, (ST.kY b (mB.mem Sn)), (.slice none 0 0), rfl, rfl, (Sl.nil _ _ _)⟩
 refine kg (V (ma (v := (.agg (lB K4).toArray)) pK (ly zeroValue376 iV (P5 _ iV) kr)) (VE (kH b rfl (fun R s b => Wa (lr (Wm (VA b (Mt (Mt Mh)) n aS aC (bS hm fun a U hm => ?_))))))))
 let m : Value := (.int .i64 ((a.1).K))
 let l : Value := (.int .i64 ((a.1).Op))
 let h : Value := (.string (((a.1).jB).jK))
 let a2 : Value := (.string (((a.1).jB).jF))
 refine VE (eD b (Cb Pz Cn) call351 (fun F => ((vP kC) s K4 c (.slice H c.Kids.length I) _ _ F (k.mono jT.mono (kf.refl _)) U)) ?_)
 rintro _ c7 a9 O b D d ⟨c9, y, rfl, z⟩
 obtain rfl := y.symm
 replace b := b.perm (Tb Tn)
 refine VE (kv b bD (fun c0 K b => ?_))
 obtain ⟨i, j, rfl⟩ := z.form
 let a0 : Value := (.slice i ((a.1).Kids).length j)
 let N : Value := (.agg #[l, m, a2, h, a0])
 refine VO (jY N (#[l, m, a2, h, a0]) b rfl rfl aC oc nb rfl (fun c1 b => ln ?_))
 replace b := b.jE (Kb (Kb (Kb (Db St))))
 refine jX (sg (Wm (Wn (Wf Jk (VB b (Mt Mh) rfl rfl isAgg57 (Wi rfl (Wm (LJ hm (fun M E W => ∃ J, ST false (keys []) w W a9 ((K, Ob #[l, m, a2, h, a0] 113) :: ((o, Ol C7 113) :: J)) ∧ E 2 = (.pointer (some ⟨o, 0, none⟩)) ∧ E 5 = (.pointer (some ⟨K, 0, none⟩)) ∧ E 24 = (.bool M)) 4 ?_ (fun M t G => ?_)))))))))
 ·rintro c8 E W ⟨J, b, B, a3, a4⟩ x
  refine ln (CI x a4 (fun T x => ?_) (fun T x => ?_))
  ·refine sg (V (ma (v := (.agg C7.toArray)) pK (ly bD bY (xo _ bY) kr)) ?_)
   replace b := b.perm (Nb (Pb Pz) Nz)
   refine VO (jY (.agg C7.toArray) (C7.toArray) b B rfl aC oc nb rfl (fun c3 b => Wa (ln ?_)))
   replace b := b.jE (Kb (Db St))
   refine kB (kI ?_)
   obtain rfl := sj x
   exact pN (v0 := (.agg C7.toArray)) (v1 := (.int .i64 12)) rfl B (jO b.has Mh C7 rfl aS aC) rfl ⟨_, _, _, rfl, (b.mg Sn), D, d, (ST.kY b (mB.mem Sn)), (.slice none 0 0), rfl, rfl, (Sl.nil _ _ _)⟩
  refine kg (V (jG a3 (jO b.has Mh [l, m, a2, h, a0] rfl aS aC)) ?_)
  replace b := b.perm (Nb (Pb Pz) Nz)
  refine VO (jY N (#[l, m, a2, h, a0]) b B rfl aC oc nb rfl (fun c4 b => Wa (ln ?_)))
  replace b := b.jE (Kb (Db St))
  refine kB ?_
  obtain rfl := sj x
  exact pN (v0 := N) (v1 := (.int .i64 0)) rfl B (jO b.has Mh [l, m, a2, h, a0] rfl aS aC) rfl ⟨_, _, _, rfl, (b.mg Sn), D, d, (ST.kY b (mB.mem Sn)), a0, rfl, rfl, z⟩
 refine bC t (fun g t => ?_) (fun g t => ?_)
 ·refine un g (un g (un g (V (kd (cB g) rfl) ?_)))
  obtain rfl := sj t
  exact G _ _ ⟨_, (b.jE (Kb (Db St))), rfl, rfl, rfl⟩
 refine ug g (jG rfl (jO b.has Mh [l, m, a2, h, a0] rfl aS aC)) (bS t fun c6 Y t => rl g (Eg b call107 (rr a.1 a0 _ _ (z.mono jT.mono b.jJ) Y) (fun c5 b => ug g (mC rfl) (V (ke (cB g) rfl) ?_))))
 obtain rfl := sj t
 exact G _ _ ⟨_, (b.jE (Kb (Db St))), rfl, rfl, rfl⟩
theorem GD (a : Formula) (k : Value) (c : Formula) (t : Value) (r : (Formula × Int)) (w : World) {N : km} (q : ni N [] w) (i : Sl jC 5 N k a.Kids) (j : Sl jC 5 N t c.Kids) (hm : wq a c = some r) :
  lM false Tryz.prog 307 [(.agg #[(.int .i64 a.Op), (.int .i64 a.K), (.string a.jB.jF), (.string a.jB.jK), k]), (.agg #[(.int .i64 c.Op), (.int .i64 c.K), (.string c.jB.jF), (.string c.jB.jK), t])] w N [] (fun v Z μ1 => ∃ Y, v = (.tuple #[(.agg #[(.int .i64 ((r.1).Op)), (.int .i64 ((r.1).K)), (.string (((r.1).jB).jF)), (.string (((r.1).jB).jK)), Y]), (.int .i64 (r.2))]) ∧ Z = [] ∧ Sl jC 5 μ1 Y ((r.1).Kids)) := by
 refine sO q 13 func307 rfl (fun b => sg ?_)
 obtain ⟨u, z, rfl⟩ := i.form
 let a3 : Value := (.slice u a.Kids.length z)
 refine VE (kH b rfl (fun W4 R b => ?_))
 obtain ⟨y, G, rfl⟩ := j.form
 let n : Value := (.slice y c.Kids.length G)
 refine VE (kH b rfl (fun W8 W b => VE (kv b bD (fun a5 b9 b => Wa (lr (VA b (Mt (Mt Mh)) (C1 a.Op a.K a.jB.jF a.jB.jK u a.Kids.length z) aS aC (VA b (Mt Mh) (C1 c.Op c.K c.jB.jF c.jB.jK y c.Kids.length G) aS aC (VE (kJ (cs := #[(.int .i64 a.Op), (.int .i64 a.K), (.string a.jB.jF), (.string a.jB.jK), a3, (.int .i64 c.Op), (.int .i64 c.K), (.string c.jB.jF), (.string c.jB.jK), n]) b (qf rfl rfl) (na aF aC bD) (fun A I b => V (ma (v := (.agg #[(.int .i64 2), (.int .i64 0), (.string zS), (.string zS), (.slice (some ⟨I, 0, none⟩) 2 2)])) (qf rfl rfl) (ly bD bY (xo _ bY) kr)) ?_))))))))))
 obtain ⟨O, b, K, d, U⟩ := ST.vS (B := [(I, Ob #[(.int .i64 a.Op), (.int .i64 a.K), (.string a.jB.jF), (.string a.jB.jK), a3, (.int .i64 c.Op), (.int .i64 c.K), (.string c.jB.jF), (.string c.jB.jK), n] 113)]) jT b (kR.lit jT (l := [a, c]) (.cons (ys := C1 a.Op a.K a.jB.jF a.jB.jK u a.Kids.length z) (jC.mk ⟨a3, rfl, i⟩) (.cons (ys := C1 c.Op c.K c.jB.jF c.jB.jK y c.Kids.length G) (jC.mk ⟨n, rfl, j⟩) .nil)) rfl nb rfl)
 refine bS hm fun g T hm => ?_
 let o : Value := (.int .i64 ((g.1).Op))
 let a2 : Value := (.string (((g.1).jB).jK))
 let m : Value := (.string (((g.1).jB).jF))
 refine VE (eD b (bT _) call306 (fun s => (DJ (⟨2, 0, K0, [a, c]⟩ : Formula) (.slice (some ⟨I, 0, none⟩) 2 2) _ _ s (U.mono jT.mono (kf.refl _)) T)) ?_ (L0 := []))
 rintro _ a9 P a4 b M h ⟨L, H, rfl, J⟩
 obtain rfl := H.symm
 refine Wx rfl (Wx rfl ?_)
 obtain ⟨x, D, rfl⟩ := J.form
 let a0 : Value := (.slice x ((g.1).Kids).length D)
 let Q : Value := (.agg #[o, (.int .i64 ((g.1).K)), m, a2, a0])
 refine VO (jY Q (#[o, (.int .i64 ((g.1).K)), m, a2, a0]) b rfl rfl aC oc nb rfl (fun F b => Wa (ln ?_)))
 replace b := b.jE (Kb (Db (Db St)))
 refine kB ?_
 obtain rfl := sj hm
 exact pN (v0 := Q) (v1 := (.int .i64 g.2)) rfl rfl (jO b.has Mh [o, (.int .i64 ((g.1).K)), m, a2, a0] rfl aS aC) rfl ⟨_, _, _, rfl, (b.mg Sn), (K.trans M), (d.trans h), (ST.kY b (mB.mem Sn)), a0, rfl, rfl, J⟩
end Go.Proofs.YtmlncblocfcmiaaGreat
