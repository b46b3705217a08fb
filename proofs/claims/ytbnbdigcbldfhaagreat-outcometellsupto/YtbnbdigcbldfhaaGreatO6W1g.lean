/- a part of a proof of OutcomeTells -/
import Derived.Test.YtbnbdigcbldfhaaGreatO6Mg
import Derived.Test.YtbnbdigcbldfhaaGreatProg
set_option linter.all false
namespace Go.Proofs.YtbnbdigcbldfhaaGreat
open Go.IntKind renaming wrap → wi0
open Go.Proofs.Tryz renaming prog → pg0
open Go.RowKit
set_option maxRecDepth 10000
open Tryz
def aC := @sizeOf28
def aF := @underlying34
def aI := @sizeOf108
def aN := @isAgg28
def aW := @underlying45
def aX := @underlying22
def aY := @isAgg9
def aZ := @sizeOf57
def bE := @underlying112
def bG := @isAgg108
def bJ := @underlying120
def bO := @sizeOf38
def bP := @zeroValue28
def bQ := @underlying9
def bX := @sizeOf140
def bZ := @underlying55
def cg := @zeroValue108
def cq := @underlying38
def cw := @underlying78
def cx := @isAgg57
def cz := @underlying99
def cC := @isAgg3
def cI := @underlying28
def cN := @zeroValue38
def cQ := @eqGuardType28
def cY := @underlying108
def dh := @sizeOf9
def dl := @isAgg38
def dq := @sizeOf64
def dB := @zeroValue57
def dD := @zeroValue140
def dO := @isAgg34
def dZ := @sizeOf34
def ee := @underlying140
def ej := @underlying64
def ey := @isAgg140
def ez := @underlying174
def eB := @underlying170
def eC := @zeroValue64
def eT := @underlying54
def eU := @underlying5
def eV := @isAgg64
def eW := @call165
def eY := @underlying234
def fa := @isAgg55
def fl := @underlying81
def fp := @zeroValue175
def fq := @underlying79
def fy := @underlying217
def fz := @underlying175
def fP := @underlying57
def fQ := @isAgg78
def fR := @isAgg45
def gb := @sizeOf54
def gi := @sizeOf3
def gy := @zeroValue4
def gC := @underlying3
def gX := @sizeOf78
def gZ := @underlying52
def hZ := @eqGuardType108
def ia := @call100
def iz := @zeroValue9
def iB := @underlying158
def iC := @isAgg22
def iD := @underlying280
def iE := @underlying191
def iF := @underlying206
def iK := @isAgg170
def iL := @zeroValue34
def iX := @underlying59
def iY := @sizeOf5
def iZ := @call166
def ja := @sizeOf197
def jo := @call99
def jA := @call157
def jB := @isAgg62
def jR := @underlying250
def jS := @underlying240
def jZ := @call177
def kc := @call115
def kd := @zeroValue5
def ke := @isAgg54
def kf := @underlying89
def kp := @sizeOf45
def kq := @zeroValue22
def kv := @sizeOf4
abbrev K0 : kw := ⟨zS, zS⟩
abbrev K1 : ByteArray := ⟨#[120]⟩
abbrev K2 : ByteArray := ⟨#[121]⟩
abbrev K3 : ByteArray := ⟨#[121, 111, 117]⟩
abbrev K4 : ByteArray := ⟨#[109, 101]⟩
abbrev K5 : kw := ⟨K1, K2⟩
abbrev K6 : ky := ⟨0, K0, zS, K0, K0, zS⟩
abbrev K7 : kB := ⟨K0, zS⟩
abbrev K9 : ky := ⟨1, K5, K3, K0, K0, zS⟩
abbrev Pf : Formula := ⟨1, 0, K5, []⟩
abbrev C1 (a c : Int) (d g : ByteArray) (h : Option Addr) (i j : Nat) : List Value := [(.int .i64 a), (.int .i64 c), (.string d), (.string g), (.slice h i j)]
abbrev C2 (q : ByteArray) (s : Option Addr) (t u : Nat) (v : Option Addr) (w x : Nat) (y : ByteArray) (z : Int) (A : Option Addr) (a c : Nat) (d : Option Addr) (g h : Nat) (i : Option Addr) (j k : Nat) (m : Option Addr) (n o : Nat) : List Value := [(.string q), (.slice s t u), (.slice v w x), (.string y), (.int .i64 z), (.slice A a c), (.slice d g h), (.slice i j k), (.slice m n o)]
abbrev C3 (a c : Int) (d : Option Addr) (g h : Nat) (i : Option Addr) (j k : Nat) : List Value := [(.int .i64 a), (.int .i64 c), (.slice d g h), (.slice i j k)]
abbrev C4 (d : Int) (g h i j k m n o : ByteArray) (q : Option Addr) (a c : Nat) : List Value := [(.int .i64 d), (.string g), (.string h), (.string i), (.string j), (.string k), (.string m), (.string n), (.string o), (.slice q a c)]
abbrev C5 (a : Nat) : List Value := [(.string K4), (.slice none 0 0), (.slice none 0 0), (.string K3), (.int .i64 3), (.slice (some ⟨a, 0, none⟩) 1 1), (.slice none 0 0), (.slice none 0 0), (.slice none 0 0)]
abbrev C6 : List Value := [(.int .i64 1), (.int .i64 0), (.string (K5.kE)), (.string (K5.kT)), (.slice none 0 0)]
abbrev C7 (a c : Int) : List Value := [(.int .i64 a), (.int .i64 c), (.slice none 0 0), (.slice none 0 0)]
abbrev C8 : List Value := [(.int .i64 0), (.int .i64 0), (.slice none 0 0), (.slice none 0 0)]
theorem lq : Tryz.prog.follows .mixedOrders = true := by rfl
theorem Mw : Tryz.prog.info? 3 = some Tryz.t3 ∧ Tryz.t3.zero = some (.int .i64 0) ∧ Tryz.t3.size = 1 ∧ Tryz.t3.bytes = 8 := ⟨by kernel_rfl, by kernel_rfl, by kernel_rfl, by kernel_rfl⟩
theorem Mx : Tryz.prog.info? 4 = some Tryz.t4 ∧ Tryz.t4.zero = some (.bool false) ∧ Tryz.t4.size = 1 ∧ Tryz.t4.bytes = 1 := ⟨by kernel_rfl, by kernel_rfl, by kernel_rfl, by kernel_rfl⟩
theorem uD : Tryz.prog.info? 5 = some Tryz.t5 ∧ Tryz.t5.zero = some (.int .u8 0) ∧ Tryz.t5.size = 1 ∧ Tryz.t5.bytes = 1 := ⟨by kernel_rfl, by kernel_rfl, by kernel_rfl, by kernel_rfl⟩
theorem uL : Tryz.prog.info? 9 = some Tryz.t9 ∧ Tryz.t9.zero = some (.string ⟨#[]⟩) ∧ Tryz.t9.size = 1 ∧ Tryz.t9.bytes = 16 := ⟨by kernel_rfl, by kernel_rfl, by kernel_rfl, by kernel_rfl⟩
theorem mq : Tryz.prog.info? 28 = some Tryz.t28 ∧ Tryz.t28.zero = some (.agg #[(.string ⟨#[]⟩), (.string ⟨#[]⟩)]) ∧ Tryz.t28.size = 2 ∧ Tryz.t28.bytes = 32 := ⟨by kernel_rfl, by kernel_rfl, by kernel_rfl, by kernel_rfl⟩
theorem pS : Tryz.prog.info? 34 = some Tryz.t34 ∧ Tryz.t34.zero = some (.slice none 0 0) ∧ Tryz.t34.size = 1 ∧ Tryz.t34.bytes = 24 := ⟨by kernel_rfl, by kernel_rfl, by kernel_rfl, by kernel_rfl⟩
theorem oJ : Tryz.prog.info? 38 = some Tryz.t38 ∧ Tryz.t38.zero = some (.agg #[(.string ⟨#[]⟩), (.string ⟨#[]⟩), (.string ⟨#[]⟩)]) ∧ Tryz.t38.size = 3 ∧ Tryz.t38.bytes = 48 := ⟨by kernel_rfl, by kernel_rfl, by kernel_rfl, by kernel_rfl⟩
theorem pY : Tryz.prog.info? 108 = some Tryz.t108 ∧ Tryz.t108.zero = some (.agg #[(.int .i64 0), (.string ⟨#[]⟩), (.string ⟨#[]⟩), (.string ⟨#[]⟩), (.string ⟨#[]⟩), (.string ⟨#[]⟩), (.string ⟨#[]⟩), (.string ⟨#[]⟩), (.string ⟨#[]⟩)]) ∧ Tryz.t108.size = 9 ∧ Tryz.t108.bytes = 136 := ⟨by kernel_rfl, by kernel_rfl, by kernel_rfl, by kernel_rfl⟩
theorem oa : Tryz.prog.info? 140 = some Tryz.t140 ∧ Tryz.t140.zero = some (.agg #[(.int .i64 0), (.string ⟨#[]⟩), (.string ⟨#[]⟩), (.string ⟨#[]⟩), (.string ⟨#[]⟩), (.string ⟨#[]⟩), (.string ⟨#[]⟩), (.string ⟨#[]⟩), (.string ⟨#[]⟩), (.string ⟨#[]⟩), (.string ⟨#[]⟩), (.string ⟨#[]⟩)]) ∧ Tryz.t140.size = 12 ∧ Tryz.t140.bytes = 184 := ⟨by kernel_rfl, by kernel_rfl, by kernel_rfl, by kernel_rfl⟩
theorem oQ : mg pg0 28 0 0 := lE cI rfl dh (by decide) rfl
theorem vO : mg pg0 28 1 1 := lE cI rfl dh (by decide) rfl
theorem T5 : (Tryz.prog.fieldsOf 28).toList = (match Tryz.prog.underlying 28 with | some (.struct a) => a.toList | _ => []) := by rw [cI]; simp [Program.fieldsOf, cI]
theorem nJ (d : Nat) (x y : kw) (W : World) : (Op.equalIn (d + 2) 28 (.agg (kx x).toArray) (.agg (kx y).toArray)).run pg0 W = .ok (kN x y) W := by
 rw [gx W (d + 1) 28 _ _ (by kernel_rfl) Tryz.stoodInHeld28, T5, cI]
 exact (oN (by decide) (qn aY rfl) (qn aY rfl) (RP bQ _ _ _ _) (oN (by decide) (qn aY rfl) (qn aY rfl) (RP bQ _ _ _ _) (AW _ _ _)))
theorem G5 : ∀ a, Tryz.prog.underlying 28 = some (.struct a) → ∀ w, (a.mapM (fun (f : Field) => do pure (f.offset, ← sizeOf f.type)) : Sem (Array (Nat × Nat))).run pg0 w = .ok #[(0, 1), (1, 1)] w := by
 intro a h w
 rw [cI] at h
 cases h
 kernel_rfl
theorem nZ : mg pg0 108 0 0 := lE cY rfl gi (by decide) rfl
theorem oe : mg pg0 108 1 1 := lE cY rfl aC (by decide) rfl
theorem sL : mg pg0 108 2 3 := lE cY rfl dh (by decide) rfl
theorem mT : mg pg0 108 3 4 := lE cY rfl aC (by decide) rfl
theorem pL : mg pg0 108 4 6 := lE cY rfl aC (by decide) rfl
theorem rO : mg pg0 108 5 8 := lE cY rfl dh (by decide) rfl
theorem Sx : (Tryz.prog.fieldsOf 108).toList = (match Tryz.prog.underlying 108 with | some (.struct a) => a.toList | _ => []) := by rw [cY]; simp [Program.fieldsOf, cY]
theorem BI (d : Nat) (x y : ky) (W : World) : (Op.equalIn (d + 3) 108 (.agg (kC x).toArray) (.agg (kC y).toArray)).run pg0 W = .ok (oI x y) W := by
 rw [gx W (d + 2) 108 _ _ (by kernel_rfl) Tryz.stoodInHeld108, Sx, cY]
 exact (oN (by decide) (qn cC rfl) (qn cC rfl) (Za gC _ _ _ _) (oN (by decide) (tq aN aC rfl) (tq aN aC rfl) (nJ _ x.Head y.Head W) (oN (by decide) (qn aY rfl) (qn aY rfl) (RP bQ _ _ _ _) (oN (by decide) (tq aN aC rfl) (tq aN aC rfl) (nJ _ x.B y.B W) (oN (by decide) (tq aN aC rfl) (tq aN aC rfl) (nJ _ x.C y.C W) (oN (by decide) (qn aY rfl) (qn aY rfl) (RP bQ _ _ _ _) (AW _ _ _)))))))
theorem MA : ∀ a, Tryz.prog.underlying 108 = some (.struct a) → ∀ w, (a.mapM (fun (f : Field) => do pure (f.offset, ← sizeOf f.type)) : Sem (Array (Nat × Nat))).run pg0 w = .ok #[(0, 1), (1, 2), (3, 1), (4, 2), (6, 2), (8, 1)] w := by
 intro a h w
 rw [cY] at h
 cases h
 kernel_rfl
theorem wM : mg pg0 38 0 0 := lE cq rfl aC (by decide) rfl
theorem rp : mg pg0 38 1 2 := lE cq rfl dh (by decide) rfl
theorem Ts : (Tryz.prog.fieldsOf 38).toList = (match Tryz.prog.underlying 38 with | some (.struct a) => a.toList | _ => []) := by rw [cq]; simp [Program.fieldsOf, cq]
theorem Dy (d : Nat) (x y : kB) (W : World) : (Op.equalIn (d + 3) 38 (.agg (kK x).toArray) (.agg (kK y).toArray)).run pg0 W = .ok (nq x y) W := by
 rw [gx W (d + 2) 38 _ _ (by kernel_rfl) Tryz.stoodInHeld38, Ts, cq]
 exact (oN (by decide) (tq aN aC rfl) (tq aN aC rfl) (nJ _ x.kw y.kw W) (oN (by decide) (qn aY rfl) (qn aY rfl) (RP bQ _ _ _ _) (AW _ _ _)))
theorem Dj : ∀ a, Tryz.prog.underlying 38 = some (.struct a) → ∀ w, (a.mapM (fun (f : Field) => do pure (f.offset, ← sizeOf f.type)) : Sem (Array (Nat × Nat))).run pg0 w = .ok #[(0, 2), (2, 1)] w := by
 intro a h w
 rw [cq] at h
 cases h
 kernel_rfl
theorem zl : mg pg0 140 0 0 := lE ee rfl aI (by decide) rfl
theorem sM : mg pg0 140 1 9 := lE ee rfl bO (by decide) rfl
theorem RM : (Tryz.prog.fieldsOf 140).toList = (match Tryz.prog.underlying 140 with | some (.struct a) => a.toList | _ => []) := by rw [ee]; simp [Program.fieldsOf, ee]
theorem TK (d : Nat) (x y : kV) (W : World) : (Op.equalIn (d + 4) 140 (.agg (kX x).toArray) (.agg (kX y).toArray)).run pg0 W = .ok (Df x y) W := by
 rw [gx W (d + 3) 140 _ _ (by kernel_rfl) Tryz.stoodInHeld140, RM, ee]
 exact (oN (by decide) (tq bG aI rfl) (tq bG aI rfl) (BI _ x.ky y.ky W) (oN (by decide) (tq dl bO rfl) (tq dl bO rfl) (Dy _ x.kB y.kB W) (AW _ _ _)))
theorem Ue : ∀ a, Tryz.prog.underlying 140 = some (.struct a) → ∀ w, (a.mapM (fun (f : Field) => do pure (f.offset, ← sizeOf f.type)) : Sem (Array (Nat × Nat))).run pg0 w = .ok #[(0, 9), (9, 3)] w := by
 intro a h w
 rw [ee] at h
 cases h
 kernel_rfl
theorem UO : mg pg0 197 0 0 := lE underlying197 rfl aI (by decide) rfl
theorem Vk : mg pg0 197 1 9 := lE underlying197 rfl gX (by decide) rfl
theorem wS : mg pg0 57 0 0 := lE fP rfl gi (by decide) rfl
theorem zV : mg pg0 57 1 1 := lE fP rfl gi (by decide) rfl
theorem yI : mg pg0 57 2 2 := lE fP rfl aC (by decide) rfl
theorem uu : mg pg0 57 3 4 := lE fP rfl sizeOf55 (by decide) rfl
theorem YK : ∀ a, Tryz.prog.underlying 57 = some (.struct a) → ∀ w, (a.mapM (fun (f : Field) => do pure (f.offset, ← sizeOf f.type)) : Sem (Array (Nat × Nat))).run pg0 w = .ok #[(0, 1), (1, 1), (2, 2), (4, 1)] w := by
 intro a h w
 rw [fP] at h
 cases h
 kernel_rfl
theorem VF : mg pg0 199 0 0 := lE underlying199 rfl ja (by decide) rfl
theorem U2 : mg pg0 199 1 10 := lE underlying199 rfl aZ (by decide) rfl
theorem Pe : mg pg0 202 0 0 := lE underlying202 rfl aC (by decide) rfl
theorem UR : mg pg0 202 1 2 := lE underlying202 rfl aZ (by decide) rfl
theorem Va : mg pg0 202 2 7 := lE underlying202 rfl sizeOf22 (by decide) rfl
theorem Wb : mg pg0 52 0 0 := lE gZ rfl dh (by decide) rfl
theorem WD : mg pg0 52 1 1 := lE gZ rfl sizeOf49 (by decide) rfl
theorem WH : mg pg0 52 2 2 := lE gZ rfl sizeOf50 (by decide) rfl
theorem Y2 : ∀ a, Tryz.prog.underlying 52 = some (.struct a) → ∀ w, (a.mapM (fun (f : Field) => do pure (f.offset, ← sizeOf f.type)) : Sem (Array (Nat × Nat))).run pg0 w = .ok #[(0, 1), (1, 1), (2, 1)] w := by
 intro a h w
 rw [gZ] at h
 cases h
 kernel_rfl
theorem Wt : mg pg0 54 0 0 := lE eT rfl sizeOf52 (by decide) rfl
theorem GS : mg pg0 54 1 3 := lE eT rfl dh (by decide) rfl
theorem Du : mg pg0 54 3 5 := lE eT rfl sizeOf22 (by decide) rfl
theorem V8 : mg pg0 54 4 6 := lE eT rfl sizeOf22 (by decide) rfl
theorem Xi : mg pg0 54 5 7 := lE eT rfl dZ (by decide) rfl
theorem WC : mg pg0 54 6 8 := lE eT rfl dZ (by decide) rfl
theorem YU : ∀ a, Tryz.prog.underlying 54 = some (.struct a) → ∀ w, (a.mapM (fun (f : Field) => do pure (f.offset, ← sizeOf f.type)) : Sem (Array (Nat × Nat))).run pg0 w = .ok #[(0, 3), (3, 1), (4, 1), (5, 1), (6, 1), (7, 1), (8, 1)] w := by
 intro a h w
 rw [eT] at h
 cases h
 kernel_rfl
theorem V7 : mg pg0 59 0 0 := lE iX rfl gb (by decide) rfl
theorem Xl : mg pg0 59 1 9 := lE iX rfl aZ (by decide) rfl
theorem WN : mg pg0 59 2 14 := lE iX rfl gi (by decide) rfl
theorem VT : mg pg0 59 3 15 := lE iX rfl gi (by decide) rfl
theorem V0 : mg pg0 59 4 16 := lE iX rfl kv (by decide) rfl
theorem BU : mg pg0 64 0 0 := lE ej rfl gi (by decide) rfl
theorem E6 : mg pg0 64 1 1 := lE ej rfl sizeOf62 (by decide) rfl
theorem sX : mg pg0 64 2 2 := lE ej rfl dZ (by decide) rfl
theorem wN : mg pg0 64 3 3 := lE ej rfl kp (by decide) rfl
theorem Tf : ∀ a, Tryz.prog.underlying 64 = some (.struct a) → ∀ w, (a.mapM (fun (f : Field) => do pure (f.offset, ← sizeOf f.type)) : Sem (Array (Nat × Nat))).run pg0 w = .ok #[(0, 1), (1, 1), (2, 1), (3, 1)] w := by
 intro a h w
 rw [ej] at h
 cases h
 kernel_rfl
theorem A8 : mg pg0 81 0 0 := lE fl rfl gX (by decide) rfl
theorem Tl : ∀ a, Tryz.prog.underlying 81 = some (.struct a) → ∀ w, (a.mapM (fun (f : Field) => do pure (f.offset, ← sizeOf f.type)) : Sem (Array (Nat × Nat))).run pg0 w = .ok #[(0, 1)] w := by
 intro a h w
 rw [fl] at h
 cases h
 kernel_rfl
theorem zf : mg pg0 158 0 0 := lE iB rfl gX (by decide) rfl
theorem Kw : mg pg0 158 1 1 := lE iB rfl kv (by decide) rfl
theorem Yi : ∀ a, Tryz.prog.underlying 158 = some (.struct a) → ∀ w, (a.mapM (fun (f : Field) => do pure (f.offset, ← sizeOf f.type)) : Sem (Array (Nat × Nat))).run pg0 w = .ok #[(0, 1), (1, 1)] w := by
 intro a h w
 rw [iB] at h
 cases h
 kernel_rfl
theorem zo : mg pg0 174 0 0 := lE ez rfl sizeOf170 (by decide) rfl
theorem KC : mg pg0 174 1 1 := lE ez rfl sizeOf22 (by decide) rfl
theorem PR : mg pg0 174 2 2 := lE ez rfl sizeOf171 (by decide) rfl
theorem Kt : mg pg0 174 3 3 := lE ez rfl sizeOf172 (by decide) rfl
theorem Dg : mg pg0 174 4 4 := lE ez rfl sizeOf120 (by decide) rfl
theorem HN : mg pg0 174 5 5 := lE ez rfl gi (by decide) rfl
theorem Yf : ∀ a, Tryz.prog.underlying 174 = some (.struct a) → ∀ w, (a.mapM (fun (f : Field) => do pure (f.offset, ← sizeOf f.type)) : Sem (Array (Nat × Nat))).run pg0 w = .ok #[(0, 1), (1, 1), (2, 1), (3, 1), (4, 1), (5, 1)] w := by
 intro a h w
 rw [ez] at h
 cases h
 kernel_rfl
theorem Vx : mg pg0 217 0 0 := lE fy rfl sizeOf89 (by decide) rfl
theorem VI : mg pg0 217 1 1 := lE fy rfl sizeOf62 (by decide) rfl
theorem X4 : ∀ a, Tryz.prog.underlying 217 = some (.struct a) → ∀ w, (a.mapM (fun (f : Field) => do pure (f.offset, ← sizeOf f.type)) : Sem (Array (Nat × Nat))).run pg0 w = .ok #[(0, 1), (1, 1)] w := by
 intro a h w
 rw [fy] at h
 cases h
 kernel_rfl
theorem Vd : mg pg0 242 0 0 := lE underlying242 rfl dh (by decide) rfl
theorem U5 : mg pg0 242 1 1 := lE underlying242 rfl gX (by decide) rfl
def vu : rA Signed := fun μ ys x => ∃ (v0 : Value), ys = [.int .i64 x.ky.Kind, .string x.ky.Head.kE, .string x.ky.Head.kT, .string x.ky.lx, .string x.ky.B.kE, .string x.ky.B.kT, .string x.ky.C.kE, .string x.ky.C.kT, .string x.ky.lU, v0] ∧ Sl (Pl (lJ .u8)) 1 μ v0 x.Tag
theorem vu.out {μ : lm} {ys : List Value} {x : Signed} (h : vu μ ys x) : ∃ (v0 : Value), ys = [.int .i64 x.ky.Kind, .string x.ky.Head.kE, .string x.ky.Head.kT, .string x.ky.lx, .string x.ky.B.kE, .string x.ky.B.kT, .string x.ky.C.kE, .string x.ky.C.kT, .string x.ky.lU, v0] ∧ Sl (Pl (lJ .u8)) 1 μ v0 x.Tag := h
theorem vu.mk {μ : lm} {ys : List Value} {x : Signed} (h : ∃ (v0 : Value), ys = [.int .i64 x.ky.Kind, .string x.ky.Head.kE, .string x.ky.Head.kT, .string x.ky.lx, .string x.ky.B.kE, .string x.ky.B.kT, .string x.ky.C.kE, .string x.ky.C.kT, .string x.ky.lU, v0] ∧ Sl (Pl (lJ .u8)) 1 μ v0 x.Tag) : vu μ ys x := h
theorem Da : Deep vu 10 where
 mono := by rintro _ _ _ _ c ⟨v0, rfl, a⟩; exact ⟨v0, rfl, a.mono (Pl.mono _) c⟩
 len := by rintro _ _ _ ⟨v0, rfl, a⟩; rfl
 one := by
  rintro _ _ _ ⟨v0, rfl, a⟩
  intro u hu; simp only [aR, di, fw] at hu; rcases hu with rfl | rfl | rfl | rfl | rfl | rfl | rfl | rfl | rfl | rfl
  ·rfl
  ·rfl
  ·rfl
  ·rfl
  ·rfl
  ·rfl
  ·rfl
  ·rfl
  ·rfl
  ·exact a.CH
def zX : Nat → rA Formula
 | 0 => fun _ _ _ => False
 | n + 1 => fun μ ys x => ∃ (v0 : Value), ys = [.int .i64 x.Op, .int .i64 x.K, .string x.kw.kE, .string x.kw.kT, v0] ∧ Sl (zX n) 5 μ v0 x.Kids
def kW : rA Formula := fun μ ys x => ∃ n, zX n μ ys x
theorem GM : ∀ n, Jk (zX n)
 | 0 => fun _ _ _ _ _ h => h
 | n + 1 => by rintro _ _ _ _ c ⟨v0, rfl, a⟩; exact ⟨v0, rfl, a.mono (GM n) c⟩
theorem Jr : ∀ n m (μ : lm) (ys : List Value) (x : Formula), n ≤ m → zX n μ ys x → zX m μ ys x
 | 0, _, _, _, _, _, h => h.elim
 | n + 1, 0, _, _, _, a, _ => absurd a (by omega)
 | n + 1, m + 1, μ, ys, x, a, h => by
  obtain ⟨v0, rfl, c⟩ := h
  exact ⟨v0, rfl, c.imp fun ys x h => Jr n m μ ys x (by omega) h⟩
theorem kW.out {μ : lm} {ys : List Value} {x : Formula} (h : kW μ ys x) : ∃ (v0 : Value), ys = [.int .i64 x.Op, .int .i64 x.K, .string x.kw.kE, .string x.kw.kT, v0] ∧ Sl kW 5 μ v0 x.Kids := by
 obtain ⟨n, h⟩ := h
 cases n with
 | zero => exact h.elim
 | succ n =>
  obtain ⟨v0, rfl, a⟩ := h
  exact ⟨v0, rfl, a.imp fun ys x h => ⟨n, h⟩⟩
theorem kW.mk {μ : lm} {ys : List Value} {x : Formula} (h : ∃ (v0 : Value), ys = [.int .i64 x.Op, .int .i64 x.K, .string x.kw.kE, .string x.kw.kT, v0] ∧ Sl kW 5 μ v0 x.Kids) : kW μ ys x := by
 obtain ⟨v0, rfl, c⟩ := h
 obtain ⟨n, g⟩ := c.Yg (fun _ _ h => h) (fun a b ys x d h => Jr a b _ ys x d h)
 exact ⟨n + 1, v0, rfl, g⟩
theorem lW : Deep kW 5 where
 mono := fun _ _ _ _ c ⟨n, h⟩ => ⟨n, GM n _ _ _ _ c h⟩
 len := by rintro _ _ _ h; obtain ⟨v0, rfl, a⟩ := h.out; rfl
 one := by
  rintro _ _ _ h
  obtain ⟨v0, rfl, a⟩ := h.out
  intro u hu; simp only [aR, di, fw] at hu; rcases hu with rfl | rfl | rfl | rfl | rfl
  ·rfl
  ·rfl
  ·rfl
  ·rfl
  ·exact a.CH
def oL : rA nS := fun μ ys x => ∃ (v0 : Value) (v1 : Value), ys = [.int .i64 x.Signed.ky.Kind, .string x.Signed.ky.Head.kE, .string x.Signed.ky.Head.kT, .string x.Signed.ky.lx, .string x.Signed.ky.B.kE, .string x.Signed.ky.B.kT, .string x.Signed.ky.C.kE, .string x.Signed.ky.C.kT, .string x.Signed.ky.lU, v0, .int .i64 x.lo.Op, .int .i64 x.lo.K, .string x.lo.kw.kE, .string x.lo.kw.kT, v1] ∧ Sl (Pl (lJ .u8)) 1 μ v0 x.Signed.Tag ∧ Sl kW 5 μ v1 x.lo.Kids
theorem oL.out {μ : lm} {ys : List Value} {x : nS} (h : oL μ ys x) : ∃ (v0 : Value) (v1 : Value), ys = [.int .i64 x.Signed.ky.Kind, .string x.Signed.ky.Head.kE, .string x.Signed.ky.Head.kT, .string x.Signed.ky.lx, .string x.Signed.ky.B.kE, .string x.Signed.ky.B.kT, .string x.Signed.ky.C.kE, .string x.Signed.ky.C.kT, .string x.Signed.ky.lU, v0, .int .i64 x.lo.Op, .int .i64 x.lo.K, .string x.lo.kw.kE, .string x.lo.kw.kT, v1] ∧ Sl (Pl (lJ .u8)) 1 μ v0 x.Signed.Tag ∧ Sl kW 5 μ v1 x.lo.Kids := h
theorem oL.mk {μ : lm} {ys : List Value} {x : nS} (h : ∃ (v0 : Value) (v1 : Value), ys = [.int .i64 x.Signed.ky.Kind, .string x.Signed.ky.Head.kE, .string x.Signed.ky.Head.kT, .string x.Signed.ky.lx, .string x.Signed.ky.B.kE, .string x.Signed.ky.B.kT, .string x.Signed.ky.C.kE, .string x.Signed.ky.C.kT, .string x.Signed.ky.lU, v0, .int .i64 x.lo.Op, .int .i64 x.lo.K, .string x.lo.kw.kE, .string x.lo.kw.kT, v1] ∧ Sl (Pl (lJ .u8)) 1 μ v0 x.Signed.Tag ∧ Sl kW 5 μ v1 x.lo.Kids) : oL μ ys x := h
theorem AE : Deep oL 15 where
 mono := by rintro _ _ _ _ c ⟨v0, v1, rfl, a, h1⟩; exact ⟨v0, v1, rfl, a.mono (Pl.mono _) c, h1.mono lW.mono c⟩
 len := by rintro _ _ _ ⟨v0, v1, rfl, a, h1⟩; rfl
 one := by
  rintro _ _ _ ⟨v0, v1, rfl, a, h1⟩
  intro u hu; simp only [aR, di, fw] at hu; rcases hu with rfl | rfl | rfl | rfl | rfl | rfl | rfl | rfl | rfl | rfl | rfl | rfl | rfl | rfl | rfl
  ·rfl
  ·rfl
  ·rfl
  ·rfl
  ·rfl
  ·rfl
  ·rfl
  ·rfl
  ·rfl
  ·exact a.CH
  ·rfl
  ·rfl
  ·rfl
  ·rfl
  ·exact h1.CH
def vc : rA vd := fun μ ys x => ∃ (v0 : Value) (v1 : Value), ys = [.string x.kw.kE, .string x.kw.kT, .int .i64 x.lo.Op, .int .i64 x.lo.K, .string x.lo.kw.kE, .string x.lo.kw.kT, v0, v1] ∧ Sl kW 5 μ v0 x.lo.Kids ∧ Sl (Pl kC) 9 μ v1 x.qv
theorem vc.out {μ : lm} {ys : List Value} {x : vd} (h : vc μ ys x) : ∃ (v0 : Value) (v1 : Value), ys = [.string x.kw.kE, .string x.kw.kT, .int .i64 x.lo.Op, .int .i64 x.lo.K, .string x.lo.kw.kE, .string x.lo.kw.kT, v0, v1] ∧ Sl kW 5 μ v0 x.lo.Kids ∧ Sl (Pl kC) 9 μ v1 x.qv := h
theorem vc.mk {μ : lm} {ys : List Value} {x : vd} (h : ∃ (v0 : Value) (v1 : Value), ys = [.string x.kw.kE, .string x.kw.kT, .int .i64 x.lo.Op, .int .i64 x.lo.K, .string x.lo.kw.kE, .string x.lo.kw.kT, v0, v1] ∧ Sl kW 5 μ v0 x.lo.Kids ∧ Sl (Pl kC) 9 μ v1 x.qv) : vc μ ys x := h
theorem I1 : Deep vc 8 where
 mono := by rintro _ _ _ _ c ⟨v0, v1, rfl, a, h1⟩; exact ⟨v0, v1, rfl, a.mono lW.mono c, h1.mono (Pl.mono _) c⟩
 len := by rintro _ _ _ ⟨v0, v1, rfl, a, h1⟩; rfl
 one := by
  rintro _ _ _ ⟨v0, v1, rfl, a, h1⟩
  intro u hu; simp only [aR, di, fw] at hu; rcases hu with rfl | rfl | rfl | rfl | rfl | rfl | rfl | rfl
  ·rfl
  ·rfl
  ·rfl
  ·rfl
  ·rfl
  ·rfl
  ·exact a.CH
  ·exact h1.CH
def Fp : rA Key := fun μ ys x => ∃ (v0 : Value), ys = [.string x.lx, v0] ∧ Sl (Pl (lJ .u8)) 1 μ v0 x.Key
theorem Fp.out {μ : lm} {ys : List Value} {x : Key} (h : Fp μ ys x) : ∃ (v0 : Value), ys = [.string x.lx, v0] ∧ Sl (Pl (lJ .u8)) 1 μ v0 x.Key := h
theorem Fp.mk {μ : lm} {ys : List Value} {x : Key} (h : ∃ (v0 : Value), ys = [.string x.lx, v0] ∧ Sl (Pl (lJ .u8)) 1 μ v0 x.Key) : Fp μ ys x := h
theorem JH : px pg0 9 Value.string ma := px.string bQ
theorem Ci : px pg0 28 (fun (x : kw) => (.agg (kx x).toArray)) kN :=
 px.struct cI (fun d x y W => nJ (d + 8) x y W) (fun b k W => Bg cI rfl (et.2 ⟨fun _ => ⟨.string k.kE, qn aY rfl, uB bQ _ _ _ _⟩, (et.2 ⟨fun _ => ⟨.string k.kT, qn aY rfl, uB bQ _ _ _ _⟩, (fun _ h => by cases h)⟩)⟩))
  (fun k x h => (kP.1 h).symm) (fun k => by simp [Instr.sameBits, kx, D5, mM])
theorem Nn : px pg0 38 (fun (x : kB) => (.agg (kK x).toArray)) nq :=
 px.struct cq (fun d x y W => Dy (d + 7) x y W) (fun b k W => Bg cq rfl (et.2 ⟨fun _ => ⟨.agg (kx k.kw).toArray, tq aN aC rfl, Bg cI rfl (et.2 ⟨fun _ => ⟨.string k.kw.kE, qn aY rfl, uB bQ _ _ _ _⟩, (et.2 ⟨fun _ => ⟨.string k.kw.kT, qn aY rfl, uB bQ _ _ _ _⟩, (fun _ h => by cases h)⟩)⟩)⟩, (et.2 ⟨fun _ => ⟨.string k.lx, qn aY rfl, uB bQ _ _ _ _⟩, (fun _ h => by cases h)⟩)⟩))
  (fun k x h => (mH.1 h).symm) (fun k => by simp [Instr.sameBits, kK, D5, mM])
theorem WI (w : World) (s : ByteArray) (c : Int) : (callFunc 289 [Value.string s, .int .u8 c].toArray).run pg0 w = .ok (.value (.int .i64 (zA s c))) w := J5 func289 (by kernel_rfl) (by kernel_rfl) (by kernel_rfl) (by kernel_rfl) s c w
theorem AD (a : ByteArray) (c r : Int) (w : World) (hm : pt a c = some r) :
  la true pg0 254 [(.string a), (.int .u8 c)] w (.int .i64 r) := by
 exact cG 8 func254 rfl (fun d => sg (Wa (lr (Wm (Wm (VE (QG (args := [(.string a), (.int .u8 c)]) (v := .int .i64 (zA a c)) rfl (by exact pI rfl rfl) (WI _ a c) (Wa (lt (rQ hm d))))))))))
theorem Bs (a : ByteArray) (c r : Int) (w : World) (hm : tb a c = some r) :
  la true pg0 215 [(.string a), (.int .u8 c)] w (.int .i64 r) := by
 refine cG 8 func215 rfl (fun d => sg (Wa (lr (Wm (Wm (bS hm fun j g hm => VE (Eg d call254 (AD a c _ _  g) (fun i d => Wa (ln ?_)))))))))
 exact lj (rQ hm d)
theorem OS (I : ByteArray) (r : Bool) (w : World) (hm : EE I = some r) :
  la true pg0 216 [(.string I)] w (.bool r) := by
 refine cG 16 func216 rfl (fun d => sg (Wa (lS (Wm (bS hm fun H J hm => VE (Lu d bQ cw eU rfl J (fun W3 N T d M q j Y => V (ly cw rfl j) (Wm (lh ?_)))))))))
 refine kF (lp (fun i E W => ∃ c, (E 8 = .int .i64 (i : Nat) ∧ E 7 = .int .i64 (H.length : Nat)) ∧ ST true ll w W T c ∧ E 6 = N ∧ xv (H.drop i) = some r) H.length j.len ⟨_, ⟨rfl, rfl⟩, (d.kz St), rfl, hm⟩ dc dc dc (fun _ _ _ h => by obtain ⟨_, n, _⟩ := h; exact n) ?_ ?_)
 ·rintro K E W u ⟨c, ⟨m, o⟩, d, g, a⟩
  obtain ⟨k, Q, D, B, G⟩ := lc u
  rw [D] at a
  refine bg (VQ (lO (enc := (lJ .u8)) (i := (K : Int)) (x0 := k) cw iY g m j (aD _) B) (fun Z x => V (kA rfl (ng d.has (y := (.int .u8 k)) x isAgg5)) (Wa (lr (Wm (bS a fun s z a => VE (Eg d call215 (Bs (⟨#[97, 98, 99, 100, 101, 102, 103, 104, 105, 106, 107, 108, 109, 110, 111, 112, 113, 114, 115, 116, 117, 118, 119, 120, 121, 122, 48, 49, 50, 51, 52, 53, 54, 55, 56, 57, 45]⟩ : ByteArray) k _ _  z) (fun U d => Wi rfl (lh ?_)))))))))
  refine kF (CI a rfl (fun t a => ?_) (fun t a => ?_))
  ·refine sg (Wa (lt (me (lb (me (lb ?_))))))
   obtain rfl := sj a
   exact rP d
  exact lz (lu (kF ⟨m, _, ⟨rfl, o⟩, (d.kz St), g, (by rw [G]; exact a)⟩))
 rintro E W ⟨c, ⟨m, o⟩, d, g, a⟩
 rw [aG] at a
 exact kF (sg (Wa (lt (rQ a d))))
theorem uc (z : ByteArray) (r : Bool) (w : World) (hm : qi z = some r) :
  la true pg0 177 [(.string z)] w (.bool r) := by
 refine cG 21 func177 rfl (fun d => sg (Wa (lr (Wm (V (om bQ rfl) (Wi rfl (Wm (LJ hm (fun K E W => ∃ Y, ST true ll w W (hp w) Y ∧ E 0 = (.string z) ∧ E 2 = (.bool false) ∧ E 10 = (.bool K)) 4 ?_ (fun K t y => ?_)))))))))
 ·rintro x2 E W ⟨Y, d, M, h, n⟩ a5
  refine Wh n (LJ a5 (fun J E W => ∃ D, ST true ll w W (hp w) D ∧ E 0 = (.string z) ∧ E 2 = (.bool false) ∧ E 16 = (.bool J)) 5 ?_ (fun J a x => ?_))
  ·rintro A E W ⟨D, d, m, H, a2⟩ N
   refine Wh a2 (LJ N (fun I E W => ∃ G, ST true ll w W (hp w) G ∧ E 2 = (.bool false) ∧ E 20 = (.bool I)) 3 ?_ (fun I j u => ?_))
   ·rintro L E W ⟨G, d, a9, a3⟩ Q
    exact Wg a3 (lt (rQ Q d))
   refine bC j (fun g j => ?_) (fun g j => ?_)
   ·refine ug g (kH m) (bS j fun s T j => pX g (Eg d call216 (OS z _ _  T) (fun o d => V (kR (cB g) rfl) ?_)))
    obtain rfl := sj j
    exact u _ _ ⟨_, (d.kz St), H, rfl⟩
   refine un g (un g (V (kQ (cB g) rfl) ?_))
   obtain rfl := sj j
   exact u _ _ ⟨_, (d.kz St), H, rfl⟩
  refine bC a (fun c a => ?_) (fun c a => ?_)
  ·refine ug c (kH M) (bS a fun Z B a => ug c (CU (i := 0) bQ rfl rfl (BQ B) (FX B)) (bS a fun v U a => pX c (Eg d call215 (Bs (⟨#[97, 98, 99, 100, 101, 102, 103, 104, 105, 106, 107, 108, 109, 110, 111, 112, 113, 114, 115, 116, 117, 118, 119, 120, 121, 122]⟩ : ByteArray) (Z.toNat : Int) _ _  U) (fun q d => ug c (lL rfl rfl rfl) (V (kR (cB c) rfl) ?_)))))
   obtain rfl := sj a
   exact x _ _ ⟨_, (d.kz St), M, h, rfl⟩
  refine un c (un c (un c (un c (V (kQ (cB c) rfl) ?_))))
  obtain rfl := sj a
  exact x _ _ ⟨_, (d.kz St), M, h, rfl⟩
 refine bC t (fun k t => ?_) (fun k t => ?_)
 ·refine ug k (kH rfl) (ug k (om bQ rfl) (ug k (lL rfl rfl rfl) (V (kR (cB k) rfl) ?_)))
  obtain rfl := sj t
  exact y _ _ ⟨_, (d.kz St), rfl, rfl, rfl⟩
 refine un k (un k (un k (V (kQ (cB k) rfl) ?_)))
 obtain rfl := sj t
 exact y _ _ ⟨_, (d.kz St), rfl, rfl, rfl⟩
theorem sB (i : kw) (r : Bool) (w : World) (hm : pA i = some r) :
  la true pg0 157 [(.agg (kx i).toArray)] w (.bool r) := by
 refine cG 11 func157 rfl (fun d => sg (VE (lB d rfl (fun H J d => Wa (lr (Wf oQ (VB d Mh rfl rfl aY (bS hm fun K y hm => VE (Eg d jZ (uc i.kE _ _  y) (fun I d => Wm (LJ hm (fun k E W => ∃ j, ST true ll w W (hp w) j ∧ E 2 = (.bool false) ∧ E 10 = (.bool k)) 4 ?_ (fun k a g => ?_))))))))))))
 ·rintro G E W ⟨j, d, B, x⟩ t
  exact Wg x (lt (rQ t d))
 refine bC a (fun c a => ?_) (fun c a => ?_)
 ·refine ug c (kD vO rfl) (ug c (kA rfl (kM d.has Mh rfl aY)) (bS a fun D u a => pX c (Eg d jZ (uc i.kT _ _  u) (fun z d => V (kR (cB c) rfl) ?_))))
  obtain rfl := sj a
  exact g _ _ ⟨_, (d.kz (Db St)), rfl, rfl⟩
 refine un c (un c (un c (V (kQ (cB c) rfl) ?_)))
 obtain rfl := sj a
 exact g _ _ ⟨_, (d.kz (Db St)), rfl, rfl⟩
theorem Xf (w : World) (a b : ByteArray) : (callFunc 238 [Value.string a, .string b].toArray).run pg0 w = .ok (.value (.int .i64 (oz a b))) w := SO func238 (by kernel_rfl) (by kernel_rfl) (by kernel_rfl) (by kernel_rfl) a b w
theorem Av (a c : ByteArray) (r : Int) (w : World) (hm : nC a c = some r) :
  la true pg0 186 [(.string a), (.string c)] w (.int .i64 r) := by
 exact cG 8 func186 rfl (fun d => sg (Wa (lr (Wm (Wm (VE (QG (args := [(.string a), (.string c)]) (v := .int .i64 (oz a c)) rfl (by exact pI rfl rfl) (Xf _ a c) (Wa (lt (rQ hm d))))))))))
theorem CD (a c : ByteArray) (r : Int) (w : World) (hm : pN a c = some r) :
  la true pg0 125 [(.string a), (.string c)] w (.int .i64 r) := by
 refine cG 8 func125 rfl (fun d => sg (Wa (lr (Wm (Wm (bS hm fun j g hm => VE (Eg d call186 (Av a c _ _  g) (fun i d => Wa (ln ?_)))))))))
 exact lj (rQ hm d)
theorem HB (g : Value) (t : List Int) (r : Int) (w : World) (c : Sl (Pl (lJ .i64)) 1 (hp w) g t) (hm : se t = some r) :
  la true pg0 124 [g] w (.int .i64 r) := by
 refine cG 18 func124 rfl (fun d => sg (Wa (lr (Wa (lS (Wm ?_))))))
 refine V (ly eY rfl c) (Wm (ln (lp (fun i E W => ∃ k, (E 8 = .int .i64 (i : Nat) ∧ E 7 = .int .i64 (t.length : Nat)) ∧ ST true ll w W (hp w) k ∧ E 3 = (.int .i64 0) ∧ E 6 = g ∧ pc (t.drop i) = some r) t.length c.len ⟨_, ⟨rfl, rfl⟩, (d.kz St), rfl, rfl, hm⟩ dc dc dc (fun _ _ _ h => by obtain ⟨_, n, _⟩ := h; exact n) ?_ ?_)))
 ·rintro J E W B ⟨k, ⟨m, o⟩, d, j, u, a⟩
  obtain ⟨x, K, H, G, I⟩ := lc B
  rw [H] at a
  refine bg (VQ (lO (enc := (lJ .i64)) (i := (J : Int)) (x0 := x) eY gi u m c (aD _) G) (fun M D => V (kA rfl (ng d.has (y := (.int .i64 x)) D cC)) (Wa (lr (Wm (Wh j (Wi rfl (ln ?_))))))))
  refine CI a rfl (fun z a => ?_) (fun z a => ?_)
  ·refine sg (Wm (Wa (lt (me (lb (me (lb ?_)))))))
   obtain rfl := sj a
   exact rP d
  exact lz (lu (kF ⟨m, _, ⟨rfl, o⟩, (d.kz St), j, u, (by rw [I]; exact a)⟩))
 rintro E W ⟨k, ⟨m, o⟩, d, j, u, a⟩
 rw [aG] at a
 exact kF (sg (Wh j (Wa (lt (rQ a d)))))
theorem Bv (g i : kw) (r : Int) (w : World) (hm : nw g i = some r) :
  la true pg0 57 [(.agg (kx g).toArray), (.agg (kx i).toArray)] w (.int .i64 r) := by
 refine cG 17 func57 rfl (fun d => sg (VE (lB d rfl (fun G I d => VE (lB d rfl (fun H J d => Wa (ln (kO ?_))))))))
 replace d := d.drew
 have h := d.has.kz (Kb (Kb Sn))
 refine lG h lq (X 0 rfl h (kD oQ rfl) (XH 1 rfl h (fun _ m => kA rfl (kM m (Mt Mh) rfl aY)) (X 2 rfl h (kD oQ rfl) (XH 3 rfl h (fun _ m => kA rfl (kM m Mh rfl aY)) (X 5 rfl h (kD vO rfl) (XH 6 rfl h (fun _ m => kA rfl (kM m (Mt Mh) rfl aY)) (X 7 rfl h (kD vO rfl) (XH 8 rfl h (fun _ m => kA rfl (kM m Mh rfl aY)) (bS hm fun a j hm => XE 4 rfl (Eg d call125 (CD g.kE i.kE _ _  j) (fun x d => ?_)))))))))))
 have h := d.has.kz (Kb (Kb Sn))
 refine ⟨h, (bS hm fun c k hm => XE 9 rfl (Eg d call125 (CD g.kT i.kT _ _  k) (fun y d => ?_)))⟩
 have h := d.has.kz (Kb (Kb Sn))
 refine ⟨h, (XE 10 rfl (lg (cs := #[(.int .i64 a), (.int .i64 c)]) d (pC rfl rfl) (mD eY gi zeroValue3) (fun z u d => ?_)))⟩
 have h := d.has.kz (Db (Kb (Kb Sn)))
 refine ⟨h, (bS hm fun D t hm => XE 11 rfl (Eg d call124 (HB (.slice (some ⟨u, 0, none⟩) 2 2) ([a, c]) _ _ (Sl.lit (enc := (lJ .i64)) (l := [a, c]) (fun _ => rfl) rfl nb rfl (d.at_ Mh)) t) (fun B d => ?_)))⟩
 have h := d.has.kz (Db (Kb (Kb Sn)))
 refine ⟨h, (X 12 rfl h (mN rfl) (lT kr (kF ?_)))⟩
 exact lj (rQ hm d)
set_option maxHeartbeats 4000000 in
theorem uq (a : ky) (r : Bool) (w : World) (hm : pD a = some r) :
  la true pg0 115 [(.agg (kC a).toArray)] w (.bool r) := by
 let m9 := (⟨a.Kind, a.Head, zS, a.B, a.C, zS⟩ : ky)
 let j2 := (⟨a.Kind, a.Head, zS, a.B, K0, a.lU⟩ : ky)
 let j1 : Value := (.agg (kx a.B).toArray)
 let g6 := ((kC (⟨a.Kind, a.Head, zS, a.B, K0, zS⟩ : ky)).toArray)
 let s := (⟨a.Kind, a.Head, zS, K0, K0, zS⟩ : ky)
 refine cG 98 func115 rfl (fun d => sg (VE (lB d rfl (fun W2 N d => Wa (lr (Wf nZ (VB d Mh rfl rfl cC (Wf oe (VA d Mh (kx a.Head) aN aC (V (nc (v := (.agg (kC s).toArray)) (pC rfl rfl) (mB cg cY (MA _ cY) kr)) (VE (lA d cg (fun W4 B d => ?_)))))))))))))
 refine VO (lf (.agg (kC s).toArray) ((kC s).toArray) d rfl rfl aI (nI s) nb rfl (fun W5 d => lr (Wf oe (VA d (Mt Mh) (kx a.Head) aN aC (bS hm fun q j4 hm => VE (Eg d jA (sB a.Head _ _  j4) (fun W8 d => Wa (ln (kO (HA hm (fun O E W => ∃ b6, ST true ll w W (hp w) ((B, Ol (kC O.2) 108) :: ((N, Ol (kC a) 108) :: b6)) ∧ E 1 = (.pointer (some ⟨N, 0, none⟩)) ∧ E 3 = (.pointer (some ⟨B, 0, none⟩)) ∧ E 4 = (.bool O.1)) (fun O g Z => ?_) ?_))))))))))
 ·let g5 := ((kC m9).toArray : Array Value)
  let b8 := ((kC j2).toArray : Array Value)
  let o : Value := (.pointer (some ⟨B, 0, none⟩))
  let n : Value := (.pointer (some ⟨N, 0, none⟩))
  let a0 := ((kC a).toArray : Array Value)
  refine sg (Wf nZ (VB d (Mt Mh) rfl rfl cC (ln (bg (Wi rfl (Wa (ln (CI g rfl (fun e5 g => ?_) (fun e5 g => ?_)))))))))
  ·replace d := d.drew
   have h := d.has.kz (Db (Kb Sn))
   refine lG h lq (X 0 rfl h (kD sL rfl) (XH 1 rfl h (fun _ m => kA rfl (kM m Mh rfl aY)) (X 2 rfl h (kH rfl) (X 3 rfl h (kH rfl) (X 8 rfl h (kD sL rfl) (PJ g (fun d6 E W => ∃ b9, ST true ll w W (hp w) ((B, Ol (kC s) 108) :: ((N, Obj.cells a0 108 (0, 0)) :: b9)) ∧ E 1 = n ∧ E 3 = o ∧ E 4 = (.bool q) ∧ E 18 = (.string a.lx) ∧ E 24 = (.bool d6) ∧ E 25 = (.pointer (some ⟨B, 3, none⟩))) (bm 11 511) 2 ?_ (fun d6 D a2 => ?_)))))))
   ·rintro m1 E W ⟨b9, d, h2, h3, k8, h4, h5, h6⟩ f1
    refine XO 9 rfl (lf (.string a.lx) ((kC (⟨a.Kind, a.Head, a.lx, K0, K0, zS⟩ : ky)).toArray) d h6 h4 dh (DF a.lx) nb rfl (fun j5 d => ?_))
    have h := d.has.kz (Db (Kb Sn))
    refine ⟨h, (X 10 rfl h (mN h5) (lT kr (lu (kF ?_))))⟩
    obtain rfl := sj f1
    exact ⟨_, rfl, _, (d.kz St), h2, h3, rfl⟩
   refine bC D (fun k D => ?_) (fun k D => ?_)
   ·refine Xg 4 rfl rfl (cB k) h (kD sL rfl) (uW 5 rfl rfl (cB k) h (fun _ m => kA rfl (kM m Mh rfl aY)) (bS D fun l2 f9 D => DH 6 rfl rfl (cB k) (Eg d jZ (uc a.lx _ _  f9) (fun j6 d => ?_))))
    have h := d.has.kz (Db (Kb Sn))
    refine ⟨h, (X 7 rfl h (kR (cB k) rfl) ?_)⟩
    obtain rfl := sj D
    refine nx kr (a2 _ _ ⟨_, (d.kz St), rfl, rfl, rfl, rfl, rfl, rfl⟩)
   refine Xn 4 rfl rfl (cB k) h (Xn 5 rfl rfl (cB k) h (Xn 6 rfl rfl (cB k) h (X 7 rfl h (kQ (cB k) rfl) ?_)))
   obtain rfl := sj D
   refine nx kr (a2 _ _ ⟨_, (d.kz St), rfl, rfl, rfl, rfl, rfl, rfl⟩)
  refine sg (Wi rfl (Wa (ln (CI g rfl (fun e6 g => ?_) (fun e6 g => ?_)))))
  ·replace d := d.drew
   have h := d.has.kz (Db (Kb Sn))
   refine lG h lq (X 0 rfl h (kD mT rfl) (XH 1 rfl h (fun _ m => kA rfl (kI m Mh (kx a.B) rfl aN aC)) (X 2 rfl h (kH rfl) (X 3 rfl h (kH rfl) (X 8 rfl h (kD mT rfl) (PJ g (fun d7 E W => ∃ c0, ST true ll w W (hp w) ((B, Ol (kC s) 108) :: ((N, Obj.cells a0 108 (0, 0)) :: c0)) ∧ E 1 = n ∧ E 3 = o ∧ E 4 = (.bool q) ∧ E 29 = j1 ∧ E 35 = (.bool d7) ∧ E 36 = (.pointer (some ⟨B, 4, none⟩))) (bm 11 511) 2 ?_ (fun d7 G a3 => ?_)))))))
   ·rintro m2 E W ⟨c0, d, h7, h8, k9, h9, i0, i1⟩ f2
    refine XO 9 rfl (lf j1 g6 d i1 h9 aC (mE a.B) nb rfl (fun j7 d => ?_))
    have h := d.has.kz (Db (Kb Sn))
    refine ⟨h, (X 10 rfl h (mN i0) (lT kr (lu (kF ?_))))⟩
    obtain rfl := sj f2
    exact ⟨_, rfl, _, (d.kz St), h7, h8, rfl⟩
   refine bC G (fun t G => ?_) (fun t G => ?_)
   ·refine Xg 4 rfl rfl (cB t) h (kD mT rfl) (uW 5 rfl rfl (cB t) h (fun _ m => kA rfl (kI m Mh (kx a.B) rfl aN aC)) (bS G fun l3 g0 G => DH 6 rfl rfl (cB t) (Eg d jA (sB a.B _ _  g0) (fun j8 d => ?_))))
    have h := d.has.kz (Db (Kb Sn))
    refine ⟨h, (X 7 rfl h (kR (cB t) rfl) ?_)⟩
    obtain rfl := sj G
    refine nx kr (a3 _ _ ⟨_, (d.kz St), rfl, rfl, rfl, rfl, rfl, rfl⟩)
   refine Xn 4 rfl rfl (cB t) h (Xn 5 rfl rfl (cB t) h (Xn 6 rfl rfl (cB t) h (X 7 rfl h (kQ (cB t) rfl) ?_)))
   obtain rfl := sj G
   refine nx kr (a3 _ _ ⟨_, (d.kz St), rfl, rfl, rfl, rfl, rfl, rfl⟩)
  refine sg (Wi rfl (Wa (ln (CI g rfl (fun e7 g => ?_) (fun e7 g => ?_)))))
  ·refine kO ?_
   replace d := d.drew
   have h := d.has.kz (Db (Kb Sn))
   refine lG h lq (X 0 rfl h (kD mT rfl) (XH 1 rfl h (fun _ m => kA rfl (kI m Mh (kx a.B) rfl aN aC)) (X 2 rfl h (kD rO rfl) (XH 3 rfl h (fun _ m => kA rfl (kM m Mh rfl aY)) (X 4 rfl h (kD mT rfl) (XO 5 rfl (lf j1 g6 d rfl rfl aC (mE a.B) nb rfl (fun j9 d => ?_))))))))
   have h := d.has.kz (Db (Kb Sn))
   refine ⟨h, (X 6 rfl h (kD rO rfl) (XO 7 rfl (lf (.string a.lU) ((kC j2).toArray) d rfl rfl dh (DF a.lU) nb rfl (fun k0 d => ?_))))⟩
   have h := d.has.kz (Db (Kb Sn))
   refine ⟨h, (lT kr (kF (kL (Wm (Wm (LJ g (fun e0 E W => ∃ c1, ST true ll w W (hp w) ((B, Obj.cells b8 108 (0, 0)) :: ((N, Obj.cells a0 108 (0, 0)) :: c1)) ∧ E 1 = n ∧ E 3 = o ∧ E 4 = (.bool q) ∧ E 50 = (.bool e0)) 4 ?_ (fun e0 I R => ?_)))))))⟩
   ·rintro m3 E W ⟨c1, d, U, c7, c8, i2⟩ f3
    refine Wh i2 (LJ f3 (fun d9 E W => ∃ c2, ST true ll w W (hp w) ((B, Obj.cells b8 108 (0, 0)) :: ((N, Obj.cells a0 108 (0, 0)) :: c2)) ∧ E 1 = n ∧ E 3 = o ∧ E 4 = (.bool q) ∧ E 59 = (.bool d9)) 8 ?_ (fun d9 T a5 => ?_))
    ·rintro m4 E W ⟨c2, d, A, c9, d0, i3⟩ f4
     refine Wh i3 (LJ f4 (fun d8 E W => ∃ c3, ST true ll w W (hp w) ((B, Obj.cells b8 108 (0, 0)) :: ((N, Obj.cells a0 108 (0, 0)) :: c3)) ∧ E 1 = n ∧ E 3 = o ∧ E 4 = (.bool q) ∧ E 64 = (.bool d8)) 4 ?_ (fun d8 H a4 => ?_))
     ·rintro m5 E W ⟨c3, d, i4, i5, l0, i6⟩ f5
      refine Wg i6 (lh (lu (kF ?_)))
      obtain rfl := sj f5
      exact ⟨_, rfl, _, (d.kz St), i4, i5, rfl⟩
     refine bC H (fun x H => ?_) (fun x H => ?_)
     ·refine ug x (kD rO A) (ug x (kA rfl (kM d.has (Mt Mh) rfl aY)) (bS H fun l4 g1 H => pX x (Eg d jZ (uc a.lU _ _  g1) (fun k1 d => V (kR (cB x) rfl) ?_))))
      obtain rfl := sj H
      exact a4 _ _ ⟨_, (d.kz St), A, c9, d0, rfl⟩
     refine un x (un x (un x (V (kQ (cB x) rfl) ?_)))
     obtain rfl := sj H
     exact a4 _ _ ⟨_, (d.kz St), A, c9, d0, rfl⟩
    refine bC T (fun c T => ?_) (fun c T => ?_)
    ·refine ug c (kD mT U) (ug c (kD oQ rfl) (ug c (kA rfl (kM d.has (Mt Mh) rfl aY)) (ug c (kD oe U) (ug c (kD oQ rfl) (ug c (kA rfl (kM d.has (Mt Mh) rfl aY)) (ug c (rU rfl rfl rfl) (V (kR (cB c) rfl) ?_)))))))
     obtain rfl := sj T
     exact a5 _ _ ⟨_, (d.kz St), U, c7, c8, rfl⟩
    refine un c (un c (un c (un c (un c (un c (un c (V (kQ (cB c) rfl) ?_)))))))
    obtain rfl := sj T
    exact a5 _ _ ⟨_, (d.kz St), U, c7, c8, rfl⟩
   refine bC I (fun u I => ?_) (fun u I => ?_)
   ·refine ug u (kD mT rfl) (ug u (kA rfl (kI d.has (Mt Mh) (kx a.B) rfl aN aC)) (bS I fun l5 g2 I => pX u (Eg d jA (sB a.B _ _  g2) (fun k2 d => V (kR (cB u) rfl) ?_))))
    obtain rfl := sj I
    exact R _ _ ⟨_, (d.kz St), rfl, rfl, rfl, rfl⟩
   refine un u (un u (un u (V (kQ (cB u) rfl) ?_)))
   obtain rfl := sj I
   exact R _ _ ⟨_, (d.kz St), rfl, rfl, rfl, rfl⟩
  refine sg (Wi rfl (Wa (ln (CI g rfl (fun e8 g => ?_) (fun e8 g => ?_)))))
  ·refine kO ?_
   replace d := d.drew
   have h := d.has.kz (Db (Kb Sn))
   refine lG h lq (X 0 rfl h (kD mT rfl) (XH 1 rfl h (fun _ m => kA rfl (kI m Mh (kx a.B) rfl aN aC)) (X 2 rfl h (kD pL rfl) (XH 3 rfl h (fun _ m => kA rfl (kI m Mh (kx a.C) rfl aN aC)) (X 4 rfl h (kD mT rfl) (XO 5 rfl (lf j1 g6 d rfl rfl aC (mE a.B) nb rfl (fun k3 d => ?_))))))))
   have h := d.has.kz (Db (Kb Sn))
   refine ⟨h, (X 6 rfl h (kD pL rfl) (XO 7 rfl (lf (.agg (kx a.C).toArray) ((kC m9).toArray) d rfl rfl aC (mE a.C) nb rfl (fun k4 d => ?_))))⟩
   have h := d.has.kz (Db (Kb Sn))
   refine ⟨h, (lT kr (kF (kL (Wm (Wm (LJ g (fun e3 E W => ∃ c4, ST true ll w W (hp w) ((B, Obj.cells g5 108 (0, 0)) :: ((N, Obj.cells a0 108 (0, 0)) :: c4)) ∧ E 1 = n ∧ E 3 = o ∧ E 4 = (.bool q) ∧ E 78 = (.bool e3)) 4 ?_ (fun e3 M a9 => ?_)))))))⟩
   ·rintro m6 E W ⟨c4, d, L, d1, d2, i7⟩ f6
    refine Wh i7 (LJ f6 (fun e2 E W => ∃ c5, ST true ll w W (hp w) ((B, Obj.cells g5 108 (0, 0)) :: ((N, Obj.cells a0 108 (0, 0)) :: c5)) ∧ E 1 = n ∧ E 3 = o ∧ E 4 = (.bool q) ∧ E 83 = (.bool e2)) 4 ?_ (fun e2 K a8 => ?_))
    ·rintro m7 E W ⟨c5, d, Y, d3, d4, i8⟩ f7
     refine Wh i8 (LJ f7 (fun e1 E W => ∃ c6, ST true ll w W (hp w) ((B, Obj.cells g5 108 (0, 0)) :: ((N, Obj.cells a0 108 (0, 0)) :: c6)) ∧ E 1 = n ∧ E 3 = o ∧ E 4 = (.bool q) ∧ E 91 = (.bool e1)) 7 ?_ (fun e1 J a7 => ?_))
     ·rintro m8 E W ⟨c6, d, i9, j0, l1, j3⟩ f8
      refine Wg j3 (lh (lu (kF ?_)))
      obtain rfl := sj f8
      exact ⟨_, rfl, _, (d.kz St), i9, j0, rfl⟩
     refine bC J (fun i J => ?_) (fun i J => ?_)
     ·refine ug i (kD mT Y) (ug i (kA rfl (kI d.has (Mt Mh) (kx a.B) rfl aN aC)) (ug i (kD pL Y) (ug i (kA rfl (kI d.has (Mt Mh) (kx a.C) rfl aN aC)) (bS J fun l6 g3 J => pX i (Eg d call57 (Bv a.B a.C _ _  g3) (fun k5 d => ug i (lL rfl rfl rfl) (V (kR (cB i) rfl) ?_)))))))
      obtain rfl := sj J
      exact a7 _ _ ⟨_, (d.kz St), Y, d3, d4, rfl⟩
     refine un i (un i (un i (un i (un i (un i (V (kQ (cB i) rfl) ?_))))))
     obtain rfl := sj J
     exact a7 _ _ ⟨_, (d.kz St), Y, d3, d4, rfl⟩
    refine bC K (fun z K => ?_) (fun z K => ?_)
    ·refine ug z (kD pL L) (ug z (kA rfl (kI d.has (Mt Mh) (kx a.C) rfl aN aC)) (bS K fun l7 g4 K => pX z (Eg d jA (sB a.C _ _  g4) (fun k6 d => V (kR (cB z) rfl) ?_))))
     obtain rfl := sj K
     exact a8 _ _ ⟨_, (d.kz St), L, d1, d2, rfl⟩
    refine un z (un z (un z (V (kQ (cB z) rfl) ?_)))
    obtain rfl := sj K
    exact a8 _ _ ⟨_, (d.kz St), L, d1, d2, rfl⟩
   refine bC M (fun y M => ?_) (fun y M => ?_)
   ·refine ug y (kD mT rfl) (ug y (kA rfl (kI d.has (Mt Mh) (kx a.B) rfl aN aC)) (bS M fun l8 g7 M => pX y (Eg d jA (sB a.B _ _  g7) (fun k7 d => V (kR (cB y) rfl) ?_))))
    obtain rfl := sj M
    exact a9 _ _ ⟨_, (d.kz St), rfl, rfl, rfl, rfl⟩
   refine un y (un y (un y (V (kQ (cB y) rfl) ?_)))
   obtain rfl := sj M
   exact a9 _ _ ⟨_, (d.kz St), rfl, rfl, rfl, rfl⟩
  refine sg (Wa (ln ?_))
  replace d := d.kz (Db (Db St))
  refine lj (me (lb ?_))
  obtain rfl := sj g
  replace Z : some false = some r := Z
  obtain rfl := sj Z
  exact rP d
 rintro ⟨l9, e4⟩ E W ⟨b6, d, g8, g9, h0⟩ e9
 refine sg (Wh h0 (Wm (LJ e9 (fun d5 E W => ∃ b7, ST true ll w W (hp w) b7 ∧ E 97 = (.bool d5)) 4 ?_ (fun d5 Q P => ?_))))
 ·rintro m0 E W ⟨b7, d, h1⟩ f0
  exact Wg h1 (lt (rQ f0 d))
 refine bC Q (fun j Q => ?_) (fun j Q => ?_)
 ·refine ug j (kA g9 (kI d.has Mh (kC e4) rfl bG aI)) (ug j (kA g8 (kI d.has (Mt Mh) (kC a) rfl bG aI)) (ug j (tT rfl rfl (mY hZ) (pK (BI _ e4 a))) (V (kR (cB j) rfl) ?_)))
  obtain rfl := sj Q
  exact P _ _ ⟨_, (d.kz (Db (Db St))), rfl⟩
 refine un j (un j (un j (V (kQ (cB j) rfl) ?_)))
 obtain rfl := sj Q
 exact P _ _ ⟨_, (d.kz (Db (Db St))), rfl⟩
theorem GF (j : Value) (t : List ky) (c : ky) (r : Int) (w : World) (g : Sl (Pl kC) 9 (hp w) j t) (hm : yt t c = some r) :
  la true pg0 248 [j, (.agg (kC c).toArray)] w (.int .i64 r) := by
 refine cG 19 func248 rfl (fun d => sg (VE (lB d rfl (fun Q J d => Wa (lS (Wm (V (ly aX rfl g) (Wm (ln ?_)))))))))
 refine lp (fun i E W => ∃ k, (E 8 = .int .i64 (i : Nat) ∧ E 7 = .int .i64 (t.length : Nat)) ∧ ST true ll w W (hp w) ((J, Ol (kC c) 108) :: k) ∧ E 0 = j ∧ E 3 = (.pointer (some ⟨J, 0, none⟩)) ∧ qS c (t.drop i) i = some r) t.length g.len ⟨_, ⟨rfl, rfl⟩, (d.kz St), rfl, rfl, hm⟩ dc dc dc (fun _ _ _ h => by obtain ⟨_, o, _⟩ := h; exact o) ?_ ?_
 ·rintro K E W B ⟨k, ⟨n, s⟩, d, u, x, a⟩
  obtain ⟨y, M, H, G, I⟩ := lc B
  rw [H] at a
  refine bg (Wh n (Wa (ln (kO ?_))))
  replace d := d.drew
  have m := d.has.kz (Kb Sn)
  refine lG m lq (XH 0 rfl m (fun _ q => kA x (kI q Mh (kC c) rfl bG aI)) (X 1 rfl m (kH u) (X 2 rfl m (kH rfl) (XQ 3 rfl m (lO (enc := kC) (i := (K : Int)) (x0 := y) aX aI rfl rfl g (aD _) G) (fun N D => XH 4 rfl m (fun _ q => kA rfl (lD q D bG aI)) (X 5 rfl m (tT rfl rfl (mY hZ) (pK (BI _ c y))) (lT kr (kF (CI a rfl (fun z a => ?_) (fun z a => ?_))))))))))
  ·refine sg (Wm (Wa (ln ?_)))
   replace d := d.kz (Db St)
   refine lj (me (lb (me (lb ?_))))
   obtain rfl := sj a
   exact rP d
  exact lz (lu (kF ⟨n, _, ⟨rfl, s⟩, (d.kz St), u, x, (by rw [I]; exact a)⟩))
 rintro E W ⟨k, ⟨n, s⟩, d, u, x, a⟩
 rw [aG] at a
 refine kF ?_
 replace d := d.kz (Db St)
 exact sg (Wa (lt (rQ a d)))
theorem ED (a : Value) (g : List ky) (c : ky) (r : Bool) (w : World) (i : Sl (Pl kC) 9 (hp w) a g) (hm : xc g c = some r) :
  la true pg0 201 [a, (.agg (kC c).toArray)] w (.bool r) := by
 refine cG 9 func201 rfl (fun d => sg (VE (lB d rfl (fun k u d => Wa (lr (Wm (VA d Mh (kC c) bG aI (bS hm fun x j hm => VE (Eg d call248 (GF a g c _ _ (i.mono (Pl.mono _) d.kJ) j) (fun t d => Wi rfl (Wa ?_)))))))))))
 refine ln ?_
 exact lj (rQ hm d)
theorem Jn (a : Value) (g : List ky) (c : ky) (r : Bool) (w : World) (i : Sl (Pl kC) 9 (hp w) a g) (hm : zz g c = some r) :
  la true pg0 151 [a, (.agg (kC c).toArray)] w (.bool r) := by
 refine cG 8 func151 rfl (fun d => sg (VE (lB d rfl (fun k u d => Wa (lr (Wm (VA d Mh (kC c) bG aI (bS hm fun x j hm => VE (Eg d call201 (ED a g c _ _ (i.mono (Pl.mono _) d.kJ) j) (fun t d => Wa (lh ?_)))))))))))
 refine kF ?_
 exact lj (rQ hm d)
theorem On (a : ky) (r : List kw) (w : World) (hm : A0 a = some r) :
  lK true pg0 52 [(.agg (kC a).toArray)] w 28 kx 2 r := by
 refine sP 27 func52 rfl (fun d => sg (VE (lB d rfl (fun W2 m d => Wa (lS (VA d Mh (kC a) bG aI (bS hm fun r3 q hm => VE (Eg d kc (uq a _ _  q) (fun W5 d => V (mQ rfl) (lh ?_))))))))))
 refine kF (CI hm rfl (fun o hm => ?_) (fun o hm => ?_))
 ·refine sg (Wa (ln ?_))
  replace d := d.kz (Db St)
  refine lj (lb ?_)
  obtain rfl := sj hm
  exact lI (v := (.slice none 0 0)) rfl rfl ⟨_, [], rfl, d.mO (fun p h => by cases h) (by simp), kU.nil _ _ _⟩
 refine kg (Wf oe (VA d Mh (kx a.Head) aN aC (VE (lg (cs := (kx a.Head).toArray) d (mI rfl) (mD aF aC bP) (fun W8 y d => Wa (ln (kO (CJ hm (fun I E W => ∃ j i z, ST true ll w W (hp w) ((m, Ol (kC a) 108) :: (i ++ z)) ∧ E 1 = (.pointer (some ⟨m, 0, none⟩)) ∧ E 3 = j ∧ kU 28 kx 2 j I i) (fun I g => ?_) ?_))))))))
 ·refine sg (Wf nZ (VB d (Mt Mh) rfl rfl cC (Wi rfl (ln (CI g rfl (fun Q g => ?_) (fun Q g => ?_))))))
  ·refine kL (Wm (Wf mT (VA d (Mt Mh) (kx a.B) aN aC (VE (lg (cs := (kx a.B).toArray) d (mI rfl) (mD aF aC bP) (fun O a4 d => ?_))))))
   replace d := d.perm (Nb (Pb Pz) Nz)
   refine bS g fun c0 T g => VE (my (enc := kx) (v := (.slice (some ⟨y, 0, none⟩) 1 1)) (vs := (.slice (some ⟨a4, 0, none⟩) 1 1)) (R := [(y, Ol (kx a.Head) 28)]) d mr dc mE aF mq.1 mq.2.1 rfl mq.2.2.1 mq.2.2.2 rfl rfl (kU.lit (l := [a.Head]) (enc := kx) rfl dc rfl rfl) (Sl.lit (enc := kx) (l := [a.B]) mr rfl nb rfl (d.at_ (Mt Mh))) T (fun P a9 n d K => Wa (ln ?_)))
   obtain rfl := sj g
   exact ⟨a9, n, _, (d.kz (Sb (Pr (Pb Pz)) (Kr (Db St)))), rfl, rfl, K⟩
  refine kn ?_
  obtain rfl := sj g
  replace d := d.Ht
  exact ⟨(.slice (some ⟨y, 0, none⟩) 1 1), [(y, Ol (kx a.Head) 28)], _, (d.kz (Sb (Pr Pz) St)), rfl, rfl, (kU.lit (l := [a.Head]) (enc := kx) rfl dc rfl rfl)⟩
 rintro b5 E W ⟨j, i, z, d, D, G, u⟩ U
 refine kO (CJ U (fun H E W => ∃ t k B, ST true ll w W (hp w) (k ++ B) ∧ E 3 = t ∧ kU 28 kx 2 t H k) (fun H c => ?_) ?_)
 ·refine sg (V (kD nZ D) (VB d Mh rfl rfl cC (Wi rfl (ln (CI c rfl (fun M c => ?_) (fun M c => ?_))))))
  ·refine kL (Wh G (V (kD pL D) (VA d Mh (kx a.C) aN aC (VE (lg (cs := (kx a.C).toArray) d (mI rfl) (mD aF aC bP) (fun A a3 d => ?_))))))
   replace d := d.perm (Nr (Qb (Qb Qz)) Nz)
   refine bS c fun b9 N c => VE (my (enc := kx) (v := j) (vs := (.slice (some ⟨a3, 0, none⟩) 1 1)) (R := i) d mr dc mE aF mq.1 mq.2.1 rfl mq.2.2.1 mq.2.2.2 rfl rfl u (Sl.lit (enc := kx) (l := [a.C]) mr rfl nb rfl (d.at_ (Ma Mh))) N (fun L s Z d J => Wa (ln ?_)))
   obtain rfl := sj c
   exact ⟨s, Z, _, (d.kz (Kr (Db (Db St)))), rfl, J⟩
  refine kn ?_
  obtain rfl := sj c
  exact ⟨j, i, _, (d.kz (Db St)), G, u⟩
 rintro b6 E W ⟨t, k, B, d, a5, x⟩ Y
 refine sg (Wh a5 (Wa (lt ?_)))
 obtain rfl := sj Y
 exact lI (v := t) rfl rfl ⟨_, k, rfl, d.mO (fun p h => (Ml h)) x.nd, x⟩
theorem Gg (M : Nat) (u : Value) (a9 : List (kw × (List (ByteArray × Bool)))) (G : LO) (D : Value) (a0 : List ky) (B : LO) (a : Value) (Y : List (kw × (List ky))) (I : LO) (c : Value) (K : List (ByteArray × (List ky))) (t : LO) (j : Value) (a4 : List kB) (y : LO) (J : Int) (H : ky) (r : ((List ky) × (List (kw × (List ky))) × (List (ByteArray × (List ky))))) (w : World) {μ0 : lm} (h0 : pP μ0 ((M, Ob #[u, D, a, c, j, (.int .i64 J)] 174) :: (G ++ (B ++ (I ++ (t ++ (y ++ [])))))) w) (e9 : mR (fun (x : kw) => (.agg (kx x).toArray)) (mu Value.string (fun (x : Bool) => (Value.bool x))) u a9 G) (a6 : kU 108 kC 9 D a0 B) (b2 : mR (fun (x : kw) => (.agg (kx x).toArray)) (kU 108 kC 9) a Y I) (T : mR Value.string (kU 108 kC 9) c K t) (e1 : qL 38 kK 3 j a4 y) (hm : vt a9 a0 Y K a4 J H = some r) :
  mh true pg0 171 [(.pointer (some ⟨M, 0, none⟩)), (.agg (kC H).toArray)] w ((M, Ob #[u, D, a, c, j, (.int .i64 J)] 174) :: (G ++ (B ++ (I ++ (t ++ (y ++ [])))))) (fun v L1 W' => ∃ y1 S2 S4 S6, v = (.tuple #[]) ∧ L1 = ((M, Ob #[u, y1, a, c, j, (.int .i64 J)] 174) :: (G ++ (S2 ++ (S4 ++ (S6 ++ (y ++ [])))))) ∧ kU 108 kC 9 y1 r.1 S2 ∧ mR (fun (x : kw) => (.agg (kx x).toArray)) (kU 108 kC 9) a r.2.1 S4 ∧ mR Value.string (kU 108 kC 9) c r.2.2 S6) := by
 refine zN h0 55 func171 rfl (fun d => sg (VE (lB d rfl (fun W2 b1 d => ln (kO ?_)))))
 replace d := d.drew
 have m := d.has.kz (Kb Sn)
 have n := d.has.kz (Db (Kb Sn))
 refine B2 10 m n lq (nR 0 rfl kr (.inl rfl) rfl dc (fun _ _ h => ⟨h.1, qY br h.2⟩) ⟨m, fun _ => n⟩ (fun _ _ _ _ => kH rfl) (nR 1 rfl kr (.inl rfl) rfl dc (fun _ _ h => ⟨h.1, qY br h.2⟩) ⟨m, fun _ => n⟩ (fun _ _ _ _ => kH rfl) (nR 2 rfl kr (.inl rfl) rfl dc (fun _ _ h => ⟨h.1, qY br h.2⟩) ⟨m, fun _ => n⟩ (fun _ _ _ _ => nv rfl) (nR 3 rfl kr (.inl rfl) rfl dc (fun _ _ h => ⟨h.1, qY br h.2⟩) ⟨m, fun _ => n⟩ (fun _ _ _ _ => kD KC rfl) (nR 4 rfl kr (.inl rfl) rfl dc (fun _ _ h => ⟨h.1, qY br h.2⟩) ⟨m, fun _ => n⟩ (fun l W s A => have q := (A.2 (s.Ss 10 [4] kr rfl)); kA rfl (kM q Mh rfl iC)) (nR 5 rfl kr (.inl rfl) rfl dc (fun _ _ h => ⟨h.1, qY br h.2⟩) ⟨m, fun _ => n⟩ (fun l W s A => have q := A.1; kA rfl (kI q Mh (kC H) rfl bG aI)) (XE 6 rfl (lg (cs := (kC H).toArray) d (mI rfl) (mD aX aI cg) (fun k0 g0 d => ?_)))))))))
 have m := d.has.kz (Db (Kb Sn))
 have n := d.has.kz (Db (Db (Kb Sn)))
 refine ⟨⟨m, fun _ => n⟩, ?_⟩
 replace d := d.perm (Nr (Qb (Qb (Qb (Qr Qz)))) Nz)
 refine bS hm fun a5 f0 hm => XE 7 rfl (my (enc := kC) (v := D) (vs := (.slice (some ⟨g0, 0, none⟩) 1 1)) (R := B) d mW dc nI aX pY.1 pY.2.1 rfl pY.2.2.1 pY.2.2.2 rfl rfl a6 (Sl.lit (enc := kC) (l := [H]) mW rfl nb rfl (d.at_ (Ma Mh))) f0 (fun k1 k4 b7 d b5 => ?_))
 have m := d.has.kz (Dr (Db (Kb Sn)))
 have n := d.has.kz (Dr (Db (Db (Kb Sn))))
 refine ⟨⟨m, fun _ => n⟩, (nR 8 rfl kr (.inl rfl) rfl dc (fun _ _ h => ⟨h.1, qY br h.2⟩) ⟨m, fun _ => n⟩ (fun _ _ _ _ => nv rfl) (nR 9 rfl kr (.inl rfl) rfl dc (fun _ _ h => ⟨h.1, qY br h.2⟩) ⟨m, fun _ => n⟩ (fun _ _ _ _ => kD KC rfl) ?_))⟩
 obtain ⟨a8, b0, rfl⟩ := b5.form
 let L : Value := (.slice a8 a5.length b0)
 replace d := d.perm (Nb (Pr (Pb (Pb Pz))) Nz)
 refine XO 10 rfl (lf L (#[u, L, a, c, j, (.int .i64 J)]) d rfl rfl sizeOf22 oc nb rfl (fun k2 d => ?_))
 have m := d.has.kz (Db (Dr (Db (Kb Sn))))
 refine ⟨⟨m, fun h => Pu kr h⟩, (lT kr (kF ?_))⟩
 replace d := d.kz (Kb (Kr (Db St)))
 refine kO (sg (VA d (Mt (Ma Mh)) (kC H) bG aI (bS hm fun c1 f1 hm => VE (pF d call52 (On H _ _  f1) (fun k3 k5 k6 j9 d g4 ab e8 => ?_)))))
 let b8 := (c1.drop (Int.toNat 1))
 obtain ⟨g3, d, g7, ad, f2⟩ := ST.A4 d e8 mr
 refine bS hm fun _ b9 hm => VQ (BP (i := 1) aF aC rfl rfl f2 (qD b9) (qw b9)) (fun g1 b6 => V (ly aF rfl b6.1) (Wm (ln (lp (fun i E W => ∃ a3 U P, (E 20 = .int .i64 (i : Nat) ∧ E 19 = .int .i64 (b8.length : Nat)) ∧ ST true (keys ((M, Ob #[u, D, a, c, j, (.int .i64 J)] 174) :: (G ++ (B ++ (I ++ (t ++ (y ++ []))))))) w W g3 ((M, Ob #[u, L, a, c, j, (.int .i64 J)] 174) :: ((b1, Ol (kC H) 108) :: (U ++ (b7 ++ (G ++ (t ++ (y ++ P))))))) ∧ E 0 = (.pointer (some ⟨M, 0, none⟩)) ∧ E 3 = (.pointer (some ⟨b1, 0, none⟩)) ∧ E 18 = g1 ∧ mR (fun (x : kw) => (.agg (kx x).toArray)) (kU 108 kC 9) a a3 U ∧ po H K a5 (b8.drop i) a3 = some r) b8.length b6.1.len ⟨Y, I, _, ⟨rfl, rfl⟩, (d.kz (Kb (Sb (Pr Pz) (Sr (Qr (Qr Qz)) St)))), rfl, rfl, rfl, b2, hm⟩ dc dc dc (fun _ _ _ h => by obtain ⟨_, _, _, aa, _⟩ := h; exact aa) ?_ ?_))))
 ·rintro f3 E W d3 ⟨a3, U, P, ⟨eI, eN⟩, d, a2, N, b4, Z, g⟩
  obtain ⟨Q, h4, d8, d7, d9⟩ := lc d3
  rw [d8] at g
  refine bg (VQ (lO (enc := kx) (i := (f3 : Int)) (x0 := Q) aF aC b4 eI b6.1 (aD _) d7) (fun j4 d4 => V (kA rfl (lD d.has d4 aN aC)) (VE (lA d bP (fun i1 j0 d => VO (lf (.agg (kx Q).toArray) ((kx Q).toArray) d rfl rfl aC (mE Q) nb rfl (fun i2 d => ln ?_)))))))
  replace d := d.drew
  have m := d.has.kz (Kb (Kb (Kb Sn)))
  refine lG m lq (X 0 rfl m (kH a2) (X 1 rfl m (nv rfl) (X 2 rfl m (kD PR rfl) (XH 3 rfl m (fun _ q => kA rfl (kM q (Mt Mh) rfl isAgg171)) (XH 4 rfl m (fun _ q => kA rfl (kI q Mh (kx Q) rfl aN aC)) (XH 5 rfl m (fun _ q => kA N (kI q (Mt (Mt Mh)) (kC H) rfl bG aI)) (XE 6 rfl (lg (cs := (kC H).toArray) d (mI rfl) (mD aX aI cg) (fun i3 e6 d => ?_)))))))))
  have m := d.has.kz (Db (Kb (Kb (Kb Sn))))
  refine ⟨m, ?_⟩
  obtain ⟨h1, d1⟩ := Z
  replace d := d.perm (Nr (Qb (Qb (Qb (Qb Qz)))) Nz)
  refine XE 7 rfl (Qx (k := Q) (x0 := [])  kP Ci underlying171 kq (kU.nil _ _ _) d d1 rfl rfl (fun i4 f5 h3 h6 e2 d c3 c2 => ?_))
  have m := d.has.kz (Dr (Dr (Db (Kb (Kb (Kb Sn))))))
  refine ⟨m, (X 8 rfl m (B6 rfl rfl) (X 10 rfl m (B6 rfl rfl) ?_))⟩
  replace d := d.perm (Nr (Qr Qz) Nz)
  refine bS g fun c0 c8 g => XE 9 rfl (my (enc := kC) (v := f5) (vs := (.slice (some ⟨e6, 0, none⟩) 1 1)) (R := e2) d mW dc nI aX pY.1 pY.2.1 rfl pY.2.2.1 pY.2.2.2 rfl rfl c3 (Sl.lit (enc := kC) (l := [H]) mW rfl nb rfl (d.at_ (Ma (Ma Mh)))) c8 (fun i5 j5 h7 d c4 => ?_))
  have m := d.has.kz (Dr (Dr (Db (Kb (Kb (Kb Sn))))))
  refine ⟨m, ?_⟩
  replace d := d.perm (Nr (Qr Qz) Nz)
  refine XO 11 rfl (Of (e := 0) (z := c0)  kP Ci d c2 rfl rfl rfl c4 (fun i6 h2 e3 d c5 => ?_))
  have m := d.has.kz (Dr (Db (Kb (Kb (Kb Sn)))))
  refine ⟨m, (lT kr (lu (kF ?_)))⟩
  replace d := d.kz (Kr (Db (Db St)))
  exact ⟨eI, (oh kN a3 Q c0), e3, _, ⟨rfl, eN⟩, (d.kz (Sb (Pr Pz) (Sb (Pr Pz) St))), a2, N, b4, c5.e, (by rw [d9]; exact g)⟩
 rintro E W ⟨a3, U, P, ⟨eI, eN⟩, d, a2, N, b4, Z, g⟩
 rw [aG] at g
 refine kF (sg (V (kD nZ N) (VB d (Mt Mh) rfl rfl cC (Wi rfl (ln (CI g rfl (fun c9 g => ?_) (fun c9 g => ?_)))))))
 ·replace d := d.drew
  have m := d.has.kz (Kb (Kb Sn))
  have n := d.has.kz (Db (Db (Dr (Dr (Dr (Kr Sn))))))
  refine B2 15 m n lq (nR 0 rfl kr (.inl rfl) rfl dc (fun _ _ h => ⟨h.1, qY br h.2⟩) ⟨m, fun _ => n⟩ (fun _ _ _ _ => kH a2) (nR 1 rfl kr (.inl rfl) rfl dc (fun _ _ h => ⟨h.1, qY br h.2⟩) ⟨m, fun _ => n⟩ (fun _ _ _ _ => nv rfl) (nR 2 rfl kr (.inl rfl) rfl dc (fun _ _ h => ⟨h.1, qY br h.2⟩) ⟨m, fun _ => n⟩ (fun _ _ _ _ => kD Kt rfl) (nR 3 rfl kr (.inl rfl) rfl dc (fun _ _ h => ⟨h.1, qY br h.2⟩) ⟨m, fun _ => n⟩ (fun l W s A => have q := A.1; kA rfl (kM q Mh rfl isAgg172)) (nR 4 rfl kr (.inl rfl) rfl dc (fun _ _ h => ⟨h.1, qY br h.2⟩) ⟨m, fun _ => n⟩ (fun _ _ _ _ => kD rO N) (nR 5 rfl kr (.inl rfl) rfl dc (fun _ _ h => ⟨h.1, qY br h.2⟩) ⟨m, fun _ => n⟩ (fun l W s A => have q := A.1; kA rfl (kM q (Mt Mh) rfl aY)) (nR 6 rfl kr (.inl rfl) rfl dc (fun _ _ h => ⟨h.1, qY br h.2⟩) ⟨m, fun _ => n⟩ (fun _ _ _ _ => kH a2) (nR 7 rfl kr (.inl rfl) rfl dc (fun _ _ h => ⟨h.1, qY br h.2⟩) ⟨m, fun _ => n⟩ (fun _ _ _ _ => nv rfl) (nR 8 rfl kr (.inl rfl) rfl dc (fun _ _ h => ⟨h.1, qY br h.2⟩) ⟨m, fun _ => n⟩ (fun _ _ _ _ => kD Kt rfl) (nR 9 rfl kr (.inl rfl) rfl dc (fun _ _ h => ⟨h.1, qY br h.2⟩) ⟨m, fun _ => n⟩ (fun l W s A => have q := A.1; kA rfl (kM q Mh rfl isAgg172)) (nR 10 rfl kr (.inl rfl) rfl dc (fun _ _ h => ⟨h.1, qY br h.2⟩) ⟨m, fun _ => n⟩ (fun _ _ _ _ => kD rO N) (nR 11 rfl kr (.inl rfl) rfl dc (fun _ _ h => ⟨h.1, qY br h.2⟩) ⟨m, fun _ => n⟩ (fun l W s A => have q := A.1; kA rfl (kM q (Mt Mh) rfl aY)) ?_))))))))))))
  obtain ⟨e0, O⟩ := T
  obtain ⟨h8, g8, g9⟩ := ny.rowAt mM.1 O H.lU
  refine nR 12 rfl kr (.inl rfl) rfl dc (fun _ _ h => ⟨h.1, qY br h.2⟩) ⟨m, fun _ => n⟩ (fun l W s A => have q := (A.2 (s.Ss 15 [12] kr rfl)); pZ (k := H.lU) (z := (.slice none 0 0)) JH underlying172 kq rfl rfl O (fun b o hq => q.2 b o (Ml hq))) (nR 13 rfl kr (.inl rfl) rfl dc (fun _ _ h => ⟨h.1, qY br h.2⟩) ⟨m, fun _ => n⟩ (fun l W s A => have q := A.1; kA N (kI q (Mt Mh) (kC H) rfl bG aI)) (XE 14 rfl (lg (cs := (kC H).toArray) d (mI rfl) (mD aX aI cg) (fun i7 e7 d => ?_))))
  have m := d.has.kz (Db (Kb (Kb Sn)))
  have n := d.has.kz (Db (Db (Db (Dr (Dr (Dr (Kr Sn)))))))
  refine ⟨⟨m, fun _ => n⟩, ?_⟩
  replace d := d.perm (Nr (Qb (Qb (Qb (Qr (Qr (Qr Qz)))))) Nz)
  obtain ⟨h9, e4, d5, d6, d2⟩ := ny.open mM.1 (kU.nil _ _ _) O H.lU
  replace d := d.perm (Y6 d5)
  replace d := d.perm (Nr (Qr Qz) Nz)
  refine bS g fun f4 d0 g => XE 15 rfl (my (enc := kC) (v := (sU ma e0 H.lU (.slice none 0 0))) (vs := (.slice (some ⟨e7, 0, none⟩) 1 1)) (R := e4) d mW dc nI aX pY.1 pY.2.1 rfl pY.2.2.1 pY.2.2.2 rfl rfl d6 (Sl.lit (enc := kC) (l := [H]) mW rfl nb rfl (d.at_ (Ma (Ma Mh)))) d0 (fun i8 j6 i0 d c6 => ?_))
  have m := d.has.kz (Dr (Dr (Db (Kb (Kb Sn)))))
  refine ⟨⟨m, fun h => Pu kr h⟩, ?_⟩
  replace d := d.perm (Nr (Qr Qz) Nz)
  refine XO 16 rfl (V9 (k := H.lU) (z := f4)  JH underlying172 d d2 rfl rfl rfl c6 (fun i9 e5 d c7 => ?_))
  have m := d.has.kz (Dr (Db (Kb (Kb Sn))))
  refine ⟨⟨m, fun h => Pu kr h⟩, (lT kr (wU ?_))⟩
  obtain rfl := sj g
  exact vX rfl ⟨_, _, rfl, (d.mL (Sb (Pr (Pb Pz)) (Sr (Qr (Qb (Qb (Qr (Qr Qz))))) (Sr (Qr (Qb (Qb (Qr Qz)))) (Sr (Qr (Qb (Qb Qz))) (Kr (Db (Db (Kr Sn))))))))), L, b7, U, e5, rfl, rfl, b5, Z, c7.e⟩
 refine lz (wU ?_)
 obtain rfl := sj g
 exact vX rfl ⟨_, _, rfl, (d.mL (Kb (Db (Sr (Qr (Qr Qz)) (Sr (Qr Qz) (Kr (Kr (Kr Sn)))))))), L, b7, U, t, rfl, rfl, b5, Z, T⟩
theorem sr (J : Nat) (g : Value) (a0 : List (kw × (List (ByteArray × Bool)))) (D : LO) (a : Value) (M : List ky) (u : LO) (j : Value) (Z : List (kw × (List ky))) (B : LO) (c : Value) (N : List (ByteArray × (List ky))) (y : LO) (i : Value) (Y : List kB) (t : LO) (H : Int) (G : kw) (U : ByteArray) (r : ((List (kw × (List (ByteArray × Bool)))) × (List kB) × Int)) (w : World) {μ0 : lm} (h0 : pP μ0 ((J, Ob #[g, a, j, c, i, (.int .i64 H)] 174) :: (D ++ (u ++ (B ++ (y ++ (t ++ [])))))) w) (a5 : mR (fun (x : kw) => (.agg (kx x).toArray)) (mu Value.string (fun (x : Bool) => (Value.bool x))) g a0 D) (b5 : kU 108 kC 9 a M u) (c3 : mR (fun (x : kw) => (.agg (kx x).toArray)) (kU 108 kC 9) j Z B) (b6 : mR Value.string (kU 108 kC 9) c N y) (K : qL 38 kK 3 i Y t) (hm : oC a0 M Z N Y H G U = some r) :
  mh true pg0 209 [(.pointer (some ⟨J, 0, none⟩)), (.agg (kx G).toArray), (.string U)] w ((J, Ob #[g, a, j, c, i, (.int .i64 H)] 174) :: (D ++ (u ++ (B ++ (y ++ (t ++ [])))))) (fun v L1 W' => ∃ S1 y3 S4, v = (.tuple #[]) ∧ L1 = ((J, Ob #[g, a, j, c, y3, (.int .i64 (r.2.2))] 174) :: (S1 ++ (u ++ (B ++ (y ++ (S4 ++ [])))))) ∧ mR (fun (x : kw) => (.agg (kx x).toArray)) (mu Value.string (fun (x : Bool) => (Value.bool x))) g r.1 S1 ∧ qL 38 kK 3 y3 r.2.1 S4) := by
 let a1 := (#[g, a, j, c, i, (.int .i64 H)] : Array Value)
 refine zN h0 53 func209 rfl (fun m => sg (VE (lB m rfl (fun W2 b1 m => ln (kO (kO ?_))))))
 replace m := m.drew
 have d := m.has.kz (Kb (Kb (Kr Sn)))
 refine lG d lq (X 0 rfl d (kH rfl) (X 1 rfl d (nv rfl) (X 2 rfl d (kD zo rfl) (XH 3 rfl d (fun _ q => kA rfl (kM q (Mt Mh) rfl iK)) (XH 4 rfl d (fun _ q => kA rfl (kI q Mh (kx G) rfl aN aC)) ?_)))))
 obtain ⟨f4, Q⟩ := a5
 refine XH 5 rfl d (fun _ q => pZ (k := G) (z := (.map none)) Ci eB fp rfl rfl Q (fun b o L => q.2 b o (Mt (Mt (Ml L))))) (X 6 rfl d (kH rfl) (XH 7 rfl d (fun _ q => xB (k := U) (z := false) (vf := (fun (x : Bool) => (Value.bool x))) JH fz gy rfl rfl (ny.F3 (μ := hp _) kP.1 Q G (fun b o L => q.2 b o (Mt (Mt (Ml L)))))) (lT kr (kF (CI hm rfl (fun d5 hm => ?_) (fun d5 hm => ?_))))))
 ·refine lj (lb ?_)
  obtain rfl := sj hm
  exact vX rfl ⟨_, _, rfl, (m.mL (Db (Kb (Kr (Kr (Kr (Kr (Kr Sn)))))))), D, i, t, rfl, rfl, Q.e, K⟩
 refine kn (kO (CJ hm (fun b2 E W => ∃ a8 c0, ST true (keys ((J, Obj.cells a1 174 (0, 0)) :: (D ++ (u ++ (B ++ (y ++ (t ++ []))))))) w W μ0 ((b1, Ol (kx G) 28) :: ((J, Obj.cells a1 174 (0, 0)) :: (a8 ++ (u ++ (B ++ (y ++ (t ++ c0))))))) ∧ E 0 = (.pointer (some ⟨J, 0, none⟩)) ∧ E 2 = (.string U) ∧ E 4 = (.pointer (some ⟨b1, 0, none⟩)) ∧ mR (fun (x : kw) => (.agg (kx x).toArray)) (mu Value.string (fun (x : Bool) => (Value.bool x))) g b2 a8) (fun b2 I => ?_) ?_))
 ·refine kO ?_
  replace m := m.drew
  have d := m.has.kz (Kb (Kb (Kr Sn)))
  refine lG d lq (X 0 rfl d (kH rfl) (X 1 rfl d (nv rfl) (X 2 rfl d (kD zo rfl) (XH 3 rfl d (fun _ q => kA rfl (kM q (Mt Mh) rfl iK)) (XH 4 rfl d (fun _ q => kA rfl (kI q Mh (kx G) rfl aN aC)) (XH 5 rfl d (fun _ q => pZ (k := G) (z := (.map none)) Ci eB fp rfl rfl Q (fun b o L => q.2 b o (Mt (Mt (Ml L))))) (X 6 rfl d (OK kP.1 fz Q rfl rfl) (lT kr (kF (CI I rfl (fun b7 I => ?_) (fun b7 I => ?_)))))))))))
  ·replace m := m.drew
   have d := m.has.kz (Kb (Kb Sn))
   refine lG d lq (X 0 rfl d (kH rfl) (X 1 rfl d (nv rfl) (X 2 rfl d (kD zo rfl) (XH 3 rfl d (fun _ q => kA rfl (kM q (Mt Mh) rfl iK)) (XH 4 rfl d (fun _ q => kA rfl (kI q Mh (kx G) rfl aN aC)) (XE 5 rfl (D9 (P := pg0) Value.string (fun (x : Bool) => (Value.bool x)) m (fun e1 e7 d9 m b3 => ?_))))))))
   have d := m.has.kz (Dr (Kb (Kb Sn)))
   refine ⟨d, ?_⟩
   replace m := m.perm (Nr (Qr (Qb (Qb Qz))) Nz)
   refine bS I fun e4 b9 I => XO 6 rfl (SN (k := G) (z := ([]))  Ci eB m Q rfl rfl rfl b3 b9 (fun e2 c4 m b4 => ?_))
   have d := m.has.kz (Dr (Kb (Kb Sn)))
   refine ⟨d, (lT kr (kF ?_))⟩
   obtain rfl := sj I
   exact ⟨c4, _, (m.kz (Sb (Pr Pz) (Sb (Pr Pz) St))), rfl, rfl, rfl, b4.e⟩
  refine kn ?_
  obtain rfl := sj I
  exact ⟨D, _, (m.kz St), rfl, rfl, rfl, Q.e⟩
 rintro f2 E W ⟨a8, c0, m, O, c1, c2, c8⟩ T
 refine kO ?_
 replace m := m.drew
 have d := m.has.kz (Kb (Kb Sn))
 have n := m.has.kz (Db (Db (Kr Sn)))
 refine B2 7 d n lq (nR 0 rfl kr (.inl rfl) rfl dc (fun _ _ h => ⟨h.1, qY br h.2⟩) ⟨d, fun _ => n⟩ (fun _ _ _ _ => kH O) (nR 1 rfl kr (.inl rfl) rfl dc (fun _ _ h => ⟨h.1, qY br h.2⟩) ⟨d, fun _ => n⟩ (fun _ _ _ _ => nv rfl) (nR 2 rfl kr (.inl rfl) rfl dc (fun _ _ h => ⟨h.1, qY br h.2⟩) ⟨d, fun _ => n⟩ (fun _ _ _ _ => kD zo rfl) (nR 3 rfl kr (.inl rfl) rfl dc (fun _ _ h => ⟨h.1, qY br h.2⟩) ⟨d, fun _ => n⟩ (fun l W s A => have q := A.1; kA rfl (kM q (Mt Mh) rfl iK)) (nR 4 rfl kr (.inl rfl) rfl dc (fun _ _ h => ⟨h.1, qY br h.2⟩) ⟨d, fun _ => n⟩ (fun l W s A => have q := A.1; kA c2 (kI q Mh (kx G) rfl aN aC)) ?_)))))
 obtain ⟨e5, a9⟩ := c8
 refine nR 5 rfl kr (.inl rfl) rfl dc (fun _ _ h => ⟨h.1, qY br h.2⟩) ⟨d, fun _ => n⟩ (fun l W s A => have q := (A.2 (s.Ss 7 [5] kr rfl)); pZ (k := G) (z := (.map none)) Ci eB fp rfl rfl a9 (fun b o L => q.2 b o (Ml L))) (nR 6 rfl kr (.inl rfl) rfl dc (fun _ _ h => ⟨h.1, qY br h.2⟩) ⟨d, fun _ => n⟩ (fun _ _ _ _ => kH c1) ?_)
 replace m := m.perm (Nr (Qb (Qb Qz)) Nz)
 refine bS T fun f3 c7 T => XO 7 rfl (Rf (k := G) (v := true) (vf := (fun (x : Bool) => (Value.bool x)))  kP.1 JH fz m a9 rfl rfl rfl c7 (fun e8 c9 m c5 => ?_))
 have d := m.has.kz (Dr (Kb (Kb Sn)))
 refine ⟨⟨d, fun h => Pu kr h⟩, (lT kr (kF (sg (Wh O (Wn (Wf HN (VB m (Ma (Mt Mh)) rfl rfl cC (Wi rfl (Wn (Wf HN ?_))))))))))⟩
 replace m := m.perm (Nb (Pr (Pb Pz)) Nz)
 refine VO (lf (.int .i64 (wi0 .i64 (H + 1))) (#[g, a, j, c, i, (.int .i64 (wi0 .i64 (H + 1)))]) m rfl rfl gi (I4 _ (wi0 .i64 (H + 1))) nb rfl (fun e9 m => ln ?_))
 replace m := m.drew
 have d := m.has.kz (Db (Dr (Kb Sn)))
 have n := m.has.kz (Kb Sn)
 refine B2 12 d n lq (nR 0 rfl kr (.inl rfl) rfl dc (fun _ _ h => ⟨h.1, qY br h.2⟩) ⟨d, fun _ => n⟩ (fun _ _ _ _ => kH O) (nR 1 rfl kr (.inl rfl) rfl dc (fun _ _ h => ⟨h.1, qY br h.2⟩) ⟨d, fun _ => n⟩ (fun _ _ _ _ => kH O) (nR 2 rfl kr (.inl rfl) rfl dc (fun _ _ h => ⟨h.1, qY br h.2⟩) ⟨d, fun _ => n⟩ (fun _ _ _ _ => nv rfl) (nR 3 rfl kr (.inl rfl) rfl dc (fun _ _ h => ⟨h.1, qY br h.2⟩) ⟨d, fun _ => n⟩ (fun _ _ _ _ => kD Dg rfl) (nR 4 rfl kr (.inl rfl) rfl dc (fun _ _ h => ⟨h.1, qY br h.2⟩) ⟨d, fun _ => n⟩ (fun l W s A => have q := (A.2 (s.Ss 12 [4] kr rfl)); kA rfl (kM q Mh rfl isAgg120)) (nR 5 rfl kr (.inl rfl) rfl dc (fun _ _ h => ⟨h.1, qY br h.2⟩) ⟨d, fun _ => n⟩ (fun l W s A => have q := A.1; kA c2 (kI q Mh (kx G) rfl aN aC)) (nR 6 rfl kr (.inl rfl) rfl dc (fun _ _ h => ⟨h.1, qY br h.2⟩) ⟨d, fun _ => n⟩ (fun _ _ _ _ => kH c1) (nR 7 rfl kr (.inl rfl) rfl dc (fun _ _ h => ⟨h.1, qY br h.2⟩) ⟨d, fun _ => n⟩ (fun _ _ _ _ => nc (v := (.agg (kK (⟨G, U⟩ : kB)).toArray)) (pC rfl rfl) (mB cN cq (Dj _ cq) kr)) (XE 8 rfl (lg (cs := (kK (⟨G, U⟩ : kB)).toArray) m (mI rfl) (mD bJ bO cN) (fun f0 d4 m => ?_)))))))))))
 have d := m.has.kz (Db (Db (Dr (Kb Sn))))
 have n := m.has.kz (Db (Kb Sn))
 refine ⟨⟨d, fun _ => n⟩, ?_⟩
 replace m := m.perm (Nr (Qb (Qb (Qr (Qb (Qr (Qr (Qr Qz))))))) Nz)
 refine bS T fun b0 c6 T => XE 9 rfl (OQ (enc := kK) (v := i) (vs := (.slice (some ⟨d4, 0, none⟩) 1 1)) (R := t) m nf dc uw bJ oJ.1 oJ.2.1 rfl oJ.2.2.1 oJ.2.2.2 rfl rfl K (Sl.lit (enc := kK) (l := [(⟨G, U⟩ : kB)]) nf rfl nb rfl (m.at_ (Ma Mh))) c6 (fun f1 e6 d0 m a7 => ?_))
 have d := m.has.kz (Dr (Db (Db (Dr (Kb Sn)))))
 have n := m.has.kz (Dr (Db (Kb Sn)))
 refine ⟨⟨d, fun _ => n⟩, (nR 10 rfl kr (.inl rfl) rfl dc (fun _ _ h => ⟨h.1, qY br h.2⟩) ⟨d, fun _ => n⟩ (fun _ _ _ _ => nv rfl) (nR 11 rfl kr (.inl rfl) rfl dc (fun _ _ h => ⟨h.1, qY br h.2⟩) ⟨d, fun _ => n⟩ (fun _ _ _ _ => kD Dg rfl) ?_))⟩
 obtain ⟨a3, a4, rfl⟩ := a7.form
 let a2 : Value := (.slice a3 b0.length a4)
 replace m := m.perm (Nb (Pr (Pb Pz)) Nz)
 refine XO 12 rfl (lf a2 (#[g, a, j, c, a2, (.int .i64 (wi0 .i64 (H + 1)))]) m rfl rfl sizeOf120 oc nb rfl (fun e0 m => ?_))
 have d := m.has.kz (Db (Dr (Db (Dr (Kb Sn)))))
 refine ⟨⟨d, fun h => Pu kr h⟩, (lT kr (wU ?_))⟩
 obtain rfl := sj T
 exact vX rfl ⟨_, _, rfl, (m.mL (Kb (Sr (Qr (Qb Qz)) (Sr (Qr (Qb (Qb Qz))) (Sr (Qr (Qb (Qb Qz))) (Sr (Qr (Qb (Qb Qz))) (Kr Sn))))))), c9, a2, d0, rfl, rfl, c5.e, a7⟩
theorem xZ (a : Value) (g : List (ByteArray × Bool)) (r : Unit) (w : World) (c : xk Value.string (fun (x : Bool) => (Value.bool x)) (hp w) a g) (hm : pE g = some r) :
  mh true pg0 120 [a] w [] (fun v k W' => ∃ i, v = (.func (.func 183) #[] #[(.pointer (some ⟨i, 0, none⟩))]) ∧ k = ((i, Ob #[a] 175) :: [])) := by
 refine sP 4 func120 rfl (fun d => sg ?_)
 obtain ⟨t, rfl⟩ := c.form
 refine VE (lB d rfl (fun u j d => Wa (lr (V (vz (by exact pH rfl) rfl) (Wa (lt ?_))))))
 obtain rfl := sj hm
 exact lI (v := (.func (.func 183) #[] #[(.pointer (some ⟨j, 0, none⟩))])) rfl rfl ⟨_, _, rfl, (d.NA (Kb Sn)), j, rfl, rfl⟩
theorem Kl {β : Type} {vf : β → Value} {l : List (ByteArray × β)} {b : Nat} {a : Value} {W : World} {r : List ByteArray} (c : W.heap[b]? = some (.cells #[a] 175 (0, 0))) (hm : xk Value.string vf (hp W) a l) (hk : Jf l = some r) : lK false pg0 119 [.func (.func 183) #[] #[.pointer (some ⟨b, 0, none⟩)]] W 9 ni 1 r := Ov (P := pg0) UX VJ SK rfl bQ call183 call182 c hm hk
theorem AG (T : Nat) (a : Value) (u : List (kw × (List (ByteArray × Bool)))) (c : Value) (t : List ky) (j : Value) (G : List (kw × (List ky))) (g : Value) (B : List (ByteArray × (List ky))) (i : Value) (D : List kB) (Q : Int) (H : kw) (r : List ByteArray) (w : World) (J : uj (fun (x : kw) => (.agg (kx x).toArray)) (mu Value.string (fun (x : Bool) => (Value.bool x))) (hp w) a u) (Z : Sl (Pl kC) 9 (hp w) c t) (a4 : uj (fun (x : kw) => (.agg (kx x).toArray)) (kU 108 kC 9) (hp w) j G) (a0 : uj Value.string (kU 108 kC 9) (hp w) g B) (a3 : Sl (Pl kK) 3 (hp w) i D) (Y : At (hp w) (.pointer (some ⟨T, 0, none⟩)) [a, c, j, g, i, (.int .i64 Q)]) (hm : rT u t G B D Q H = some r) :
  lK false pg0 53 [(.pointer (some ⟨T, 0, none⟩)), (.agg (kx H).toArray)] w 9 ni 1 r := by
 refine sP 15 func53 rfl (fun d => sg (VE (lB d rfl (fun W2 b1 d => Wa (lS (Wm (V (ua underlying101 rfl rfl) (ln (qo rfl ?_)))))))))
 refine kn (kO ?_)
 replace d := d.drew
 have h := d.has.kz (Kb Sn)
 refine lG h lq (X 0 rfl h (kH rfl) (X 1 rfl h (nv rfl) (XQ 2 rfl h (zb [a] zo rfl Y rfl) (fun b9 L => XH 3 rfl h (fun _ m => kA rfl (ng m (y := a) L iK)) (XH 4 rfl h (fun _ m => kA rfl (kI m Mh (kx H) rfl aN aC)) ?_)))))
 obtain ⟨a9, b4, K, M⟩ := J
 refine XH 5 rfl h (fun _ m => pZ (k := H) (z := (.map none)) Ci eB fp rfl rfl K (fun b o n => m.1 b o (M b o n))) (bS hm fun c0 O hm => ?_)
 refine XE 6 rfl (Jy d (dp _) call120 (fun _ _ _ _ => mh.mn (xZ (sU kN a9 H (.map none)) ((mi kN u H).getD []) _ _ ((ny.F3 kP.1 K H M).mono d.kJ) O)) (fun b5 c2 c3 b3 d I s q a5 => ?_) (L0 := []))
 obtain ⟨b7, N, rfl⟩ := a5
 replace N := N.symm; subst N
 replace d := d.perm (Tb Tn)
 have h := d.has.rl I (Db (Kb Sn))
 refine ⟨h, (bS hm fun c1 P hm => XE 7 rfl (pF d call119 (Kl (vf := (fun (x : Bool) => (Value.bool x))) (d.has.2 _ _ Mh) ((ny.F3 kP.1 K H M).mono (fun b o n => d.has.1 b o (I b o n))) P) (fun b6 W c4 R d a2 A U => ?_)))⟩
 have h := d.has.rl (I.trans a2) (Dr (Db (Kb Sn)))
 refine ⟨h, (X 8 rfl h (mN rfl) (lT kr (kF ?_)))⟩
 replace d := d.kz (Kr (Db (Db St)))
 refine lj ?_
 obtain rfl := sj hm
 exact lI (v := W) rfl rfl ⟨_, R, rfl, d.mO (fun p n => (Ml n)) U.nd, U⟩
theorem GA (K : Nat) (g : Value) (N : List (kw × (List (ByteArray × Bool)))) (G : LO) (a : Value) (H : List ky) (k : LO) (j : Value) (J : List (kw × (List ky))) (u : LO) (c : Value) (I : List (ByteArray × (List ky))) (t : LO) (z : Value) (M : List kB) (B : LO) (Z : Int) (L a2 : kw) (r : ((List (kw × (List (ByteArray × Bool)))) × (List kB) × Int)) (w : World) {μ0 : lm} (h0 : pP μ0 ((K, Ob #[g, a, j, c, z, (.int .i64 Z)] 174) :: (G ++ (k ++ (u ++ (t ++ (B ++ [])))))) w) (a5 : mR (fun (x : kw) => (.agg (kx x).toArray)) (mu Value.string (fun (x : Bool) => (Value.bool x))) g N G) (Q : kU 108 kC 9 a H k) (a4 : mR (fun (x : kw) => (.agg (kx x).toArray)) (kU 108 kC 9) j J u) (T : mR Value.string (kU 108 kC 9) c I t) (a3 : qL 38 kK 3 z M B) (hm : we N H J I M Z L a2 = some r) :
  mh false pg0 252 [(.pointer (some ⟨K, 0, none⟩)), (.agg (kx L).toArray), (.agg (kx a2).toArray)] w ((K, Ob #[g, a, j, c, z, (.int .i64 Z)] 174) :: (G ++ (k ++ (u ++ (t ++ (B ++ [])))))) (fun v L1 W' => ∃ S1 y3 S4, v = (.tuple #[]) ∧ L1 = ((K, Ob #[g, a, j, c, y3, (.int .i64 (r.2.2))] 174) :: (S1 ++ (k ++ (u ++ (t ++ (S4 ++ [])))))) ∧ mR (fun (x : kw) => (.agg (kx x).toArray)) (mu Value.string (fun (x : Bool) => (Value.bool x))) g r.1 S1 ∧ qL 38 kK 3 y3 r.2.1 S4) := by
 refine zN h0 21 func252 rfl (fun d => sg (VE (lB d rfl (fun W2 b1 d => VE (lB d rfl (fun W4 b3 d => lr (Wm (VA d (Mt Mh) (kx L) aN aC (bS hm fun r5 e6 hm => VE (pF d call53 (AG K g N a H j J c I z M Z L _ _ (a5.at (fun b o m => d.at_ (Mt (Mt (Mt (Ml m)))))) (Q.sl mW (fun b o m => d.at_ (Mt (Mt (Mt (Ma (Ml m))))))) (a4.at (fun b o m => d.at_ (Mt (Mt (Mt (Ma (Ma (Ml m)))))))) (T.at (fun b o m => d.at_ (Mt (Mt (Mt (Ma (Ma (Ma (Ml m))))))))) ((a3.Hd nf).mono (Pl.mono _) (xF (fun b o m => d.at_ (Mt (Mt (Mt (Ma (Ma (Ma (Ma (Ml m))))))))))) (At.of (d.at_ (Mt (Mt Mh))) _ rfl) e6) (fun W7 e7 A e2 d f5 ae a9 => V (mP bE rfl a9) (Wm ?_))))))))))))
 refine ln ?_
 replace d := d.kz (Kr (Kb (Db St)))
 refine vB (lp (fun i E W => ∃ n U a0 q Y s O b7, (E 12 = .int .i64 (i : Nat) ∧ E 11 = .int .i64 (r5.length : Nat)) ∧ kY A O ∧ ST false (keys ((K, Ob #[g, a, j, c, z, (.int .i64 Z)] 174) :: (G ++ (k ++ (u ++ (t ++ (B ++ []))))))) w W O ((K, Ob #[g, a, j, c, a0, (.int .i64 s)] 174) :: ((b3, Ol (kx a2) 28) :: (U ++ (k ++ (u ++ (t ++ (Y ++ (e2 ++ b7)))))))) ∧ E 0 = (.pointer (some ⟨K, 0, none⟩)) ∧ E 5 = (.pointer (some ⟨b3, 0, none⟩)) ∧ E 10 = e7 ∧ mR (fun (x : kw) => (.agg (kx x).toArray)) (mu Value.string (fun (x : Bool) => (Value.bool x))) g n U ∧ qL 38 kK 3 a0 q Y ∧ qW H J I a2 (r5.drop i) n q s = some r) r5.length a9.len ⟨N, G, z, M, B, Z, A, _, ⟨rfl, rfl⟩, (kY.refl _), (d.kz (Sb (Pr (Pb Pz)) (Sb (Pr Pz) (Sr (Qr Qz) (Sr (Qr Qz) (Sr (Qr Qz) (Sr (Qr Qz) (Sr (Qr Qz) St)))))))), rfl, rfl, rfl, a5, a3, hm⟩ dc dc dc (fun _ _ _ h => by obtain ⟨_, _, _, _, _, _, _, _, aa, _⟩ := h; exact aa) ?_ ?_)
 ·rintro d8 E W c9 ⟨n, U, a0, q, Y, s, O, b7, ⟨eI, eN⟩, b6, d, c0, c1, c2, P, R, D⟩
  obtain ⟨c4, f0, d2, c5, d3⟩ := lc c9
  rw [d2] at D
  refine bg (VQ (mC (i := (d8 : Int)) (x0 := c4) bE dh c2 eI a9 (aD _) c5) (fun f6 d0 => V (kA rfl (uR d.has (fun p m => (Mt (Mt (Ma (Ma (Ma (Ma (Ma (Ml m))))))))) a9 (fun _ => rfl) d0 c5 (y := (.string c4)) rfl aY)) (Wa (ln (kL (Wh c0 (V (kA c1 (kI d.has (Mt Mh) (kx a2) rfl aN aC)) (Wm (bS D fun c3 d1 D => ?_)))))))))
  refine VE (eM d (Cb Pz (Cr (Qb Qz) (Cr (Qb Qz) (Cr (Qb Qz) (Cr (Qb Qz) (Cr (Qb Qz) Cn)))))) call209 (fun hh _ => mh.mn (sr K g n U a H k j J u c I t a0 q Y s a2 c4 _ _ hh P Q a4 T R d1)) ?_)
  rintro _ f7 e1 f2 d c7 ab ad ⟨d6, e0, d7, b4, rfl, d4, d5⟩
  obtain rfl := b4.symm
  replace d := d.perm (Tb (Tr (Tr (Tr (Tr (Tr Tn))))))
  exact lh (lu (kF ⟨eI, c3.1, d6, e0, c3.2.1, d7, c3.2.2, e1, _, ⟨rfl, eN⟩, (b6.trans c7), (d.kz (Kb (Sb (Pr (Pr (Pr (Pr (Pr Pz))))) St))), c0, c1, c2, d4, d5, (by rw [d3]; exact D)⟩))
 rintro E W ⟨n, U, a0, q, Y, s, O, b7, ⟨eI, eN⟩, b6, d, c0, c1, c2, P, R, D⟩
 rw [aG] at D
 refine kF ?_
 replace d := d.kz (Kb (Db (Kr (Kr (Kr (Kr (Kr (Dr St))))))))
 refine wU ?_
 obtain rfl := sj D
 exact vX rfl ⟨_, _, rfl, (d.mL (Kb (Kr (Kr (Kr (Kr (Kr Sn))))))), U, a0, Y, rfl, rfl, P, R⟩
theorem Bu (K : Nat) (G : Value) (Z : List (kw × (List (ByteArray × Bool)))) (D : LO) (g : Value) (I : List ky) (a : LO) (B : Value) (N : List (kw × (List ky))) (y : LO) (i : Value) (J : List (ByteArray × (List ky))) (c : LO) (t : Value) (M : List kB) (j : LO) (a0 : Int) (Q : ky) (a2 : kB) (r : ((List (kw × (List (ByteArray × Bool)))) × (List kB) × Int)) (w : World) {μ0 : lm} (h0 : pP μ0 ((K, Ob #[G, g, B, i, t, (.int .i64 a0)] 174) :: (D ++ (a ++ (y ++ (c ++ (j ++ [])))))) w) (U : mR (fun (x : kw) => (.agg (kx x).toArray)) (mu Value.string (fun (x : Bool) => (Value.bool x))) G Z D) (T : kU 108 kC 9 g I a) (a3 : mR (fun (x : kw) => (.agg (kx x).toArray)) (kU 108 kC 9) B N y) (Y : mR Value.string (kU 108 kC 9) i J c) (H : qL 38 kK 3 t M j) (hm : sZ Z I N J M a0 Q a2 = some r) :
  mh false pg0 210 [(.pointer (some ⟨K, 0, none⟩)), (.agg (kC Q).toArray), (.agg (kK a2).toArray)] w ((K, Ob #[G, g, B, i, t, (.int .i64 a0)] 174) :: (D ++ (a ++ (y ++ (c ++ (j ++ [])))))) (fun v L1 W' => ∃ S1 y3 S4, v = (.tuple #[]) ∧ L1 = ((K, Ob #[G, g, B, i, y3, (.int .i64 (r.2.2))] 174) :: (S1 ++ (a ++ (y ++ (c ++ (S4 ++ [])))))) ∧ mR (fun (x : kw) => (.agg (kx x).toArray)) (mu Value.string (fun (x : Bool) => (Value.bool x))) G r.1 S1 ∧ qL 38 kK 3 y3 r.2.1 S4) := by
 let L := (#[G, g, B, i, t, (.int .i64 a0)] : Array Value)
 refine zN h0 57 func210 rfl (fun d => sg (VE (lB d rfl (fun W2 O d => VE (lB d rfl (fun W4 R d => lr (Wf nZ (VB d (Mt Mh) rfl rfl cC (ln (mK (kO ?_)))))))))))
 refine kL (Wi rfl (Wa (ln (CI hm rfl (fun e5 hm => ?_) (fun e5 hm => ?_)))))
 ·refine kL (Wm (Wf oe (VA d (Mt Mh) (kx Q.Head) aN aC (Wf rp (VB d Mh rfl rfl aY (bS hm fun r6 e6 hm => ?_))))))
  refine VE (eM d (Cb (Pb (Pb Pz)) (Cr (Qb (Qb Qz)) (Cr (Qb (Qb Qz)) (Cr (Qb (Qb Qz)) (Cr (Qb (Qb Qz)) (Cr (Qb (Qb Qz)) Cn)))))) call209 (fun A _ => mh.mn (sr K G Z D g I a B N y i J c t M j a0 Q.Head a2.lx _ _ A U T a3 Y H e6)) ?_)
  rintro _ g7 ad f8 d f2 a6 n ⟨d2, e7, d3, a8, rfl, c5, c6⟩
  obtain rfl := a8.symm
  replace d := d.perm (Tb (Tr (Tr (Tr (Tr (Tr Tn))))))
  refine lh (lu (wU ?_))
  obtain rfl := sj hm
  exact vX rfl ⟨_, _, rfl, (d.mL (Kb (Kr (Kr (Kr (Kr (Kr Sn))))))), d2, e7, d3, rfl, rfl, c5, c6⟩
 refine sg (Wi rfl (Wa (ln (CI hm rfl (fun c0 hm => ?_) (fun c0 hm => ?_)))))
 ·refine kL (Wm (Wf rp (VB d Mh rfl rfl aY (Wf rO (VB d (Mt Mh) rfl rfl aY (V (nc (v := (.agg (kx (⟨a2.lx, Q.lU⟩ : kw)).toArray)) (pC rfl rfl) (mB bP cI (G5 _ cI) kr)) (Wf oe (VA d (Mt Mh) (kx Q.Head) aN aC (bS hm fun g3 c3 hm => ?_)))))))))
  refine VE (eM d (Cb (Pb (Pb Pz)) (Cr (Qb (Qb Qz)) (Cr (Qb (Qb Qz)) (Cr (Qb (Qb Qz)) (Cr (Qb (Qb Qz)) (Cr (Qb (Qb Qz)) Cn)))))) call252 (fun A _ => (GA K G Z D g I a B N y i J c t M j a0 (⟨a2.lx, Q.lU⟩ : kw) Q.Head _ _ A U T a3 Y H c3)) ?_)
  rintro _ g8 h2 f9 d f3 aa n ⟨d4, e9, d5, a9, rfl, c7, c8⟩
  obtain rfl := a9.symm
  replace d := d.perm (Tb (Tr (Tr (Tr (Tr (Tr Tn))))))
  refine lh (lu (wU ?_))
  obtain rfl := sj hm
  exact vX rfl ⟨_, _, rfl, (d.mL (Kb (Kr (Kr (Kr (Kr (Kr Sn))))))), d4, e9, d5, rfl, rfl, c7, c8⟩
 refine sg (Wi rfl (Wa (ln (CI hm rfl (fun c1 hm => ?_) (fun c1 hm => ?_)))))
 ·refine kO ?_
  replace d := d.drew
  have h := d.has.kz (Kb (Kb (Kb (Kr Sn))))
  refine lG h lq (X 0 rfl h (kH rfl) (X 1 rfl h (nv rfl) (X 2 rfl h (kD zo rfl) (XH 3 rfl h (fun _ m => kA rfl (kM m (Mt (Mt Mh)) rfl iK)) (X 4 rfl h (kD mT rfl) (XH 5 rfl h (fun _ m => kA rfl (kI m (Mt Mh) (kx Q.B) rfl aN aC)) ?_))))))
  obtain ⟨f7, a5⟩ := U
  refine XH 6 rfl h (fun _ m => pZ (k := Q.B) (z := (.map none)) Ci eB fp rfl rfl a5 (fun b o q => m.2 b o (Mt (Mt (Mt (Ml q)))))) (X 7 rfl h (kD rp rfl) (XH 8 rfl h (fun _ m => kA rfl (kM m Mh rfl aY)) (XH 9 rfl h (fun _ m => xB (k := a2.lx) (z := false) (vf := (fun (x : Bool) => (Value.bool x))) JH fz gy rfl rfl (ny.F3 (μ := hp _) kP.1 a5 Q.B (fun b o q => m.2 b o (Mt (Mt (Mt (Ml q))))))) (X 10 rfl h (kH rfl) (PJ hm (fun b5 E W => ∃ b4, ST false (keys ((K, Obj.cells L 174 (0, 0)) :: (D ++ (a ++ (y ++ (c ++ (j ++ []))))))) w W μ0 ((R, Ol (kK a2) 38) :: ((O, Ol (kC Q) 108) :: ((K, Obj.cells L 174 (0, 0)) :: (D ++ (a ++ (y ++ (c ++ (j ++ b4)))))))) ∧ E 0 = (.pointer (some ⟨K, 0, none⟩)) ∧ E 4 = (.pointer (some ⟨O, 0, none⟩)) ∧ E 5 = (.pointer (some ⟨R, 0, none⟩)) ∧ E 50 = (.bool b5)) (bm 22 4194303) 0 ?_ (fun b5 s P => ?_))))))
  ·rintro h1 E W ⟨b4, d, e1, e2, e3, e4⟩ a4
   refine lT kr (kF (CI a4 e4 (fun c2 a4 => ?_) (fun c2 a4 => ?_)))
   ·refine kL (Wh e1 (V (kD oe e2) (VA d (Mt Mh) (kx Q.Head) aN aC (V (kD rp e3) (VB d Mh rfl rfl aY (bS a4 fun g4 c4 a4 => ?_))))))
    refine VE (eM d (Cb (Pb (Pb Pz)) (Cr (Qb (Qb Qz)) (Cr (Qb (Qb Qz)) (Cr (Qb (Qb Qz)) (Cr (Qb (Qb Qz)) (Cr (Qb (Qb Qz)) Cn)))))) call209 (fun A _ => mh.mn (sr K G Z D g I a B N y i J c t M j a0 Q.Head a2.lx _ _ A a5.e T a3 Y H c4)) ?_)
    rintro _ g9 h3 g0 d f4 ab n ⟨d7, f0, d8, b0, rfl, c9, d0⟩
    obtain rfl := b0.symm
    replace d := d.perm (Tb (Tr (Tr (Tr (Tr (Tr Tn))))))
    refine lh (lu (wU ?_))
    obtain rfl := sj a4
    exact vX rfl ⟨_, _, rfl, (d.mL (Kb (Kr (Kr (Kr (Kr (Kr Sn))))))), d7, f0, d8, rfl, rfl, c9, d0⟩
   refine lz (lu (wU ?_))
   obtain rfl := sj a4
   exact vX rfl ⟨_, _, rfl, (d.mL (Db (Db (Kb (Kr (Kr (Kr (Kr (Kr Sn))))))))), D, t, j, rfl, rfl, a5.e, H⟩
  refine bC s (fun u s => ?_) (fun u s => ?_)
  ·refine Xg 11 rfl rfl (cB u) h (kH rfl) (Xg 12 rfl rfl (cB u) h (nv rfl) (Xg 13 rfl rfl (cB u) h (kD zo rfl) (uW 14 rfl rfl (cB u) h (fun _ m => kA rfl (kM m (Mt (Mt Mh)) rfl iK)) (Xg 15 rfl rfl (cB u) h (kD pL rfl) (uW 16 rfl rfl (cB u) h (fun _ m => kA rfl (kI m (Mt Mh) (kx Q.C) rfl aN aC)) (uW 17 rfl rfl (cB u) h (fun _ m => pZ (k := Q.C) (z := (.map none)) Ci eB fp rfl rfl a5 (fun b o q => m.2 b o (Mt (Mt (Mt (Ml q)))))) (Xg 18 rfl rfl (cB u) h (kD rp rfl) (uW 19 rfl rfl (cB u) h (fun _ m => kA rfl (kM m Mh rfl aY)) (uW 20 rfl rfl (cB u) h (fun _ m => xB (k := a2.lx) (z := false) (vf := (fun (x : Bool) => (Value.bool x))) JH fz gy rfl rfl (ny.F3 (μ := hp _) kP.1 a5 Q.C (fun b o q => m.2 b o (Mt (Mt (Mt (Ml q))))))) (X 21 rfl h (kR (cB u) rfl) ?_))))))))))
   obtain rfl := sj s
   refine nx kr (P _ _ ⟨_, (d.kz St), rfl, rfl, rfl, rfl⟩)
  refine Xn 11 rfl rfl (cB u) h (Xn 12 rfl rfl (cB u) h (Xn 13 rfl rfl (cB u) h (Xn 14 rfl rfl (cB u) h (Xn 15 rfl rfl (cB u) h (Xn 16 rfl rfl (cB u) h (Xn 17 rfl rfl (cB u) h (Xn 18 rfl rfl (cB u) h (Xn 19 rfl rfl (cB u) h (Xn 20 rfl rfl (cB u) h (X 21 rfl h (kQ (cB u) rfl) ?_))))))))))
  obtain rfl := sj s
  refine nx kr (P _ _ ⟨_, (d.kz St), rfl, rfl, rfl, rfl⟩)
 refine lz (lu (wU ?_))
 obtain rfl := sj hm
 exact vX rfl ⟨_, _, rfl, (d.mL (Db (Db (Kb (Kr (Kr (Kr (Kr (Kr Sn))))))))), D, t, j, rfl, rfl, U, H⟩
theorem Fx (K : Nat) (g : Value) (T : List (kw × (List (ByteArray × Bool)))) (D : LO) (a : Value) (G : List ky) (j : LO) (t : Value) (J : List (kw × (List ky))) (u : LO) (c : Value) (H : List (ByteArray × (List ky))) (k : LO) (z : Value) (M : List kB) (B : LO) (a0 : Int) (Z : ky) (r : ((List (kw × (List (ByteArray × Bool)))) × (List kB) × Int)) (w : World) {μ0 : lm} (h0 : pP μ0 ((K, Ob #[g, a, t, c, z, (.int .i64 a0)] 174) :: (D ++ (j ++ (u ++ (k ++ (B ++ [])))))) w) (a2 : mR (fun (x : kw) => (.agg (kx x).toArray)) (mu Value.string (fun (x : Bool) => (Value.bool x))) g T D) (N : kU 108 kC 9 a G j) (Y : mR (fun (x : kw) => (.agg (kx x).toArray)) (kU 108 kC 9) t J u) (Q : mR Value.string (kU 108 kC 9) c H k) (U : qL 38 kK 3 z M B) (hm : uC T G J H M a0 Z = some r) :
  mh false pg0 172 [(.pointer (some ⟨K, 0, none⟩)), (.agg (kC Z).toArray)] w ((K, Ob #[g, a, t, c, z, (.int .i64 a0)] 174) :: (D ++ (j ++ (u ++ (k ++ (B ++ [])))))) (fun v L1 W' => ∃ S1 y3 S4, v = (.tuple #[]) ∧ L1 = ((K, Ob #[g, a, t, c, y3, (.int .i64 (r.2.2))] 174) :: (S1 ++ (j ++ (u ++ (k ++ (S4 ++ [])))))) ∧ mR (fun (x : kw) => (.agg (kx x).toArray)) (mu Value.string (fun (x : Bool) => (Value.bool x))) g r.1 S1 ∧ qL 38 kK 3 y3 r.2.1 S4) := by
 refine zN h0 33 func172 rfl (fun d => sg (VE (lB d rfl (fun W2 b1 d => lr (Wf nZ (VB d Mh rfl rfl cC (ln (bg ?_))))))))
 refine Wi rfl (Wa (ln (CI hm rfl (fun f1 hm => ?_) (fun f1 hm => ?_))))
 ·refine kL (Wm (Wf oe (VA d Mh (kx Z.Head) aN aC (Wf sL (VB d Mh rfl rfl aY (bS hm fun r4 f2 hm => ?_))))))
  refine VE (eM d (Cb (Pb Pz) (Cr (Qb Qz) (Cr (Qb Qz) (Cr (Qb Qz) (Cr (Qb Qz) (Cr (Qb Qz) Cn)))))) call209 (fun hh _ => mh.mn (sr K g T D a G j t J u c H k z M B a0 Z.Head Z.lx _ _ hh a2 N Y Q U f2)) ?_)
  rintro _ h1 ae g8 d g2 ad n ⟨e7, f4, e8, c2, rfl, e0, e1⟩
  obtain rfl := c2.symm
  replace d := d.perm (Tb (Tr (Tr (Tr (Tr (Tr Tn))))))
  refine lh (lu (wU ?_))
  obtain rfl := sj hm
  exact vX rfl ⟨_, _, rfl, (d.mL (Kb (Kr (Kr (Kr (Kr (Kr Sn))))))), e7, f4, e8, rfl, rfl, e0, e1⟩
 refine sg (Wm (Wf mT (VA d Mh (kx Z.B) aN aC (bS hm fun c6 d9 hm => VE (pF d call53 (AG K g T a G t J c H z M a0 Z.B _ _ (a2.at (fun b o m => d.at_ (Mt (Mt (Ml m))))) (N.sl mW (fun b o m => d.at_ (Mt (Mt (Ma (Ml m)))))) (Y.at (fun b o m => d.at_ (Mt (Mt (Ma (Ma (Ml m))))))) (Q.at (fun b o m => d.at_ (Mt (Mt (Ma (Ma (Ma (Ml m)))))))) ((U.Hd nf).mono (Pl.mono _) (xF (fun b o m => d.at_ (Mt (Mt (Ma (Ma (Ma (Ma (Ml m)))))))))) (At.of (d.at_ (Mt Mh)) _ rfl) d9) (fun g9 f3 d5 e5 d f6 ab O => V (mP bE rfl O) (Wm (ln (vB (lp (fun i E W => ∃ q a3 a5 s a4 a9 P b9, (E 13 = .int .i64 (i : Nat) ∧ E 12 = .int .i64 (c6.length : Nat)) ∧ kY d5 P ∧ ST false (keys ((K, Ob #[g, a, t, c, z, (.int .i64 a0)] 174) :: (D ++ (j ++ (u ++ (k ++ (B ++ []))))))) w W P ((K, Ob #[g, a, t, c, a5, (.int .i64 a9)] 174) :: ((b1, Ol (kC Z) 108) :: (a3 ++ (j ++ (u ++ (k ++ (a4 ++ (e5 ++ b9)))))))) ∧ E 0 = (.pointer (some ⟨K, 0, none⟩)) ∧ E 3 = (.pointer (some ⟨b1, 0, none⟩)) ∧ E 11 = f3 ∧ mR (fun (x : kw) => (.agg (kx x).toArray)) (mu Value.string (fun (x : Bool) => (Value.bool x))) g q a3 ∧ qL 38 kK 3 a5 s a4 ∧ qa G J H Z (c6.drop i) q s a9 = some r) c6.length O.len ⟨T, D, z, M, B, a0, d5, _, ⟨rfl, rfl⟩, (kY.refl _), (d.kz (Sb (Pr (Pb Pz)) (Sb (Pr Pz) (Sr (Qr Qz) (Sr (Qr Qz) (Sr (Qr Qz) (Sr (Qr Qz) (Sr (Qr Qz) St)))))))), rfl, rfl, rfl, a2, U, hm⟩ dc dc dc (fun _ _ _ h => by obtain ⟨_, _, _, _, _, _, _, _, a1, _⟩ := h; exact a1) ?_ ?_))))))))))
 ·rintro e2 E W c8 ⟨q, a3, a5, s, a4, a9, P, b9, ⟨eI, eN⟩, b7, d, c0, L, c1, R, b4, I⟩
  obtain ⟨A, f7, d1, c4, d2⟩ := lc c8
  rw [d1] at I
  refine bg (VQ (mC (i := (e2 : Int)) (x0 := A) bE dh c1 eI O (aD _) c4) (fun g3 c9 => V (kA rfl (uR d.has (fun p m => (Mt (Mt (Ma (Ma (Ma (Ma (Ma (Ml m))))))))) O (fun _ => rfl) c9 c4 (y := (.string A)) rfl aY)) (Wa (ln (kL (Wh c0 (V (kA L (kI d.has (Mt Mh) (kC Z) rfl bG aI)) (V (kD mT L) (VA d (Mt Mh) (kx Z.B) aN aC (Wm (V (nc (v := (.agg (kK (⟨Z.B, A⟩ : kB)).toArray)) (pC rfl rfl) (mB cN cq (Dj _ cq) kr)) ?_)))))))))))
  refine bS I fun c3 d0 I => ?_
  refine VE (eM d (Cb Pz (Cr (Qb Qz) (Cr (Qb Qz) (Cr (Qb Qz) (Cr (Qb Qz) (Cr (Qb Qz) Cn)))))) call210 (fun hh _ => (Bu K g q a3 a G j t J u c H k a5 s a4 a9 Z (⟨Z.B, A⟩ : kB) _ _ hh R N Y Q b4 d0)) ?_)
  rintro _ g4 e4 f9 d c5 aa n ⟨d6, e3, d7, b5, rfl, d3, d4⟩
  obtain rfl := b5.symm
  replace d := d.perm (Tb (Tr (Tr (Tr (Tr (Tr Tn))))))
  exact lh (lu (kF ⟨eI, c3.1, d6, e3, c3.2.1, d7, c3.2.2, e4, _, ⟨rfl, eN⟩, (b7.trans c5), (d.kz (Kb (Sb (Pr (Pr (Pr (Pr (Pr Pz))))) St))), c0, L, c1, d3, d4, (by rw [d2]; exact I)⟩))
 rintro E W ⟨q, a3, a5, s, a4, a9, P, b9, ⟨eI, eN⟩, b7, d, c0, L, c1, R, b4, I⟩
 rw [aG] at I
 refine kF ?_
 replace d := d.kz (Kb (Db (Kr (Kr (Kr (Kr (Kr (Dr St))))))))
 refine lu (wU ?_)
 obtain rfl := sj I
 exact vX rfl ⟨_, _, rfl, (d.mL (Kb (Kr (Kr (Kr (Kr (Kr Sn))))))), a3, a5, a4, rfl, rfl, R, b4⟩
theorem ER (I : Nat) (a : Value) (e8 : List (kw × (List (ByteArray × Bool)))) (K : LO) (c : Value) (Q : List ky) (j : LO) (u : Value) (N : List (kw × (List ky))) (y : LO) (g : Value) (H : List (ByteArray × (List ky))) (t : LO) (G : Value) (d4 : List kB) (D : LO) (a0 : Int) (r : ((List (kw × (List (ByteArray × Bool)))) × (List kB) × Int)) (w : World) {μ0 : lm} (h0 : pP μ0 ((I, Ob #[a, c, u, g, G, (.int .i64 a0)] 174) :: (K ++ (j ++ (y ++ (t ++ (D ++ [])))))) w) (h4 : mR (fun (x : kw) => (.agg (kx x).toArray)) (mu Value.string (fun (x : Bool) => (Value.bool x))) a e8 K) (c1 : kU 108 kC 9 c Q j) (g7 : mR (fun (x : kw) => (.agg (kx x).toArray)) (kU 108 kC 9) u N y) (c2 : mR Value.string (kU 108 kC 9) g H t) (g4 : qL 38 kK 3 G d4 D) (hm : wY e8 Q N H d4 a0 = some r) :
  mh false pg0 173 [(.pointer (some ⟨I, 0, none⟩))] w ((I, Ob #[a, c, u, g, G, (.int .i64 a0)] 174) :: (K ++ (j ++ (y ++ (t ++ (D ++ [])))))) (fun v L1 W' => ∃ S1 y3 S4, v = (.tuple #[]) ∧ L1 = ((I, Ob #[a, c, u, g, y3, (.int .i64 (r.2.2))] 174) :: (S1 ++ (j ++ (y ++ (t ++ (S4 ++ [])))))) ∧ mR (fun (x : kw) => (.agg (kx x).toArray)) (mu Value.string (fun (x : Bool) => (Value.bool x))) a r.1 S1 ∧ qL 38 kK 3 y3 r.2.1 S4) := by
 let g5 : Value := (.pointer (some ⟨I, 0, none⟩))
 let b8 := ((I, Ob #[a, c, u, g, G, (.int .i64 a0)] 174) :: (K ++ (j ++ (y ++ (t ++ (D ++ []))))))
 refine zN h0 75 func173 rfl (fun d => vB (mK (od (fun m E W => ∃ e3 b7 e4 a1 b9 d1 b4 h5, kY μ0 b4 ∧ ST false (keys b8) w W b4 ((I, Ob #[a, c, u, g, e4, (.int .i64 d1)] 174) :: (b7 ++ (j ++ (y ++ (t ++ (b9 ++ h5)))))) ∧ E 0 = g5 ∧ mR (fun (x : kw) => (.agg (kx x).toArray)) (mu Value.string (fun (x : Bool) => (Value.bool x))) a e3 b7 ∧ qL 38 kK 3 e4 a1 b9 ∧ nP Q N H m e3 a1 d1 = some r) lC ⟨e8, K, G, d4, D, a0, μ0, _, (kY.refl _), (d.kz St), rfl, h4, g4, hm⟩ ?_)))
 rintro m E W ⟨e3, b7, e4, a1, b9, d1, b4, h5, i0, d, P, g9, c5, M⟩
 cases m with
 | zero => rw [nP] at M; cases M
 | succ n0 =>
  refine kO (sg (Wh P (Wn (Wf Dg (VB d Mh rfl rfl isAgg120 (V (TY bJ rfl c5) (Wi rfl (ln (CI M rfl (fun i7 M => ?_) (fun i7 M => ?_))))))))))
  ·refine kn (bg (Wh P (Wn (Wf Dg (VB d Mh rfl rfl isAgg120 (bS M fun B h2 M => VQ (lO (enc := kK) (i := 0) (x0 := B) bJ bO rfl rfl (c5.Hd nf) (lY h2) (lN h2)) (fun q0 j7 => V (kA rfl (lD (rR.hp _) (j7.mono (xF (fun b o s => d.has.2 b o (Mt (Ma (Ma (Ma (Ma (Ml s))))))))) dl bO)) (VE (lA d cN (fun o9 a5 d => VO (lf (.agg (kK B).toArray) ((kK B).toArray) d rfl rfl bO (uw B) nb rfl (fun p0 d => lh ?_))))))))))))
   let j2 := ((mi kN N B.kw).getD [])
   let j1 : Value := (.pointer (some ⟨a5, 0, none⟩))
   let i6 := ((kK B).toArray : Array Value)
   let i5 := ((mi ma H B.kw.kT).getD [])
   refine kF (sg (Wh P (Wh P (Wn (Wf Dg (VB d (Mt Mh) rfl rfl isAgg120 (bS M fun _ g8 M => VQ (Qq (i := 1) bJ bO rfl rfl nf c5 (qD g8) (qw g8)) (fun q3 h1 => Wn (Wf Dg ?_)))))))))
   obtain ⟨f7, g0, rfl⟩ := h1.form
   let g6 : Value := (.slice f7 (a1.drop (Int.toNat 1)).length g0)
   replace d := d.perm (Nb (Pb Pz) Nz)
   refine VO (lf g6 (#[a, c, u, g, g6, (.int .i64 d1)]) d rfl rfl sizeOf120 oc nb rfl (fun p1 d => ln (kO (kO ?_))))
   replace d := d.drew
   have n := d.has.kz (Kb (Kb (Dr (Dr (Kr Sn)))))
   refine lG n lq (X 0 rfl n (kH P) (X 1 rfl n (nv rfl) (X 2 rfl n (kD PR rfl) (XH 3 rfl n (fun _ q => kA rfl (kM q Mh rfl isAgg171)) (X 4 rfl n (kD wM rfl) (XH 5 rfl n (fun _ q => kA rfl (kI q (Mt Mh) (kx B.kw) rfl aN aC)) ?_))))))
   obtain ⟨l7, c3⟩ := g7
   obtain ⟨o7, f0, k2⟩ := ny.rowAt kP.1 c3 B.kw
   refine XH 6 rfl n (fun _ q => pZ (k := B.kw) (z := (.slice none 0 0)) Ci underlying171 kq rfl rfl c3 (fun b o s => q.2 b o (Mt (Mt (Ml s))))) (X 7 rfl n (ly aX rfl (f0.Hd mW)) (X 8 rfl n (kH rfl) (lT kr (kF (CJ M (fun d0 E W => ∃ d6 e5 d7 b5 h6, kY b4 b5 ∧ ST false (keys b8) w W b5 ((I, Ob #[a, c, u, g, e5, (.int .i64 d0.2.2)] 174) :: ((a5, Obj.cells i6 38 (0, 0)) :: (d6 ++ (j ++ (y ++ (t ++ (d7 ++ h6))))))) ∧ E 0 = g5 ∧ E 2 = j1 ∧ mR (fun (x : kw) => (.agg (kx x).toArray)) (mu Value.string (fun (x : Bool) => (Value.bool x))) a d0.1 d6 ∧ qL 38 kK 3 e5 d0.2.1 d7) (fun d0 j6 => ?_) ?_)))))
   ·refine lp (fun i E W => ∃ c7 a3 b1 c8 a4 d2 d3 f9, (E 35 = .int .i64 (i : Nat) ∧ E 34 = .int .i64 (j2.length : Nat)) ∧ kY b4 d3 ∧ ST false (keys b8) w W d3 ((I, Ob #[a, c, u, g, b1, (.int .i64 d2)] 174) :: ((a5, Obj.cells i6 38 (0, 0)) :: (a3 ++ (j ++ (y ++ (t ++ (a4 ++ f9))))))) ∧ E 0 = g5 ∧ E 2 = j1 ∧ E 33 = (sU kN l7 B.kw (.slice none 0 0)) ∧ mR (fun (x : kw) => (.agg (kx x).toArray)) (mu Value.string (fun (x : Bool) => (Value.bool x))) a c7 a3 ∧ qL 38 kK 3 b1 c8 a4 ∧ pT Q N H B (j2.drop i) c7 c8 d2 = some d0) j2.length (f0.Hd mW).len ⟨e3, b7, g6, (a1.drop (Int.toNat 1)), b9, d1, b4, _, ⟨rfl, rfl⟩, (kY.refl _), (d.kz St), P, rfl, rfl, g9, h1, j6⟩ dc dc dc (fun _ _ _ h => by obtain ⟨_, _, _, _, _, _, _, _, L, _⟩ := h; exact L) ?_ ?_
    ·rintro m5 E W j0 ⟨c7, a3, b1, c8, a4, d2, d3, f9, ⟨A, eN⟩, d5, d, e1, e2, g1, f3, f4, T⟩
     obtain ⟨b3, o3, l1, l0, l2⟩ := lc j0
     rw [l1] at T
     refine bg (VQ (lO (enc := kC) (i := (m5 : Int)) (x0 := b3) aX aI g1 A (f0.Hd mW) (aD _) l0) (fun q2 j9 => V (kA rfl (lD (rR.hp _) (j9.mono (xF (fun b o s => d.has.2 b o (Mt (Mt (Ma (Ma (Ml (k2 b o s))))))))) bG aI)) (VE (lA d cg (fun p5 p9 d => VO (lf (.agg (kC b3).toArray) ((kC b3).toArray) d rfl rfl aI (nI b3) nb rfl (fun p6 d => ln (kL (Wh e1 (VA d Mh (kC b3) bG aI (V (kA e2 (kI d.has (Mt (Mt Mh)) (kK B) rfl dl bO)) (bS T fun g3 k1 T => ?_))))))))))))
     refine VE (eM d (Cb (Pb Pz) (Cr (Qb (Qb Qz)) (Cr (Qb (Qb Qz)) (Cr (Qb (Qb Qz)) (Cr (Qb (Qb Qz)) (Cr (Qb (Qb Qz)) Cn)))))) call210 (fun hh _ => (Bu I a c7 a3 c Q j u N y g H t b1 c8 a4 d2 b3 B _ _ hh f3 c1 c3.e c2 f4 k1)) ?_)
     rintro _ q5 n6 o6 d i4 ab O ⟨m1, n4, m2, f6, rfl, l5, l6⟩
     obtain rfl := f6.symm
     replace d := d.perm (Tb (Tr (Tr (Tr (Tr (Tr Tn))))))
     refine lh (lu (kF ?_))
     replace d := d.kz (Kb (Kr (Kr (Kr (Kr (Kr (Db St)))))))
     exact ⟨A, g3.1, m1, n4, g3.2.1, m2, g3.2.2, n6, _, ⟨rfl, eN⟩, (d5.trans i4), (d.kz (Kb (Sb (Pr (Pr (Pr (Pr (Pr Pz))))) St))), e1, e2, g1, l5, l6, (by rw [l2]; exact T)⟩
    rintro E W ⟨c7, a3, b1, c8, a4, d2, d3, f9, ⟨A, eN⟩, d5, d, e1, e2, g1, f3, f4, T⟩
    rw [aG] at T
    refine kF ?_
    obtain rfl := sj T
    exact ⟨a3, b1, a4, d3, _, d5, (d.kz St), e1, e2, f3, f4⟩
   rintro ⟨m6, m7, n1⟩ E W ⟨d6, e5, d7, b5, h6, i1, d, h8, h9, k3, k4⟩ j3
   refine kO ?_
   replace d := d.drew
   have n := d.has.kz (Kb (Kb (Dr (Dr (Dr (Kr Sn))))))
   refine lG n lq (X 0 rfl n (kH h8) (X 1 rfl n (nv rfl) (X 2 rfl n (kD Kt rfl) (XH 3 rfl n (fun _ q => kA rfl (kM q Mh rfl isAgg172)) (X 4 rfl n (kD wM h9) (X 5 rfl n (kD vO rfl) (XH 6 rfl n (fun _ q => kA rfl (kM q (Mt Mh) rfl aY)) ?_)))))))
   obtain ⟨l8, e9⟩ := c2
   obtain ⟨o8, f1, k5⟩ := ny.rowAt mM.1 e9 B.kw.kT
   refine XH 7 rfl n (fun _ q => pZ (k := B.kw.kT) (z := (.slice none 0 0)) JH underlying172 kq rfl rfl e9 (fun b o s => q.2 b o (Mt (Mt (Ml s))))) (X 8 rfl n (ly aX rfl (f1.Hd mW)) (X 9 rfl n (kH rfl) (lT kr (kF (vB (CJ j3 (fun c9 E W => ∃ d8 e6 d9 e7 h7, kY b5 e7 ∧ ST false (keys b8) w W e7 ((I, Ob #[a, c, u, g, e6, (.int .i64 c9.2.2)] 174) :: (d8 ++ (j ++ (y ++ (t ++ (d9 ++ h7)))))) ∧ E 0 = g5 ∧ mR (fun (x : kw) => (.agg (kx x).toArray)) (mu Value.string (fun (x : Bool) => (Value.bool x))) a c9.1 d8 ∧ qL 38 kK 3 e6 c9.2.1 d9) (fun c9 j5 => ?_) ?_))))))
   ·refine lp (fun i E W => ∃ a9 Y a2 b0 Z b2 b6 f8, (E 53 = .int .i64 (i : Nat) ∧ E 52 = .int .i64 (i5.length : Nat)) ∧ kY b5 b6 ∧ ST false (keys b8) w W b6 ((I, Ob #[a, c, u, g, a2, (.int .i64 b2)] 174) :: ((a5, Obj.cells i6 38 (0, 0)) :: (Y ++ (j ++ (y ++ (t ++ (Z ++ f8))))))) ∧ E 0 = g5 ∧ E 2 = j1 ∧ E 51 = (sU ma l8 B.kw.kT (.slice none 0 0)) ∧ mR (fun (x : kw) => (.agg (kx x).toArray)) (mu Value.string (fun (x : Bool) => (Value.bool x))) a a9 Y ∧ qL 38 kK 3 a2 b0 Z ∧ oH B Q N H (i5.drop i) a9 b0 b2 = some c9) i5.length (f1.Hd mW).len ⟨m6, d6, e5, m7, d7, n1, b5, _, ⟨rfl, rfl⟩, (kY.refl _), (d.kz St), h8, h9, rfl, k3, k4, j5⟩ dc dc dc (fun _ _ _ h => by obtain ⟨_, _, _, _, _, _, _, _, L, _⟩ := h; exact L) ?_ ?_
    ·rintro m4 E W i9 ⟨a9, Y, a2, b0, Z, b2, b6, f8, ⟨A, eN⟩, a8, d, R, c0, e0, f2, c6, J⟩
     obtain ⟨U, o2, k9, k8, h3⟩ := lc i9
     rw [k9] at J
     refine bg (VQ (lO (enc := kC) (i := (m4 : Int)) (x0 := U) aX aI e0 A (f1.Hd mW) (aD _) k8) (fun q1 j8 => V (kA rfl (lD (rR.hp _) (j8.mono (xF (fun b o s => d.has.2 b o (Mt (Mt (Ma (Ma (Ma (Ml (k5 b o s)))))))))) bG aI)) (VE (lA d cg (fun p2 p8 d => VO (lf (.agg (kC U).toArray) ((kC U).toArray) d rfl rfl aI (nI U) nb rfl (fun p3 d => ln (kO ?_))))))))
     replace d := d.drew
     have n := d.has.kz (Kb (Kb (Kb (Kr Sn))))
     refine lG n lq (X 0 rfl n (kH R) (X 1 rfl n (nv rfl) (X 2 rfl n (kD zo rfl) (XH 3 rfl n (fun _ q => kA rfl (kM q (Mt Mh) rfl iK)) (X 4 rfl n (kD mT rfl) (XH 5 rfl n (fun _ q => kA rfl (kI q Mh (kx U.B) rfl aN aC)) ?_))))))
     obtain ⟨o0, c4⟩ := f2
     refine XH 6 rfl n (fun _ q => pZ (k := U.B) (z := (.map none)) Ci eB fp rfl rfl c4 (fun b o s => q.2 b o (Mt (Mt (Mt (Ml s)))))) (X 7 rfl n (kD wM c0) (X 8 rfl n (kD oQ rfl) (XH 9 rfl n (fun _ q => kA rfl (kM q (Mt (Mt Mh)) rfl aY)) (XH 10 rfl n (fun _ q => xB (k := B.kw.kE) (z := false) (vf := (fun (x : Bool) => (Value.bool x))) JH fz gy rfl rfl (ny.F3 (μ := hp _) kP.1 c4 U.B (fun b o s => q.2 b o (Mt (Mt (Mt (Ml s))))))) (lT kr (kF (CI J rfl (fun i8 J => ?_) (fun i8 J => ?_))))))))
     ·refine kL (Wh R (Wf oe (VA d Mh (kx U.Head) aN aC (V (kD rp c0) (VB d (Mt (Mt Mh)) rfl rfl aY (bS J fun g2 k0 J => ?_))))))
      refine VE (eM d (Cb (Pb Pz) (Cr (Qb (Qb Qz)) (Cr (Qb (Qb Qz)) (Cr (Qb (Qb Qz)) (Cr (Qb (Qb Qz)) (Cr (Qb (Qb Qz)) Cn)))))) call209 (fun hh _ => mh.mn (sr I a a9 Y c Q j u N y g H t a2 b0 Z b2 U.Head B.lx _ _ hh c4.e c1 c3.e e9.e c6 k0)) ?_)
      rintro _ q4 n5 o5 d i3 aa O ⟨l9, n3, m0, f5, rfl, l3, l4⟩
      obtain rfl := f5.symm
      replace d := d.perm (Tb (Tr (Tr (Tr (Tr (Tr Tn))))))
      refine lh (lu (kF ?_))
      replace d := d.kz (Kb (Kr (Kr (Kr (Kr (Kr (Db St)))))))
      exact ⟨A, g2.1, l9, n3, g2.2.1, m0, g2.2.2, n5, _, ⟨rfl, eN⟩, (a8.trans i3), (d.kz (Kb (Sb (Pr (Pr (Pr (Pr (Pr Pz))))) St))), R, c0, e0, l3, l4, (by rw [h3]; exact J)⟩
     refine lz (lu (kF ?_))
     replace d := d.kz (Db St)
     exact ⟨A, a9, Y, a2, b0, Z, b2, b6, _, ⟨rfl, eN⟩, a8, (d.kz St), R, c0, e0, c4.e, c6, (by rw [h3]; exact J)⟩
    rintro E W ⟨a9, Y, a2, b0, Z, b2, b6, f8, ⟨A, eN⟩, a8, d, R, c0, e0, f2, c6, J⟩
    rw [aG] at J
    refine kF ?_
    obtain rfl := sj J
    exact ⟨Y, a2, Z, b6, _, a8, (d.kz (Kb (Db St))), R, f2, c6⟩
   rintro ⟨m8, m9, n2⟩ E W ⟨d8, e6, d9, e7, h7, i2, d, m3, k6, k7⟩ j4
   exact lu (kF ⟨n0, bT _, m8, d8, e6, m9, d9, n2, e7, _, ((i0.trans i1).trans i2), (d.kz St), m3, k6, k7, j4⟩)
  refine ob (nN (nN (uf (kF (wU ?_)))))
  obtain rfl := sj M
  exact vX rfl ⟨_, _, rfl, (d.mL (Kb (Kr (Kr (Kr (Kr (Kr Sn))))))), b7, e4, b9, rfl, rfl, g9, c5⟩
theorem GI (H : Nat) (g : Value) (c2 : List (kw × (List (ByteArray × Bool)))) (G : LO) (u : Value) (a7 : List ky) (k : LO) (c : Value) (b7 : List (kw × (List ky))) (z : LO) (a : Value) (a8 : List (ByteArray × (List ky))) (t : LO) (B : Value) (b6 : List kB) (y : LO) (K : Int) (d1 : Value) (s : List ky) (r : (Int × (List (kw × (List (ByteArray × Bool)))) × (List ky) × (List (kw × (List ky))) × (List (ByteArray × (List ky))) × (List kB) × Int)) (w : World) {μ0 : lm} (h0 : pP μ0 ((H, Ob #[g, u, c, a, B, (.int .i64 K)] 174) :: (G ++ (k ++ (z ++ (t ++ (y ++ [])))))) w) (d6 : mR (fun (x : kw) => (.agg (kx x).toArray)) (mu Value.string (fun (x : Bool) => (Value.bool x))) g c2 G) (c6 : kU 108 kC 9 u a7 k) (d3 : mR (fun (x : kw) => (.agg (kx x).toArray)) (kU 108 kC 9) c b7 z) (c7 : mR Value.string (kU 108 kC 9) a a8 t) (d2 : qL 38 kK 3 B b6 y) (d7 : Sl (Pl kC) 9 μ0 d1 s) (hm : wc c2 a7 b7 a8 b6 K s = some r) :
  mh false pg0 109 [(.pointer (some ⟨H, 0, none⟩)), d1] w ((H, Ob #[g, u, c, a, B, (.int .i64 K)] 174) :: (G ++ (k ++ (z ++ (t ++ (y ++ [])))))) (fun v L1 W' => ∃ S1 y3 S4 S6 S8 i1 i0, v = (.int .i64 (r.1)) ∧ L1 = ((H, Ob #[g, y3, c, a, i1, (.int .i64 (r.2.2.2.2.2.2))] 174) :: (S1 ++ (S4 ++ (S6 ++ (S8 ++ (i0 ++ [])))))) ∧ mR (fun (x : kw) => (.agg (kx x).toArray)) (mu Value.string (fun (x : Bool) => (Value.bool x))) g r.2.1 S1 ∧ kU 108 kC 9 y3 r.2.2.1 S4 ∧ mR (fun (x : kw) => (.agg (kx x).toArray)) (kU 108 kC 9) c r.2.2.2.1 S6 ∧ mR Value.string (kU 108 kC 9) a r.2.2.2.2.1 S8 ∧ qL 38 kK 3 i1 r.2.2.2.2.2.1 i0) := by
 let b8 := ((H, Ob #[g, u, c, a, B, (.int .i64 K)] 174) :: (G ++ (k ++ (z ++ (t ++ (y ++ []))))))
 refine zN h0 46 func109 rfl (fun d => sg (Wa (lS (Wm (V (ua underlying101 rfl rfl) (ln (qo rfl (lz ?_))))))))
 refine kF (sg (Wm (Wn (Wf HN (VB d Mh rfl rfl cC (Wa (lS (Wm (V (ly aX rfl d7) ?_)))))))))
 refine Wm (ln (lp (fun i E W => ∃ a3 N M a4 Q a9 T q U a0 a5 Y a2 c1 d5, (E 16 = .int .i64 (i : Nat) ∧ E 15 = .int .i64 (s.length : Nat)) ∧ kY μ0 c1 ∧ ST false (keys b8) w W c1 ((H, Ob #[g, M, c, a, a0, (.int .i64 a2)] 174) :: (N ++ (Q ++ (T ++ (U ++ (Y ++ d5)))))) ∧ E 0 = (.pointer (some ⟨H, 0, none⟩)) ∧ E 5 = (.int .i64 K) ∧ E 14 = d1 ∧ mR (fun (x : kw) => (.agg (kx x).toArray)) (mu Value.string (fun (x : Bool) => (Value.bool x))) g a3 N ∧ kU 108 kC 9 M a4 Q ∧ mR (fun (x : kw) => (.agg (kx x).toArray)) (kU 108 kC 9) c a9 T ∧ mR Value.string (kU 108 kC 9) a q U ∧ qL 38 kK 3 a0 a5 Y ∧ oF K (s.drop i) a3 a4 a9 q a5 a2 = some r) s.length d7.len ⟨c2, G, u, a7, k, b7, z, a8, t, B, b6, y, K, μ0, _, ⟨rfl, rfl⟩, (kY.refl _), (d.kz St), rfl, rfl, rfl, d6, c6, d3, c7, d2, hm⟩ dc dc dc (fun _ _ _ h => by obtain ⟨_, _, _, _, _, _, _, _, _, _, _, _, _, _, _, aa, _⟩ := h; exact aa) ?_ ?_))
 ·rintro f6 E W g3 ⟨a3, N, M, a4, Q, a9, T, q, U, a0, a5, Y, a2, c1, d5, ⟨eI, eN⟩, b1, d, L, c3, c4, P, A, R, b4, b5, D⟩
  obtain ⟨I, j8, h4, h3, d9⟩ := lc g3
  rw [h4] at D
  refine bg (VQ (lO (enc := kC) (i := (f6 : Int)) (x0 := I) aX aI c4 eI (d7.mono (Pl.mono _) b1) (aD _) h3) (fun l1 g4 => V (kA rfl (lD d.has g4 bG aI)) (VE (lA d cg (fun k3 e8 d => VO (lf (.agg (kC I).toArray) ((kC I).toArray) d rfl rfl aI (nI I) nb rfl (fun k4 d => ln (kO ?_))))))))
  replace d := d.drew
  have m := d.has.kz (Kb (Kb Sn))
  refine lG m lq (XH 0 rfl m (fun _ hS => kA rfl (kI hS Mh (kC I) rfl bG aI)) (bS D fun l2 g7 D => XE 1 rfl (Eg d kc (la.mn (uq I _ _  g7)) (fun k5 d => ?_))))
  have m := d.has.kz (Kb (Kb Sn))
  refine ⟨m, (X 2 rfl m (kH rfl) (PJ D (fun f7 E W => ∃ e4, ST false (keys b8) w W c1 ((e8, Ol (kC I) 108) :: ((H, Ob #[g, M, c, a, a0, (.int .i64 a2)] 174) :: (N ++ (Q ++ (T ++ (U ++ (Y ++ e4))))))) ∧ E 0 = (.pointer (some ⟨H, 0, none⟩)) ∧ E 5 = (.int .i64 K) ∧ E 7 = (.pointer (some ⟨e8, 0, none⟩)) ∧ E 14 = d1 ∧ E 15 = (.int .i64 (s.length : Int)) ∧ E 16 = (.int .i64 (f6 : Int)) ∧ E 30 = (.bool f7)) (bm 11 2047) 0 ?_ (fun f7 Z d4 => ?_)))⟩
  ·rintro l7 E W ⟨e4, d, c5, e9, f0, f1, f2, f3, i6⟩ J
   refine lT kr (kF (CI J i6 (fun g2 J => ?_) (fun g2 J => ?_)))
   ·refine sg (Wh c5 (V (kA f0 (kI d.has Mh (kC I) rfl bG aI)) (bS J fun O g8 J => ?_)))
    refine VE (eM d (Cb (Pb Pz) (Cr (Qb Qz) (Cr (Qb Qz) (Cr (Qb Qz) (Cr (Qb Qz) (Cr (Qb Qz) Cn)))))) call171 (fun hh _ => mh.mn (Gg H g a3 N M a4 Q c a9 T a q U a0 a5 Y a2 I _ _ hh P A R b4 b5 g8)) ?_)
    rintro _ l4 l8 k0 d f4 ab n ⟨f8, e5, e6, e7, c8, rfl, e0, e1, e2⟩
    obtain rfl := c8.symm
    replace d := d.perm (Tb (Tr (Tr (Tr (Tr (Tr Tn))))))
    refine ln (kL (Wh c5 (V (kA f0 (kI d.has (Mt (Ma (Ma (Ma (Ma (Ma Mh)))))) (kC I) rfl bG aI)) (bS J fun d8 g9 J => ?_))))
    refine VE (eM d (Cb Pz (Cr Qz (Cr Qz (Cr Qz (Cr Qz (Cr Qz Cn)))))) call172 (fun hh _ => (Fx H g a3 N f8 O.1 e5 c O.2.1 e6 a O.2.2 e7 a0 a5 Y a2 I _ _ hh P e0 e1 e2 b5 g9)) ?_)
    rintro _ l5 j0 k1 d f5 ad n ⟨i2, i8, i3, c9, rfl, h5, h6⟩
    obtain rfl := c9.symm
    replace d := d.perm (Tb (Tr (Tr (Tr (Tr (Tr Tn))))))
    refine lh (lu (kF ?_))
    replace d := d.kz (Kb (Kr (Kr (Kr (Kr (Kr (Db St)))))))
    exact ⟨f3, d8.1, i2, f8, O.1, e5, O.2.1, e6, O.2.2, e7, i8, d8.2.1, i3, d8.2.2, j0, _, ⟨rfl, f2⟩, ((b1.trans f4).trans f5), (d.kz St), c5, e9, f1, h5, e0, e1, e2, h6, (by rw [d9]; exact J)⟩
   refine lz (lu (kF ?_))
   replace d := d.kz (Db St)
   exact ⟨f3, a3, N, M, a4, Q, a9, T, q, U, a0, a5, Y, a2, c1, _, ⟨rfl, f2⟩, b1, (d.kz St), c5, e9, f1, P, A, R, b4, b5, (by rw [d9]; exact J)⟩
  refine bC Z (fun j Z => ?_) (fun j Z => ?_)
  ·refine Xg 3 rfl rfl (cB j) m (kH L) (Xg 4 rfl rfl (cB j) m (nv rfl) (Xg 5 rfl rfl (cB j) m (kD KC rfl) (uW 6 rfl rfl (cB j) m (fun _ hS => kA rfl (kM hS (Mt Mh) rfl iC)) (uW 7 rfl rfl (cB j) m (fun _ hS => kA rfl (kI hS Mh (kC I) rfl bG aI)) (bS Z fun l3 h1 Z => DH 8 rfl rfl (cB j) (Eg d call151 (la.mn (Jn M a4 I _ _ (A.sl mW (fun b o hq => d.at_ (Mt (Mt (Ma (Ml hq)))))) h1)) (fun k8 d => ?_)))))))
   have m := d.has.kz (Kb (Kb Sn))
   refine ⟨m, (Xg 9 rfl rfl (cB j) m (mQ rfl) (X 10 rfl m (kR (cB j) rfl) ?_))⟩
   obtain rfl := sj Z
   refine nx kr (d4 _ _ ⟨_, (d.kz St), L, c3, rfl, c4, eN, eI, rfl⟩)
  refine Xn 3 rfl rfl (cB j) m (Xn 4 rfl rfl (cB j) m (Xn 5 rfl rfl (cB j) m (Xn 6 rfl rfl (cB j) m (Xn 7 rfl rfl (cB j) m (Xn 8 rfl rfl (cB j) m (Xn 9 rfl rfl (cB j) m (X 10 rfl m (kQ (cB j) rfl) ?_)))))))
  obtain rfl := sj Z
  refine nx kr (d4 _ _ ⟨_, (d.kz St), L, c3, rfl, c4, eN, eI, rfl⟩)
 rintro E W ⟨a3, N, M, a4, Q, a9, T, q, U, a0, a5, Y, a2, c1, d5, ⟨eI, eN⟩, b1, d, L, c3, c4, P, A, R, b4, b5, D⟩
 rw [aG] at D
 refine kF (sg (Wh L (bS D fun i7 h2 D => ?_)))
 refine VE (eM d (Cb Pz (Cr Qz (Cr Qz (Cr Qz (Cr Qz (Cr Qz Cn)))))) call173 (fun hh _ => (ER H g a3 N M a4 Q c a9 T a q U a0 a5 Y a2 _ _ hh P A R b4 b5 h2)) ?_)
 rintro _ l6 l9 k2 d j6 ae n ⟨i4, i9, i5, d0, rfl, h7, h8⟩
 obtain rfl := d0.symm
 replace d := d.perm (Tb (Tr (Tr (Tr (Tr (Tr Tn))))))
 refine lr (Wh L (Wn (Wf HN (VB d Mh rfl rfl cC (Wh c3 (Wi rfl (Wa (lt ?_))))))))
 obtain rfl := sj D
 exact lI (v := (.int .i64 (wi0 .i64 (i7.2.2 - K)))) rfl rfl ⟨_, _, rfl, (d.mL (Kb (Kr (Kr (Kr (Kr (Kr Sn))))))), i4, M, Q, T, U, i9, i5, rfl, rfl, h7, A, R, b4, h8⟩
theorem QY (j : Value) (H : List ky) (r : ((List (kw × (List (ByteArray × Bool)))) × (List ky) × (List (kw × (List ky))) × (List (ByteArray × (List ky))) × (List kB) × Int)) (w : World) (J : Sl (Pl kC) 9 (hp w) j H) (hm : xL H = some r) :
  mh false pg0 47 [j] w [] (fun v L1 W' => ∃ n q S3 s S6 A S9 D u G y, v = (.pointer (some ⟨n, 0, none⟩)) ∧ L1 = ((n, Ob #[q, s, A, D, G, (.int .i64 (r.2.2.2.2.2))] 174) :: (S3 ++ (S6 ++ (S9 ++ (u ++ (y ++ [])))))) ∧ mR (fun (x : kw) => (.agg (kx x).toArray)) (mu Value.string (fun (x : Bool) => (Value.bool x))) q r.1 S3 ∧ kU 108 kC 9 s r.2.1 S6 ∧ mR (fun (x : kw) => (.agg (kx x).toArray)) (kU 108 kC 9) A r.2.2.1 S9 ∧ mR Value.string (kU 108 kC 9) D r.2.2.2.1 u ∧ qL 38 kK 3 G r.2.2.2.2.1 y) := by
 refine sP 13 func47 rfl (fun d => sg (Wa (lr (VE (FJ (P := pg0) (fun (x : kw) => (.agg (kx x).toArray)) (mu Value.string (fun (x : Bool) => (Value.bool x))) d (fun W1 v4 R2 d z => VE (FJ (P := pg0) (fun (x : kw) => (.agg (kx x).toArray)) (kU 108 kC 9) d (fun W5 v8 R6 d B => VE (FJ (P := pg0) Value.string (kU 108 kC 9) d (fun W9 c4 Y d t => ?_))))))))))
 obtain ⟨a, rfl⟩ := z.form
 obtain ⟨c, rfl⟩ := B.form
 obtain ⟨g, rfl⟩ := t.form
 refine V (nc (v := (.agg #[(.map (some a)), (.slice none 0 0), (.map (some c)), (.map (some g)), (.slice none 0 0), (.int .i64 0)])) (SJ rfl rfl rfl) (mB zeroValue174 ez (Yf _ ez) kr)) (VE (lB d rfl (fun c1 k d => Wa (lr (Wm (Wm (bS hm fun c3 K hm => ?_)))))))
 refine VE (eM d (Cb Pz (Cr (Qr (Qr Qz)) (C0 (Cr (Qr Qz) (Cr Qz (C0 Cn)))))) call109 (fun O m => (GI k (.map (some a)) ([]) R2 (.slice none 0 0) ([]) [] (.map (some c)) ([]) R6 (.map (some g)) ([]) Y (.slice none 0 0) ([]) [] 0 j H _ _ O z (kU.nil _ _ _) B t (qL.nil _ _ _) (J.mono (Pl.mono _) m) K)) ?_)
 rintro _ c5 c6 W d R o h ⟨Z, I, a2, a3, a4, L, a5, i, rfl, M, N, Q, T, U⟩
 obtain rfl := i.symm
 replace d := d.perm (Tb (Tr (Tr (Tr (Tr (Tr Tn))))))
 refine lr (Wm (Wa (lt ?_)))
 obtain rfl := sj hm
 exact lI (v := (.pointer (some ⟨k, 0, none⟩))) rfl rfl ⟨_, _, rfl, (d.NA (Kb (Kr (Kr (Kr (Kr (Kr Sn))))))), k, (.map (some a)), Z, I, a2, (.map (some c)), a3, (.map (some g)), a4, L, a5, rfl, rfl, M, N, Q, T, U⟩
theorem Sa (i : tH) (a c g t j k : Value) (r : ((List (kw × (List (ByteArray × Bool)))) × (List ky) × (List (kw × (List ky))) × (List (ByteArray × (List ky))) × (List kB) × Int × ByteArray × ByteArray × Int)) (w : World) (y : Sl oL 15 (hp w) a i.lR.nr) (z : Sl vc 8 (hp w) c i.lR.oq) (u : Sl (Pl kC) 9 (hp w) g i.lH) (G : Sl (Pl kC) 9 (hp w) t i.Shown) (B : Sl (Pl kx) 2 (hp w) j i.mA) (D : Sl (Pl kx) 2 (hp w) k i.qz) (hm : Eo i = some r) :
  mh false pg0 73 [(.agg #[(.string i.lR.Name), a, c, (.string i.og), (.int .i64 i.Room), g, t, j, k])] w [] (fun v L1 W' => ∃ m n q S4 s S7 A J U K Y M Q, v = (.func (.func 144) #[] #[(.pointer (some ⟨m, 0, none⟩)), (.pointer (some ⟨Q, 0, none⟩))]) ∧ L1 = ((m, Ob #[(.pointer (some ⟨n, 0, none⟩))] 101) :: ((n, Ob #[q, s, A, U, Y, (.int .i64 (r.2.2.2.2.2.1))] 174) :: ((Q, Ob #[(.string (r.2.2.2.2.2.2.1)), a, c, (.string (r.2.2.2.2.2.2.2.1)), (.int .i64 (r.2.2.2.2.2.2.2.2)), g, t, j, k] 54) :: (S4 ++ (S7 ++ (J ++ (K ++ (M ++ [])))))))) ∧ mR (fun (x : kw) => (.agg (kx x).toArray)) (mu Value.string (fun (x : Bool) => (Value.bool x))) q r.1 S4 ∧ kU 108 kC 9 s r.2.1 S7 ∧ mR (fun (x : kw) => (.agg (kx x).toArray)) (kU 108 kC 9) A r.2.2.1 J ∧ mR Value.string (kU 108 kC 9) U r.2.2.2.1 K ∧ qL 38 kK 3 Y r.2.2.2.2.1 M) := by
 refine sP 8 func73 rfl (fun d => sg ?_)
 obtain ⟨A1, c2, rfl⟩ := y.form
 obtain ⟨A3, c4, rfl⟩ := z.form
 obtain ⟨A5, c6, rfl⟩ := u.form
 obtain ⟨A7, c8, rfl⟩ := G.form
 obtain ⟨A9, c1, rfl⟩ := B.form
 obtain ⟨a7, c3, rfl⟩ := D.form
 refine VE (lB d rfl (fun e6 N d => Wa (lr (Wf Du (VB d Mh rfl rfl iC (bS hm fun f0 L hm => ?_))))))
 refine VE (Jy d (dp _) call47 (fun _ _ _ _ => (QY (.slice A5 i.lH.length c6) i.lH _ _ (u.mono (Pl.mono _) d.kJ) L)) (fun e7 f1 f2 e5 d d6 o h Z => ?_) (L0 := []))
 obtain ⟨I, c7, a9, c9, P, d1, R, d2, W, d3, b5, H, rfl, a2, a3, a4, a5, O⟩ := Z
 replace H := H.symm; subst H
 replace d := d.perm (Tb (Tr (Tr (Tr (Tr (Tr Tn))))))
 refine VE (lA d zeroValue101 (fun e8 T d => VO (lf (.pointer (some ⟨I, 0, none⟩)) (#[(.pointer (some ⟨I, 0, none⟩))]) d rfl rfl sizeOf101 oc nb rfl (fun e9 d => lr (V (vz (by exact pI rfl rfl) rfl) (Wa (lt ?_)))))))
 obtain rfl := sj hm
 exact lI (v := (.func (.func 144) #[] #[(.pointer (some ⟨T, 0, none⟩)), (.pointer (some ⟨N, 0, none⟩))])) rfl rfl ⟨_, _, rfl, (d.NA (Kb (Kb (Sb (Pr (Pr (Pr (Pr (Pr Pz))))) (Kr (Kr (Kr (Kr (Kr Sn))))))))), T, I, c7, a9, c9, P, d1, R, d2, W, d3, b5, N, rfl, rfl, a2, a3, a4, a5, O⟩
theorem Gj (T : Formula → Int → Option (Int × Int)) (q : ∀ (t : Formula) (j : Value) (I : Int) (r : (Int × Int)) (w : World) (g : Sl kW 5 (hp w) j t.Kids), T t I = some r → la false pg0 211 [(.agg #[(.int .i64 t.Op), (.int .i64 t.K), (.string t.kw.kE), (.string t.kw.kT), j]), (.int .i64 I)] w (.tuple #[(.int .i64 r.1), (.int .i64 r.2)])) (t : Formula) (j : Value) (I : Int) (r : (Int × Int)) (w : World) (g : Sl kW 5 (hp w) j t.Kids) (hm : xJ T t I = some r) :
  la false pg0 211 [(.agg #[(.int .i64 t.Op), (.int .i64 t.K), (.string t.kw.kE), (.string t.kw.kT), j]), (.int .i64 I)] w (.tuple #[(.int .i64 r.1), (.int .i64 r.2)]) := by
 refine cG 40 func211 rfl (fun d => sg ?_)
 obtain ⟨A1, c2, rfl⟩ := g.form
 refine VE (lB d rfl (fun W4 b3 d => Wa (Wa (lr (Wa (Wa (lS (Wf uu ?_))))))))
 refine VB d Mh rfl rfl fa (V (ly bZ rfl g) (Wm (ln ?_)))
 replace d := d.kz (Db St)
 refine CJ hm (fun Q E W => ∃ a2, ST false ll w W (hp w) a2 ∧ E 6 = (.int .i64 Q.1) ∧ E 7 = (.int .i64 Q.2)) (fun Q a5 => ?_) ?_
 ·refine lp (fun i E W => ∃ y z J, (E 15 = .int .i64 (i : Nat) ∧ E 14 = .int .i64 (t.Kids.length : Nat)) ∧ ST false ll w W (hp w) J ∧ E 1 = (.int .i64 I) ∧ E 6 = (.int .i64 y) ∧ E 7 = (.int .i64 z) ∧ E 13 = (.slice A1 t.Kids.length c2) ∧ qm I T (t.Kids.drop i) y z = some Q) t.Kids.length g.len ⟨1, 0, _, ⟨rfl, rfl⟩, (d.kz St), rfl, rfl, rfl, rfl, a5⟩ dc dc dc (fun _ _ _ h => by obtain ⟨_, _, _, n, _⟩ := h; exact n) ?_ ?_
  ·rintro P E W a3 ⟨y, z, J, ⟨m, o⟩, d, G, x, H, K, a⟩
   obtain ⟨c, c6, A, s, a9⟩ := lc a3
   rw [A] at a
   refine bg (VQ (su (i := (P : Int)) (x0 := c) kW.out bZ aZ K m g (aD _) s) (fun c4 ⟨_, ⟨c5, rfl, N⟩, Y⟩ => V (kA rfl (lD d.has Y cx aZ)) (VE (lA d dB (fun b9 c3 d => ?_)))))
   obtain ⟨B, D, rfl⟩ := N.form
   let a0 := (C1 c.Op c.K c.kw.kE c.kw.kT B c.Kids.length D)
   refine VO (lf (.agg a0.toArray) (a0.toArray) d rfl rfl aZ oc nb rfl (fun c0 d => lS (Wh x (Wh G (Wi rfl (ln (CI a rfl (fun U a => ?_) (fun U a => ?_))))))))
   ·refine ob (nN (Xr (by simp) (nN (uf (kF ?_)))))
    obtain rfl := sj a
    exact ⟨_, (d.kz (Db St)), x, H⟩
   refine kg (VA d Mh a0 cx aZ (Wh G (Wh x (Wi rfl (bS a fun M Z a => VE (Eg d call211 (q c (.slice B c.Kids.length D) (wi0 .i64 (I - y)) _ _ (N.mono lW.mono d.kJ) Z) (fun c1 d => Wm (Wx rfl (Wx rfl (Wa (Wa ?_)))))))))))
   refine ln ?_
   replace d := d.kz (Db St)
   exact kL (Wh x (Wm (Wi rfl (Wh H (Wm (V (N7 (k := .i64) rfl rfl) (Wa (Wa (lh (lu (kF ⟨m, (wi0 .i64 (y + M.1)), (if M.2 > z then M.2 else z), _, ⟨rfl, o⟩, (d.kz St), G, rfl, rfl, K, (by rw [a9]; exact a)⟩)))))))))))
  rintro E W ⟨y, z, J, ⟨m, o⟩, d, G, x, H, K, a⟩
  rw [aG] at a
  refine kF ?_
  obtain rfl := sj a
  exact ⟨_, (d.kz St), x, H⟩
 rintro ⟨R, b7⟩ E W ⟨a2, d, L, O⟩ a4
 refine sg (Wh L (Wh O (Wi rfl (Wa (Wa (lt ?_))))))
 obtain rfl := sj a4
 exact qF (v := (.int .i64 R)) (u := (.int .i64 (wi0 .i64 (b7 + 1)))) rfl rfl rfl ⟨rfl, d.ex⟩
theorem D6 : ∀ (n : Nat) (c : Formula) (a : Value) (i : Int) (r : (Int × Int)) (w : World) (g : Sl kW 5 (hp w) a c.Kids) (_ : pa n c i = some r),
  la false pg0 211 [(.agg #[(.int .i64 c.Op), (.int .i64 c.K), (.string c.kw.kE), (.string c.kw.kT), a]), (.int .i64 i)] w (.tuple #[(.int .i64 r.1), (.int .i64 r.2)])
 | 0 => by intros; rename_i h; simp only [pa] at h; cases h
 | n + 1 => Gj (pa n) (D6 n)
theorem Kh (a : Formula) (g : Value) (r : (Int × Int)) (w : World) (c : Sl kW 5 (hp w) g a.Kids) (hm : zr a = some r) :
  la false pg0 174 [(.agg #[(.int .i64 a.Op), (.int .i64 a.K), (.string a.kw.kE), (.string a.kw.kT), g])] w (.tuple #[(.int .i64 r.1), (.int .i64 r.2)]) := by
 refine cG 15 func174 rfl (fun d => sg ?_)
 obtain ⟨i, j, rfl⟩ := c.form
 refine VE (lB d rfl (fun y B d => Wa (Wa (lr (VA d Mh (C1 a.Op a.K a.kw.kE a.kw.kT i a.Kids.length j) cx aZ (bS hm fun x t hm => VE (Eg d call211 ((D6 lC) a (.slice i a.Kids.length j) 4096 _ _ (c.mono lW.mono d.kJ) t) (fun z d => Wm (Wx rfl (Wx rfl (Wa (Wa ?_))))))))))))
 refine ln ?_
 replace d := d.kz (Db St)
 refine kO (sg (Wm (Wi rfl (ln (CI hm rfl (fun k hm => ?_) (fun k hm => ?_))))))
 ·refine sg (Wa (Wa (lt (lb ?_))))
  obtain rfl := sj hm
  exact qF (v := (.int .i64 0)) (u := (.int .i64 0)) rfl rfl rfl ⟨rfl, d.ex⟩
 refine kg (Wm (Wm (Wa (Wa (lt ?_)))))
 obtain rfl := sj hm
 exact qF (v := (.int .i64 x.1)) (u := (.int .i64 x.2)) rfl rfl rfl ⟨rfl, d.ex⟩
theorem J8 (a : Formula) (H : Value) (r : Bool) (w : World) (t : Sl kW 5 (hp w) H a.Kids) (hm : zn a = some r) :
  la true pg0 212 [(.agg #[(.int .i64 a.Op), (.int .i64 a.K), (.string a.kw.kE), (.string a.kw.kT), H])] w (.bool r) := by
 refine cG 63 func212 rfl (fun d => sg ?_)
 obtain ⟨A1, c2, rfl⟩ := t.form
 let n := (C1 a.Op a.K a.kw.kE a.kw.kT A1 a.Kids.length c2)
 refine VE (lB d rfl (fun W4 N d => Wa (lr (V (nc (v := (.agg (kx K0).toArray)) um (mB bP cI (G5 _ cI) kr)) (VE (lA d bP (fun W6 O d => VO (lf (.agg (kx K0).toArray) ((kx K0).toArray) d rfl rfl aC (mE K0) nb rfl (fun W7 d => lS (Wf wS ?_))))))))))
 refine VB d (Mt Mh) rfl rfl cC (ln (bg (Wi rfl (Wa (ln (CI hm rfl (fun d9 hm => ?_) (fun d9 hm => ?_)))))))
 ·refine sg (Wf yI (VA d (Mt Mh) (kx a.kw) aN aC (bS hm fun f7 e5 hm => VE (Eg d jA (sB a.kw _ _  e5) (fun f5 d => Wm (LJ hm (fun d2 E W => ∃ c4, ST true ll w W (hp w) ((N, Ol n 57) :: c4) ∧ E 1 = (.pointer (some ⟨N, 0, none⟩)) ∧ E 2 = (.bool false) ∧ E 17 = (.bool d2)) 5 ?_ (fun d2 J a4 => ?_)))))))
  ·rintro f8 E W ⟨c4, d, e7, c9, e8⟩ e1
   refine Wh e8 (LJ e1 (fun d1 E W => ∃ c5, ST true ll w W (hp w) c5 ∧ E 2 = (.bool false) ∧ E 22 = (.bool d1)) 4 ?_ (fun d1 I a3 => ?_))
   ·rintro f9 E W ⟨c5, d, f6, e9⟩ e2
    refine Wg e9 (lt (me (lb ?_)))
    obtain rfl := sj e2
    exact rP d
   refine bC I (fun u I => ?_) (fun u I => ?_)
   ·refine ug u (kD zV e7) (ug u (kA rfl (kM d.has Mh rfl cC)) (ug u (lL rfl rfl rfl) (V (kR (cB u) rfl) ?_)))
    obtain rfl := sj I
    exact a3 _ _ ⟨_, (d.kz (Db St)), c9, rfl⟩
   refine un u (un u (un u (V (kQ (cB u) rfl) ?_)))
   obtain rfl := sj I
   exact a3 _ _ ⟨_, (d.kz (Db St)), c9, rfl⟩
  refine bC J (fun j J => ?_) (fun j J => ?_)
  ·refine ug j (kD uu rfl) (ug j (kA rfl (kM d.has (Mt Mh) rfl fa)) (ug j (ly bZ rfl t) (ug j (lL rfl rfl rfl) (V (kR (cB j) rfl) ?_))))
   obtain rfl := sj J
   exact a4 _ _ ⟨_, (d.kz (Db St)), rfl, rfl, rfl⟩
  refine un j (un j (un j (un j (V (kQ (cB j) rfl) ?_))))
  obtain rfl := sj J
  exact a4 _ _ ⟨_, (d.kz (Db St)), rfl, rfl, rfl⟩
 let a0 := (n.toArray : Array Value)
 let h : Value := (.pointer (some ⟨N, 0, none⟩))
 refine kO (CJ hm (fun R E W => ∃ c6, ST true ll w W (hp w) ((O, Ol (kx K0) 28) :: ((N, Obj.cells a0 57 (0, 0)) :: c6)) ∧ E 1 = h ∧ E 3 = (.pointer (some ⟨O, 0, none⟩)) ∧ E 23 = (.bool R)) (fun R G => ?_) ?_)
 ·refine sg (Wi rfl (Wa (ln (CI G rfl (fun b9 G => ?_) (fun b9 G => ?_)))))
  ·refine kn ?_
   obtain rfl := sj G
   exact ⟨_, (d.kz St), rfl, rfl, rfl⟩
  refine kL (Wi rfl (Wa (ln ?_)))
  obtain rfl := sj G
  exact ⟨_, (d.kz St), rfl, rfl, rfl⟩
 rintro g0 E W ⟨c6, d, Q, d0, f0⟩ K
 refine CI K f0 (fun e0 K => ?_) (fun e0 K => ?_)
 ·refine sg (V (kD yI Q) (VA d (Mt Mh) (kx a.kw) aN aC (V (kA d0 (kI d.has Mh (kx K0) rfl aN aC)) (V (tT rfl rfl (mY cQ) (pK (nJ _ a.kw K0))) (Wm (LJ K (fun d3 E W => ∃ c7, ST true ll w W (hp w) c7 ∧ E 34 = (.bool d3)) 4 ?_ (fun d3 M a5 => ?_)))))))
  ·rintro g1 E W ⟨c7, d, f1⟩ e3
   refine Wg f1 (lt (me (lb ?_)))
   obtain rfl := sj e3
   exact rP d
  refine bC M (fun x M => ?_) (fun x M => ?_)
  ·refine ug x (kD zV Q) (ug x (kA rfl (kM d.has (Mt Mh) rfl cC)) (ug x (lL rfl rfl rfl) (V (kR (cB x) rfl) ?_)))
   obtain rfl := sj M
   exact a5 _ _ ⟨_, (d.kz (Db (Db St))), rfl⟩
  refine un x (un x (un x (V (kQ (cB x) rfl) ?_)))
  obtain rfl := sj M
  exact a5 _ _ ⟨_, (d.kz (Db (Db St))), rfl⟩
 refine lz (lu (kF (sg (V (kD wS Q) (VB d (Mt Mh) rfl rfl cC (Wi rfl (Wm (LJ K (fun P E W => ∃ c8, ST true ll w W (hp w) ((N, Obj.cells a0 57 (0, 0)) :: c8) ∧ E 1 = h ∧ E 43 = (.bool P)) 5 ?_ (fun P D m => ?_)))))))))
 ·rintro g2 E W ⟨c8, d, a2, d4⟩ e4
  refine Wh d4 (LJ e4 (fun L E W => ∃ o, ST true ll w W (hp w) ((N, Obj.cells a0 57 (0, 0)) :: o) ∧ E 1 = h ∧ E 48 = (.bool L)) 4 ?_ (fun L B Z => ?_))
  ·rintro f2 E W ⟨o, d, T, d5⟩ c0
   refine Wh d5 (LJ c0 (fun A E W => ∃ a9, ST true ll w W (hp w) ((N, Obj.cells a0 57 (0, 0)) :: a9) ∧ E 1 = h ∧ E 56 = (.bool A)) 7 ?_ (fun A z Y => ?_))
   ·rintro f3 E W ⟨a9, d, d6, d7⟩ c1
    refine Wh d7 (LJ c1 (fun s E W => ∃ q, ST true ll w W (hp w) q ∧ E 62 = (.bool s)) 5 ?_ (fun s y U => ?_))
    ·rintro f4 E W ⟨q, d, d8⟩ c3
     exact Wg d8 (lt (rQ c3 d))
    refine bC y (fun g y => ?_) (fun g y => ?_)
    ·refine ug g (kD uu d6) (ug g (kA rfl (kM d.has Mh rfl fa)) (ug g (ly bZ rfl t) (ug g (lL rfl rfl rfl) (V (kR (cB g) rfl) ?_))))
     obtain rfl := sj y
     exact U _ _ ⟨_, (d.kz (Db St)), rfl⟩
    refine un g (un g (un g (un g (V (kQ (cB g) rfl) ?_))))
    obtain rfl := sj y
    exact U _ _ ⟨_, (d.kz (Db St)), rfl⟩
   refine bC z (fun c z => ?_) (fun c z => ?_)
   ·refine ug c (kD zV T) (ug c (kA rfl (kM d.has Mh rfl cC)) (ug c (kD uu T) (ug c (kA rfl (kM d.has Mh rfl fa)) (ug c (ly bZ rfl t) (ug c (lL rfl rfl rfl) (V (kR (cB c) rfl) ?_))))))
    obtain rfl := sj z
    exact Y _ _ ⟨_, (d.kz St), T, rfl⟩
   refine un c (un c (un c (un c (un c (un c (V (kQ (cB c) rfl) ?_))))))
   obtain rfl := sj z
   exact Y _ _ ⟨_, (d.kz St), T, rfl⟩
  refine bC B (fun i B => ?_) (fun i B => ?_)
  ·refine ug i (kD zV a2) (ug i (kA rfl (kM d.has Mh rfl cC)) (ug i (lL rfl rfl rfl) (V (kR (cB i) rfl) ?_)))
   obtain rfl := sj B
   exact Z _ _ ⟨_, (d.kz St), a2, rfl⟩
  refine un i (un i (un i (V (kQ (cB i) rfl) ?_)))
  obtain rfl := sj B
  exact Z _ _ ⟨_, (d.kz St), a2, rfl⟩
 refine bC D (fun k D => ?_) (fun k D => ?_)
 ·refine ug k (kD yI Q) (ug k (kA rfl (kI d.has (Mt Mh) (kx a.kw) rfl aN aC)) (ug k (kA d0 (kI d.has Mh (kx K0) rfl aN aC)) (ug k (tT rfl rfl (mY cQ) (pK (nJ _ a.kw K0))) (V (kR (cB k) rfl) ?_))))
  obtain rfl := sj D
  exact m _ _ ⟨_, (d.kz (Db St)), Q, rfl⟩
 refine un k (un k (un k (un k (V (kQ (cB k) rfl) ?_))))
 obtain rfl := sj D
 exact m _ _ ⟨_, (d.kz (Db St)), Q, rfl⟩
theorem Cq (g : Value) (t : List Formula) (j : Value) (z : Formula → Option Bool) (r : Int) (w : World) (c : Sl kW 5 (hp w) g t) (B : Le pg0 j (hp w) (Om kW) (fun (r : Bool) => (.bool r)) z) (hm : uT t z = some r) :
  la false pg0 253 [g, j] w (.int .i64 r) := by
 refine cG 19 func253 rfl (fun d => sg (Wa (lS (Wm (V (ly bZ rfl c) (Wm (ln (lp (fun i E W => ∃ k, (E 8 = .int .i64 (i : Nat) ∧ E 7 = .int .i64 (t.length : Nat)) ∧ ST false ll w W (hp w) k ∧ E 0 = g ∧ E 1 = j ∧ nM z (t.drop i) i = some r) t.length c.len ⟨_, ⟨rfl, rfl⟩, (d.kz St), rfl, rfl, hm⟩ dc dc dc (fun _ _ _ h => by obtain ⟨_, n, _⟩ := h; exact n) ?_ ?_))))))))
 ·rintro Q E W G ⟨k, ⟨m, o⟩, d, u, x, a⟩
  obtain ⟨y, U, M, K, N⟩ := lc G
  rw [M] at a
  refine bg (Wh m (Wa (lr (Wh x (Wh u (Wm (VQ (su (i := (Q : Int)) (x0 := y) kW.out bZ aZ rfl rfl c (aD _) K) (fun Z ⟨_, ⟨T, rfl, J⟩, H⟩ => V (kA rfl (lD d.has H cx aZ)) (bS a fun q I a => ?_)))))))))
  refine VE (XZ y d B (kY.refl _) (Om.mk lW (kW.mk ⟨T, rfl, J⟩) d.kJ) rfl (pH rfl) I (fun Y d => ln (CI a rfl (fun D a => ?_) (fun D a => ?_))))
  ·refine sg (Wm (Wa (lt (me (lb (me (lb ?_)))))))
   obtain rfl := sj a
   exact rP d
  exact lz (lu (kF ⟨m, _, ⟨rfl, o⟩, (d.kz St), u, x, (by rw [N]; exact a)⟩))
 rintro E W ⟨k, ⟨m, o⟩, d, u, x, a⟩
 rw [aG] at a
 exact kF (sg (Wa (lt (rQ a d))))
theorem Bq (a : Value) (g : List Formula) (c : Value) (i : Formula → Option Bool) (r : Bool) (w : World) (j : Sl kW 5 (hp w) a g) (k : Le pg0 c (hp w) (Om kW) (fun (r : Bool) => (.bool r)) i) (hm : oK g i = some r) :
  la false pg0 213 [a, c] w (.bool r) := by
 refine cG 9 func213 rfl (fun d => sg (Wa (lr (Wm (Wm (bS hm fun x t hm => VE (Eg d call253 (Cq a g c i _ _ (j.mono lW.mono d.kJ) (k.mono d.kJ) t) (fun u d => Wi rfl (Wa (lh ?_))))))))))
 exact kF (lj (rQ hm d))
theorem GY (i : Formula → Option Bool) (t : ∀ (c : Formula) (a : Value) (r : Bool) (w : World) (g : Sl kW 5 (hp w) a c.Kids), i c = some r → la false pg0 175 [(.agg #[(.int .i64 c.Op), (.int .i64 c.K), (.string c.kw.kE), (.string c.kw.kT), a])] w (.bool r)) (c : Formula) (a : Value) (r : Bool) (w : World) (g : Sl kW 5 (hp w) a c.Kids) (hm : wG i c = some r) :
  la false pg0 214 [(.agg #[(.int .i64 c.Op), (.int .i64 c.K), (.string c.kw.kE), (.string c.kw.kT), a])] w (.bool r) := by
 refine cG 6 func214 rfl (fun d => sg ?_)
 obtain ⟨j, k, rfl⟩ := g.form
 refine VE (lB d rfl (fun x z d => Wa (lr (VA d Mh (C1 c.Op c.K c.kw.kE c.kw.kT j c.Kids.length k) cx aZ (bS hm fun B u hm => VE (Eg d call175 (t c (.slice j c.Kids.length k) _ _ (g.mono lW.mono d.kJ) u) (fun y d => V (mQ rfl) (Wa (ln ?_)))))))))
 exact lj (rQ hm d)
theorem FL (z : Formula → Option Bool) (T : ∀ (a : Formula) (g : Value) (r : Bool) (w : World) (c : Sl kW 5 (hp w) g a.Kids), z a = some r → la false pg0 175 [(.agg #[(.int .i64 a.Op), (.int .i64 a.K), (.string a.kw.kE), (.string a.kw.kT), g])] w (.bool r)) (a : Formula) (g : Value) (r : Bool) (w : World) (c : Sl kW 5 (hp w) g a.Kids) (hm : xN z a = some r) :
  la false pg0 175 [(.agg #[(.int .i64 a.Op), (.int .i64 a.K), (.string a.kw.kE), (.string a.kw.kT), g])] w (.bool r) := by
 refine cG 17 func175 rfl (fun d => sg ?_)
 obtain ⟨B, D, rfl⟩ := c.form
 let a0 := (C1 a.Op a.K a.kw.kE a.kw.kT B a.Kids.length D)
 refine VE (lB d rfl (fun W4 U d => Wa (lr (VA d Mh a0 cx aZ (bS hm fun L a3 hm => VE (Eg d call212 (la.mn (J8 a (.slice B a.Kids.length D) _ _ (c.mono lW.mono d.kJ) a3)) (fun W7 d => Wm (LJ hm (fun K E W => ∃ G, ST false ll w W (hp w) ((U, Ol a0 57) :: G) ∧ E 1 = (.pointer (some ⟨U, 0, none⟩)) ∧ E 2 = (.bool false) ∧ E 10 = (.bool K)) 5 ?_ (fun K t y => ?_)))))))))
 ·rintro O E W ⟨G, d, Y, I, Z⟩ M
  refine Wh Z (LJ M (fun J E W => ∃ H, ST false ll w W (hp w) H ∧ E 2 = (.bool false) ∧ E 16 = (.bool J)) 5 ?_ (fun J k u => ?_))
  ·rintro v E W ⟨H, d, q, h⟩ N
   exact Wg h (lt (rQ N d))
  refine bC k (fun i k => ?_) (fun i k => ?_)
  ·refine ug i (kD uu Y) (ug i (kA rfl (kM d.has Mh rfl fa)) (bS k fun s Q k => pX i (Eg d call213 (Bq (.slice B a.Kids.length D) a.Kids (.func (.func 214) #[] #[]) (fun (x : Formula) => wG z x) _ _ (c.mono lW.mono d.kJ) ⟨214, #[], #[], rfl, call214, fun W x vs r A m hm => by obtain ⟨_, rfl, a2⟩ := m; obtain ⟨o, rfl, n⟩ := a2.out; exact GY z T x o r W n hm⟩ Q) (fun a5 d => ug i (mQ rfl) (V (kR (cB i) rfl) ?_)))))
   obtain rfl := sj k
   exact u _ _ ⟨_, (d.kz (Db St)), I, rfl⟩
  refine un i (un i (un i (un i (V (kQ (cB i) rfl) ?_))))
  obtain rfl := sj k
  exact u _ _ ⟨_, (d.kz (Db St)), I, rfl⟩
 refine bC t (fun j t => ?_) (fun j t => ?_)
 ·refine ug j (kD uu rfl) (ug j (kA rfl (kM d.has Mh rfl fa)) (ug j (ly bZ rfl c) (ug j (lL rfl rfl rfl) (V (kR (cB j) rfl) ?_))))
  obtain rfl := sj t
  exact y _ _ ⟨_, (d.kz St), rfl, rfl, rfl⟩
 refine un j (un j (un j (un j (V (kQ (cB j) rfl) ?_))))
 obtain rfl := sj t
 exact y _ _ ⟨_, (d.kz St), rfl, rfl, rfl⟩
theorem Ek : ∀ (n : Nat) (c : Formula) (a : Value) (r : Bool) (w : World) (g : Sl kW 5 (hp w) a c.Kids) (_ : sC n c = some r),
  la false pg0 175 [(.agg #[(.int .i64 c.Op), (.int .i64 c.K), (.string c.kw.kE), (.string c.kw.kT), a])] w (.bool r)
 | 0 => by intros; rename_i h; simp only [sC] at h; cases h
 | n + 1 => FL (sC n) (Ek n)
theorem D3 (a : Formula) (k : Value) (r : Bool) (w : World) (c : Sl kW 5 (hp w) k a.Kids) (hm : qO a = some r) :
  la false pg0 110 [(.agg #[(.int .i64 a.Op), (.int .i64 a.K), (.string a.kw.kE), (.string a.kw.kT), k])] w (.bool r) := by
 refine cG 24 func110 rfl (fun d => sg ?_)
 obtain ⟨y, z, rfl⟩ := c.form
 let a0 := (C1 a.Op a.K a.kw.kE a.kw.kT y a.Kids.length z)
 refine VE (lB d rfl (fun W4 H d => Wa (lr (VA d Mh a0 cx aZ (bS hm fun q a9 hm => VE (Eg d call174 (Kh a (.slice y a.Kids.length z) _ _ (c.mono lW.mono d.kJ) a9) (fun W7 d => Wm (Wx rfl (Wx rfl (Wa (Wa (lh ?_))))))))))))
 refine kF (sg (Wm (Wi rfl (Wm (LJ hm (fun Y E W => ∃ I, ST false ll w W (hp w) ((H, Ol a0 57) :: I) ∧ E 1 = (.pointer (some ⟨H, 0, none⟩)) ∧ E 2 = (.bool false) ∧ E 4 = (.int .i64 q.2) ∧ E 15 = (.bool Y)) 3 ?_ (fun Y x G => ?_))))))
 ·rintro P E W ⟨I, d, M, N, a4, a5⟩ Z
  refine Wh a5 (LJ Z (fun U E W => ∃ J, ST false ll w W (hp w) ((H, Ol a0 57) :: J) ∧ E 1 = (.pointer (some ⟨H, 0, none⟩)) ∧ E 2 = (.bool false) ∧ E 19 = (.bool U)) 3 ?_ (fun U u D => ?_))
  ·rintro L E W ⟨J, d, m, Q, n⟩ h
   refine Wh n (LJ h (fun T E W => ∃ K, ST false ll w W (hp w) K ∧ E 2 = (.bool false) ∧ E 23 = (.bool T)) 3 ?_ (fun T j B => ?_))
   ·rintro O E W ⟨K, d, v, o⟩ a2
    exact Wg o (lt (rQ a2 d))
   refine bC j (fun i j => ?_) (fun i j => ?_)
   ·refine ug i (kA m (kI d.has Mh a0 rfl cx aZ)) (bS j fun A a3 j => pX i (Eg d call175 ((Ek lC) a (.slice y a.Kids.length z) _ _ (c.mono lW.mono d.kJ) a3) (fun s d => V (kR (cB i) rfl) ?_)))
    obtain rfl := sj j
    exact B _ _ ⟨_, (d.kz (Db St)), Q, rfl⟩
   refine un i (un i (V (kQ (cB i) rfl) ?_))
   obtain rfl := sj j
   exact B _ _ ⟨_, (d.kz (Db St)), Q, rfl⟩
  refine bC u (fun g u => ?_) (fun g u => ?_)
  ·refine ug g (kH a4) (ug g (lL rfl rfl rfl) (V (kR (cB g) rfl) ?_))
   obtain rfl := sj u
   exact D _ _ ⟨_, (d.kz St), M, N, rfl⟩
  refine un g (un g (V (kQ (cB g) rfl) ?_))
  obtain rfl := sj u
  exact D _ _ ⟨_, (d.kz St), M, N, rfl⟩
 refine bC x (fun t x => ?_) (fun t x => ?_)
 ·refine ug t (kH rfl) (ug t (lL rfl rfl rfl) (V (kR (cB t) rfl) ?_))
  obtain rfl := sj x
  exact G _ _ ⟨_, (d.kz St), rfl, rfl, rfl, rfl⟩
 refine un t (un t (V (kQ (cB t) rfl) ?_))
 obtain rfl := sj x
 exact G _ _ ⟨_, (d.kz St), rfl, rfl, rfl, rfl⟩
theorem F9 (N : Formula → Option (List kw)) (O : ∀ (g : Formula) (k : Value) (r : List kw) (w : World) (j : Sl kW 5 (hp w) k g.Kids), N g = some r → lK false pg0 243 [(.agg #[(.int .i64 g.Op), (.int .i64 g.K), (.string g.kw.kE), (.string g.kw.kT), k])] w 28 kx 2 r) (g : Formula) (k : Value) (r : List kw) (w : World) (j : Sl kW 5 (hp w) k g.Kids) (hm : xI N g = some r) :
  lK false pg0 243 [(.agg #[(.int .i64 g.Op), (.int .i64 g.K), (.string g.kw.kE), (.string g.kw.kT), k])] w 28 kx 2 r := by
 refine sP 25 func243 rfl (fun d => sg ?_)
 obtain ⟨A1, c2, rfl⟩ := j.form
 refine VE (lB d rfl (fun W4 b3 d => Wa (lS (Wf wS (VB d Mh rfl rfl cC (Wi rfl (ln (CI hm rfl (fun b7 hm => ?_) (fun b7 hm => ?_)))))))))
 ·refine sg (Wf yI (VA d Mh (kx g.kw) aN aC (VE (lg (cs := (kx g.kw).toArray) d (mI rfl) (mD aF aC bP) (fun W7 s d => Wa (ln ?_))))))
  replace d := d.kz (Kb (Db St))
  refine lj (lb ?_)
  obtain rfl := sj hm
  exact lI (v := (.slice (some ⟨s, 0, none⟩) 1 1)) rfl rfl ⟨_, [(s, Ol (kx g.kw) 28)], rfl, d.mO (fun p m => by rw [aO] at m; subst m; exact Mh) (by simp), (kU.lit (l := [g.kw]) (enc := kx) rfl dc rfl rfl)⟩
 refine kg (Wa (lS (Wf uu (VB d Mh rfl rfl fa (V (ly bZ rfl j) (Wm (lh ?_)))))))
 refine kF ?_
 replace d := d.kz (Db St)
 refine lp (fun i E W => ∃ u D t G H, (E 15 = .int .i64 (i : Nat) ∧ E 14 = .int .i64 (g.Kids.length : Nat)) ∧ kY (hp w) G ∧ ST false ll w W G (t ++ H) ∧ E 3 = u ∧ E 13 = (.slice A1 g.Kids.length c2) ∧ kU 28 kx 2 u D t ∧ rN N (g.Kids.drop i) D = some r) g.Kids.length j.len ⟨(.slice none 0 0), ([]), [], (hp w), _, ⟨rfl, rfl⟩, (kY.refl _), (d.kz St), rfl, rfl, (kU.nil _ _ _), hm⟩ dc dc dc (fun _ _ _ h => by obtain ⟨_, _, _, _, _, o, _⟩ := h; exact o) ?_ ?_
 ·rintro P E W Y ⟨u, D, t, G, H, ⟨n, A⟩, y, d, I, J, x, c⟩
  obtain ⟨a, b9, a3, a2, a4⟩ := lc Y
  rw [a3] at c
  refine bg (VQ (su (i := (P : Int)) (x0 := a) kW.out bZ aZ J n (j.mono lW.mono y) (aD _) a2) (fun c7 ⟨_, ⟨c9, rfl, K⟩, Z⟩ => V (kA rfl (lD d.has Z cx aZ)) (VE (lA d dB (fun c1 c6 d => ?_)))))
  obtain ⟨z, B, rfl⟩ := K.form
  let a0 := (C1 a.Op a.K a.kw.kE a.kw.kT z a.Kids.length B)
  refine VO (lf (.agg a0.toArray) (a0.toArray) d rfl rfl aZ oc nb rfl (fun c3 d => ln (kL (Wh I (VA d Mh a0 cx aZ (bS c fun c8 L c => VE (pF d call243 (O a (.slice z a.Kids.length B) _ _ (K.mono lW.mono d.kJ) L) (fun c4 a9 b1 c0 d M q Q => ?_))))))))
  replace d := d.perm (Nr (Qr (Qb Qz)) Nz)
  refine bS c fun a8 U c => VE (my (enc := kx) (v := u) (vs := a9) (R := t) d mr dc mE aF mq.1 mq.2.1 rfl mq.2.2.1 mq.2.2.2 rfl rfl x (Q.Sd mr d (fun p m => (Ma (Ml m)))) U (fun c5 b0 a5 d T => Wa (lh (lu (kF ?_)))))
  replace d := d.kz (Kr (Dr (Db St)))
  exact ⟨n, b0, a8, a5, b1, _, ⟨rfl, A⟩, (y.trans M), (d.kz St), rfl, J, T, (by rw [a4]; exact c)⟩
 rintro E W ⟨u, D, t, G, H, ⟨n, A⟩, y, d, I, J, x, c⟩
 rw [aG] at c
 refine kF (sg (Wh I (Wa (lt ?_))))
 obtain rfl := sj c
 exact lI (v := u) rfl rfl ⟨_, t, rfl, d.mO (fun p m => (Ml m)) x.nd, x⟩
theorem Ej : ∀ (n : Nat) (c : Formula) (a : Value) (r : List kw) (w : World) (g : Sl kW 5 (hp w) a c.Kids) (_ : sc n c = some r),
  lK false pg0 243 [(.agg #[(.int .i64 c.Op), (.int .i64 c.K), (.string c.kw.kE), (.string c.kw.kT), a])] w 28 kx 2 r
 | 0 => by intros; rename_i h; simp only [sc] at h; cases h
 | n + 1 => F9 (sc n) (Ej n)
theorem GK (g : Value) (i r : List kw) (w : World) (a : Sl (Pl kx) 2 (hp w) g i) (hm : sW i = some r) :
  lK true pg0 274 [g] w 28 kx 2 r := by
 unfold sW at hm
 refine sP 8 func274 rfl (fun d => sg (Wa (lS (Wm ?_))))
 obtain ⟨y, B, rfl⟩ := a.form
 refine V (D8 aF rfl rfl) (ln ?_)
 rcases y with _ | z
 ·have u := a.isNil
  replace hm : some [] = some r := by rw [u] at hm; simpa [mJ, maxLen] using hm
  refine ze (rfl) (sg (Wa (lt (lb ?_))))
  obtain rfl := sj hm
  exact lI (v := (.slice none 0 0)) rfl rfl ⟨_, [], rfl, d.mO (fun p h => by cases h) (by simp), kU.nil _ _ _⟩
 ·refine qo (rfl) (kg (VE (lg (cs := #[]) d um (zB [] aF aC bP dc rfl (by simp) rfl rfl) (fun G k d => Wm (bS hm fun H t hm => VE (my (enc := kx) (v := (.slice (some ⟨k, 0, none⟩) 0 0)) (vs := (.slice (some z) i.length B)) (R := [(k, Ob #[] 28)]) d mr dc mE aF mq.1 mq.2.1 rfl mq.2.2.1 mq.2.2.2 rfl rfl (kU.lit (l := []) (enc := kx) rfl dc rfl rfl) (a.mono (Pl.mono _) d.kJ) t (fun D x j d c => Wa (lt ?_))))))))
  obtain rfl := sj hm
  exact lI (v := x) rfl rfl ⟨_, j, rfl, d.mO (fun p h => (Ml h)) c.nd, c⟩
theorem zD (g : Value) (t : List kw) (j : Value) (B : kw → Option Bool) (r : Int) (w : World) (c : Sl (Pl kx) 2 (hp w) g t) (D : th pg0 j (hp w) (fun (x : kw) => [(.agg (kx x).toArray)]) (fun (r : Bool) => (.bool r)) B) (hm : ph t B = some r) :
  la false pg0 197 [g, j] w (.int .i64 r) := by
 refine cG 19 func197 rfl (fun d => sg (Wa (lS (Wm (V (ly aF rfl c) (Wm (ln (lp (fun i E W => ∃ k, (E 8 = .int .i64 (i : Nat) ∧ E 7 = .int .i64 (t.length : Nat)) ∧ ST false ll w W (hp w) k ∧ E 0 = g ∧ E 1 = j ∧ nk B (t.drop i) i = some r) t.length c.len ⟨_, ⟨rfl, rfl⟩, (d.kz St), rfl, rfl, hm⟩ dc dc dc (fun _ _ _ h => by obtain ⟨_, n, _⟩ := h; exact n) ?_ ?_))))))))
 ·rintro Q E W H ⟨k, ⟨m, o⟩, d, u, y, a⟩
  obtain ⟨z, T, M, K, N⟩ := lc H
  rw [M] at a
  refine bg (Wh m (Wa (lr (Wh y (Wh u (Wm (VQ (lO (enc := kx) (i := (Q : Int)) (x0 := z) aF aC rfl rfl c (aD _) K) (fun Y I => V (kA rfl (lD d.has I aN aC)) (bS a fun Z J a => ?_)))))))))
  refine VE (Bk z d D (kY.refl _) rfl (pH rfl) J (fun U d => ln (CI a rfl (fun G a => ?_) (fun G a => ?_))))
  ·refine sg (Wm (Wa (lt (me (lb (me (lb ?_)))))))
   obtain rfl := sj a
   exact rP d
  exact lz (lu (kF ⟨m, _, ⟨rfl, o⟩, (d.kz St), u, y, (by rw [N]; exact a)⟩))
 rintro E W ⟨k, ⟨m, o⟩, d, u, y, a⟩
 rw [aG] at a
 exact kF (sg (Wa (lt (rQ a d))))
theorem DS (j : Value) (a0 : List kw) (t : LO) (H : Value) (f1 : kw → Option Bool) (r : List kw) (w : World) {μ0 : lm} (h0 : pP μ0 (t ++ []) w) (T : kU 28 kx 2 j a0 t) (a4 : th pg0 H μ0 (fun (x : kw) => [(.agg (kx x).toArray)]) (fun (r : Bool) => (.bool r)) f1) (hm : rZ a0 f1 = some r) :
  mh false pg0 273 [j, H] w (t ++ []) (fun v L1 W' => ∃ s S2, v = s ∧ L1 = (S2 ++ []) ∧ kU 28 kx 2 s r S2) := by
 refine zN h0 42 func273 rfl (fun d => sg (Wa (lr (Wm (Wm (bS hm fun q d3 hm => VE (Eg d call197 (zD j a0 H f1 _ _ (T.sl mr (fun b o h => d.at_ (Ml h))) (a4.mono d.kJ) d3) (fun W3 d => Wa (ln ?_)))))))))
 refine kO (sg (Wm (Wi rfl (ln (CI hm rfl (fun d2 hm => ?_) (fun d2 hm => ?_))))))
 ·refine sg (Wm (Wa (lt (lb ?_))))
  obtain rfl := sj hm
  exact lI (v := j) rfl rfl ⟨_, _, rfl, (d.mL (Kr Sn)), j, t, rfl, rfl, T⟩
 refine kS (Wm (Wi rfl (Wa (ln (mK (od (fun m E W => ∃ U I B D a2, ST false (keys (t ++ [])) w W μ0 (I ++ a2) ∧ E 0 = j ∧ E 1 = H ∧ E 5 = (.int .i64 B) ∧ E 6 = (.int .i64 D) ∧ kU 28 kx 2 j U I ∧ nY f1 m U B D = some r) lC ⟨a0, t, q, (wi0 .i64 (q + 1)), _, (d.kz St), rfl, rfl, rfl, rfl, T, hm⟩ ?_))))))
 rintro m E W ⟨U, I, B, D, a2, d, y, Q, G, K, g, a⟩
 cases m with
 | zero => rw [nY] at a; cases a
 | succ c8 =>
  refine kO (sg (Wh K (Wh y (V (mP aF rfl g) (Wi rfl (ln (CI a rfl (fun L a => ?_) (fun L a => ?_))))))))
  ·refine kn (kO (CJ a (fun Y E W => ∃ J a3, ST false (keys (t ++ [])) w W μ0 (J ++ a3) ∧ E 0 = j ∧ E 1 = H ∧ E 5 = (.int .i64 Y.2) ∧ E 6 = (.int .i64 D) ∧ kU 28 kx 2 j Y.1 J) (fun Y c => ?_) ?_))
   ·refine bg (Wh y (Wh K (bS c fun k M c => VQ (mC (i := D) (x0 := k) aF aC rfl rfl g (lY M) (lN M)) (fun e4 R => V (kA rfl (ot d.has (fun p h => (Ml h)) g mr R (lN M) aN aC)) (VE (lA d bP (fun d7 e2 d => VO (lf (.agg (kx k).toArray) ((kx k).toArray) d rfl rfl aC (mE k) nb rfl (fun d8 d => lr (Wh Q ?_))))))))))
    refine VA d Mh (kx k) aN aC (bS c fun e6 b5 c => VE (Bk k d a4 (kY.refl _) rfl (pH rfl) b5 (fun d9 d => V (mQ rfl) (ln (CI c rfl (fun O c => ?_) (fun O c => ?_))))))
    ·refine sg (Wh y (Wh G (VA d Mh (kx k) aN aC (bS c fun d0 N c => VQ (mC (i := B) (x0 := d0) aF aC rfl rfl g (lY N) (lN N)) (fun e5 b4 => ?_)))))
     replace d := d.perm (Nr (Qb Qz) Nz)
     refine VO (zd (u := (.agg (kx k).toArray)) (x1 := k)  d g mr mE rfl rfl rfl b4 (lN N) aC (fun e0 c1 d A => ln ?_))
     replace d := d.kz (Kr (Db St))
     refine kL (Wh G (Wi rfl (Wa (lh (lu (kF ?_))))))
     obtain rfl := sj c
     exact ⟨c1, _, (d.kz St), y, Q, rfl, K, A⟩
    refine lz (lu (kF ?_))
    obtain rfl := sj c
    exact ⟨I, _, (d.kz (Db St)), y, Q, G, K, g⟩
   rintro ⟨c7, c9⟩ E W ⟨J, a3, d, c3, c4, c5, c6, b6⟩ P
   exact kL (Wh c6 (Wi rfl (Wa (ln ⟨c8, bT _, c7, J, c9, (wi0 .i64 (D + 1)), _, (d.kz St), c3, c4, c5, rfl, b6, P⟩))))
  refine ob (nN (nN (uf (kF (sg (Wh y (Wh G (bS a fun _ Z a => VQ (tV (i := B) aF aC rfl rfl g (qD Z) (qw Z)) (fun e7 b7 => VO (yn (z := K0)  d g mr mE aF bP b7 rfl rfl (fun e1 c2 d a9 => lr (Wh y ?_))))))))))))
  refine Wh G (bS a fun _ n a => VQ (ui (i := B) aF aC rfl rfl a9 mr (qD n) (qw n)) (fun a5 b9 => Wa (lt ?_)))
  obtain rfl := sj a
  exact lI (v := a5) rfl rfl ⟨_, _, rfl, (d.mL (Kr Sn)), a5, c2, rfl, rfl, b9⟩
theorem Mi (a : kw) (r : Bool) (w : World) (hm : Ao a = some r) :
  la true pg0 275 [(.agg (kx a).toArray)] w (.bool r) := by
 refine cG 6 func275 rfl (fun d => sg (VE (lB d rfl (fun g j d => Wa (lr (VA d Mh (kx a) aN aC (bS hm fun k c hm => VE (Eg d jA (sB a _ _  c) (fun i d => V (mQ rfl) (Wa (lh ?_)))))))))))
 refine kF ?_
 exact lj (rQ hm d)
theorem QE (c : Value) (k : List kw) (a : LO) (g : Value) (t : (kw × kw) → Option Int) (r : List kw) (w : World) {y : lm} (u : pP y (a ++ []) w) (i : kU 28 kx 2 c k a) (j : Ip pg0 g y (fun (x : (kw × kw)) => [(.agg (kx x.1).toArray), (.agg (kx x.2).toArray)]) (fun (r : Int) => (.int .i64 r)) t) (hm : yA t k = some r) :
  mh true pg0 276 [c, g] w (a ++ []) (fun v z W' => ∃ S, v = (.tuple #[]) ∧ z = (S ++ []) ∧ kU 28 kx 2 c r S) := Iv (P := pg0) (ρ := Sq) V3 2 aN aC kx mr mE u.H u.S i j hm
theorem FF (j : Value) (a0 : List kw) (x : LO) (r : List kw) (w : World) {μ0 : lm} (h0 : pP μ0 (x ++ []) w) (B : kU 28 kx 2 j a0 x) (hm : uP a0 = some r) :
  mh true pg0 277 [j] w (x ++ []) (fun v L1 W' => ∃ y1 S2, v = y1 ∧ L1 = (S2 ++ []) ∧ kU 28 kx 2 y1 r S2) := by
 refine zN h0 61 func277 rfl (fun d => sg (Wa (lS (Wm (V (mP aF rfl B) (Wi rfl (ln (CI hm rfl (fun g0 hm => ?_) (fun g0 hm => ?_)))))))))
 ·refine sg (Wm (Wa (lt (lb ?_))))
  obtain rfl := sj hm
  exact lI (v := j) rfl rfl ⟨_, _, rfl, (d.mL (Kr Sn)), j, x, rfl, rfl, B⟩
 refine kS (Wa (ln (mK (od (fun m E W => ∃ t b4, ST true (keys (x ++ [])) w W μ0 (x ++ b4) ∧ E 0 = j ∧ E 3 = (.int .i64 t) ∧ oX a0 m t = some r) lC ⟨1, _, (d.kz St), rfl, rfl, hm⟩ ?_))))
 rintro m E W ⟨t, b4, d, D, H, a⟩
 cases m with
 | zero => rw [oX] at a; cases a
 | succ f5 =>
  refine kO (sg (Wh H (Wh D (V (mP aF rfl B) (Wi rfl (ln (CI a rfl (fun d0 a => ?_) (fun d0 a => ?_))))))))
  ·refine kn (kO (mK (kO ?_)))
   replace d := d.drew
   have h := d.has.kz (Kr Sn)
   refine lG h lq (X 0 rfl h (kH D) (X 1 rfl h (kH H) (bS a fun c3 Z a => XQ 2 rfl h (mC (i := t) (x0 := c3) aF aC rfl rfl B (lY Z) (lN Z)) (fun g7 d6 => XH 3 rfl h (fun _ o => kA rfl (ot o (fun p n => (Ml n)) B mr d6 (lN Z) aN aC)) (X 4 rfl h (kH D) (X 5 rfl h (kH H) (X 6 rfl h (lL rfl rfl rfl) (bS a fun c4 q a => XQ 7 rfl h (mC (i := (wi0 .i64 (t - 1))) (x0 := c4) aF aC rfl rfl B (lY q) (lN q)) (fun g8 d7 => XH 8 rfl h (fun _ o => kA rfl (ot o (fun p n => (Ml n)) B mr d7 (lN q) aN aC)) (X 9 rfl h (tT rfl rfl (mY cQ) (pK (nJ _ c3 c4))) (lT kr (kF ?_))))))))))))
   refine CI a rfl (fun d1 a => ?_) (fun d1 a => ?_)
   ·refine sg (Wh D (Wh H (bS a fun _ O a => VQ (tV (i := t) aF aC rfl rfl B (qD O) (qw O)) (fun c1 M => Wa (lS (Wa (ln ?_)))))))
    refine CJ a (fun U E W => ∃ s b5, ST true (keys (x ++ [])) w W μ0 (s ++ b5) ∧ E 0 = j ∧ E 3 = (.int .i64 U.2) ∧ kU 28 kx 2 j U.1 s) (fun U d4 => ?_) ?_
    ·refine mK (od (fun m E W => ∃ A K Y y b6, ST true (keys (x ++ [])) w W μ0 (K ++ b6) ∧ E 0 = j ∧ E 3 = (.int .i64 Y) ∧ E 4 = c1 ∧ E 5 = (.int .i64 y) ∧ kU 28 kx 2 j A K ∧ oR t m A Y y = some U) lC ⟨a0, x, t, 1, _, (d.kz St), D, H, rfl, rfl, B, d4⟩ ?_)
     rintro m E W ⟨A, K, Y, y, b6, d, Q, T, I, J, g, k⟩
     cases m with
     | zero => rw [oR] at k; cases k
     | succ f6 =>
      refine kO (sg (Wh J (Wh I (V (GW aF rfl M g) (Wi rfl (ln (CI k rfl (fun d2 k => ?_) (fun d2 k => ?_))))))))
      ·refine kn (kO (CJ k (fun L E W => ∃ N b7, ST true (keys (x ++ [])) w W μ0 (N ++ b7) ∧ E 0 = j ∧ E 3 = (.int .i64 L.2) ∧ E 4 = c1 ∧ E 5 = (.int .i64 y) ∧ kU 28 kx 2 j L.1 N) (fun L c => ?_) ?_))
       ·refine mK (kO ?_)
        replace d := d.drew
        have h := d.has.kz (Kr Sn)
        refine lG h lq (X 0 rfl h (kH I) (X 1 rfl h (kH J) (bS c fun c6 a2 c => XQ 2 rfl h (ub (i := y) (x0 := c6) aF aC rfl rfl g M (lY a2) (lN a2)) (fun g9 d8 => XH 3 rfl h (fun _ o => kA rfl (ot o (fun p n => (Ml n)) g mr d8 (xd (lN a2)) aN aC)) (X 4 rfl h (kH I) (X 5 rfl h (kH J) (X 6 rfl h (lL rfl rfl rfl) (bS c fun c7 a3 c => XQ 7 rfl h (ub (i := (wi0 .i64 (y - 1))) (x0 := c7) aF aC rfl rfl g M (lY a3) (lN a3)) (fun h1 d9 => XH 8 rfl h (fun _ o => kA rfl (ot o (fun p n => (Ml n)) g mr d9 (xd (lN a3)) aN aC)) (X 9 rfl h (EB rfl rfl (mY cQ) (AI (nJ _ c6 c7))) (lT kr (kF ?_))))))))))))
        refine CI c rfl (fun d3 c => ?_) (fun d3 c => ?_)
        ·refine sg (Wh Q (Wh T (Wh I (Wh J (bS c fun a9 a4 c => VQ (ub (i := y) (x0 := a9) aF aC rfl rfl g M (lY a4) (lN a4)) (fun h2 e0 => V (kA rfl (ot d.has (fun p n => (Ml n)) g mr e0 (xd (lN a4)) aN aC)) (bS c fun f8 a5 c => VQ (mC (i := Y) (x0 := f8) aF aC rfl rfl g (lY a5) (lN a5)) (fun h3 e1 => VO (zd (u := (.agg (kx a9).toArray)) (x1 := a9)  d g mr mE rfl rfl rfl e1 (lN a5) aC (fun g3 e8 d c9 => ln (kL ?_)))))))))))
         refine Wh T (Wi rfl (Wa (lh (lu (kF ?_)))))
         obtain rfl := sj c
         exact ⟨e8, _, (d.kz St), Q, rfl, I, J, c9⟩
        refine lz (lu (kF ?_))
        obtain rfl := sj c
        exact ⟨K, _, (d.kz St), Q, T, I, J, g⟩
       rintro ⟨f4, f7⟩ E W ⟨N, b7, d, f0, f1, f2, f3, e4⟩ d5
       exact kL (Wh f3 (Wi rfl (Wa (ln ⟨f6, bT _, f4, N, f7, (wi0 .i64 (y + 1)), _, (d.kz St), f0, f1, f2, rfl, e4, d5⟩))))
      refine ob (nN (nN (uf (kF ?_))))
      obtain rfl := sj k
      exact ⟨K, _, (d.kz St), Q, T, g⟩
    rintro ⟨g4, c5⟩ E W ⟨s, b5, d, b9, c0, b3⟩ G
    refine sg (Wh b9 (Wh c0 (bS G fun _ P G => VQ (tV (i := c5) aF aC rfl rfl b3 (qD P) (qw P)) (fun h4 e2 => VO (yn (z := K0)  d b3 mr mE aF bP e2 rfl rfl (fun g2 e7 d c8 => lr (Wh b9 (Wh c0 (bS G fun _ R G => VQ (ui (i := c5) aF aC rfl rfl c8 mr (qD R) (qw R)) (fun c2 e3 => ?_))))))))))
    refine Wa (lt (me (lb (lb (me (lb ?_))))))
    obtain rfl := sj G
    exact lI (v := c2) rfl rfl ⟨_, _, rfl, (d.mL (Kr Sn)), c2, e7, rfl, rfl, e3⟩
   exact lz (lu (kF (kL (Wh H (Wi rfl (Wa (ln ⟨f5, bT _, (wi0 .i64 (t + 1)), _, (d.kz St), D, rfl, a⟩)))))))
  refine ob (nN (nN (uf (kF (sg (Wh D (Wa (lt ?_))))))))
  obtain rfl := sj a
  exact lI (v := j) rfl rfl ⟨_, _, rfl, (d.mL (Kr Sn)), j, x, rfl, rfl, B⟩
theorem P6 (i : Value) (t r : List kw) (w : World) (B : Sl (Pl kx) 2 (hp w) i t) (hm : CN t = some r) :
  lK false pg0 242 [i] w 28 kx 2 r := by
 refine sP 11 func242 rfl (fun d => sg (Wa (lr (Wm (bS hm fun z T hm => VE (pF d call274 (lK.mn (GK i t _ _ (B.mono (Pl.mono _) d.kJ) T)) (fun W3 v7 A R8 d a5 s Q => bS hm fun U D hm => ?_)))))))
 refine VE (eM d (Cr Qz Cn) call273 (fun m _ => (DS v7 z R8 (.func (.func 275) #[] #[]) (fun (x : kw) => Ao x) _ _ m Q ⟨275, #[], #[], rfl, call275, fun W x r y hm => (Mi x r W  hm).mn⟩ D)) ?_)
 rintro _ b5 b9 O d L n h ⟨k, K, a, rfl, I⟩
 obtain rfl := a.symm
 replace d := d.perm (Tr Tn)
 refine Wa (lr (Wm (bS hm fun Y G hm => ?_)))
 refine VE (eM d (Cr Qz Cn) call276 (fun m _ => mh.mn (QE k U K (.func (.func 57) #[] #[]) (fun (x : (kw × kw)) => nw x.1 x.2) _ _ m I ⟨57, #[], rfl, call57, fun W x r y hm => Bv x.1 x.2 r W  hm⟩ G)) ?_)
 rintro _ b6 c0 a9 d a2 o h ⟨M, c, rfl, J⟩
 obtain rfl := c.symm
 replace d := d.perm (Tr Tn)
 refine lr (Wm (bS hm fun R H hm => ?_))
 refine VE (eM d (Cr Qz Cn) call277 (fun m _ => mh.mn (FF k Y M _ _ m J H)) ?_)
 rintro _ b7 c1 P d a3 q h ⟨Z, N, g, rfl, j⟩
 obtain rfl := g.symm
 replace d := d.perm (Tr Tn)
 refine Wa (lt ?_)
 obtain rfl := sj hm
 exact lI (v := Z) rfl rfl ⟨_, N, rfl, d.mO (fun p u => (Ml u)) j.nd, j⟩
theorem Jc (a : Formula) (g : Value) (r : List kw) (w : World) (c : Sl kW 5 (hp w) g a.Kids) (hm : uH a = some r) :
  lK false pg0 192 [(.agg #[(.int .i64 a.Op), (.int .i64 a.K), (.string a.kw.kE), (.string a.kw.kT), g])] w 28 kx 2 r := by
 refine sP 6 func192 rfl (fun d => sg ?_)
 obtain ⟨j, k, rfl⟩ := c.form
 refine VE (lB d rfl (fun N T d => Wa (lr (VA d Mh (C1 a.Op a.K a.kw.kE a.kw.kT j a.Kids.length k) cx aZ (bS hm fun H y hm => VE (pF d call243 ((Ej lC) a (.slice j a.Kids.length k) _ _ (c.mono lW.mono d.kJ) y) (fun Q z U I d G m t => bS hm fun K u hm => VE (pF d call242 (P6 z H _ _ (t.sl mr (fun b o h => d.at_ (Ml h))) u) (fun J B M x d D n i => Wa (ln ?_))))))))))
 replace d := d.kz (Kr (Dr (Db St)))
 refine lj ?_
 obtain rfl := sj hm
 exact lI (v := B) rfl rfl ⟨_, x, rfl, d.mO (fun p h => (Ml h)) i.nd, i⟩
theorem Gx (I : Value) (K : List kw) (G : Int) (r : List kw) (w : World) (H : Sl (Pl kx) 2 (hp w) I K) (hm : rz K G = some r) :
  lK true pg0 194 [I, (.int .i64 G)] w 28 kx 2 r := by
 refine sP 26 func194 rfl (fun d => sg (Wa (lr (Wa (lS (Wm ?_))))))
 refine V (ly aF rfl H) (Wm (ln (lp (fun i E W => ∃ u B j D, (E 10 = .int .i64 (i : Nat) ∧ E 9 = .int .i64 (K.length : Nat)) ∧ ST true ll w W (hp w) (j ++ D) ∧ E 1 = (.int .i64 G) ∧ E 5 = u ∧ E 8 = I ∧ kU 28 kx 2 u B j ∧ nW G (K.drop i) i B = some r) K.length H.len ⟨(.slice none 0 0), ([]), [], _, ⟨rfl, rfl⟩, (d.kz St), rfl, rfl, rfl, (kU.nil _ _ _), hm⟩ dc dc dc (fun _ _ _ h => by obtain ⟨_, _, _, _, n, _⟩ := h; exact n) ?_ ?_)))
 ·rintro J E W a3 ⟨u, B, j, D, ⟨m, o⟩, d, x, y, z, t, c⟩
  obtain ⟨g, b4, a5, a4, M⟩ := lc a3
  rw [a5] at c
  refine bg (Wh m (VQ (lO (enc := kx) (i := (J : Int)) (x0 := g) aF aC z m H (aD _) a4) (fun b3 Y => V (kA rfl (lD d.has Y aN aC)) (VE (lA d bP (fun L b2 d => Wa (VO (lf (.agg (kx g).toArray) ((kx g).toArray) d rfl rfl aC (mE g) nb rfl (fun a9 d => lr (Wh x (Wm ?_)))))))))))
  refine bS c fun _ U c => V (Q4 (a := G) (b := (J : Int)) rfl rfl (zK U)) (V (FT (k := .i64) (a := (Int.fdiv G (2 ^ min (Int.toNat (J : Int)) (IntKind.bits .i64)))) (b := 1) (v := (.int .i64 (wi0 .i64 (BitVec.ofInt (IntKind.bits .i64) (Int.fdiv G (2 ^ min (Int.toNat (J : Int)) (IntKind.bits .i64))) &&& BitVec.ofInt (IntKind.bits .i64) 1).toNat))) rfl rfl dc rfl) (Wi rfl (ln (CI c rfl (fun Q c => ?_) (fun Q c => ?_)))))
  ·refine kL (Wh y (VA d Mh (kx g) aN aC (VE (lg (cs := (kx g).toArray) d (mI rfl) (mD aF aC bP) (fun O a2 d => ?_)))))
   replace d := d.perm (Nr (Qb (Qb Qz)) Nz)
   refine bS c fun q T c => VE (my (enc := kx) (v := u) (vs := (.slice (some ⟨a2, 0, none⟩) 1 1)) (R := j) d mr dc mE aF mq.1 mq.2.1 rfl mq.2.2.1 mq.2.2.2 rfl rfl t (Sl.lit (enc := kx) (l := [g]) mr rfl nb rfl (d.at_ (Ma Mh))) T (fun P s Z d N => Wa (lh (lu (kF ?_)))))
   replace d := d.kz (Kr (Db (Db St)))
   exact ⟨m, s, q, Z, _, ⟨rfl, o⟩, (d.kz St), x, rfl, z, N, (by rw [M]; exact c)⟩
  refine lz (lu (kF ?_))
  replace d := d.kz (Db St)
  exact ⟨m, u, B, j, _, ⟨rfl, o⟩, (d.kz St), x, y, z, t, (by rw [M]; exact c)⟩
 rintro E W ⟨u, B, j, D, ⟨m, o⟩, d, x, y, z, t, c⟩
 rw [aG] at c
 refine kF (sg (Wh y (Wa (lt ?_))))
 obtain rfl := sj c
 exact lI (v := u) rfl rfl ⟨_, j, rfl, d.mO (fun p A => (Ml A)) t.nd, t⟩
theorem FP (Q : Formula → (kw → Option Bool) → Option Bool) (a5 : ∀ (g : Formula) (k : Value) (t : Value) (J : kw → Option Bool) (r : Bool) (w : World) (c : Sl kW 5 (hp w) k g.Kids) (K : th pg0 t (hp w) (fun (x : kw) => [(.agg (kx x).toArray)]) (fun (r : Bool) => (.bool r)) J), Q g J = some r → la false pg0 111 [(.agg #[(.int .i64 g.Op), (.int .i64 g.K), (.string g.kw.kE), (.string g.kw.kT), k]), t] w (.bool r)) (g : Formula) (k t : Value) (J : kw → Option Bool) (r : Bool) (w : World) (c : Sl kW 5 (hp w) k g.Kids) (K : th pg0 t (hp w) (fun (x : kw) => [(.agg (kx x).toArray)]) (fun (r : Bool) => (.bool r)) J) (hm : xM Q g J = some r) :
  la false pg0 111 [(.agg #[(.int .i64 g.Op), (.int .i64 g.K), (.string g.kw.kE), (.string g.kw.kT), k]), t] w (.bool r) := by
 refine cG 45 func111 rfl (fun d => sg ?_)
 obtain ⟨A1, c2, rfl⟩ := c.form
 refine VE (lB d rfl (fun W4 q d => Wa (lS (Wf wS (VB d Mh rfl rfl cC (Wi rfl (ln (CI hm rfl (fun a9 hm => ?_) (fun a9 hm => ?_)))))))))
 ·refine sg (Wm (Wf yI (VA d Mh (kx g.kw) aN aC (bS hm fun r6 L hm => VE (Bk g.kw d K (kY.refl _) rfl (pH rfl) L (fun W8 d => Wa (ln ?_)))))))
  replace d := d.kz (Db St)
  refine lj (lb ?_)
  obtain rfl := sj hm
  exact rP d
 refine kg (Wa (lS (Wf uu (VB d Mh rfl rfl fa (V (ly bZ rfl c) (Wm (lh ?_)))))))
 refine kF (lp (fun i E W => ∃ z I, (E 18 = .int .i64 (i : Nat) ∧ E 17 = .int .i64 (g.Kids.length : Nat)) ∧ ST false ll w W (hp w) ((q, Ol (C1 g.Op g.K g.kw.kE g.kw.kT A1 g.Kids.length c2) 57) :: I) ∧ E 1 = t ∧ E 2 = (.pointer (some ⟨q, 0, none⟩)) ∧ E 5 = (.int .i64 z) ∧ E 16 = (.slice A1 g.Kids.length c2) ∧ ql Q J g (g.Kids.drop i) z = some r) g.Kids.length c.len ⟨0, _, ⟨rfl, rfl⟩, (d.kz St), rfl, rfl, rfl, rfl, hm⟩ dc dc dc (fun _ _ _ h => by obtain ⟨_, _, n, _⟩ := h; exact n) ?_ ?_)
 ·rintro O E W a4 ⟨z, I, ⟨m, o⟩, d, G, u, y, H, a⟩
  obtain ⟨j, c1, A, v, N⟩ := lc a4
  rw [A] at a
  refine bg (VQ (su (i := (O : Int)) (x0 := j) kW.out bZ aZ H m c (aD _) v) (fun b7 ⟨_, ⟨c0, rfl, M⟩, Z⟩ => V (kA rfl (lD d.has Z cx aZ)) (VE (lA d dB (fun P b6 d => ?_)))))
  obtain ⟨B, D, rfl⟩ := M.form
  let a0 := (C1 j.Op j.K j.kw.kE j.kw.kT B j.Kids.length D)
  refine VO (lf (.agg a0.toArray) (a0.toArray) d rfl rfl aZ oc nb rfl (fun R d => lr (VA d Mh a0 cx aZ (Wh G (bS a fun b9 s a => VE (Eg d call111 (a5 j (.slice B j.Kids.length D) t J _ _ (M.mono lW.mono d.kJ) (K.mono d.kJ) s) (fun b5 d => ln ?_)))))))
  replace d := d.kz (Db St)
  refine CI a rfl (fun T a => ?_) (fun T a => ?_)
  ·exact kL (Wh y (Wi rfl (Wa (lh (lu (kF ⟨m, (wi0 .i64 (z + 1)), _, ⟨rfl, o⟩, (d.kz St), G, u, rfl, H, (by rw [N]; exact a)⟩))))))
  exact lz (lu (kF ⟨m, z, _, ⟨rfl, o⟩, (d.kz St), G, u, y, H, (by rw [N]; exact a)⟩))
 rintro E W ⟨z, I, ⟨m, o⟩, d, G, u, y, H, a⟩
 rw [aG] at a
 refine kF (kO (sg (V (kD wS u) (VB d Mh rfl rfl cC (ln (bg (Wi rfl (Wa (ln ?_)))))))))
 refine CI a rfl (fun U a => ?_) (fun U a => ?_)
 ·refine sg (Wh y (V (kD uu u) (VB d Mh rfl rfl fa (V (ly bZ rfl c) (Wi rfl (Wa (ln ?_)))))))
  replace d := d.kz (Db St)
  refine lj (me (lb ?_))
  obtain rfl := sj a
  exact rP d
 refine sg (Wi rfl (Wa (ln (CI a rfl (fun Y a => ?_) (fun Y a => ?_)))))
 ·refine sg (Wh y (Wi rfl (Wa (ln ?_))))
  replace d := d.kz (Db St)
  refine lj (me (lb ?_))
  obtain rfl := sj a
  exact rP d
 refine lz (lu (kF (sg (Wh y (V (kD zV u) (VB d Mh rfl rfl cC (Wi rfl (Wa (ln ?_)))))))))
 exact lj (rQ a d)
theorem Ev : ∀ (n : Nat) (c : Formula) (a : Value) (g : Value) (j : kw → Option Bool) (r : Bool) (w : World) (i : Sl kW 5 (hp w) a c.Kids) (k : th pg0 g (hp w) (fun (x : kw) => [(.agg (kx x).toArray)]) (fun (r : Bool) => (.bool r)) j) (_ : qN n c j = some r),
  la false pg0 111 [(.agg #[(.int .i64 c.Op), (.int .i64 c.K), (.string c.kw.kE), (.string c.kw.kT), a]), g] w (.bool r)
 | 0 => by intros; rename_i h; simp only [qN] at h; cases h
 | n + 1 => FP (qN n) (Ev n)
theorem Kg (a : Formula) (j k : Value) (G : kw → Option Bool) (r : Bool) (w : World) (c : Sl kW 5 (hp w) j a.Kids) (z : th pg0 k (hp w) (fun (x : kw) => [(.agg (kx x).toArray)]) (fun (r : Bool) => (.bool r)) G) (hm : vC a G = some r) :
  la false pg0 48 [(.agg #[(.int .i64 a.Op), (.int .i64 a.K), (.string a.kw.kE), (.string a.kw.kT), j]), k] w (.bool r) := by
 refine cG 16 func48 rfl (fun d => sg ?_)
 obtain ⟨u, y, rfl⟩ := c.form
 let a0 := (C1 a.Op a.K a.kw.kE a.kw.kT u a.Kids.length y)
 refine VE (lB d rfl (fun U Z d => Wa (lr (Wm (V (SF underlying105 z.form rfl rfl) (Wm (Vg rfl rfl (kA rfl (kI d.has Mh a0 rfl cx aZ)) (bS hm fun h K hm => Sz rfl rfl (Eg d call110 (D3 a (.slice u a.Kids.length y) _ _ (c.mono lW.mono d.kJ) K) (fun Y d => V (kR rfl rfl) (Wm (LJ hm (fun D E W => ∃ B, ST false ll w W (hp w) B ∧ E 4 = (.bool false) ∧ E 15 = (.bool D)) 4 ?_ (fun D g t => ?_)))))))))))))
 ·rintro T E W ⟨B, d, N, J⟩ H
  exact Wg J (lt (rQ H d))
 refine bC g (fun i g => ?_) (fun i g => ?_)
 ·refine ug i (kA rfl (kI d.has Mh a0 rfl cx aZ)) (ug i (kH rfl) (bS g fun Q I g => pX i (Eg d call111 ((Ev lC) a (.slice u a.Kids.length y) k G _ _ (c.mono lW.mono d.kJ) (z.mono d.kJ) I) (fun M d => V (kR (cB i) rfl) ?_))))
  obtain rfl := sj g
  exact t _ _ ⟨_, (d.kz (Db St)), rfl, rfl⟩
 refine un i (un i (un i (V (kQ (cB i) rfl) ?_)))
 obtain rfl := sj g
 exact t _ _ ⟨_, (d.kz (Db St)), rfl, rfl⟩
theorem GC (j : Value) (t : List kw) (c : kw) (r : Int) (w : World) (g : Sl (Pl kx) 2 (hp w) j t) (hm : yp t c = some r) :
  la true pg0 247 [j, (.agg (kx c).toArray)] w (.int .i64 r) := by
 refine cG 19 func247 rfl (fun d => sg (VE (lB d rfl (fun Q J d => Wa (lS (Wm (V (ly aF rfl g) (Wm (ln ?_)))))))))
 refine lp (fun i E W => ∃ k, (E 8 = .int .i64 (i : Nat) ∧ E 7 = .int .i64 (t.length : Nat)) ∧ ST true ll w W (hp w) ((J, Ol (kx c) 28) :: k) ∧ E 0 = j ∧ E 3 = (.pointer (some ⟨J, 0, none⟩)) ∧ rc c (t.drop i) i = some r) t.length g.len ⟨_, ⟨rfl, rfl⟩, (d.kz St), rfl, rfl, hm⟩ dc dc dc (fun _ _ _ h => by obtain ⟨_, o, _⟩ := h; exact o) ?_ ?_
 ·rintro K E W B ⟨k, ⟨n, s⟩, d, u, x, a⟩
  obtain ⟨y, M, H, G, I⟩ := lc B
  rw [H] at a
  refine bg (Wh n (Wa (ln (kO ?_))))
  replace d := d.drew
  have m := d.has.kz (Kb Sn)
  refine lG m lq (XH 0 rfl m (fun _ q => kA x (kI q Mh (kx c) rfl aN aC)) (X 1 rfl m (kH u) (X 2 rfl m (kH rfl) (XQ 3 rfl m (lO (enc := kx) (i := (K : Int)) (x0 := y) aF aC rfl rfl g (aD _) G) (fun N D => XH 4 rfl m (fun _ q => kA rfl (lD q D aN aC)) (X 5 rfl m (tT rfl rfl (mY cQ) (pK (nJ _ c y))) (lT kr (kF (CI a rfl (fun z a => ?_) (fun z a => ?_))))))))))
  ·refine sg (Wm (Wa (ln ?_)))
   replace d := d.kz (Db St)
   refine lj (me (lb (me (lb ?_))))
   obtain rfl := sj a
   exact rP d
  exact lz (lu (kF ⟨n, _, ⟨rfl, s⟩, (d.kz St), u, x, (by rw [I]; exact a)⟩))
 rintro E W ⟨k, ⟨n, s⟩, d, u, x, a⟩
 rw [aG] at a
 refine kF ?_
 replace d := d.kz (Db St)
 exact sg (Wa (lt (rQ a d)))
theorem EZ (a : Value) (g : List kw) (c : kw) (r : Bool) (w : World) (i : Sl (Pl kx) 2 (hp w) a g) (hm : wZ g c = some r) :
  la true pg0 200 [a, (.agg (kx c).toArray)] w (.bool r) := by
 refine cG 9 func200 rfl (fun d => sg (VE (lB d rfl (fun k u d => Wa (lr (Wm (VA d Mh (kx c) aN aC (bS hm fun x j hm => VE (Eg d call247 (GC a g c _ _ (i.mono (Pl.mono _) d.kJ) j) (fun t d => Wi rfl (Wa ?_)))))))))))
 refine ln ?_
 exact lj (rQ hm d)
theorem Qa (a : Value) (g : List kw) (c : kw) (r : Bool) (w : World) (i : Sl (Pl kx) 2 (hp w) a g) (hm : CR g c = some r) :
  la true pg0 149 [a, (.agg (kx c).toArray)] w (.bool r) := by
 refine cG 8 func149 rfl (fun d => sg (VE (lB d rfl (fun k u d => Wa (lr (Wm (VA d Mh (kx c) aN aC (bS hm fun x j hm => VE (Eg d call200 (EZ a g c _ _ (i.mono (Pl.mono _) d.kJ) j) (fun t d => Wa (lh ?_)))))))))))
 refine kF ?_
 exact lj (rQ hm d)
theorem Hy (c : kw) (g : Nat) (a : Value) (j : List kw) (r : Bool) (w : World) (k : Sl (Pl kx) 2 (hp w) a j) (i : At (hp w) (.pointer (some ⟨g, 0, none⟩)) [a]) (hm : qh c j = some r) :
  la true pg0 148 [(.agg (kx c).toArray), (.pointer (some ⟨g, 0, none⟩))] w (.bool r) := by
 refine cG 7 func148 rfl (fun d => sg (VE (lB d rfl (fun u z d => Wa (lr (V (kA rfl (ng d.has (y := a) i dO)) (VA d Mh (kx c) aN aC (bS hm fun B t hm => VE (Eg d call149 (Qa a j c _ _ (k.mono (Pl.mono _) d.kJ) t) (fun x d => Wa (lh ?_)))))))))))
 refine kF ?_
 exact lj (rQ hm d)
theorem Es (a : Formula) (g k : Value) (i : List kw) (r : Bool) (w : World) (c : Sl kW 5 (hp w) g a.Kids) (j : Sl (Pl kx) 2 (hp w) k i) (hm : oy a i = some r) :
  la false pg0 85 [(.agg #[(.int .i64 a.Op), (.int .i64 a.K), (.string a.kw.kE), (.string a.kw.kT), g]), k] w (.bool r) := by
 refine cG 8 func85 rfl (fun d => sg ?_)
 obtain ⟨t, y, rfl⟩ := c.form
 refine VE (lB d rfl (fun H J d => ?_))
 obtain ⟨B, D, rfl⟩ := j.form
 refine VE (lB d rfl (fun I u d => Wa (lr (VA d (Mt Mh) (C1 a.Op a.K a.kw.kE a.kw.kT t a.Kids.length y) cx aZ (V (vz (by exact pH rfl) rfl) (bS hm fun K z hm => VE (Eg d call48 (Kg a (.slice t a.Kids.length y) (.func (.func 148) #[] #[(.pointer (some ⟨u, 0, none⟩))]) (fun (x : kw) => qh x i) _ _ (c.mono lW.mono d.kJ) ⟨148, #[], #[(.pointer (some ⟨u, 0, none⟩))], rfl, call148, fun W x r h hm => (Hy x u (.slice B i.length D) i r W (j.mono (Pl.mono _) (d.kJ.trans h)) (At.of (h _ _ (d.at_ Mh)) _ rfl) hm).mn⟩ z) (fun G d => Wa (ln ?_)))))))))
 exact lj (rQ hm d)
theorem NV (t : Formula) (b9 a2 : Value) (n : List kw) (r : List Int) (w : World) (b7 : Sl kW 5 (hp w) b9 t.Kids) (e4 : Sl (Pl kx) 2 (hp w) a2 n) (hm : xu t n = some r) :
  lK false pg0 193 [(.agg #[(.int .i64 t.Op), (.int .i64 t.K), (.string t.kw.kE), (.string t.kw.kT), b9]), a2] w 3 (lJ .i64) 1 r := by
 refine sP 64 func193 rfl (fun d => sg ?_)
 obtain ⟨A1, c2, rfl⟩ := b7.form
 let a0 := (C1 t.Op t.K t.kw.kE t.kw.kT A1 t.Kids.length c2)
 refine VE (lB d rfl (fun W4 s d => Wa (lr (Wm (V (ly aF rfl e4) (bS hm fun _ m7 hm => V (P7 (a := 1) (b := (n.length : Int)) rfl rfl (zK m7)) (bS hm fun l6 m6 hm => VE (Oy (enc := QL) (z := false) d (fun _ => rfl) dc iD Mx.1 Mx.2.1 Mx.2.2.1 Mx.2.2.2 rfl rfl rfl m6 (fun W8 d0 R9 d e8 => Wa (ln ?_))))))))))
 let d1 : Value := (.int .i64 (l6.length : Int))
 refine sg (Wa (lS (Wm (V (mP iD rfl e8) (Wm (ln (lp (fun i E W => ∃ Z c1 D b5 B c4 d6, (E 16 = .int .i64 (i : Nat) ∧ E 15 = .int .i64 (l6.length : Nat)) ∧ kY (hp w) c4 ∧ ST false ll w W c4 ((s, Ol a0 57) :: (B ++ (c1 ++ d6))) ∧ E 1 = a2 ∧ E 2 = (.pointer (some ⟨s, 0, none⟩)) ∧ E 5 = d0 ∧ E 6 = D ∧ kU 4 QL 1 d0 Z c1 ∧ kU 3 (lJ .i64) 1 D b5 B ∧ oZ n t (l6.drop i) i Z b5 = some r) l6.length e8.len ⟨l6, R9, (.slice none 0 0), ([]), [], (hp w), _, ⟨rfl, rfl⟩, (kY.refl _), (d.kz (Sb (Pr Pz) St)), rfl, rfl, rfl, rfl, e8, (kU.nil _ _ _), hm⟩ dc dc dc (fun _ _ _ h => by obtain ⟨_, _, _, _, _, _, _, A, _⟩ := h; exact A) ?_ ?_)))))))
 ·let c0 : Value := (.pointer (some ⟨s, 0, none⟩))
  rintro c E W h7 ⟨Z, c1, D, b5, B, c4, d6, ⟨q, L⟩, T, d, c3, d9, e0, e1, c6, a6, x⟩
  let b8 : Value := (.int .i64 (c : Int))
  obtain ⟨o3, n1, i7, m8, e7⟩ := lc h7
  rw [i7] at x
  refine bg (Wh q (Wa (ln (kO ?_))))
  replace d := d.drew
  have m := d.has.kz (Kb Sn)
  refine lG m lq (X 0 rfl m (kH e0) (X 1 rfl m (kH rfl) (XH 2 rfl m (fun _ hS => kA d9 (kI hS Mh a0 rfl cx aZ)) (X 3 rfl m (kH c3) (X 4 rfl m (kH rfl) (bS x fun m1 i5 x => XE 5 rfl (pF d call194 (lK.mn (Gx a2 n (c : Int) _ _ (e4.mono (Pl.mono _) (T.trans d.kJ)) i5)) (fun n4 m2 a4 n3 d H aa h1 => ?_))))))))
  have m := d.has.rl H (Dr (Kb Sn))
  refine ⟨m, (bS x fun b6 i6 x => XE 6 rfl (Eg d call85 (Es t (.slice A1 t.Kids.length c2) m2 m1 _ _ (b7.mono lW.mono ((T.trans H).trans d.kJ)) (h1.sl mr (fun b o O => d.at_ (Ml O))) i6) (fun n5 d => ?_)))⟩
  have m := d.has.rl H (Dr (Kb Sn))
  refine ⟨m, (bS x fun m4 c7 x => XQ 7 rfl m (mC (i := (c : Int)) (x0 := m4) iD kv rfl rfl c6 (lY c7) (lN c7)) (fun o0 i2 => ?_))⟩
  replace d := d.perm (Nr (Qr (Qb (Qr Qz))) Nz)
  refine XO 8 rfl (zd (u := (.bool b6)) (x1 := b6)  d c6 (fun _ => rfl) YH rfl rfl rfl i2 (lN c7) kv (fun n6 U d Q => ?_))
  have m := d.has.rl H (Dr (Dr (Kb Sn)))
  refine ⟨m, (lT kr (kF ?_))⟩
  replace d := d.kz (Kr (Dr St))
  refine sg (Wa (lS (Wh c3 (V (ly aF rfl e4) (Wm (ln (CJ x (fun e6 E W => ∃ e9, ST false ll w W a4 ((s, Ol a0 57) :: (U ++ (B ++ e9))) ∧ E 1 = a2 ∧ E 2 = c0 ∧ E 5 = d0 ∧ E 6 = D ∧ E 7 = b8 ∧ E 8 = (.bool e6) ∧ E 15 = d1 ∧ E 16 = b8) (fun e6 h9 => ?_) ?_)))))))
  ·refine lp (fun i E W => ∃ a3 d7, (E 29 = .int .i64 (i : Nat) ∧ E 28 = .int .i64 (n.length : Nat)) ∧ ST false ll w W a4 ((s, Ol a0 57) :: (U ++ (B ++ d7))) ∧ E 1 = a2 ∧ E 2 = c0 ∧ E 5 = d0 ∧ E 6 = D ∧ E 7 = b8 ∧ E 8 = (.bool a3) ∧ E 15 = d1 ∧ E 16 = b8 ∧ pe c Z b6 (n.drop i) i a3 = some e6) n.length e4.len ⟨false, _, ⟨rfl, rfl⟩, (d.kz (Sb (Pr Pz) St)), c3, d9, e0, e1, rfl, rfl, L, q, h9⟩ dc dc dc (fun _ _ _ h => by obtain ⟨_, _, A, _⟩ := h; exact A) ?_ ?_
   ·rintro N E W h8 ⟨a3, d7, ⟨q, L⟩, d, a9, b0, P, b1, Y, a8, b2, b4, K⟩
    obtain ⟨o6, n2, i8, m9, i9⟩ := lc h8
    rw [i8] at K
    refine bg (Wh q (Wa (ln (kL (Wh a8 (Wm (LJ K (fun g7 E W => ∃ f1, ST false ll w W a4 ((s, Ol a0 57) :: (U ++ (B ++ f1))) ∧ E 1 = a2 ∧ E 2 = c0 ∧ E 5 = d0 ∧ E 6 = D ∧ E 7 = b8 ∧ E 8 = (.bool a3) ∧ E 15 = d1 ∧ E 16 = b8 ∧ E 28 = (.int .i64 (n.length : Int)) ∧ E 29 = (.int .i64 (N : Int)) ∧ E 48 = (.bool g7)) 15 ?_ (fun g7 M d3 => ?_))))))))
    ·rintro m5 E W ⟨f1, d, j7, j8, j9, k0, k1, n9, k2, k3, k4, k5, k6⟩ i0
     exact Wg k6 (lh (lu (kF ⟨k5, m5, _, ⟨rfl, k4⟩, (d.kz St), j7, j8, j9, k0, k1, rfl, k2, k3, (by rw [i9]; exact i0)⟩)))
    refine bC M (fun g M => ?_) (fun g M => ?_)
    ·refine un g (un g (un g (un g (un g (un g (Vu rfl rfl (Vu rfl rfl (Vu rfl rfl (Vu rfl rfl (Vu rfl rfl (Vu rfl rfl (Vu rfl rfl (un g (V (kR (cB g) rfl) ?_))))))))))))))
     obtain rfl := sj M
     exact d3 _ _ ⟨_, (d.kz St), a9, b0, P, b1, Y, a8, b2, b4, L, q, rfl⟩
    refine ug g (kH Y) (ug g (kH rfl) (bS M fun _ h5 M => ug g (Q4 (a := (c : Int)) (b := (N : Int)) rfl rfl (zK h5)) (ug g (FT (k := .i64) (a := (Int.fdiv (c : Int) (2 ^ min (Int.toNat (N : Int)) (IntKind.bits .i64)))) (b := 1) (v := (.int .i64 (wi0 .i64 (BitVec.ofInt (IntKind.bits .i64) (Int.fdiv (c : Int) (2 ^ min (Int.toNat (N : Int)) (IntKind.bits .i64))) &&& BitVec.ofInt (IntKind.bits .i64) 1).toNat))) rfl rfl dc rfl) (ug g (lL rfl rfl rfl) (ug g (kH rfl) (LJ M (fun g8 E W => ∃ f2, ST false ll w W a4 ((s, Ol a0 57) :: (U ++ (B ++ f2))) ∧ E 1 = a2 ∧ E 2 = c0 ∧ E 5 = d0 ∧ E 6 = D ∧ E 7 = b8 ∧ E 8 = (.bool a3) ∧ E 15 = d1 ∧ E 16 = b8 ∧ E 28 = (.int .i64 (n.length : Int)) ∧ E 29 = (.int .i64 (N : Int)) ∧ E 33 = (.bool a3) ∧ E 47 = (.bool g8)) 8 ?_ (fun g8 G d4 => ?_)))))))
    ·rintro o7 E W ⟨f2, d, k7, k8, k9, l0, l1, l2, l3, l4, l5, l7, l8, l9⟩ i1
     refine V (kQ (l8.trans (cB g)) l9) ?_
     obtain rfl := sj i1
     exact d3 _ _ ⟨_, (d.kz St), k7, k8, k9, l0, l1, l2, l3, l4, l5, l7, rfl⟩
    refine bC G (fun j G => ?_) (fun j G => ?_)
    ·let d5 := (wi0 .i64 (1 * 2 ^ min (Int.toNat (N : Int)) (IntKind.bits .i64)))
     refine ug j (kH P) (ug j (kH Y) (ug j (kH rfl) (bS G fun _ h6 G => ug j (P7 (a := 1) (b := (N : Int)) rfl rfl (zK h6)) (ug j (WE (k := .i64) (a := (c : Int)) (b := d5) rfl rfl) (bS G fun h0 c9 G => Ut j (mC (i := (wi0 .i64 (BitVec.ofInt (IntKind.bits .i64) (c : Int) &&& ~~~ BitVec.ofInt (IntKind.bits .i64) d5).toNat)) (x0 := h0) iD kv rfl rfl Q (lY c9) (lN c9)) (fun o2 i4 => ug j (kA rfl (uR d.has (fun p O => (Mt (Ml O))) Q (fun _ => rfl) i4 (lN c9) (y := (.bool h0)) rfl isAgg4)) (ug g (kR (cB j) rfl) ?_)))))))
     obtain rfl := sj G
     exact d4 _ _ ⟨_, (d.kz St), a9, b0, P, b1, Y, a8, b2, b4, L, q, rfl, rfl⟩
    refine un j (un j (un j (un j (un j (un j (un j (ug g (kQ (cB j) rfl) ?_)))))))
    obtain rfl := sj G
    exact d4 _ _ ⟨_, (d.kz St), a9, b0, P, b1, Y, a8, b2, b4, L, q, rfl, rfl⟩
   rintro E W ⟨a3, d7, ⟨q, L⟩, d, a9, b0, P, b1, Y, a8, b2, b4, K⟩
   rw [aG] at K
   refine kF ?_
   obtain rfl := sj K
   exact ⟨_, (d.kz St), a9, b0, P, b1, Y, a8, b2, b4⟩
  rintro o4 E W ⟨e9, d, f3, f4, e2, f5, e3, j4, f6, f7⟩ c5
  refine sg (Wh e2 (Wh e3 (bS c5 fun g9 c8 c5 => VQ (mC (i := (c : Int)) (x0 := g9) iD kv rfl rfl Q (lY c8) (lN c8)) (fun o1 i3 => V (kA rfl (uR d.has (fun p O => (Mt (Ml O))) Q (fun _ => rfl) i3 (lN c8) (y := (.bool g9)) rfl isAgg4)) (Wm (LJ c5 (fun g4 E W => ∃ f0, ST false ll w W a4 ((s, Ol a0 57) :: (U ++ (B ++ f0))) ∧ E 1 = a2 ∧ E 2 = c0 ∧ E 5 = d0 ∧ E 6 = D ∧ E 7 = b8 ∧ E 15 = d1 ∧ E 16 = b8 ∧ E 57 = (.bool g4)) 3 ?_ (fun g4 a5 d2 => ?_)))))))
  ·rintro o5 E W ⟨f0, d, f8, f9, g0, g1, j5, g2, g3, j6⟩ J
   refine ln (CI J j6 (fun h3 J => ?_) (fun h3 J => ?_))
   ·refine kL (Wh g1 (Wh j5 (VE (lg (cs := [b8].toArray) d (mI rfl) (mD eY gi zeroValue3) (fun n7 j3 d => ?_)))))
    replace d := d.perm (Nr (Qb (Qb (Qr Qz))) Nz)
    refine bS J fun m0 h4 J => VE (my (enc := (lJ .i64)) (v := D) (vs := (.slice (some ⟨j3, 0, none⟩) 1 1)) (R := B) d (fun _ => rfl) dc (I4 _) eY Mw.1 Mw.2.1 rfl Mw.2.2.1 Mw.2.2.2 rfl rfl a6 (Sl.lit (enc := (lJ .i64)) (l := [(c : Int)]) (fun _ => rfl) rfl nb rfl (d.at_ (Ma Mh))) h4 (fun n8 m3 j0 d h2 => Wa (lh (lu (kF ?_)))))
    replace d := d.kz (Kr (Db St))
    exact ⟨g3, (Z.set (Int.toNat (c : Int)) b6), U, m3, m0, j0, a4, _, ⟨rfl, g2⟩, (T.trans H), (d.kz (Sb (Pr Pz) St)), f8, f9, g0, rfl, Q, h2, (by rw [e7]; exact J)⟩
   exact lz (lu (kF ⟨g3, (Z.set (Int.toNat (c : Int)) b6), U, D, b5, B, a4, _, ⟨rfl, g2⟩, (T.trans H), (d.kz (Kb (Sr (Qr Qz) St))), f8, f9, g0, g1, Q, a6, (by rw [e7]; exact J)⟩))
  refine bC a5 (fun I a5 => ?_) (fun I a5 => ?_)
  ·refine ug I (kH j4) (ug I (mQ rfl) (V (kR (cB I) rfl) ?_))
   obtain rfl := sj a5
   exact d2 _ _ ⟨_, (d.kz St), f3, f4, e2, f5, e3, f6, f7, rfl⟩
  refine un I (un I (V (kQ (cB I) rfl) ?_))
  obtain rfl := sj a5
  exact d2 _ _ ⟨_, (d.kz St), f3, f4, e2, f5, e3, f6, f7, rfl⟩
 rintro E W ⟨Z, c1, D, b5, B, c4, d6, ⟨q, L⟩, T, d, c3, d9, e0, e1, c6, a6, x⟩
 rw [aG] at x
 refine kF ?_
 replace d := d.kz (Db (Kr (Dr St)))
 refine sg (Wh e1 (Wa (lt ?_)))
 obtain rfl := sj x
 exact lI (v := D) rfl rfl ⟨_, B, rfl, d.mO (fun p O => (Ml O)) a6.nd, a6⟩
theorem QP (c : Value) (t : List (List kw)) (a : LO) (g : Value) (u : ((List kw) × (List kw)) → Option Int) (r : List (List kw)) (w : World) {i : lm} (y : pP i (a ++ []) w) (j : nm 34 (vP kx 2) 1 i c t a) (k : Yr pg0 g i (vP kx 2) u) (hm : EC u t = some r) :
  pg true pg0 195 [c, g] w i (a ++ []) (fun v x z => ∃ S, v = (.tuple #[]) ∧ x = (S ++ []) ∧ nm 34 (vP kx 2) 1 z c r S) := OO (P := pg0) (ρ := RS) Wz vR y j k hm
theorem D4 (a : Int) (r : Bool) (w : World) (hm : yx a = some r) :
  la true pg0 286 [(.int .i64 a)] w (.bool r) := by
 exact cG 6 func286 rfl (fun c => sg (Wa (lr (Wm (Wm (Wi rfl (Wa (lt (rQ hm c)))))))))
theorem H6 (a c r : Int) (w : World) (hm : uY a c = some r) :
  la true pg0 245 [(.int .i64 a), (.int .i64 c)] w (.int .i64 r) := by
 refine cG 20 func245 rfl (fun d => sg (Wa (lr (Wm (bS hm fun B u hm => VE (Eg d call286 (D4 a _ _  u) (fun y d => Wa (ln (kO ?_)))))))))
 refine kL (Wm (bS hm fun D x hm => VE (Eg d call286 (D4 c _ _  x) (fun z d => Wa (lS (Wm (ln (CI hm rfl (fun j hm => ?_) (fun j hm => ?_)))))))))
 ·refine kO (sg (Wm (ln (CI hm rfl (fun k hm => ?_) (fun k hm => ?_)))))
  ·refine sg (Wa (lt (lb (lb ?_))))
   obtain rfl := sj hm
   exact rP d
  refine kg (Wa (lt (lb ?_)))
  obtain rfl := sj hm
  exact rP d
 refine kS (Wm (ln (CI hm rfl (fun t hm => ?_) (fun t hm => ?_))))
 ·refine sg (Wa (lt (lb ?_)))
  obtain rfl := sj hm
  exact rP d
 refine kS (Wm (Wm (Wi rfl (ln (CI hm rfl (fun g hm => ?_) (fun g hm => ?_))))))
 ·refine sg (Wa (lt (lb ?_)))
  obtain rfl := sj hm
  exact rP d
 refine kS (Wm (Wm (Wi rfl (ln (CI hm rfl (fun i hm => ?_) (fun i hm => ?_))))))
 ·refine sg (Wa (lt (lb ?_)))
  obtain rfl := sj hm
  exact rP d
 exact kg (Wa (lt (rQ hm d)))
theorem uU (t : Value) (J : List kw) (G : Value) (Z : List kw) (H : Value) (f2 : (kw × kw) → Option Int) (r : Int) (w : World) (k : Sl (Pl kx) 2 (hp w) t J) (D : Sl (Pl kx) 2 (hp w) G Z) (a3 : Ip pg0 H (hp w) (fun (x : (kw × kw)) => [(.agg (kx x.1).toArray), (.agg (kx x.2).toArray)]) (fun (r : Int) => (.int .i64 r)) f2) (hm : nj J Z f2 = some r) :
  la true pg0 246 [t, G, H] w (.int .i64 r) := by
 refine cG 39 func246 rfl (fun d => sg (Wa (lS (Wm (V (ly aF rfl k) (Wm (ln (lp (fun i E W => ∃ u, (E 13 = .int .i64 (i : Nat) ∧ E 12 = .int .i64 (J.length : Nat)) ∧ ST true ll w W (hp w) u ∧ E 0 = t ∧ E 1 = G ∧ E 2 = H ∧ E 11 = t ∧ lF Z f2 J (J.drop i) i = some r) J.length k.len ⟨_, ⟨rfl, rfl⟩, (d.kz St), rfl, rfl, rfl, rfl, hm⟩ dc dc dc (fun _ _ _ h => by obtain ⟨_, n, _⟩ := h; exact n) ?_ ?_))))))))
 ·rintro Y E W a4 ⟨u, ⟨m, o⟩, d, y, g, z, B, a⟩
  obtain ⟨j, c0, q, a5, s⟩ := lc a4
  rw [q] at a
  refine bg (Wh m (VQ (lO (enc := kx) (i := (Y : Int)) (x0 := j) aF aC B m k (aD _) a5) (fun b5 Q => V (kA rfl (lD d.has Q aN aC)) (VE (lA d bP (fun v P d => Wa (VO (lf (.agg (kx j).toArray) ((kx j).toArray) d rfl rfl aC (mE j) nb rfl (fun a9 d => lS (Wm ?_))))))))))
  refine Wh g (V (ly aF rfl D) (Wi rfl (ln (CI a rfl (fun K a => ?_) (fun K a => ?_)))))
  ·refine sg (Wa (ln ?_))
   replace d := d.kz (Db St)
   refine lj (lb (me (lb (me (lb ?_)))))
   obtain rfl := sj a
   exact rP d
  refine kg (Wh g (Wm (bS a fun c I a => VQ (lO (enc := kx) (i := (Y : Int)) (x0 := c) aF aC rfl rfl D (lY I) (lN I)) (fun b6 T => V (kA rfl (lD d.has T aN aC)) (VE (lA d bP (fun A R d => VO (lf (.agg (kx c).toArray) ((kx c).toArray) d rfl rfl aC (mE c) nb rfl (fun L d => lr ?_)))))))))
  refine Wh z (VA d (Mt Mh) (kx j) aN aC (VA d Mh (kx c) aN aC (bS a fun b7 U a => VE (XV (j, c) d a3 (kY.refl _) rfl (pI rfl rfl) U (fun O d => Wa (ln ?_))))))
  replace d := d.kz (Db (Db St))
  refine sg (Wm (Wi rfl (ln (CI a rfl (fun M a => ?_) (fun M a => ?_)))))
  ·refine sg (Wm (Wa (lt (me (lb (me (lb ?_)))))))
   obtain rfl := sj a
   exact rP d
  exact lz (lu (kF ⟨m, _, ⟨rfl, o⟩, (d.kz St), y, g, z, B, (by rw [s]; exact a)⟩))
 rintro E W ⟨u, ⟨m, o⟩, d, y, g, z, B, a⟩
 rw [aG] at a
 refine kF (kO (sg (Wh y (V (ly aF rfl k) (Wh g (V (ly aF rfl D) (Wi rfl (ln (CI a rfl (fun N a => ?_) (fun N a => ?_))))))))))
 ·refine sg (Wa (lt (lb ?_)))
  obtain rfl := sj a
  exact rP d
 exact kg (Wa (lt (rQ a d)))
theorem KL (a : Value) (t : List kw) (c : Value) (u : List kw) (r : Int) (w : World) (g : Sl (Pl kx) 2 (hp w) a t) (i : Sl (Pl kx) 2 (hp w) c u) (hm : oS t u = some r) :
  la true pg0 196 [a, c] w (.int .i64 r) := by
 refine cG 15 func196 rfl (fun d => sg (Wa (lr (Wm (V (ly aF rfl g) (Wm (V (ly aF rfl i) (bS hm fun j z hm => VE (Eg d call245 (H6 (t.length : Int) (u.length : Int) _ _  z) (fun H d => Wm ?_))))))))))
 refine Wm (bS hm fun k B hm => VE (Eg d call246 (uU a t c u (.func (.func 57) #[] #[]) (fun (x : (kw × kw)) => nw x.1 x.2) _ _ (g.mono (Pl.mono _) d.kJ) (i.mono (Pl.mono _) d.kJ) ⟨57, #[], rfl, call57, fun W x r h hm => Bv x.1 x.2 r W  hm⟩ B) (fun I d => VE (lg (cs := #[(.int .i64 j), (.int .i64 k)]) d (pC rfl rfl) (mD eY gi zeroValue3) (fun J D d => bS hm fun K y hm => VE (Eg d call124 (HB (.slice (some ⟨D, 0, none⟩) 2 2) ([j, k]) _ _ (Sl.lit (enc := (lJ .i64)) (l := [j, k]) (fun _ => rfl) rfl nb rfl (d.at_ Mh)) y) (fun G d => Wa (ln ?_))))))))
 exact lj (rQ hm d)
theorem Nl (c : Formula) (H : Value) (r : ((List (List kw)) × Int)) (w : World) {μ0 : lm} (h0 : pP μ0 [] w) (g : Sl kW 5 μ0 H c.Kids) (hm : sw c = some r) :
  pg false pg0 141 [(.agg #[(.int .i64 c.Op), (.int .i64 c.K), (.string c.kw.kE), (.string c.kw.kT), H])] w μ0 [] (fun v L1 μ1 => ∃ y1, v = (.tuple #[y1, (.int .i64 (r.2))]) ∧ L1 = [] ∧ Sl (vP kx 2) 1 μ1 y1 (r.1)) := by
 refine RI h0 37 func141 rfl (fun d => sg ?_)
 obtain ⟨A1, c2, rfl⟩ := g.form
 let R : Value := (.slice A1 c.Kids.length c2)
 let a0 := (C1 c.Op c.K c.kw.kE c.kw.kT A1 c.Kids.length c2)
 refine VE (lB d rfl (fun W4 b3 d => Wa (Wa (lS (VA d Mh a0 cx aZ (bS hm fun r5 e7 hm => VE (Eg d call110 (D3 c R _ _ (g.mono lW.mono d.kJ) e7) (fun W7 d => V (mQ rfl) (ln (CI hm rfl (fun e6 hm => ?_) (fun e6 hm => ?_)))))))))))
 ·refine sg (Wa (Wa (ln ?_)))
  replace d := d.kz (Db St)
  refine lj (lb ?_)
  obtain rfl := sj hm
  exact qF (v := (.slice none 0 0)) (u := (.int .i64 11)) rfl rfl rfl ⟨_, _, _, rfl, (d.mL Sn), (kY.refl _), Lo.refl, (ST.lV d (np.mem Sn)), (.slice none 0 0), rfl, rfl, (Sl.nil _ _ _)⟩
 refine kg (VA d Mh a0 cx aZ (bS hm fun r9 d4 hm => VE (pF d call192 (Jc c R _ _ (g.mono lW.mono d.kJ) d4) (fun h8 b5 i0 e4 d I n a6 => Wa (lS (Wm (V (mP aF rfl a6) ?_)))))))
 refine Wi rfl (ln (CI hm rfl (fun d3 hm => ?_) (fun d3 hm => ?_)))
 ·refine sg (Wa (Wa (ln ?_)))
  replace d := d.kz (Dr (Db St))
  refine lj (lb ?_)
  obtain rfl := sj hm
  exact qF (v := (.slice none 0 0)) (u := (.int .i64 12)) rfl rfl rfl ⟨_, _, _, rfl, (d.mL Sn), I, n, (ST.lV d (np.mem Sn)), (.slice none 0 0), rfl, rfl, (Sl.nil _ _ _)⟩
 refine kg (Wa (lS (VA d (Ma Mh) a0 cx aZ (Wm (bS hm fun b4 d5 hm => VE (pF d call193 (NV c R b5 r9 _ _ (g.mono lW.mono (I.trans d.kJ)) (a6.sl mr (fun b o P => d.at_ (Ml P))) d5) (fun h9 e8 b6 e5 d a9 q T => V (mP eY rfl T) ?_)))))))
 refine Wm (ln ?_)
 replace d := d.kz (Kr (Kr (Db St)))
 refine lp (fun i E W => ∃ j Q t G a2, (E 20 = .int .i64 (i : Nat) ∧ E 19 = .int .i64 (b4.length : Nat)) ∧ kY b6 G ∧ Lo (keys []) w b6 G ∧ ST false (keys []) w W G (t ++ (e5 ++ (e4 ++ a2))) ∧ E 4 = b5 ∧ E 5 = j ∧ E 18 = e8 ∧ nm 34 (vP kx 2) 1 G j Q t ∧ pU r9 (b4.drop i) Q = some r) b4.length T.len ⟨(.slice none 0 0), ([]), [], b6, _, ⟨rfl, rfl⟩, (kY.refl _), Lo.refl, (d.kz St), rfl, rfl, rfl, (nm.nil _ _ _ _), hm⟩ dc dc dc (fun _ _ _ h => by obtain ⟨_, _, _, _, _, aa, _⟩ := h; exact aa) ?_ ?_
 ·rintro d6 E W c3 ⟨j, Q, t, G, a2, ⟨eI, eN⟩, k, m, d, a4, N, a5, J, a⟩
  obtain ⟨a7, f0, c9, b0, d0⟩ := lc c3
  rw [c9] at a
  refine bg (VQ (mC (i := (d6 : Int)) (x0 := a7) eY gi a5 eI T (aD _) b0) (fun g7 c4 => V (kA rfl (uR d.has (fun p P => (Ma (Ml P))) T (fun _ => rfl) c4 b0 (y := (.int .i64 a7)) rfl cC)) (Wa (ln (kL (Wh N (Wh a4 (Wm (bS a fun D c5 a => VE (pF d call194 (lK.mn (Gx b5 r9 a7 _ _ (a6.sl mr (fun b o P => d.at_ (Ma (Ma (Ml P))))) c5)) (fun f5 g9 h5 f3 d Y s a8 => ?_)))))))))))
  obtain ⟨K, M, rfl⟩ := a8.form
  refine VE (lg (cs := #[(.slice K D.length M)]) d (mI rfl) (mD cz dZ iL) (fun f6 f9 d => ?_))
  replace d := d.perm (Nr (Qb Qz) Nz)
  obtain ⟨e3, d, Z, A, c7⟩ := ST.A4 d a8 mr
  replace d := d.perm (Nr (Qb Qz) Nz)
  refine bS a fun d7 c0 a => VE (AL (B := t) vR d dc cz pS.1 pS.2.1 rfl pS.2.2.1 pS.2.2.2 rfl rfl (J.mono vR (Y.trans Z)) (Fw.lit vR (l := [D]) (.cons (ys := [(.slice K D.length M)]) ⟨(.slice K D.length M), rfl, c7⟩ .nil) rfl nb (d.at_ (Ma Mh))) c0 (fun f7 d9 d2 d b9 => Wa (lh (lu (kF ?_)))))
  replace d := d.kz (Kr (Db St))
  exact ⟨eI, d9, d7, d2, e3, _, ⟨rfl, eN⟩, ((k.trans Y).trans Z), ((m.trans s).trans A), (d.kz St), a4, rfl, a5, b9, (by rw [d0]; exact a)⟩
 rintro E W ⟨j, Q, t, G, a2, ⟨eI, eN⟩, k, m, d, a4, N, a5, J, a⟩
 rw [aG] at a
 refine kF ?_
 replace d := d.kz (Kr (Dr (Dr St)))
 refine kO (sg (Wh N (V (Ce cz rfl J) (Wi rfl (ln (CI a rfl (fun c1 a => ?_) (fun c1 a => ?_)))))))
 ·refine sg (Wa (Wa (ln ?_)))
  replace d := d.kz (Dr St)
  refine lj (lb ?_)
  obtain rfl := sj a
  exact qF (v := (.slice none 0 0)) (u := (.int .i64 12)) rfl rfl rfl ⟨_, _, _, rfl, (d.mL Sn), ((I.trans a9).trans k), ((n.trans q).trans m), (ST.lV d (np.mem Sn)), (.slice none 0 0), rfl, rfl, (Sl.nil _ _ _)⟩
 refine kg (Wh N (bS a fun g8 c6 a => ?_))
 refine VE (eD d (Cr Qz Cn) call195 (fun hh => pg.mn (QP j Q t (.func (.func 196) #[] #[]) (fun (x : ((List kw) × (List kw))) => oS x.1 x.2) _ _ hh J ⟨196, #[], rfl, call196, fun W x y z r hs hy hz hm => by obtain ⟨_, e1, h1⟩ := hy; obtain ⟨_, e2, h2⟩ := hz; cases e1; cases e2; exact (KL y x.1 z x.2 r W h1 h2 hm)⟩ c6)) ?_)
 rintro _ h3 h6 f2 d b1 L ⟨f4, U, rfl, d1⟩
 obtain rfl := U.symm
 replace d := d.perm (Tr Tn)
 refine lr (Wh N (Wa (Wa (lt ?_))))
 obtain rfl := sj a
 refine qF (v := j) (u := (.int .i64 0)) rfl rfl rfl ?_
 obtain ⟨h7, d, b2, O, c8⟩ := ST.Qw vR d d1
 exact ⟨_, _, _, rfl, (d.mL Sn), ((((I.trans a9).trans k).trans b1).trans b2), ((((n.trans q).trans m).trans L).trans O), (ST.lV d (np.mem Sn)), j, rfl, rfl, c8⟩
theorem yh (a : Value) (g : List kw) (c : Value) (i : kw → Option Bool) (r : Bool) (w : World) (j : Sl (Pl kx) 2 (hp w) a g) (k : th pg0 c (hp w) (fun (x : kw) => [(.agg (kx x).toArray)]) (fun (r : Bool) => (.bool r)) i) (hm : ou g i = some r) :
  la false pg0 142 [a, c] w (.bool r) := by
 refine cG 9 func142 rfl (fun d => sg (Wa (lr (Wm (Wm (bS hm fun y t hm => VE (Eg d call197 (zD a g c i _ _ (j.mono (Pl.mono _) d.kJ) (k.mono d.kJ) t) (fun u d => Wi rfl (Wa (lh ?_))))))))))
 exact kF (lj (rQ hm d))
theorem Jz (c : kw) (g : Nat) (a : Value) (i : kw → Option Bool) (r : Bool) (w : World) (k : th pg0 a (hp w) (fun (x : kw) => [(.agg (kx x).toArray)]) (fun (r : Bool) => (.bool r)) i) (j : At (hp w) (.pointer (some ⟨g, 0, none⟩)) [a]) (hm : wR c i = some r) :
  la false pg0 143 [(.agg (kx c).toArray), (.pointer (some ⟨g, 0, none⟩))] w (.bool r) := by
 refine cG 8 func143 rfl (fun d => sg (VE (lB d rfl (fun u B d => Wa (lr (V (kA rfl (ng d.has (y := a) j isAgg105)) (VA d Mh (kx c) aN aC (bS hm fun D t hm => VE (Bk c d k (kY.refl _) rfl (pH rfl) t (fun z d => V (mQ rfl) (Wa ?_)))))))))))
 refine ln ?_
 exact lj (rQ hm d)
theorem Ns (c : Formula) (t Z : Value) (T : kw → Option Bool) (r : ((List kw) × Bool)) (w : World) {μ0 : lm} (h0 : pP μ0 [] w) (k : Sl kW 5 μ0 t c.Kids) (I : th pg0 Z μ0 (fun (x : kw) => [(.agg (kx x).toArray)]) (fun (r : Bool) => (.bool r)) T) (hm : yN c T = some r) :
  pg false pg0 72 [(.agg #[(.int .i64 c.Op), (.int .i64 c.K), (.string c.kw.kE), (.string c.kw.kT), t]), Z] w μ0 [] (fun v L1 μ1 => ∃ P, v = (.tuple #[P, (.bool (r.2))]) ∧ L1 = [] ∧ Sl (Pl kx) 2 μ1 P (r.1)) := by
 refine RI h0 33 func72 rfl (fun d => sg ?_)
 obtain ⟨A1, c2, rfl⟩ := k.form
 refine VE (lB d rfl (fun W4 b3 d => ?_))
 obtain ⟨f5, f6, f7, rfl⟩ := I.form
 refine VE (lB d rfl (fun W9 b8 d => Wa (Wa (lr (VA d (Mt Mh) (C1 c.Op c.K c.kw.kE c.kw.kT A1 c.Kids.length c2) cx aZ (bS hm fun U b9 hm => ?_))))))
 refine VE (eD d (dp _) call141 (fun hh => (Nl c (.slice A1 c.Kids.length c2) _ _ hh (k.mono lW.mono (kY.refl _)) b9)) ?_ (L0 := []))
 rintro _ d8 A d6 d z m ⟨s, J, rfl, K⟩
 obtain rfl := J.symm
 refine Wm (Wx rfl (Wx rfl (Wa (Wa (ln ?_)))))
 replace d := d.kz (Kb (Db St))
 refine kO (sg (Wm (Wi rfl (Wm (LJ hm (fun Y E W => ∃ q, ST false (keys []) w W A ((b8, Ob #[(.func f5 f6 f7)] 105) :: q) ∧ E 3 = (.pointer (some ⟨b8, 0, none⟩)) ∧ E 6 = s ∧ E 20 = (.bool Y)) 3 ?_ (fun Y j G => ?_))))))
 ·let a0 : Value := (.pointer (some ⟨b8, 0, none⟩))
  rintro d9 E W ⟨q, d, c4, c5, c6⟩ B
  refine ln (CI B c6 (fun b6 B => ?_) (fun b6 B => ?_))
  ·refine sg (Wa (Wa (ln ?_)))
   replace d := d.kz (Db St)
   refine lj (lb ?_)
   obtain rfl := sj B
   exact qF (v := (.slice none 0 0)) (u := (.bool false)) rfl rfl rfl ⟨_, _, _, rfl, (d.mL Sn), z, m, (ST.lV d (np.mem Sn)), (.slice none 0 0), rfl, rfl, (Sl.nil _ _ _)⟩
  refine kS (Wh c5 (V (ly cz rfl K) (Wm (ln (lp (fun i E W => ∃ N, (E 23 = .int .i64 (i : Nat) ∧ E 22 = .int .i64 (U.1.length : Nat)) ∧ ST false (keys []) w W A ((b8, Ob #[(.func f5 f6 f7)] 105) :: N) ∧ E 3 = a0 ∧ E 21 = s ∧ uG T (U.1.drop i) = some r) U.1.length K.len ⟨_, ⟨rfl, rfl⟩, (d.kz St), c4, rfl, B⟩ dc dc dc (fun _ _ _ h => by obtain ⟨_, o, _⟩ := h; exact o) ?_ ?_)))))
  ·rintro c7 E W b7 ⟨N, ⟨n, L⟩, d, Q, H, a⟩
   obtain ⟨a9, d4, c1, c0, c3⟩ := lc b7
   rw [c1] at a
   refine bg (VQ (DB (enc := kx) (k2 := 2) (i := (c7 : Int)) (x0 := a9) cz dZ H n K (aD _) c0) (fun d2 ⟨D, a5, M⟩ => V (kA rfl (ng d.has (y := D) a5 dO)) (Wa (lr (Wm (V (vz (by exact pH Q) rfl) (bS a fun d3 R a => VE (Eg d call142 (yh D a9 (.func (.func 143) #[] #[a0]) (fun (x : kw) => wR x T) _ _ (M.mono (Pl.mono _) d.kJ) ⟨143, #[], #[a0], rfl, call143, fun W x r O hm => Jz x b8 (.func f5 f6 f7) T r W (I.mono ((z.trans d.kJ).trans O)) (At.of (O _ _ (d.at_ Mh)) _ rfl) hm⟩ R) (fun d0 d => V (mQ rfl) ?_)))))))))
   refine ln (CI a rfl (fun a4 a => ?_) (fun a4 a => ?_))
   ·refine sg (Wm (Wa (Wa (ln ?_))))
    replace d := d.kz (Db St)
    refine lj (me (lb (me (lb ?_))))
    obtain rfl := sj a
    exact qF (v := D) (u := (.bool true)) rfl rfl rfl ⟨_, _, _, rfl, (d.mL Sn), z, m, (ST.lV d (np.mem Sn)), D, rfl, rfl, M⟩
   exact lz (lu (kF ⟨n, _, ⟨rfl, L⟩, (d.kz St), Q, H, (by rw [c3]; exact a)⟩))
  rintro E W ⟨N, ⟨n, L⟩, d, Q, H, a⟩
  rw [aG] at a
  refine kF ?_
  replace d := d.kz (Db St)
  refine sg (Wa (Wa (lt ?_)))
  obtain rfl := sj a
  exact qF (v := (.slice none 0 0)) (u := (.bool false)) rfl rfl rfl ⟨_, _, _, rfl, (d.mL Sn), z, m, (ST.lV d (np.mem Sn)), (.slice none 0 0), rfl, rfl, (Sl.nil _ _ _)⟩
 refine bC j (fun g j => ?_) (fun g j => ?_)
 ·refine un g (un g (V (kR (cB g) rfl) ?_))
  obtain rfl := sj j
  exact G _ _ ⟨_, (d.kz St), rfl, rfl, rfl⟩
 refine ug g (kA rfl (kM d.has Mh rfl isAgg105)) (ug g (Ly underlying105 I rfl rfl) (V (kQ (cB g) rfl) ?_))
 obtain rfl := sj j
 exact G _ _ ⟨_, (d.kz St), rfl, rfl, rfl⟩
theorem IN (K : Nat) (a : Value) (G : List (kw × (List (ByteArray × Bool)))) (c : Value) (t : List ky) (j : Value) (D : List (kw × (List ky))) (g : Value) (u : List (ByteArray × (List ky))) (i : Value) (B : List kB) (J : Int) (I : kw) (a2 : ByteArray) (r : Bool) (w : World) (H : uj (fun (x : kw) => (.agg (kx x).toArray)) (mu Value.string (fun (x : Bool) => (Value.bool x))) (hp w) a G) (T : Sl (Pl kC) 9 (hp w) c t) (Z : uj (fun (x : kw) => (.agg (kx x).toArray)) (kU 108 kC 9) (hp w) j D) (U : uj Value.string (kU 108 kC 9) (hp w) g u) (Y : Sl (Pl kK) 3 (hp w) i B) (Q : At (hp w) (.pointer (some ⟨K, 0, none⟩)) [a, c, j, g, i, (.int .i64 J)]) (hm : tB G t D u B J I a2 = some r) :
  la true pg0 50 [(.pointer (some ⟨K, 0, none⟩)), (.agg (kx I).toArray), (.string a2)] w (.bool r) := by
 refine cG 19 func50 rfl (fun m => sg (VE (lB m rfl (fun W2 v m => Wa (ln (kO ?_))))))
 replace m := m.drew
 have d := m.has.kz (Kb Sn)
 refine lG d lq (X 0 rfl d (kH rfl) (X 1 rfl d (CS underlying101 rfl rfl) (X 2 rfl d (kH rfl) (Xg 3 rfl rfl rfl d (kH rfl) (Xg 4 rfl rfl rfl d (nv rfl) (FM 5 rfl kr (.inr ⟨2, true, 9, rfl, rfl, by decide, rfl⟩) rfl dc (fun _ _ h => h) d (zb [a] zo rfl Q rfl) (fun s a3 => uW 6 rfl rfl rfl d (fun _ n => kA rfl (ng n (y := a) a3 iK)) (uW 7 rfl rfl rfl d (fun _ n => kA rfl (kI n Mh (kx I) rfl aN aC)) ?_))))))))
 obtain ⟨a4, a5, M, N⟩ := H
 refine uW 8 rfl rfl rfl d (fun _ n => pZ (k := I) (z := (.map none)) Ci eB fp rfl rfl M (fun b o q => n.1 b o (N b o q))) (Xg 9 rfl rfl rfl d (kH rfl) (uW 10 rfl rfl rfl d (fun _ n => xB (k := a2) (z := false) (vf := (fun (x : Bool) => (Value.bool x))) JH fz gy rfl rfl ((ny.F3 kP.1 M I N).mono (fun b o q => n.1 b o q))) (X 11 rfl d (kR rfl rfl) (X 12 rfl d (mN rfl) (lT kr (kF ?_))))))
 exact lj (rQ hm m)
theorem M5 (a0 : kw) (n Z : Nat) (I : Value) (U : List (kw × (List (ByteArray × Bool)))) (g : Value) (G : List ky) (u : Value) (N : List (kw × (List ky))) (i : Value) (H : List (ByteArray × (List ky))) (t : Value) (M : List kB) (h : Int) (o : Nat) (B : ByteArray) (a : Value) (j : List nS) (c : Value) (z : List vd) (k : ByteArray) (a5 : Int) (D : Value) (J : List ky) (T : Value) (a2 : List ky) (K : Value) (Y : List kw) (Q : Value) (m : List kw) (r : Bool) (w : World) (a9 : uj (fun (x : kw) => (.agg (kx x).toArray)) (mu Value.string (fun (x : Bool) => (Value.bool x))) (hp w) I U) (a3 : Sl (Pl kC) 9 (hp w) g G) (s : uj (fun (x : kw) => (.agg (kx x).toArray)) (kU 108 kC 9) (hp w) u N) (a4 : uj Value.string (kU 108 kC 9) (hp w) i H) (q : Sl (Pl kK) 3 (hp w) t M) (v : At (hp w) (.pointer (some ⟨Z, 0, none⟩)) [I, g, u, i, t, (.int .i64 h)]) (A : At (hp w) (.pointer (some ⟨n, 0, none⟩)) [(.pointer (some ⟨Z, 0, none⟩))]) (P : Sl oL 15 (hp w) a j) (W : Sl vc 8 (hp w) c z) (b3 : Sl (Pl kC) 9 (hp w) D J) (c3 : Sl (Pl kC) 9 (hp w) T a2) (b9 : Sl (Pl kx) 2 (hp w) K Y) (c2 : Sl (Pl kx) 2 (hp w) Q m) (c1 : At (hp w) (.pointer (some ⟨o, 0, none⟩)) [(.string B), a, c, (.string k), (.int .i64 a5), D, T, K, Q]) (hm : yY a0 U G N H M h B j z k a5 J a2 Y m = some r) :
  la true pg0 144 [(.agg (kx a0).toArray), (.pointer (some ⟨n, 0, none⟩)), (.pointer (some ⟨o, 0, none⟩))] w (.bool r) := by
 refine cG 10 func144 rfl (fun d => sg (VE (lB d rfl (fun W2 R d => Wa (lr (V (kA rfl (ng d.has (y := (.pointer (some ⟨Z, 0, none⟩))) A isAgg101)) (VA d Mh (kx a0) aN aC (VQ (zb [(.string k)] GS rfl c1 rfl) (fun p3 L => V (kA rfl (ng d.has (y := (.string k)) L aY)) (bS hm fun r6 O hm => VE (Eg d call50 (IN Z I U g G u N i H t M h a0 k _ _ (a9.mono d.kJ) (a3.mono (Pl.mono _) d.kJ) (s.mono d.kJ) (a4.mono d.kJ) (q.mono (Pl.mono _) d.kJ) (v.mono d.kJ) O) (fun W8 d => ?_))))))))))))
 refine Wa (ln ?_)
 exact lj (rQ hm d)
theorem GD (g : Value) (i r : List ky) (w : World) (a : Sl (Pl kC) 9 (hp w) g i) (hm : ta i = some r) :
  lK true pg0 113 [g] w 108 kC 9 r := by
 unfold ta at hm
 refine sP 8 func113 rfl (fun d => sg (Wa (lS (Wm ?_))))
 obtain ⟨y, B, rfl⟩ := a.form
 refine V (D8 aX rfl rfl) (ln ?_)
 rcases y with _ | z
 ·have u := a.isNil
  replace hm : some [] = some r := by rw [u] at hm; simpa [mJ, maxLen] using hm
  refine ze (rfl) (sg (Wa (lt (lb ?_))))
  obtain rfl := sj hm
  exact lI (v := (.slice none 0 0)) rfl rfl ⟨_, [], rfl, d.mO (fun p h => by cases h) (by simp), kU.nil _ _ _⟩
 ·refine qo (rfl) (kg (VE (lg (cs := #[]) d um (zB [] aX aI cg dc rfl (by simp) rfl rfl) (fun G k d => Wm (bS hm fun H t hm => VE (my (enc := kC) (v := (.slice (some ⟨k, 0, none⟩) 0 0)) (vs := (.slice (some z) i.length B)) (R := [(k, Ob #[] 108)]) d mW dc nI aX pY.1 pY.2.1 rfl pY.2.2.1 pY.2.2.2 rfl rfl (kU.lit (l := []) (enc := kC) rfl dc rfl rfl) (a.mono (Pl.mono _) d.kJ) t (fun D x j d c => Wa (lt ?_))))))))
  obtain rfl := sj hm
  exact lI (v := x) rfl rfl ⟨_, j, rfl, d.mO (fun p h => (Ml h)) c.nd, c⟩
theorem DX (g : Value) (t : List ky) (j : Value) (B : ky → Option Bool) (r : Int) (w : World) (c : Sl (Pl kC) 9 (hp w) g t) (D : th pg0 j (hp w) (fun (x : ky) => [(.agg (kC x).toArray)]) (fun (r : Bool) => (.bool r)) B) (hm : wi t B = some r) :
  la false pg0 176 [g, j] w (.int .i64 r) := by
 refine cG 19 func176 rfl (fun d => sg (Wa (lS (Wm (V (ly aX rfl c) (Wm (ln (lp (fun i E W => ∃ k, (E 8 = .int .i64 (i : Nat) ∧ E 7 = .int .i64 (t.length : Nat)) ∧ ST false ll w W (hp w) k ∧ E 0 = g ∧ E 1 = j ∧ pw B (t.drop i) i = some r) t.length c.len ⟨_, ⟨rfl, rfl⟩, (d.kz St), rfl, rfl, hm⟩ dc dc dc (fun _ _ _ h => by obtain ⟨_, n, _⟩ := h; exact n) ?_ ?_))))))))
 ·rintro Q E W H ⟨k, ⟨m, o⟩, d, u, y, a⟩
  obtain ⟨z, T, M, K, N⟩ := lc H
  rw [M] at a
  refine bg (Wh m (Wa (lr (Wh y (Wh u (Wm (VQ (lO (enc := kC) (i := (Q : Int)) (x0 := z) aX aI rfl rfl c (aD _) K) (fun Y I => V (kA rfl (lD d.has I bG aI)) (bS a fun Z J a => ?_)))))))))
  refine VE (Bk z d D (kY.refl _) rfl (pH rfl) J (fun U d => ln (CI a rfl (fun G a => ?_) (fun G a => ?_))))
  ·refine sg (Wm (Wa (lt (me (lb (me (lb ?_)))))))
   obtain rfl := sj a
   exact rP d
  exact lz (lu (kF ⟨m, _, ⟨rfl, o⟩, (d.kz St), u, y, (by rw [N]; exact a)⟩))
 rintro E W ⟨k, ⟨m, o⟩, d, u, y, a⟩
 rw [aG] at a
 exact kF (sg (Wa (lt (rQ a d))))
theorem DO (j : Value) (a0 : List ky) (t : LO) (H : Value) (f1 : ky → Option Bool) (r : List ky) (w : World) {μ0 : lm} (h0 : pP μ0 (t ++ []) w) (T : kU 108 kC 9 j a0 t) (a4 : th pg0 H μ0 (fun (x : ky) => [(.agg (kC x).toArray)]) (fun (r : Bool) => (.bool r)) f1) (hm : so a0 f1 = some r) :
  mh false pg0 112 [j, H] w (t ++ []) (fun v L1 W' => ∃ s S2, v = s ∧ L1 = (S2 ++ []) ∧ kU 108 kC 9 s r S2) := by
 refine zN h0 42 func112 rfl (fun d => sg (Wa (lr (Wm (Wm (bS hm fun q d3 hm => VE (Eg d call176 (DX j a0 H f1 _ _ (T.sl mW (fun b o h => d.at_ (Ml h))) (a4.mono d.kJ) d3) (fun W3 d => Wa (ln ?_)))))))))
 refine kO (sg (Wm (Wi rfl (ln (CI hm rfl (fun d2 hm => ?_) (fun d2 hm => ?_))))))
 ·refine sg (Wm (Wa (lt (lb ?_))))
  obtain rfl := sj hm
  exact lI (v := j) rfl rfl ⟨_, _, rfl, (d.mL (Kr Sn)), j, t, rfl, rfl, T⟩
 refine kS (Wm (Wi rfl (Wa (ln (mK (od (fun m E W => ∃ U I B D a2, ST false (keys (t ++ [])) w W μ0 (I ++ a2) ∧ E 0 = j ∧ E 1 = H ∧ E 5 = (.int .i64 B) ∧ E 6 = (.int .i64 D) ∧ kU 108 kC 9 j U I ∧ nX f1 m U B D = some r) lC ⟨a0, t, q, (wi0 .i64 (q + 1)), _, (d.kz St), rfl, rfl, rfl, rfl, T, hm⟩ ?_))))))
 rintro m E W ⟨U, I, B, D, a2, d, y, Q, G, K, g, a⟩
 cases m with
 | zero => rw [nX] at a; cases a
 | succ c8 =>
  refine kO (sg (Wh K (Wh y (V (mP aX rfl g) (Wi rfl (ln (CI a rfl (fun L a => ?_) (fun L a => ?_))))))))
  ·refine kn (kO (CJ a (fun Y E W => ∃ J a3, ST false (keys (t ++ [])) w W μ0 (J ++ a3) ∧ E 0 = j ∧ E 1 = H ∧ E 5 = (.int .i64 Y.2) ∧ E 6 = (.int .i64 D) ∧ kU 108 kC 9 j Y.1 J) (fun Y c => ?_) ?_))
   ·refine bg (Wh y (Wh K (bS c fun k M c => VQ (mC (i := D) (x0 := k) aX aI rfl rfl g (lY M) (lN M)) (fun e4 R => V (kA rfl (ot d.has (fun p h => (Ml h)) g mW R (lN M) bG aI)) (VE (lA d cg (fun d7 e2 d => VO (lf (.agg (kC k).toArray) ((kC k).toArray) d rfl rfl aI (nI k) nb rfl (fun d8 d => lr (Wh Q ?_))))))))))
    refine VA d Mh (kC k) bG aI (bS c fun e6 b5 c => VE (Bk k d a4 (kY.refl _) rfl (pH rfl) b5 (fun d9 d => V (mQ rfl) (ln (CI c rfl (fun O c => ?_) (fun O c => ?_))))))
    ·refine sg (Wh y (Wh G (VA d Mh (kC k) bG aI (bS c fun d0 N c => VQ (mC (i := B) (x0 := d0) aX aI rfl rfl g (lY N) (lN N)) (fun e5 b4 => ?_)))))
     replace d := d.perm (Nr (Qb Qz) Nz)
     refine VO (zd (u := (.agg (kC k).toArray)) (x1 := k)  d g mW nI rfl rfl rfl b4 (lN N) aI (fun e0 c1 d A => ln ?_))
     replace d := d.kz (Kr (Db St))
     refine kL (Wh G (Wi rfl (Wa (lh (lu (kF ?_))))))
     obtain rfl := sj c
     exact ⟨c1, _, (d.kz St), y, Q, rfl, K, A⟩
    refine lz (lu (kF ?_))
    obtain rfl := sj c
    exact ⟨I, _, (d.kz (Db St)), y, Q, G, K, g⟩
   rintro ⟨c7, c9⟩ E W ⟨J, a3, d, c3, c4, c5, c6, b6⟩ P
   exact kL (Wh c6 (Wi rfl (Wa (ln ⟨c8, bT _, c7, J, c9, (wi0 .i64 (D + 1)), _, (d.kz St), c3, c4, c5, rfl, b6, P⟩))))
  refine ob (nN (nN (uf (kF (sg (Wh y (Wh G (bS a fun _ Z a => VQ (tV (i := B) aX aI rfl rfl g (qD Z) (qw Z)) (fun e7 b7 => VO (yn (z := K6)  d g mW nI aX cg b7 rfl rfl (fun e1 c2 d a9 => lr (Wh y ?_))))))))))))
  refine Wh G (bS a fun _ n a => VQ (ui (i := B) aX aI rfl rfl a9 mW (qD n) (qw n)) (fun a5 b9 => Wa (lt ?_)))
  obtain rfl := sj a
  exact lI (v := a5) rfl rfl ⟨_, _, rfl, (d.mL (Kr Sn)), a5, c2, rfl, rfl, b9⟩
theorem LG (a : ky) (r : Bool) (w : World) (hm : Ae a = some r) :
  la true pg0 114 [(.agg (kC a).toArray)] w (.bool r) := by
 refine cG 6 func114 rfl (fun d => sg (VE (lB d rfl (fun g j d => Wa (lr (VA d Mh (kC a) bG aI (bS hm fun k c hm => VE (Eg d kc (uq a _ _  c) (fun i d => V (mQ rfl) (Wa (lh ?_)))))))))))
 refine kF ?_
 exact lj (rQ hm d)
theorem Qj (c : Value) (k : List ky) (a : LO) (g : Value) (t : (ky × ky) → Option Int) (r : List ky) (w : World) {y : lm} (u : pP y (a ++ []) w) (i : kU 108 kC 9 c k a) (j : Ip pg0 g y (fun (x : (ky × ky)) => [(.agg (kC x.1).toArray), (.agg (kC x.2).toArray)]) (fun (r : Int) => (.int .i64 r)) t) (hm : yA t k = some r) :
  mh true pg0 116 [c, g] w (a ++ []) (fun v z W' => ∃ S, v = (.tuple #[]) ∧ z = (S ++ []) ∧ kU 108 kC 9 c r S) := Iv (P := pg0) (ρ := Rq) WG 9 bG aI kC mW nI u.H u.S i j hm
theorem qR (t : Nat) (j : Value) (G : List Int) (i : LO) (h : Int) (r : (Bool × (List Int))) (w : World) {μ0 : lm} (A : pP μ0 ((t, Ob #[j] 81) :: (i ++ [])) w) (y : kU 5 (lJ .u8) 1 j G i) (hm : mV G h = some r) :
  mh true pg0 93 [(.pointer (some ⟨t, 0, none⟩)), (.int .i64 h)] w ((t, Ob #[j] 81) :: (i ++ [])) (fun v L1 W' => ∃ n S2, v = (.bool (r.1)) ∧ L1 = ((t, Ob #[n] 81) :: (S2 ++ [])) ∧ kU 5 (lJ .u8) 1 n r.2 S2) := by
 refine zN A 38 func93 rfl (fun d => sg (Wa (lS (Wm (V (ua fq rfl rfl) (Wm (Vg rfl rfl (kH rfl) (Vg rfl rfl (lL rfl rfl rfl) (V (kQ rfl rfl) ?_)))))))))
 refine ln (CI hm rfl (fun a9 hm => ?_) (fun a9 hm => ?_))
 ·refine sg (Wa (lt (lb ?_)))
  obtain rfl := sj hm
  exact lI (v := (.bool false)) rfl rfl ⟨_, _, rfl, (d.mL (Kb (Kr Sn))), j, i, rfl, rfl, y⟩
 refine kn (kO (mK (od (fun m E W => ∃ c z U u a0, ST true (keys ((t, Ob #[j] 81) :: (i ++ []))) w W μ0 ((t, Ob #[z] 81) :: (u ++ a0)) ∧ E 0 = (.pointer (some ⟨t, 0, none⟩)) ∧ E 1 = (.int .i64 c) ∧ kU 5 (lJ .u8) 1 z U u ∧ oG m c U = some r) lC ⟨h, j, G, i, _, (d.kz St), rfl, rfl, y, hm⟩ ?_)))
 rintro m E W ⟨c, z, U, u, a0, d, x, K, T, g⟩
 cases m with
 | zero => rw [oG] at g; cases g
 | succ s =>
  refine kO (sg (Wh K (Wi rfl (ln (CI g rfl (fun o g => ?_) (fun o g => ?_))))))
  ·refine kn (kO (mK (kL (Wh x (Wh x (Wn (Wf A8 (VB d Mh rfl rfl fQ (Wh K (V (Cf (k' := .i64) (a := c) gC eU rfl) (V (FT (k := .u8) (a := (IntKind.u8.wrap c)) (b := 128) (v := (.int .u8 (IntKind.u8.wrap (BitVec.ofInt (IntKind.bits .u8) (IntKind.u8.wrap c) ||| BitVec.ofInt (IntKind.bits .u8) 128).toNat))) rfl rfl dc rfl) (VE (lg (cs := [(.int .u8 (IntKind.u8.wrap (BitVec.ofInt (IntKind.bits .u8) (IntKind.u8.wrap c) ||| BitVec.ofInt (IntKind.bits .u8) 128).toNat))].toArray) d (mI rfl) (mD cw iY kd) (fun c3 q d => ?_))))))))))))))
   replace d := d.perm (Nr (Qb (Qb Qz)) Nz)
   refine bS g fun Q Y g => VE (my (enc := (lJ .u8)) (v := z) (vs := (.slice (some ⟨q, 0, none⟩) 1 1)) (R := u) d (fun _ => rfl) dc (I4 _) cw uD.1 uD.2.1 rfl uD.2.2.1 uD.2.2.2 rfl rfl T (Sl.lit (enc := (lJ .u8)) (l := [(IntKind.u8.wrap (BitVec.ofInt (IntKind.bits .u8) (IntKind.u8.wrap c) ||| BitVec.ofInt (IntKind.bits .u8) 128).toNat)]) (fun _ => rfl) rfl nb rfl (d.at_ (Ma Mh))) Y (fun L c1 a2 d M => Wn (Wf A8 ?_)))
   obtain ⟨B, H, rfl⟩ := M.form
   replace d := d.perm (Nb (Pr (Pb Pz)) Nz)
   refine VO (lf (.slice B Q.length H) (#[(.slice B Q.length H)]) d rfl rfl gX oc nb rfl (fun O d => lh (lu (kF ?_))))
   replace d := d.kz (Kb (Kr (Db St)))
   exact kL (Wh K (V (Q4 (a := c) (b := 7) rfl rfl dc) (Wa (ln ⟨s, bT _, (Int.fdiv c (2 ^ min (Int.toNat 7) (IntKind.bits .i64))), (.slice B Q.length H), Q, a2, _, (d.kz St), x, rfl, M, g⟩))))
  refine ob (nN (nN (uf (kF (sg (Wh x (Wh x (Wn (Wf A8 (VB d Mh rfl rfl fQ (Wh K (V (Cf (k' := .i64) (a := c) gC eU rfl) (VE (lg (cs := [(.int .u8 (IntKind.u8.wrap c))].toArray) d (mI rfl) (mD cw iY kd) (fun P a5 d => ?_)))))))))))))))
  replace d := d.perm (Nr (Qb (Qb Qz)) Nz)
  refine bS g fun J Z g => VE (my (enc := (lJ .u8)) (v := z) (vs := (.slice (some ⟨a5, 0, none⟩) 1 1)) (R := u) d (fun _ => rfl) dc (I4 _) cw uD.1 uD.2.1 rfl uD.2.2.1 uD.2.2.2 rfl rfl T (Sl.lit (enc := (lJ .u8)) (l := [(IntKind.u8.wrap c)]) (fun _ => rfl) rfl nb rfl (d.at_ (Ma Mh))) Z (fun b7 c2 a3 d N => Wn (Wf A8 ?_)))
  obtain ⟨D, I, rfl⟩ := N.form
  replace d := d.perm (Nb (Pr (Pb Pz)) Nz)
  refine VO (lf (.slice D J.length I) (#[(.slice D J.length I)]) d rfl rfl gX oc nb rfl (fun b9 d => ln ?_))
  replace d := d.kz (Kb (Kr (Db St)))
  refine sg (Wa (lt ?_))
  obtain rfl := sj g
  exact lI (v := (.bool true)) rfl rfl ⟨_, _, rfl, (d.mL (Kb (Kr Sn))), (.slice D J.length I), a3, rfl, rfl, N⟩
theorem Ib (g : Nat) (c : Value) (j : List Int) (a : LO) (u : Value) (D : List Int) (r : (Bool × (List Int))) (w : World) {Z : lm} (m : pP Z ((g, Ob #[c] 81) :: (a ++ [])) w) (i : kU 5 (lJ .u8) 1 c j a) (k : Sl (Pl (lJ .u8)) 1 Z u D) (hm : xm j D = some r) :
  mh true pg0 206 [(.pointer (some ⟨g, 0, none⟩)), u] w ((g, Ob #[c] 81) :: (a ++ [])) (fun v L1 W' => ∃ U M, v = (.bool (r.1)) ∧ L1 = ((g, Ob #[U] 81) :: (M ++ [])) ∧ kU 5 (lJ .u8) 1 U r.2 M) := by
 refine zN m 25 func206 rfl (fun d => sg (Wa (lS (Wm (V (ua fq rfl rfl) (Wm (Vg rfl rfl (kH rfl) (Vg rfl rfl (ly cw rfl k) (Vg rfl rfl (lL rfl rfl rfl) ?_)))))))))
 refine V (kQ rfl rfl) (ln (CI hm rfl (fun Q hm => ?_) (fun Q hm => ?_)))
 ·refine sg (Wa (lt (lb ?_)))
  obtain rfl := sj hm
  exact lI (v := (.bool false)) rfl rfl ⟨_, _, rfl, (d.mL (Kb (Kr Sn))), c, a, rfl, rfl, i⟩
 refine kg (Wm (Wm (V (ly cw rfl k) (bS hm fun A T hm => ?_))))
 refine VE (eM d (Cb Pz (Cr Qz Cn)) call93 (fun n _ => (qR g c j a (D.length : Int) _ _ n i T)) ?_)
 rintro _ v8 q a3 d H o h ⟨Y, K, t, rfl, I⟩
 obtain rfl := t.symm
 replace d := d.perm (Tb (Tr Tn))
 refine lr (Wm (Wm (Wn (Wf A8 (VB d Mh rfl rfl fQ (Wm ?_))))))
 replace d := d.perm (Nr (Qb Qz) Nz)
 refine bS hm fun B G hm => VE (my (enc := (lJ .u8)) (v := Y) (vs := u) (R := K) d (fun _ => rfl) dc (I4 _) cw uD.1 uD.2.1 rfl uD.2.2.1 uD.2.2.2 rfl rfl I (k.mono (Pl.mono _) (H.trans d.kJ)) G (fun a4 s J d z => Wn (Wf A8 ?_)))
 obtain ⟨x, y, rfl⟩ := z.form
 replace d := d.perm (Nb (Pr Pz) Nz)
 refine VO (lf (.slice x B.length y) (#[(.slice x B.length y)]) d rfl rfl gX oc nb rfl (fun a5 d => lr (Wa (lt ?_))))
 obtain rfl := sj hm
 exact lI (v := (.bool true)) rfl rfl ⟨_, _, rfl, (d.mL (Kb (Kr Sn))), (.slice x B.length y), J, rfl, rfl, z⟩
theorem yK (j : Nat) (c : Value) (t : List Int) (a : LO) (J : ByteArray) (r : (Bool × (List Int))) (w : World) {Z : lm} (O : pP Z ((j, Ob #[c] 81) :: (a ++ [])) w) (k : kU 5 (lJ .u8) 1 c t a) (hm : rj t J = some r) :
  mh true pg0 162 [(.pointer (some ⟨j, 0, none⟩)), (.string J)] w ((j, Ob #[c] 81) :: (a ++ [])) (fun v L1 W' => ∃ q S2, v = (.bool (r.1)) ∧ L1 = ((j, Ob #[q] 81) :: (S2 ++ [])) ∧ kU 5 (lJ .u8) 1 q r.2 S2) := by
 refine zN O 17 func162 rfl (fun d => sg (Wa (lr (Wm (V (CS fq rfl rfl) (Wm (Vg rfl rfl (kH rfl) (bS hm fun r1 a4 hm => Sz rfl rfl (Eg d jZ (uc J _ _  a4) (fun W3 d => V (kR rfl rfl) ?_))))))))))
 refine Wm (LJ hm (fun B E W => ∃ z x D I, kY Z D ∧ ST true (keys ((j, Ob #[c] 81) :: (a ++ []))) w W D ((j, Ob #[z] 81) :: (x ++ I)) ∧ E 4 = (.bool false) ∧ E 16 = (.bool B.1) ∧ kU 5 (lJ .u8) 1 z B.2 x) 5 ?_ (fun B g y => ?_))
 ·rintro ⟨A, c0⟩ E W ⟨z, x, D, I, R, d, b9, a3, T⟩ M
  refine Wg a3 (lt ?_)
  obtain rfl := sj M
  exact lI (v := (.bool A)) rfl rfl ⟨_, _, rfl, (d.mL (Kb (Kr Sn))), z, x, rfl, rfl, T⟩
 refine bC g (fun i g => ?_) (fun i g => ?_)
 ·refine ug i (kH rfl) (ug i (kH rfl) (bS g fun a5 N g => pX i (Lu d bQ cw eU rfl N (fun b6 s c3 d G n U b4 => bS g fun c1 Q g => ?_))))
  refine pX i (eM d (Cb Pz (Cr Qz Cn)) call206 (fun P m => (Ib j c t a s a5 _ _ P k (U.mono (Pl.mono _) m) Q)) ?_)
  rintro _ c2 L b5 d H o h ⟨a9, a2, u, rfl, Y⟩
  obtain rfl := u.symm
  replace d := d.perm (Tb (Tr Tn))
  refine V (kR (cB i) rfl) ?_
  obtain rfl := sj g
  exact y _ _ ⟨a9, a2, L, _, (G.trans H), (d.kz St), rfl, rfl, Y⟩
 refine un i (un i (un i (un i (V (kQ (cB i) rfl) ?_))))
 obtain rfl := sj g
 exact y _ _ ⟨c, a, Z, _, (kY.refl _), (d.kz St), rfl, rfl, k⟩
theorem xx (c : Nat) (i : Value) (D : List Int) (a : LO) (x : kw) (r : (Bool × (List Int))) (w : World) {μ0 : lm} (h0 : pP μ0 ((c, Ob #[i] 81) :: (a ++ [])) w) (y : kU 5 (lJ .u8) 1 i D a) (hm : oU D x = some r) :
  mh true pg0 94 [(.pointer (some ⟨c, 0, none⟩)), (.agg (kx x).toArray)] w ((c, Ob #[i] 81) :: (a ++ [])) (fun v L1 W' => ∃ A S2, v = (.bool (r.1)) ∧ L1 = ((c, Ob #[A] 81) :: (S2 ++ [])) ∧ kU 5 (lJ .u8) 1 A r.2 S2) := by
 let n := ((c, Ob #[i] 81) :: (a ++ []))
 refine zN h0 23 func94 rfl (fun d => sg (VE (lB d rfl (fun W2 o d => Wa (lr (Wm (V (CS fq rfl rfl) (Wm (Vg rfl rfl (kA rfl (kI d.has Mh (kx x) rfl aN aC)) (bS hm fun r3 c4 hm => Sz rfl rfl (Eg d jA (sB x _ _  c4) (fun W5 d => ?_))))))))))))
 refine V (kR rfl rfl) (Wm (LJ hm (fun T E W => ∃ z u B a0, kY μ0 B ∧ ST true (keys n) w W B ((o, Ol (kx x) 28) :: ((c, Ob #[z] 81) :: (u ++ a0))) ∧ E 0 = (.pointer (some ⟨c, 0, none⟩)) ∧ E 3 = (.pointer (some ⟨o, 0, none⟩)) ∧ E 4 = (.bool false) ∧ E 16 = (.bool T.1) ∧ kU 5 (lJ .u8) 1 z T.2 u) 5 ?_ (fun T t K => ?_)))
 ·rintro ⟨e6, c5⟩ E W ⟨z, u, B, a0, d2, d, c0, c1, a3, c2, N⟩ L
  refine Wh c2 (LJ L (fun Q E W => ∃ M I U a2, kY B U ∧ ST true (keys n) w W U ((c, Ob #[M] 81) :: (I ++ a2)) ∧ E 4 = (.bool false) ∧ E 22 = (.bool Q.1) ∧ kU 5 (lJ .u8) 1 M Q.2 I) 5 ?_ (fun Q k J => ?_))
  ·rintro ⟨c6, e1⟩ E W ⟨M, I, U, a2, d3, d, e0, c3, R⟩ O
   refine Wg c3 (lt ?_)
   obtain rfl := sj O
   exact lI (v := (.bool c6)) rfl rfl ⟨_, _, rfl, (d.mL (Kb (Kr Sn))), M, I, rfl, rfl, R⟩
  refine bC k (fun g k => ?_) (fun g k => ?_)
  ·refine ug g (kH c0) (ug g (kD vO c1) (ug g (kA rfl (kM d.has Mh rfl aY)) (bS k fun e2 P k => ?_)))
   refine pX g (eM d (Cb (Pb Pz) (Cr (Qb Qz) Cn)) call162 (fun m _ => (yK c z c5 u x.kT _ _ m N P)) ?_)
   rintro _ e4 d0 d6 d Y q h ⟨c8, b6, G, rfl, b2⟩
   obtain rfl := G.symm
   replace d := d.perm (Tb (Tr Tn))
   refine V (kR (cB g) rfl) ?_
   obtain rfl := sj k
   exact J _ _ ⟨c8, b6, d0, _, Y, (d.kz (Kb (Kr (Db St)))), a3, rfl, b2⟩
  refine un g (un g (un g (un g (V (kQ (cB g) rfl) ?_))))
  obtain rfl := sj k
  exact J _ _ ⟨z, u, B, _, (kY.refl _), (d.kz (Db St)), a3, rfl, N⟩
 refine bC t (fun j t => ?_) (fun j t => ?_)
 ·refine ug j (kH rfl) (ug j (kD oQ rfl) (ug j (kA rfl (kM d.has Mh rfl aY)) (bS t fun e3 a9 t => ?_)))
  refine pX j (eM d (Cb (Pb Pz) (Cr (Qb Qz) Cn)) call162 (fun m _ => (yK c i D a x.kE _ _ m y a9)) ?_)
  rintro _ e5 d1 d7 d Z s h ⟨c9, b7, H, rfl, b3⟩
  obtain rfl := H.symm
  replace d := d.perm (Tb (Tr Tn))
  refine V (kR (cB j) rfl) ?_
  obtain rfl := sj t
  exact K _ _ ⟨c9, b7, d1, _, Z, (d.kz (Sb (Pb (Pr Pz)) St)), rfl, rfl, rfl, rfl, b3⟩
 refine un j (un j (un j (un j (V (kQ (cB j) rfl) ?_))))
 obtain rfl := sj t
 exact K _ _ ⟨i, a, μ0, _, (kY.refl _), (d.kz St), rfl, rfl, rfl, rfl, y⟩
theorem Ct (g : Value) (i r : List Int) (w : World) (a : Sl (Pl (lJ .u8)) 1 (hp w) g i) (hm : pG i = some r) :
  lK true pg0 96 [g] w 5 (lJ .u8) 1 r := by
 unfold pG at hm
 refine sP 8 func96 rfl (fun d => sg (Wa (lS (Wm ?_))))
 obtain ⟨y, B, rfl⟩ := a.form
 refine V (D8 cw rfl rfl) (ln ?_)
 rcases y with _ | z
 ·have u := a.isNil
  replace hm : some [] = some r := by rw [u] at hm; simpa [mJ, maxLen] using hm
  refine ze (rfl) (sg (Wa (lt (lb ?_))))
  obtain rfl := sj hm
  exact lI (v := (.slice none 0 0)) rfl rfl ⟨_, [], rfl, d.mO (fun p h => by cases h) (by simp), kU.nil _ _ _⟩
 ·refine qo (rfl) (kg (VE (lg (cs := #[]) d um (zB [] cw iY kd dc rfl (by simp) rfl rfl) (fun G k d => Wm (bS hm fun H t hm => VE (my (enc := (lJ .u8)) (v := (.slice (some ⟨k, 0, none⟩) 0 0)) (vs := (.slice (some z) i.length B)) (R := [(k, Ob #[] 5)]) d (fun _ => rfl) dc (I4 _) cw uD.1 uD.2.1 rfl uD.2.2.1 uD.2.2.2 rfl rfl (kU.lit (l := []) (enc := (lJ .u8)) rfl dc rfl rfl) (a.mono (Pl.mono _) d.kJ) t (fun D x j d c => Wa (lt ?_))))))))
  obtain rfl := sj hm
  exact lI (v := x) rfl rfl ⟨_, j, rfl, d.mO (fun p h => (Ml h)) c.nd, c⟩
theorem Ay (g : Nat) (a : Value) (c r : List Int) (w : World) (j : Sl (Pl (lJ .u8)) 1 (hp w) a c) (k : At (hp w) (.pointer (some ⟨g, 0, none⟩)) [a]) (hm : qk c = some r) :
  lK true pg0 37 [(.pointer (some ⟨g, 0, none⟩))] w 5 (lJ .u8) 1 r := by
 refine sP 10 func37 rfl (fun d => sg (Wa (lS (Wm (V (ua fq rfl rfl) (ln (qo rfl (lz ?_))))))))
 refine kF (sg (Wm (Wn (VQ (zb [a] A8 rfl k rfl) (fun G u => V (kA rfl (ng d.has (y := a) u fQ)) (bS hm fun H x hm => VE (pF d call96 (Ct a c _ _ (j.mono (Pl.mono _) d.kJ) x) (fun D z I t d B h i => Wa (lt ?_)))))))))
 obtain rfl := sj hm
 exact lI (v := z) rfl rfl ⟨_, t, rfl, d.mO (fun p m => (Ml m)) i.nd, i⟩
theorem DR (c : ky) (r : List Int) (w : World) (hm : vT c = some r) :
  lK true pg0 161 [(.agg (kC c).toArray)] w 5 (lJ .u8) 1 r := by
 refine sP 53 func161 rfl (fun d => sg (VE (lB d rfl (fun W2 b1 d => Wa (lS (VA d Mh (kC c) bG aI (bS hm fun r3 g3 hm => VE (Eg d kc (uq c _ _  g3) (fun W5 d => V (mQ rfl) (lh ?_))))))))))
 refine kF (CI hm rfl (fun g0 hm => ?_) (fun g0 hm => ?_))
 ·refine sg (Wa (ln ?_))
  replace d := d.kz (Db St)
  refine lj (lb ?_)
  obtain rfl := sj hm
  exact lI (v := (.slice none 0 0)) rfl rfl ⟨_, [], rfl, d.mO (fun p n => by cases n) (by simp), kU.nil _ _ _⟩
 refine kg (V (nc (v := (.agg #[(.slice none 0 0)])) um (mB zeroValue81 fl (Tl _ fl) kr)) (VE (lB d rfl (fun W8 g d => Wa (lr (Wm (Wf nZ (VB d (Mt Mh) rfl rfl cC (bS hm fun r9 e2 hm => ?_)))))))))
 refine VE (eM d (Cb Pz (C0 Cn)) call93 (fun m _ => (qR g (.slice none 0 0) ([]) [] c.Kind _ _ m (kU.nil _ _ _) e2)) ?_)
 rintro _ k3 k5 j9 d g7 a6 h ⟨g4, f9, I, rfl, e4⟩
 obtain rfl := I.symm
 replace d := d.perm (Tb (Tr Tn))
 refine lr (Wm (Wf oe (VA d (Mt (Ma Mh)) (kx c.Head) aN aC (bS hm fun N e3 hm => ?_))))
 refine VE (eM d (Cb Pz (Cr Qz Cn)) call94 (fun m _ => (xx g g4 r9.2 f9 c.Head _ _ m e4 e3)) ?_)
 rintro _ k4 d1 k0 d g8 a7 h ⟨G, D, J, rfl, i⟩
 obtain rfl := J.symm
 replace d := d.perm (Tb (Tr Tn))
 refine ln (kO (CJ hm (fun a3 E W => ∃ B H K Q, kY d1 K ∧ ST true ll w W K ((g, Ob #[B] 81) :: (H ++ Q)) ∧ E 3 = (.pointer (some ⟨g, 0, none⟩)) ∧ kU 5 (lJ .u8) 1 B a3 H) (fun a3 a => ?_) ?_))
 ·refine sg (Wf nZ (VB d (Mt (Ma Mh)) rfl rfl cC (ln (bg (Wi rfl (Wa (ln (CI a rfl (fun b0 a => ?_) (fun b0 a => ?_)))))))))
  ·refine kL (Wm (Wf sL (VB d (Mt (Ma Mh)) rfl rfl aY (bS a fun i3 b6 a => ?_))))
   refine VE (eM d (Cb Pz (Cr Qz Cn)) call162 (fun m _ => (yK g G N.2 D c.lx _ _ m i b6)) ?_)
   rintro _ i8 f5 g9 d T s h ⟨e9, d3, k, rfl, c5⟩
   obtain rfl := k.symm
   replace d := d.perm (Tb (Tr Tn))
   refine lh (lu (kF ?_))
   obtain rfl := sj a
   exact ⟨e9, d3, f5, _, T, (d.kz (Kb (Kr (Db St)))), rfl, c5⟩
  refine sg (Wi rfl (Wa (ln (CI a rfl (fun b2 a => ?_) (fun b2 a => ?_)))))
  ·refine kL (Wm (Wf mT (VA d (Mt (Ma Mh)) (kx c.B) aN aC (bS a fun i4 b9 a => ?_))))
   refine VE (eM d (Cb Pz (Cr Qz Cn)) call94 (fun m _ => (xx g G N.2 D c.B _ _ m i b9)) ?_)
   rintro _ i9 f6 h0 d U A h ⟨f0, d4, t, rfl, c6⟩
   obtain rfl := t.symm
   replace d := d.perm (Tb (Tr Tn))
   refine lh (lu (kF ?_))
   obtain rfl := sj a
   exact ⟨f0, d4, f6, _, U, (d.kz (Kb (Kr (Db St)))), rfl, c6⟩
  refine sg (Wi rfl (Wa (ln (CI a rfl (fun b3 a => ?_) (fun b3 a => ?_)))))
  ·refine sg (Wm (Wf mT (VA d (Mt (Ma Mh)) (kx c.B) aN aC (bS a fun e6 c0 a => ?_))))
   refine VE (eM d (Cb Pz (Cr Qz Cn)) call94 (fun m _ => (xx g G N.2 D c.B _ _ m i c0)) ?_)
   rintro _ j0 j7 h1 d Y L h ⟨f1, d5, u, rfl, c7⟩
   obtain rfl := u.symm
   replace d := d.perm (Tb (Tr Tn))
   refine ln (kL (Wm (Wf rO (VB d (Mt (Ma Mh)) rfl rfl aY (bS a fun i5 c1 a => ?_)))))
   refine VE (eM d (Cb Pz (Cr Qz Cn)) call162 (fun m _ => (yK g f1 e6.2 d5 c.lU _ _ m c7 c1)) ?_)
   rintro _ j3 f7 h2 d Z O h ⟨f2, d6, x, rfl, c8⟩
   obtain rfl := x.symm
   replace d := d.perm (Tb (Tr Tn))
   refine lh (lu (kF ?_))
   obtain rfl := sj a
   exact ⟨f2, d6, f7, _, (Y.trans Z), (d.kz (Kb (Kr (Db St)))), rfl, c8⟩
  refine sg (Wi rfl (Wa (ln (CI a rfl (fun b4 a => ?_) (fun b4 a => ?_)))))
  ·refine sg (Wm (Wf mT (VA d (Mt (Ma Mh)) (kx c.B) aN aC (bS a fun e7 c2 a => ?_))))
   refine VE (eM d (Cb Pz (Cr Qz Cn)) call94 (fun m _ => (xx g G N.2 D c.B _ _ m i c2)) ?_)
   rintro _ j4 j8 h3 d a1 P h ⟨f3, d7, y, rfl, c9⟩
   obtain rfl := y.symm
   replace d := d.perm (Tb (Tr Tn))
   refine ln (kL (Wm (Wf pL (VA d (Mt (Ma Mh)) (kx c.C) aN aC (bS a fun i6 c3 a => ?_)))))
   refine VE (eM d (Cb Pz (Cr Qz Cn)) call94 (fun m _ => (xx g f3 e7.2 d7 c.C _ _ m c9 c3)) ?_)
   rintro _ j5 f8 h4 d a2 R h ⟨f4, d8, z, rfl, d0⟩
   obtain rfl := z.symm
   replace d := d.perm (Tb (Tr Tn))
   refine lh (lu (kF ?_))
   obtain rfl := sj a
   exact ⟨f4, d8, f8, _, (a1.trans a2), (d.kz (Kb (Kr (Db St)))), rfl, d0⟩
  refine lz (lu (kF ?_))
  obtain rfl := sj a
  exact ⟨G, D, d1, _, (kY.refl _), (d.kz (Kb (Kr (Db St)))), rfl, i⟩
 rintro e5 E W ⟨B, H, K, Q, g1, d, d9, c4⟩ j
 refine sg (Wh d9 (bS j fun i2 b5 j => VE (pF d call37 (Ay g B e5 _ _ (c4.sl (fun _ => rfl) (fun b o n => d.at_ (Mt (Ml n)))) (At.of (d.at_ Mh) _ rfl) b5) (fun h5 e8 j6 d2 d g2 q M => Wa (ln ?_)))))
 replace d := d.kz (Kr (Db (Dr St)))
 refine lj ?_
 obtain rfl := sj j
 exact lI (v := e8) rfl rfl ⟨_, d2, rfl, d.mO (fun p n => (Ml n)) M.nd, M⟩
theorem Xm (w : World) {c d : Value} {a b : List Int} (h1 : Sl (Pl (lJ .u8)) 1 (hp w) c a) (g : Sl (Pl (lJ .u8)) 1 (hp w) d b) : (callFunc 227 [c, d].toArray).run pg0 w = .ok (.value (.int .i64 (AH a b))) w := TL func227 (by kernel_rfl) (by kernel_rfl) (by kernel_rfl) (by kernel_rfl) h1 g
theorem Jl (a : Value) (g : List Int) (c : Value) (i : List Int) (r : Int) (w : World) (j : Sl (Pl (lJ .u8)) 1 (hp w) a g) (k : Sl (Pl (lJ .u8)) 1 (hp w) c i) (hm : Bl g i = some r) :
  la true pg0 180 [a, c] w (.int .i64 r) := by
 exact cG 8 func180 rfl (fun d => sg (Wa (lr (Wm (Wm (VE (QG (args := [a, c]) (v := .int .i64 (AH g i)) rfl (by exact pI rfl rfl) (Xm _ (j.mono (Pl.mono _) d.kJ) (k.mono (Pl.mono _) d.kJ)) (Wa (lt (rQ hm d))))))))))
theorem Ke (g i : ky) (r : Int) (w : World) (hm : vH g i = some r) :
  la true pg0 117 [(.agg (kC g).toArray), (.agg (kC i).toArray)] w (.int .i64 r) := by
 refine cG 10 func117 rfl (fun d => sg (VE (lB d rfl (fun T Y d => VE (lB d rfl (fun U Z d => Wa (ln (kO ?_))))))))
 replace d := d.drew
 have h := d.has.kz (Kb (Kb Sn))
 refine lG h lq (XH 0 rfl h (fun _ m => kA rfl (kI m (Mt Mh) (kC g) rfl bG aI)) (XH 2 rfl h (fun _ m => kA rfl (kI m Mh (kC i) rfl bG aI)) (bS hm fun y t hm => XE 1 rfl (pF d call161 (DR g _ _  t) (fun I B N G d a q j => ?_)))))
 have h := d.has.rl a (Dr (Kb (Kb Sn)))
 refine ⟨h, (bS hm fun z u hm => XE 3 rfl (pF d call161 (DR i _ _  u) (fun J D Q H d c s k => ?_)))⟩
 have h := d.has.rl (a.trans c) (Dr (Dr (Kb (Kb Sn))))
 refine ⟨h, (bS hm fun M x hm => XE 4 rfl (Eg d call180 (Jl B y D z _ _ (j.sl (fun _ => rfl) (fun b o n => d.at_ (Ma (Ml n)))) (k.sl (fun _ => rfl) (fun b o n => d.at_ (Ml n))) x) (fun K d => ?_)))⟩
 have h := d.has.rl (a.trans c) (Dr (Dr (Kb (Kb Sn))))
 refine ⟨h, (X 5 rfl h (mN rfl) (lT kr (kF ?_)))⟩
 exact lj (rQ hm d)
theorem FC (j : Value) (a0 : List ky) (x : LO) (r : List ky) (w : World) {μ0 : lm} (h0 : pP μ0 (x ++ []) w) (B : kU 108 kC 9 j a0 x) (hm : uE a0 = some r) :
  mh true pg0 118 [j] w (x ++ []) (fun v L1 W' => ∃ y1 S2, v = y1 ∧ L1 = (S2 ++ []) ∧ kU 108 kC 9 y1 r S2) := by
 refine zN h0 61 func118 rfl (fun d => sg (Wa (lS (Wm (V (mP aX rfl B) (Wi rfl (ln (CI hm rfl (fun g0 hm => ?_) (fun g0 hm => ?_)))))))))
 ·refine sg (Wm (Wa (lt (lb ?_))))
  obtain rfl := sj hm
  exact lI (v := j) rfl rfl ⟨_, _, rfl, (d.mL (Kr Sn)), j, x, rfl, rfl, B⟩
 refine kS (Wa (ln (mK (od (fun m E W => ∃ t b4, ST true (keys (x ++ [])) w W μ0 (x ++ b4) ∧ E 0 = j ∧ E 3 = (.int .i64 t) ∧ oY a0 m t = some r) lC ⟨1, _, (d.kz St), rfl, rfl, hm⟩ ?_))))
 rintro m E W ⟨t, b4, d, D, H, a⟩
 cases m with
 | zero => rw [oY] at a; cases a
 | succ f5 =>
  refine kO (sg (Wh H (Wh D (V (mP aX rfl B) (Wi rfl (ln (CI a rfl (fun d0 a => ?_) (fun d0 a => ?_))))))))
  ·refine kn (kO (mK (kO ?_)))
   replace d := d.drew
   have h := d.has.kz (Kr Sn)
   refine lG h lq (X 0 rfl h (kH D) (X 1 rfl h (kH H) (bS a fun c3 Z a => XQ 2 rfl h (mC (i := t) (x0 := c3) aX aI rfl rfl B (lY Z) (lN Z)) (fun g7 d6 => XH 3 rfl h (fun _ o => kA rfl (ot o (fun p n => (Ml n)) B mW d6 (lN Z) bG aI)) (X 4 rfl h (kH D) (X 5 rfl h (kH H) (X 6 rfl h (lL rfl rfl rfl) (bS a fun c4 q a => XQ 7 rfl h (mC (i := (wi0 .i64 (t - 1))) (x0 := c4) aX aI rfl rfl B (lY q) (lN q)) (fun g8 d7 => XH 8 rfl h (fun _ o => kA rfl (ot o (fun p n => (Ml n)) B mW d7 (lN q) bG aI)) (X 9 rfl h (tT rfl rfl (mY hZ) (pK (BI _ c3 c4))) (lT kr (kF ?_))))))))))))
   refine CI a rfl (fun d1 a => ?_) (fun d1 a => ?_)
   ·refine sg (Wh D (Wh H (bS a fun _ O a => VQ (tV (i := t) aX aI rfl rfl B (qD O) (qw O)) (fun c1 M => Wa (lS (Wa (ln ?_)))))))
    refine CJ a (fun U E W => ∃ s b5, ST true (keys (x ++ [])) w W μ0 (s ++ b5) ∧ E 0 = j ∧ E 3 = (.int .i64 U.2) ∧ kU 108 kC 9 j U.1 s) (fun U d4 => ?_) ?_
    ·refine mK (od (fun m E W => ∃ A K Y y b6, ST true (keys (x ++ [])) w W μ0 (K ++ b6) ∧ E 0 = j ∧ E 3 = (.int .i64 Y) ∧ E 4 = c1 ∧ E 5 = (.int .i64 y) ∧ kU 108 kC 9 j A K ∧ oT t m A Y y = some U) lC ⟨a0, x, t, 1, _, (d.kz St), D, H, rfl, rfl, B, d4⟩ ?_)
     rintro m E W ⟨A, K, Y, y, b6, d, Q, T, I, J, g, k⟩
     cases m with
     | zero => rw [oT] at k; cases k
     | succ f6 =>
      refine kO (sg (Wh J (Wh I (V (GW aX rfl M g) (Wi rfl (ln (CI k rfl (fun d2 k => ?_) (fun d2 k => ?_))))))))
      ·refine kn (kO (CJ k (fun L E W => ∃ N b7, ST true (keys (x ++ [])) w W μ0 (N ++ b7) ∧ E 0 = j ∧ E 3 = (.int .i64 L.2) ∧ E 4 = c1 ∧ E 5 = (.int .i64 y) ∧ kU 108 kC 9 j L.1 N) (fun L c => ?_) ?_))
       ·refine mK (kO ?_)
        replace d := d.drew
        have h := d.has.kz (Kr Sn)
        refine lG h lq (X 0 rfl h (kH I) (X 1 rfl h (kH J) (bS c fun c6 a2 c => XQ 2 rfl h (ub (i := y) (x0 := c6) aX aI rfl rfl g M (lY a2) (lN a2)) (fun g9 d8 => XH 3 rfl h (fun _ o => kA rfl (ot o (fun p n => (Ml n)) g mW d8 (xd (lN a2)) bG aI)) (X 4 rfl h (kH I) (X 5 rfl h (kH J) (X 6 rfl h (lL rfl rfl rfl) (bS c fun c7 a3 c => XQ 7 rfl h (ub (i := (wi0 .i64 (y - 1))) (x0 := c7) aX aI rfl rfl g M (lY a3) (lN a3)) (fun h1 d9 => XH 8 rfl h (fun _ o => kA rfl (ot o (fun p n => (Ml n)) g mW d9 (xd (lN a3)) bG aI)) (X 9 rfl h (EB rfl rfl (mY hZ) (AI (BI _ c6 c7))) (lT kr (kF ?_))))))))))))
        refine CI c rfl (fun d3 c => ?_) (fun d3 c => ?_)
        ·refine sg (Wh Q (Wh T (Wh I (Wh J (bS c fun a9 a4 c => VQ (ub (i := y) (x0 := a9) aX aI rfl rfl g M (lY a4) (lN a4)) (fun h2 e0 => V (kA rfl (ot d.has (fun p n => (Ml n)) g mW e0 (xd (lN a4)) bG aI)) (bS c fun f8 a5 c => VQ (mC (i := Y) (x0 := f8) aX aI rfl rfl g (lY a5) (lN a5)) (fun h3 e1 => VO (zd (u := (.agg (kC a9).toArray)) (x1 := a9)  d g mW nI rfl rfl rfl e1 (lN a5) aI (fun g3 e8 d c9 => ln (kL ?_)))))))))))
         refine Wh T (Wi rfl (Wa (lh (lu (kF ?_)))))
         obtain rfl := sj c
         exact ⟨e8, _, (d.kz St), Q, rfl, I, J, c9⟩
        refine lz (lu (kF ?_))
        obtain rfl := sj c
        exact ⟨K, _, (d.kz St), Q, T, I, J, g⟩
       rintro ⟨f4, f7⟩ E W ⟨N, b7, d, f0, f1, f2, f3, e4⟩ d5
       exact kL (Wh f3 (Wi rfl (Wa (ln ⟨f6, bT _, f4, N, f7, (wi0 .i64 (y + 1)), _, (d.kz St), f0, f1, f2, rfl, e4, d5⟩))))
      refine ob (nN (nN (uf (kF ?_))))
      obtain rfl := sj k
      exact ⟨K, _, (d.kz St), Q, T, g⟩
    rintro ⟨g4, c5⟩ E W ⟨s, b5, d, b9, c0, b3⟩ G
    refine sg (Wh b9 (Wh c0 (bS G fun _ P G => VQ (tV (i := c5) aX aI rfl rfl b3 (qD P) (qw P)) (fun h4 e2 => VO (yn (z := K6)  d b3 mW nI aX cg e2 rfl rfl (fun g2 e7 d c8 => lr (Wh b9 (Wh c0 (bS G fun _ R G => VQ (ui (i := c5) aX aI rfl rfl c8 mW (qD R) (qw R)) (fun c2 e3 => ?_))))))))))
    refine Wa (lt (me (lb (lb (me (lb ?_))))))
    obtain rfl := sj G
    exact lI (v := c2) rfl rfl ⟨_, _, rfl, (d.mL (Kr Sn)), c2, e7, rfl, rfl, e3⟩
   exact lz (lu (kF (kL (Wh H (Wi rfl (Wa (ln ⟨f5, bT _, (wi0 .i64 (t + 1)), _, (d.kz St), D, rfl, a⟩)))))))
  refine ob (nN (nN (uf (kF (sg (Wh D (Wa (lt ?_))))))))
  obtain rfl := sj a
  exact lI (v := j) rfl rfl ⟨_, _, rfl, (d.mL (Kr Sn)), j, x, rfl, rfl, B⟩
theorem Qp (i : Value) (t r : List ky) (w : World) (B : Sl (Pl kC) 9 (hp w) i t) (hm : Ba t = some r) :
  lK false pg0 51 [i] w 108 kC 9 r := by
 refine sP 11 func51 rfl (fun d => sg (Wa (lr (Wm (bS hm fun z T hm => VE (pF d call113 (lK.mn (GD i t _ _ (B.mono (Pl.mono _) d.kJ) T)) (fun W3 v7 A R8 d a5 s Q => bS hm fun U D hm => ?_)))))))
 refine VE (eM d (Cr Qz Cn) call112 (fun m _ => (DO v7 z R8 (.func (.func 114) #[] #[]) (fun (x : ky) => Ae x) _ _ m Q ⟨114, #[], #[], rfl, call114, fun W x r y hm => (LG x r W  hm).mn⟩ D)) ?_)
 rintro _ b5 b9 O d L n h ⟨k, K, a, rfl, I⟩
 obtain rfl := a.symm
 replace d := d.perm (Tr Tn)
 refine Wa (lr (Wm (bS hm fun Y G hm => ?_)))
 refine VE (eM d (Cr Qz Cn) call116 (fun m _ => mh.mn (Qj k U K (.func (.func 117) #[] #[]) (fun (x : (ky × ky)) => vH x.1 x.2) _ _ m I ⟨117, #[], rfl, call117, fun W x r y hm => Ke x.1 x.2 r W  hm⟩ G)) ?_)
 rintro _ b6 c0 a9 d a2 o h ⟨M, c, rfl, J⟩
 obtain rfl := c.symm
 replace d := d.perm (Tr Tn)
 refine lr (Wm (bS hm fun R H hm => ?_))
 refine VE (eM d (Cr Qz Cn) call118 (fun m _ => mh.mn (FC k Y M _ _ m J H)) ?_)
 rintro _ b7 c1 P d a3 q h ⟨Z, N, g, rfl, j⟩
 obtain rfl := g.symm
 replace d := d.perm (Tr Tn)
 refine Wa (lt ?_)
 obtain rfl := sj hm
 exact lI (v := Z) rfl rfl ⟨_, N, rfl, d.mO (fun p u => (Ml u)) j.nd, j⟩
theorem QF (c : Value) (i : List ByteArray) (a : LO) (r : List ByteArray) (w : World) {t : lm} (k : pP t (a ++ []) w) (g : kU 9 ni 1 c i a) (hm : HQ i = some r) :
  mh true pg0 182 [c] w (a ++ []) (fun v j W' => ∃ S, v = (.tuple #[]) ∧ j = (S ++ []) ∧ kU 9 ni 1 c r S) := OB (P := pg0) (ρ := RV) SK k.H g hm
theorem DW (j : Value) (a0 : List ByteArray) (x : LO) (r : List ByteArray) (w : World) {μ0 : lm} (h0 : pP μ0 (x ++ []) w) (D : kU 9 ni 1 j a0 x) (hm : qE a0 = some r) :
  mh true pg0 239 [j] w (x ++ []) (fun v L1 W' => ∃ y1 S2, v = y1 ∧ L1 = (S2 ++ []) ∧ kU 9 ni 1 y1 r S2) := by
 refine zN h0 61 func239 rfl (fun d => sg (Wa (lS (Wm (V (mP bE rfl D) (Wi rfl (ln (CI hm rfl (fun g1 hm => ?_) (fun g1 hm => ?_)))))))))
 ·refine sg (Wm (Wa (lt (lb ?_))))
  obtain rfl := sj hm
  exact lI (v := j) rfl rfl ⟨_, _, rfl, (d.mL (Kr Sn)), j, x, rfl, rfl, D⟩
 refine kS (Wa (ln (mK (od (fun m E W => ∃ t b5, ST true (keys (x ++ [])) w W μ0 (x ++ b5) ∧ E 0 = j ∧ E 3 = (.int .i64 t) ∧ ov a0 m t = some r) lC ⟨1, _, (d.kz St), rfl, rfl, hm⟩ ?_))))
 rintro m E W ⟨t, b5, d, G, I, a⟩
 cases m with
 | zero => rw [ov] at a; cases a
 | succ f6 =>
  refine kO (sg (Wh I (Wh G (V (mP bE rfl D) (Wi rfl (ln (CI a rfl (fun d1 a => ?_) (fun d1 a => ?_))))))))
  ·refine kn (kO (mK (kO ?_)))
   replace d := d.drew
   have h := d.has.kz (Kr Sn)
   refine lG h lq (X 0 rfl h (kH G) (X 1 rfl h (kH I) (bS a fun c4 a2 a => XQ 2 rfl h (mC (i := t) (x0 := c4) bE dh rfl rfl D (lY a2) (lN a2)) (fun g8 d7 => XH 3 rfl h (fun _ o => kA rfl (uR o (fun p n => (Ml n)) D (fun _ => rfl) d7 (lN a2) (y := (.string c4)) rfl aY)) (X 4 rfl h (kH G) (X 5 rfl h (kH I) (X 6 rfl h (lL rfl rfl rfl) (bS a fun c5 a3 a => XQ 7 rfl h (mC (i := (wi0 .i64 (t - 1))) (x0 := c5) bE dh rfl rfl D (lY a3) (lN a3)) (fun g9 d8 => XH 8 rfl h (fun _ o => kA rfl (uR o (fun p n => (Ml n)) D (fun _ => rfl) d8 (lN a3) (y := (.string c5)) rfl aY)) (X 9 rfl h (rU rfl rfl rfl) (lT kr (kF ?_))))))))))))
   refine CI a rfl (fun d2 a => ?_) (fun d2 a => ?_)
   ·refine sg (Wh G (Wh I (bS a fun _ P a => VQ (tV (i := t) bE dh rfl rfl D (qD P) (qw P)) (fun c2 N => Wa (lS (Wa (ln ?_)))))))
    refine CJ a (fun Y E W => ∃ L b6, ST true (keys (x ++ [])) w W μ0 (L ++ b6) ∧ E 0 = j ∧ E 3 = (.int .i64 Y.2) ∧ kU 9 ni 1 j Y.1 L) (fun Y d5 => ?_) ?_
    ·refine mK (od (fun m E W => ∃ a9 M Z B b7, ST true (keys (x ++ [])) w W μ0 (M ++ b7) ∧ E 0 = j ∧ E 3 = (.int .i64 Z) ∧ E 4 = c2 ∧ E 5 = (.int .i64 B) ∧ kU 9 ni 1 j a9 M ∧ ow t m a9 Z B = some Y) lC ⟨a0, x, t, 1, _, (d.kz St), G, I, rfl, rfl, D, d5⟩ ?_)
     rintro m E W ⟨a9, M, Z, B, b7, d, T, U, J, K, g, k⟩
     cases m with
     | zero => rw [ow] at k; cases k
     | succ f7 =>
      refine kO (sg (Wh K (Wh J (V (GW bE rfl N g) (Wi rfl (ln (CI k rfl (fun d3 k => ?_) (fun d3 k => ?_))))))))
      ·refine kn (kO (CJ k (fun O E W => ∃ Q b9, ST true (keys (x ++ [])) w W μ0 (Q ++ b9) ∧ E 0 = j ∧ E 3 = (.int .i64 O.2) ∧ E 4 = c2 ∧ E 5 = (.int .i64 B) ∧ kU 9 ni 1 j O.1 Q) (fun O c => ?_) ?_))
       ·refine mK (kO ?_)
        replace d := d.drew
        have h := d.has.kz (Kr Sn)
        refine lG h lq (X 0 rfl h (kH J) (X 1 rfl h (kH K) (bS c fun c7 a4 c => XQ 2 rfl h (ub (i := B) (x0 := c7) bE dh rfl rfl g N (lY a4) (lN a4)) (fun h1 d9 => XH 3 rfl h (fun _ o => kA rfl (uR o (fun p n => (Ml n)) g (fun _ => rfl) d9 (xd (lN a4)) (y := (.string c7)) rfl aY)) (X 4 rfl h (kH J) (X 5 rfl h (kH K) (X 6 rfl h (lL rfl rfl rfl) (bS c fun c8 a5 c => XQ 7 rfl h (ub (i := (wi0 .i64 (B - 1))) (x0 := c8) bE dh rfl rfl g N (lY a5) (lN a5)) (fun h2 e0 => XH 8 rfl h (fun _ o => kA rfl (uR o (fun p n => (Ml n)) g (fun _ => rfl) e0 (xd (lN a5)) (y := (.string c8)) rfl aY)) (X 9 rfl h (rU rfl rfl rfl) (lT kr (kF ?_))))))))))))
        refine CI c rfl (fun d4 c => ?_) (fun d4 c => ?_)
        ·refine sg (Wh T (Wh U (Wh J (Wh K (bS c fun q s c => VQ (ub (i := B) (x0 := q) bE dh rfl rfl g N (lY s) (lN s)) (fun h3 e1 => V (kA rfl (uR d.has (fun p n => (Ml n)) g (fun _ => rfl) e1 (xd (lN s)) (y := (.string q)) rfl aY)) (bS c fun f9 A c => VQ (mC (i := Z) (x0 := f9) bE dh rfl rfl g (lY A) (lN A)) (fun h4 e2 => VO (zd (u := (.string q)) (x1 := q)  d g (fun _ => rfl) DF rfl rfl rfl e2 (lN A) dh (fun g4 e9 d d0 => ln (kL ?_)))))))))))
         refine Wh U (Wi rfl (Wa (lh (lu (kF ?_)))))
         obtain rfl := sj c
         exact ⟨e9, _, (d.kz St), T, rfl, J, K, d0⟩
        refine lz (lu (kF ?_))
        obtain rfl := sj c
        exact ⟨M, _, (d.kz St), T, U, J, K, g⟩
       rintro ⟨f5, f8⟩ E W ⟨Q, b9, d, f1, f2, f3, f4, e5⟩ d6
       exact kL (Wh f4 (Wi rfl (Wa (ln ⟨f7, bT _, f5, Q, f8, (wi0 .i64 (B + 1)), _, (d.kz St), f1, f2, f3, rfl, e5, d6⟩))))
      refine ob (nN (nN (uf (kF ?_))))
      obtain rfl := sj k
      exact ⟨M, _, (d.kz St), T, U, g⟩
    rintro ⟨g7, c6⟩ E W ⟨L, b6, d, c0, c1, b4⟩ H
    refine sg (Wh c0 (Wh c1 (bS H fun _ R H => VQ (tV (i := c6) bE dh rfl rfl b4 (qD R) (qw R)) (fun h5 e3 => VO (yn (z := zS)  d b4 (fun _ => rfl) DF bE iz e3 rfl rfl (fun g3 e8 d c9 => lr (Wh c0 (Wh c1 (bS H fun _ b3 H => VQ (ui (i := c6) bE dh rfl rfl c9 (fun _ => rfl) (qD b3) (qw b3)) (fun c3 e4 => ?_))))))))))
    refine Wa (lt (me (lb (lb (me (lb ?_))))))
    obtain rfl := sj H
    exact lI (v := c3) rfl rfl ⟨_, _, rfl, (d.mL (Kr Sn)), c3, e8, rfl, rfl, e4⟩
   exact lz (lu (kF (kL (Wh I (Wi rfl (Wa (ln ⟨f6, bT _, (wi0 .i64 (t + 1)), _, (d.kz St), G, rfl, a⟩)))))))
  refine ob (nN (nN (uf (kF (sg (Wh G (Wa (lt ?_))))))))
  obtain rfl := sj a
  exact lI (v := j) rfl rfl ⟨_, _, rfl, (d.mL (Kr Sn)), j, x, rfl, rfl, D⟩
theorem Ja (H : Value) (J r : List ByteArray) (w : World) (G : Sl (Pl ni) 1 (hp w) H J) (hm : zw J = some r) :
  lK true pg0 188 [H] w 9 ni 1 r := by
 refine sP 23 func188 rfl (fun d => sg (Wa (lr (Wa (lS (Wm ?_))))))
 refine V (ly bE rfl G) (Wm (ln (lp (fun i E W => ∃ c t g D, (E 8 = .int .i64 (i : Nat) ∧ E 7 = .int .i64 (J.length : Nat)) ∧ ST true ll w W (hp w) (g ++ D) ∧ E 3 = c ∧ E 6 = H ∧ kU 9 ni 1 c t g ∧ uS (J.drop i) t = some r) J.length G.len ⟨(.slice none 0 0), ([]), [], _, ⟨rfl, rfl⟩, (d.kz St), rfl, rfl, (kU.nil _ _ _), hm⟩ dc dc dc (fun _ _ _ h => by obtain ⟨_, _, _, _, o, _⟩ := h; exact o) ?_ ?_)))
 ·rintro b7 E W a8 ⟨c, t, g, D, ⟨n, q⟩, d, j, u, x, a⟩
  obtain ⟨k, d1, b0, a9, K⟩ := lc a8
  rw [b0] at a
  refine bg (VQ (lO (enc := ni) (i := (b7 : Int)) (x0 := k) bE dh u n G (aD _) a9) (fun c6 Y => V (kA rfl (ng d.has (y := (.string k)) Y aY)) (Wa (lr (Wm (bS a fun c7 Z a => VE (Eg d jZ (uc k _ _  Z) (fun c1 d => ln ?_))))))))
  refine CI a rfl (fun T a => ?_) (fun T a => ?_)
  ·refine kL (Wh j (Wm (VE (lg (cs := [(.string k)].toArray) d (mI rfl) (mD bE dh iz) (fun c2 P d => ?_)))))
   replace d := d.perm (Nr (Qb Qz) Nz)
   refine bS a fun b1 U a => VE (my (enc := ni) (v := c) (vs := (.slice (some ⟨P, 0, none⟩) 1 1)) (R := g) d (fun _ => rfl) dc DF bE uL.1 uL.2.1 rfl uL.2.2.1 uL.2.2.2 rfl rfl x (Sl.lit (enc := ni) (l := [k]) (fun _ => rfl) rfl nb rfl (d.at_ (Ma Mh))) U (fun c3 b3 a4 d Q => Wa (lh (lu (kF ?_)))))
   replace d := d.kz (Kr (Db St))
   exact ⟨n, b3, b1, a4, _, ⟨rfl, q⟩, (d.kz St), rfl, u, Q, (by rw [K]; exact a)⟩
  exact lz (lu (kF ⟨n, c, t, g, _, ⟨rfl, q⟩, (d.kz St), j, u, x, (by rw [K]; exact a)⟩))
 rintro E W ⟨c, t, g, D, ⟨n, q⟩, d, j, u, x, a⟩
 rw [aG] at a
 refine kF (sg (Wh j (bS a fun b2 M a => ?_)))
 refine VE (eM d (Cr Qz Cn) call182 (fun s _ => (QF c t g _ _ s x M)) ?_)
 rintro _ c9 d2 b9 d b5 A m ⟨a5, z, rfl, a3⟩
 obtain rfl := z.symm
 replace d := d.perm (Tr Tn)
 refine lr (Wh j (bS a fun c8 a2 a => ?_))
 refine VE (eM d (Cr Qz Cn) call239 (fun s _ => (DW c b2 a5 _ _ s a3 a2)) ?_)
 rintro _ d0 d3 c0 d b6 L m ⟨b4, O, B, rfl, I⟩
 obtain rfl := B.symm
 replace d := d.perm (Tr Tn)
 refine Wa (lt ?_)
 obtain rfl := sj a
 exact lI (v := b4) rfl rfl ⟨_, O, rfl, d.mO (fun p hq => (Ml hq)) I.nd, I⟩
theorem Mg (B : Value) (G : List ky) (r : List ByteArray) (w : World) (y : Sl (Pl kC) 9 (hp w) B G) (hm : Am G = some r) :
  lK true pg0 132 [B] w 9 ni 1 r := by
 refine sP 29 func132 rfl (fun d => sg (Wa (lr (Wa (lS (Wm ?_))))))
 refine V (ly aX rfl y) (Wm (ln (lp (fun i E W => ∃ g k j t, (E 8 = .int .i64 (i : Nat) ∧ E 7 = .int .i64 (G.length : Nat)) ∧ ST true ll w W (hp w) (j ++ t) ∧ E 3 = g ∧ E 6 = B ∧ kU 9 ni 1 g k j ∧ tI (G.drop i) k = some r) G.length y.len ⟨(.slice none 0 0), ([]), [], _, ⟨rfl, rfl⟩, (d.kz St), rfl, rfl, (kU.nil _ _ _), hm⟩ dc dc dc (fun _ _ _ h => by obtain ⟨_, _, _, _, n, _⟩ := h; exact n) ?_ ?_)))
 ·rintro a5 E W T ⟨g, k, j, t, ⟨m, A⟩, d, u, x, z, c⟩
  obtain ⟨a, b4, Y, U, Z⟩ := lc T
  rw [Y] at c
  refine bg (VQ (lO (enc := kC) (i := (a5 : Int)) (x0 := a) aX aI x m y (aD _) U) (fun b2 J => V (kA rfl (lD d.has J bG aI)) (VE (lA d cg (fun O b1 d => VO (lf (.agg (kC a).toArray) ((kC a).toArray) d rfl rfl aI (nI a) nb rfl (fun P d => ln (kL (Wh u (Wf sL (VB d Mh rfl rfl aY (Wf oe (Wf oQ ?_)))))))))))))
  refine VB d Mh rfl rfl aY (Wf mT (Wf oQ (VB d Mh rfl rfl aY (Wf pL (Wf oQ (VB d Mh rfl rfl aY (VE (lg (cs := #[(.string a.lx), (.string a.Head.kE), (.string a.B.kE), (.string a.C.kE)]) d (NK rfl rfl rfl rfl) (mD bE dh iz) (fun a8 Q d => ?_)))))))))
  replace d := d.perm (Nr (Qb (Qb Qz)) Nz)
  refine bS c fun L I c => VE (my (enc := ni) (v := g) (vs := (.slice (some ⟨Q, 0, none⟩) 4 4)) (R := j) d (fun _ => rfl) dc DF bE uL.1 uL.2.1 rfl uL.2.2.1 uL.2.2.2 rfl rfl z (Sl.lit (enc := ni) (l := [a.lx, a.Head.kE, a.B.kE, a.C.kE]) (fun _ => rfl) rfl nb rfl (d.at_ (Ma Mh))) I (fun a9 a2 M d H => Wa (lh (lu (kF ?_)))))
  replace d := d.kz (Kr (Db (Db St)))
  exact ⟨m, a2, L, M, _, ⟨rfl, A⟩, (d.kz St), rfl, x, H, (by rw [Z]; exact c)⟩
 rintro E W ⟨g, k, j, t, ⟨m, A⟩, d, u, x, z, c⟩
 rw [aG] at c
 refine kF (sg (Wh u (bS c fun b3 K c => VE (pF d call188 (Ja g k _ _ (z.sl (fun _ => rfl) (fun b o s => d.at_ (Ml s))) K) (fun b0 a3 b5 N d a4 q D => Wa (ln ?_))))))
 replace d := d.kz (Kr (Dr St))
 refine lj ?_
 obtain rfl := sj c
 exact lI (v := a3) rfl rfl ⟨_, N, rfl, d.mO (fun p s => (Ml s)) D.nd, D⟩
theorem CO (g : Value) (t : List ByteArray) (j : Value) (D : ByteArray → Option Bool) (r : Int) (w : World) (c : Sl (Pl ni) 1 (hp w) g t) (G : th pg0 j (hp w) (fun (x : ByteArray) => [(.string x)]) (fun (r : Bool) => (.bool r)) D) (hm : vp t D = some r) :
  la false pg0 272 [g, j] w (.int .i64 r) := by
 refine cG 19 func272 rfl (fun d => sg (Wa (lS (Wm (V (ly bE rfl c) (Wm (ln (lp (fun i E W => ∃ k, (E 8 = .int .i64 (i : Nat) ∧ E 7 = .int .i64 (t.length : Nat)) ∧ ST false ll w W (hp w) k ∧ E 0 = g ∧ E 1 = j ∧ oP D (t.drop i) i = some r) t.length c.len ⟨_, ⟨rfl, rfl⟩, (d.kz St), rfl, rfl, hm⟩ dc dc dc (fun _ _ _ h => by obtain ⟨_, n, _⟩ := h; exact n) ?_ ?_))))))))
 ·rintro T E W I ⟨k, ⟨m, o⟩, d, u, z, a⟩
  obtain ⟨B, U, N, M, Q⟩ := lc I
  rw [N] at a
  refine bg (Wh m (Wa (lr (Wh z (Wh u (Wm (VQ (lO (enc := ni) (i := (T : Int)) (x0 := B) bE dh rfl rfl c (aD _) M) (fun Z J => V (kA rfl (ng d.has (y := (.string B)) J aY)) (bS a fun q K a => ?_)))))))))
  refine VE (Bk B d G (kY.refl _) rfl (pH rfl) K (fun Y d => ln (CI a rfl (fun H a => ?_) (fun H a => ?_))))
  ·refine sg (Wm (Wa (lt (me (lb (me (lb ?_)))))))
   obtain rfl := sj a
   exact rP d
  exact lz (lu (kF ⟨m, _, ⟨rfl, o⟩, (d.kz St), u, z, (by rw [Q]; exact a)⟩))
 rintro E W ⟨k, ⟨m, o⟩, d, u, z, a⟩
 rw [aG] at a
 exact kF (sg (Wa (lt (rQ a d))))
theorem BH (a : Value) (g : List ByteArray) (c : Value) (i : ByteArray → Option Bool) (r : Bool) (w : World) (j : Sl (Pl ni) 1 (hp w) a g) (k : th pg0 c (hp w) (fun (x : ByteArray) => [(.string x)]) (fun (r : Bool) => (.bool r)) i) (hm : tp g i = some r) :
  la false pg0 240 [a, c] w (.bool r) := by
 refine cG 9 func240 rfl (fun d => sg (Wa (lr (Wm (Wm (bS hm fun y t hm => VE (Eg d call272 (CO a g c i _ _ (j.mono (Pl.mono _) d.kJ) (k.mono d.kJ) t) (fun u d => Wi rfl (Wa (lh ?_))))))))))
 exact kF (lj (rQ hm d))
theorem H9 (u : ByteArray) (z : Nat) (i : Value) (G : (kw × ByteArray) → Option Bool) (B : Nat) (g : ky) (D : Nat) (I : ByteArray) (r : Bool) (w : World) (H : th pg0 i (hp w) (fun (x : (kw × ByteArray)) => [(.agg (kx x.1).toArray), (.string x.2)]) (fun (r : Bool) => (.bool r)) G) (j : At (hp w) (.pointer (some ⟨z, 0, none⟩)) [i]) (k : At (hp w) (.pointer (some ⟨B, 0, none⟩)) (kC g)) (J : At (hp w) (.pointer (some ⟨D, 0, none⟩)) [(.string I)]) (hm : vg u G g I = some r) :
  la false pg0 241 [(.string u), (.pointer (some ⟨z, 0, none⟩)), (.pointer (some ⟨B, 0, none⟩)), (.pointer (some ⟨D, 0, none⟩))] w (.bool r) := by
 refine cG 20 func241 rfl (fun d => sg (Wa (lr (V (kA rfl (ng d.has (y := i) j isAgg104)) (VQ (zb (kx g.B) mT rfl k rfl) (fun m Y => V (kA rfl (lD d.has Y aN aC)) (Wm (bS hm fun n Z hm => VE (Bk (g.B, u) d H (kY.refl _) rfl (pI rfl rfl) Z (fun W6 d => Wm ?_))))))))))
 refine LJ hm (fun M E W => ∃ K, ST false ll w W (hp w) K ∧ E 5 = (.bool false) ∧ E 19 = (.bool M)) 8 ?_ (fun M c t => ?_)
 ·rintro a5 E W ⟨K, d, a2, U⟩ N
  exact Wg U (lt (rQ N d))
 refine bC c (fun a c => ?_) (fun a c => ?_)
 ·refine ug a (kA rfl (ng d.has (y := i) j isAgg104)) (ug a (kH rfl) (Ut a (zb [(.string g.lU)] rO rfl k rfl) (fun a3 Q => ug a (kA rfl (ng d.has (y := (.string g.lU)) Q aY)) (ug a (nc (v := (.agg (kx (⟨u, g.lU⟩ : kw)).toArray)) (pC rfl rfl) (mB bP cI (G5 _ cI) kr)) (ug a (kA rfl (ng d.has (y := (.string I)) J aY)) (bS c fun a4 T c => pX a (Bk ((⟨u, g.lU⟩ : kw), I) d H (kY.refl _) rfl (pI rfl rfl) T (fun h d => V (kR (cB a) rfl) ?_))))))))
  obtain rfl := sj c
  exact t _ _ ⟨_, (d.kz St), rfl, rfl⟩
 refine un a (un a (un a (un a (un a (un a (un a (V (kQ (cB a) rfl) ?_)))))))
 obtain rfl := sj c
 exact t _ _ ⟨_, (d.kz St), rfl, rfl⟩
theorem KK (g : ky) (u : Value) (y : (kw × ByteArray) → Option Bool) (k : Value) (D : List ByteArray) (j : ByteArray) (r : Bool) (w : World) (i : th pg0 u (hp w) (fun (x : (kw × ByteArray)) => [(.agg (kx x.1).toArray), (.string x.2)]) (fun (r : Bool) => (.bool r)) y) (I : Sl (Pl ni) 1 (hp w) k D) (hm : zm g y D j = some r) :
  la false pg0 190 [(.agg (kC g).toArray), u, k, (.string j)] w (.bool r) := by
 refine cG 41 func190 rfl (fun d => sg (VE (lB d rfl (fun W2 G d => ?_))))
 obtain ⟨f3, f4, f5, rfl⟩ := i.form
 refine VE (lB d rfl (fun W7 H d => VE (lB d rfl (fun W9 b8 d => Wa (lS (Wf nZ (VB d (Mt (Mt Mh)) rfl rfl cC (ln (bg ?_)))))))))
 refine Wi rfl (Wa (ln (CI hm rfl (fun J hm => ?_) (fun J hm => ?_))))
 ·refine sg (Wf sL (VB d (Mt (Mt Mh)) rfl rfl aY (VB d Mh rfl rfl aY (V (rU rfl rfl rfl) (Wa (ln ?_))))))
  replace d := d.kz (Db (Db (Db St)))
  refine lj (me (lb ?_))
  obtain rfl := sj hm
  exact rP d
 refine sg (Wi rfl (Wa (ln (CI hm rfl (fun K hm => ?_) (fun K hm => ?_)))))
 ·refine sg (VB d (Mt Mh) rfl rfl isAgg104 (Wf mT (VA d (Mt (Mt Mh)) (kx g.B) aN aC (VB d Mh rfl rfl aY (bS hm fun s Q hm => VE (Bk (g.B, j) d i (kY.refl _) rfl (pI rfl rfl) Q (fun m d => Wa (ln ?_))))))))
  replace d := d.kz (Db (Db (Db St)))
  refine lj (me (lb ?_))
  obtain rfl := sj hm
  exact rP d
 refine sg (Wi rfl (Wa (ln (CI hm rfl (fun M hm => ?_) (fun M hm => ?_)))))
 ·refine sg (VB d (Mt Mh) rfl rfl isAgg104 (Wf mT (VA d (Mt (Mt Mh)) (kx g.B) aN aC (VB d Mh rfl rfl aY (bS hm fun v T hm => VE (Bk (g.B, j) d i (kY.refl _) rfl (pI rfl rfl) T (fun n d => Wm (LJ hm (fun B E W => ∃ z, ST false ll w W (hp w) z ∧ E 8 = (.bool false) ∧ E 37 = (.bool B)) 6 ?_ (fun B c t => ?_)))))))))
  ·rintro O E W ⟨z, d, q, Z⟩ N
   refine Wg Z (lt (me (lb ?_)))
   obtain rfl := sj N
   exact rP d
  refine bC c (fun a c => ?_) (fun a c => ?_)
  ·refine ug a (kA rfl (kM d.has (Mt Mh) rfl isAgg104)) (ug a (kD pL rfl) (ug a (kA rfl (kI d.has (Mt (Mt Mh)) (kx g.C) rfl aN aC)) (ug a (kA rfl (kM d.has Mh rfl aY)) (bS c fun A U c => pX a (Bk (g.C, j) d i (kY.refl _) rfl (pI rfl rfl) U (fun o d => V (kR (cB a) rfl) ?_))))))
   obtain rfl := sj c
   exact t _ _ ⟨_, (d.kz (Db (Db (Db St)))), rfl, rfl⟩
  refine un a (un a (un a (un a (un a (V (kQ (cB a) rfl) ?_)))))
  obtain rfl := sj c
  exact t _ _ ⟨_, (d.kz (Db (Db (Db St)))), rfl, rfl⟩
 refine lz (lu (kF (sg (Wm (V (vz (by exact Yb rfl rfl rfl) rfl) (bS hm fun L Y hm => VE (Eg d call240 (BH k D (.func (.func 241) #[] #[(.pointer (some ⟨H, 0, none⟩)), (.pointer (some ⟨G, 0, none⟩)), (.pointer (some ⟨b8, 0, none⟩))]) (fun (x : ByteArray) => vg x y g j) _ _ (I.mono (Pl.mono _) d.kJ) ⟨241, #[], #[(.pointer (some ⟨H, 0, none⟩)), (.pointer (some ⟨G, 0, none⟩)), (.pointer (some ⟨b8, 0, none⟩))], rfl, call241, fun W x r h hm => H9 x H (.func f3 f4 f5) y G g b8 j r W (i.mono (d.kJ.trans h)) (At.of (h _ _ (d.at_ (Mt Mh))) _ rfl) (At.of (h _ _ (d.at_ (Mt (Mt Mh)))) _ rfl) (At.of (h _ _ (d.at_ Mh)) _ rfl) hm⟩ Y) (fun a9 d => Wa (ln ?_)))))))))
 exact lj (rQ hm d)
end Go.Proofs.YtbnbdigcbldfhaaGreat
