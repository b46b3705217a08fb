/- a part of a proof of OutcomeGets -/
import Derived.Test.YtbnbdigcbldfhaaGreatO8Me
import Derived.Test.YtbnbdigcbldfhaaGreatProg
set_option linter.all false
namespace Go.Proofs.YtbnbdigcbldfhaaGreat
open Go.IntKind renaming wrap → wi0
open Go.Proofs.Tryz renaming prog → pg0
open Go.RowKit
set_option maxRecDepth 10000
open Tryz
def ag := @sizeOf28
def al := @underlying34
def an := @sizeOf108
def au := @isAgg28
def aw := @underlying45
def aG := @isAgg9
def aJ := @underlying22
def aP := @underlying9
def aT := @isAgg108
def aV := @sizeOf140
def bc := @underlying112
def bf := @underlying78
def bh := @zeroValue108
def bj := @zeroValue28
def bl := @isAgg3
def bn := @underlying38
def bu := @sizeOf38
def bz := @sizeOf64
def bA := @underlying28
def bD := @underlying108
def bI := @sizeOf57
def bJ := @underlying120
def bX := @zeroValue140
def cj := @sizeOf9
def ck := @eqGuardType28
def cx := @zeroValue38
def cC := @isAgg57
def cD := @isAgg64
def cJ := @zeroValue64
def cN := @underlying140
def cQ := @underlying64
def cR := @underlying55
def cT := @isAgg38
def cY := @underlying81
def da := @underlying5
def dg := @sizeOf3
def di := @isAgg140
def dn := @isAgg34
def dp := @underlying174
def dq := @underlying170
def dC := @underlying79
def dD := @call165
def dH := @underlying234
def dO := @zeroValue175
def dR := @underlying217
def dS := @underlying175
def et := @underlying3
def eA := @underlying57
def eB := @isAgg45
def eL := @isAgg62
def fe := @zeroValue4
def fJ := @isAgg78
def fK := @call100
def fX := @underlying158
def fY := @underlying280
def fZ := @underlying191
def ga := @underlying206
def gi := @isAgg170
def gw := @underlying87
def gx := @underlying54
def gy := @sizeOf5
def gz := @underlying99
def gA := @call166
def gO := @sizeOf78
def gP := @eqGuardType108
def gQ := @call99
def ia := @call157
def ib := @isAgg55
def ic := @zeroValue57
def ie := @zeroValue81
def iD := @underlying250
def iF := @sizeOf45
def iL := @call177
def iM := @call115
def iN := @zeroValue5
def iO := @underlying89
def iW := @sizeOf62
def iX := @sizeOf34
def iY := @zeroValue22
abbrev K0 : ja := ⟨zS, zS⟩
abbrev K1 : ByteArray := ⟨#[120]⟩
abbrev K2 : ByteArray := ⟨#[121]⟩
abbrev K3 : ByteArray := ⟨#[121, 111, 117]⟩
abbrev K4 : ByteArray := ⟨#[109, 101]⟩
abbrev K5 : jI := ⟨0, 0, [], []⟩
abbrev K6 : ja := ⟨K1, K2⟩
abbrev K7 : jb := ⟨0, K0, zS, K0, K0, zS⟩
abbrev K9 : jd := ⟨K0, zS⟩
abbrev Ew : jb := ⟨1, K6, K3, K0, K0, zS⟩
abbrev L5 : Formula := ⟨1, 0, K6, []⟩
abbrev C1 (a c : Int) (d g : ByteArray) (h : Option Addr) (i j : Nat) : List Value := [(.int .i64 a), (.int .i64 c), (.string d), (.string g), (.slice h i j)]
abbrev C2 (a c : Int) (d : Option Addr) (g h : Nat) (i : Option Addr) (j k : Nat) : List Value := [(.int .i64 a), (.int .i64 c), (.slice d g h), (.slice i j k)]
abbrev C3 (a : Nat) : List Value := [(.string K4), (.slice none 0 0), (.slice none 0 0), (.string K3), (.int .i64 3), (.slice (some ⟨a, 0, none⟩) 1 1), (.slice none 0 0), (.slice none 0 0), (.slice none 0 0)]
abbrev C4 : List Value := [(.int .i64 1), (.int .i64 0), (.string (K6.jn)), (.string (K6.jK)), (.slice none 0 0)]
abbrev C5 (a c : Int) : List Value := [(.int .i64 a), (.int .i64 c), (.slice none 0 0), (.slice none 0 0)]
abbrev C6 : List Value := [(.int .i64 0), (.int .i64 0), (.slice none 0 0), (.slice none 0 0)]
theorem jP : Tryz.prog.follows .mixedOrders = true := by rfl
theorem Jb : Tryz.prog.info? 3 = some Tryz.t3 ∧ Tryz.t3.zero = some (.int .i64 0) ∧ Tryz.t3.size = 1 ∧ Tryz.t3.bytes = 8 := ⟨by kernel_rfl, by kernel_rfl, by kernel_rfl, by kernel_rfl⟩
theorem Jc : Tryz.prog.info? 4 = some Tryz.t4 ∧ Tryz.t4.zero = some (.bool false) ∧ Tryz.t4.size = 1 ∧ Tryz.t4.bytes = 1 := ⟨by kernel_rfl, by kernel_rfl, by kernel_rfl, by kernel_rfl⟩
theorem sd : Tryz.prog.info? 5 = some Tryz.t5 ∧ Tryz.t5.zero = some (.int .u8 0) ∧ Tryz.t5.size = 1 ∧ Tryz.t5.bytes = 1 := ⟨by kernel_rfl, by kernel_rfl, by kernel_rfl, by kernel_rfl⟩
theorem B0 : Tryz.prog.info? 9 = some Tryz.t9 ∧ Tryz.t9.zero = some (.string ⟨#[]⟩) ∧ Tryz.t9.size = 1 ∧ Tryz.t9.bytes = 16 := ⟨by kernel_rfl, by kernel_rfl, by kernel_rfl, by kernel_rfl⟩
theorem mW : Tryz.prog.info? 28 = some Tryz.t28 ∧ Tryz.t28.zero = some (.agg #[(.string ⟨#[]⟩), (.string ⟨#[]⟩)]) ∧ Tryz.t28.size = 2 ∧ Tryz.t28.bytes = 32 := ⟨by kernel_rfl, by kernel_rfl, by kernel_rfl, by kernel_rfl⟩
theorem GX : Tryz.prog.info? 34 = some Tryz.t34 ∧ Tryz.t34.zero = some (.slice none 0 0) ∧ Tryz.t34.size = 1 ∧ Tryz.t34.bytes = 24 := ⟨by kernel_rfl, by kernel_rfl, by kernel_rfl, by kernel_rfl⟩
theorem sD : Tryz.prog.info? 38 = some Tryz.t38 ∧ Tryz.t38.zero = some (.agg #[(.string ⟨#[]⟩), (.string ⟨#[]⟩), (.string ⟨#[]⟩)]) ∧ Tryz.t38.size = 3 ∧ Tryz.t38.bytes = 48 := ⟨by kernel_rfl, by kernel_rfl, by kernel_rfl, by kernel_rfl⟩
theorem qM : Tryz.prog.info? 108 = some Tryz.t108 ∧ Tryz.t108.zero = some (.agg #[(.int .i64 0), (.string ⟨#[]⟩), (.string ⟨#[]⟩), (.string ⟨#[]⟩), (.string ⟨#[]⟩), (.string ⟨#[]⟩), (.string ⟨#[]⟩), (.string ⟨#[]⟩), (.string ⟨#[]⟩)]) ∧ Tryz.t108.size = 9 ∧ Tryz.t108.bytes = 136 := ⟨by kernel_rfl, by kernel_rfl, by kernel_rfl, by kernel_rfl⟩
theorem lR : Tryz.prog.info? 140 = some Tryz.t140 ∧ Tryz.t140.zero = some (.agg #[(.int .i64 0), (.string ⟨#[]⟩), (.string ⟨#[]⟩), (.string ⟨#[]⟩), (.string ⟨#[]⟩), (.string ⟨#[]⟩), (.string ⟨#[]⟩), (.string ⟨#[]⟩), (.string ⟨#[]⟩), (.string ⟨#[]⟩), (.string ⟨#[]⟩), (.string ⟨#[]⟩)]) ∧ Tryz.t140.size = 12 ∧ Tryz.t140.bytes = 184 := ⟨by kernel_rfl, by kernel_rfl, by kernel_rfl, by kernel_rfl⟩
theorem ox : kY pg0 28 0 0 := kD bA rfl cj (by decide) rfl
theorem um : kY pg0 28 1 1 := kD bA rfl cj (by decide) rfl
theorem Qf : (Tryz.prog.fieldsOf 28).toList = (match Tryz.prog.underlying 28 with | some (.struct a) => a.toList | _ => []) := by rw [bA]; simp [Program.fieldsOf, bA]
theorem ni (d : Nat) (x y : ja) (W : World) : (Op.equalIn (d + 2) 28 (.agg (jc x).toArray) (.agg (jc y).toArray)).run pg0 W = .ok (jt x y) W := by
 rw [fc W (d + 1) 28 _ _ (by kernel_rfl) Tryz.stoodInHeld28, Qf, bA]
 exact (nh (by decide) (oM aG rfl) (oM aG rfl) (Oa aP _ _ _ _) (nh (by decide) (oM aG rfl) (oM aG rfl) (Oa aP _ _ _ _) (yp _ _ _)))
theorem EC : ∀ a, Tryz.prog.underlying 28 = some (.struct a) → ∀ w, (a.mapM (fun (f : Field) => do pure (f.offset, ← sizeOf f.type)) : Sem (Array (Nat × Nat))).run pg0 w = .ok #[(0, 1), (1, 1)] w := by
 intro a h w
 rw [bA] at h
 cases h
 kernel_rfl
theorem mh : kY pg0 108 0 0 := kD bD rfl dg (by decide) rfl
theorem mJ : kY pg0 108 1 1 := kD bD rfl ag (by decide) rfl
theorem rq : kY pg0 108 2 3 := kD bD rfl cj (by decide) rfl
theorem lm : kY pg0 108 3 4 := kD bD rfl ag (by decide) rfl
theorem ou : kY pg0 108 4 6 := kD bD rfl ag (by decide) rfl
theorem pX : kY pg0 108 5 8 := kD bD rfl cj (by decide) rfl
theorem OP : (Tryz.prog.fieldsOf 108).toList = (match Tryz.prog.underlying 108 with | some (.struct a) => a.toList | _ => []) := by rw [bD]; simp [Program.fieldsOf, bD]
theorem Bm (d : Nat) (x y : jb) (W : World) : (Op.equalIn (d + 3) 108 (.agg (jg x).toArray) (.agg (jg y).toArray)).run pg0 W = .ok (mV x y) W := by
 rw [fc W (d + 2) 108 _ _ (by kernel_rfl) Tryz.stoodInHeld108, OP, bD]
 exact (nh (by decide) (oM bl rfl) (oM bl rfl) (Ux et _ _ _ _) (nh (by decide) (rf au ag rfl) (rf au ag rfl) (ni _ x.Head y.Head W) (nh (by decide) (oM aG rfl) (oM aG rfl) (Oa aP _ _ _ _) (nh (by decide) (rf au ag rfl) (rf au ag rfl) (ni _ x.B y.B W) (nh (by decide) (rf au ag rfl) (rf au ag rfl) (ni _ x.C y.C W) (nh (by decide) (oM aG rfl) (oM aG rfl) (Oa aP _ _ _ _) (yp _ _ _)))))))
theorem Fy : ∀ a, Tryz.prog.underlying 108 = some (.struct a) → ∀ w, (a.mapM (fun (f : Field) => do pure (f.offset, ← sizeOf f.type)) : Sem (Array (Nat × Nat))).run pg0 w = .ok #[(0, 1), (1, 2), (3, 1), (4, 2), (6, 2), (8, 1)] w := by
 intro a h w
 rw [bD] at h
 cases h
 kernel_rfl
theorem yz : kY pg0 38 0 0 := kD bn rfl ag (by decide) rfl
theorem rV : kY pg0 38 1 2 := kD bn rfl cj (by decide) rfl
theorem PG : (Tryz.prog.fieldsOf 38).toList = (match Tryz.prog.underlying 38 with | some (.struct a) => a.toList | _ => []) := by rw [bn]; simp [Program.fieldsOf, bn]
theorem Bb (d : Nat) (x y : jd) (W : World) : (Op.equalIn (d + 3) 38 (.agg (jw x).toArray) (.agg (jw y).toArray)).run pg0 W = .ok (lH x y) W := by
 rw [fc W (d + 2) 38 _ _ (by kernel_rfl) Tryz.stoodInHeld38, PG, bn]
 exact (nh (by decide) (rf au ag rfl) (rf au ag rfl) (ni _ x.ja y.ja W) (nh (by decide) (oM aG rfl) (oM aG rfl) (Oa aP _ _ _ _) (yp _ _ _)))
theorem B4 : ∀ a, Tryz.prog.underlying 38 = some (.struct a) → ∀ w, (a.mapM (fun (f : Field) => do pure (f.offset, ← sizeOf f.type)) : Sem (Array (Nat × Nat))).run pg0 w = .ok #[(0, 2), (2, 1)] w := by
 intro a h w
 rw [bn] at h
 cases h
 kernel_rfl
theorem wU : kY pg0 140 0 0 := kD cN rfl an (by decide) rfl
theorem oV : kY pg0 140 1 9 := kD cN rfl bu (by decide) rfl
theorem N6 : (Tryz.prog.fieldsOf 140).toList = (match Tryz.prog.underlying 140 with | some (.struct a) => a.toList | _ => []) := by rw [cN]; simp [Program.fieldsOf, cN]
theorem KD (d : Nat) (x y : jv) (W : World) : (Op.equalIn (d + 4) 140 (.agg (js x).toArray) (.agg (js y).toArray)).run pg0 W = .ok (AU x y) W := by
 rw [fc W (d + 3) 140 _ _ (by kernel_rfl) Tryz.stoodInHeld140, N6, cN]
 exact (nh (by decide) (rf aT an rfl) (rf aT an rfl) (Bm _ x.jb y.jb W) (nh (by decide) (rf cT bu rfl) (rf cT bu rfl) (Bb _ x.jd y.jd W) (yp _ _ _)))
theorem MU : ∀ a, Tryz.prog.underlying 140 = some (.struct a) → ∀ w, (a.mapM (fun (f : Field) => do pure (f.offset, ← sizeOf f.type)) : Sem (Array (Nat × Nat))).run pg0 w = .ok #[(0, 9), (9, 3)] w := by
 intro a h w
 rw [cN] at h
 cases h
 kernel_rfl
theorem yn : kY pg0 87 0 0 := kD gw rfl cj (by decide) rfl
theorem oL : kY pg0 87 1 1 := kD gw rfl dg (by decide) rfl
theorem Ud : ∀ a, Tryz.prog.underlying 87 = some (.struct a) → ∀ w, (a.mapM (fun (f : Field) => do pure (f.offset, ← sizeOf f.type)) : Sem (Array (Nat × Nat))).run pg0 w = .ok #[(0, 1), (1, 1)] w := by
 intro a h w
 rw [gw] at h
 cases h
 kernel_rfl
theorem E1 : kY pg0 57 0 0 := kD eA rfl dg (by decide) rfl
theorem EU : kY pg0 57 1 1 := kD eA rfl dg (by decide) rfl
theorem El : kY pg0 57 2 2 := kD eA rfl ag (by decide) rfl
theorem yQ : kY pg0 57 3 4 := kD eA rfl sizeOf55 (by decide) rfl
theorem T6 : ∀ a, Tryz.prog.underlying 57 = some (.struct a) → ∀ w, (a.mapM (fun (f : Field) => do pure (f.offset, ← sizeOf f.type)) : Sem (Array (Nat × Nat))).run pg0 w = .ok #[(0, 1), (1, 1), (2, 2), (4, 1)] w := by
 intro a h w
 rw [eA] at h
 cases h
 kernel_rfl
theorem Un : ∀ a, Tryz.prog.underlying 52 = some (.struct a) → ∀ w, (a.mapM (fun (f : Field) => do pure (f.offset, ← sizeOf f.type)) : Sem (Array (Nat × Nat))).run pg0 w = .ok #[(0, 1), (1, 1), (2, 1)] w := by
 intro a h w
 rw [underlying52] at h
 cases h
 kernel_rfl
theorem NU : kY pg0 54 1 3 := kD gx rfl cj (by decide) rfl
theorem GQ : kY pg0 54 3 5 := kD gx rfl sizeOf22 (by decide) rfl
theorem Ui : ∀ a, Tryz.prog.underlying 54 = some (.struct a) → ∀ w, (a.mapM (fun (f : Field) => do pure (f.offset, ← sizeOf f.type)) : Sem (Array (Nat × Nat))).run pg0 w = .ok #[(0, 3), (3, 1), (4, 1), (5, 1), (6, 1), (7, 1), (8, 1)] w := by
 intro a h w
 rw [gx] at h
 cases h
 kernel_rfl
theorem vB : kY pg0 64 0 0 := kD cQ rfl dg (by decide) rfl
theorem wD : kY pg0 64 1 1 := kD cQ rfl iW (by decide) rfl
theorem pv : kY pg0 64 2 2 := kD cQ rfl iX (by decide) rfl
theorem tu : kY pg0 64 3 3 := kD cQ rfl iF (by decide) rfl
theorem MZ : ∀ a, Tryz.prog.underlying 64 = some (.struct a) → ∀ w, (a.mapM (fun (f : Field) => do pure (f.offset, ← sizeOf f.type)) : Sem (Array (Nat × Nat))).run pg0 w = .ok #[(0, 1), (1, 1), (2, 1), (3, 1)] w := by
 intro a h w
 rw [cQ] at h
 cases h
 kernel_rfl
theorem yw : kY pg0 81 0 0 := kD cY rfl gO (by decide) rfl
theorem JU : ∀ a, Tryz.prog.underlying 81 = some (.struct a) → ∀ w, (a.mapM (fun (f : Field) => do pure (f.offset, ← sizeOf f.type)) : Sem (Array (Nat × Nat))).run pg0 w = .ok #[(0, 1)] w := by
 intro a h w
 rw [cY] at h
 cases h
 kernel_rfl
theorem wT : kY pg0 158 0 0 := kD fX rfl gO (by decide) rfl
theorem HN : kY pg0 158 1 1 := kD fX rfl sizeOf4 (by decide) rfl
theorem TH : ∀ a, Tryz.prog.underlying 158 = some (.struct a) → ∀ w, (a.mapM (fun (f : Field) => do pure (f.offset, ← sizeOf f.type)) : Sem (Array (Nat × Nat))).run pg0 w = .ok #[(0, 1), (1, 1)] w := by
 intro a h w
 rw [fX] at h
 cases h
 kernel_rfl
theorem wX : kY pg0 174 0 0 := kD dp rfl sizeOf170 (by decide) rfl
theorem HR : kY pg0 174 1 1 := kD dp rfl sizeOf22 (by decide) rfl
theorem MC : kY pg0 174 2 2 := kD dp rfl sizeOf171 (by decide) rfl
theorem HL : kY pg0 174 3 3 := kD dp rfl sizeOf172 (by decide) rfl
theorem AV : kY pg0 174 4 4 := kD dp rfl sizeOf120 (by decide) rfl
theorem Fg : kY pg0 174 5 5 := kD dp rfl dg (by decide) rfl
theorem TE : ∀ a, Tryz.prog.underlying 174 = some (.struct a) → ∀ w, (a.mapM (fun (f : Field) => do pure (f.offset, ← sizeOf f.type)) : Sem (Array (Nat × Nat))).run pg0 w = .ok #[(0, 1), (1, 1), (2, 1), (3, 1), (4, 1), (5, 1)] w := by
 intro a h w
 rw [dp] at h
 cases h
 kernel_rfl
theorem Rh : kY pg0 217 0 0 := kD dR rfl sizeOf89 (by decide) rfl
theorem Ro : kY pg0 217 1 1 := kD dR rfl iW (by decide) rfl
theorem Tt : ∀ a, Tryz.prog.underlying 217 = some (.struct a) → ∀ w, (a.mapM (fun (f : Field) => do pure (f.offset, ← sizeOf f.type)) : Sem (Array (Nat × Nat))).run pg0 w = .ok #[(0, 1), (1, 1)] w := by
 intro a h w
 rw [dR] at h
 cases h
 kernel_rfl
def xt : Nat → qa Formula
 | 0 => fun _ _ _ => False
 | n + 1 => fun μ ys x => ∃ (v0 : Value), ys = [.int .i64 x.Op, .int .i64 x.K, .string x.ja.jn, .string x.ja.jK, v0] ∧ Sl (xt n) 5 μ v0 x.Kids
def jZ : qa Formula := fun μ ys x => ∃ n, xt n μ ys x
theorem Ef : ∀ n, GP (xt n)
 | 0 => fun _ _ _ _ _ h => h
 | n + 1 => by rintro _ _ _ _ c ⟨v0, rfl, a⟩; exact ⟨v0, rfl, a.mono (Ef n) c⟩
theorem GW : ∀ n m (μ : jF) (ys : List Value) (x : Formula), n ≤ m → xt n μ ys x → xt m μ ys x
 | 0, _, _, _, _, _, h => h.elim
 | n + 1, 0, _, _, _, a, _ => absurd a (by omega)
 | n + 1, m + 1, μ, ys, x, a, h => by
  obtain ⟨v0, rfl, c⟩ := h
  exact ⟨v0, rfl, c.imp fun ys x h => GW n m μ ys x (by omega) h⟩
theorem jZ.out {μ : jF} {ys : List Value} {x : Formula} (h : jZ μ ys x) : ∃ (v0 : Value), ys = [.int .i64 x.Op, .int .i64 x.K, .string x.ja.jn, .string x.ja.jK, v0] ∧ Sl jZ 5 μ v0 x.Kids := by
 obtain ⟨n, h⟩ := h
 cases n with
 | zero => exact h.elim
 | succ n =>
  obtain ⟨v0, rfl, a⟩ := h
  exact ⟨v0, rfl, a.imp fun ys x h => ⟨n, h⟩⟩
theorem jZ.mk {μ : jF} {ys : List Value} {x : Formula} (h : ∃ (v0 : Value), ys = [.int .i64 x.Op, .int .i64 x.K, .string x.ja.jn, .string x.ja.jK, v0] ∧ Sl jZ 5 μ v0 x.Kids) : jZ μ ys x := by
 obtain ⟨v0, rfl, c⟩ := h
 obtain ⟨n, g⟩ := c.TF (fun _ _ h => h) (fun a b ys x d h => GW a b _ ys x d h)
 exact ⟨n + 1, v0, rfl, g⟩
theorem lX : Deep jZ 5 where
 mono := fun _ _ _ _ c ⟨n, h⟩ => ⟨n, Ef n _ _ _ _ c h⟩
 len := by rintro _ _ _ h; obtain ⟨v0, rfl, a⟩ := h.out; rfl
 one := by
  rintro _ _ _ h
  obtain ⟨v0, rfl, a⟩ := h.out
  intro u hu; simp only [aB, bZ, er] at hu; rcases hu with rfl | rfl | rfl | rfl | rfl
  ·rfl
  ·rfl
  ·rfl
  ·rfl
  ·exact a.BO
def uf : qa ot := fun μ ys x => ∃ (v0 : Value) (v1 : Value), ys = [.int .i64 x.Signed.jb.Kind, .string x.Signed.jb.Head.jn, .string x.Signed.jb.Head.jK, .string x.Signed.jb.jL, .string x.Signed.jb.B.jn, .string x.Signed.jb.B.jK, .string x.Signed.jb.C.jn, .string x.Signed.jb.C.jK, .string x.Signed.jb.kk, v0, .int .i64 x.lI.Op, .int .i64 x.lI.K, .string x.lI.ja.jn, .string x.lI.ja.jK, v1] ∧ Sl (Pl (jS .u8)) 1 μ v0 x.Signed.Tag ∧ Sl jZ 5 μ v1 x.lI.Kids
theorem uf.out {μ : jF} {ys : List Value} {x : ot} (h : uf μ ys x) : ∃ (v0 : Value) (v1 : Value), ys = [.int .i64 x.Signed.jb.Kind, .string x.Signed.jb.Head.jn, .string x.Signed.jb.Head.jK, .string x.Signed.jb.jL, .string x.Signed.jb.B.jn, .string x.Signed.jb.B.jK, .string x.Signed.jb.C.jn, .string x.Signed.jb.C.jK, .string x.Signed.jb.kk, v0, .int .i64 x.lI.Op, .int .i64 x.lI.K, .string x.lI.ja.jn, .string x.lI.ja.jK, v1] ∧ Sl (Pl (jS .u8)) 1 μ v0 x.Signed.Tag ∧ Sl jZ 5 μ v1 x.lI.Kids := h
theorem uf.mk {μ : jF} {ys : List Value} {x : ot} (h : ∃ (v0 : Value) (v1 : Value), ys = [.int .i64 x.Signed.jb.Kind, .string x.Signed.jb.Head.jn, .string x.Signed.jb.Head.jK, .string x.Signed.jb.jL, .string x.Signed.jb.B.jn, .string x.Signed.jb.B.jK, .string x.Signed.jb.C.jn, .string x.Signed.jb.C.jK, .string x.Signed.jb.kk, v0, .int .i64 x.lI.Op, .int .i64 x.lI.K, .string x.lI.ja.jn, .string x.lI.ja.jK, v1] ∧ Sl (Pl (jS .u8)) 1 μ v0 x.Signed.Tag ∧ Sl jZ 5 μ v1 x.lI.Kids) : uf μ ys x := h
theorem KL : Deep uf 15 where
 mono := by rintro _ _ _ _ c ⟨v0, v1, rfl, a, h1⟩; exact ⟨v0, v1, rfl, a.mono (Pl.mono _) c, h1.mono lX.mono c⟩
 len := by rintro _ _ _ ⟨v0, v1, rfl, a, h1⟩; rfl
 one := by
  rintro _ _ _ ⟨v0, v1, rfl, a, h1⟩
  intro u hu; simp only [aB, bZ, er] at hu; rcases hu with rfl | rfl | rfl | rfl | rfl | rfl | rfl | rfl | rfl | rfl | rfl | rfl | rfl | rfl | rfl
  ·rfl
  ·rfl
  ·rfl
  ·rfl
  ·rfl
  ·rfl
  ·rfl
  ·rfl
  ·rfl
  ·exact a.BO
  ·rfl
  ·rfl
  ·rfl
  ·rfl
  ·exact h1.BO
def zP : qa vk := fun μ ys x => ∃ (v0 : Value) (v1 : Value), ys = [.string x.ja.jn, .string x.ja.jK, .int .i64 x.lI.Op, .int .i64 x.lI.K, .string x.lI.ja.jn, .string x.lI.ja.jK, v0, v1] ∧ Sl jZ 5 μ v0 x.lI.Kids ∧ Sl (Pl jg) 9 μ v1 x.Fe
theorem zP.out {μ : jF} {ys : List Value} {x : vk} (h : zP μ ys x) : ∃ (v0 : Value) (v1 : Value), ys = [.string x.ja.jn, .string x.ja.jK, .int .i64 x.lI.Op, .int .i64 x.lI.K, .string x.lI.ja.jn, .string x.lI.ja.jK, v0, v1] ∧ Sl jZ 5 μ v0 x.lI.Kids ∧ Sl (Pl jg) 9 μ v1 x.Fe := h
theorem zP.mk {μ : jF} {ys : List Value} {x : vk} (h : ∃ (v0 : Value) (v1 : Value), ys = [.string x.ja.jn, .string x.ja.jK, .int .i64 x.lI.Op, .int .i64 x.lI.K, .string x.lI.ja.jn, .string x.lI.ja.jK, v0, v1] ∧ Sl jZ 5 μ v0 x.lI.Kids ∧ Sl (Pl jg) 9 μ v1 x.Fe) : zP μ ys x := h
theorem SN : Deep zP 8 where
 mono := by rintro _ _ _ _ c ⟨v0, v1, rfl, a, h1⟩; exact ⟨v0, v1, rfl, a.mono lX.mono c, h1.mono (Pl.mono _) c⟩
 len := by rintro _ _ _ ⟨v0, v1, rfl, a, h1⟩; rfl
 one := by
  rintro _ _ _ ⟨v0, v1, rfl, a, h1⟩
  intro u hu; simp only [aB, bZ, er] at hu; rcases hu with rfl | rfl | rfl | rfl | rfl | rfl | rfl | rfl
  ·rfl
  ·rfl
  ·rfl
  ·rfl
  ·rfl
  ·rfl
  ·exact a.BO
  ·exact h1.BO
theorem Hc : nP pg0 9 Value.string ke := nP.string aP
theorem Aa : nP pg0 28 (fun (x : ja) => (.agg (jc x).toArray)) jt :=
 nP.struct bA (fun d x y W => ni (d + 8) x y W) (fun b k W => yM bA rfl (dh.2 ⟨fun _ => ⟨.string k.jn, oM aG rfl, rZ aP _ _ _ _⟩, (dh.2 ⟨fun _ => ⟨.string k.jK, oM aG rfl, rZ aP _ _ _ _⟩, (fun _ h => by cases h)⟩)⟩))
  (fun k x h => (jB.1 h).symm) (fun k => by simp [Instr.sameBits, jc, Bz, kK])
theorem JR : nP pg0 38 (fun (x : jd) => (.agg (jw x).toArray)) lH :=
 nP.struct bn (fun d x y W => Bb (d + 7) x y W) (fun b k W => yM bn rfl (dh.2 ⟨fun _ => ⟨.agg (jc k.ja).toArray, rf au ag rfl, yM bA rfl (dh.2 ⟨fun _ => ⟨.string k.ja.jn, oM aG rfl, rZ aP _ _ _ _⟩, (dh.2 ⟨fun _ => ⟨.string k.ja.jK, oM aG rfl, rZ aP _ _ _ _⟩, (fun _ h => by cases h)⟩)⟩)⟩, (dh.2 ⟨fun _ => ⟨.string k.jL, oM aG rfl, rZ aP _ _ _ _⟩, (fun _ h => by cases h)⟩)⟩))
  (fun k x h => (lp.1 h).symm) (fun k => by simp [Instr.sameBits, jw, Bz, kK])
theorem R3 (w : World) (s : ByteArray) (c : Int) : (callFunc 289 [Value.string s, .int .u8 c].toArray).run pg0 w = .ok (.value (.int .i64 (xf s c))) w := Hu func289 (by kernel_rfl) (by kernel_rfl) (by kernel_rfl) (by kernel_rfl) s c w
theorem xU (a : ByteArray) (c r : Int) (w : World) (hm : nL a c = some r) :
  jJ true pg0 254 [(.string a), (.int .u8 c)] w (.int .i64 r) := by
 exact cG 8 func254 rfl (fun d => sg (Wa (lr (Wm (Wm (VE (Nh (args := [(.string a), (.int .u8 c)]) (v := .int .i64 (xf a c)) rfl (by exact og rfl rfl) (R3 _ a c) (Wa (lt (rQ hm d))))))))))
theorem ze (a : ByteArray) (c r : Int) (w : World) (hm : qX a c = some r) :
  jJ true pg0 215 [(.string a), (.int .u8 c)] w (.int .i64 r) := by
 refine cG 8 func215 rfl (fun d => sg (Wa (lr (Wm (Wm (bS hm fun j g hm => VE (Eg d call254 (xU a c _ _  g) (fun i d => Wa (ln ?_)))))))))
 exact jN (rQ hm d)
theorem Lv (I : ByteArray) (r : Bool) (w : World) (hm : B6 I = some r) :
  jJ true pg0 216 [(.string I)] w (.bool r) := by
 refine cG 16 func216 rfl (fun d => sg (Wa (lS (Wm (bS hm fun H J hm => VE (Ix d aP bf da rfl J (fun W3 N T d M p j Y => V (kj bf rfl j) (Wm (jH ?_)))))))))
 refine jj (km (fun i E W => ∃ c, (E 8 = .int .i64 (i : Nat) ∧ E 7 = .int .i64 (H.length : Nat)) ∧ ST true jT w W T c ∧ E 6 = N ∧ uY (H.drop i) = some r) H.length j.len ⟨_, ⟨rfl, rfl⟩, (d.je St), rfl, hm⟩ dc dc dc (fun _ _ _ h => by obtain ⟨_, n, _⟩ := h; exact n) ?_ ?_)
 ·rintro K E W u ⟨c, ⟨m, o⟩, d, g, a⟩
  obtain ⟨k, Q, D, B, G⟩ := jY u
  rw [D] at a
  refine bg (VQ (kC (enc := (jS .u8)) (i := (K : Int)) (x0 := k) bf gy g m j (ak _) B) (fun Z x => V (jf rfl (lL d.has (y := (.int .u8 k)) x isAgg5)) (Wa (lr (Wm (bS a fun q z a => VE (Eg d call215 (ze (⟨#[97, 98, 99, 100, 101, 102, 103, 104, 105, 106, 107, 108, 109, 110, 111, 112, 113, 114, 115, 116, 117, 118, 119, 120, 121, 122, 48, 49, 50, 51, 52, 53, 54, 55, 56, 57, 45]⟩ : ByteArray) k _ _  z) (fun U d => Wi rfl (jH ?_)))))))))
  refine jj (CI a rfl (fun t a => ?_) (fun t a => ?_))
  ·refine sg (Wa (lt (kH (jE (kH (jE ?_))))))
   obtain rfl := sj a
   exact rP d
  exact jW (jV (jj ⟨m, _, ⟨rfl, o⟩, (d.je St), g, (by rw [G]; exact a)⟩))
 rintro E W ⟨c, ⟨m, o⟩, d, g, a⟩
 rw [ap] at a
 exact jj (sg (Wa (lt (rQ a d))))
theorem rJ (z : ByteArray) (r : Bool) (w : World) (hm : oH z = some r) :
  jJ true pg0 177 [(.string z)] w (.bool r) := by
 refine cG 21 func177 rfl (fun d => sg (Wa (lr (Wm (V (nK aP rfl) (Wi rfl (Wm (LJ hm (fun K E W => ∃ Y, ST true jT w W (hp w) Y ∧ E 0 = (.string z) ∧ E 2 = (.bool false) ∧ E 10 = (.bool K)) 4 ?_ (fun K t y => ?_)))))))))
 ·rintro x2 E W ⟨Y, d, M, h, n⟩ a5
  refine Wh n (LJ a5 (fun J E W => ∃ D, ST true jT w W (hp w) D ∧ E 0 = (.string z) ∧ E 2 = (.bool false) ∧ E 16 = (.bool J)) 5 ?_ (fun J a x => ?_))
  ·rintro v E W ⟨D, d, m, H, a2⟩ N
   refine Wh a2 (LJ N (fun I E W => ∃ G, ST true jT w W (hp w) G ∧ E 2 = (.bool false) ∧ E 20 = (.bool I)) 3 ?_ (fun I j u => ?_))
   ·rintro A E W ⟨G, d, a9, a3⟩ Q
    exact Wg a3 (lt (rQ Q d))
   refine bC j (fun g j => ?_) (fun g j => ?_)
   ·refine ug g (jl m) (bS j fun q T j => pV g (Eg d call216 (Lv z _ _  T) (fun o d => V (jz (cB g) rfl) ?_)))
    obtain rfl := sj j
    exact u _ _ ⟨_, (d.je St), H, rfl⟩
   refine un g (un g (V (jA (cB g) rfl) ?_))
   obtain rfl := sj j
   exact u _ _ ⟨_, (d.je St), H, rfl⟩
  refine bC a (fun c a => ?_) (fun c a => ?_)
  ·refine ug c (jl M) (bS a fun Z B a => ug c (yY (i := 0) aP rfl rfl (xp B) (Bg B)) (bS a fun s U a => pV c (Eg d call215 (ze (⟨#[97, 98, 99, 100, 101, 102, 103, 104, 105, 106, 107, 108, 109, 110, 111, 112, 113, 114, 115, 116, 117, 118, 119, 120, 121, 122]⟩ : ByteArray) (Z.toNat : Int) _ _  U) (fun p d => ug c (kv rfl rfl rfl) (V (jz (cB c) rfl) ?_)))))
   obtain rfl := sj a
   exact x _ _ ⟨_, (d.je St), M, h, rfl⟩
  refine un c (un c (un c (un c (V (jA (cB c) rfl) ?_))))
  obtain rfl := sj a
  exact x _ _ ⟨_, (d.je St), M, h, rfl⟩
 refine bC t (fun k t => ?_) (fun k t => ?_)
 ·refine ug k (jl rfl) (ug k (nK aP rfl) (ug k (kv rfl rfl rfl) (V (jz (cB k) rfl) ?_)))
  obtain rfl := sj t
  exact y _ _ ⟨_, (d.je St), rfl, rfl, rfl⟩
 refine un k (un k (un k (V (jA (cB k) rfl) ?_)))
 obtain rfl := sj t
 exact y _ _ ⟨_, (d.je St), rfl, rfl, rfl⟩
theorem qx (i : ja) (r : Bool) (w : World) (hm : nS i = some r) :
  jJ true pg0 157 [(.agg (jc i).toArray)] w (.bool r) := by
 refine cG 11 func157 rfl (fun d => sg (VE (jU d rfl (fun H J d => Wa (lr (Wf ox (VB d Mh rfl rfl aG (bS hm fun K y hm => VE (Eg d iL (rJ i.jn _ _  y) (fun I d => Wm (LJ hm (fun k E W => ∃ j, ST true jT w W (hp w) j ∧ E 2 = (.bool false) ∧ E 10 = (.bool k)) 4 ?_ (fun k a g => ?_))))))))))))
 ·rintro G E W ⟨j, d, B, x⟩ t
  exact Wg x (lt (rQ t d))
 refine bC a (fun c a => ?_) (fun c a => ?_)
 ·refine ug c (jh um rfl) (ug c (jf rfl (jq d.has Mh rfl aG)) (bS a fun D u a => pV c (Eg d iL (rJ i.jK _ _  u) (fun z d => V (jz (cB c) rfl) ?_))))
  obtain rfl := sj a
  exact g _ _ ⟨_, (d.je (Db St)), rfl, rfl⟩
 refine un c (un c (un c (V (jA (cB c) rfl) ?_)))
 obtain rfl := sj a
 exact g _ _ ⟨_, (d.je (Db St)), rfl, rfl⟩
theorem Sy (w : World) (a b : ByteArray) : (callFunc 238 [Value.string a, .string b].toArray).run pg0 w = .ok (.value (.int .i64 (oA a b))) w := O6 func238 (by kernel_rfl) (by kernel_rfl) (by kernel_rfl) (by kernel_rfl) a b w
theorem xM (a c : ByteArray) (r : Int) (w : World) (hm : my a c = some r) :
  jJ true pg0 186 [(.string a), (.string c)] w (.int .i64 r) := by
 exact cG 8 func186 rfl (fun d => sg (Wa (lr (Wm (Wm (VE (Nh (args := [(.string a), (.string c)]) (v := .int .i64 (oA a c)) rfl (by exact og rfl rfl) (Sy _ a c) (Wa (lt (rQ hm d))))))))))
theorem Az (a c : ByteArray) (r : Int) (w : World) (hm : pd a c = some r) :
  jJ true pg0 125 [(.string a), (.string c)] w (.int .i64 r) := by
 refine cG 8 func125 rfl (fun d => sg (Wa (lr (Wm (Wm (bS hm fun j g hm => VE (Eg d call186 (xM a c _ _  g) (fun i d => Wa (ln ?_)))))))))
 exact jN (rQ hm d)
theorem EY (g : Value) (t : List Int) (r : Int) (w : World) (c : Sl (Pl (jS .i64)) 1 (hp w) g t) (hm : tl t = some r) :
  jJ true pg0 124 [g] w (.int .i64 r) := by
 refine cG 18 func124 rfl (fun d => sg (Wa (lr (Wa (lS (Wm ?_))))))
 refine V (kj dH rfl c) (Wm (ln (km (fun i E W => ∃ k, (E 8 = .int .i64 (i : Nat) ∧ E 7 = .int .i64 (t.length : Nat)) ∧ ST true jT w W (hp w) k ∧ E 3 = (.int .i64 0) ∧ E 6 = g ∧ sb (t.drop i) = some r) t.length c.len ⟨_, ⟨rfl, rfl⟩, (d.je St), rfl, rfl, hm⟩ dc dc dc (fun _ _ _ h => by obtain ⟨_, n, _⟩ := h; exact n) ?_ ?_)))
 ·rintro J E W B ⟨k, ⟨m, o⟩, d, j, u, a⟩
  obtain ⟨x, K, H, G, I⟩ := jY B
  rw [H] at a
  refine bg (VQ (kC (enc := (jS .i64)) (i := (J : Int)) (x0 := x) dH dg u m c (ak _) G) (fun M D => V (jf rfl (lL d.has (y := (.int .i64 x)) D bl)) (Wa (lr (Wm (Wh j (Wi rfl (ln ?_))))))))
  refine CI a rfl (fun z a => ?_) (fun z a => ?_)
  ·refine sg (Wm (Wa (lt (kH (jE (kH (jE ?_)))))))
   obtain rfl := sj a
   exact rP d
  exact jW (jV (jj ⟨m, _, ⟨rfl, o⟩, (d.je St), j, u, (by rw [I]; exact a)⟩))
 rintro E W ⟨k, ⟨m, o⟩, d, j, u, a⟩
 rw [ap] at a
 exact jj (sg (Wh j (Wa (lt (rQ a d)))))
theorem zh (g i : ja) (r : Int) (w : World) (hm : mq g i = some r) :
  jJ true pg0 57 [(.agg (jc g).toArray), (.agg (jc i).toArray)] w (.int .i64 r) := by
 refine cG 17 func57 rfl (fun d => sg (VE (jU d rfl (fun G I d => VE (jU d rfl (fun H J d => Wa (ln (jo ?_))))))))
 replace d := d.drew
 have h := d.has.je (Kb (Kb Sn))
 refine ko h jP (X 0 rfl h (jh ox rfl) (XH 1 rfl h (fun _ m => jf rfl (jq m (Mt Mh) rfl aG)) (X 2 rfl h (jh ox rfl) (XH 3 rfl h (fun _ m => jf rfl (jq m Mh rfl aG)) (X 5 rfl h (jh um rfl) (XH 6 rfl h (fun _ m => jf rfl (jq m (Mt Mh) rfl aG)) (X 7 rfl h (jh um rfl) (XH 8 rfl h (fun _ m => jf rfl (jq m Mh rfl aG)) (bS hm fun a j hm => XE 4 rfl (Eg d call125 (Az g.jn i.jn _ _  j) (fun x d => ?_)))))))))))
 have h := d.has.je (Kb (Kb Sn))
 refine ⟨h, (bS hm fun c k hm => XE 9 rfl (Eg d call125 (Az g.jK i.jK _ _  k) (fun y d => ?_)))⟩
 have h := d.has.je (Kb (Kb Sn))
 refine ⟨h, (XE 10 rfl (kh (cs := #[(.int .i64 a), (.int .i64 c)]) d (nB rfl rfl) (mn dH dg zeroValue3) (fun z u d => ?_)))⟩
 have h := d.has.je (Db (Kb (Kb Sn)))
 refine ⟨h, (bS hm fun D t hm => XE 11 rfl (Eg d call124 (EY (.slice (some ⟨u, 0, none⟩) 2 2) ([a, c]) _ _ (Sl.lit (enc := (jS .i64)) (l := [a, c]) (fun _ => rfl) rfl nb rfl (d.at_ Mh)) t) (fun B d => ?_)))⟩
 have h := d.has.je (Db (Kb (Kb Sn)))
 refine ⟨h, (X 12 rfl h (lO rfl) (kz kr (jj ?_)))⟩
 exact jN (rQ hm d)
set_option maxHeartbeats 4000000 in
theorem rU (a : jb) (r : Bool) (w : World) (hm : nU a = some r) :
  jJ true pg0 115 [(.agg (jg a).toArray)] w (.bool r) := by
 let m9 := (⟨a.Kind, a.Head, zS, a.B, a.C, zS⟩ : jb)
 let j2 := (⟨a.Kind, a.Head, zS, a.B, K0, a.kk⟩ : jb)
 let j1 : Value := (.agg (jc a.B).toArray)
 let g6 := ((jg (⟨a.Kind, a.Head, zS, a.B, K0, zS⟩ : jb)).toArray)
 let q := (⟨a.Kind, a.Head, zS, K0, K0, zS⟩ : jb)
 refine cG 98 func115 rfl (fun d => sg (VE (jU d rfl (fun W2 N d => Wa (lr (Wf mh (VB d Mh rfl rfl bl (Wf mJ (VA d Mh (jc a.Head) au ag (V (kO (v := (.agg (jg q).toArray)) (nB rfl rfl) (ku bh bD (Fy _ bD) kr)) (VE (kl d bh (fun W4 B d => ?_)))))))))))))
 refine VO (jD (.agg (jg q).toArray) ((jg q).toArray) d rfl rfl an (mo q) nb rfl (fun W5 d => lr (Wf mJ (VA d (Mt Mh) (jc a.Head) au ag (bS hm fun p j4 hm => VE (Eg d ia (qx a.Head _ _  j4) (fun W8 d => Wa (ln (jo (EX hm (fun F E W => ∃ b6, ST true jT w W (hp w) ((B, Ol (jg F.2) 108) :: ((N, Ol (jg a) 108) :: b6)) ∧ E 1 = (.pointer (some ⟨N, 0, none⟩)) ∧ E 3 = (.pointer (some ⟨B, 0, none⟩)) ∧ E 4 = (.bool F.1)) (fun F g Z => ?_) ?_))))))))))
 ·let g5 := ((jg m9).toArray : Array Value)
  let b8 := ((jg j2).toArray : Array Value)
  let o : Value := (.pointer (some ⟨B, 0, none⟩))
  let n : Value := (.pointer (some ⟨N, 0, none⟩))
  let a0 := ((jg a).toArray : Array Value)
  refine sg (Wf mh (VB d (Mt Mh) rfl rfl bl (ln (bg (Wi rfl (Wa (ln (CI g rfl (fun e5 g => ?_) (fun e5 g => ?_)))))))))
  ·replace d := d.drew
   have h := d.has.je (Db (Kb Sn))
   refine ko h jP (X 0 rfl h (jh rq rfl) (XH 1 rfl h (fun _ m => jf rfl (jq m Mh rfl aG)) (X 2 rfl h (jl rfl) (X 3 rfl h (jl rfl) (X 8 rfl h (jh rq rfl) (PJ g (fun d6 E W => ∃ b9, ST true jT w W (hp w) ((B, Ol (jg q) 108) :: ((N, Obj.cells a0 108 (0, 0)) :: b9)) ∧ E 1 = n ∧ E 3 = o ∧ E 4 = (.bool p) ∧ E 18 = (.string a.jL) ∧ E 24 = (.bool d6) ∧ E 25 = (.pointer (some ⟨B, 3, none⟩))) (bm 11 511) 2 ?_ (fun d6 D a2 => ?_)))))))
   ·rintro m1 E W ⟨b9, d, h2, h3, k8, h4, h5, h6⟩ f1
    refine XO 9 rfl (jD (.string a.jL) ((jg (⟨a.Kind, a.Head, a.jL, K0, K0, zS⟩ : jb)).toArray) d h6 h4 cj (An a.jL) nb rfl (fun j5 d => ?_))
    have h := d.has.je (Db (Kb Sn))
    refine ⟨h, (X 10 rfl h (lO h5) (kz kr (jV (jj ?_))))⟩
    obtain rfl := sj f1
    exact ⟨_, rfl, _, (d.je St), h2, h3, rfl⟩
   refine bC D (fun k D => ?_) (fun k D => ?_)
   ·refine Xg 4 rfl rfl (cB k) h (jh rq rfl) (yo 5 rfl rfl (cB k) h (fun _ m => jf rfl (jq m Mh rfl aG)) (bS D fun l2 f9 D => Is 6 rfl rfl (cB k) (Eg d iL (rJ a.jL _ _  f9) (fun j6 d => ?_))))
    have h := d.has.je (Db (Kb Sn))
    refine ⟨h, (X 7 rfl h (jz (cB k) rfl) ?_)⟩
    obtain rfl := sj D
    refine tL kr (a2 _ _ ⟨_, (d.je St), rfl, rfl, rfl, rfl, rfl, rfl⟩)
   refine Xn 4 rfl rfl (cB k) h (Xn 5 rfl rfl (cB k) h (Xn 6 rfl rfl (cB k) h (X 7 rfl h (jA (cB k) rfl) ?_)))
   obtain rfl := sj D
   refine tL kr (a2 _ _ ⟨_, (d.je St), rfl, rfl, rfl, rfl, rfl, rfl⟩)
  refine sg (Wi rfl (Wa (ln (CI g rfl (fun e6 g => ?_) (fun e6 g => ?_)))))
  ·replace d := d.drew
   have h := d.has.je (Db (Kb Sn))
   refine ko h jP (X 0 rfl h (jh lm rfl) (XH 1 rfl h (fun _ m => jf rfl (jm m Mh (jc a.B) rfl au ag)) (X 2 rfl h (jl rfl) (X 3 rfl h (jl rfl) (X 8 rfl h (jh lm rfl) (PJ g (fun d7 E W => ∃ c0, ST true jT w W (hp w) ((B, Ol (jg q) 108) :: ((N, Obj.cells a0 108 (0, 0)) :: c0)) ∧ E 1 = n ∧ E 3 = o ∧ E 4 = (.bool p) ∧ E 29 = j1 ∧ E 35 = (.bool d7) ∧ E 36 = (.pointer (some ⟨B, 4, none⟩))) (bm 11 511) 2 ?_ (fun d7 G a3 => ?_)))))))
   ·rintro m2 E W ⟨c0, d, h7, h8, k9, h9, i0, i1⟩ f2
    refine XO 9 rfl (jD j1 g6 d i1 h9 ag (lf a.B) nb rfl (fun j7 d => ?_))
    have h := d.has.je (Db (Kb Sn))
    refine ⟨h, (X 10 rfl h (lO i0) (kz kr (jV (jj ?_))))⟩
    obtain rfl := sj f2
    exact ⟨_, rfl, _, (d.je St), h7, h8, rfl⟩
   refine bC G (fun t G => ?_) (fun t G => ?_)
   ·refine Xg 4 rfl rfl (cB t) h (jh lm rfl) (yo 5 rfl rfl (cB t) h (fun _ m => jf rfl (jm m Mh (jc a.B) rfl au ag)) (bS G fun l3 g0 G => Is 6 rfl rfl (cB t) (Eg d ia (qx a.B _ _  g0) (fun j8 d => ?_))))
    have h := d.has.je (Db (Kb Sn))
    refine ⟨h, (X 7 rfl h (jz (cB t) rfl) ?_)⟩
    obtain rfl := sj G
    refine tL kr (a3 _ _ ⟨_, (d.je St), rfl, rfl, rfl, rfl, rfl, rfl⟩)
   refine Xn 4 rfl rfl (cB t) h (Xn 5 rfl rfl (cB t) h (Xn 6 rfl rfl (cB t) h (X 7 rfl h (jA (cB t) rfl) ?_)))
   obtain rfl := sj G
   refine tL kr (a3 _ _ ⟨_, (d.je St), rfl, rfl, rfl, rfl, rfl, rfl⟩)
  refine sg (Wi rfl (Wa (ln (CI g rfl (fun e7 g => ?_) (fun e7 g => ?_)))))
  ·refine jo ?_
   replace d := d.drew
   have h := d.has.je (Db (Kb Sn))
   refine ko h jP (X 0 rfl h (jh lm rfl) (XH 1 rfl h (fun _ m => jf rfl (jm m Mh (jc a.B) rfl au ag)) (X 2 rfl h (jh pX rfl) (XH 3 rfl h (fun _ m => jf rfl (jq m Mh rfl aG)) (X 4 rfl h (jh lm rfl) (XO 5 rfl (jD j1 g6 d rfl rfl ag (lf a.B) nb rfl (fun j9 d => ?_))))))))
   have h := d.has.je (Db (Kb Sn))
   refine ⟨h, (X 6 rfl h (jh pX rfl) (XO 7 rfl (jD (.string a.kk) ((jg j2).toArray) d rfl rfl cj (An a.kk) nb rfl (fun k0 d => ?_))))⟩
   have h := d.has.je (Db (Kb Sn))
   refine ⟨h, (kz kr (jj (jk (Wm (Wm (LJ g (fun e0 E W => ∃ c1, ST true jT w W (hp w) ((B, Obj.cells b8 108 (0, 0)) :: ((N, Obj.cells a0 108 (0, 0)) :: c1)) ∧ E 1 = n ∧ E 3 = o ∧ E 4 = (.bool p) ∧ E 50 = (.bool e0)) 4 ?_ (fun e0 I O => ?_)))))))⟩
   ·rintro m3 E W ⟨c1, d, U, c7, c8, i2⟩ f3
    refine Wh i2 (LJ f3 (fun d9 E W => ∃ c2, ST true jT w W (hp w) ((B, Obj.cells b8 108 (0, 0)) :: ((N, Obj.cells a0 108 (0, 0)) :: c2)) ∧ E 1 = n ∧ E 3 = o ∧ E 4 = (.bool p) ∧ E 59 = (.bool d9)) 8 ?_ (fun d9 T a5 => ?_))
    ·rintro m4 E W ⟨c2, d, s, c9, d0, i3⟩ f4
     refine Wh i3 (LJ f4 (fun d8 E W => ∃ c3, ST true jT w W (hp w) ((B, Obj.cells b8 108 (0, 0)) :: ((N, Obj.cells a0 108 (0, 0)) :: c3)) ∧ E 1 = n ∧ E 3 = o ∧ E 4 = (.bool p) ∧ E 64 = (.bool d8)) 4 ?_ (fun d8 H a4 => ?_))
     ·rintro m5 E W ⟨c3, d, i4, i5, l0, i6⟩ f5
      refine Wg i6 (jH (jV (jj ?_)))
      obtain rfl := sj f5
      exact ⟨_, rfl, _, (d.je St), i4, i5, rfl⟩
     refine bC H (fun x H => ?_) (fun x H => ?_)
     ·refine ug x (jh pX s) (ug x (jf rfl (jq d.has (Mt Mh) rfl aG)) (bS H fun l4 g1 H => pV x (Eg d iL (rJ a.kk _ _  g1) (fun k1 d => V (jz (cB x) rfl) ?_))))
      obtain rfl := sj H
      exact a4 _ _ ⟨_, (d.je St), s, c9, d0, rfl⟩
     refine un x (un x (un x (V (jA (cB x) rfl) ?_)))
     obtain rfl := sj H
     exact a4 _ _ ⟨_, (d.je St), s, c9, d0, rfl⟩
    refine bC T (fun c T => ?_) (fun c T => ?_)
    ·refine ug c (jh lm U) (ug c (jh ox rfl) (ug c (jf rfl (jq d.has (Mt Mh) rfl aG)) (ug c (jh mJ U) (ug c (jh ox rfl) (ug c (jf rfl (jq d.has (Mt Mh) rfl aG)) (ug c (sQ rfl rfl rfl) (V (jz (cB c) rfl) ?_)))))))
     obtain rfl := sj T
     exact a5 _ _ ⟨_, (d.je St), U, c7, c8, rfl⟩
    refine un c (un c (un c (un c (un c (un c (un c (V (jA (cB c) rfl) ?_)))))))
    obtain rfl := sj T
    exact a5 _ _ ⟨_, (d.je St), U, c7, c8, rfl⟩
   refine bC I (fun u I => ?_) (fun u I => ?_)
   ·refine ug u (jh lm rfl) (ug u (jf rfl (jm d.has (Mt Mh) (jc a.B) rfl au ag)) (bS I fun l5 g2 I => pV u (Eg d ia (qx a.B _ _  g2) (fun k2 d => V (jz (cB u) rfl) ?_))))
    obtain rfl := sj I
    exact O _ _ ⟨_, (d.je St), rfl, rfl, rfl, rfl⟩
   refine un u (un u (un u (V (jA (cB u) rfl) ?_)))
   obtain rfl := sj I
   exact O _ _ ⟨_, (d.je St), rfl, rfl, rfl, rfl⟩
  refine sg (Wi rfl (Wa (ln (CI g rfl (fun e8 g => ?_) (fun e8 g => ?_)))))
  ·refine jo ?_
   replace d := d.drew
   have h := d.has.je (Db (Kb Sn))
   refine ko h jP (X 0 rfl h (jh lm rfl) (XH 1 rfl h (fun _ m => jf rfl (jm m Mh (jc a.B) rfl au ag)) (X 2 rfl h (jh ou rfl) (XH 3 rfl h (fun _ m => jf rfl (jm m Mh (jc a.C) rfl au ag)) (X 4 rfl h (jh lm rfl) (XO 5 rfl (jD j1 g6 d rfl rfl ag (lf a.B) nb rfl (fun k3 d => ?_))))))))
   have h := d.has.je (Db (Kb Sn))
   refine ⟨h, (X 6 rfl h (jh ou rfl) (XO 7 rfl (jD (.agg (jc a.C).toArray) ((jg m9).toArray) d rfl rfl ag (lf a.C) nb rfl (fun k4 d => ?_))))⟩
   have h := d.has.je (Db (Kb Sn))
   refine ⟨h, (kz kr (jj (jk (Wm (Wm (LJ g (fun e3 E W => ∃ c4, ST true jT w W (hp w) ((B, Obj.cells g5 108 (0, 0)) :: ((N, Obj.cells a0 108 (0, 0)) :: c4)) ∧ E 1 = n ∧ E 3 = o ∧ E 4 = (.bool p) ∧ E 78 = (.bool e3)) 4 ?_ (fun e3 M a9 => ?_)))))))⟩
   ·rintro m6 E W ⟨c4, d, A, d1, d2, i7⟩ f6
    refine Wh i7 (LJ f6 (fun e2 E W => ∃ c5, ST true jT w W (hp w) ((B, Obj.cells g5 108 (0, 0)) :: ((N, Obj.cells a0 108 (0, 0)) :: c5)) ∧ E 1 = n ∧ E 3 = o ∧ E 4 = (.bool p) ∧ E 83 = (.bool e2)) 4 ?_ (fun e2 K R => ?_))
    ·rintro m7 E W ⟨c5, d, Y, d3, d4, i8⟩ f7
     refine Wh i8 (LJ f7 (fun e1 E W => ∃ c6, ST true jT w W (hp w) ((B, Obj.cells g5 108 (0, 0)) :: ((N, Obj.cells a0 108 (0, 0)) :: c6)) ∧ E 1 = n ∧ E 3 = o ∧ E 4 = (.bool p) ∧ E 91 = (.bool e1)) 7 ?_ (fun e1 J P => ?_))
     ·rintro m8 E W ⟨c6, d, i9, j0, l1, j3⟩ f8
      refine Wg j3 (jH (jV (jj ?_)))
      obtain rfl := sj f8
      exact ⟨_, rfl, _, (d.je St), i9, j0, rfl⟩
     refine bC J (fun i J => ?_) (fun i J => ?_)
     ·refine ug i (jh lm Y) (ug i (jf rfl (jm d.has (Mt Mh) (jc a.B) rfl au ag)) (ug i (jh ou Y) (ug i (jf rfl (jm d.has (Mt Mh) (jc a.C) rfl au ag)) (bS J fun l6 g3 J => pV i (Eg d call57 (zh a.B a.C _ _  g3) (fun k5 d => ug i (kv rfl rfl rfl) (V (jz (cB i) rfl) ?_)))))))
      obtain rfl := sj J
      exact P _ _ ⟨_, (d.je St), Y, d3, d4, rfl⟩
     refine un i (un i (un i (un i (un i (un i (V (jA (cB i) rfl) ?_))))))
     obtain rfl := sj J
     exact P _ _ ⟨_, (d.je St), Y, d3, d4, rfl⟩
    refine bC K (fun z K => ?_) (fun z K => ?_)
    ·refine ug z (jh ou A) (ug z (jf rfl (jm d.has (Mt Mh) (jc a.C) rfl au ag)) (bS K fun l7 g4 K => pV z (Eg d ia (qx a.C _ _  g4) (fun k6 d => V (jz (cB z) rfl) ?_))))
     obtain rfl := sj K
     exact R _ _ ⟨_, (d.je St), A, d1, d2, rfl⟩
    refine un z (un z (un z (V (jA (cB z) rfl) ?_)))
    obtain rfl := sj K
    exact R _ _ ⟨_, (d.je St), A, d1, d2, rfl⟩
   refine bC M (fun y M => ?_) (fun y M => ?_)
   ·refine ug y (jh lm rfl) (ug y (jf rfl (jm d.has (Mt Mh) (jc a.B) rfl au ag)) (bS M fun l8 g7 M => pV y (Eg d ia (qx a.B _ _  g7) (fun k7 d => V (jz (cB y) rfl) ?_))))
    obtain rfl := sj M
    exact a9 _ _ ⟨_, (d.je St), rfl, rfl, rfl, rfl⟩
   refine un y (un y (un y (V (jA (cB y) rfl) ?_)))
   obtain rfl := sj M
   exact a9 _ _ ⟨_, (d.je St), rfl, rfl, rfl, rfl⟩
  refine sg (Wa (ln ?_))
  replace d := d.je (Db (Db St))
  refine jN (kH (jE ?_))
  obtain rfl := sj g
  replace Z : some false = some r := Z
  obtain rfl := sj Z
  exact rP d
 rintro ⟨l9, e4⟩ E W ⟨b6, d, g8, g9, h0⟩ e9
 refine sg (Wh h0 (Wm (LJ e9 (fun d5 E W => ∃ b7, ST true jT w W (hp w) b7 ∧ E 97 = (.bool d5)) 4 ?_ (fun d5 Q L => ?_))))
 ·rintro m0 E W ⟨b7, d, h1⟩ f0
  exact Wg h1 (lt (rQ f0 d))
 refine bC Q (fun j Q => ?_) (fun j Q => ?_)
 ·refine ug j (jf g9 (jm d.has Mh (jg e4) rfl aT an)) (ug j (jf g8 (jm d.has (Mt Mh) (jg a) rfl aT an)) (ug j (uL rfl rfl (lN gP) (qK (Bm _ e4 a))) (V (jz (cB j) rfl) ?_)))
  obtain rfl := sj Q
  exact L _ _ ⟨_, (d.je (Db (Db St))), rfl⟩
 refine un j (un j (un j (V (jA (cB j) rfl) ?_)))
 obtain rfl := sj Q
 exact L _ _ ⟨_, (d.je (Db (Db St))), rfl⟩
theorem D7 (j : Value) (t : List jb) (c : jb) (r : Int) (w : World) (g : Sl (Pl jg) 9 (hp w) j t) (hm : wh t c = some r) :
  jJ true pg0 248 [j, (.agg (jg c).toArray)] w (.int .i64 r) := by
 refine cG 19 func248 rfl (fun d => sg (VE (jU d rfl (fun Q J d => Wa (lS (Wm (V (kj aJ rfl g) (Wm (ln ?_)))))))))
 refine km (fun i E W => ∃ k, (E 8 = .int .i64 (i : Nat) ∧ E 7 = .int .i64 (t.length : Nat)) ∧ ST true jT w W (hp w) ((J, Ol (jg c) 108) :: k) ∧ E 0 = j ∧ E 3 = (.pointer (some ⟨J, 0, none⟩)) ∧ pt c (t.drop i) i = some r) t.length g.len ⟨_, ⟨rfl, rfl⟩, (d.je St), rfl, rfl, hm⟩ dc dc dc (fun _ _ _ h => by obtain ⟨_, o, _⟩ := h; exact o) ?_ ?_
 ·rintro K E W B ⟨k, ⟨n, q⟩, d, u, x, a⟩
  obtain ⟨y, M, H, G, I⟩ := jY B
  rw [H] at a
  refine bg (Wh n (Wa (ln (jo ?_))))
  replace d := d.drew
  have m := d.has.je (Kb Sn)
  refine ko m jP (XH 0 rfl m (fun _ p => jf x (jm p Mh (jg c) rfl aT an)) (X 1 rfl m (jl u) (X 2 rfl m (jl rfl) (XQ 3 rfl m (kC (enc := jg) (i := (K : Int)) (x0 := y) aJ an rfl rfl g (ak _) G) (fun N D => XH 4 rfl m (fun _ p => jf rfl (kG p D aT an)) (X 5 rfl m (uL rfl rfl (lN gP) (qK (Bm _ c y))) (kz kr (jj (CI a rfl (fun z a => ?_) (fun z a => ?_))))))))))
  ·refine sg (Wm (Wa (ln ?_)))
   replace d := d.je (Db St)
   refine jN (kH (jE (kH (jE ?_))))
   obtain rfl := sj a
   exact rP d
  exact jW (jV (jj ⟨n, _, ⟨rfl, q⟩, (d.je St), u, x, (by rw [I]; exact a)⟩))
 rintro E W ⟨k, ⟨n, q⟩, d, u, x, a⟩
 rw [ap] at a
 refine jj ?_
 replace d := d.je (Db St)
 exact sg (Wa (lt (rQ a d)))
theorem B5 (a : Value) (g : List jb) (c : jb) (r : Bool) (w : World) (i : Sl (Pl jg) 9 (hp w) a g) (hm : uF g c = some r) :
  jJ true pg0 201 [a, (.agg (jg c).toArray)] w (.bool r) := by
 refine cG 9 func201 rfl (fun d => sg (VE (jU d rfl (fun k u d => Wa (lr (Wm (VA d Mh (jg c) aT an (bS hm fun x j hm => VE (Eg d call248 (D7 a g c _ _ (i.mono (Pl.mono _) d.ju) j) (fun t d => Wi rfl (Wa ?_)))))))))))
 refine ln ?_
 exact jN (rQ hm d)
theorem GU (a : Value) (g : List jb) (c : jb) (r : Bool) (w : World) (i : Sl (Pl jg) 9 (hp w) a g) (hm : xd g c = some r) :
  jJ true pg0 151 [a, (.agg (jg c).toArray)] w (.bool r) := by
 refine cG 8 func151 rfl (fun d => sg (VE (jU d rfl (fun k u d => Wa (lr (Wm (VA d Mh (jg c) aT an (bS hm fun x j hm => VE (Eg d call201 (B5 a g c _ _ (i.mono (Pl.mono _) d.ju) j) (fun t d => Wa (jH ?_)))))))))))
 refine jj ?_
 exact jN (rQ hm d)
theorem KW (a : jb) (r : List ja) (w : World) (hm : yt a = some r) :
  kw true pg0 52 [(.agg (jg a).toArray)] w 28 jc 2 r := by
 refine vi 27 func52 rfl (fun d => sg (VE (jU d rfl (fun W2 m d => Wa (lS (VA d Mh (jg a) aT an (bS hm fun r3 q hm => VE (Eg d iM (rU a _ _  q) (fun W5 d => V (lM rfl) (jH ?_))))))))))
 refine jj (CI hm rfl (fun o hm => ?_) (fun o hm => ?_))
 ·refine sg (Wa (ln ?_))
  replace d := d.je (Db St)
  refine jN (jE ?_)
  obtain rfl := sj hm
  exact jR (v := (.slice none 0 0)) rfl rfl ⟨_, [], rfl, d.lU (fun p h => by cases h) (by simp), jy.nil _ _ _⟩
 refine kg (Wf mJ (VA d Mh (jc a.Head) au ag (VE (kh (cs := (jc a.Head).toArray) d (mf rfl) (mn al ag bj) (fun W8 y d => Wa (ln (jo (CJ hm (fun I E W => ∃ j i z, ST true jT w W (hp w) ((m, Ol (jg a) 108) :: (i ++ z)) ∧ E 1 = (.pointer (some ⟨m, 0, none⟩)) ∧ E 3 = j ∧ jy 28 jc 2 j I i) (fun I g => ?_) ?_))))))))
 ·refine sg (Wf mh (VB d (Mt Mh) rfl rfl bl (Wi rfl (ln (CI g rfl (fun Q g => ?_) (fun Q g => ?_))))))
  ·refine jk (Wm (Wf lm (VA d (Mt Mh) (jc a.B) au ag (VE (kh (cs := (jc a.B).toArray) d (mf rfl) (mn al ag bj) (fun L a4 d => ?_))))))
   replace d := d.perm (Nb (Pb Pz) Nz)
   refine bS g fun c0 T g => VE (lC (enc := jc) (v := (.slice (some ⟨y, 0, none⟩) 1 1)) (vs := (.slice (some ⟨a4, 0, none⟩) 1 1)) (R := [(y, Ol (jc a.Head) 28)]) d lx dc lf al mW.1 mW.2.1 rfl mW.2.2.1 mW.2.2.2 rfl rfl (jy.lit (l := [a.Head]) (enc := jc) rfl dc rfl rfl) (Sl.lit (enc := jc) (l := [a.B]) lx rfl nb rfl (d.at_ (Mt Mh))) T (fun O a9 n d K => Wa (ln ?_)))
   obtain rfl := sj g
   exact ⟨a9, n, _, (d.je (Sb (Pr (Pb Pz)) (Kr (Db St)))), rfl, rfl, K⟩
  refine kn ?_
  obtain rfl := sj g
  replace d := d.Ug
  exact ⟨(.slice (some ⟨y, 0, none⟩) 1 1), [(y, Ol (jc a.Head) 28)], _, (d.je (Sb (Pr Pz) St)), rfl, rfl, (jy.lit (l := [a.Head]) (enc := jc) rfl dc rfl rfl)⟩
 rintro P E W ⟨j, i, z, d, D, G, u⟩ U
 refine jo (CJ U (fun H E W => ∃ t k B, ST true jT w W (hp w) (k ++ B) ∧ E 3 = t ∧ jy 28 jc 2 t H k) (fun H c => ?_) ?_)
 ·refine sg (V (jh mh D) (VB d Mh rfl rfl bl (Wi rfl (ln (CI c rfl (fun M c => ?_) (fun M c => ?_))))))
  ·refine jk (Wh G (V (jh ou D) (VA d Mh (jc a.C) au ag (VE (kh (cs := (jc a.C).toArray) d (mf rfl) (mn al ag bj) (fun A a3 d => ?_))))))
   replace d := d.perm (Nr (Qb (Qb Qz)) Nz)
   refine bS c fun b9 N c => VE (lC (enc := jc) (v := j) (vs := (.slice (some ⟨a3, 0, none⟩) 1 1)) (R := i) d lx dc lf al mW.1 mW.2.1 rfl mW.2.2.1 mW.2.2.2 rfl rfl u (Sl.lit (enc := jc) (l := [a.C]) lx rfl nb rfl (d.at_ (Ma Mh))) N (fun F s Z d J => Wa (ln ?_)))
   obtain rfl := sj c
   exact ⟨s, Z, _, (d.je (Kr (Db (Db St)))), rfl, J⟩
  refine kn ?_
  obtain rfl := sj c
  exact ⟨j, i, _, (d.je (Db St)), G, u⟩
 rintro b6 E W ⟨t, k, B, d, a5, x⟩ Y
 refine sg (Wh a5 (Wa (lt ?_)))
 obtain rfl := sj Y
 exact jR (v := t) rfl rfl ⟨_, k, rfl, d.lU (fun p h => (Ml h)) x.nd, x⟩
theorem DE (M : Nat) (u : Value) (a9 : List (ja × (List (ByteArray × Bool)))) (G : LO) (D : Value) (a0 : List jb) (B : LO) (a : Value) (Y : List (ja × (List jb))) (I : LO) (c : Value) (K : List (ByteArray × (List jb))) (t : LO) (j : Value) (a4 : List jd) (y : LO) (J : Int) (H : jb) (r : ((List jb) × (List (ja × (List jb))) × (List (ByteArray × (List jb))))) (w : World) {μ0 : jF} (h0 : na μ0 ((M, Ob #[u, D, a, c, j, (.int .i64 J)] 174) :: (G ++ (B ++ (I ++ (t ++ (y ++ [])))))) w) (e9 : kU (fun (x : ja) => (.agg (jc x).toArray)) (kE Value.string (fun (x : Bool) => (Value.bool x))) u a9 G) (a6 : jy 108 jg 9 D a0 B) (b2 : kU (fun (x : ja) => (.agg (jc x).toArray)) (jy 108 jg 9) a Y I) (T : kU Value.string (jy 108 jg 9) c K t) (e1 : pk 38 jw 3 j a4 y) (hm : sP a9 a0 Y K a4 J H = some r) :
  ki true pg0 171 [(.pointer (some ⟨M, 0, none⟩)), (.agg (jg H).toArray)] w ((M, Ob #[u, D, a, c, j, (.int .i64 J)] 174) :: (G ++ (B ++ (I ++ (t ++ (y ++ [])))))) (fun v L1 W' => ∃ y1 S2 S4 S6, v = (.tuple #[]) ∧ L1 = ((M, Ob #[u, y1, a, c, j, (.int .i64 J)] 174) :: (G ++ (S2 ++ (S4 ++ (S6 ++ (y ++ [])))))) ∧ jy 108 jg 9 y1 r.1 S2 ∧ kU (fun (x : ja) => (.agg (jc x).toArray)) (jy 108 jg 9) a r.2.1 S4 ∧ kU Value.string (jy 108 jg 9) c r.2.2 S6) := by
 refine vg h0 55 func171 rfl (fun d => sg (VE (jU d rfl (fun W2 b1 d => ln (jo ?_)))))
 replace d := d.drew
 have m := d.has.je (Kb Sn)
 have n := d.has.je (Db (Kb Sn))
 refine ya 10 m n jP (lT 0 rfl kr (.inl rfl) rfl dc (fun _ _ h => ⟨h.1, oF br h.2⟩) ⟨m, fun _ => n⟩ (fun _ _ _ _ => jl rfl) (lT 1 rfl kr (.inl rfl) rfl dc (fun _ _ h => ⟨h.1, oF br h.2⟩) ⟨m, fun _ => n⟩ (fun _ _ _ _ => jl rfl) (lT 2 rfl kr (.inl rfl) rfl dc (fun _ _ h => ⟨h.1, oF br h.2⟩) ⟨m, fun _ => n⟩ (fun _ _ _ _ => kJ rfl) (lT 3 rfl kr (.inl rfl) rfl dc (fun _ _ h => ⟨h.1, oF br h.2⟩) ⟨m, fun _ => n⟩ (fun _ _ _ _ => jh HR rfl) (lT 4 rfl kr (.inl rfl) rfl dc (fun _ _ h => ⟨h.1, oF br h.2⟩) ⟨m, fun _ => n⟩ (fun l W q s => have p := (s.2 (q.Mz 10 [4] kr rfl)); jf rfl (jq p Mh rfl isAgg22)) (lT 5 rfl kr (.inl rfl) rfl dc (fun _ _ h => ⟨h.1, oF br h.2⟩) ⟨m, fun _ => n⟩ (fun l W q s => have p := s.1; jf rfl (jm p Mh (jg H) rfl aT an)) (XE 6 rfl (kh (cs := (jg H).toArray) d (mf rfl) (mn aJ an bh) (fun k0 g0 d => ?_)))))))))
 have m := d.has.je (Db (Kb Sn))
 have n := d.has.je (Db (Db (Kb Sn)))
 refine ⟨⟨m, fun _ => n⟩, ?_⟩
 replace d := d.perm (Nr (Qb (Qb (Qb (Qr Qz)))) Nz)
 refine bS hm fun a5 f0 hm => XE 7 rfl (lC (enc := jg) (v := D) (vs := (.slice (some ⟨g0, 0, none⟩) 1 1)) (R := B) d lz dc mo aJ qM.1 qM.2.1 rfl qM.2.2.1 qM.2.2.2 rfl rfl a6 (Sl.lit (enc := jg) (l := [H]) lz rfl nb rfl (d.at_ (Ma Mh))) f0 (fun k1 k4 b7 d P => ?_))
 have m := d.has.je (Dr (Db (Kb Sn)))
 have n := d.has.je (Dr (Db (Db (Kb Sn))))
 refine ⟨⟨m, fun _ => n⟩, (lT 8 rfl kr (.inl rfl) rfl dc (fun _ _ h => ⟨h.1, oF br h.2⟩) ⟨m, fun _ => n⟩ (fun _ _ _ _ => kJ rfl) (lT 9 rfl kr (.inl rfl) rfl dc (fun _ _ h => ⟨h.1, oF br h.2⟩) ⟨m, fun _ => n⟩ (fun _ _ _ _ => jh HR rfl) ?_))⟩
 obtain ⟨a8, b0, rfl⟩ := P.form
 let A : Value := (.slice a8 a5.length b0)
 replace d := d.perm (Nb (Pr (Pb (Pb Pz))) Nz)
 refine XO 10 rfl (jD A (#[u, A, a, c, j, (.int .i64 J)]) d rfl rfl sizeOf22 oc nb rfl (fun k2 d => ?_))
 have m := d.has.je (Db (Dr (Db (Kb Sn))))
 refine ⟨⟨m, fun h => JX kr h⟩, (kz kr (jj ?_))⟩
 replace d := d.je (Kb (Kr (Db St)))
 refine jo (sg (VA d (Mt (Ma Mh)) (jg H) aT an (bS hm fun c1 f1 hm => VE (rC d call52 (KW H _ _  f1) (fun k3 k5 k6 j9 d g4 ad e8 => ?_)))))
 let b8 := (c1.drop (Int.toNat 1))
 obtain ⟨g3, d, g7, af, f2⟩ := ST.xP d e8 lx
 refine bS hm fun _ b9 hm => VQ (Cj (i := 1) al ag rfl rfl f2 (qc b9) (qb b9)) (fun g1 b6 => V (kj al rfl b6.1) (Wm (ln (km (fun i E W => ∃ a3 U L, (E 20 = .int .i64 (i : Nat) ∧ E 19 = .int .i64 (b8.length : Nat)) ∧ ST true (keys ((M, Ob #[u, D, a, c, j, (.int .i64 J)] 174) :: (G ++ (B ++ (I ++ (t ++ (y ++ []))))))) w W g3 ((M, Ob #[u, A, a, c, j, (.int .i64 J)] 174) :: ((b1, Ol (jg H) 108) :: (U ++ (b7 ++ (G ++ (t ++ (y ++ L))))))) ∧ E 0 = (.pointer (some ⟨M, 0, none⟩)) ∧ E 3 = (.pointer (some ⟨b1, 0, none⟩)) ∧ E 18 = g1 ∧ kU (fun (x : ja) => (.agg (jc x).toArray)) (jy 108 jg 9) a a3 U ∧ nF H K a5 (b8.drop i) a3 = some r) b8.length b6.1.len ⟨Y, I, _, ⟨rfl, rfl⟩, (d.je (Kb (Sb (Pr Pz) (Sr (Qr (Qr Qz)) St)))), rfl, rfl, rfl, b2, hm⟩ dc dc dc (fun _ _ _ h => by obtain ⟨_, _, _, ab, _⟩ := h; exact ab) ?_ ?_))))
 ·rintro f3 E W d3 ⟨a3, U, L, ⟨eI, eN⟩, d, a2, N, O, Z, g⟩
  obtain ⟨Q, h4, d8, d7, d9⟩ := jY d3
  rw [d8] at g
  refine bg (VQ (kC (enc := jc) (i := (f3 : Int)) (x0 := Q) al ag O eI b6.1 (ak _) d7) (fun j4 d4 => V (jf rfl (kG d.has d4 au ag)) (VE (kl d bj (fun i1 j0 d => VO (jD (.agg (jc Q).toArray) ((jc Q).toArray) d rfl rfl ag (lf Q) nb rfl (fun i2 d => ln ?_)))))))
  replace d := d.drew
  have m := d.has.je (Kb (Kb (Kb Sn)))
  refine ko m jP (X 0 rfl m (jl a2) (X 1 rfl m (kJ rfl) (X 2 rfl m (jh MC rfl) (XH 3 rfl m (fun _ p => jf rfl (jq p (Mt Mh) rfl isAgg171)) (XH 4 rfl m (fun _ p => jf rfl (jm p Mh (jc Q) rfl au ag)) (XH 5 rfl m (fun _ p => jf N (jm p (Mt (Mt Mh)) (jg H) rfl aT an)) (XE 6 rfl (kh (cs := (jg H).toArray) d (mf rfl) (mn aJ an bh) (fun i3 e6 d => ?_)))))))))
  have m := d.has.je (Db (Kb (Kb (Kb Sn))))
  refine ⟨m, ?_⟩
  obtain ⟨h1, d1⟩ := Z
  replace d := d.perm (Nr (Qb (Qb (Qb (Qb Qz)))) Nz)
  refine XE 7 rfl (M7 (k := Q) (x0 := [])  jB Aa underlying171 iY (jy.nil _ _ _) d d1 rfl rfl (fun i4 f5 h3 h6 e2 d c3 c2 => ?_))
  have m := d.has.je (Dr (Dr (Db (Kb (Kb (Kb Sn))))))
  refine ⟨m, (X 8 rfl m (zY rfl rfl) (X 10 rfl m (zY rfl rfl) ?_))⟩
  replace d := d.perm (Nr (Qr Qz) Nz)
  refine bS g fun c0 c8 g => XE 9 rfl (lC (enc := jg) (v := f5) (vs := (.slice (some ⟨e6, 0, none⟩) 1 1)) (R := e2) d lz dc mo aJ qM.1 qM.2.1 rfl qM.2.2.1 qM.2.2.2 rfl rfl c3 (Sl.lit (enc := jg) (l := [H]) lz rfl nb rfl (d.at_ (Ma (Ma Mh)))) c8 (fun i5 j5 h7 d c4 => ?_))
  have m := d.has.je (Dr (Dr (Db (Kb (Kb (Kb Sn))))))
  refine ⟨m, ?_⟩
  replace d := d.perm (Nr (Qr Qz) Nz)
  refine XO 11 rfl (KP (e := 0) (z := c0)  jB Aa d c2 rfl rfl rfl c4 (fun i6 h2 e3 d c5 => ?_))
  have m := d.has.je (Dr (Db (Kb (Kb (Kb Sn)))))
  refine ⟨m, (kz kr (jV (jj ?_)))⟩
  replace d := d.je (Kr (Db (Db St)))
  exact ⟨eI, (mC jt a3 Q c0), e3, _, ⟨rfl, eN⟩, (d.je (Sb (Pr Pz) (Sb (Pr Pz) St))), a2, N, O, c5.e, (by rw [d9]; exact g)⟩
 rintro E W ⟨a3, U, L, ⟨eI, eN⟩, d, a2, N, O, Z, g⟩
 rw [ap] at g
 refine jj (sg (V (jh mh N) (VB d (Mt Mh) rfl rfl bl (Wi rfl (ln (CI g rfl (fun c9 g => ?_) (fun c9 g => ?_)))))))
 ·replace d := d.drew
  have m := d.has.je (Kb (Kb Sn))
  have n := d.has.je (Db (Db (Dr (Dr (Dr (Kr Sn))))))
  refine ya 15 m n jP (lT 0 rfl kr (.inl rfl) rfl dc (fun _ _ h => ⟨h.1, oF br h.2⟩) ⟨m, fun _ => n⟩ (fun _ _ _ _ => jl a2) (lT 1 rfl kr (.inl rfl) rfl dc (fun _ _ h => ⟨h.1, oF br h.2⟩) ⟨m, fun _ => n⟩ (fun _ _ _ _ => kJ rfl) (lT 2 rfl kr (.inl rfl) rfl dc (fun _ _ h => ⟨h.1, oF br h.2⟩) ⟨m, fun _ => n⟩ (fun _ _ _ _ => jh HL rfl) (lT 3 rfl kr (.inl rfl) rfl dc (fun _ _ h => ⟨h.1, oF br h.2⟩) ⟨m, fun _ => n⟩ (fun l W q s => have p := s.1; jf rfl (jq p Mh rfl isAgg172)) (lT 4 rfl kr (.inl rfl) rfl dc (fun _ _ h => ⟨h.1, oF br h.2⟩) ⟨m, fun _ => n⟩ (fun _ _ _ _ => jh pX N) (lT 5 rfl kr (.inl rfl) rfl dc (fun _ _ h => ⟨h.1, oF br h.2⟩) ⟨m, fun _ => n⟩ (fun l W q s => have p := s.1; jf rfl (jq p (Mt Mh) rfl aG)) (lT 6 rfl kr (.inl rfl) rfl dc (fun _ _ h => ⟨h.1, oF br h.2⟩) ⟨m, fun _ => n⟩ (fun _ _ _ _ => jl a2) (lT 7 rfl kr (.inl rfl) rfl dc (fun _ _ h => ⟨h.1, oF br h.2⟩) ⟨m, fun _ => n⟩ (fun _ _ _ _ => kJ rfl) (lT 8 rfl kr (.inl rfl) rfl dc (fun _ _ h => ⟨h.1, oF br h.2⟩) ⟨m, fun _ => n⟩ (fun _ _ _ _ => jh HL rfl) (lT 9 rfl kr (.inl rfl) rfl dc (fun _ _ h => ⟨h.1, oF br h.2⟩) ⟨m, fun _ => n⟩ (fun l W q s => have p := s.1; jf rfl (jq p Mh rfl isAgg172)) (lT 10 rfl kr (.inl rfl) rfl dc (fun _ _ h => ⟨h.1, oF br h.2⟩) ⟨m, fun _ => n⟩ (fun _ _ _ _ => jh pX N) (lT 11 rfl kr (.inl rfl) rfl dc (fun _ _ h => ⟨h.1, oF br h.2⟩) ⟨m, fun _ => n⟩ (fun l W q s => have p := s.1; jf rfl (jq p (Mt Mh) rfl aG)) ?_))))))))))))
  obtain ⟨e0, F⟩ := T
  obtain ⟨h8, g8, g9⟩ := lJ.rowAt kK.1 F H.kk
  refine lT 12 rfl kr (.inl rfl) rfl dc (fun _ _ h => ⟨h.1, oF br h.2⟩) ⟨m, fun _ => n⟩ (fun l W q s => have p := (s.2 (q.Mz 15 [12] kr rfl)); ow (k := H.kk) (z := (.slice none 0 0)) Hc underlying172 iY rfl rfl F (fun b o hq => p.2 b o (Ml hq))) (lT 13 rfl kr (.inl rfl) rfl dc (fun _ _ h => ⟨h.1, oF br h.2⟩) ⟨m, fun _ => n⟩ (fun l W q s => have p := s.1; jf N (jm p (Mt Mh) (jg H) rfl aT an)) (XE 14 rfl (kh (cs := (jg H).toArray) d (mf rfl) (mn aJ an bh) (fun i7 e7 d => ?_))))
  have m := d.has.je (Db (Kb (Kb Sn)))
  have n := d.has.je (Db (Db (Db (Dr (Dr (Dr (Kr Sn)))))))
  refine ⟨⟨m, fun _ => n⟩, ?_⟩
  replace d := d.perm (Nr (Qb (Qb (Qb (Qr (Qr (Qr Qz)))))) Nz)
  obtain ⟨h9, e4, d5, d6, d2⟩ := lJ.open kK.1 (jy.nil _ _ _) F H.kk
  replace d := d.perm (Us d5)
  replace d := d.perm (Nr (Qr Qz) Nz)
  refine bS g fun f4 d0 g => XE 15 rfl (lC (enc := jg) (v := (qP ke e0 H.kk (.slice none 0 0))) (vs := (.slice (some ⟨e7, 0, none⟩) 1 1)) (R := e4) d lz dc mo aJ qM.1 qM.2.1 rfl qM.2.2.1 qM.2.2.2 rfl rfl d6 (Sl.lit (enc := jg) (l := [H]) lz rfl nb rfl (d.at_ (Ma (Ma Mh)))) d0 (fun i8 j6 i0 d c6 => ?_))
  have m := d.has.je (Dr (Dr (Db (Kb (Kb Sn)))))
  refine ⟨⟨m, fun h => JX kr h⟩, ?_⟩
  replace d := d.perm (Nr (Qr Qz) Nz)
  refine XO 16 rfl (RJ (k := H.kk) (z := f4)  Hc underlying172 d d2 rfl rfl rfl c6 (fun i9 e5 d c7 => ?_))
  have m := d.has.je (Dr (Db (Kb (Kb Sn))))
  refine ⟨⟨m, fun h => JX kr h⟩, (kz kr (tI ?_))⟩
  obtain rfl := sj g
  exact sI rfl ⟨_, _, rfl, (d.kF (Sb (Pr (Pb Pz)) (Sr (Qr (Qb (Qb (Qr (Qr Qz))))) (Sr (Qr (Qb (Qb (Qr Qz)))) (Sr (Qr (Qb (Qb Qz))) (Kr (Db (Db (Kr Sn))))))))), A, b7, U, e5, rfl, rfl, P, Z, c7.e⟩
 refine jW (tI ?_)
 obtain rfl := sj g
 exact sI rfl ⟨_, _, rfl, (d.kF (Kb (Db (Sr (Qr (Qr Qz)) (Sr (Qr Qz) (Kr (Kr (Kr Sn)))))))), A, b7, U, t, rfl, rfl, P, Z, T⟩
theorem qo (J : Nat) (g : Value) (a0 : List (ja × (List (ByteArray × Bool)))) (D : LO) (a : Value) (M : List jb) (u : LO) (j : Value) (Z : List (ja × (List jb))) (B : LO) (c : Value) (N : List (ByteArray × (List jb))) (y : LO) (i : Value) (Y : List jd) (t : LO) (H : Int) (G : ja) (U : ByteArray) (r : ((List (ja × (List (ByteArray × Bool)))) × (List jd) × Int)) (w : World) {μ0 : jF} (h0 : na μ0 ((J, Ob #[g, a, j, c, i, (.int .i64 H)] 174) :: (D ++ (u ++ (B ++ (y ++ (t ++ [])))))) w) (a5 : kU (fun (x : ja) => (.agg (jc x).toArray)) (kE Value.string (fun (x : Bool) => (Value.bool x))) g a0 D) (b5 : jy 108 jg 9 a M u) (c3 : kU (fun (x : ja) => (.agg (jc x).toArray)) (jy 108 jg 9) j Z B) (b6 : kU Value.string (jy 108 jg 9) c N y) (K : pk 38 jw 3 i Y t) (hm : mO a0 M Z N Y H G U = some r) :
  ki true pg0 209 [(.pointer (some ⟨J, 0, none⟩)), (.agg (jc G).toArray), (.string U)] w ((J, Ob #[g, a, j, c, i, (.int .i64 H)] 174) :: (D ++ (u ++ (B ++ (y ++ (t ++ [])))))) (fun v L1 W' => ∃ S1 y3 S4, v = (.tuple #[]) ∧ L1 = ((J, Ob #[g, a, j, c, y3, (.int .i64 (r.2.2))] 174) :: (S1 ++ (u ++ (B ++ (y ++ (S4 ++ [])))))) ∧ kU (fun (x : ja) => (.agg (jc x).toArray)) (kE Value.string (fun (x : Bool) => (Value.bool x))) g r.1 S1 ∧ pk 38 jw 3 y3 r.2.1 S4) := by
 let O := (#[g, a, j, c, i, (.int .i64 H)] : Array Value)
 refine vg h0 53 func209 rfl (fun m => sg (VE (jU m rfl (fun W2 b1 m => ln (jo (jo ?_))))))
 replace m := m.drew
 have d := m.has.je (Kb (Kb (Kr Sn)))
 refine ko d jP (X 0 rfl d (jl rfl) (X 1 rfl d (kJ rfl) (X 2 rfl d (jh wX rfl) (XH 3 rfl d (fun _ p => jf rfl (jq p (Mt Mh) rfl gi)) (XH 4 rfl d (fun _ p => jf rfl (jm p Mh (jc G) rfl au ag)) ?_)))))
 obtain ⟨f4, Q⟩ := a5
 refine XH 5 rfl d (fun _ p => ow (k := G) (z := (.map none)) Aa dq dO rfl rfl Q (fun b o A => p.2 b o (Mt (Mt (Ml A))))) (X 6 rfl d (jl rfl) (XH 7 rfl d (fun _ p => ve (k := U) (z := false) (vf := (fun (x : Bool) => (Value.bool x))) Hc dS fe rfl rfl (lJ.Dx (μ := hp _) jB.1 Q G (fun b o A => p.2 b o (Mt (Mt (Ml A)))))) (kz kr (jj (CI hm rfl (fun d5 hm => ?_) (fun d5 hm => ?_))))))
 ·refine jN (jE ?_)
  obtain rfl := sj hm
  exact sI rfl ⟨_, _, rfl, (m.kF (Db (Kb (Kr (Kr (Kr (Kr (Kr Sn)))))))), D, i, t, rfl, rfl, Q.e, K⟩
 refine kn (jo (CJ hm (fun b2 E W => ∃ L c0, ST true (keys ((J, Obj.cells O 174 (0, 0)) :: (D ++ (u ++ (B ++ (y ++ (t ++ []))))))) w W μ0 ((b1, Ol (jc G) 28) :: ((J, Obj.cells O 174 (0, 0)) :: (L ++ (u ++ (B ++ (y ++ (t ++ c0))))))) ∧ E 0 = (.pointer (some ⟨J, 0, none⟩)) ∧ E 2 = (.string U) ∧ E 4 = (.pointer (some ⟨b1, 0, none⟩)) ∧ kU (fun (x : ja) => (.agg (jc x).toArray)) (kE Value.string (fun (x : Bool) => (Value.bool x))) g b2 L) (fun b2 I => ?_) ?_))
 ·refine jo ?_
  replace m := m.drew
  have d := m.has.je (Kb (Kb (Kr Sn)))
  refine ko d jP (X 0 rfl d (jl rfl) (X 1 rfl d (kJ rfl) (X 2 rfl d (jh wX rfl) (XH 3 rfl d (fun _ p => jf rfl (jq p (Mt Mh) rfl gi)) (XH 4 rfl d (fun _ p => jf rfl (jm p Mh (jc G) rfl au ag)) (XH 5 rfl d (fun _ p => ow (k := G) (z := (.map none)) Aa dq dO rfl rfl Q (fun b o A => p.2 b o (Mt (Mt (Ml A))))) (X 6 rfl d (Lp jB.1 dS Q rfl rfl) (kz kr (jj (CI I rfl (fun b7 I => ?_) (fun b7 I => ?_)))))))))))
  ·replace m := m.drew
   have d := m.has.je (Kb (Kb Sn))
   refine ko d jP (X 0 rfl d (jl rfl) (X 1 rfl d (kJ rfl) (X 2 rfl d (jh wX rfl) (XH 3 rfl d (fun _ p => jf rfl (jq p (Mt Mh) rfl gi)) (XH 4 rfl d (fun _ p => jf rfl (jm p Mh (jc G) rfl au ag)) (XE 5 rfl (BD (P := pg0) Value.string (fun (x : Bool) => (Value.bool x)) m (fun e1 e7 d9 m b3 => ?_))))))))
   have d := m.has.je (Dr (Kb (Kb Sn)))
   refine ⟨d, ?_⟩
   replace m := m.perm (Nr (Qr (Qb (Qb Qz))) Nz)
   refine bS I fun e4 b9 I => XO 6 rfl (O4 (k := G) (z := ([]))  Aa dq m Q rfl rfl rfl b3 b9 (fun e2 c4 m b4 => ?_))
   have d := m.has.je (Dr (Kb (Kb Sn)))
   refine ⟨d, (kz kr (jj ?_))⟩
   obtain rfl := sj I
   exact ⟨c4, _, (m.je (Sb (Pr Pz) (Sb (Pr Pz) St))), rfl, rfl, rfl, b4.e⟩
  refine kn ?_
  obtain rfl := sj I
  exact ⟨D, _, (m.je St), rfl, rfl, rfl, Q.e⟩
 rintro f2 E W ⟨L, c0, m, F, c1, c2, c8⟩ T
 refine jo ?_
 replace m := m.drew
 have d := m.has.je (Kb (Kb Sn))
 have n := m.has.je (Db (Db (Kr Sn)))
 refine ya 7 d n jP (lT 0 rfl kr (.inl rfl) rfl dc (fun _ _ h => ⟨h.1, oF br h.2⟩) ⟨d, fun _ => n⟩ (fun _ _ _ _ => jl F) (lT 1 rfl kr (.inl rfl) rfl dc (fun _ _ h => ⟨h.1, oF br h.2⟩) ⟨d, fun _ => n⟩ (fun _ _ _ _ => kJ rfl) (lT 2 rfl kr (.inl rfl) rfl dc (fun _ _ h => ⟨h.1, oF br h.2⟩) ⟨d, fun _ => n⟩ (fun _ _ _ _ => jh wX rfl) (lT 3 rfl kr (.inl rfl) rfl dc (fun _ _ h => ⟨h.1, oF br h.2⟩) ⟨d, fun _ => n⟩ (fun l W q s => have p := s.1; jf rfl (jq p (Mt Mh) rfl gi)) (lT 4 rfl kr (.inl rfl) rfl dc (fun _ _ h => ⟨h.1, oF br h.2⟩) ⟨d, fun _ => n⟩ (fun l W q s => have p := s.1; jf c2 (jm p Mh (jc G) rfl au ag)) ?_)))))
 obtain ⟨e5, a9⟩ := c8
 refine lT 5 rfl kr (.inl rfl) rfl dc (fun _ _ h => ⟨h.1, oF br h.2⟩) ⟨d, fun _ => n⟩ (fun l W q s => have p := (s.2 (q.Mz 7 [5] kr rfl)); ow (k := G) (z := (.map none)) Aa dq dO rfl rfl a9 (fun b o A => p.2 b o (Ml A))) (lT 6 rfl kr (.inl rfl) rfl dc (fun _ _ h => ⟨h.1, oF br h.2⟩) ⟨d, fun _ => n⟩ (fun _ _ _ _ => jl c1) ?_)
 replace m := m.perm (Nr (Qb (Qb Qz)) Nz)
 refine bS T fun f3 c7 T => XO 7 rfl (NK (k := G) (v := true) (vf := (fun (x : Bool) => (Value.bool x)))  jB.1 Hc dS m a9 rfl rfl rfl c7 (fun e8 c9 m c5 => ?_))
 have d := m.has.je (Dr (Kb (Kb Sn)))
 refine ⟨⟨d, fun h => JX kr h⟩, (kz kr (jj (sg (Wh F (Wn (Wf Fg (VB m (Ma (Mt Mh)) rfl rfl bl (Wi rfl (Wn (Wf Fg ?_))))))))))⟩
 replace m := m.perm (Nb (Pr (Pb Pz)) Nz)
 refine VO (jD (.int .i64 (wi0 .i64 (H + 1))) (#[g, a, j, c, i, (.int .i64 (wi0 .i64 (H + 1)))]) m rfl rfl dg (wj _ (wi0 .i64 (H + 1))) nb rfl (fun e9 m => ln ?_))
 replace m := m.drew
 have d := m.has.je (Db (Dr (Kb Sn)))
 have n := m.has.je (Kb Sn)
 refine ya 12 d n jP (lT 0 rfl kr (.inl rfl) rfl dc (fun _ _ h => ⟨h.1, oF br h.2⟩) ⟨d, fun _ => n⟩ (fun _ _ _ _ => jl F) (lT 1 rfl kr (.inl rfl) rfl dc (fun _ _ h => ⟨h.1, oF br h.2⟩) ⟨d, fun _ => n⟩ (fun _ _ _ _ => jl F) (lT 2 rfl kr (.inl rfl) rfl dc (fun _ _ h => ⟨h.1, oF br h.2⟩) ⟨d, fun _ => n⟩ (fun _ _ _ _ => kJ rfl) (lT 3 rfl kr (.inl rfl) rfl dc (fun _ _ h => ⟨h.1, oF br h.2⟩) ⟨d, fun _ => n⟩ (fun _ _ _ _ => jh AV rfl) (lT 4 rfl kr (.inl rfl) rfl dc (fun _ _ h => ⟨h.1, oF br h.2⟩) ⟨d, fun _ => n⟩ (fun l W q s => have p := (s.2 (q.Mz 12 [4] kr rfl)); jf rfl (jq p Mh rfl isAgg120)) (lT 5 rfl kr (.inl rfl) rfl dc (fun _ _ h => ⟨h.1, oF br h.2⟩) ⟨d, fun _ => n⟩ (fun l W q s => have p := s.1; jf c2 (jm p Mh (jc G) rfl au ag)) (lT 6 rfl kr (.inl rfl) rfl dc (fun _ _ h => ⟨h.1, oF br h.2⟩) ⟨d, fun _ => n⟩ (fun _ _ _ _ => jl c1) (lT 7 rfl kr (.inl rfl) rfl dc (fun _ _ h => ⟨h.1, oF br h.2⟩) ⟨d, fun _ => n⟩ (fun _ _ _ _ => kO (v := (.agg (jw (⟨G, U⟩ : jd)).toArray)) (nB rfl rfl) (ku cx bn (B4 _ bn) kr)) (XE 8 rfl (kh (cs := (jw (⟨G, U⟩ : jd)).toArray) m (mf rfl) (mn bJ bu cx) (fun f0 d4 m => ?_)))))))))))
 have d := m.has.je (Db (Db (Dr (Kb Sn))))
 have n := m.has.je (Db (Kb Sn))
 refine ⟨⟨d, fun _ => n⟩, ?_⟩
 replace m := m.perm (Nr (Qb (Qb (Qr (Qb (Qr (Qr (Qr Qz))))))) Nz)
 refine bS T fun b0 c6 T => XE 9 rfl (Lu (enc := jw) (v := i) (vs := (.slice (some ⟨d4, 0, none⟩) 1 1)) (R := t) m nn dc zk bJ sD.1 sD.2.1 rfl sD.2.2.1 sD.2.2.2 rfl rfl K (Sl.lit (enc := jw) (l := [(⟨G, U⟩ : jd)]) nn rfl nb rfl (m.at_ (Ma Mh))) c6 (fun f1 e6 d0 m a7 => ?_))
 have d := m.has.je (Dr (Db (Db (Dr (Kb Sn)))))
 have n := m.has.je (Dr (Db (Kb Sn)))
 refine ⟨⟨d, fun _ => n⟩, (lT 10 rfl kr (.inl rfl) rfl dc (fun _ _ h => ⟨h.1, oF br h.2⟩) ⟨d, fun _ => n⟩ (fun _ _ _ _ => kJ rfl) (lT 11 rfl kr (.inl rfl) rfl dc (fun _ _ h => ⟨h.1, oF br h.2⟩) ⟨d, fun _ => n⟩ (fun _ _ _ _ => jh AV rfl) ?_))⟩
 obtain ⟨a3, a4, rfl⟩ := a7.form
 let a2 : Value := (.slice a3 b0.length a4)
 replace m := m.perm (Nb (Pr (Pb Pz)) Nz)
 refine XO 12 rfl (jD a2 (#[g, a, j, c, a2, (.int .i64 (wi0 .i64 (H + 1)))]) m rfl rfl sizeOf120 oc nb rfl (fun e0 m => ?_))
 have d := m.has.je (Db (Dr (Db (Dr (Kb Sn)))))
 refine ⟨⟨d, fun h => JX kr h⟩, (kz kr (tI ?_))⟩
 obtain rfl := sj T
 exact sI rfl ⟨_, _, rfl, (m.kF (Kb (Sr (Qr (Qb Qz)) (Sr (Qr (Qb (Qb Qz))) (Sr (Qr (Qb (Qb Qz))) (Sr (Qr (Qb (Qb Qz))) (Kr Sn))))))), c9, a2, d0, rfl, rfl, c5.e, a7⟩
theorem vL (a : Value) (g : List (ByteArray × Bool)) (r : Unit) (w : World) (c : uN Value.string (fun (x : Bool) => (Value.bool x)) (hp w) a g) (hm : nV g = some r) :
  ki true pg0 120 [a] w [] (fun v k W' => ∃ i, v = (.func (.func 183) #[] #[(.pointer (some ⟨i, 0, none⟩))]) ∧ k = ((i, Ob #[a] 175) :: [])) := by
 refine vi 4 func120 rfl (fun d => sg ?_)
 obtain ⟨t, rfl⟩ := c.form
 refine VE (jU d rfl (fun u j d => Wa (lr (V (rF (by exact ny rfl) rfl) (Wa (lt ?_))))))
 obtain rfl := sj hm
 exact jR (v := (.func (.func 183) #[] #[(.pointer (some ⟨j, 0, none⟩))])) rfl rfl ⟨_, _, rfl, (d.J3 (Kb Sn)), j, rfl, rfl⟩
theorem HG {β : Type} {vf : β → Value} {l : List (ByteArray × β)} {b : Nat} {a : Value} {W : World} {r : List ByteArray} (c : W.heap[b]? = some (.cells #[a] 175 (0, 0))) (hm : uN Value.string vf (hp W) a l) (hk : GL l = some r) : kw false pg0 119 [.func (.func 183) #[] #[.pointer (some ⟨b, 0, none⟩)]] W 9 mL 1 r := La (P := pg0) QT Rq O3 rfl aP call183 call182 c hm hk
theorem xX (T : Nat) (a : Value) (u : List (ja × (List (ByteArray × Bool)))) (c : Value) (t : List jb) (j : Value) (G : List (ja × (List jb))) (g : Value) (B : List (ByteArray × (List jb))) (i : Value) (D : List jd) (Q : Int) (H : ja) (r : List ByteArray) (w : World) (J : rO (fun (x : ja) => (.agg (jc x).toArray)) (kE Value.string (fun (x : Bool) => (Value.bool x))) (hp w) a u) (Z : Sl (Pl jg) 9 (hp w) c t) (a4 : rO (fun (x : ja) => (.agg (jc x).toArray)) (jy 108 jg 9) (hp w) j G) (a0 : rO Value.string (jy 108 jg 9) (hp w) g B) (a3 : Sl (Pl jw) 3 (hp w) i D) (Y : At (hp w) (.pointer (some ⟨T, 0, none⟩)) [a, c, j, g, i, (.int .i64 Q)]) (hm : pZ u t G B D Q H = some r) :
  kw false pg0 53 [(.pointer (some ⟨T, 0, none⟩)), (.agg (jc H).toArray)] w 9 mL 1 r := by
 refine vi 15 func53 rfl (fun d => sg (VE (jU d rfl (fun W2 W d => Wa (lS (Wm (V (qD underlying101 rfl rfl) (ln (oO rfl ?_)))))))))
 refine kn (jo ?_)
 replace d := d.drew
 have h := d.has.je (Kb Sn)
 refine ko h jP (X 0 rfl h (jl rfl) (X 1 rfl h (kJ rfl) (XQ 2 rfl h (sZ [a] wX rfl Y rfl) (fun b9 F => XH 3 rfl h (fun _ m => jf rfl (lL m (y := a) F gi)) (XH 4 rfl h (fun _ m => jf rfl (jm m Mh (jc H) rfl au ag)) ?_)))))
 obtain ⟨a9, b4, K, M⟩ := J
 refine XH 5 rfl h (fun _ m => ow (k := H) (z := (.map none)) Aa dq dO rfl rfl K (fun b o n => m.1 b o (M b o n))) (bS hm fun c0 L hm => ?_)
 refine XE 6 rfl (FO d (cX _) call120 (fun _ _ _ _ => ki.kI (vL (qP jt a9 H (.map none)) ((kx jt u H).getD []) _ _ ((lJ.Dx jB.1 K H M).mono d.ju) L)) (fun b5 c2 c3 b3 d I s q a5 => ?_) (L0 := []))
 obtain ⟨b7, N, rfl⟩ := a5
 replace N := N.symm; subst N
 replace d := d.perm (Tb Tn)
 have h := d.has.oW I (Db (Kb Sn))
 refine ⟨h, (bS hm fun c1 O hm => XE 7 rfl (rC d call119 (HG (vf := (fun (x : Bool) => (Value.bool x))) (d.has.2 _ _ Mh) ((lJ.Dx jB.1 K H M).mono (fun b o n => d.has.1 b o (I b o n))) O) (fun b6 R c4 P d a2 A U => ?_)))⟩
 have h := d.has.oW (I.trans a2) (Dr (Db (Kb Sn)))
 refine ⟨h, (X 8 rfl h (lO rfl) (kz kr (jj ?_)))⟩
 replace d := d.je (Kr (Db (Db St)))
 refine jN ?_
 obtain rfl := sj hm
 exact jR (v := R) rfl rfl ⟨_, P, rfl, d.lU (fun p n => (Ml n)) U.nd, U⟩
theorem D2 (K : Nat) (g : Value) (N : List (ja × (List (ByteArray × Bool)))) (G : LO) (a : Value) (H : List jb) (k : LO) (j : Value) (J : List (ja × (List jb))) (u : LO) (c : Value) (I : List (ByteArray × (List jb))) (t : LO) (z : Value) (M : List jd) (B : LO) (Z : Int) (F a2 : ja) (r : ((List (ja × (List (ByteArray × Bool)))) × (List jd) × Int)) (w : World) {μ0 : jF} (h0 : na μ0 ((K, Ob #[g, a, j, c, z, (.int .i64 Z)] 174) :: (G ++ (k ++ (u ++ (t ++ (B ++ [])))))) w) (a5 : kU (fun (x : ja) => (.agg (jc x).toArray)) (kE Value.string (fun (x : Bool) => (Value.bool x))) g N G) (Q : jy 108 jg 9 a H k) (a4 : kU (fun (x : ja) => (.agg (jc x).toArray)) (jy 108 jg 9) j J u) (T : kU Value.string (jy 108 jg 9) c I t) (a3 : pk 38 jw 3 z M B) (hm : tP N H J I M Z F a2 = some r) :
  ki false pg0 252 [(.pointer (some ⟨K, 0, none⟩)), (.agg (jc F).toArray), (.agg (jc a2).toArray)] w ((K, Ob #[g, a, j, c, z, (.int .i64 Z)] 174) :: (G ++ (k ++ (u ++ (t ++ (B ++ [])))))) (fun v L1 W' => ∃ S1 y3 S4, v = (.tuple #[]) ∧ L1 = ((K, Ob #[g, a, j, c, y3, (.int .i64 (r.2.2))] 174) :: (S1 ++ (k ++ (u ++ (t ++ (S4 ++ [])))))) ∧ kU (fun (x : ja) => (.agg (jc x).toArray)) (kE Value.string (fun (x : Bool) => (Value.bool x))) g r.1 S1 ∧ pk 38 jw 3 y3 r.2.1 S4) := by
 refine vg h0 21 func252 rfl (fun d => sg (VE (jU d rfl (fun W2 b1 d => VE (jU d rfl (fun W4 b3 d => lr (Wm (VA d (Mt Mh) (jc F) au ag (bS hm fun r5 e6 hm => VE (rC d call53 (xX K g N a H j J c I z M Z F _ _ (a5.at (fun b o m => d.at_ (Mt (Mt (Mt (Ml m)))))) (Q.sl lz (fun b o m => d.at_ (Mt (Mt (Mt (Ma (Ml m))))))) (a4.at (fun b o m => d.at_ (Mt (Mt (Mt (Ma (Ma (Ml m)))))))) (T.at (fun b o m => d.at_ (Mt (Mt (Mt (Ma (Ma (Ma (Ml m))))))))) ((a3.EH nn).mono (Pl.mono _) (zX (fun b o m => d.at_ (Mt (Mt (Mt (Ma (Ma (Ma (Ma (Ml m))))))))))) (At.of (d.at_ (Mt (Mt Mh))) _ rfl) e6) (fun W7 e7 A e2 d f5 ao a9 => V (mw bc rfl a9) (Wm ?_))))))))))))
 refine ln ?_
 replace d := d.je (Kr (Kb (Db St)))
 refine zn (km (fun i E W => ∃ n U a0 q Y s L R, (E 12 = .int .i64 (i : Nat) ∧ E 11 = .int .i64 (r5.length : Nat)) ∧ jC A L ∧ ST false (keys ((K, Ob #[g, a, j, c, z, (.int .i64 Z)] 174) :: (G ++ (k ++ (u ++ (t ++ (B ++ []))))))) w W L ((K, Ob #[g, a, j, c, a0, (.int .i64 s)] 174) :: ((b3, Ol (jc a2) 28) :: (U ++ (k ++ (u ++ (t ++ (Y ++ (e2 ++ R)))))))) ∧ E 0 = (.pointer (some ⟨K, 0, none⟩)) ∧ E 5 = (.pointer (some ⟨b3, 0, none⟩)) ∧ E 10 = e7 ∧ kU (fun (x : ja) => (.agg (jc x).toArray)) (kE Value.string (fun (x : Bool) => (Value.bool x))) g n U ∧ pk 38 jw 3 a0 q Y ∧ px H J I a2 (r5.drop i) n q s = some r) r5.length a9.len ⟨N, G, z, M, B, Z, A, _, ⟨rfl, rfl⟩, (jC.refl _), (d.je (Sb (Pr (Pb Pz)) (Sb (Pr Pz) (Sr (Qr Qz) (Sr (Qr Qz) (Sr (Qr Qz) (Sr (Qr Qz) (Sr (Qr Qz) St)))))))), rfl, rfl, rfl, a5, a3, hm⟩ dc dc dc (fun _ _ _ h => by obtain ⟨_, _, _, _, _, _, _, _, ab, _⟩ := h; exact ab) ?_ ?_)
 ·rintro d8 E W c9 ⟨n, U, a0, q, Y, s, L, R, ⟨eI, eN⟩, b6, d, c0, c1, c2, O, P, D⟩
  obtain ⟨c4, f0, d2, c5, d3⟩ := jY c9
  rw [d2] at D
  refine bg (VQ (lE (i := (d8 : Int)) (x0 := c4) bc cj c2 eI a9 (ak _) c5) (fun f6 d0 => V (jf rfl (uz d.has (fun p m => (Mt (Mt (Ma (Ma (Ma (Ma (Ma (Ml m))))))))) a9 (fun _ => rfl) d0 c5 (y := (.string c4)) rfl aG)) (Wa (ln (jk (Wh c0 (V (jf c1 (jm d.has (Mt Mh) (jc a2) rfl au ag)) (Wm (bS D fun c3 d1 D => ?_)))))))))
  refine VE (eM d (Cb Pz (Cr (Qb Qz) (Cr (Qb Qz) (Cr (Qb Qz) (Cr (Qb Qz) (Cr (Qb Qz) Cn)))))) call209 (fun hh _ => ki.kI (qo K g n U a H k j J u c I t a0 q Y s a2 c4 _ _ hh O Q a4 T P d1)) ?_)
  rintro _ f7 e1 f2 d c7 ad af ⟨d6, e0, d7, b4, rfl, d4, d5⟩
  obtain rfl := b4.symm
  replace d := d.perm (Tb (Tr (Tr (Tr (Tr (Tr Tn))))))
  exact jH (jV (jj ⟨eI, c3.1, d6, e0, c3.2.1, d7, c3.2.2, e1, _, ⟨rfl, eN⟩, (b6.trans c7), (d.je (Kb (Sb (Pr (Pr (Pr (Pr (Pr Pz))))) St))), c0, c1, c2, d4, d5, (by rw [d3]; exact D)⟩))
 rintro E W ⟨n, U, a0, q, Y, s, L, R, ⟨eI, eN⟩, b6, d, c0, c1, c2, O, P, D⟩
 rw [ap] at D
 refine jj ?_
 replace d := d.je (Kb (Db (Kr (Kr (Kr (Kr (Kr (Dr St))))))))
 refine tI ?_
 obtain rfl := sj D
 exact sI rfl ⟨_, _, rfl, (d.kF (Kb (Kr (Kr (Kr (Kr (Kr Sn))))))), U, a0, Y, rfl, rfl, O, P⟩
theorem zg (K : Nat) (G : Value) (Z : List (ja × (List (ByteArray × Bool)))) (D : LO) (g : Value) (I : List jb) (a : LO) (B : Value) (N : List (ja × (List jb))) (y : LO) (i : Value) (J : List (ByteArray × (List jb))) (c : LO) (t : Value) (M : List jd) (j : LO) (a0 : Int) (Q : jb) (a2 : jd) (r : ((List (ja × (List (ByteArray × Bool)))) × (List jd) × Int)) (w : World) {μ0 : jF} (h0 : na μ0 ((K, Ob #[G, g, B, i, t, (.int .i64 a0)] 174) :: (D ++ (a ++ (y ++ (c ++ (j ++ [])))))) w) (U : kU (fun (x : ja) => (.agg (jc x).toArray)) (kE Value.string (fun (x : Bool) => (Value.bool x))) G Z D) (T : jy 108 jg 9 g I a) (a3 : kU (fun (x : ja) => (.agg (jc x).toArray)) (jy 108 jg 9) B N y) (Y : kU Value.string (jy 108 jg 9) i J c) (H : pk 38 jw 3 t M j) (hm : qU Z I N J M a0 Q a2 = some r) :
  ki false pg0 210 [(.pointer (some ⟨K, 0, none⟩)), (.agg (jg Q).toArray), (.agg (jw a2).toArray)] w ((K, Ob #[G, g, B, i, t, (.int .i64 a0)] 174) :: (D ++ (a ++ (y ++ (c ++ (j ++ [])))))) (fun v L1 W' => ∃ S1 y3 S4, v = (.tuple #[]) ∧ L1 = ((K, Ob #[G, g, B, i, y3, (.int .i64 (r.2.2))] 174) :: (S1 ++ (a ++ (y ++ (c ++ (S4 ++ [])))))) ∧ kU (fun (x : ja) => (.agg (jc x).toArray)) (kE Value.string (fun (x : Bool) => (Value.bool x))) G r.1 S1 ∧ pk 38 jw 3 y3 r.2.1 S4) := by
 let A := (#[G, g, B, i, t, (.int .i64 a0)] : Array Value)
 refine vg h0 57 func210 rfl (fun d => sg (VE (jU d rfl (fun W2 F d => VE (jU d rfl (fun W4 O d => lr (Wf mh (VB d (Mt Mh) rfl rfl bl (ln (kV (jo ?_)))))))))))
 refine jk (Wi rfl (Wa (ln (CI hm rfl (fun e5 hm => ?_) (fun e5 hm => ?_)))))
 ·refine jk (Wm (Wf mJ (VA d (Mt Mh) (jc Q.Head) au ag (Wf rV (VB d Mh rfl rfl aG (bS hm fun r6 e6 hm => ?_))))))
  refine VE (eM d (Cb (Pb (Pb Pz)) (Cr (Qb (Qb Qz)) (Cr (Qb (Qb Qz)) (Cr (Qb (Qb Qz)) (Cr (Qb (Qb Qz)) (Cr (Qb (Qb Qz)) Cn)))))) call209 (fun s _ => ki.kI (qo K G Z D g I a B N y i J c t M j a0 Q.Head a2.jL _ _ s U T a3 Y H e6)) ?_)
  rintro _ g7 af f8 d f2 a6 n ⟨d2, e7, d3, a8, rfl, c5, c6⟩
  obtain rfl := a8.symm
  replace d := d.perm (Tb (Tr (Tr (Tr (Tr (Tr Tn))))))
  refine jH (jV (tI ?_))
  obtain rfl := sj hm
  exact sI rfl ⟨_, _, rfl, (d.kF (Kb (Kr (Kr (Kr (Kr (Kr Sn))))))), d2, e7, d3, rfl, rfl, c5, c6⟩
 refine sg (Wi rfl (Wa (ln (CI hm rfl (fun c0 hm => ?_) (fun c0 hm => ?_)))))
 ·refine jk (Wm (Wf rV (VB d Mh rfl rfl aG (Wf pX (VB d (Mt Mh) rfl rfl aG (V (kO (v := (.agg (jc (⟨a2.jL, Q.kk⟩ : ja)).toArray)) (nB rfl rfl) (ku bj bA (EC _ bA) kr)) (Wf mJ (VA d (Mt Mh) (jc Q.Head) au ag (bS hm fun g3 c3 hm => ?_)))))))))
  refine VE (eM d (Cb (Pb (Pb Pz)) (Cr (Qb (Qb Qz)) (Cr (Qb (Qb Qz)) (Cr (Qb (Qb Qz)) (Cr (Qb (Qb Qz)) (Cr (Qb (Qb Qz)) Cn)))))) call252 (fun s _ => (D2 K G Z D g I a B N y i J c t M j a0 (⟨a2.jL, Q.kk⟩ : ja) Q.Head _ _ s U T a3 Y H c3)) ?_)
  rintro _ g8 h2 f9 d f3 ab n ⟨d4, e9, d5, a9, rfl, c7, c8⟩
  obtain rfl := a9.symm
  replace d := d.perm (Tb (Tr (Tr (Tr (Tr (Tr Tn))))))
  refine jH (jV (tI ?_))
  obtain rfl := sj hm
  exact sI rfl ⟨_, _, rfl, (d.kF (Kb (Kr (Kr (Kr (Kr (Kr Sn))))))), d4, e9, d5, rfl, rfl, c7, c8⟩
 refine sg (Wi rfl (Wa (ln (CI hm rfl (fun c1 hm => ?_) (fun c1 hm => ?_)))))
 ·refine jo ?_
  replace d := d.drew
  have h := d.has.je (Kb (Kb (Kb (Kr Sn))))
  refine ko h jP (X 0 rfl h (jl rfl) (X 1 rfl h (kJ rfl) (X 2 rfl h (jh wX rfl) (XH 3 rfl h (fun _ m => jf rfl (jq m (Mt (Mt Mh)) rfl gi)) (X 4 rfl h (jh lm rfl) (XH 5 rfl h (fun _ m => jf rfl (jm m (Mt Mh) (jc Q.B) rfl au ag)) ?_))))))
  obtain ⟨f7, a5⟩ := U
  refine XH 6 rfl h (fun _ m => ow (k := Q.B) (z := (.map none)) Aa dq dO rfl rfl a5 (fun b o p => m.2 b o (Mt (Mt (Mt (Ml p)))))) (X 7 rfl h (jh rV rfl) (XH 8 rfl h (fun _ m => jf rfl (jq m Mh rfl aG)) (XH 9 rfl h (fun _ m => ve (k := a2.jL) (z := false) (vf := (fun (x : Bool) => (Value.bool x))) Hc dS fe rfl rfl (lJ.Dx (μ := hp _) jB.1 a5 Q.B (fun b o p => m.2 b o (Mt (Mt (Mt (Ml p))))))) (X 10 rfl h (jl rfl) (PJ hm (fun R E W => ∃ P, ST false (keys ((K, Obj.cells A 174 (0, 0)) :: (D ++ (a ++ (y ++ (c ++ (j ++ []))))))) w W μ0 ((O, Ol (jw a2) 38) :: ((F, Ol (jg Q) 108) :: ((K, Obj.cells A 174 (0, 0)) :: (D ++ (a ++ (y ++ (c ++ (j ++ P)))))))) ∧ E 0 = (.pointer (some ⟨K, 0, none⟩)) ∧ E 4 = (.pointer (some ⟨F, 0, none⟩)) ∧ E 5 = (.pointer (some ⟨O, 0, none⟩)) ∧ E 50 = (.bool R)) (bm 22 4194303) 0 ?_ (fun R q L => ?_))))))
  ·rintro h1 E W ⟨P, d, e1, e2, e3, e4⟩ a4
   refine kz kr (jj (CI a4 e4 (fun c2 a4 => ?_) (fun c2 a4 => ?_)))
   ·refine jk (Wh e1 (V (jh mJ e2) (VA d (Mt Mh) (jc Q.Head) au ag (V (jh rV e3) (VB d Mh rfl rfl aG (bS a4 fun g4 c4 a4 => ?_))))))
    refine VE (eM d (Cb (Pb (Pb Pz)) (Cr (Qb (Qb Qz)) (Cr (Qb (Qb Qz)) (Cr (Qb (Qb Qz)) (Cr (Qb (Qb Qz)) (Cr (Qb (Qb Qz)) Cn)))))) call209 (fun s _ => ki.kI (qo K G Z D g I a B N y i J c t M j a0 Q.Head a2.jL _ _ s a5.e T a3 Y H c4)) ?_)
    rintro _ g9 h3 g0 d f4 ad n ⟨d7, f0, d8, b0, rfl, c9, d0⟩
    obtain rfl := b0.symm
    replace d := d.perm (Tb (Tr (Tr (Tr (Tr (Tr Tn))))))
    refine jH (jV (tI ?_))
    obtain rfl := sj a4
    exact sI rfl ⟨_, _, rfl, (d.kF (Kb (Kr (Kr (Kr (Kr (Kr Sn))))))), d7, f0, d8, rfl, rfl, c9, d0⟩
   refine jW (jV (tI ?_))
   obtain rfl := sj a4
   exact sI rfl ⟨_, _, rfl, (d.kF (Db (Db (Kb (Kr (Kr (Kr (Kr (Kr Sn))))))))), D, t, j, rfl, rfl, a5.e, H⟩
  refine bC q (fun u q => ?_) (fun u q => ?_)
  ·refine Xg 11 rfl rfl (cB u) h (jl rfl) (Xg 12 rfl rfl (cB u) h (kJ rfl) (Xg 13 rfl rfl (cB u) h (jh wX rfl) (yo 14 rfl rfl (cB u) h (fun _ m => jf rfl (jq m (Mt (Mt Mh)) rfl gi)) (Xg 15 rfl rfl (cB u) h (jh ou rfl) (yo 16 rfl rfl (cB u) h (fun _ m => jf rfl (jm m (Mt Mh) (jc Q.C) rfl au ag)) (yo 17 rfl rfl (cB u) h (fun _ m => ow (k := Q.C) (z := (.map none)) Aa dq dO rfl rfl a5 (fun b o p => m.2 b o (Mt (Mt (Mt (Ml p)))))) (Xg 18 rfl rfl (cB u) h (jh rV rfl) (yo 19 rfl rfl (cB u) h (fun _ m => jf rfl (jq m Mh rfl aG)) (yo 20 rfl rfl (cB u) h (fun _ m => ve (k := a2.jL) (z := false) (vf := (fun (x : Bool) => (Value.bool x))) Hc dS fe rfl rfl (lJ.Dx (μ := hp _) jB.1 a5 Q.C (fun b o p => m.2 b o (Mt (Mt (Mt (Ml p))))))) (X 21 rfl h (jz (cB u) rfl) ?_))))))))))
   obtain rfl := sj q
   refine tL kr (L _ _ ⟨_, (d.je St), rfl, rfl, rfl, rfl⟩)
  refine Xn 11 rfl rfl (cB u) h (Xn 12 rfl rfl (cB u) h (Xn 13 rfl rfl (cB u) h (Xn 14 rfl rfl (cB u) h (Xn 15 rfl rfl (cB u) h (Xn 16 rfl rfl (cB u) h (Xn 17 rfl rfl (cB u) h (Xn 18 rfl rfl (cB u) h (Xn 19 rfl rfl (cB u) h (Xn 20 rfl rfl (cB u) h (X 21 rfl h (jA (cB u) rfl) ?_))))))))))
  obtain rfl := sj q
  refine tL kr (L _ _ ⟨_, (d.je St), rfl, rfl, rfl, rfl⟩)
 refine jW (jV (tI ?_))
 obtain rfl := sj hm
 exact sI rfl ⟨_, _, rfl, (d.kF (Db (Db (Kb (Kr (Kr (Kr (Kr (Kr Sn))))))))), D, t, j, rfl, rfl, U, H⟩
theorem CU (K : Nat) (g : Value) (T : List (ja × (List (ByteArray × Bool)))) (D : LO) (a : Value) (G : List jb) (j : LO) (t : Value) (J : List (ja × (List jb))) (u : LO) (c : Value) (H : List (ByteArray × (List jb))) (k : LO) (z : Value) (M : List jd) (B : LO) (a0 : Int) (Z : jb) (r : ((List (ja × (List (ByteArray × Bool)))) × (List jd) × Int)) (w : World) {μ0 : jF} (h0 : na μ0 ((K, Ob #[g, a, t, c, z, (.int .i64 a0)] 174) :: (D ++ (j ++ (u ++ (k ++ (B ++ [])))))) w) (a2 : kU (fun (x : ja) => (.agg (jc x).toArray)) (kE Value.string (fun (x : Bool) => (Value.bool x))) g T D) (N : jy 108 jg 9 a G j) (Y : kU (fun (x : ja) => (.agg (jc x).toArray)) (jy 108 jg 9) t J u) (Q : kU Value.string (jy 108 jg 9) c H k) (U : pk 38 jw 3 z M B) (hm : sc T G J H M a0 Z = some r) :
  ki false pg0 172 [(.pointer (some ⟨K, 0, none⟩)), (.agg (jg Z).toArray)] w ((K, Ob #[g, a, t, c, z, (.int .i64 a0)] 174) :: (D ++ (j ++ (u ++ (k ++ (B ++ [])))))) (fun v L1 W' => ∃ S1 y3 S4, v = (.tuple #[]) ∧ L1 = ((K, Ob #[g, a, t, c, y3, (.int .i64 (r.2.2))] 174) :: (S1 ++ (j ++ (u ++ (k ++ (S4 ++ [])))))) ∧ kU (fun (x : ja) => (.agg (jc x).toArray)) (kE Value.string (fun (x : Bool) => (Value.bool x))) g r.1 S1 ∧ pk 38 jw 3 y3 r.2.1 S4) := by
 refine vg h0 33 func172 rfl (fun d => sg (VE (jU d rfl (fun W2 b1 d => lr (Wf mh (VB d Mh rfl rfl bl (ln (bg ?_))))))))
 refine Wi rfl (Wa (ln (CI hm rfl (fun f1 hm => ?_) (fun f1 hm => ?_))))
 ·refine jk (Wm (Wf mJ (VA d Mh (jc Z.Head) au ag (Wf rq (VB d Mh rfl rfl aG (bS hm fun r4 f2 hm => ?_))))))
  refine VE (eM d (Cb (Pb Pz) (Cr (Qb Qz) (Cr (Qb Qz) (Cr (Qb Qz) (Cr (Qb Qz) (Cr (Qb Qz) Cn)))))) call209 (fun hh _ => ki.kI (qo K g T D a G j t J u c H k z M B a0 Z.Head Z.jL _ _ hh a2 N Y Q U f2)) ?_)
  rintro _ h1 ao g8 d g2 af n ⟨e7, f4, e8, c2, rfl, e0, e1⟩
  obtain rfl := c2.symm
  replace d := d.perm (Tb (Tr (Tr (Tr (Tr (Tr Tn))))))
  refine jH (jV (tI ?_))
  obtain rfl := sj hm
  exact sI rfl ⟨_, _, rfl, (d.kF (Kb (Kr (Kr (Kr (Kr (Kr Sn))))))), e7, f4, e8, rfl, rfl, e0, e1⟩
 refine sg (Wm (Wf lm (VA d Mh (jc Z.B) au ag (bS hm fun c6 d9 hm => VE (rC d call53 (xX K g T a G t J c H z M a0 Z.B _ _ (a2.at (fun b o m => d.at_ (Mt (Mt (Ml m))))) (N.sl lz (fun b o m => d.at_ (Mt (Mt (Ma (Ml m)))))) (Y.at (fun b o m => d.at_ (Mt (Mt (Ma (Ma (Ml m))))))) (Q.at (fun b o m => d.at_ (Mt (Mt (Ma (Ma (Ma (Ml m)))))))) ((U.EH nn).mono (Pl.mono _) (zX (fun b o m => d.at_ (Mt (Mt (Ma (Ma (Ma (Ma (Ml m)))))))))) (At.of (d.at_ (Mt Mh)) _ rfl) d9) (fun g9 f3 d5 e5 d f6 ad L => V (mw bc rfl L) (Wm (ln (zn (km (fun i E W => ∃ q a3 a5 s a4 a9 O b9, (E 13 = .int .i64 (i : Nat) ∧ E 12 = .int .i64 (c6.length : Nat)) ∧ jC d5 O ∧ ST false (keys ((K, Ob #[g, a, t, c, z, (.int .i64 a0)] 174) :: (D ++ (j ++ (u ++ (k ++ (B ++ []))))))) w W O ((K, Ob #[g, a, t, c, a5, (.int .i64 a9)] 174) :: ((b1, Ol (jg Z) 108) :: (a3 ++ (j ++ (u ++ (k ++ (a4 ++ (e5 ++ b9)))))))) ∧ E 0 = (.pointer (some ⟨K, 0, none⟩)) ∧ E 3 = (.pointer (some ⟨b1, 0, none⟩)) ∧ E 11 = f3 ∧ kU (fun (x : ja) => (.agg (jc x).toArray)) (kE Value.string (fun (x : Bool) => (Value.bool x))) g q a3 ∧ pk 38 jw 3 a5 s a4 ∧ oy G J H Z (c6.drop i) q s a9 = some r) c6.length L.len ⟨T, D, z, M, B, a0, d5, _, ⟨rfl, rfl⟩, (jC.refl _), (d.je (Sb (Pr (Pb Pz)) (Sb (Pr Pz) (Sr (Qr Qz) (Sr (Qr Qz) (Sr (Qr Qz) (Sr (Qr Qz) (Sr (Qr Qz) St)))))))), rfl, rfl, rfl, a2, U, hm⟩ dc dc dc (fun _ _ _ h => by obtain ⟨_, _, _, _, _, _, _, _, a1, _⟩ := h; exact a1) ?_ ?_))))))))))
 ·rintro e2 E W c8 ⟨q, a3, a5, s, a4, a9, O, b9, ⟨eI, eN⟩, b7, d, c0, F, c1, P, R, I⟩
  obtain ⟨A, f7, d1, c4, d2⟩ := jY c8
  rw [d1] at I
  refine bg (VQ (lE (i := (e2 : Int)) (x0 := A) bc cj c1 eI L (ak _) c4) (fun g3 c9 => V (jf rfl (uz d.has (fun p m => (Mt (Mt (Ma (Ma (Ma (Ma (Ma (Ml m))))))))) L (fun _ => rfl) c9 c4 (y := (.string A)) rfl aG)) (Wa (ln (jk (Wh c0 (V (jf F (jm d.has (Mt Mh) (jg Z) rfl aT an)) (V (jh lm F) (VA d (Mt Mh) (jc Z.B) au ag (Wm (V (kO (v := (.agg (jw (⟨Z.B, A⟩ : jd)).toArray)) (nB rfl rfl) (ku cx bn (B4 _ bn) kr)) ?_)))))))))))
  refine bS I fun c3 d0 I => ?_
  refine VE (eM d (Cb Pz (Cr (Qb Qz) (Cr (Qb Qz) (Cr (Qb Qz) (Cr (Qb Qz) (Cr (Qb Qz) Cn)))))) call210 (fun hh _ => (zg K g q a3 a G j t J u c H k a5 s a4 a9 Z (⟨Z.B, A⟩ : jd) _ _ hh P N Y Q R d0)) ?_)
  rintro _ g4 e4 f9 d c5 ab n ⟨d6, e3, d7, b5, rfl, d3, d4⟩
  obtain rfl := b5.symm
  replace d := d.perm (Tb (Tr (Tr (Tr (Tr (Tr Tn))))))
  exact jH (jV (jj ⟨eI, c3.1, d6, e3, c3.2.1, d7, c3.2.2, e4, _, ⟨rfl, eN⟩, (b7.trans c5), (d.je (Kb (Sb (Pr (Pr (Pr (Pr (Pr Pz))))) St))), c0, F, c1, d3, d4, (by rw [d2]; exact I)⟩))
 rintro E W ⟨q, a3, a5, s, a4, a9, O, b9, ⟨eI, eN⟩, b7, d, c0, F, c1, P, R, I⟩
 rw [ap] at I
 refine jj ?_
 replace d := d.je (Kb (Db (Kr (Kr (Kr (Kr (Kr (Dr St))))))))
 refine jV (tI ?_)
 obtain rfl := sj I
 exact sI rfl ⟨_, _, rfl, (d.kF (Kb (Kr (Kr (Kr (Kr (Kr Sn))))))), a3, a5, a4, rfl, rfl, P, R⟩
theorem Cm (I : Nat) (a : Value) (e8 : List (ja × (List (ByteArray × Bool)))) (K : LO) (c : Value) (Q : List jb) (j : LO) (u : Value) (N : List (ja × (List jb))) (y : LO) (g : Value) (H : List (ByteArray × (List jb))) (t : LO) (G : Value) (d4 : List jd) (D : LO) (a0 : Int) (r : ((List (ja × (List (ByteArray × Bool)))) × (List jd) × Int)) (w : World) {μ0 : jF} (h0 : na μ0 ((I, Ob #[a, c, u, g, G, (.int .i64 a0)] 174) :: (K ++ (j ++ (y ++ (t ++ (D ++ [])))))) w) (h4 : kU (fun (x : ja) => (.agg (jc x).toArray)) (kE Value.string (fun (x : Bool) => (Value.bool x))) a e8 K) (c1 : jy 108 jg 9 c Q j) (g7 : kU (fun (x : ja) => (.agg (jc x).toArray)) (jy 108 jg 9) u N y) (c2 : kU Value.string (jy 108 jg 9) g H t) (g4 : pk 38 jw 3 G d4 D) (hm : uB e8 Q N H d4 a0 = some r) :
  ki false pg0 173 [(.pointer (some ⟨I, 0, none⟩))] w ((I, Ob #[a, c, u, g, G, (.int .i64 a0)] 174) :: (K ++ (j ++ (y ++ (t ++ (D ++ [])))))) (fun v L1 W' => ∃ S1 y3 S4, v = (.tuple #[]) ∧ L1 = ((I, Ob #[a, c, u, g, y3, (.int .i64 (r.2.2))] 174) :: (S1 ++ (j ++ (y ++ (t ++ (S4 ++ [])))))) ∧ kU (fun (x : ja) => (.agg (jc x).toArray)) (kE Value.string (fun (x : Bool) => (Value.bool x))) a r.1 S1 ∧ pk 38 jw 3 y3 r.2.1 S4) := by
 let g5 : Value := (.pointer (some ⟨I, 0, none⟩))
 let b8 := ((I, Ob #[a, c, u, g, G, (.int .i64 a0)] 174) :: (K ++ (j ++ (y ++ (t ++ (D ++ []))))))
 refine vg h0 75 func173 rfl (fun d => zn (kV (ns (fun m E W => ∃ e3 b7 e4 a1 b9 d1 b4 h5, jC μ0 b4 ∧ ST false (keys b8) w W b4 ((I, Ob #[a, c, u, g, e4, (.int .i64 d1)] 174) :: (b7 ++ (j ++ (y ++ (t ++ (b9 ++ h5)))))) ∧ E 0 = g5 ∧ kU (fun (x : ja) => (.agg (jc x).toArray)) (kE Value.string (fun (x : Bool) => (Value.bool x))) a e3 b7 ∧ pk 38 jw 3 e4 a1 b9 ∧ ml Q N H m e3 a1 d1 = some r) jX ⟨e8, K, G, d4, D, a0, μ0, _, (jC.refl _), (d.je St), rfl, h4, g4, hm⟩ ?_)))
 rintro m E W ⟨e3, b7, e4, a1, b9, d1, b4, h5, i0, d, L, g9, c5, M⟩
 cases m with
 | zero => rw [ml] at M; cases M
 | succ n0 =>
  refine jo (sg (Wh L (Wn (Wf AV (VB d Mh rfl rfl isAgg120 (V (Qc bJ rfl c5) (Wi rfl (ln (CI M rfl (fun i7 M => ?_) (fun i7 M => ?_))))))))))
  ·refine kn (bg (Wh L (Wn (Wf AV (VB d Mh rfl rfl isAgg120 (bS M fun B h2 M => VQ (kC (enc := jw) (i := 0) (x0 := B) bJ bu rfl rfl (c5.EH nn) (kL h2) (kq h2)) (fun q0 j7 => V (jf rfl (kG (rM.hp _) (j7.mono (zX (fun b o q => d.has.2 b o (Mt (Ma (Ma (Ma (Ma (Ml q))))))))) cT bu)) (VE (kl d cx (fun o9 a5 d => VO (jD (.agg (jw B).toArray) ((jw B).toArray) d rfl rfl bu (zk B) nb rfl (fun p0 d => jH ?_))))))))))))
   let j2 := ((kx jt N B.ja).getD [])
   let j1 : Value := (.pointer (some ⟨a5, 0, none⟩))
   let i6 := ((jw B).toArray : Array Value)
   let i5 := ((kx ke H B.ja.jK).getD [])
   refine jj (sg (Wh L (Wh L (Wn (Wf AV (VB d (Mt Mh) rfl rfl isAgg120 (bS M fun _ g8 M => VQ (M3 (i := 1) bJ bu rfl rfl nn c5 (qc g8) (qb g8)) (fun q3 h1 => Wn (Wf AV ?_)))))))))
   obtain ⟨f7, g0, rfl⟩ := h1.form
   let g6 : Value := (.slice f7 (a1.drop (Int.toNat 1)).length g0)
   replace d := d.perm (Nb (Pb Pz) Nz)
   refine VO (jD g6 (#[a, c, u, g, g6, (.int .i64 d1)]) d rfl rfl sizeOf120 oc nb rfl (fun p1 d => ln (jo (jo ?_))))
   replace d := d.drew
   have n := d.has.je (Kb (Kb (Dr (Dr (Kr Sn)))))
   refine ko n jP (X 0 rfl n (jl L) (X 1 rfl n (kJ rfl) (X 2 rfl n (jh MC rfl) (XH 3 rfl n (fun _ p => jf rfl (jq p Mh rfl isAgg171)) (X 4 rfl n (jh yz rfl) (XH 5 rfl n (fun _ p => jf rfl (jm p (Mt Mh) (jc B.ja) rfl au ag)) ?_))))))
   obtain ⟨l7, c3⟩ := g7
   obtain ⟨o7, f0, k2⟩ := lJ.rowAt jB.1 c3 B.ja
   refine XH 6 rfl n (fun _ p => ow (k := B.ja) (z := (.slice none 0 0)) Aa underlying171 iY rfl rfl c3 (fun b o q => p.2 b o (Mt (Mt (Ml q))))) (X 7 rfl n (kj aJ rfl (f0.EH lz)) (X 8 rfl n (jl rfl) (kz kr (jj (CJ M (fun d0 E W => ∃ d6 e5 d7 b5 h6, jC b4 b5 ∧ ST false (keys b8) w W b5 ((I, Ob #[a, c, u, g, e5, (.int .i64 d0.2.2)] 174) :: ((a5, Obj.cells i6 38 (0, 0)) :: (d6 ++ (j ++ (y ++ (t ++ (d7 ++ h6))))))) ∧ E 0 = g5 ∧ E 2 = j1 ∧ kU (fun (x : ja) => (.agg (jc x).toArray)) (kE Value.string (fun (x : Bool) => (Value.bool x))) a d0.1 d6 ∧ pk 38 jw 3 e5 d0.2.1 d7) (fun d0 j6 => ?_) ?_)))))
   ·refine km (fun i E W => ∃ c7 a3 R c8 a4 d2 d3 f9, (E 35 = .int .i64 (i : Nat) ∧ E 34 = .int .i64 (j2.length : Nat)) ∧ jC b4 d3 ∧ ST false (keys b8) w W d3 ((I, Ob #[a, c, u, g, R, (.int .i64 d2)] 174) :: ((a5, Obj.cells i6 38 (0, 0)) :: (a3 ++ (j ++ (y ++ (t ++ (a4 ++ f9))))))) ∧ E 0 = g5 ∧ E 2 = j1 ∧ E 33 = (qP jt l7 B.ja (.slice none 0 0)) ∧ kU (fun (x : ja) => (.agg (jc x).toArray)) (kE Value.string (fun (x : Bool) => (Value.bool x))) a c7 a3 ∧ pk 38 jw 3 R c8 a4 ∧ ob Q N H B (j2.drop i) c7 c8 d2 = some d0) j2.length (f0.EH lz).len ⟨e3, b7, g6, (a1.drop (Int.toNat 1)), b9, d1, b4, _, ⟨rfl, rfl⟩, (jC.refl _), (d.je St), L, rfl, rfl, g9, h1, j6⟩ dc dc dc (fun _ _ _ h => by obtain ⟨_, _, _, _, _, _, _, _, A, _⟩ := h; exact A) ?_ ?_
    ·rintro m5 E W j0 ⟨c7, a3, R, c8, a4, d2, d3, f9, ⟨s, eN⟩, d5, d, e1, e2, g1, f3, f4, T⟩
     obtain ⟨b3, o3, l1, l0, l2⟩ := jY j0
     rw [l1] at T
     refine bg (VQ (kC (enc := jg) (i := (m5 : Int)) (x0 := b3) aJ an g1 s (f0.EH lz) (ak _) l0) (fun q2 j9 => V (jf rfl (kG (rM.hp _) (j9.mono (zX (fun b o q => d.has.2 b o (Mt (Mt (Ma (Ma (Ml (k2 b o q))))))))) aT an)) (VE (kl d bh (fun p5 p9 d => VO (jD (.agg (jg b3).toArray) ((jg b3).toArray) d rfl rfl an (mo b3) nb rfl (fun p6 d => ln (jk (Wh e1 (VA d Mh (jg b3) aT an (V (jf e2 (jm d.has (Mt (Mt Mh)) (jw B) rfl cT bu)) (bS T fun g3 k1 T => ?_))))))))))))
     refine VE (eM d (Cb (Pb Pz) (Cr (Qb (Qb Qz)) (Cr (Qb (Qb Qz)) (Cr (Qb (Qb Qz)) (Cr (Qb (Qb Qz)) (Cr (Qb (Qb Qz)) Cn)))))) call210 (fun hh _ => (zg I a c7 a3 c Q j u N y g H t R c8 a4 d2 b3 B _ _ hh f3 c1 c3.e c2 f4 k1)) ?_)
     rintro _ q5 n6 o6 d i4 ad F ⟨m1, n4, m2, f6, rfl, l5, l6⟩
     obtain rfl := f6.symm
     replace d := d.perm (Tb (Tr (Tr (Tr (Tr (Tr Tn))))))
     refine jH (jV (jj ?_))
     replace d := d.je (Kb (Kr (Kr (Kr (Kr (Kr (Db St)))))))
     exact ⟨s, g3.1, m1, n4, g3.2.1, m2, g3.2.2, n6, _, ⟨rfl, eN⟩, (d5.trans i4), (d.je (Kb (Sb (Pr (Pr (Pr (Pr (Pr Pz))))) St))), e1, e2, g1, l5, l6, (by rw [l2]; exact T)⟩
    rintro E W ⟨c7, a3, R, c8, a4, d2, d3, f9, ⟨s, eN⟩, d5, d, e1, e2, g1, f3, f4, T⟩
    rw [ap] at T
    refine jj ?_
    obtain rfl := sj T
    exact ⟨a3, R, a4, d3, _, d5, (d.je St), e1, e2, f3, f4⟩
   rintro ⟨m6, m7, n1⟩ E W ⟨d6, e5, d7, b5, h6, i1, d, h8, h9, k3, k4⟩ j3
   refine jo ?_
   replace d := d.drew
   have n := d.has.je (Kb (Kb (Dr (Dr (Dr (Kr Sn))))))
   refine ko n jP (X 0 rfl n (jl h8) (X 1 rfl n (kJ rfl) (X 2 rfl n (jh HL rfl) (XH 3 rfl n (fun _ p => jf rfl (jq p Mh rfl isAgg172)) (X 4 rfl n (jh yz h9) (X 5 rfl n (jh um rfl) (XH 6 rfl n (fun _ p => jf rfl (jq p (Mt Mh) rfl aG)) ?_)))))))
   obtain ⟨l8, e9⟩ := c2
   obtain ⟨o8, f1, k5⟩ := lJ.rowAt kK.1 e9 B.ja.jK
   refine XH 7 rfl n (fun _ p => ow (k := B.ja.jK) (z := (.slice none 0 0)) Hc underlying172 iY rfl rfl e9 (fun b o q => p.2 b o (Mt (Mt (Ml q))))) (X 8 rfl n (kj aJ rfl (f1.EH lz)) (X 9 rfl n (jl rfl) (kz kr (jj (zn (CJ j3 (fun c9 E W => ∃ d8 e6 d9 e7 h7, jC b5 e7 ∧ ST false (keys b8) w W e7 ((I, Ob #[a, c, u, g, e6, (.int .i64 c9.2.2)] 174) :: (d8 ++ (j ++ (y ++ (t ++ (d9 ++ h7)))))) ∧ E 0 = g5 ∧ kU (fun (x : ja) => (.agg (jc x).toArray)) (kE Value.string (fun (x : Bool) => (Value.bool x))) a c9.1 d8 ∧ pk 38 jw 3 e6 c9.2.1 d9) (fun c9 j5 => ?_) ?_))))))
   ·refine km (fun i E W => ∃ a9 Y a2 P Z b2 b6 f8, (E 53 = .int .i64 (i : Nat) ∧ E 52 = .int .i64 (i5.length : Nat)) ∧ jC b5 b6 ∧ ST false (keys b8) w W b6 ((I, Ob #[a, c, u, g, a2, (.int .i64 b2)] 174) :: ((a5, Obj.cells i6 38 (0, 0)) :: (Y ++ (j ++ (y ++ (t ++ (Z ++ f8))))))) ∧ E 0 = g5 ∧ E 2 = j1 ∧ E 51 = (qP ke l8 B.ja.jK (.slice none 0 0)) ∧ kU (fun (x : ja) => (.agg (jc x).toArray)) (kE Value.string (fun (x : Bool) => (Value.bool x))) a a9 Y ∧ pk 38 jw 3 a2 P Z ∧ mU B Q N H (i5.drop i) a9 P b2 = some c9) i5.length (f1.EH lz).len ⟨m6, d6, e5, m7, d7, n1, b5, _, ⟨rfl, rfl⟩, (jC.refl _), (d.je St), h8, h9, rfl, k3, k4, j5⟩ dc dc dc (fun _ _ _ h => by obtain ⟨_, _, _, _, _, _, _, _, A, _⟩ := h; exact A) ?_ ?_
    ·rintro m4 E W i9 ⟨a9, Y, a2, P, Z, b2, b6, f8, ⟨s, eN⟩, a8, d, O, c0, e0, f2, c6, J⟩
     obtain ⟨U, o2, k9, k8, h3⟩ := jY i9
     rw [k9] at J
     refine bg (VQ (kC (enc := jg) (i := (m4 : Int)) (x0 := U) aJ an e0 s (f1.EH lz) (ak _) k8) (fun q1 j8 => V (jf rfl (kG (rM.hp _) (j8.mono (zX (fun b o q => d.has.2 b o (Mt (Mt (Ma (Ma (Ma (Ml (k5 b o q)))))))))) aT an)) (VE (kl d bh (fun p2 p8 d => VO (jD (.agg (jg U).toArray) ((jg U).toArray) d rfl rfl an (mo U) nb rfl (fun p3 d => ln (jo ?_))))))))
     replace d := d.drew
     have n := d.has.je (Kb (Kb (Kb (Kr Sn))))
     refine ko n jP (X 0 rfl n (jl O) (X 1 rfl n (kJ rfl) (X 2 rfl n (jh wX rfl) (XH 3 rfl n (fun _ p => jf rfl (jq p (Mt Mh) rfl gi)) (X 4 rfl n (jh lm rfl) (XH 5 rfl n (fun _ p => jf rfl (jm p Mh (jc U.B) rfl au ag)) ?_))))))
     obtain ⟨o0, c4⟩ := f2
     refine XH 6 rfl n (fun _ p => ow (k := U.B) (z := (.map none)) Aa dq dO rfl rfl c4 (fun b o q => p.2 b o (Mt (Mt (Mt (Ml q)))))) (X 7 rfl n (jh yz c0) (X 8 rfl n (jh ox rfl) (XH 9 rfl n (fun _ p => jf rfl (jq p (Mt (Mt Mh)) rfl aG)) (XH 10 rfl n (fun _ p => ve (k := B.ja.jn) (z := false) (vf := (fun (x : Bool) => (Value.bool x))) Hc dS fe rfl rfl (lJ.Dx (μ := hp _) jB.1 c4 U.B (fun b o q => p.2 b o (Mt (Mt (Mt (Ml q))))))) (kz kr (jj (CI J rfl (fun i8 J => ?_) (fun i8 J => ?_))))))))
     ·refine jk (Wh O (Wf mJ (VA d Mh (jc U.Head) au ag (V (jh rV c0) (VB d (Mt (Mt Mh)) rfl rfl aG (bS J fun g2 k0 J => ?_))))))
      refine VE (eM d (Cb (Pb Pz) (Cr (Qb (Qb Qz)) (Cr (Qb (Qb Qz)) (Cr (Qb (Qb Qz)) (Cr (Qb (Qb Qz)) (Cr (Qb (Qb Qz)) Cn)))))) call209 (fun hh _ => ki.kI (qo I a a9 Y c Q j u N y g H t a2 P Z b2 U.Head B.jL _ _ hh c4.e c1 c3.e e9.e c6 k0)) ?_)
      rintro _ q4 n5 o5 d i3 ab F ⟨l9, n3, m0, f5, rfl, l3, l4⟩
      obtain rfl := f5.symm
      replace d := d.perm (Tb (Tr (Tr (Tr (Tr (Tr Tn))))))
      refine jH (jV (jj ?_))
      replace d := d.je (Kb (Kr (Kr (Kr (Kr (Kr (Db St)))))))
      exact ⟨s, g2.1, l9, n3, g2.2.1, m0, g2.2.2, n5, _, ⟨rfl, eN⟩, (a8.trans i3), (d.je (Kb (Sb (Pr (Pr (Pr (Pr (Pr Pz))))) St))), O, c0, e0, l3, l4, (by rw [h3]; exact J)⟩
     refine jW (jV (jj ?_))
     replace d := d.je (Db St)
     exact ⟨s, a9, Y, a2, P, Z, b2, b6, _, ⟨rfl, eN⟩, a8, (d.je St), O, c0, e0, c4.e, c6, (by rw [h3]; exact J)⟩
    rintro E W ⟨a9, Y, a2, P, Z, b2, b6, f8, ⟨s, eN⟩, a8, d, O, c0, e0, f2, c6, J⟩
    rw [ap] at J
    refine jj ?_
    obtain rfl := sj J
    exact ⟨Y, a2, Z, b6, _, a8, (d.je (Kb (Db St))), O, f2, c6⟩
   rintro ⟨m8, m9, n2⟩ E W ⟨d8, e6, d9, e7, h7, i2, d, m3, k6, k7⟩ j4
   exact jV (jj ⟨n0, aY _, m8, d8, e6, m9, d9, n2, e7, _, ((i0.trans i1).trans i2), (d.je St), m3, k6, k7, j4⟩)
  refine mI (lZ (lZ (sr (jj (tI ?_)))))
  obtain rfl := sj M
  exact sI rfl ⟨_, _, rfl, (d.kF (Kb (Kr (Kr (Kr (Kr (Kr Sn))))))), b7, e4, b9, rfl, rfl, g9, c5⟩
theorem Ea (H : Nat) (g : Value) (c2 : List (ja × (List (ByteArray × Bool)))) (G : LO) (u : Value) (a7 : List jb) (k : LO) (c : Value) (b7 : List (ja × (List jb))) (z : LO) (a : Value) (a8 : List (ByteArray × (List jb))) (t : LO) (B : Value) (b6 : List jd) (y : LO) (K : Int) (d1 : Value) (q : List jb) (r : (Int × (List (ja × (List (ByteArray × Bool)))) × (List jb) × (List (ja × (List jb))) × (List (ByteArray × (List jb))) × (List jd) × Int)) (w : World) {μ0 : jF} (h0 : na μ0 ((H, Ob #[g, u, c, a, B, (.int .i64 K)] 174) :: (G ++ (k ++ (z ++ (t ++ (y ++ [])))))) w) (d6 : kU (fun (x : ja) => (.agg (jc x).toArray)) (kE Value.string (fun (x : Bool) => (Value.bool x))) g c2 G) (c6 : jy 108 jg 9 u a7 k) (d3 : kU (fun (x : ja) => (.agg (jc x).toArray)) (jy 108 jg 9) c b7 z) (c7 : kU Value.string (jy 108 jg 9) a a8 t) (d2 : pk 38 jw 3 B b6 y) (d7 : Sl (Pl jg) 9 μ0 d1 q) (hm : tN c2 a7 b7 a8 b6 K q = some r) :
  ki false pg0 109 [(.pointer (some ⟨H, 0, none⟩)), d1] w ((H, Ob #[g, u, c, a, B, (.int .i64 K)] 174) :: (G ++ (k ++ (z ++ (t ++ (y ++ [])))))) (fun v L1 W' => ∃ S1 y3 S4 S6 S8 i1 i0, v = (.int .i64 (r.1)) ∧ L1 = ((H, Ob #[g, y3, c, a, i1, (.int .i64 (r.2.2.2.2.2.2))] 174) :: (S1 ++ (S4 ++ (S6 ++ (S8 ++ (i0 ++ [])))))) ∧ kU (fun (x : ja) => (.agg (jc x).toArray)) (kE Value.string (fun (x : Bool) => (Value.bool x))) g r.2.1 S1 ∧ jy 108 jg 9 y3 r.2.2.1 S4 ∧ kU (fun (x : ja) => (.agg (jc x).toArray)) (jy 108 jg 9) c r.2.2.2.1 S6 ∧ kU Value.string (jy 108 jg 9) a r.2.2.2.2.1 S8 ∧ pk 38 jw 3 i1 r.2.2.2.2.2.1 i0) := by
 let b8 := ((H, Ob #[g, u, c, a, B, (.int .i64 K)] 174) :: (G ++ (k ++ (z ++ (t ++ (y ++ []))))))
 refine vg h0 46 func109 rfl (fun d => sg (Wa (lS (Wm (V (qD underlying101 rfl rfl) (ln (oO rfl (jW ?_))))))))
 refine jj (sg (Wm (Wn (Wf Fg (VB d Mh rfl rfl bl (Wa (lS (Wm (V (kj aJ rfl d7) ?_)))))))))
 refine Wm (ln (km (fun i E W => ∃ a3 N M a4 Q a9 T p U a0 a5 Y a2 c1 d5, (E 16 = .int .i64 (i : Nat) ∧ E 15 = .int .i64 (q.length : Nat)) ∧ jC μ0 c1 ∧ ST false (keys b8) w W c1 ((H, Ob #[g, M, c, a, a0, (.int .i64 a2)] 174) :: (N ++ (Q ++ (T ++ (U ++ (Y ++ d5)))))) ∧ E 0 = (.pointer (some ⟨H, 0, none⟩)) ∧ E 5 = (.int .i64 K) ∧ E 14 = d1 ∧ kU (fun (x : ja) => (.agg (jc x).toArray)) (kE Value.string (fun (x : Bool) => (Value.bool x))) g a3 N ∧ jy 108 jg 9 M a4 Q ∧ kU (fun (x : ja) => (.agg (jc x).toArray)) (jy 108 jg 9) c a9 T ∧ kU Value.string (jy 108 jg 9) a p U ∧ pk 38 jw 3 a0 a5 Y ∧ mQ K (q.drop i) a3 a4 a9 p a5 a2 = some r) q.length d7.len ⟨c2, G, u, a7, k, b7, z, a8, t, B, b6, y, K, μ0, _, ⟨rfl, rfl⟩, (jC.refl _), (d.je St), rfl, rfl, rfl, d6, c6, d3, c7, d2, hm⟩ dc dc dc (fun _ _ _ h => by obtain ⟨_, _, _, _, _, _, _, _, _, _, _, _, _, _, _, ab, _⟩ := h; exact ab) ?_ ?_))
 ·rintro f6 E W g3 ⟨a3, N, M, a4, Q, a9, T, p, U, a0, a5, Y, a2, c1, d5, ⟨eI, eN⟩, b1, d, A, c3, c4, L, s, O, P, R, D⟩
  obtain ⟨I, j8, h4, h3, d9⟩ := jY g3
  rw [h4] at D
  refine bg (VQ (kC (enc := jg) (i := (f6 : Int)) (x0 := I) aJ an c4 eI (d7.mono (Pl.mono _) b1) (ak _) h3) (fun l1 g4 => V (jf rfl (kG d.has g4 aT an)) (VE (kl d bh (fun k3 e8 d => VO (jD (.agg (jg I).toArray) ((jg I).toArray) d rfl rfl an (mo I) nb rfl (fun k4 d => ln (jo ?_))))))))
  replace d := d.drew
  have m := d.has.je (Kb (Kb Sn))
  refine ko m jP (XH 0 rfl m (fun _ hS => jf rfl (jm hS Mh (jg I) rfl aT an)) (bS D fun l2 g7 D => XE 1 rfl (Eg d iM (jJ.kI (rU I _ _  g7)) (fun k5 d => ?_))))
  have m := d.has.je (Kb (Kb Sn))
  refine ⟨m, (X 2 rfl m (jl rfl) (PJ D (fun f7 E W => ∃ e4, ST false (keys b8) w W c1 ((e8, Ol (jg I) 108) :: ((H, Ob #[g, M, c, a, a0, (.int .i64 a2)] 174) :: (N ++ (Q ++ (T ++ (U ++ (Y ++ e4))))))) ∧ E 0 = (.pointer (some ⟨H, 0, none⟩)) ∧ E 5 = (.int .i64 K) ∧ E 7 = (.pointer (some ⟨e8, 0, none⟩)) ∧ E 14 = d1 ∧ E 15 = (.int .i64 (q.length : Int)) ∧ E 16 = (.int .i64 (f6 : Int)) ∧ E 30 = (.bool f7)) (bm 11 2047) 0 ?_ (fun f7 Z d4 => ?_)))⟩
  ·rintro l7 E W ⟨e4, d, c5, e9, f0, f1, f2, f3, i6⟩ J
   refine kz kr (jj (CI J i6 (fun g2 J => ?_) (fun g2 J => ?_)))
   ·refine sg (Wh c5 (V (jf f0 (jm d.has Mh (jg I) rfl aT an)) (bS J fun F g8 J => ?_)))
    refine VE (eM d (Cb (Pb Pz) (Cr (Qb Qz) (Cr (Qb Qz) (Cr (Qb Qz) (Cr (Qb Qz) (Cr (Qb Qz) Cn)))))) call171 (fun hh _ => ki.kI (DE H g a3 N M a4 Q c a9 T a p U a0 a5 Y a2 I _ _ hh L s O P R g8)) ?_)
    rintro _ l4 l8 k0 d f4 ad n ⟨f8, e5, e6, e7, c8, rfl, e0, e1, e2⟩
    obtain rfl := c8.symm
    replace d := d.perm (Tb (Tr (Tr (Tr (Tr (Tr Tn))))))
    refine ln (jk (Wh c5 (V (jf f0 (jm d.has (Mt (Ma (Ma (Ma (Ma (Ma Mh)))))) (jg I) rfl aT an)) (bS J fun d8 g9 J => ?_))))
    refine VE (eM d (Cb Pz (Cr Qz (Cr Qz (Cr Qz (Cr Qz (Cr Qz Cn)))))) call172 (fun hh _ => (CU H g a3 N f8 F.1 e5 c F.2.1 e6 a F.2.2 e7 a0 a5 Y a2 I _ _ hh L e0 e1 e2 R g9)) ?_)
    rintro _ l5 j0 k1 d f5 af n ⟨i2, i8, i3, c9, rfl, h5, h6⟩
    obtain rfl := c9.symm
    replace d := d.perm (Tb (Tr (Tr (Tr (Tr (Tr Tn))))))
    refine jH (jV (jj ?_))
    replace d := d.je (Kb (Kr (Kr (Kr (Kr (Kr (Db St)))))))
    exact ⟨f3, d8.1, i2, f8, F.1, e5, F.2.1, e6, F.2.2, e7, i8, d8.2.1, i3, d8.2.2, j0, _, ⟨rfl, f2⟩, ((b1.trans f4).trans f5), (d.je St), c5, e9, f1, h5, e0, e1, e2, h6, (by rw [d9]; exact J)⟩
   refine jW (jV (jj ?_))
   replace d := d.je (Db St)
   exact ⟨f3, a3, N, M, a4, Q, a9, T, p, U, a0, a5, Y, a2, c1, _, ⟨rfl, f2⟩, b1, (d.je St), c5, e9, f1, L, s, O, P, R, (by rw [d9]; exact J)⟩
  refine bC Z (fun j Z => ?_) (fun j Z => ?_)
  ·refine Xg 3 rfl rfl (cB j) m (jl A) (Xg 4 rfl rfl (cB j) m (kJ rfl) (Xg 5 rfl rfl (cB j) m (jh HR rfl) (yo 6 rfl rfl (cB j) m (fun _ hS => jf rfl (jq hS (Mt Mh) rfl isAgg22)) (yo 7 rfl rfl (cB j) m (fun _ hS => jf rfl (jm hS Mh (jg I) rfl aT an)) (bS Z fun l3 h1 Z => Is 8 rfl rfl (cB j) (Eg d call151 (jJ.kI (GU M a4 I _ _ (s.sl lz (fun b o hq => d.at_ (Mt (Mt (Ma (Ml hq)))))) h1)) (fun k8 d => ?_)))))))
   have m := d.has.je (Kb (Kb Sn))
   refine ⟨m, (Xg 9 rfl rfl (cB j) m (lM rfl) (X 10 rfl m (jz (cB j) rfl) ?_))⟩
   obtain rfl := sj Z
   refine tL kr (d4 _ _ ⟨_, (d.je St), A, c3, rfl, c4, eN, eI, rfl⟩)
  refine Xn 3 rfl rfl (cB j) m (Xn 4 rfl rfl (cB j) m (Xn 5 rfl rfl (cB j) m (Xn 6 rfl rfl (cB j) m (Xn 7 rfl rfl (cB j) m (Xn 8 rfl rfl (cB j) m (Xn 9 rfl rfl (cB j) m (X 10 rfl m (jA (cB j) rfl) ?_)))))))
  obtain rfl := sj Z
  refine tL kr (d4 _ _ ⟨_, (d.je St), A, c3, rfl, c4, eN, eI, rfl⟩)
 rintro E W ⟨a3, N, M, a4, Q, a9, T, p, U, a0, a5, Y, a2, c1, d5, ⟨eI, eN⟩, b1, d, A, c3, c4, L, s, O, P, R, D⟩
 rw [ap] at D
 refine jj (sg (Wh A (bS D fun i7 h2 D => ?_)))
 refine VE (eM d (Cb Pz (Cr Qz (Cr Qz (Cr Qz (Cr Qz (Cr Qz Cn)))))) call173 (fun hh _ => (Cm H g a3 N M a4 Q c a9 T a p U a0 a5 Y a2 _ _ hh L s O P R h2)) ?_)
 rintro _ l6 l9 k2 d j6 ao n ⟨i4, i9, i5, d0, rfl, h7, h8⟩
 obtain rfl := d0.symm
 replace d := d.perm (Tb (Tr (Tr (Tr (Tr (Tr Tn))))))
 refine lr (Wh A (Wn (Wf Fg (VB d Mh rfl rfl bl (Wh c3 (Wi rfl (Wa (lt ?_))))))))
 obtain rfl := sj D
 exact jR (v := (.int .i64 (wi0 .i64 (i7.2.2 - K)))) rfl rfl ⟨_, _, rfl, (d.kF (Kb (Kr (Kr (Kr (Kr (Kr Sn))))))), i4, M, Q, T, U, i9, i5, rfl, rfl, h7, s, O, P, h8⟩
theorem NA (j : Value) (H : List jb) (r : ((List (ja × (List (ByteArray × Bool)))) × (List jb) × (List (ja × (List jb))) × (List (ByteArray × (List jb))) × (List jd) × Int)) (w : World) (J : Sl (Pl jg) 9 (hp w) j H) (hm : vt H = some r) :
  ki false pg0 47 [j] w [] (fun v L1 W' => ∃ n p S3 q S6 s S9 D u G y, v = (.pointer (some ⟨n, 0, none⟩)) ∧ L1 = ((n, Ob #[p, q, s, D, G, (.int .i64 (r.2.2.2.2.2))] 174) :: (S3 ++ (S6 ++ (S9 ++ (u ++ (y ++ [])))))) ∧ kU (fun (x : ja) => (.agg (jc x).toArray)) (kE Value.string (fun (x : Bool) => (Value.bool x))) p r.1 S3 ∧ jy 108 jg 9 q r.2.1 S6 ∧ kU (fun (x : ja) => (.agg (jc x).toArray)) (jy 108 jg 9) s r.2.2.1 S9 ∧ kU Value.string (jy 108 jg 9) D r.2.2.2.1 u ∧ pk 38 jw 3 G r.2.2.2.2.1 y) := by
 refine vi 13 func47 rfl (fun d => sg (Wa (lr (VE (Di (P := pg0) (fun (x : ja) => (.agg (jc x).toArray)) (kE Value.string (fun (x : Bool) => (Value.bool x))) d (fun W1 v4 R2 d z => VE (Di (P := pg0) (fun (x : ja) => (.agg (jc x).toArray)) (jy 108 jg 9) d (fun W5 v8 R6 d B => VE (Di (P := pg0) Value.string (jy 108 jg 9) d (fun W9 W Y d t => ?_))))))))))
 obtain ⟨a, rfl⟩ := z.form
 obtain ⟨c, rfl⟩ := B.form
 obtain ⟨g, rfl⟩ := t.form
 refine V (kO (v := (.agg #[(.map (some a)), (.slice none 0 0), (.map (some c)), (.map (some g)), (.slice none 0 0), (.int .i64 0)])) (O2 rfl rfl rfl) (ku zeroValue174 dp (TE _ dp) kr)) (VE (jU d rfl (fun c1 k d => Wa (lr (Wm (Wm (bS hm fun R K hm => ?_)))))))
 refine VE (eM d (Cb Pz (Cr (Qr (Qr Qz)) (C0 (Cr (Qr Qz) (Cr Qz (C0 Cn)))))) call109 (fun I m => (Ea k (.map (some a)) ([]) R2 (.slice none 0 0) ([]) [] (.map (some c)) ([]) R6 (.map (some g)) ([]) Y (.slice none 0 0) ([]) [] 0 j H _ _ I z (jy.nil _ _ _) B t (pk.nil _ _ _) (J.mono (Pl.mono _) m) K)) ?_)
 rintro _ c5 c6 O d L o h ⟨Z, A, a2, a3, a4, F, a5, i, rfl, M, N, Q, T, U⟩
 obtain rfl := i.symm
 replace d := d.perm (Tb (Tr (Tr (Tr (Tr (Tr Tn))))))
 refine lr (Wm (Wa (lt ?_)))
 obtain rfl := sj hm
 exact jR (v := (.pointer (some ⟨k, 0, none⟩))) rfl rfl ⟨_, _, rfl, (d.J3 (Kb (Kr (Kr (Kr (Kr (Kr Sn))))))), k, (.map (some a)), Z, A, a2, (.map (some c)), a3, (.map (some g)), a4, F, a5, rfl, rfl, M, N, Q, T, U⟩
theorem Ox (i : Al) (a c g t j k : Value) (r : ((List (ja × (List (ByteArray × Bool)))) × (List jb) × (List (ja × (List jb))) × (List (ByteArray × (List jb))) × (List jd) × Int × ByteArray × ByteArray × Int)) (w : World) (y : Sl uf 15 (hp w) a i.mD.w6) (z : Sl zP 8 (hp w) c i.mD.A8) (u : Sl (Pl jg) 9 (hp w) g i.ph) (G : Sl (Pl jg) 9 (hp w) t i.Shown) (B : Sl (Pl jc) 2 (hp w) j i.lV) (D : Sl (Pl jc) 2 (hp w) k i.Dy) (hm : BW i = some r) :
  ki false pg0 73 [(.agg #[(.string i.mD.Name), a, c, (.string i.Ae), (.int .i64 i.Room), g, t, j, k])] w [] (fun v L1 W' => ∃ m n p S4 q S7 s J U K Y M Q, v = (.func (.func 144) #[] #[(.pointer (some ⟨m, 0, none⟩)), (.pointer (some ⟨Q, 0, none⟩))]) ∧ L1 = ((m, Ob #[(.pointer (some ⟨n, 0, none⟩))] 101) :: ((n, Ob #[p, q, s, U, Y, (.int .i64 (r.2.2.2.2.2.1))] 174) :: ((Q, Ob #[(.string (r.2.2.2.2.2.2.1)), a, c, (.string (r.2.2.2.2.2.2.2.1)), (.int .i64 (r.2.2.2.2.2.2.2.2)), g, t, j, k] 54) :: (S4 ++ (S7 ++ (J ++ (K ++ (M ++ [])))))))) ∧ kU (fun (x : ja) => (.agg (jc x).toArray)) (kE Value.string (fun (x : Bool) => (Value.bool x))) p r.1 S4 ∧ jy 108 jg 9 q r.2.1 S7 ∧ kU (fun (x : ja) => (.agg (jc x).toArray)) (jy 108 jg 9) s r.2.2.1 J ∧ kU Value.string (jy 108 jg 9) U r.2.2.2.1 K ∧ pk 38 jw 3 Y r.2.2.2.2.1 M) := by
 refine vi 8 func73 rfl (fun d => sg ?_)
 obtain ⟨A1, c2, rfl⟩ := y.form
 obtain ⟨A3, c4, rfl⟩ := z.form
 obtain ⟨A5, W, rfl⟩ := u.form
 obtain ⟨A7, c8, rfl⟩ := G.form
 obtain ⟨A9, c1, rfl⟩ := B.form
 obtain ⟨a7, c3, rfl⟩ := D.form
 refine VE (jU d rfl (fun e6 N d => Wa (lr (Wf GQ (VB d Mh rfl rfl isAgg22 (bS hm fun f0 A hm => ?_))))))
 refine VE (FO d (cX _) call47 (fun _ _ _ _ => (NA (.slice A5 i.ph.length W) i.ph _ _ (u.mono (Pl.mono _) d.ju) A)) (fun e7 f1 f2 e5 d d6 o h Z => ?_) (L0 := []))
 obtain ⟨I, c7, a9, c9, L, d1, O, d2, P, d3, R, H, rfl, a2, a3, a4, a5, F⟩ := Z
 replace H := H.symm; subst H
 replace d := d.perm (Tb (Tr (Tr (Tr (Tr (Tr Tn))))))
 refine VE (kl d zeroValue101 (fun e8 T d => VO (jD (.pointer (some ⟨I, 0, none⟩)) (#[(.pointer (some ⟨I, 0, none⟩))]) d rfl rfl sizeOf101 oc nb rfl (fun e9 d => lr (V (rF (by exact og rfl rfl) rfl) (Wa (lt ?_)))))))
 obtain rfl := sj hm
 exact jR (v := (.func (.func 144) #[] #[(.pointer (some ⟨T, 0, none⟩)), (.pointer (some ⟨N, 0, none⟩))])) rfl rfl ⟨_, _, rfl, (d.J3 (Kb (Kb (Sb (Pr (Pr (Pr (Pr (Pr Pz))))) (Kr (Kr (Kr (Kr (Kr Sn))))))))), T, I, c7, a9, c9, L, d1, O, d2, P, d3, R, N, rfl, rfl, a2, a3, a4, a5, F⟩
theorem DF (T : Formula → Int → Option (Int × Int)) (p : ∀ (t : Formula) (j : Value) (I : Int) (r : (Int × Int)) (w : World) (g : Sl jZ 5 (hp w) j t.Kids), T t I = some r → jJ false pg0 211 [(.agg #[(.int .i64 t.Op), (.int .i64 t.K), (.string t.ja.jn), (.string t.ja.jK), j]), (.int .i64 I)] w (.tuple #[(.int .i64 r.1), (.int .i64 r.2)])) (t : Formula) (j : Value) (I : Int) (r : (Int × Int)) (w : World) (g : Sl jZ 5 (hp w) j t.Kids) (hm : vr T t I = some r) :
  jJ false pg0 211 [(.agg #[(.int .i64 t.Op), (.int .i64 t.K), (.string t.ja.jn), (.string t.ja.jK), j]), (.int .i64 I)] w (.tuple #[(.int .i64 r.1), (.int .i64 r.2)]) := by
 refine cG 40 func211 rfl (fun d => sg ?_)
 obtain ⟨A1, c2, rfl⟩ := g.form
 refine VE (jU d rfl (fun W4 R d => Wa (Wa (lr (Wa (Wa (lS (Wf yQ ?_))))))))
 refine VB d Mh rfl rfl ib (V (kj cR rfl g) (Wm (ln ?_)))
 replace d := d.je (Db St)
 refine CJ hm (fun Q E W => ∃ a2, ST false jT w W (hp w) a2 ∧ E 6 = (.int .i64 Q.1) ∧ E 7 = (.int .i64 Q.2)) (fun Q a5 => ?_) ?_
 ·refine km (fun i E W => ∃ y z J, (E 15 = .int .i64 (i : Nat) ∧ E 14 = .int .i64 (t.Kids.length : Nat)) ∧ ST false jT w W (hp w) J ∧ E 1 = (.int .i64 I) ∧ E 6 = (.int .i64 y) ∧ E 7 = (.int .i64 z) ∧ E 13 = (.slice A1 t.Kids.length c2) ∧ oK I T (t.Kids.drop i) y z = some Q) t.Kids.length g.len ⟨1, 0, _, ⟨rfl, rfl⟩, (d.je St), rfl, rfl, rfl, rfl, a5⟩ dc dc dc (fun _ _ _ h => by obtain ⟨_, _, _, n, _⟩ := h; exact n) ?_ ?_
  ·rintro L E W a3 ⟨y, z, J, ⟨m, o⟩, d, G, x, H, K, a⟩
   obtain ⟨c, c6, s, q, a9⟩ := jY a3
   rw [s] at a
   refine bg (VQ (Dq (i := (L : Int)) (x0 := c) jZ.out cR bI K m g (ak _) q) (fun c4 ⟨_, ⟨c5, rfl, N⟩, Y⟩ => V (jf rfl (kG d.has Y cC bI)) (VE (kl d ic (fun b9 c3 d => ?_)))))
   obtain ⟨B, D, rfl⟩ := N.form
   let a0 := (C1 c.Op c.K c.ja.jn c.ja.jK B c.Kids.length D)
   refine VO (jD (.agg a0.toArray) (a0.toArray) d rfl rfl bI oc nb rfl (fun c0 d => lS (Wh x (Wh G (Wi rfl (ln (CI a rfl (fun U a => ?_) (fun U a => ?_))))))))
   ·refine mI (lZ (P6 (by simp) (lZ (sr (jj ?_)))))
    obtain rfl := sj a
    exact ⟨_, (d.je (Db St)), x, H⟩
   refine kg (VA d Mh a0 cC bI (Wh G (Wh x (Wi rfl (bS a fun M Z a => VE (Eg d call211 (p c (.slice B c.Kids.length D) (wi0 .i64 (I - y)) _ _ (N.mono lX.mono d.ju) Z) (fun c1 d => Wm (Wx rfl (Wx rfl (Wa (Wa ?_)))))))))))
   refine ln ?_
   replace d := d.je (Db St)
   exact jk (Wh x (Wm (Wi rfl (Wh H (Wm (V (OM (k := .i64) rfl rfl) (Wa (Wa (jH (jV (jj ⟨m, (wi0 .i64 (y + M.1)), (if M.2 > z then M.2 else z), _, ⟨rfl, o⟩, (d.je St), G, rfl, rfl, K, (by rw [a9]; exact a)⟩)))))))))))
  rintro E W ⟨y, z, J, ⟨m, o⟩, d, G, x, H, K, a⟩
  rw [ap] at a
  refine jj ?_
  obtain rfl := sj a
  exact ⟨_, (d.je St), x, H⟩
 rintro ⟨O, P⟩ E W ⟨a2, d, A, F⟩ a4
 refine sg (Wh A (Wh F (Wi rfl (Wa (Wa (lt ?_))))))
 obtain rfl := sj a4
 exact rL (v := (.int .i64 O)) (u := (.int .i64 (wi0 .i64 (P + 1)))) rfl rfl rfl ⟨rfl, d.ex⟩
theorem BA : ∀ (n : Nat) (c : Formula) (a : Value) (i : Int) (r : (Int × Int)) (w : World) (g : Sl jZ 5 (hp w) a c.Kids) (_ : nx n c i = some r),
  jJ false pg0 211 [(.agg #[(.int .i64 c.Op), (.int .i64 c.K), (.string c.ja.jn), (.string c.ja.jK), a]), (.int .i64 i)] w (.tuple #[(.int .i64 r.1), (.int .i64 r.2)])
 | 0 => by intros; rename_i h; simp only [nx] at h; cases h
 | n + 1 => DF (nx n) (BA n)
theorem HE (a : Formula) (g : Value) (r : (Int × Int)) (w : World) (c : Sl jZ 5 (hp w) g a.Kids) (hm : w4 a = some r) :
  jJ false pg0 174 [(.agg #[(.int .i64 a.Op), (.int .i64 a.K), (.string a.ja.jn), (.string a.ja.jK), g])] w (.tuple #[(.int .i64 r.1), (.int .i64 r.2)]) := by
 refine cG 15 func174 rfl (fun d => sg ?_)
 obtain ⟨i, j, rfl⟩ := c.form
 refine VE (jU d rfl (fun y B d => Wa (Wa (lr (VA d Mh (C1 a.Op a.K a.ja.jn a.ja.jK i a.Kids.length j) cC bI (bS hm fun x t hm => VE (Eg d call211 ((BA jX) a (.slice i a.Kids.length j) 4096 _ _ (c.mono lX.mono d.ju) t) (fun z d => Wm (Wx rfl (Wx rfl (Wa (Wa ?_))))))))))))
 refine ln ?_
 replace d := d.je (Db St)
 refine jo (sg (Wm (Wi rfl (ln (CI hm rfl (fun k hm => ?_) (fun k hm => ?_))))))
 ·refine sg (Wa (Wa (lt (jE ?_))))
  obtain rfl := sj hm
  exact rL (v := (.int .i64 0)) (u := (.int .i64 0)) rfl rfl rfl ⟨rfl, d.ex⟩
 refine kg (Wm (Wm (Wa (Wa (lt ?_)))))
 obtain rfl := sj hm
 exact rL (v := (.int .i64 x.1)) (u := (.int .i64 x.2)) rfl rfl rfl ⟨rfl, d.ex⟩
theorem Hw (a : Formula) (H : Value) (r : Bool) (w : World) (t : Sl jZ 5 (hp w) H a.Kids) (hm : wW a = some r) :
  jJ true pg0 212 [(.agg #[(.int .i64 a.Op), (.int .i64 a.K), (.string a.ja.jn), (.string a.ja.jK), H])] w (.bool r) := by
 refine cG 63 func212 rfl (fun d => sg ?_)
 obtain ⟨A1, c2, rfl⟩ := t.form
 let n := (C1 a.Op a.K a.ja.jn a.ja.jK A1 a.Kids.length c2)
 refine VE (jU d rfl (fun W4 N d => Wa (lr (V (kO (v := (.agg (jc K0).toArray)) sG (ku bj bA (EC _ bA) kr)) (VE (kl d bj (fun W6 F d => VO (jD (.agg (jc K0).toArray) ((jc K0).toArray) d rfl rfl ag (lf K0) nb rfl (fun W7 d => lS (Wf E1 ?_))))))))))
 refine VB d (Mt Mh) rfl rfl bl (ln (bg (Wi rfl (Wa (ln (CI hm rfl (fun d9 hm => ?_) (fun d9 hm => ?_)))))))
 ·refine sg (Wf El (VA d (Mt Mh) (jc a.ja) au ag (bS hm fun f7 e5 hm => VE (Eg d ia (qx a.ja _ _  e5) (fun f5 d => Wm (LJ hm (fun d2 E W => ∃ P, ST true jT w W (hp w) ((N, Ol n 57) :: P) ∧ E 1 = (.pointer (some ⟨N, 0, none⟩)) ∧ E 2 = (.bool false) ∧ E 17 = (.bool d2)) 5 ?_ (fun d2 J a4 => ?_)))))))
  ·rintro f8 E W ⟨P, d, e7, c9, e8⟩ e1
   refine Wh e8 (LJ e1 (fun d1 E W => ∃ R, ST true jT w W (hp w) R ∧ E 2 = (.bool false) ∧ E 22 = (.bool d1)) 4 ?_ (fun d1 I a3 => ?_))
   ·rintro f9 E W ⟨R, d, f6, e9⟩ e2
    refine Wg e9 (lt (kH (jE ?_)))
    obtain rfl := sj e2
    exact rP d
   refine bC I (fun u I => ?_) (fun u I => ?_)
   ·refine ug u (jh EU e7) (ug u (jf rfl (jq d.has Mh rfl bl)) (ug u (kv rfl rfl rfl) (V (jz (cB u) rfl) ?_)))
    obtain rfl := sj I
    exact a3 _ _ ⟨_, (d.je (Db St)), c9, rfl⟩
   refine un u (un u (un u (V (jA (cB u) rfl) ?_)))
   obtain rfl := sj I
   exact a3 _ _ ⟨_, (d.je (Db St)), c9, rfl⟩
  refine bC J (fun j J => ?_) (fun j J => ?_)
  ·refine ug j (jh yQ rfl) (ug j (jf rfl (jq d.has (Mt Mh) rfl ib)) (ug j (kj cR rfl t) (ug j (kv rfl rfl rfl) (V (jz (cB j) rfl) ?_))))
   obtain rfl := sj J
   exact a4 _ _ ⟨_, (d.je (Db St)), rfl, rfl, rfl⟩
  refine un j (un j (un j (un j (V (jA (cB j) rfl) ?_))))
  obtain rfl := sj J
  exact a4 _ _ ⟨_, (d.je (Db St)), rfl, rfl, rfl⟩
 let a0 := (n.toArray : Array Value)
 let h : Value := (.pointer (some ⟨N, 0, none⟩))
 refine jo (CJ hm (fun O E W => ∃ c6, ST true jT w W (hp w) ((F, Ol (jc K0) 28) :: ((N, Obj.cells a0 57 (0, 0)) :: c6)) ∧ E 1 = h ∧ E 3 = (.pointer (some ⟨F, 0, none⟩)) ∧ E 23 = (.bool O)) (fun O G => ?_) ?_)
 ·refine sg (Wi rfl (Wa (ln (CI G rfl (fun b9 G => ?_) (fun b9 G => ?_)))))
  ·refine kn ?_
   obtain rfl := sj G
   exact ⟨_, (d.je St), rfl, rfl, rfl⟩
  refine jk (Wi rfl (Wa (ln ?_)))
  obtain rfl := sj G
  exact ⟨_, (d.je St), rfl, rfl, rfl⟩
 rintro g0 E W ⟨c6, d, Q, d0, f0⟩ K
 refine CI K f0 (fun e0 K => ?_) (fun e0 K => ?_)
 ·refine sg (V (jh El Q) (VA d (Mt Mh) (jc a.ja) au ag (V (jf d0 (jm d.has Mh (jc K0) rfl au ag)) (V (uL rfl rfl (lN ck) (qK (ni _ a.ja K0))) (Wm (LJ K (fun d3 E W => ∃ c7, ST true jT w W (hp w) c7 ∧ E 34 = (.bool d3)) 4 ?_ (fun d3 M a5 => ?_)))))))
  ·rintro g1 E W ⟨c7, d, f1⟩ e3
   refine Wg f1 (lt (kH (jE ?_)))
   obtain rfl := sj e3
   exact rP d
  refine bC M (fun x M => ?_) (fun x M => ?_)
  ·refine ug x (jh EU Q) (ug x (jf rfl (jq d.has (Mt Mh) rfl bl)) (ug x (kv rfl rfl rfl) (V (jz (cB x) rfl) ?_)))
   obtain rfl := sj M
   exact a5 _ _ ⟨_, (d.je (Db (Db St))), rfl⟩
  refine un x (un x (un x (V (jA (cB x) rfl) ?_)))
  obtain rfl := sj M
  exact a5 _ _ ⟨_, (d.je (Db (Db St))), rfl⟩
 refine jW (jV (jj (sg (V (jh E1 Q) (VB d (Mt Mh) rfl rfl bl (Wi rfl (Wm (LJ K (fun L E W => ∃ c8, ST true jT w W (hp w) ((N, Obj.cells a0 57 (0, 0)) :: c8) ∧ E 1 = h ∧ E 43 = (.bool L)) 5 ?_ (fun L D m => ?_)))))))))
 ·rintro g2 E W ⟨c8, d, a2, d4⟩ e4
  refine Wh d4 (LJ e4 (fun A E W => ∃ o, ST true jT w W (hp w) ((N, Obj.cells a0 57 (0, 0)) :: o) ∧ E 1 = h ∧ E 48 = (.bool A)) 4 ?_ (fun A B Z => ?_))
  ·rintro f2 E W ⟨o, d, T, d5⟩ c0
   refine Wh d5 (LJ c0 (fun s E W => ∃ a9, ST true jT w W (hp w) ((N, Obj.cells a0 57 (0, 0)) :: a9) ∧ E 1 = h ∧ E 56 = (.bool s)) 7 ?_ (fun s z Y => ?_))
   ·rintro f3 E W ⟨a9, d, d6, d7⟩ c1
    refine Wh d7 (LJ c1 (fun q E W => ∃ p, ST true jT w W (hp w) p ∧ E 62 = (.bool q)) 5 ?_ (fun q y U => ?_))
    ·rintro f4 E W ⟨p, d, d8⟩ c3
     exact Wg d8 (lt (rQ c3 d))
    refine bC y (fun g y => ?_) (fun g y => ?_)
    ·refine ug g (jh yQ d6) (ug g (jf rfl (jq d.has Mh rfl ib)) (ug g (kj cR rfl t) (ug g (kv rfl rfl rfl) (V (jz (cB g) rfl) ?_))))
     obtain rfl := sj y
     exact U _ _ ⟨_, (d.je (Db St)), rfl⟩
    refine un g (un g (un g (un g (V (jA (cB g) rfl) ?_))))
    obtain rfl := sj y
    exact U _ _ ⟨_, (d.je (Db St)), rfl⟩
   refine bC z (fun c z => ?_) (fun c z => ?_)
   ·refine ug c (jh EU T) (ug c (jf rfl (jq d.has Mh rfl bl)) (ug c (jh yQ T) (ug c (jf rfl (jq d.has Mh rfl ib)) (ug c (kj cR rfl t) (ug c (kv rfl rfl rfl) (V (jz (cB c) rfl) ?_))))))
    obtain rfl := sj z
    exact Y _ _ ⟨_, (d.je St), T, rfl⟩
   refine un c (un c (un c (un c (un c (un c (V (jA (cB c) rfl) ?_))))))
   obtain rfl := sj z
   exact Y _ _ ⟨_, (d.je St), T, rfl⟩
  refine bC B (fun i B => ?_) (fun i B => ?_)
  ·refine ug i (jh EU a2) (ug i (jf rfl (jq d.has Mh rfl bl)) (ug i (kv rfl rfl rfl) (V (jz (cB i) rfl) ?_)))
   obtain rfl := sj B
   exact Z _ _ ⟨_, (d.je St), a2, rfl⟩
  refine un i (un i (un i (V (jA (cB i) rfl) ?_)))
  obtain rfl := sj B
  exact Z _ _ ⟨_, (d.je St), a2, rfl⟩
 refine bC D (fun k D => ?_) (fun k D => ?_)
 ·refine ug k (jh El Q) (ug k (jf rfl (jm d.has (Mt Mh) (jc a.ja) rfl au ag)) (ug k (jf d0 (jm d.has Mh (jc K0) rfl au ag)) (ug k (uL rfl rfl (lN ck) (qK (ni _ a.ja K0))) (V (jz (cB k) rfl) ?_))))
  obtain rfl := sj D
  exact m _ _ ⟨_, (d.je (Db St)), Q, rfl⟩
 refine un k (un k (un k (un k (V (jA (cB k) rfl) ?_))))
 obtain rfl := sj D
 exact m _ _ ⟨_, (d.je (Db St)), Q, rfl⟩
theorem Ah (g : Value) (t : List Formula) (j : Value) (z : Formula → Option Bool) (r : Int) (w : World) (c : Sl jZ 5 (hp w) g t) (B : Ii pg0 j (hp w) (KU jZ) (fun (r : Bool) => (.bool r)) z) (hm : sw t z = some r) :
  jJ false pg0 253 [g, j] w (.int .i64 r) := by
 refine cG 19 func253 rfl (fun d => sg (Wa (lS (Wm (V (kj cR rfl c) (Wm (ln (km (fun i E W => ∃ k, (E 8 = .int .i64 (i : Nat) ∧ E 7 = .int .i64 (t.length : Nat)) ∧ ST false jT w W (hp w) k ∧ E 0 = g ∧ E 1 = j ∧ mi z (t.drop i) i = some r) t.length c.len ⟨_, ⟨rfl, rfl⟩, (d.je St), rfl, rfl, hm⟩ dc dc dc (fun _ _ _ h => by obtain ⟨_, n, _⟩ := h; exact n) ?_ ?_))))))))
 ·rintro Q E W G ⟨k, ⟨m, o⟩, d, u, x, a⟩
  obtain ⟨y, U, M, K, N⟩ := jY G
  rw [M] at a
  refine bg (Wh m (Wa (lr (Wh x (Wh u (Wm (VQ (Dq (i := (Q : Int)) (x0 := y) jZ.out cR bI rfl rfl c (ak _) K) (fun Z ⟨_, ⟨T, rfl, J⟩, H⟩ => V (jf rfl (kG d.has H cC bI)) (bS a fun p I a => ?_)))))))))
  refine VE (Tm y d B (jC.refl _) (KU.mk lX (jZ.mk ⟨T, rfl, J⟩) d.ju) rfl (ny rfl) I (fun Y d => ln (CI a rfl (fun D a => ?_) (fun D a => ?_))))
  ·refine sg (Wm (Wa (lt (kH (jE (kH (jE ?_)))))))
   obtain rfl := sj a
   exact rP d
  exact jW (jV (jj ⟨m, _, ⟨rfl, o⟩, (d.je St), u, x, (by rw [N]; exact a)⟩))
 rintro E W ⟨k, ⟨m, o⟩, d, u, x, a⟩
 rw [ap] at a
 exact jj (sg (Wa (lt (rQ a d))))
theorem zc (a : Value) (g : List Formula) (c : Value) (i : Formula → Option Bool) (r : Bool) (w : World) (j : Sl jZ 5 (hp w) a g) (k : Ii pg0 c (hp w) (KU jZ) (fun (r : Bool) => (.bool r)) i) (hm : mY g i = some r) :
  jJ false pg0 213 [a, c] w (.bool r) := by
 refine cG 9 func213 rfl (fun d => sg (Wa (lr (Wm (Wm (bS hm fun x t hm => VE (Eg d call253 (Ah a g c i _ _ (j.mono lX.mono d.ju) (k.mono d.ju) t) (fun u d => Wi rfl (Wa (jH ?_))))))))))
 exact jj (jN (rQ hm d))
theorem Ev (i : Formula → Option Bool) (t : ∀ (c : Formula) (a : Value) (r : Bool) (w : World) (g : Sl jZ 5 (hp w) a c.Kids), i c = some r → jJ false pg0 175 [(.agg #[(.int .i64 c.Op), (.int .i64 c.K), (.string c.ja.jn), (.string c.ja.jK), a])] w (.bool r)) (c : Formula) (a : Value) (r : Bool) (w : World) (g : Sl jZ 5 (hp w) a c.Kids) (hm : ui i c = some r) :
  jJ false pg0 214 [(.agg #[(.int .i64 c.Op), (.int .i64 c.K), (.string c.ja.jn), (.string c.ja.jK), a])] w (.bool r) := by
 refine cG 6 func214 rfl (fun d => sg ?_)
 obtain ⟨j, k, rfl⟩ := g.form
 refine VE (jU d rfl (fun x z d => Wa (lr (VA d Mh (C1 c.Op c.K c.ja.jn c.ja.jK j c.Kids.length k) cC bI (bS hm fun B u hm => VE (Eg d call175 (t c (.slice j c.Kids.length k) _ _ (g.mono lX.mono d.ju) u) (fun y d => V (lM rfl) (Wa (ln ?_)))))))))
 exact jN (rQ hm d)
theorem Dk (z : Formula → Option Bool) (T : ∀ (a : Formula) (g : Value) (r : Bool) (w : World) (c : Sl jZ 5 (hp w) g a.Kids), z a = some r → jJ false pg0 175 [(.agg #[(.int .i64 a.Op), (.int .i64 a.K), (.string a.ja.jn), (.string a.ja.jK), g])] w (.bool r)) (a : Formula) (g : Value) (r : Bool) (w : World) (c : Sl jZ 5 (hp w) g a.Kids) (hm : vx z a = some r) :
  jJ false pg0 175 [(.agg #[(.int .i64 a.Op), (.int .i64 a.K), (.string a.ja.jn), (.string a.ja.jK), g])] w (.bool r) := by
 refine cG 17 func175 rfl (fun d => sg ?_)
 obtain ⟨B, D, rfl⟩ := c.form
 let a0 := (C1 a.Op a.K a.ja.jn a.ja.jK B a.Kids.length D)
 refine VE (jU d rfl (fun W4 U d => Wa (lr (VA d Mh a0 cC bI (bS hm fun A a3 hm => VE (Eg d call212 (jJ.kI (Hw a (.slice B a.Kids.length D) _ _ (c.mono lX.mono d.ju) a3)) (fun W7 d => Wm (LJ hm (fun K E W => ∃ G, ST false jT w W (hp w) ((U, Ol a0 57) :: G) ∧ E 1 = (.pointer (some ⟨U, 0, none⟩)) ∧ E 2 = (.bool false) ∧ E 10 = (.bool K)) 5 ?_ (fun K t y => ?_)))))))))
 ·rintro F E W ⟨G, d, Y, I, Z⟩ M
  refine Wh Z (LJ M (fun J E W => ∃ H, ST false jT w W (hp w) H ∧ E 2 = (.bool false) ∧ E 16 = (.bool J)) 5 ?_ (fun J k u => ?_))
  ·rintro s E W ⟨H, d, p, h⟩ N
   exact Wg h (lt (rQ N d))
  refine bC k (fun i k => ?_) (fun i k => ?_)
  ·refine ug i (jh yQ Y) (ug i (jf rfl (jq d.has Mh rfl ib)) (bS k fun q Q k => pV i (Eg d call213 (zc (.slice B a.Kids.length D) a.Kids (.func (.func 214) #[] #[]) (fun (x : Formula) => ui z x) _ _ (c.mono lX.mono d.ju) ⟨214, #[], #[], rfl, call214, fun W x vs r v m hm => by obtain ⟨_, rfl, a2⟩ := m; obtain ⟨o, rfl, n⟩ := a2.out; exact Ev z T x o r W n hm⟩ Q) (fun a5 d => ug i (lM rfl) (V (jz (cB i) rfl) ?_)))))
   obtain rfl := sj k
   exact u _ _ ⟨_, (d.je (Db St)), I, rfl⟩
  refine un i (un i (un i (un i (V (jA (cB i) rfl) ?_))))
  obtain rfl := sj k
  exact u _ _ ⟨_, (d.je (Db St)), I, rfl⟩
 refine bC t (fun j t => ?_) (fun j t => ?_)
 ·refine ug j (jh yQ rfl) (ug j (jf rfl (jq d.has Mh rfl ib)) (ug j (kj cR rfl c) (ug j (kv rfl rfl rfl) (V (jz (cB j) rfl) ?_))))
  obtain rfl := sj t
  exact y _ _ ⟨_, (d.je St), rfl, rfl, rfl⟩
 refine un j (un j (un j (un j (V (jA (cB j) rfl) ?_))))
 obtain rfl := sj t
 exact y _ _ ⟨_, (d.je St), rfl, rfl, rfl⟩
theorem BR : ∀ (n : Nat) (c : Formula) (a : Value) (r : Bool) (w : World) (g : Sl jZ 5 (hp w) a c.Kids) (_ : qy n c = some r),
  jJ false pg0 175 [(.agg #[(.int .i64 c.Op), (.int .i64 c.K), (.string c.ja.jn), (.string c.ja.jK), a])] w (.bool r)
 | 0 => by intros; rename_i h; simp only [qy] at h; cases h
 | n + 1 => Dk (qy n) (BR n)
theorem Bx (a : Formula) (k : Value) (r : Bool) (w : World) (c : Sl jZ 5 (hp w) k a.Kids) (hm : po a = some r) :
  jJ false pg0 110 [(.agg #[(.int .i64 a.Op), (.int .i64 a.K), (.string a.ja.jn), (.string a.ja.jK), k])] w (.bool r) := by
 refine cG 24 func110 rfl (fun d => sg ?_)
 obtain ⟨y, z, rfl⟩ := c.form
 let a0 := (C1 a.Op a.K a.ja.jn a.ja.jK y a.Kids.length z)
 refine VE (jU d rfl (fun W4 H d => Wa (lr (VA d Mh a0 cC bI (bS hm fun p a9 hm => VE (Eg d call174 (HE a (.slice y a.Kids.length z) _ _ (c.mono lX.mono d.ju) a9) (fun W7 d => Wm (Wx rfl (Wx rfl (Wa (Wa (jH ?_))))))))))))
 refine jj (sg (Wm (Wi rfl (Wm (LJ hm (fun Y E W => ∃ I, ST false jT w W (hp w) ((H, Ol a0 57) :: I) ∧ E 1 = (.pointer (some ⟨H, 0, none⟩)) ∧ E 2 = (.bool false) ∧ E 4 = (.int .i64 p.2) ∧ E 15 = (.bool Y)) 3 ?_ (fun Y x G => ?_))))))
 ·rintro L E W ⟨I, d, M, N, a4, a5⟩ Z
  refine Wh a5 (LJ Z (fun U E W => ∃ J, ST false jT w W (hp w) ((H, Ol a0 57) :: J) ∧ E 1 = (.pointer (some ⟨H, 0, none⟩)) ∧ E 2 = (.bool false) ∧ E 19 = (.bool U)) 3 ?_ (fun U u D => ?_))
  ·rintro A E W ⟨J, d, m, Q, n⟩ h
   refine Wh n (LJ h (fun T E W => ∃ K, ST false jT w W (hp w) K ∧ E 2 = (.bool false) ∧ E 23 = (.bool T)) 3 ?_ (fun T j B => ?_))
   ·rintro F E W ⟨K, d, s, o⟩ a2
    exact Wg o (lt (rQ a2 d))
   refine bC j (fun i j => ?_) (fun i j => ?_)
   ·refine ug i (jf m (jm d.has Mh a0 rfl cC bI)) (bS j fun v a3 j => pV i (Eg d call175 ((BR jX) a (.slice y a.Kids.length z) _ _ (c.mono lX.mono d.ju) a3) (fun q d => V (jz (cB i) rfl) ?_)))
    obtain rfl := sj j
    exact B _ _ ⟨_, (d.je (Db St)), Q, rfl⟩
   refine un i (un i (V (jA (cB i) rfl) ?_))
   obtain rfl := sj j
   exact B _ _ ⟨_, (d.je (Db St)), Q, rfl⟩
  refine bC u (fun g u => ?_) (fun g u => ?_)
  ·refine ug g (jl a4) (ug g (kv rfl rfl rfl) (V (jz (cB g) rfl) ?_))
   obtain rfl := sj u
   exact D _ _ ⟨_, (d.je St), M, N, rfl⟩
  refine un g (un g (V (jA (cB g) rfl) ?_))
  obtain rfl := sj u
  exact D _ _ ⟨_, (d.je St), M, N, rfl⟩
 refine bC x (fun t x => ?_) (fun t x => ?_)
 ·refine ug t (jl rfl) (ug t (kv rfl rfl rfl) (V (jz (cB t) rfl) ?_))
  obtain rfl := sj x
  exact G _ _ ⟨_, (d.je St), rfl, rfl, rfl, rfl⟩
 refine un t (un t (V (jA (cB t) rfl) ?_))
 obtain rfl := sj x
 exact G _ _ ⟨_, (d.je St), rfl, rfl, rfl, rfl⟩
theorem DC (N : Formula → Option (List ja)) (L : ∀ (g : Formula) (k : Value) (r : List ja) (w : World) (j : Sl jZ 5 (hp w) k g.Kids), N g = some r → kw false pg0 243 [(.agg #[(.int .i64 g.Op), (.int .i64 g.K), (.string g.ja.jn), (.string g.ja.jK), k])] w 28 jc 2 r) (g : Formula) (k : Value) (r : List ja) (w : World) (j : Sl jZ 5 (hp w) k g.Kids) (hm : vn N g = some r) :
  kw false pg0 243 [(.agg #[(.int .i64 g.Op), (.int .i64 g.K), (.string g.ja.jn), (.string g.ja.jK), k])] w 28 jc 2 r := by
 refine vi 25 func243 rfl (fun d => sg ?_)
 obtain ⟨A1, c2, rfl⟩ := j.form
 refine VE (jU d rfl (fun W4 b3 d => Wa (lS (Wf E1 (VB d Mh rfl rfl bl (Wi rfl (ln (CI hm rfl (fun b7 hm => ?_) (fun b7 hm => ?_)))))))))
 ·refine sg (Wf El (VA d Mh (jc g.ja) au ag (VE (kh (cs := (jc g.ja).toArray) d (mf rfl) (mn al ag bj) (fun W7 s d => Wa (ln ?_))))))
  replace d := d.je (Kb (Db St))
  refine jN (jE ?_)
  obtain rfl := sj hm
  exact jR (v := (.slice (some ⟨s, 0, none⟩) 1 1)) rfl rfl ⟨_, [(s, Ol (jc g.ja) 28)], rfl, d.lU (fun p m => by rw [aF] at m; subst m; exact Mh) (by simp), (jy.lit (l := [g.ja]) (enc := jc) rfl dc rfl rfl)⟩
 refine kg (Wa (lS (Wf yQ (VB d Mh rfl rfl ib (V (kj cR rfl j) (Wm (jH ?_)))))))
 refine jj ?_
 replace d := d.je (Db St)
 refine km (fun i E W => ∃ u D t G H, (E 15 = .int .i64 (i : Nat) ∧ E 14 = .int .i64 (g.Kids.length : Nat)) ∧ jC (hp w) G ∧ ST false jT w W G (t ++ H) ∧ E 3 = u ∧ E 13 = (.slice A1 g.Kids.length c2) ∧ jy 28 jc 2 u D t ∧ pW N (g.Kids.drop i) D = some r) g.Kids.length j.len ⟨(.slice none 0 0), ([]), [], (hp w), _, ⟨rfl, rfl⟩, (jC.refl _), (d.je St), rfl, rfl, (jy.nil _ _ _), hm⟩ dc dc dc (fun _ _ _ h => by obtain ⟨_, _, _, _, _, o, _⟩ := h; exact o) ?_ ?_
 ·rintro O E W Y ⟨u, D, t, G, H, ⟨n, A⟩, y, d, I, J, x, c⟩
  obtain ⟨a, b9, a3, a2, a4⟩ := jY Y
  rw [a3] at c
  refine bg (VQ (Dq (i := (O : Int)) (x0 := a) jZ.out cR bI J n (j.mono lX.mono y) (ak _) a2) (fun c7 ⟨_, ⟨c9, rfl, K⟩, Z⟩ => V (jf rfl (kG d.has Z cC bI)) (VE (kl d ic (fun c1 c6 d => ?_)))))
  obtain ⟨z, B, rfl⟩ := K.form
  let a0 := (C1 a.Op a.K a.ja.jn a.ja.jK z a.Kids.length B)
  refine VO (jD (.agg a0.toArray) (a0.toArray) d rfl rfl bI oc nb rfl (fun c3 d => ln (jk (Wh I (VA d Mh a0 cC bI (bS c fun c8 F c => VE (rC d call243 (L a (.slice z a.Kids.length B) _ _ (K.mono lX.mono d.ju) F) (fun c4 a9 b1 c0 d M q Q => ?_))))))))
  replace d := d.perm (Nr (Qr (Qb Qz)) Nz)
  refine bS c fun P U c => VE (lC (enc := jc) (v := u) (vs := a9) (R := t) d lx dc lf al mW.1 mW.2.1 rfl mW.2.2.1 mW.2.2.2 rfl rfl x (Q.Sh lx d (fun p m => (Ma (Ml m)))) U (fun c5 b0 a5 d T => Wa (jH (jV (jj ?_)))))
  replace d := d.je (Kr (Dr (Db St)))
  exact ⟨n, b0, P, a5, b1, _, ⟨rfl, A⟩, (y.trans M), (d.je St), rfl, J, T, (by rw [a4]; exact c)⟩
 rintro E W ⟨u, D, t, G, H, ⟨n, A⟩, y, d, I, J, x, c⟩
 rw [ap] at c
 refine jj (sg (Wh I (Wa (lt ?_))))
 obtain rfl := sj c
 exact jR (v := u) rfl rfl ⟨_, t, rfl, d.lU (fun p m => (Ml m)) x.nd, x⟩
theorem BP : ∀ (n : Nat) (c : Formula) (a : Value) (r : List ja) (w : World) (g : Sl jZ 5 (hp w) a c.Kids) (_ : qi n c = some r),
  kw false pg0 243 [(.agg #[(.int .i64 c.Op), (.int .i64 c.K), (.string c.ja.jn), (.string c.ja.jK), a])] w 28 jc 2 r
 | 0 => by intros; rename_i h; simp only [qi] at h; cases h
 | n + 1 => DC (qi n) (BP n)
theorem Ec (g : Value) (i r : List ja) (w : World) (a : Sl (Pl jc) 2 (hp w) g i) (hm : qT i = some r) :
  kw true pg0 274 [g] w 28 jc 2 r := by
 unfold qT at hm
 refine vi 8 func274 rfl (fun d => sg (Wa (lS (Wm ?_))))
 obtain ⟨y, B, rfl⟩ := a.form
 refine V (BC al rfl rfl) (ln ?_)
 rcases y with _ | z
 ·have u := a.isNil
  replace hm : some [] = some r := by rw [u] at hm; simpa [lj, maxLen] using hm
  refine vm (rfl) (sg (Wa (lt (jE ?_))))
  obtain rfl := sj hm
  exact jR (v := (.slice none 0 0)) rfl rfl ⟨_, [], rfl, d.lU (fun p h => by cases h) (by simp), jy.nil _ _ _⟩
 ·refine oO (rfl) (kg (VE (kh (cs := #[]) d sG (Dc [] al ag bj dc rfl (by simp) rfl rfl) (fun G k d => Wm (bS hm fun H t hm => VE (lC (enc := jc) (v := (.slice (some ⟨k, 0, none⟩) 0 0)) (vs := (.slice (some z) i.length B)) (R := [(k, Ob #[] 28)]) d lx dc lf al mW.1 mW.2.1 rfl mW.2.2.1 mW.2.2.2 rfl rfl (jy.lit (l := []) (enc := jc) rfl dc rfl rfl) (a.mono (Pl.mono _) d.ju) t (fun D x j d c => Wa (lt ?_))))))))
  obtain rfl := sj hm
  exact jR (v := x) rfl rfl ⟨_, j, rfl, d.lU (fun p h => (Ml h)) c.nd, c⟩
theorem xg (g : Value) (t : List ja) (j : Value) (B : ja → Option Bool) (r : Int) (w : World) (c : Sl (Pl jc) 2 (hp w) g t) (D : qZ pg0 j (hp w) (fun (x : ja) => [(.agg (jc x).toArray)]) (fun (r : Bool) => (.bool r)) B) (hm : nC t B = some r) :
  jJ false pg0 197 [g, j] w (.int .i64 r) := by
 refine cG 19 func197 rfl (fun d => sg (Wa (lS (Wm (V (kj al rfl c) (Wm (ln (km (fun i E W => ∃ k, (E 8 = .int .i64 (i : Nat) ∧ E 7 = .int .i64 (t.length : Nat)) ∧ ST false jT w W (hp w) k ∧ E 0 = g ∧ E 1 = j ∧ lq B (t.drop i) i = some r) t.length c.len ⟨_, ⟨rfl, rfl⟩, (d.je St), rfl, rfl, hm⟩ dc dc dc (fun _ _ _ h => by obtain ⟨_, n, _⟩ := h; exact n) ?_ ?_))))))))
 ·rintro Q E W H ⟨k, ⟨m, o⟩, d, u, y, a⟩
  obtain ⟨z, T, M, K, N⟩ := jY H
  rw [M] at a
  refine bg (Wh m (Wa (lr (Wh y (Wh u (Wm (VQ (kC (enc := jc) (i := (Q : Int)) (x0 := z) al ag rfl rfl c (ak _) K) (fun Y I => V (jf rfl (kG d.has I au ag)) (bS a fun Z J a => ?_)))))))))
  refine VE (yP z d D (jC.refl _) rfl (ny rfl) J (fun U d => ln (CI a rfl (fun G a => ?_) (fun G a => ?_))))
  ·refine sg (Wm (Wa (lt (kH (jE (kH (jE ?_)))))))
   obtain rfl := sj a
   exact rP d
  exact jW (jV (jj ⟨m, _, ⟨rfl, o⟩, (d.je St), u, y, (by rw [N]; exact a)⟩))
 rintro E W ⟨k, ⟨m, o⟩, d, u, y, a⟩
 rw [ap] at a
 exact jj (sg (Wa (lt (rQ a d))))
theorem Bp (j : Value) (a0 : List ja) (t : LO) (H : Value) (f1 : ja → Option Bool) (r : List ja) (w : World) {μ0 : jF} (h0 : na μ0 (t ++ []) w) (T : jy 28 jc 2 j a0 t) (a4 : qZ pg0 H μ0 (fun (x : ja) => [(.agg (jc x).toArray)]) (fun (r : Bool) => (.bool r)) f1) (hm : qf a0 f1 = some r) :
  ki false pg0 273 [j, H] w (t ++ []) (fun v L1 W' => ∃ s S2, v = s ∧ L1 = (S2 ++ []) ∧ jy 28 jc 2 s r S2) := by
 refine vg h0 42 func273 rfl (fun d => sg (Wa (lr (Wm (Wm (bS hm fun q d3 hm => VE (Eg d call197 (xg j a0 H f1 _ _ (T.sl lx (fun b o h => d.at_ (Ml h))) (a4.mono d.ju) d3) (fun W3 d => Wa (ln ?_)))))))))
 refine jo (sg (Wm (Wi rfl (ln (CI hm rfl (fun d2 hm => ?_) (fun d2 hm => ?_))))))
 ·refine sg (Wm (Wa (lt (jE ?_))))
  obtain rfl := sj hm
  exact jR (v := j) rfl rfl ⟨_, _, rfl, (d.kF (Kr Sn)), j, t, rfl, rfl, T⟩
 refine kS (Wm (Wi rfl (Wa (ln (kV (ns (fun m E W => ∃ U I B D a2, ST false (keys (t ++ [])) w W μ0 (I ++ a2) ∧ E 0 = j ∧ E 1 = H ∧ E 5 = (.int .i64 B) ∧ E 6 = (.int .i64 D) ∧ jy 28 jc 2 j U I ∧ mB f1 m U B D = some r) jX ⟨a0, t, q, (wi0 .i64 (q + 1)), _, (d.je St), rfl, rfl, rfl, rfl, T, hm⟩ ?_))))))
 rintro m E W ⟨U, I, B, D, a2, d, y, Q, G, K, g, a⟩
 cases m with
 | zero => rw [mB] at a; cases a
 | succ c8 =>
  refine jo (sg (Wh K (Wh y (V (mw al rfl g) (Wi rfl (ln (CI a rfl (fun F a => ?_) (fun F a => ?_))))))))
  ·refine kn (jo (CJ a (fun Y E W => ∃ J a3, ST false (keys (t ++ [])) w W μ0 (J ++ a3) ∧ E 0 = j ∧ E 1 = H ∧ E 5 = (.int .i64 Y.2) ∧ E 6 = (.int .i64 D) ∧ jy 28 jc 2 j Y.1 J) (fun Y c => ?_) ?_))
   ·refine bg (Wh y (Wh K (bS c fun k M c => VQ (lE (i := D) (x0 := k) al ag rfl rfl g (kL M) (kq M)) (fun e4 P => V (jf rfl (pg d.has (fun p h => (Ml h)) g lx P (kq M) au ag)) (VE (kl d bj (fun d7 e2 d => VO (jD (.agg (jc k).toArray) ((jc k).toArray) d rfl rfl ag (lf k) nb rfl (fun d8 d => lr (Wh Q ?_))))))))))
    refine VA d Mh (jc k) au ag (bS c fun e6 b5 c => VE (yP k d a4 (jC.refl _) rfl (ny rfl) b5 (fun d9 d => V (lM rfl) (ln (CI c rfl (fun L c => ?_) (fun L c => ?_))))))
    ·refine sg (Wh y (Wh G (VA d Mh (jc k) au ag (bS c fun d0 N c => VQ (lE (i := B) (x0 := d0) al ag rfl rfl g (kL N) (kq N)) (fun e5 R => ?_)))))
     replace d := d.perm (Nr (Qb Qz) Nz)
     refine VO (wS (u := (.agg (jc k).toArray)) (x1 := k)  d g lx lf rfl rfl rfl R (kq N) ag (fun e0 c1 d A => ln ?_))
     replace d := d.je (Kr (Db St))
     refine jk (Wh G (Wi rfl (Wa (jH (jV (jj ?_))))))
     obtain rfl := sj c
     exact ⟨c1, _, (d.je St), y, Q, rfl, K, A⟩
    refine jW (jV (jj ?_))
    obtain rfl := sj c
    exact ⟨I, _, (d.je (Db St)), y, Q, G, K, g⟩
   rintro ⟨c7, c9⟩ E W ⟨J, a3, d, c3, c4, c5, c6, b6⟩ O
   exact jk (Wh c6 (Wi rfl (Wa (ln ⟨c8, aY _, c7, J, c9, (wi0 .i64 (D + 1)), _, (d.je St), c3, c4, c5, rfl, b6, O⟩))))
  refine mI (lZ (lZ (sr (jj (sg (Wh y (Wh G (bS a fun _ Z a => VQ (rE (i := B) al ag rfl rfl g (qc Z) (qb Z)) (fun e7 b7 => VO (vX (z := K0)  d g lx lf al bj b7 rfl rfl (fun e1 c2 d a9 => lr (Wh y ?_))))))))))))
  refine Wh G (bS a fun _ n a => VQ (sT (i := B) al ag rfl rfl a9 lx (qc n) (qb n)) (fun a5 b9 => Wa (lt ?_)))
  obtain rfl := sj a
  exact jR (v := a5) rfl rfl ⟨_, _, rfl, (d.kF (Kr Sn)), a5, c2, rfl, rfl, b9⟩
theorem IZ (a : ja) (r : Bool) (w : World) (hm : xH a = some r) :
  jJ true pg0 275 [(.agg (jc a).toArray)] w (.bool r) := by
 refine cG 6 func275 rfl (fun d => sg (VE (jU d rfl (fun g j d => Wa (lr (VA d Mh (jc a) au ag (bS hm fun k c hm => VE (Eg d ia (qx a _ _  c) (fun i d => V (lM rfl) (Wa (jH ?_)))))))))))
 refine jj ?_
 exact jN (rQ hm d)
theorem Nf (c : Value) (k : List ja) (a : LO) (g : Value) (t : (ja × ja) → Option Int) (r : List ja) (w : World) {y : jF} (u : na y (a ++ []) w) (i : jy 28 jc 2 c k a) (j : FR pg0 g y (fun (x : (ja × ja)) => [(.agg (jc x.1).toArray), (.agg (jc x.2).toArray)]) (fun (r : Int) => (.int .i64 r)) t) (hm : w8 t k = some r) :
  ki true pg0 276 [c, g] w (a ++ []) (fun v z W' => ∃ S, v = (.tuple #[]) ∧ z = (S ++ []) ∧ jy 28 jc 2 c r S) := FZ (P := pg0) (ρ := OL) RF 2 au ag jc lx lf u.H u.S i j hm
theorem Da (j : Value) (a0 : List ja) (x : LO) (r : List ja) (w : World) {μ0 : jF} (h0 : na μ0 (x ++ []) w) (B : jy 28 jc 2 j a0 x) (hm : sn a0 = some r) :
  ki true pg0 277 [j] w (x ++ []) (fun v L1 W' => ∃ y1 S2, v = y1 ∧ L1 = (S2 ++ []) ∧ jy 28 jc 2 y1 r S2) := by
 refine vg h0 61 func277 rfl (fun d => sg (Wa (lS (Wm (V (mw al rfl B) (Wi rfl (ln (CI hm rfl (fun g0 hm => ?_) (fun g0 hm => ?_)))))))))
 ·refine sg (Wm (Wa (lt (jE ?_))))
  obtain rfl := sj hm
  exact jR (v := j) rfl rfl ⟨_, _, rfl, (d.kF (Kr Sn)), j, x, rfl, rfl, B⟩
 refine kS (Wa (ln (kV (ns (fun m E W => ∃ t b4, ST true (keys (x ++ [])) w W μ0 (x ++ b4) ∧ E 0 = j ∧ E 3 = (.int .i64 t) ∧ nt a0 m t = some r) jX ⟨1, _, (d.je St), rfl, rfl, hm⟩ ?_))))
 rintro m E W ⟨t, b4, d, D, H, a⟩
 cases m with
 | zero => rw [nt] at a; cases a
 | succ f5 =>
  refine jo (sg (Wh H (Wh D (V (mw al rfl B) (Wi rfl (ln (CI a rfl (fun d0 a => ?_) (fun d0 a => ?_))))))))
  ·refine kn (jo (kV (jo ?_)))
   replace d := d.drew
   have h := d.has.je (Kr Sn)
   refine ko h jP (X 0 rfl h (jl D) (X 1 rfl h (jl H) (bS a fun c3 Z a => XQ 2 rfl h (lE (i := t) (x0 := c3) al ag rfl rfl B (kL Z) (kq Z)) (fun g7 d6 => XH 3 rfl h (fun _ o => jf rfl (pg o (fun p n => (Ml n)) B lx d6 (kq Z) au ag)) (X 4 rfl h (jl D) (X 5 rfl h (jl H) (X 6 rfl h (kv rfl rfl rfl) (bS a fun c4 q a => XQ 7 rfl h (lE (i := (wi0 .i64 (t - 1))) (x0 := c4) al ag rfl rfl B (kL q) (kq q)) (fun g8 d7 => XH 8 rfl h (fun _ o => jf rfl (pg o (fun p n => (Ml n)) B lx d7 (kq q) au ag)) (X 9 rfl h (uL rfl rfl (lN ck) (qK (ni _ c3 c4))) (kz kr (jj ?_))))))))))))
   refine CI a rfl (fun d1 a => ?_) (fun d1 a => ?_)
   ·refine sg (Wh D (Wh H (bS a fun _ L a => VQ (rE (i := t) al ag rfl rfl B (qc L) (qb L)) (fun c1 M => Wa (lS (Wa (ln ?_)))))))
    refine CJ a (fun U E W => ∃ s b5, ST true (keys (x ++ [])) w W μ0 (s ++ b5) ∧ E 0 = j ∧ E 3 = (.int .i64 U.2) ∧ jy 28 jc 2 j U.1 s) (fun U d4 => ?_) ?_
    ·refine kV (ns (fun m E W => ∃ A K Y y b6, ST true (keys (x ++ [])) w W μ0 (K ++ b6) ∧ E 0 = j ∧ E 3 = (.int .i64 Y) ∧ E 4 = c1 ∧ E 5 = (.int .i64 y) ∧ jy 28 jc 2 j A K ∧ nk t m A Y y = some U) jX ⟨a0, x, t, 1, _, (d.je St), D, H, rfl, rfl, B, d4⟩ ?_)
     rintro m E W ⟨A, K, Y, y, b6, d, Q, T, I, J, g, k⟩
     cases m with
     | zero => rw [nk] at k; cases k
     | succ f6 =>
      refine jo (sg (Wh J (Wh I (V (Et al rfl M g) (Wi rfl (ln (CI k rfl (fun d2 k => ?_) (fun d2 k => ?_))))))))
      ·refine kn (jo (CJ k (fun F E W => ∃ N b7, ST true (keys (x ++ [])) w W μ0 (N ++ b7) ∧ E 0 = j ∧ E 3 = (.int .i64 F.2) ∧ E 4 = c1 ∧ E 5 = (.int .i64 y) ∧ jy 28 jc 2 j F.1 N) (fun F c => ?_) ?_))
       ·refine kV (jo ?_)
        replace d := d.drew
        have h := d.has.je (Kr Sn)
        refine ko h jP (X 0 rfl h (jl I) (X 1 rfl h (jl J) (bS c fun c6 a2 c => XQ 2 rfl h (rI (i := y) (x0 := c6) al ag rfl rfl g M (kL a2) (kq a2)) (fun g9 d8 => XH 3 rfl h (fun _ o => jf rfl (pg o (fun p n => (Ml n)) g lx d8 (uG (kq a2)) au ag)) (X 4 rfl h (jl I) (X 5 rfl h (jl J) (X 6 rfl h (kv rfl rfl rfl) (bS c fun c7 a3 c => XQ 7 rfl h (rI (i := (wi0 .i64 (y - 1))) (x0 := c7) al ag rfl rfl g M (kL a3) (kq a3)) (fun h1 d9 => XH 8 rfl h (fun _ o => jf rfl (pg o (fun p n => (Ml n)) g lx d9 (uG (kq a3)) au ag)) (X 9 rfl h (B3 rfl rfl (lN ck) (xZ (ni _ c6 c7))) (kz kr (jj ?_))))))))))))
        refine CI c rfl (fun d3 c => ?_) (fun d3 c => ?_)
        ·refine sg (Wh Q (Wh T (Wh I (Wh J (bS c fun a9 a4 c => VQ (rI (i := y) (x0 := a9) al ag rfl rfl g M (kL a4) (kq a4)) (fun h2 e0 => V (jf rfl (pg d.has (fun p n => (Ml n)) g lx e0 (uG (kq a4)) au ag)) (bS c fun f8 a5 c => VQ (lE (i := Y) (x0 := f8) al ag rfl rfl g (kL a5) (kq a5)) (fun h3 e1 => VO (wS (u := (.agg (jc a9).toArray)) (x1 := a9)  d g lx lf rfl rfl rfl e1 (kq a5) ag (fun g3 e8 d c9 => ln (jk ?_)))))))))))
         refine Wh T (Wi rfl (Wa (jH (jV (jj ?_)))))
         obtain rfl := sj c
         exact ⟨e8, _, (d.je St), Q, rfl, I, J, c9⟩
        refine jW (jV (jj ?_))
        obtain rfl := sj c
        exact ⟨K, _, (d.je St), Q, T, I, J, g⟩
       rintro ⟨f4, f7⟩ E W ⟨N, b7, d, f0, f1, f2, f3, e4⟩ d5
       exact jk (Wh f3 (Wi rfl (Wa (ln ⟨f6, aY _, f4, N, f7, (wi0 .i64 (y + 1)), _, (d.je St), f0, f1, f2, rfl, e4, d5⟩))))
      refine mI (lZ (lZ (sr (jj ?_))))
      obtain rfl := sj k
      exact ⟨K, _, (d.je St), Q, T, g⟩
    rintro ⟨g4, c5⟩ E W ⟨s, b5, d, b9, c0, R⟩ G
    refine sg (Wh b9 (Wh c0 (bS G fun _ O G => VQ (rE (i := c5) al ag rfl rfl R (qc O) (qb O)) (fun h4 e2 => VO (vX (z := K0)  d R lx lf al bj e2 rfl rfl (fun g2 e7 d c8 => lr (Wh b9 (Wh c0 (bS G fun _ P G => VQ (sT (i := c5) al ag rfl rfl c8 lx (qc P) (qb P)) (fun c2 e3 => ?_))))))))))
    refine Wa (lt (kH (jE (jE (kH (jE ?_))))))
    obtain rfl := sj G
    exact jR (v := c2) rfl rfl ⟨_, _, rfl, (d.kF (Kr Sn)), c2, e7, rfl, rfl, e3⟩
   exact jW (jV (jj (jk (Wh H (Wi rfl (Wa (ln ⟨f5, aY _, (wi0 .i64 (t + 1)), _, (d.je St), D, rfl, a⟩)))))))
  refine mI (lZ (lZ (sr (jj (sg (Wh D (Wa (lt ?_))))))))
  obtain rfl := sj a
  exact jR (v := j) rfl rfl ⟨_, _, rfl, (d.kF (Kr Sn)), j, x, rfl, rfl, B⟩
theorem MM (i : Value) (t r : List ja) (w : World) (B : Sl (Pl jc) 2 (hp w) i t) (hm : AG t = some r) :
  kw false pg0 242 [i] w 28 jc 2 r := by
 refine vi 11 func242 rfl (fun d => sg (Wa (lr (Wm (bS hm fun z T hm => VE (rC d call274 (kw.kI (Ec i t _ _ (B.mono (Pl.mono _) d.ju) T)) (fun W3 v7 A R8 d a5 s Q => bS hm fun U D hm => ?_)))))))
 refine VE (eM d (Cr Qz Cn) call273 (fun m _ => (Bp v7 z R8 (.func (.func 275) #[] #[]) (fun (x : ja) => xH x) _ _ m Q ⟨275, #[], #[], rfl, call275, fun W x r y hm => (IZ x r W  hm).kI⟩ D)) ?_)
 rintro _ R b9 L d F n h ⟨k, K, a, rfl, I⟩
 obtain rfl := a.symm
 replace d := d.perm (Tr Tn)
 refine Wa (lr (Wm (bS hm fun Y G hm => ?_)))
 refine VE (eM d (Cr Qz Cn) call276 (fun m _ => ki.kI (Nf k U K (.func (.func 57) #[] #[]) (fun (x : (ja × ja)) => mq x.1 x.2) _ _ m I ⟨57, #[], rfl, call57, fun W x r y hm => zh x.1 x.2 r W  hm⟩ G)) ?_)
 rintro _ b6 c0 a9 d a2 o h ⟨M, c, rfl, J⟩
 obtain rfl := c.symm
 replace d := d.perm (Tr Tn)
 refine lr (Wm (bS hm fun P H hm => ?_))
 refine VE (eM d (Cr Qz Cn) call277 (fun m _ => ki.kI (Da k Y M _ _ m J H)) ?_)
 rintro _ b7 c1 O d a3 q h ⟨Z, N, g, rfl, j⟩
 obtain rfl := g.symm
 replace d := d.perm (Tr Tn)
 refine Wa (lt ?_)
 obtain rfl := sj hm
 exact jR (v := Z) rfl rfl ⟨_, N, rfl, d.lU (fun p u => (Ml u)) j.nd, j⟩
theorem GJ (a : Formula) (g : Value) (r : List ja) (w : World) (c : Sl jZ 5 (hp w) g a.Kids) (hm : uv a = some r) :
  kw false pg0 192 [(.agg #[(.int .i64 a.Op), (.int .i64 a.K), (.string a.ja.jn), (.string a.ja.jK), g])] w 28 jc 2 r := by
 refine vi 6 func192 rfl (fun d => sg ?_)
 obtain ⟨j, k, rfl⟩ := c.form
 refine VE (jU d rfl (fun N T d => Wa (lr (VA d Mh (C1 a.Op a.K a.ja.jn a.ja.jK j a.Kids.length k) cC bI (bS hm fun H y hm => VE (rC d call243 ((BP jX) a (.slice j a.Kids.length k) _ _ (c.mono lX.mono d.ju) y) (fun Q z U I d G m t => bS hm fun K u hm => VE (rC d call242 (MM z H _ _ (t.sl lx (fun b o h => d.at_ (Ml h))) u) (fun J B M x d D n i => Wa (ln ?_))))))))))
 replace d := d.je (Kr (Dr (Db St)))
 refine jN ?_
 obtain rfl := sj hm
 exact jR (v := B) rfl rfl ⟨_, x, rfl, d.lU (fun p h => (Ml h)) i.nd, i⟩
theorem DW (I : Value) (K : List ja) (G : Int) (r : List ja) (w : World) (H : Sl (Pl jc) 2 (hp w) I K) (hm : sA K G = some r) :
  kw true pg0 194 [I, (.int .i64 G)] w 28 jc 2 r := by
 refine vi 26 func194 rfl (fun d => sg (Wa (lr (Wa (lS (Wm ?_))))))
 refine V (kj al rfl H) (Wm (ln (km (fun i E W => ∃ u B j D, (E 10 = .int .i64 (i : Nat) ∧ E 9 = .int .i64 (K.length : Nat)) ∧ ST true jT w W (hp w) (j ++ D) ∧ E 1 = (.int .i64 G) ∧ E 5 = u ∧ E 8 = I ∧ jy 28 jc 2 u B j ∧ oN G (K.drop i) i B = some r) K.length H.len ⟨(.slice none 0 0), ([]), [], _, ⟨rfl, rfl⟩, (d.je St), rfl, rfl, rfl, (jy.nil _ _ _), hm⟩ dc dc dc (fun _ _ _ h => by obtain ⟨_, _, _, _, n, _⟩ := h; exact n) ?_ ?_)))
 ·rintro J E W a3 ⟨u, B, j, D, ⟨m, o⟩, d, x, y, z, t, c⟩
  obtain ⟨g, b4, a5, a4, M⟩ := jY a3
  rw [a5] at c
  refine bg (Wh m (VQ (kC (enc := jc) (i := (J : Int)) (x0 := g) al ag z m H (ak _) a4) (fun b3 Y => V (jf rfl (kG d.has Y au ag)) (VE (kl d bj (fun F P d => Wa (VO (jD (.agg (jc g).toArray) ((jc g).toArray) d rfl rfl ag (lf g) nb rfl (fun a9 d => lr (Wh x (Wm ?_)))))))))))
  refine bS c fun _ U c => V (NE (a := G) (b := (J : Int)) rfl rfl (xj U)) (V (Dt (k := .i64) (a := (Int.fdiv G (2 ^ min (Int.toNat (J : Int)) (IntKind.bits .i64)))) (b := 1) (v := (.int .i64 (wi0 .i64 (BitVec.ofInt (IntKind.bits .i64) (Int.fdiv G (2 ^ min (Int.toNat (J : Int)) (IntKind.bits .i64))) &&& BitVec.ofInt (IntKind.bits .i64) 1).toNat))) rfl rfl dc rfl) (Wi rfl (ln (CI c rfl (fun Q c => ?_) (fun Q c => ?_)))))
  ·refine jk (Wh y (VA d Mh (jc g) au ag (VE (kh (cs := (jc g).toArray) d (mf rfl) (mn al ag bj) (fun L a2 d => ?_)))))
   replace d := d.perm (Nr (Qb (Qb Qz)) Nz)
   refine bS c fun q T c => VE (lC (enc := jc) (v := u) (vs := (.slice (some ⟨a2, 0, none⟩) 1 1)) (R := j) d lx dc lf al mW.1 mW.2.1 rfl mW.2.2.1 mW.2.2.2 rfl rfl t (Sl.lit (enc := jc) (l := [g]) lx rfl nb rfl (d.at_ (Ma Mh))) T (fun O s Z d N => Wa (jH (jV (jj ?_)))))
   replace d := d.je (Kr (Db (Db St)))
   exact ⟨m, s, q, Z, _, ⟨rfl, o⟩, (d.je St), x, rfl, z, N, (by rw [M]; exact c)⟩
  refine jW (jV (jj ?_))
  replace d := d.je (Db St)
  exact ⟨m, u, B, j, _, ⟨rfl, o⟩, (d.je St), x, y, z, t, (by rw [M]; exact c)⟩
 rintro E W ⟨u, B, j, D, ⟨m, o⟩, d, x, y, z, t, c⟩
 rw [ap] at c
 refine jj (sg (Wh y (Wa (lt ?_))))
 obtain rfl := sj c
 exact jR (v := u) rfl rfl ⟨_, j, rfl, d.lU (fun p A => (Ml A)) t.nd, t⟩
theorem Dm (Q : Formula → (ja → Option Bool) → Option Bool) (a5 : ∀ (g : Formula) (k : Value) (t : Value) (J : ja → Option Bool) (r : Bool) (w : World) (c : Sl jZ 5 (hp w) k g.Kids) (K : qZ pg0 t (hp w) (fun (x : ja) => [(.agg (jc x).toArray)]) (fun (r : Bool) => (.bool r)) J), Q g J = some r → jJ false pg0 111 [(.agg #[(.int .i64 g.Op), (.int .i64 g.K), (.string g.ja.jn), (.string g.ja.jK), k]), t] w (.bool r)) (g : Formula) (k t : Value) (J : ja → Option Bool) (r : Bool) (w : World) (c : Sl jZ 5 (hp w) k g.Kids) (K : qZ pg0 t (hp w) (fun (x : ja) => [(.agg (jc x).toArray)]) (fun (r : Bool) => (.bool r)) J) (hm : vu Q g J = some r) :
  jJ false pg0 111 [(.agg #[(.int .i64 g.Op), (.int .i64 g.K), (.string g.ja.jn), (.string g.ja.jK), k]), t] w (.bool r) := by
 refine cG 45 func111 rfl (fun d => sg ?_)
 obtain ⟨A1, c2, rfl⟩ := c.form
 refine VE (jU d rfl (fun W4 p d => Wa (lS (Wf E1 (VB d Mh rfl rfl bl (Wi rfl (ln (CI hm rfl (fun a9 hm => ?_) (fun a9 hm => ?_)))))))))
 ·refine sg (Wm (Wf El (VA d Mh (jc g.ja) au ag (bS hm fun r6 A hm => VE (yP g.ja d K (jC.refl _) rfl (ny rfl) A (fun W8 d => Wa (ln ?_)))))))
  replace d := d.je (Db St)
  refine jN (jE ?_)
  obtain rfl := sj hm
  exact rP d
 refine kg (Wa (lS (Wf yQ (VB d Mh rfl rfl ib (V (kj cR rfl c) (Wm (jH ?_)))))))
 refine jj (km (fun i E W => ∃ z I, (E 18 = .int .i64 (i : Nat) ∧ E 17 = .int .i64 (g.Kids.length : Nat)) ∧ ST false jT w W (hp w) ((p, Ol (C1 g.Op g.K g.ja.jn g.ja.jK A1 g.Kids.length c2) 57) :: I) ∧ E 1 = t ∧ E 2 = (.pointer (some ⟨p, 0, none⟩)) ∧ E 5 = (.int .i64 z) ∧ E 16 = (.slice A1 g.Kids.length c2) ∧ oJ Q J g (g.Kids.drop i) z = some r) g.Kids.length c.len ⟨0, _, ⟨rfl, rfl⟩, (d.je St), rfl, rfl, rfl, rfl, hm⟩ dc dc dc (fun _ _ _ h => by obtain ⟨_, _, n, _⟩ := h; exact n) ?_ ?_)
 ·rintro F E W a4 ⟨z, I, ⟨m, o⟩, d, G, u, y, H, a⟩
  obtain ⟨j, c1, v, s, N⟩ := jY a4
  rw [v] at a
  refine bg (VQ (Dq (i := (F : Int)) (x0 := j) jZ.out cR bI H m c (ak _) s) (fun b7 ⟨_, ⟨c0, rfl, M⟩, Z⟩ => V (jf rfl (kG d.has Z cC bI)) (VE (kl d ic (fun L R d => ?_)))))
  obtain ⟨B, D, rfl⟩ := M.form
  let a0 := (C1 j.Op j.K j.ja.jn j.ja.jK B j.Kids.length D)
  refine VO (jD (.agg a0.toArray) (a0.toArray) d rfl rfl bI oc nb rfl (fun O d => lr (VA d Mh a0 cC bI (Wh G (bS a fun b9 q a => VE (Eg d call111 (a5 j (.slice B j.Kids.length D) t J _ _ (M.mono lX.mono d.ju) (K.mono d.ju) q) (fun P d => ln ?_)))))))
  replace d := d.je (Db St)
  refine CI a rfl (fun T a => ?_) (fun T a => ?_)
  ·exact jk (Wh y (Wi rfl (Wa (jH (jV (jj ⟨m, (wi0 .i64 (z + 1)), _, ⟨rfl, o⟩, (d.je St), G, u, rfl, H, (by rw [N]; exact a)⟩))))))
  exact jW (jV (jj ⟨m, z, _, ⟨rfl, o⟩, (d.je St), G, u, y, H, (by rw [N]; exact a)⟩))
 rintro E W ⟨z, I, ⟨m, o⟩, d, G, u, y, H, a⟩
 rw [ap] at a
 refine jj (jo (sg (V (jh E1 u) (VB d Mh rfl rfl bl (ln (bg (Wi rfl (Wa (ln ?_)))))))))
 refine CI a rfl (fun U a => ?_) (fun U a => ?_)
 ·refine sg (Wh y (V (jh yQ u) (VB d Mh rfl rfl ib (V (kj cR rfl c) (Wi rfl (Wa (ln ?_)))))))
  replace d := d.je (Db St)
  refine jN (kH (jE ?_))
  obtain rfl := sj a
  exact rP d
 refine sg (Wi rfl (Wa (ln (CI a rfl (fun Y a => ?_) (fun Y a => ?_)))))
 ·refine sg (Wh y (Wi rfl (Wa (ln ?_))))
  replace d := d.je (Db St)
  refine jN (kH (jE ?_))
  obtain rfl := sj a
  exact rP d
 refine jW (jV (jj (sg (Wh y (V (jh EU u) (VB d Mh rfl rfl bl (Wi rfl (Wa (ln ?_)))))))))
 exact jN (rQ a d)
theorem BZ : ∀ (n : Nat) (c : Formula) (a : Value) (g : Value) (j : ja → Option Bool) (r : Bool) (w : World) (i : Sl jZ 5 (hp w) a c.Kids) (k : qZ pg0 g (hp w) (fun (x : ja) => [(.agg (jc x).toArray)]) (fun (r : Bool) => (.bool r)) j) (_ : pn n c j = some r),
  jJ false pg0 111 [(.agg #[(.int .i64 c.Op), (.int .i64 c.K), (.string c.ja.jn), (.string c.ja.jK), a]), g] w (.bool r)
 | 0 => by intros; rename_i h; simp only [pn] at h; cases h
 | n + 1 => Dm (pn n) (BZ n)
theorem HD (a : Formula) (j k : Value) (G : ja → Option Bool) (r : Bool) (w : World) (c : Sl jZ 5 (hp w) j a.Kids) (z : qZ pg0 k (hp w) (fun (x : ja) => [(.agg (jc x).toArray)]) (fun (r : Bool) => (.bool r)) G) (hm : tf a G = some r) :
  jJ false pg0 48 [(.agg #[(.int .i64 a.Op), (.int .i64 a.K), (.string a.ja.jn), (.string a.ja.jK), j]), k] w (.bool r) := by
 refine cG 16 func48 rfl (fun d => sg ?_)
 obtain ⟨u, y, rfl⟩ := c.form
 let a0 := (C1 a.Op a.K a.ja.jn a.ja.jK u a.Kids.length y)
 refine VE (jU d rfl (fun U Z d => Wa (lr (Wm (V (OY underlying105 z.form rfl rfl) (Wm (Vg rfl rfl (jf rfl (jm d.has Mh a0 rfl cC bI)) (bS hm fun h K hm => OR rfl rfl (Eg d call110 (Bx a (.slice u a.Kids.length y) _ _ (c.mono lX.mono d.ju) K) (fun Y d => V (jz rfl rfl) (Wm (LJ hm (fun D E W => ∃ B, ST false jT w W (hp w) B ∧ E 4 = (.bool false) ∧ E 15 = (.bool D)) 4 ?_ (fun D g t => ?_)))))))))))))
 ·rintro T E W ⟨B, d, N, J⟩ H
  exact Wg J (lt (rQ H d))
 refine bC g (fun i g => ?_) (fun i g => ?_)
 ·refine ug i (jf rfl (jm d.has Mh a0 rfl cC bI)) (ug i (jl rfl) (bS g fun Q I g => pV i (Eg d call111 ((BZ jX) a (.slice u a.Kids.length y) k G _ _ (c.mono lX.mono d.ju) (z.mono d.ju) I) (fun M d => V (jz (cB i) rfl) ?_))))
  obtain rfl := sj g
  exact t _ _ ⟨_, (d.je (Db St)), rfl, rfl⟩
 refine un i (un i (un i (V (jA (cB i) rfl) ?_)))
 obtain rfl := sj g
 exact t _ _ ⟨_, (d.je (Db St)), rfl, rfl⟩
theorem D5 (j : Value) (t : List ja) (c : ja) (r : Int) (w : World) (g : Sl (Pl jc) 2 (hp w) j t) (hm : wc t c = some r) :
  jJ true pg0 247 [j, (.agg (jc c).toArray)] w (.int .i64 r) := by
 refine cG 19 func247 rfl (fun d => sg (VE (jU d rfl (fun Q J d => Wa (lS (Wm (V (kj al rfl g) (Wm (ln ?_)))))))))
 refine km (fun i E W => ∃ k, (E 8 = .int .i64 (i : Nat) ∧ E 7 = .int .i64 (t.length : Nat)) ∧ ST true jT w W (hp w) ((J, Ol (jc c) 28) :: k) ∧ E 0 = j ∧ E 3 = (.pointer (some ⟨J, 0, none⟩)) ∧ pA c (t.drop i) i = some r) t.length g.len ⟨_, ⟨rfl, rfl⟩, (d.je St), rfl, rfl, hm⟩ dc dc dc (fun _ _ _ h => by obtain ⟨_, o, _⟩ := h; exact o) ?_ ?_
 ·rintro K E W B ⟨k, ⟨n, q⟩, d, u, x, a⟩
  obtain ⟨y, M, H, G, I⟩ := jY B
  rw [H] at a
  refine bg (Wh n (Wa (ln (jo ?_))))
  replace d := d.drew
  have m := d.has.je (Kb Sn)
  refine ko m jP (XH 0 rfl m (fun _ p => jf x (jm p Mh (jc c) rfl au ag)) (X 1 rfl m (jl u) (X 2 rfl m (jl rfl) (XQ 3 rfl m (kC (enc := jc) (i := (K : Int)) (x0 := y) al ag rfl rfl g (ak _) G) (fun N D => XH 4 rfl m (fun _ p => jf rfl (kG p D au ag)) (X 5 rfl m (uL rfl rfl (lN ck) (qK (ni _ c y))) (kz kr (jj (CI a rfl (fun z a => ?_) (fun z a => ?_))))))))))
  ·refine sg (Wm (Wa (ln ?_)))
   replace d := d.je (Db St)
   refine jN (kH (jE (kH (jE ?_))))
   obtain rfl := sj a
   exact rP d
  exact jW (jV (jj ⟨n, _, ⟨rfl, q⟩, (d.je St), u, x, (by rw [I]; exact a)⟩))
 rintro E W ⟨k, ⟨n, q⟩, d, u, x, a⟩
 rw [ap] at a
 refine jj ?_
 replace d := d.je (Db St)
 exact sg (Wa (lt (rQ a d)))
theorem Cw (a : Value) (g : List ja) (c : ja) (r : Bool) (w : World) (i : Sl (Pl jc) 2 (hp w) a g) (hm : uC g c = some r) :
  jJ true pg0 200 [a, (.agg (jc c).toArray)] w (.bool r) := by
 refine cG 9 func200 rfl (fun d => sg (VE (jU d rfl (fun k u d => Wa (lr (Wm (VA d Mh (jc c) au ag (bS hm fun x j hm => VE (Eg d call247 (D5 a g c _ _ (i.mono (Pl.mono _) d.ju) j) (fun t d => Wi rfl (Wa ?_)))))))))))
 refine ln ?_
 exact jN (rQ hm d)
theorem MP (a : Value) (g : List ja) (c : ja) (r : Bool) (w : World) (i : Sl (Pl jc) 2 (hp w) a g) (hm : AK g c = some r) :
  jJ true pg0 149 [a, (.agg (jc c).toArray)] w (.bool r) := by
 refine cG 8 func149 rfl (fun d => sg (VE (jU d rfl (fun k u d => Wa (lr (Wm (VA d Mh (jc c) au ag (bS hm fun x j hm => VE (Eg d call200 (Cw a g c _ _ (i.mono (Pl.mono _) d.ju) j) (fun t d => Wa (jH ?_)))))))))))
 refine jj ?_
 exact jN (rQ hm d)
theorem EV (c : ja) (g : Nat) (a : Value) (j : List ja) (r : Bool) (w : World) (k : Sl (Pl jc) 2 (hp w) a j) (i : At (hp w) (.pointer (some ⟨g, 0, none⟩)) [a]) (hm : oG c j = some r) :
  jJ true pg0 148 [(.agg (jc c).toArray), (.pointer (some ⟨g, 0, none⟩))] w (.bool r) := by
 refine cG 7 func148 rfl (fun d => sg (VE (jU d rfl (fun u z d => Wa (lr (V (jf rfl (lL d.has (y := a) i dn)) (VA d Mh (jc c) au ag (bS hm fun B t hm => VE (Eg d call149 (MP a j c _ _ (k.mono (Pl.mono _) d.ju) t) (fun x d => Wa (jH ?_)))))))))))
 refine jj ?_
 exact jN (rQ hm d)
theorem BX (a : Formula) (g k : Value) (i : List ja) (r : Bool) (w : World) (c : Sl jZ 5 (hp w) g a.Kids) (j : Sl (Pl jc) 2 (hp w) k i) (hm : oa a i = some r) :
  jJ false pg0 85 [(.agg #[(.int .i64 a.Op), (.int .i64 a.K), (.string a.ja.jn), (.string a.ja.jK), g]), k] w (.bool r) := by
 refine cG 8 func85 rfl (fun d => sg ?_)
 obtain ⟨t, y, rfl⟩ := c.form
 refine VE (jU d rfl (fun H J d => ?_))
 obtain ⟨B, D, rfl⟩ := j.form
 refine VE (jU d rfl (fun I u d => Wa (lr (VA d (Mt Mh) (C1 a.Op a.K a.ja.jn a.ja.jK t a.Kids.length y) cC bI (V (rF (by exact ny rfl) rfl) (bS hm fun K z hm => VE (Eg d call48 (HD a (.slice t a.Kids.length y) (.func (.func 148) #[] #[(.pointer (some ⟨u, 0, none⟩))]) (fun (x : ja) => oG x i) _ _ (c.mono lX.mono d.ju) ⟨148, #[], #[(.pointer (some ⟨u, 0, none⟩))], rfl, call148, fun W x r h hm => (EV x u (.slice B i.length D) i r W (j.mono (Pl.mono _) (d.ju.trans h)) (At.of (h _ _ (d.at_ Mh)) _ rfl) hm).kI⟩ z) (fun G d => Wa (ln ?_)))))))))
 exact jN (rQ hm d)
theorem Ku (t : Formula) (b9 a2 : Value) (n : List ja) (r : List Int) (w : World) (b7 : Sl jZ 5 (hp w) b9 t.Kids) (e4 : Sl (Pl jc) 2 (hp w) a2 n) (hm : yF t n = some r) :
  kw false pg0 193 [(.agg #[(.int .i64 t.Op), (.int .i64 t.K), (.string t.ja.jn), (.string t.ja.jK), b9]), a2] w 3 (jS .i64) 1 r := by
 refine vi 64 func193 rfl (fun d => sg ?_)
 obtain ⟨A1, c2, rfl⟩ := b7.form
 let a0 := (C1 t.Op t.K t.ja.jn t.ja.jK A1 t.Kids.length c2)
 refine VE (jU d rfl (fun W4 s d => Wa (lr (Wm (V (kj al rfl e4) (bS hm fun _ m7 hm => V (MN (a := 1) (b := (n.length : Int)) rfl rfl (xj m7)) (bS hm fun l6 m6 hm => VE (Lb (enc := Nk) (z := false) d (fun _ => rfl) dc fY Jc.1 Jc.2.1 Jc.2.2.1 Jc.2.2.2 rfl rfl rfl m6 (fun W8 d0 R9 d e8 => Wa (ln ?_))))))))))
 let d1 : Value := (.int .i64 (l6.length : Int))
 refine sg (Wa (lS (Wm (V (mw fY rfl e8) (Wm (ln (km (fun i E W => ∃ Z c1 D b5 B c4 d6, (E 16 = .int .i64 (i : Nat) ∧ E 15 = .int .i64 (l6.length : Nat)) ∧ jC (hp w) c4 ∧ ST false jT w W c4 ((s, Ol a0 57) :: (B ++ (c1 ++ d6))) ∧ E 1 = a2 ∧ E 2 = (.pointer (some ⟨s, 0, none⟩)) ∧ E 5 = d0 ∧ E 6 = D ∧ jy 4 Nk 1 d0 Z c1 ∧ jy 3 (jS .i64) 1 D b5 B ∧ qg n t (l6.drop i) i Z b5 = some r) l6.length e8.len ⟨l6, R9, (.slice none 0 0), ([]), [], (hp w), _, ⟨rfl, rfl⟩, (jC.refl _), (d.je (Sb (Pr Pz) St)), rfl, rfl, rfl, rfl, e8, (jy.nil _ _ _), hm⟩ dc dc dc (fun _ _ _ h => by obtain ⟨_, _, _, _, _, _, _, A, _⟩ := h; exact A) ?_ ?_)))))))
 ·let c0 : Value := (.pointer (some ⟨s, 0, none⟩))
  rintro c E W h7 ⟨Z, c1, D, b5, B, c4, d6, ⟨q, F⟩, T, d, c3, d9, e0, e1, c6, a6, x⟩
  let b8 : Value := (.int .i64 (c : Int))
  obtain ⟨o3, n1, i7, m8, e7⟩ := jY h7
  rw [i7] at x
  refine bg (Wh q (Wa (ln (jo ?_))))
  replace d := d.drew
  have m := d.has.je (Kb Sn)
  refine ko m jP (X 0 rfl m (jl e0) (X 1 rfl m (jl rfl) (XH 2 rfl m (fun _ hS => jf d9 (jm hS Mh a0 rfl cC bI)) (X 3 rfl m (jl c3) (X 4 rfl m (jl rfl) (bS x fun m1 i5 x => XE 5 rfl (rC d call194 (kw.kI (DW a2 n (c : Int) _ _ (e4.mono (Pl.mono _) (T.trans d.ju)) i5)) (fun n4 m2 a4 n3 d H ab h1 => ?_))))))))
  have m := d.has.oW H (Dr (Kb Sn))
  refine ⟨m, (bS x fun b6 i6 x => XE 6 rfl (Eg d call85 (BX t (.slice A1 t.Kids.length c2) m2 m1 _ _ (b7.mono lX.mono ((T.trans H).trans d.ju)) (h1.sl lx (fun b o L => d.at_ (Ml L))) i6) (fun n5 d => ?_)))⟩
  have m := d.has.oW H (Dr (Kb Sn))
  refine ⟨m, (bS x fun m4 c7 x => XQ 7 rfl m (lE (i := (c : Int)) (x0 := m4) fY sizeOf4 rfl rfl c6 (kL c7) (kq c7)) (fun o0 i2 => ?_))⟩
  replace d := d.perm (Nr (Qr (Qb (Qr Qz))) Nz)
  refine XO 8 rfl (wS (u := (.bool b6)) (x1 := b6)  d c6 (fun _ => rfl) T4 rfl rfl rfl i2 (kq c7) sizeOf4 (fun n6 U d Q => ?_))
  have m := d.has.oW H (Dr (Dr (Kb Sn)))
  refine ⟨m, (kz kr (jj ?_))⟩
  replace d := d.je (Kr (Dr St))
  refine sg (Wa (lS (Wh c3 (V (kj al rfl e4) (Wm (ln (CJ x (fun e6 E W => ∃ e9, ST false jT w W a4 ((s, Ol a0 57) :: (U ++ (B ++ e9))) ∧ E 1 = a2 ∧ E 2 = c0 ∧ E 5 = d0 ∧ E 6 = D ∧ E 7 = b8 ∧ E 8 = (.bool e6) ∧ E 15 = d1 ∧ E 16 = b8) (fun e6 h9 => ?_) ?_)))))))
  ·refine km (fun i E W => ∃ a3 d7, (E 29 = .int .i64 (i : Nat) ∧ E 28 = .int .i64 (n.length : Nat)) ∧ ST false jT w W a4 ((s, Ol a0 57) :: (U ++ (B ++ d7))) ∧ E 1 = a2 ∧ E 2 = c0 ∧ E 5 = d0 ∧ E 6 = D ∧ E 7 = b8 ∧ E 8 = (.bool a3) ∧ E 15 = d1 ∧ E 16 = b8 ∧ qC c Z b6 (n.drop i) i a3 = some e6) n.length e4.len ⟨false, _, ⟨rfl, rfl⟩, (d.je (Sb (Pr Pz) St)), c3, d9, e0, e1, rfl, rfl, F, q, h9⟩ dc dc dc (fun _ _ _ h => by obtain ⟨_, _, A, _⟩ := h; exact A) ?_ ?_
   ·rintro N E W h8 ⟨a3, d7, ⟨q, F⟩, d, a9, b0, O, b1, Y, P, b2, b4, K⟩
    obtain ⟨o6, n2, i8, m9, i9⟩ := jY h8
    rw [i8] at K
    refine bg (Wh q (Wa (ln (jk (Wh P (Wm (LJ K (fun g7 E W => ∃ f1, ST false jT w W a4 ((s, Ol a0 57) :: (U ++ (B ++ f1))) ∧ E 1 = a2 ∧ E 2 = c0 ∧ E 5 = d0 ∧ E 6 = D ∧ E 7 = b8 ∧ E 8 = (.bool a3) ∧ E 15 = d1 ∧ E 16 = b8 ∧ E 28 = (.int .i64 (n.length : Int)) ∧ E 29 = (.int .i64 (N : Int)) ∧ E 48 = (.bool g7)) 15 ?_ (fun g7 M d3 => ?_))))))))
    ·rintro m5 E W ⟨f1, d, j7, j8, j9, k0, k1, n9, k2, k3, k4, k5, k6⟩ i0
     exact Wg k6 (jH (jV (jj ⟨k5, m5, _, ⟨rfl, k4⟩, (d.je St), j7, j8, j9, k0, k1, rfl, k2, k3, (by rw [i9]; exact i0)⟩)))
    refine bC M (fun g M => ?_) (fun g M => ?_)
    ·refine un g (un g (un g (un g (un g (un g (Vu rfl rfl (Vu rfl rfl (Vu rfl rfl (Vu rfl rfl (Vu rfl rfl (Vu rfl rfl (Vu rfl rfl (un g (V (jz (cB g) rfl) ?_))))))))))))))
     obtain rfl := sj M
     exact d3 _ _ ⟨_, (d.je St), a9, b0, O, b1, Y, P, b2, b4, F, q, rfl⟩
    refine ug g (jl Y) (ug g (jl rfl) (bS M fun _ h5 M => ug g (NE (a := (c : Int)) (b := (N : Int)) rfl rfl (xj h5)) (ug g (Dt (k := .i64) (a := (Int.fdiv (c : Int) (2 ^ min (Int.toNat (N : Int)) (IntKind.bits .i64)))) (b := 1) (v := (.int .i64 (wi0 .i64 (BitVec.ofInt (IntKind.bits .i64) (Int.fdiv (c : Int) (2 ^ min (Int.toNat (N : Int)) (IntKind.bits .i64))) &&& BitVec.ofInt (IntKind.bits .i64) 1).toNat))) rfl rfl dc rfl) (ug g (kv rfl rfl rfl) (ug g (jl rfl) (LJ M (fun g8 E W => ∃ f2, ST false jT w W a4 ((s, Ol a0 57) :: (U ++ (B ++ f2))) ∧ E 1 = a2 ∧ E 2 = c0 ∧ E 5 = d0 ∧ E 6 = D ∧ E 7 = b8 ∧ E 8 = (.bool a3) ∧ E 15 = d1 ∧ E 16 = b8 ∧ E 28 = (.int .i64 (n.length : Int)) ∧ E 29 = (.int .i64 (N : Int)) ∧ E 33 = (.bool a3) ∧ E 47 = (.bool g8)) 8 ?_ (fun g8 G d4 => ?_)))))))
    ·rintro o7 E W ⟨f2, d, k7, k8, k9, l0, l1, l2, l3, l4, l5, l7, l8, l9⟩ i1
     refine V (jA (l8.trans (cB g)) l9) ?_
     obtain rfl := sj i1
     exact d3 _ _ ⟨_, (d.je St), k7, k8, k9, l0, l1, l2, l3, l4, l5, l7, rfl⟩
    refine bC G (fun j G => ?_) (fun j G => ?_)
    ·let d5 := (wi0 .i64 (1 * 2 ^ min (Int.toNat (N : Int)) (IntKind.bits .i64)))
     refine ug j (jl O) (ug j (jl Y) (ug j (jl rfl) (bS G fun _ h6 G => ug j (MN (a := 1) (b := (N : Int)) rfl rfl (xj h6)) (ug j (RZ (k := .i64) (a := (c : Int)) (b := d5) rfl rfl) (bS G fun h0 c9 G => Sf j (lE (i := (wi0 .i64 (BitVec.ofInt (IntKind.bits .i64) (c : Int) &&& ~~~ BitVec.ofInt (IntKind.bits .i64) d5).toNat)) (x0 := h0) fY sizeOf4 rfl rfl Q (kL c9) (kq c9)) (fun o2 i4 => ug j (jf rfl (uz d.has (fun p L => (Mt (Ml L))) Q (fun _ => rfl) i4 (kq c9) (y := (.bool h0)) rfl isAgg4)) (ug g (jz (cB j) rfl) ?_)))))))
     obtain rfl := sj G
     exact d4 _ _ ⟨_, (d.je St), a9, b0, O, b1, Y, P, b2, b4, F, q, rfl, rfl⟩
    refine un j (un j (un j (un j (un j (un j (un j (ug g (jA (cB j) rfl) ?_)))))))
    obtain rfl := sj G
    exact d4 _ _ ⟨_, (d.je St), a9, b0, O, b1, Y, P, b2, b4, F, q, rfl, rfl⟩
   rintro E W ⟨a3, d7, ⟨q, F⟩, d, a9, b0, O, b1, Y, P, b2, b4, K⟩
   rw [ap] at K
   refine jj ?_
   obtain rfl := sj K
   exact ⟨_, (d.je St), a9, b0, O, b1, Y, P, b2, b4⟩
  rintro o4 E W ⟨e9, d, f3, f4, e2, f5, e3, j4, f6, f7⟩ c5
  refine sg (Wh e2 (Wh e3 (bS c5 fun g9 c8 c5 => VQ (lE (i := (c : Int)) (x0 := g9) fY sizeOf4 rfl rfl Q (kL c8) (kq c8)) (fun o1 i3 => V (jf rfl (uz d.has (fun p L => (Mt (Ml L))) Q (fun _ => rfl) i3 (kq c8) (y := (.bool g9)) rfl isAgg4)) (Wm (LJ c5 (fun g4 E W => ∃ f0, ST false jT w W a4 ((s, Ol a0 57) :: (U ++ (B ++ f0))) ∧ E 1 = a2 ∧ E 2 = c0 ∧ E 5 = d0 ∧ E 6 = D ∧ E 7 = b8 ∧ E 15 = d1 ∧ E 16 = b8 ∧ E 57 = (.bool g4)) 3 ?_ (fun g4 a5 d2 => ?_)))))))
  ·rintro o5 E W ⟨f0, d, f8, f9, g0, g1, j5, g2, g3, j6⟩ J
   refine ln (CI J j6 (fun h3 J => ?_) (fun h3 J => ?_))
   ·refine jk (Wh g1 (Wh j5 (VE (kh (cs := [b8].toArray) d (mf rfl) (mn dH dg zeroValue3) (fun n7 j3 d => ?_)))))
    replace d := d.perm (Nr (Qb (Qb (Qr Qz))) Nz)
    refine bS J fun m0 h4 J => VE (lC (enc := (jS .i64)) (v := D) (vs := (.slice (some ⟨j3, 0, none⟩) 1 1)) (R := B) d (fun _ => rfl) dc (wj _) dH Jb.1 Jb.2.1 rfl Jb.2.2.1 Jb.2.2.2 rfl rfl a6 (Sl.lit (enc := (jS .i64)) (l := [(c : Int)]) (fun _ => rfl) rfl nb rfl (d.at_ (Ma Mh))) h4 (fun n8 m3 j0 d h2 => Wa (jH (jV (jj ?_)))))
    replace d := d.je (Kr (Db St))
    exact ⟨g3, (Z.set (Int.toNat (c : Int)) b6), U, m3, m0, j0, a4, _, ⟨rfl, g2⟩, (T.trans H), (d.je (Sb (Pr Pz) St)), f8, f9, g0, rfl, Q, h2, (by rw [e7]; exact J)⟩
   exact jW (jV (jj ⟨g3, (Z.set (Int.toNat (c : Int)) b6), U, D, b5, B, a4, _, ⟨rfl, g2⟩, (T.trans H), (d.je (Kb (Sr (Qr Qz) St))), f8, f9, g0, g1, Q, a6, (by rw [e7]; exact J)⟩))
  refine bC a5 (fun I a5 => ?_) (fun I a5 => ?_)
  ·refine ug I (jl j4) (ug I (lM rfl) (V (jz (cB I) rfl) ?_))
   obtain rfl := sj a5
   exact d2 _ _ ⟨_, (d.je St), f3, f4, e2, f5, e3, f6, f7, rfl⟩
  refine un I (un I (V (jA (cB I) rfl) ?_))
  obtain rfl := sj a5
  exact d2 _ _ ⟨_, (d.je St), f3, f4, e2, f5, e3, f6, f7, rfl⟩
 rintro E W ⟨Z, c1, D, b5, B, c4, d6, ⟨q, F⟩, T, d, c3, d9, e0, e1, c6, a6, x⟩
 rw [ap] at x
 refine jj ?_
 replace d := d.je (Db (Kr (Dr St)))
 refine sg (Wh e1 (Wa (lt ?_)))
 obtain rfl := sj x
 exact jR (v := D) rfl rfl ⟨_, B, rfl, d.lU (fun p L => (Ml L)) a6.nd, a6⟩
theorem Nn (c : Value) (t : List (List ja)) (a : LO) (g : Value) (u : ((List ja) × (List ja)) → Option Int) (r : List (List ja)) (w : World) {i : jF} (y : na i (a ++ []) w) (j : ol 34 (zT jc 2) 1 i c t a) (k : TO pg0 g i (zT jc 2) u) (hm : FA u t = some r) :
  nr true pg0 195 [c, g] w i (a ++ []) (fun v x z => ∃ S, v = (.tuple #[]) ∧ x = (S ++ []) ∧ ol 34 (zT jc 2) 1 z c r S) := Lt (P := pg0) (ρ := Og) RW J2 y j k hm
theorem By (a : Int) (r : Bool) (w : World) (hm : yB a = some r) :
  jJ true pg0 286 [(.int .i64 a)] w (.bool r) := by
 exact cG 6 func286 rfl (fun c => sg (Wa (lr (Wm (Wm (Wi rfl (Wa (lt (rQ hm c)))))))))
theorem FF (a c r : Int) (w : World) (hm : xk a c = some r) :
  jJ true pg0 245 [(.int .i64 a), (.int .i64 c)] w (.int .i64 r) := by
 refine cG 20 func245 rfl (fun d => sg (Wa (lr (Wm (bS hm fun B u hm => VE (Eg d call286 (By a _ _  u) (fun y d => Wa (ln (jo ?_)))))))))
 refine jk (Wm (bS hm fun D x hm => VE (Eg d call286 (By c _ _  x) (fun z d => Wa (lS (Wm (ln (CI hm rfl (fun j hm => ?_) (fun j hm => ?_)))))))))
 ·refine jo (sg (Wm (ln (CI hm rfl (fun k hm => ?_) (fun k hm => ?_)))))
  ·refine sg (Wa (lt (jE (jE ?_))))
   obtain rfl := sj hm
   exact rP d
  refine kg (Wa (lt (jE ?_)))
  obtain rfl := sj hm
  exact rP d
 refine kS (Wm (ln (CI hm rfl (fun t hm => ?_) (fun t hm => ?_))))
 ·refine sg (Wa (lt (jE ?_)))
  obtain rfl := sj hm
  exact rP d
 refine kS (Wm (Wm (Wi rfl (ln (CI hm rfl (fun g hm => ?_) (fun g hm => ?_))))))
 ·refine sg (Wa (lt (jE ?_)))
  obtain rfl := sj hm
  exact rP d
 refine kS (Wm (Wm (Wi rfl (ln (CI hm rfl (fun i hm => ?_) (fun i hm => ?_))))))
 ·refine sg (Wa (lt (jE ?_)))
  obtain rfl := sj hm
  exact rP d
 exact kg (Wa (lt (rQ hm d)))
theorem sx (t : Value) (J : List ja) (G : Value) (Z : List ja) (H : Value) (f2 : (ja × ja) → Option Int) (r : Int) (w : World) (k : Sl (Pl jc) 2 (hp w) t J) (D : Sl (Pl jc) 2 (hp w) G Z) (a3 : FR pg0 H (hp w) (fun (x : (ja × ja)) => [(.agg (jc x.1).toArray), (.agg (jc x.2).toArray)]) (fun (r : Int) => (.int .i64 r)) f2) (hm : lW J Z f2 = some r) :
  jJ true pg0 246 [t, G, H] w (.int .i64 r) := by
 refine cG 39 func246 rfl (fun d => sg (Wa (lS (Wm (V (kj al rfl k) (Wm (ln (km (fun i E W => ∃ u, (E 13 = .int .i64 (i : Nat) ∧ E 12 = .int .i64 (J.length : Nat)) ∧ ST true jT w W (hp w) u ∧ E 0 = t ∧ E 1 = G ∧ E 2 = H ∧ E 11 = t ∧ kM Z f2 J (J.drop i) i = some r) J.length k.len ⟨_, ⟨rfl, rfl⟩, (d.je St), rfl, rfl, rfl, rfl, hm⟩ dc dc dc (fun _ _ _ h => by obtain ⟨_, n, _⟩ := h; exact n) ?_ ?_))))))))
 ·rintro Y E W a4 ⟨u, ⟨m, o⟩, d, y, g, z, B, a⟩
  obtain ⟨j, c0, p, a5, q⟩ := jY a4
  rw [p] at a
  refine bg (Wh m (VQ (kC (enc := jc) (i := (Y : Int)) (x0 := j) al ag B m k (ak _) a5) (fun P Q => V (jf rfl (kG d.has Q au ag)) (VE (kl d bj (fun s L d => Wa (VO (jD (.agg (jc j).toArray) ((jc j).toArray) d rfl rfl ag (lf j) nb rfl (fun a9 d => lS (Wm ?_))))))))))
  refine Wh g (V (kj al rfl D) (Wi rfl (ln (CI a rfl (fun K a => ?_) (fun K a => ?_)))))
  ·refine sg (Wa (ln ?_))
   replace d := d.je (Db St)
   refine jN (jE (kH (jE (kH (jE ?_)))))
   obtain rfl := sj a
   exact rP d
  refine kg (Wh g (Wm (bS a fun c I a => VQ (kC (enc := jc) (i := (Y : Int)) (x0 := c) al ag rfl rfl D (kL I) (kq I)) (fun R T => V (jf rfl (kG d.has T au ag)) (VE (kl d bj (fun v O d => VO (jD (.agg (jc c).toArray) ((jc c).toArray) d rfl rfl ag (lf c) nb rfl (fun A d => lr ?_)))))))))
  refine Wh z (VA d (Mt Mh) (jc j) au ag (VA d Mh (jc c) au ag (bS a fun b7 U a => VE (Tg (j, c) d a3 (jC.refl _) rfl (og rfl rfl) U (fun F d => Wa (ln ?_))))))
  replace d := d.je (Db (Db St))
  refine sg (Wm (Wi rfl (ln (CI a rfl (fun M a => ?_) (fun M a => ?_)))))
  ·refine sg (Wm (Wa (lt (kH (jE (kH (jE ?_)))))))
   obtain rfl := sj a
   exact rP d
  exact jW (jV (jj ⟨m, _, ⟨rfl, o⟩, (d.je St), y, g, z, B, (by rw [q]; exact a)⟩))
 rintro E W ⟨u, ⟨m, o⟩, d, y, g, z, B, a⟩
 rw [ap] at a
 refine jj (jo (sg (Wh y (V (kj al rfl k) (Wh g (V (kj al rfl D) (Wi rfl (ln (CI a rfl (fun N a => ?_) (fun N a => ?_))))))))))
 ·refine sg (Wa (lt (jE ?_)))
  obtain rfl := sj a
  exact rP d
 exact kg (Wa (lt (rQ a d)))
theorem H0 (a : Value) (t : List ja) (c : Value) (u : List ja) (r : Int) (w : World) (g : Sl (Pl jc) 2 (hp w) a t) (i : Sl (Pl jc) 2 (hp w) c u) (hm : ta t u = some r) :
  jJ true pg0 196 [a, c] w (.int .i64 r) := by
 refine cG 15 func196 rfl (fun d => sg (Wa (lr (Wm (V (kj al rfl g) (Wm (V (kj al rfl i) (bS hm fun j z hm => VE (Eg d call245 (FF (t.length : Int) (u.length : Int) _ _  z) (fun H d => Wm ?_))))))))))
 refine Wm (bS hm fun k B hm => VE (Eg d call246 (sx a t c u (.func (.func 57) #[] #[]) (fun (x : (ja × ja)) => mq x.1 x.2) _ _ (g.mono (Pl.mono _) d.ju) (i.mono (Pl.mono _) d.ju) ⟨57, #[], rfl, call57, fun W x r h hm => zh x.1 x.2 r W  hm⟩ B) (fun I d => VE (kh (cs := #[(.int .i64 j), (.int .i64 k)]) d (nB rfl rfl) (mn dH dg zeroValue3) (fun J D d => bS hm fun K y hm => VE (Eg d call124 (EY (.slice (some ⟨D, 0, none⟩) 2 2) ([j, k]) _ _ (Sl.lit (enc := (jS .i64)) (l := [j, k]) (fun _ => rfl) rfl nb rfl (d.at_ Mh)) y) (fun G d => Wa (ln ?_))))))))
 exact jN (rQ hm d)
theorem JQ (c : Formula) (H : Value) (r : ((List (List ja)) × Int)) (w : World) {μ0 : jF} (h0 : na μ0 [] w) (g : Sl jZ 5 μ0 H c.Kids) (hm : yA c = some r) :
  nr false pg0 141 [(.agg #[(.int .i64 c.Op), (.int .i64 c.K), (.string c.ja.jn), (.string c.ja.jK), H])] w μ0 [] (fun v L1 μ1 => ∃ y1, v = (.tuple #[y1, (.int .i64 (r.2))]) ∧ L1 = [] ∧ Sl (zT jc 2) 1 μ1 y1 (r.1)) := by
 refine Qs h0 37 func141 rfl (fun d => sg ?_)
 obtain ⟨A1, c2, rfl⟩ := g.form
 let P : Value := (.slice A1 c.Kids.length c2)
 let a0 := (C1 c.Op c.K c.ja.jn c.ja.jK A1 c.Kids.length c2)
 refine VE (jU d rfl (fun W4 b3 d => Wa (Wa (lS (VA d Mh a0 cC bI (bS hm fun r5 e7 hm => VE (Eg d call110 (Bx c P _ _ (g.mono lX.mono d.ju) e7) (fun W7 d => V (lM rfl) (ln (CI hm rfl (fun e6 hm => ?_) (fun e6 hm => ?_)))))))))))
 ·refine sg (Wa (Wa (ln ?_)))
  replace d := d.je (Db St)
  refine jN (jE ?_)
  obtain rfl := sj hm
  exact rL (v := (.slice none 0 0)) (u := (.int .i64 11)) rfl rfl rfl ⟨_, _, _, rfl, (d.kF Sn), (jC.refl _), Lo.refl, (ST.kf d (ly.mem Sn)), (.slice none 0 0), rfl, rfl, (Sl.nil _ _ _)⟩
 refine kg (VA d Mh a0 cC bI (bS hm fun r9 d4 hm => VE (rC d call192 (GJ c P _ _ (g.mono lX.mono d.ju) d4) (fun h8 b5 i0 e4 d I n R => Wa (lS (Wm (V (mw al rfl R) ?_)))))))
 refine Wi rfl (ln (CI hm rfl (fun d3 hm => ?_) (fun d3 hm => ?_)))
 ·refine sg (Wa (Wa (ln ?_)))
  replace d := d.je (Dr (Db St))
  refine jN (jE ?_)
  obtain rfl := sj hm
  exact rL (v := (.slice none 0 0)) (u := (.int .i64 12)) rfl rfl rfl ⟨_, _, _, rfl, (d.kF Sn), I, n, (ST.kf d (ly.mem Sn)), (.slice none 0 0), rfl, rfl, (Sl.nil _ _ _)⟩
 refine kg (Wa (lS (VA d (Ma Mh) a0 cC bI (Wm (bS hm fun b4 d5 hm => VE (rC d call193 (Ku c P b5 r9 _ _ (g.mono lX.mono (I.trans d.ju)) (R.sl lx (fun b o O => d.at_ (Ml O))) d5) (fun h9 e8 b6 e5 d a9 q T => V (mw dH rfl T) ?_)))))))
 refine Wm (ln ?_)
 replace d := d.je (Kr (Kr (Db St)))
 refine km (fun i E W => ∃ j Q t G a2, (E 20 = .int .i64 (i : Nat) ∧ E 19 = .int .i64 (b4.length : Nat)) ∧ jC b6 G ∧ Lo (keys []) w b6 G ∧ ST false (keys []) w W G (t ++ (e5 ++ (e4 ++ a2))) ∧ E 4 = b5 ∧ E 5 = j ∧ E 18 = e8 ∧ ol 34 (zT jc 2) 1 G j Q t ∧ uq r9 (b4.drop i) Q = some r) b4.length T.len ⟨(.slice none 0 0), ([]), [], b6, _, ⟨rfl, rfl⟩, (jC.refl _), Lo.refl, (d.je St), rfl, rfl, rfl, (ol.nil _ _ _ _), hm⟩ dc dc dc (fun _ _ _ h => by obtain ⟨_, _, _, _, _, ab, _⟩ := h; exact ab) ?_ ?_
 ·rintro d6 E W c3 ⟨j, Q, t, G, a2, ⟨eI, eN⟩, k, m, d, a4, N, a5, J, a⟩
  obtain ⟨a7, f0, c9, b0, d0⟩ := jY c3
  rw [c9] at a
  refine bg (VQ (lE (i := (d6 : Int)) (x0 := a7) dH dg a5 eI T (ak _) b0) (fun g7 c4 => V (jf rfl (uz d.has (fun p O => (Ma (Ml O))) T (fun _ => rfl) c4 b0 (y := (.int .i64 a7)) rfl bl)) (Wa (ln (jk (Wh N (Wh a4 (Wm (bS a fun D c5 a => VE (rC d call194 (kw.kI (DW b5 r9 a7 _ _ (R.sl lx (fun b o O => d.at_ (Ma (Ma (Ml O))))) c5)) (fun f5 g9 h5 f3 d Y s a8 => ?_)))))))))))
  obtain ⟨K, M, rfl⟩ := a8.form
  refine VE (kh (cs := #[(.slice K D.length M)]) d (mf rfl) (mn gz iX zeroValue34) (fun f6 f9 d => ?_))
  replace d := d.perm (Nr (Qb Qz) Nz)
  obtain ⟨e3, d, Z, A, c7⟩ := ST.xP d a8 lx
  replace d := d.perm (Nr (Qb Qz) Nz)
  refine bS a fun d7 c0 a => VE (OE (B := t) J2 d dc gz GX.1 GX.2.1 rfl GX.2.2.1 GX.2.2.2 rfl rfl (J.mono J2 (Y.trans Z)) (Mx.lit J2 (l := [D]) (.cons (ys := [(.slice K D.length M)]) ⟨(.slice K D.length M), rfl, c7⟩ .nil) rfl nb (d.at_ (Ma Mh))) c0 (fun f7 d9 d2 d b9 => Wa (jH (jV (jj ?_)))))
  replace d := d.je (Kr (Db St))
  exact ⟨eI, d9, d7, d2, e3, _, ⟨rfl, eN⟩, ((k.trans Y).trans Z), ((m.trans s).trans A), (d.je St), a4, rfl, a5, b9, (by rw [d0]; exact a)⟩
 rintro E W ⟨j, Q, t, G, a2, ⟨eI, eN⟩, k, m, d, a4, N, a5, J, a⟩
 rw [ap] at a
 refine jj ?_
 replace d := d.je (Kr (Dr (Dr St)))
 refine jo (sg (Wh N (V (O5 gz rfl J) (Wi rfl (ln (CI a rfl (fun c1 a => ?_) (fun c1 a => ?_)))))))
 ·refine sg (Wa (Wa (ln ?_)))
  replace d := d.je (Dr St)
  refine jN (jE ?_)
  obtain rfl := sj a
  exact rL (v := (.slice none 0 0)) (u := (.int .i64 12)) rfl rfl rfl ⟨_, _, _, rfl, (d.kF Sn), ((I.trans a9).trans k), ((n.trans q).trans m), (ST.kf d (ly.mem Sn)), (.slice none 0 0), rfl, rfl, (Sl.nil _ _ _)⟩
 refine kg (Wh N (bS a fun g8 c6 a => ?_))
 refine VE (eD d (Cr Qz Cn) call195 (fun hh => nr.kI (Nn j Q t (.func (.func 196) #[] #[]) (fun (x : ((List ja) × (List ja))) => ta x.1 x.2) _ _ hh J ⟨196, #[], rfl, call196, fun W x y z r hs hy hz hm => by obtain ⟨_, e1, h1⟩ := hy; obtain ⟨_, e2, h2⟩ := hz; cases e1; cases e2; exact (H0 y x.1 z x.2 r W h1 h2 hm)⟩ c6)) ?_)
 rintro _ h3 h6 f2 d b1 F ⟨f4, U, rfl, d1⟩
 obtain rfl := U.symm
 replace d := d.perm (Tr Tn)
 refine lr (Wh N (Wa (Wa (lt ?_))))
 obtain rfl := sj a
 refine rL (v := j) (u := (.int .i64 0)) rfl rfl rfl ?_
 obtain ⟨h7, d, b2, L, c8⟩ := ST.T7 J2 d d1
 exact ⟨_, _, _, rfl, (d.kF Sn), ((((I.trans a9).trans k).trans b1).trans b2), ((((n.trans q).trans m).trans F).trans L), (ST.kf d (ly.mem Sn)), j, rfl, rfl, c8⟩
theorem vR (a : Value) (g : List ja) (c : Value) (i : ja → Option Bool) (r : Bool) (w : World) (j : Sl (Pl jc) 2 (hp w) a g) (k : qZ pg0 c (hp w) (fun (x : ja) => [(.agg (jc x).toArray)]) (fun (r : Bool) => (.bool r)) i) (hm : mF g i = some r) :
  jJ false pg0 142 [a, c] w (.bool r) := by
 refine cG 9 func142 rfl (fun d => sg (Wa (lr (Wm (Wm (bS hm fun y t hm => VE (Eg d call197 (xg a g c i _ _ (j.mono (Pl.mono _) d.ju) (k.mono d.ju) t) (fun u d => Wi rfl (Wa (jH ?_))))))))))
 exact jj (jN (rQ hm d))
theorem G4 (c : ja) (g : Nat) (a : Value) (i : ja → Option Bool) (r : Bool) (w : World) (k : qZ pg0 a (hp w) (fun (x : ja) => [(.agg (jc x).toArray)]) (fun (r : Bool) => (.bool r)) i) (j : At (hp w) (.pointer (some ⟨g, 0, none⟩)) [a]) (hm : wx c i = some r) :
  jJ false pg0 143 [(.agg (jc c).toArray), (.pointer (some ⟨g, 0, none⟩))] w (.bool r) := by
 refine cG 8 func143 rfl (fun d => sg (VE (jU d rfl (fun u B d => Wa (lr (V (jf rfl (lL d.has (y := a) j isAgg105)) (VA d Mh (jc c) au ag (bS hm fun D t hm => VE (yP c d k (jC.refl _) rfl (ny rfl) t (fun z d => V (lM rfl) (Wa ?_)))))))))))
 refine ln ?_
 exact jN (rQ hm d)
theorem JV (c : Formula) (t Z : Value) (T : ja → Option Bool) (r : ((List ja) × Bool)) (w : World) {μ0 : jF} (h0 : na μ0 [] w) (k : Sl jZ 5 μ0 t c.Kids) (I : qZ pg0 Z μ0 (fun (x : ja) => [(.agg (jc x).toArray)]) (fun (r : Bool) => (.bool r)) T) (hm : yx c T = some r) :
  nr false pg0 72 [(.agg #[(.int .i64 c.Op), (.int .i64 c.K), (.string c.ja.jn), (.string c.ja.jK), t]), Z] w μ0 [] (fun v L1 μ1 => ∃ L, v = (.tuple #[L, (.bool (r.2))]) ∧ L1 = [] ∧ Sl (Pl jc) 2 μ1 L (r.1)) := by
 refine Qs h0 33 func72 rfl (fun d => sg ?_)
 obtain ⟨A1, c2, rfl⟩ := k.form
 refine VE (jU d rfl (fun W4 b3 d => ?_))
 obtain ⟨f5, f6, f7, rfl⟩ := I.form
 refine VE (jU d rfl (fun W9 b8 d => Wa (Wa (lr (VA d (Mt Mh) (C1 c.Op c.K c.ja.jn c.ja.jK A1 c.Kids.length c2) cC bI (bS hm fun U b9 hm => ?_))))))
 refine VE (eD d (cX _) call141 (fun hh => (JQ c (.slice A1 c.Kids.length c2) _ _ hh (k.mono lX.mono (jC.refl _)) b9)) ?_ (L0 := []))
 rintro _ d8 s d6 d z m ⟨q, J, rfl, K⟩
 obtain rfl := J.symm
 refine Wm (Wx rfl (Wx rfl (Wa (Wa (ln ?_)))))
 replace d := d.je (Kb (Db St))
 refine jo (sg (Wm (Wi rfl (Wm (LJ hm (fun Y E W => ∃ p, ST false (keys []) w W s ((b8, Ob #[(.func f5 f6 f7)] 105) :: p) ∧ E 3 = (.pointer (some ⟨b8, 0, none⟩)) ∧ E 6 = q ∧ E 20 = (.bool Y)) 3 ?_ (fun Y j G => ?_))))))
 ·let a0 : Value := (.pointer (some ⟨b8, 0, none⟩))
  rintro d9 E W ⟨p, d, c4, c5, c6⟩ B
  refine ln (CI B c6 (fun P B => ?_) (fun P B => ?_))
  ·refine sg (Wa (Wa (ln ?_)))
   replace d := d.je (Db St)
   refine jN (jE ?_)
   obtain rfl := sj B
   exact rL (v := (.slice none 0 0)) (u := (.bool false)) rfl rfl rfl ⟨_, _, _, rfl, (d.kF Sn), z, m, (ST.kf d (ly.mem Sn)), (.slice none 0 0), rfl, rfl, (Sl.nil _ _ _)⟩
  refine kS (Wh c5 (V (kj gz rfl K) (Wm (ln (km (fun i E W => ∃ N, (E 23 = .int .i64 (i : Nat) ∧ E 22 = .int .i64 (U.1.length : Nat)) ∧ ST false (keys []) w W s ((b8, Ob #[(.func f5 f6 f7)] 105) :: N) ∧ E 3 = a0 ∧ E 21 = q ∧ wv T (U.1.drop i) = some r) U.1.length K.len ⟨_, ⟨rfl, rfl⟩, (d.je St), c4, rfl, B⟩ dc dc dc (fun _ _ _ h => by obtain ⟨_, o, _⟩ := h; exact o) ?_ ?_)))))
  ·rintro c7 E W R ⟨N, ⟨n, A⟩, d, Q, H, a⟩
   obtain ⟨a9, d4, c1, c0, c3⟩ := jY R
   rw [c1] at a
   refine bg (VQ (Gc (enc := jc) (k2 := 2) (i := (c7 : Int)) (x0 := a9) gz iX H n K (ak _) c0) (fun d2 ⟨D, a5, M⟩ => V (jf rfl (lL d.has (y := D) a5 dn)) (Wa (lr (Wm (V (rF (by exact ny Q) rfl) (bS a fun d3 O a => VE (Eg d call142 (vR D a9 (.func (.func 143) #[] #[a0]) (fun (x : ja) => wx x T) _ _ (M.mono (Pl.mono _) d.ju) ⟨143, #[], #[a0], rfl, call143, fun W x r F hm => G4 x b8 (.func f5 f6 f7) T r W (I.mono ((z.trans d.ju).trans F)) (At.of (F _ _ (d.at_ Mh)) _ rfl) hm⟩ O) (fun d0 d => V (lM rfl) ?_)))))))))
   refine ln (CI a rfl (fun a4 a => ?_) (fun a4 a => ?_))
   ·refine sg (Wm (Wa (Wa (ln ?_))))
    replace d := d.je (Db St)
    refine jN (kH (jE (kH (jE ?_))))
    obtain rfl := sj a
    exact rL (v := D) (u := (.bool true)) rfl rfl rfl ⟨_, _, _, rfl, (d.kF Sn), z, m, (ST.kf d (ly.mem Sn)), D, rfl, rfl, M⟩
   exact jW (jV (jj ⟨n, _, ⟨rfl, A⟩, (d.je St), Q, H, (by rw [c3]; exact a)⟩))
  rintro E W ⟨N, ⟨n, A⟩, d, Q, H, a⟩
  rw [ap] at a
  refine jj ?_
  replace d := d.je (Db St)
  refine sg (Wa (Wa (lt ?_)))
  obtain rfl := sj a
  exact rL (v := (.slice none 0 0)) (u := (.bool false)) rfl rfl rfl ⟨_, _, _, rfl, (d.kF Sn), z, m, (ST.kf d (ly.mem Sn)), (.slice none 0 0), rfl, rfl, (Sl.nil _ _ _)⟩
 refine bC j (fun g j => ?_) (fun g j => ?_)
 ·refine un g (un g (V (jz (cB g) rfl) ?_))
  obtain rfl := sj j
  exact G _ _ ⟨_, (d.je St), rfl, rfl, rfl⟩
 refine ug g (jf rfl (jq d.has Mh rfl isAgg105)) (ug g (IA underlying105 I rfl rfl) (V (jA (cB g) rfl) ?_))
 obtain rfl := sj j
 exact G _ _ ⟨_, (d.je St), rfl, rfl, rfl⟩
theorem Gl (K : Nat) (a : Value) (G : List (ja × (List (ByteArray × Bool)))) (c : Value) (t : List jb) (j : Value) (D : List (ja × (List jb))) (g : Value) (u : List (ByteArray × (List jb))) (i : Value) (B : List jd) (J : Int) (I : ja) (a2 : ByteArray) (r : Bool) (w : World) (H : rO (fun (x : ja) => (.agg (jc x).toArray)) (kE Value.string (fun (x : Bool) => (Value.bool x))) (hp w) a G) (T : Sl (Pl jg) 9 (hp w) c t) (Z : rO (fun (x : ja) => (.agg (jc x).toArray)) (jy 108 jg 9) (hp w) j D) (U : rO Value.string (jy 108 jg 9) (hp w) g u) (Y : Sl (Pl jw) 3 (hp w) i B) (Q : At (hp w) (.pointer (some ⟨K, 0, none⟩)) [a, c, j, g, i, (.int .i64 J)]) (hm : rl G t D u B J I a2 = some r) :
  jJ true pg0 50 [(.pointer (some ⟨K, 0, none⟩)), (.agg (jc I).toArray), (.string a2)] w (.bool r) := by
 refine cG 19 func50 rfl (fun m => sg (VE (jU m rfl (fun W2 s m => Wa (ln (jo ?_))))))
 replace m := m.drew
 have d := m.has.je (Kb Sn)
 refine ko d jP (X 0 rfl d (jl rfl) (X 1 rfl d (AL underlying101 rfl rfl) (X 2 rfl d (jl rfl) (Xg 3 rfl rfl rfl d (jl rfl) (Xg 4 rfl rfl rfl d (kJ rfl) (Ph 5 rfl kr (.inr ⟨2, true, 9, rfl, rfl, by decide, rfl⟩) rfl dc (fun _ _ h => h) d (sZ [a] wX rfl Q rfl) (fun q a3 => yo 6 rfl rfl rfl d (fun _ n => jf rfl (lL n (y := a) a3 gi)) (yo 7 rfl rfl rfl d (fun _ n => jf rfl (jm n Mh (jc I) rfl au ag)) ?_))))))))
 obtain ⟨a4, a5, M, N⟩ := H
 refine yo 8 rfl rfl rfl d (fun _ n => ow (k := I) (z := (.map none)) Aa dq dO rfl rfl M (fun b o p => n.1 b o (N b o p))) (Xg 9 rfl rfl rfl d (jl rfl) (yo 10 rfl rfl rfl d (fun _ n => ve (k := a2) (z := false) (vf := (fun (x : Bool) => (Value.bool x))) Hc dS fe rfl rfl ((lJ.Dx jB.1 M I N).mono (fun b o p => n.1 b o p))) (X 11 rfl d (jz rfl rfl) (X 12 rfl d (lO rfl) (kz kr (jj ?_))))))
 exact jN (rQ hm m)
theorem JD (a0 : ja) (n Z : Nat) (I : Value) (U : List (ja × (List (ByteArray × Bool)))) (g : Value) (G : List jb) (u : Value) (N : List (ja × (List jb))) (i : Value) (H : List (ByteArray × (List jb))) (t : Value) (M : List jd) (h : Int) (o : Nat) (B : ByteArray) (a : Value) (j : List ot) (c : Value) (z : List vk) (k : ByteArray) (a5 : Int) (D : Value) (J : List jb) (T : Value) (a2 : List jb) (K : Value) (Y : List ja) (Q : Value) (m : List ja) (r : Bool) (w : World) (a9 : rO (fun (x : ja) => (.agg (jc x).toArray)) (kE Value.string (fun (x : Bool) => (Value.bool x))) (hp w) I U) (a3 : Sl (Pl jg) 9 (hp w) g G) (q : rO (fun (x : ja) => (.agg (jc x).toArray)) (jy 108 jg 9) (hp w) u N) (a4 : rO Value.string (jy 108 jg 9) (hp w) i H) (p : Sl (Pl jw) 3 (hp w) t M) (s : At (hp w) (.pointer (some ⟨Z, 0, none⟩)) [I, g, u, i, t, (.int .i64 h)]) (v : At (hp w) (.pointer (some ⟨n, 0, none⟩)) [(.pointer (some ⟨Z, 0, none⟩))]) (L : Sl uf 15 (hp w) a j) (P : Sl zP 8 (hp w) c z) (R : Sl (Pl jg) 9 (hp w) D J) (c3 : Sl (Pl jg) 9 (hp w) T a2) (W : Sl (Pl jc) 2 (hp w) K Y) (c2 : Sl (Pl jc) 2 (hp w) Q m) (c1 : At (hp w) (.pointer (some ⟨o, 0, none⟩)) [(.string B), a, c, (.string k), (.int .i64 a5), D, T, K, Q]) (hm : wO a0 U G N H M h B j z k a5 J a2 Y m = some r) :
  jJ true pg0 144 [(.agg (jc a0).toArray), (.pointer (some ⟨n, 0, none⟩)), (.pointer (some ⟨o, 0, none⟩))] w (.bool r) := by
 refine cG 10 func144 rfl (fun d => sg (VE (jU d rfl (fun W2 O d => Wa (lr (V (jf rfl (lL d.has (y := (.pointer (some ⟨Z, 0, none⟩))) v isAgg101)) (VA d Mh (jc a0) au ag (VQ (sZ [(.string k)] NU rfl c1 rfl) (fun p3 A => V (jf rfl (lL d.has (y := (.string k)) A aG)) (bS hm fun r6 F hm => VE (Eg d call50 (Gl Z I U g G u N i H t M h a0 k _ _ (a9.mono d.ju) (a3.mono (Pl.mono _) d.ju) (q.mono d.ju) (a4.mono d.ju) (p.mono (Pl.mono _) d.ju) (s.mono d.ju) F) (fun W8 d => ?_))))))))))))
 refine Wa (ln ?_)
 exact jN (rQ hm d)
theorem D6 (g : Value) (i r : List jb) (w : World) (a : Sl (Pl jg) 9 (hp w) g i) (hm : qV i = some r) :
  kw true pg0 113 [g] w 108 jg 9 r := by
 unfold qV at hm
 refine vi 8 func113 rfl (fun d => sg (Wa (lS (Wm ?_))))
 obtain ⟨y, B, rfl⟩ := a.form
 refine V (BC aJ rfl rfl) (ln ?_)
 rcases y with _ | z
 ·have u := a.isNil
  replace hm : some [] = some r := by rw [u] at hm; simpa [lj, maxLen] using hm
  refine vm (rfl) (sg (Wa (lt (jE ?_))))
  obtain rfl := sj hm
  exact jR (v := (.slice none 0 0)) rfl rfl ⟨_, [], rfl, d.lU (fun p h => by cases h) (by simp), jy.nil _ _ _⟩
 ·refine oO (rfl) (kg (VE (kh (cs := #[]) d sG (Dc [] aJ an bh dc rfl (by simp) rfl rfl) (fun G k d => Wm (bS hm fun H t hm => VE (lC (enc := jg) (v := (.slice (some ⟨k, 0, none⟩) 0 0)) (vs := (.slice (some z) i.length B)) (R := [(k, Ob #[] 108)]) d lz dc mo aJ qM.1 qM.2.1 rfl qM.2.2.1 qM.2.2.2 rfl rfl (jy.lit (l := []) (enc := jg) rfl dc rfl rfl) (a.mono (Pl.mono _) d.ju) t (fun D x j d c => Wa (lt ?_))))))))
  obtain rfl := sj hm
  exact jR (v := x) rfl rfl ⟨_, j, rfl, d.lU (fun p h => (Ml h)) c.nd, c⟩
theorem Bs (g : Value) (t : List jb) (j : Value) (B : jb → Option Bool) (r : Int) (w : World) (c : Sl (Pl jg) 9 (hp w) g t) (D : qZ pg0 j (hp w) (fun (x : jb) => [(.agg (jg x).toArray)]) (fun (r : Bool) => (.bool r)) B) (hm : tS t B = some r) :
  jJ false pg0 176 [g, j] w (.int .i64 r) := by
 refine cG 19 func176 rfl (fun d => sg (Wa (lS (Wm (V (kj aJ rfl c) (Wm (ln (km (fun i E W => ∃ k, (E 8 = .int .i64 (i : Nat) ∧ E 7 = .int .i64 (t.length : Nat)) ∧ ST false jT w W (hp w) k ∧ E 0 = g ∧ E 1 = j ∧ nN B (t.drop i) i = some r) t.length c.len ⟨_, ⟨rfl, rfl⟩, (d.je St), rfl, rfl, hm⟩ dc dc dc (fun _ _ _ h => by obtain ⟨_, n, _⟩ := h; exact n) ?_ ?_))))))))
 ·rintro Q E W H ⟨k, ⟨m, o⟩, d, u, y, a⟩
  obtain ⟨z, T, M, K, N⟩ := jY H
  rw [M] at a
  refine bg (Wh m (Wa (lr (Wh y (Wh u (Wm (VQ (kC (enc := jg) (i := (Q : Int)) (x0 := z) aJ an rfl rfl c (ak _) K) (fun Y I => V (jf rfl (kG d.has I aT an)) (bS a fun Z J a => ?_)))))))))
  refine VE (yP z d D (jC.refl _) rfl (ny rfl) J (fun U d => ln (CI a rfl (fun G a => ?_) (fun G a => ?_))))
  ·refine sg (Wm (Wa (lt (kH (jE (kH (jE ?_)))))))
   obtain rfl := sj a
   exact rP d
  exact jW (jV (jj ⟨m, _, ⟨rfl, o⟩, (d.je St), u, y, (by rw [N]; exact a)⟩))
 rintro E W ⟨k, ⟨m, o⟩, d, u, y, a⟩
 rw [ap] at a
 exact jj (sg (Wa (lt (rQ a d))))
theorem Bl (j : Value) (a0 : List jb) (t : LO) (H : Value) (f1 : jb → Option Bool) (r : List jb) (w : World) {μ0 : jF} (h0 : na μ0 (t ++ []) w) (T : jy 108 jg 9 j a0 t) (a4 : qZ pg0 H μ0 (fun (x : jb) => [(.agg (jg x).toArray)]) (fun (r : Bool) => (.bool r)) f1) (hm : qn a0 f1 = some r) :
  ki false pg0 112 [j, H] w (t ++ []) (fun v L1 W' => ∃ s S2, v = s ∧ L1 = (S2 ++ []) ∧ jy 108 jg 9 s r S2) := by
 refine vg h0 42 func112 rfl (fun d => sg (Wa (lr (Wm (Wm (bS hm fun q d3 hm => VE (Eg d call176 (Bs j a0 H f1 _ _ (T.sl lz (fun b o h => d.at_ (Ml h))) (a4.mono d.ju) d3) (fun W3 d => Wa (ln ?_)))))))))
 refine jo (sg (Wm (Wi rfl (ln (CI hm rfl (fun d2 hm => ?_) (fun d2 hm => ?_))))))
 ·refine sg (Wm (Wa (lt (jE ?_))))
  obtain rfl := sj hm
  exact jR (v := j) rfl rfl ⟨_, _, rfl, (d.kF (Kr Sn)), j, t, rfl, rfl, T⟩
 refine kS (Wm (Wi rfl (Wa (ln (kV (ns (fun m E W => ∃ U I B D a2, ST false (keys (t ++ [])) w W μ0 (I ++ a2) ∧ E 0 = j ∧ E 1 = H ∧ E 5 = (.int .i64 B) ∧ E 6 = (.int .i64 D) ∧ jy 108 jg 9 j U I ∧ mA f1 m U B D = some r) jX ⟨a0, t, q, (wi0 .i64 (q + 1)), _, (d.je St), rfl, rfl, rfl, rfl, T, hm⟩ ?_))))))
 rintro m E W ⟨U, I, B, D, a2, d, y, Q, G, K, g, a⟩
 cases m with
 | zero => rw [mA] at a; cases a
 | succ c8 =>
  refine jo (sg (Wh K (Wh y (V (mw aJ rfl g) (Wi rfl (ln (CI a rfl (fun F a => ?_) (fun F a => ?_))))))))
  ·refine kn (jo (CJ a (fun Y E W => ∃ J a3, ST false (keys (t ++ [])) w W μ0 (J ++ a3) ∧ E 0 = j ∧ E 1 = H ∧ E 5 = (.int .i64 Y.2) ∧ E 6 = (.int .i64 D) ∧ jy 108 jg 9 j Y.1 J) (fun Y c => ?_) ?_))
   ·refine bg (Wh y (Wh K (bS c fun k M c => VQ (lE (i := D) (x0 := k) aJ an rfl rfl g (kL M) (kq M)) (fun e4 P => V (jf rfl (pg d.has (fun p h => (Ml h)) g lz P (kq M) aT an)) (VE (kl d bh (fun d7 e2 d => VO (jD (.agg (jg k).toArray) ((jg k).toArray) d rfl rfl an (mo k) nb rfl (fun d8 d => lr (Wh Q ?_))))))))))
    refine VA d Mh (jg k) aT an (bS c fun e6 b5 c => VE (yP k d a4 (jC.refl _) rfl (ny rfl) b5 (fun d9 d => V (lM rfl) (ln (CI c rfl (fun L c => ?_) (fun L c => ?_))))))
    ·refine sg (Wh y (Wh G (VA d Mh (jg k) aT an (bS c fun d0 N c => VQ (lE (i := B) (x0 := d0) aJ an rfl rfl g (kL N) (kq N)) (fun e5 R => ?_)))))
     replace d := d.perm (Nr (Qb Qz) Nz)
     refine VO (wS (u := (.agg (jg k).toArray)) (x1 := k)  d g lz mo rfl rfl rfl R (kq N) an (fun e0 c1 d A => ln ?_))
     replace d := d.je (Kr (Db St))
     refine jk (Wh G (Wi rfl (Wa (jH (jV (jj ?_))))))
     obtain rfl := sj c
     exact ⟨c1, _, (d.je St), y, Q, rfl, K, A⟩
    refine jW (jV (jj ?_))
    obtain rfl := sj c
    exact ⟨I, _, (d.je (Db St)), y, Q, G, K, g⟩
   rintro ⟨c7, c9⟩ E W ⟨J, a3, d, c3, c4, c5, c6, b6⟩ O
   exact jk (Wh c6 (Wi rfl (Wa (ln ⟨c8, aY _, c7, J, c9, (wi0 .i64 (D + 1)), _, (d.je St), c3, c4, c5, rfl, b6, O⟩))))
  refine mI (lZ (lZ (sr (jj (sg (Wh y (Wh G (bS a fun _ Z a => VQ (rE (i := B) aJ an rfl rfl g (qc Z) (qb Z)) (fun e7 b7 => VO (vX (z := K7)  d g lz mo aJ bh b7 rfl rfl (fun e1 c2 d a9 => lr (Wh y ?_))))))))))))
  refine Wh G (bS a fun _ n a => VQ (sT (i := B) aJ an rfl rfl a9 lz (qc n) (qb n)) (fun a5 b9 => Wa (lt ?_)))
  obtain rfl := sj a
  exact jR (v := a5) rfl rfl ⟨_, _, rfl, (d.kF (Kr Sn)), a5, c2, rfl, rfl, b9⟩
theorem IH (a : jb) (r : Bool) (w : World) (hm : xB a = some r) :
  jJ true pg0 114 [(.agg (jg a).toArray)] w (.bool r) := by
 refine cG 6 func114 rfl (fun d => sg (VE (jU d rfl (fun g j d => Wa (lr (VA d Mh (jg a) aT an (bS hm fun k c hm => VE (Eg d iM (rU a _ _  c) (fun i d => V (lM rfl) (Wa (jH ?_)))))))))))
 refine jj ?_
 exact jN (rQ hm d)
theorem MY (c : Value) (k : List jb) (a : LO) (g : Value) (t : (jb × jb) → Option Int) (r : List jb) (w : World) {y : jF} (u : na y (a ++ []) w) (i : jy 108 jg 9 c k a) (j : FR pg0 g y (fun (x : (jb × jb)) => [(.agg (jg x.1).toArray), (.agg (jg x.2).toArray)]) (fun (r : Int) => (.int .i64 r)) t) (hm : w8 t k = some r) :
  ki true pg0 116 [c, g] w (a ++ []) (fun v z W' => ∃ S, v = (.tuple #[]) ∧ z = (S ++ []) ∧ jy 108 jg 9 c r S) := FZ (P := pg0) (ρ := NO) R0 9 aT an jg lz mo u.H u.S i j hm
theorem pr (t : Nat) (j : Value) (G : List Int) (i : LO) (h : Int) (r : (Bool × (List Int))) (w : World) {μ0 : jF} (s : na μ0 ((t, Ob #[j] 81) :: (i ++ [])) w) (y : jy 5 (jS .u8) 1 j G i) (hm : kX G h = some r) :
  ki true pg0 93 [(.pointer (some ⟨t, 0, none⟩)), (.int .i64 h)] w ((t, Ob #[j] 81) :: (i ++ [])) (fun v L1 W' => ∃ n S2, v = (.bool (r.1)) ∧ L1 = ((t, Ob #[n] 81) :: (S2 ++ [])) ∧ jy 5 (jS .u8) 1 n r.2 S2) := by
 refine vg s 38 func93 rfl (fun d => sg (Wa (lS (Wm (V (qD dC rfl rfl) (Wm (Vg rfl rfl (jl rfl) (Vg rfl rfl (kv rfl rfl rfl) (V (jA rfl rfl) ?_)))))))))
 refine ln (CI hm rfl (fun a9 hm => ?_) (fun a9 hm => ?_))
 ·refine sg (Wa (lt (jE ?_)))
  obtain rfl := sj hm
  exact jR (v := (.bool false)) rfl rfl ⟨_, _, rfl, (d.kF (Kb (Kr Sn))), j, i, rfl, rfl, y⟩
 refine kn (jo (kV (ns (fun m E W => ∃ c z U u a0, ST true (keys ((t, Ob #[j] 81) :: (i ++ []))) w W μ0 ((t, Ob #[z] 81) :: (u ++ a0)) ∧ E 0 = (.pointer (some ⟨t, 0, none⟩)) ∧ E 1 = (.int .i64 c) ∧ jy 5 (jS .u8) 1 z U u ∧ mS m c U = some r) jX ⟨h, j, G, i, _, (d.je St), rfl, rfl, y, hm⟩ ?_)))
 rintro m E W ⟨c, z, U, u, a0, d, x, K, T, g⟩
 cases m with
 | zero => rw [mS] at g; cases g
 | succ q =>
  refine jo (sg (Wh K (Wi rfl (ln (CI g rfl (fun o g => ?_) (fun o g => ?_))))))
  ·refine kn (jo (kV (jk (Wh x (Wh x (Wn (Wf yw (VB d Mh rfl rfl fJ (Wh K (V (yd (k' := .i64) (a := c) et da rfl) (V (Dt (k := .u8) (a := (IntKind.u8.wrap c)) (b := 128) (v := (.int .u8 (IntKind.u8.wrap (BitVec.ofInt (IntKind.bits .u8) (IntKind.u8.wrap c) ||| BitVec.ofInt (IntKind.bits .u8) 128).toNat))) rfl rfl dc rfl) (VE (kh (cs := [(.int .u8 (IntKind.u8.wrap (BitVec.ofInt (IntKind.bits .u8) (IntKind.u8.wrap c) ||| BitVec.ofInt (IntKind.bits .u8) 128).toNat))].toArray) d (mf rfl) (mn bf gy iN) (fun c3 p d => ?_))))))))))))))
   replace d := d.perm (Nr (Qb (Qb Qz)) Nz)
   refine bS g fun Q Y g => VE (lC (enc := (jS .u8)) (v := z) (vs := (.slice (some ⟨p, 0, none⟩) 1 1)) (R := u) d (fun _ => rfl) dc (wj _) bf sd.1 sd.2.1 rfl sd.2.2.1 sd.2.2.2 rfl rfl T (Sl.lit (enc := (jS .u8)) (l := [(IntKind.u8.wrap (BitVec.ofInt (IntKind.bits .u8) (IntKind.u8.wrap c) ||| BitVec.ofInt (IntKind.bits .u8) 128).toNat)]) (fun _ => rfl) rfl nb rfl (d.at_ (Ma Mh))) Y (fun A c1 a2 d M => Wn (Wf yw ?_)))
   obtain ⟨B, H, rfl⟩ := M.form
   replace d := d.perm (Nb (Pr (Pb Pz)) Nz)
   refine VO (jD (.slice B Q.length H) (#[(.slice B Q.length H)]) d rfl rfl gO oc nb rfl (fun F d => jH (jV (jj ?_))))
   replace d := d.je (Kb (Kr (Db St)))
   exact jk (Wh K (V (NE (a := c) (b := 7) rfl rfl dc) (Wa (ln ⟨q, aY _, (Int.fdiv c (2 ^ min (Int.toNat 7) (IntKind.bits .i64))), (.slice B Q.length H), Q, a2, _, (d.je St), x, rfl, M, g⟩))))
  refine mI (lZ (lZ (sr (jj (sg (Wh x (Wh x (Wn (Wf yw (VB d Mh rfl rfl fJ (Wh K (V (yd (k' := .i64) (a := c) et da rfl) (VE (kh (cs := [(.int .u8 (IntKind.u8.wrap c))].toArray) d (mf rfl) (mn bf gy iN) (fun L a5 d => ?_)))))))))))))))
  replace d := d.perm (Nr (Qb (Qb Qz)) Nz)
  refine bS g fun J Z g => VE (lC (enc := (jS .u8)) (v := z) (vs := (.slice (some ⟨a5, 0, none⟩) 1 1)) (R := u) d (fun _ => rfl) dc (wj _) bf sd.1 sd.2.1 rfl sd.2.2.1 sd.2.2.2 rfl rfl T (Sl.lit (enc := (jS .u8)) (l := [(IntKind.u8.wrap c)]) (fun _ => rfl) rfl nb rfl (d.at_ (Ma Mh))) Z (fun O c2 a3 d N => Wn (Wf yw ?_)))
  obtain ⟨D, I, rfl⟩ := N.form
  replace d := d.perm (Nb (Pr (Pb Pz)) Nz)
  refine VO (jD (.slice D J.length I) (#[(.slice D J.length I)]) d rfl rfl gO oc nb rfl (fun P d => ln ?_))
  replace d := d.je (Kb (Kr (Db St)))
  refine sg (Wa (lt ?_))
  obtain rfl := sj g
  exact jR (v := (.bool true)) rfl rfl ⟨_, _, rfl, (d.kF (Kb (Kr Sn))), (.slice D J.length I), a3, rfl, rfl, N⟩
theorem FH (g : Nat) (c : Value) (j : List Int) (a : LO) (u : Value) (D : List Int) (r : (Bool × (List Int))) (w : World) {Z : jF} (m : na Z ((g, Ob #[c] 81) :: (a ++ [])) w) (i : jy 5 (jS .u8) 1 c j a) (k : Sl (Pl (jS .u8)) 1 Z u D) (hm : uQ j D = some r) :
  ki true pg0 206 [(.pointer (some ⟨g, 0, none⟩)), u] w ((g, Ob #[c] 81) :: (a ++ [])) (fun v L1 W' => ∃ U M, v = (.bool (r.1)) ∧ L1 = ((g, Ob #[U] 81) :: (M ++ [])) ∧ jy 5 (jS .u8) 1 U r.2 M) := by
 refine vg m 25 func206 rfl (fun d => sg (Wa (lS (Wm (V (qD dC rfl rfl) (Wm (Vg rfl rfl (jl rfl) (Vg rfl rfl (kj bf rfl k) (Vg rfl rfl (kv rfl rfl rfl) ?_)))))))))
 refine V (jA rfl rfl) (ln (CI hm rfl (fun Q hm => ?_) (fun Q hm => ?_)))
 ·refine sg (Wa (lt (jE ?_)))
  obtain rfl := sj hm
  exact jR (v := (.bool false)) rfl rfl ⟨_, _, rfl, (d.kF (Kb (Kr Sn))), c, a, rfl, rfl, i⟩
 refine kg (Wm (Wm (V (kj bf rfl k) (bS hm fun s T hm => ?_))))
 refine VE (eM d (Cb Pz (Cr Qz Cn)) call93 (fun n _ => (pr g c j a (D.length : Int) _ _ n i T)) ?_)
 rintro _ v8 p a3 d H o h ⟨Y, K, t, rfl, I⟩
 obtain rfl := t.symm
 replace d := d.perm (Tb (Tr Tn))
 refine lr (Wm (Wm (Wn (Wf yw (VB d Mh rfl rfl fJ (Wm ?_))))))
 replace d := d.perm (Nr (Qb Qz) Nz)
 refine bS hm fun B G hm => VE (lC (enc := (jS .u8)) (v := Y) (vs := u) (R := K) d (fun _ => rfl) dc (wj _) bf sd.1 sd.2.1 rfl sd.2.2.1 sd.2.2.2 rfl rfl I (k.mono (Pl.mono _) (H.trans d.ju)) G (fun a4 q J d z => Wn (Wf yw ?_)))
 obtain ⟨x, y, rfl⟩ := z.form
 replace d := d.perm (Nb (Pr Pz) Nz)
 refine VO (jD (.slice x B.length y) (#[(.slice x B.length y)]) d rfl rfl gO oc nb rfl (fun a5 d => lr (Wa (lt ?_))))
 obtain rfl := sj hm
 exact jR (v := (.bool true)) rfl rfl ⟨_, _, rfl, (d.kF (Kb (Kr Sn))), (.slice x B.length y), J, rfl, rfl, z⟩
theorem wH (j : Nat) (c : Value) (t : List Int) (a : LO) (J : ByteArray) (r : (Bool × (List Int))) (w : World) {Z : jF} (F : na Z ((j, Ob #[c] 81) :: (a ++ [])) w) (k : jy 5 (jS .u8) 1 c t a) (hm : pD t J = some r) :
  ki true pg0 162 [(.pointer (some ⟨j, 0, none⟩)), (.string J)] w ((j, Ob #[c] 81) :: (a ++ [])) (fun v L1 W' => ∃ p S2, v = (.bool (r.1)) ∧ L1 = ((j, Ob #[p] 81) :: (S2 ++ [])) ∧ jy 5 (jS .u8) 1 p r.2 S2) := by
 refine vg F 17 func162 rfl (fun d => sg (Wa (lr (Wm (V (AL dC rfl rfl) (Wm (Vg rfl rfl (jl rfl) (bS hm fun r1 a4 hm => OR rfl rfl (Eg d iL (rJ J _ _  a4) (fun W3 d => V (jz rfl rfl) ?_))))))))))
 refine Wm (LJ hm (fun B E W => ∃ z x D I, jC Z D ∧ ST true (keys ((j, Ob #[c] 81) :: (a ++ []))) w W D ((j, Ob #[z] 81) :: (x ++ I)) ∧ E 4 = (.bool false) ∧ E 16 = (.bool B.1) ∧ jy 5 (jS .u8) 1 z B.2 x) 5 ?_ (fun B g y => ?_))
 ·rintro ⟨s, c0⟩ E W ⟨z, x, D, I, O, d, b9, a3, T⟩ M
  refine Wg a3 (lt ?_)
  obtain rfl := sj M
  exact jR (v := (.bool s)) rfl rfl ⟨_, _, rfl, (d.kF (Kb (Kr Sn))), z, x, rfl, rfl, T⟩
 refine bC g (fun i g => ?_) (fun i g => ?_)
 ·refine ug i (jl rfl) (ug i (jl rfl) (bS g fun a5 N g => pV i (Ix d aP bf da rfl N (fun b6 q c3 d G n U P => bS g fun c1 Q g => ?_))))
  refine pV i (eM d (Cb Pz (Cr Qz Cn)) call206 (fun L m => (FH j c t a q a5 _ _ L k (U.mono (Pl.mono _) m) Q)) ?_)
  rintro _ c2 A R d H o h ⟨a9, a2, u, rfl, Y⟩
  obtain rfl := u.symm
  replace d := d.perm (Tb (Tr Tn))
  refine V (jz (cB i) rfl) ?_
  obtain rfl := sj g
  exact y _ _ ⟨a9, a2, A, _, (G.trans H), (d.je St), rfl, rfl, Y⟩
 refine un i (un i (un i (un i (V (jA (cB i) rfl) ?_))))
 obtain rfl := sj g
 exact y _ _ ⟨c, a, Z, _, (jC.refl _), (d.je St), rfl, rfl, k⟩
theorem vc (c : Nat) (i : Value) (D : List Int) (a : LO) (x : ja) (r : (Bool × (List Int))) (w : World) {μ0 : jF} (h0 : na μ0 ((c, Ob #[i] 81) :: (a ++ [])) w) (y : jy 5 (jS .u8) 1 i D a) (hm : nm D x = some r) :
  ki true pg0 94 [(.pointer (some ⟨c, 0, none⟩)), (.agg (jc x).toArray)] w ((c, Ob #[i] 81) :: (a ++ [])) (fun v L1 W' => ∃ s S2, v = (.bool (r.1)) ∧ L1 = ((c, Ob #[s] 81) :: (S2 ++ [])) ∧ jy 5 (jS .u8) 1 s r.2 S2) := by
 let n := ((c, Ob #[i] 81) :: (a ++ []))
 refine vg h0 23 func94 rfl (fun d => sg (VE (jU d rfl (fun W2 o d => Wa (lr (Wm (V (AL dC rfl rfl) (Wm (Vg rfl rfl (jf rfl (jm d.has Mh (jc x) rfl au ag)) (bS hm fun r3 c4 hm => OR rfl rfl (Eg d ia (qx x _ _  c4) (fun W5 d => ?_))))))))))))
 refine V (jz rfl rfl) (Wm (LJ hm (fun T E W => ∃ z u B a0, jC μ0 B ∧ ST true (keys n) w W B ((o, Ol (jc x) 28) :: ((c, Ob #[z] 81) :: (u ++ a0))) ∧ E 0 = (.pointer (some ⟨c, 0, none⟩)) ∧ E 3 = (.pointer (some ⟨o, 0, none⟩)) ∧ E 4 = (.bool false) ∧ E 16 = (.bool T.1) ∧ jy 5 (jS .u8) 1 z T.2 u) 5 ?_ (fun T t K => ?_)))
 ·rintro ⟨e6, c5⟩ E W ⟨z, u, B, a0, d2, d, c0, c1, a3, c2, N⟩ A
  refine Wh c2 (LJ A (fun Q E W => ∃ M I U a2, jC B U ∧ ST true (keys n) w W U ((c, Ob #[M] 81) :: (I ++ a2)) ∧ E 4 = (.bool false) ∧ E 22 = (.bool Q.1) ∧ jy 5 (jS .u8) 1 M Q.2 I) 5 ?_ (fun Q k J => ?_))
  ·rintro ⟨c6, e1⟩ E W ⟨M, I, U, a2, d3, d, e0, c3, O⟩ F
   refine Wg c3 (lt ?_)
   obtain rfl := sj F
   exact jR (v := (.bool c6)) rfl rfl ⟨_, _, rfl, (d.kF (Kb (Kr Sn))), M, I, rfl, rfl, O⟩
  refine bC k (fun g k => ?_) (fun g k => ?_)
  ·refine ug g (jl c0) (ug g (jh um c1) (ug g (jf rfl (jq d.has Mh rfl aG)) (bS k fun e2 L k => ?_)))
   refine pV g (eM d (Cb (Pb Pz) (Cr (Qb Qz) Cn)) call162 (fun m _ => (wH c z c5 u x.jK _ _ m N L)) ?_)
   rintro _ e4 d0 d6 d Y p h ⟨c8, b6, G, rfl, P⟩
   obtain rfl := G.symm
   replace d := d.perm (Tb (Tr Tn))
   refine V (jz (cB g) rfl) ?_
   obtain rfl := sj k
   exact J _ _ ⟨c8, b6, d0, _, Y, (d.je (Kb (Kr (Db St)))), a3, rfl, P⟩
  refine un g (un g (un g (un g (V (jA (cB g) rfl) ?_))))
  obtain rfl := sj k
  exact J _ _ ⟨z, u, B, _, (jC.refl _), (d.je (Db St)), a3, rfl, N⟩
 refine bC t (fun j t => ?_) (fun j t => ?_)
 ·refine ug j (jl rfl) (ug j (jh ox rfl) (ug j (jf rfl (jq d.has Mh rfl aG)) (bS t fun e3 a9 t => ?_)))
  refine pV j (eM d (Cb (Pb Pz) (Cr (Qb Qz) Cn)) call162 (fun m _ => (wH c i D a x.jn _ _ m y a9)) ?_)
  rintro _ e5 d1 d7 d Z q h ⟨c9, b7, H, rfl, R⟩
  obtain rfl := H.symm
  replace d := d.perm (Tb (Tr Tn))
  refine V (jz (cB j) rfl) ?_
  obtain rfl := sj t
  exact K _ _ ⟨c9, b7, d1, _, Z, (d.je (Sb (Pb (Pr Pz)) St)), rfl, rfl, rfl, rfl, R⟩
 refine un j (un j (un j (un j (V (jA (cB j) rfl) ?_))))
 obtain rfl := sj t
 exact K _ _ ⟨i, a, μ0, _, (jC.refl _), (d.je St), rfl, rfl, rfl, rfl, y⟩
theorem Ak (g : Value) (i r : List Int) (w : World) (a : Sl (Pl (jS .u8)) 1 (hp w) g i) (hm : nW i = some r) :
  kw true pg0 96 [g] w 5 (jS .u8) 1 r := by
 unfold nW at hm
 refine vi 8 func96 rfl (fun d => sg (Wa (lS (Wm ?_))))
 obtain ⟨y, B, rfl⟩ := a.form
 refine V (BC bf rfl rfl) (ln ?_)
 rcases y with _ | z
 ·have u := a.isNil
  replace hm : some [] = some r := by rw [u] at hm; simpa [lj, maxLen] using hm
  refine vm (rfl) (sg (Wa (lt (jE ?_))))
  obtain rfl := sj hm
  exact jR (v := (.slice none 0 0)) rfl rfl ⟨_, [], rfl, d.lU (fun p h => by cases h) (by simp), jy.nil _ _ _⟩
 ·refine oO (rfl) (kg (VE (kh (cs := #[]) d sG (Dc [] bf gy iN dc rfl (by simp) rfl rfl) (fun G k d => Wm (bS hm fun H t hm => VE (lC (enc := (jS .u8)) (v := (.slice (some ⟨k, 0, none⟩) 0 0)) (vs := (.slice (some z) i.length B)) (R := [(k, Ob #[] 5)]) d (fun _ => rfl) dc (wj _) bf sd.1 sd.2.1 rfl sd.2.2.1 sd.2.2.2 rfl rfl (jy.lit (l := []) (enc := (jS .u8)) rfl dc rfl rfl) (a.mono (Pl.mono _) d.ju) t (fun D x j d c => Wa (lt ?_))))))))
  obtain rfl := sj hm
  exact jR (v := x) rfl rfl ⟨_, j, rfl, d.lU (fun p h => (Ml h)) c.nd, c⟩
theorem vw (g : Nat) (a : Value) (c r : List Int) (w : World) (j : Sl (Pl (jS .u8)) 1 (hp w) a c) (k : At (hp w) (.pointer (some ⟨g, 0, none⟩)) [a]) (hm : mT c = some r) :
  kw true pg0 37 [(.pointer (some ⟨g, 0, none⟩))] w 5 (jS .u8) 1 r := by
 refine vi 10 func37 rfl (fun d => sg (Wa (lS (Wm (V (qD dC rfl rfl) (ln (oO rfl (jW ?_))))))))
 refine jj (sg (Wm (Wn (VQ (sZ [a] yw rfl k rfl) (fun G u => V (jf rfl (lL d.has (y := a) u fJ)) (bS hm fun H x hm => VE (rC d call96 (Ak a c _ _ (j.mono (Pl.mono _) d.ju) x) (fun D z I t d B h i => Wa (lt ?_)))))))))
 obtain rfl := sj hm
 exact jR (v := z) rfl rfl ⟨_, t, rfl, d.lU (fun p m => (Ml m)) i.nd, i⟩
theorem Bo (c : jb) (r : List Int) (w : World) (hm : tC c = some r) :
  kw true pg0 161 [(.agg (jg c).toArray)] w 5 (jS .u8) 1 r := by
 refine vi 53 func161 rfl (fun d => sg (VE (jU d rfl (fun W2 b1 d => Wa (lS (VA d Mh (jg c) aT an (bS hm fun r3 g3 hm => VE (Eg d iM (rU c _ _  g3) (fun W5 d => V (lM rfl) (jH ?_))))))))))
 refine jj (CI hm rfl (fun g0 hm => ?_) (fun g0 hm => ?_))
 ·refine sg (Wa (ln ?_))
  replace d := d.je (Db St)
  refine jN (jE ?_)
  obtain rfl := sj hm
  exact jR (v := (.slice none 0 0)) rfl rfl ⟨_, [], rfl, d.lU (fun p n => by cases n) (by simp), jy.nil _ _ _⟩
 refine kg (V (kO (v := (.agg #[(.slice none 0 0)])) sG (ku ie cY (JU _ cY) kr)) (VE (jU d rfl (fun W8 g d => Wa (lr (Wm (Wf mh (VB d (Mt Mh) rfl rfl bl (bS hm fun r9 e2 hm => ?_)))))))))
 refine VE (eM d (Cb Pz (C0 Cn)) call93 (fun m _ => (pr g (.slice none 0 0) ([]) [] c.Kind _ _ m (jy.nil _ _ _) e2)) ?_)
 rintro _ k3 k5 j9 d g7 R h ⟨g4, f9, I, rfl, e4⟩
 obtain rfl := I.symm
 replace d := d.perm (Tb (Tr Tn))
 refine lr (Wm (Wf mJ (VA d (Mt (Ma Mh)) (jc c.Head) au ag (bS hm fun N e3 hm => ?_))))
 refine VE (eM d (Cb Pz (Cr Qz Cn)) call94 (fun m _ => (vc g g4 r9.2 f9 c.Head _ _ m e4 e3)) ?_)
 rintro _ k4 d1 k0 d g8 a6 h ⟨G, D, J, rfl, i⟩
 obtain rfl := J.symm
 replace d := d.perm (Tb (Tr Tn))
 refine ln (jo (CJ hm (fun a3 E W => ∃ B H K Q, jC d1 K ∧ ST true jT w W K ((g, Ob #[B] 81) :: (H ++ Q)) ∧ E 3 = (.pointer (some ⟨g, 0, none⟩)) ∧ jy 5 (jS .u8) 1 B a3 H) (fun a3 a => ?_) ?_))
 ·refine sg (Wf mh (VB d (Mt (Ma Mh)) rfl rfl bl (ln (bg (Wi rfl (Wa (ln (CI a rfl (fun b0 a => ?_) (fun b0 a => ?_)))))))))
  ·refine jk (Wm (Wf rq (VB d (Mt (Ma Mh)) rfl rfl aG (bS a fun i3 b6 a => ?_))))
   refine VE (eM d (Cb Pz (Cr Qz Cn)) call162 (fun m _ => (wH g G N.2 D c.jL _ _ m i b6)) ?_)
   rintro _ i8 f5 g9 d T s h ⟨e9, d3, k, rfl, c5⟩
   obtain rfl := k.symm
   replace d := d.perm (Tb (Tr Tn))
   refine jH (jV (jj ?_))
   obtain rfl := sj a
   exact ⟨e9, d3, f5, _, T, (d.je (Kb (Kr (Db St)))), rfl, c5⟩
  refine sg (Wi rfl (Wa (ln (CI a rfl (fun b2 a => ?_) (fun b2 a => ?_)))))
  ·refine jk (Wm (Wf lm (VA d (Mt (Ma Mh)) (jc c.B) au ag (bS a fun i4 b9 a => ?_))))
   refine VE (eM d (Cb Pz (Cr Qz Cn)) call94 (fun m _ => (vc g G N.2 D c.B _ _ m i b9)) ?_)
   rintro _ i9 f6 h0 d U A h ⟨f0, d4, t, rfl, c6⟩
   obtain rfl := t.symm
   replace d := d.perm (Tb (Tr Tn))
   refine jH (jV (jj ?_))
   obtain rfl := sj a
   exact ⟨f0, d4, f6, _, U, (d.je (Kb (Kr (Db St)))), rfl, c6⟩
  refine sg (Wi rfl (Wa (ln (CI a rfl (fun b3 a => ?_) (fun b3 a => ?_)))))
  ·refine sg (Wm (Wf lm (VA d (Mt (Ma Mh)) (jc c.B) au ag (bS a fun e6 c0 a => ?_))))
   refine VE (eM d (Cb Pz (Cr Qz Cn)) call94 (fun m _ => (vc g G N.2 D c.B _ _ m i c0)) ?_)
   rintro _ j0 j7 h1 d Y F h ⟨f1, d5, u, rfl, c7⟩
   obtain rfl := u.symm
   replace d := d.perm (Tb (Tr Tn))
   refine ln (jk (Wm (Wf pX (VB d (Mt (Ma Mh)) rfl rfl aG (bS a fun i5 c1 a => ?_)))))
   refine VE (eM d (Cb Pz (Cr Qz Cn)) call162 (fun m _ => (wH g f1 e6.2 d5 c.kk _ _ m c7 c1)) ?_)
   rintro _ j3 f7 h2 d Z L h ⟨f2, d6, x, rfl, c8⟩
   obtain rfl := x.symm
   replace d := d.perm (Tb (Tr Tn))
   refine jH (jV (jj ?_))
   obtain rfl := sj a
   exact ⟨f2, d6, f7, _, (Y.trans Z), (d.je (Kb (Kr (Db St)))), rfl, c8⟩
  refine sg (Wi rfl (Wa (ln (CI a rfl (fun b4 a => ?_) (fun b4 a => ?_)))))
  ·refine sg (Wm (Wf lm (VA d (Mt (Ma Mh)) (jc c.B) au ag (bS a fun e7 c2 a => ?_))))
   refine VE (eM d (Cb Pz (Cr Qz Cn)) call94 (fun m _ => (vc g G N.2 D c.B _ _ m i c2)) ?_)
   rintro _ j4 j8 h3 d a1 O h ⟨f3, d7, y, rfl, c9⟩
   obtain rfl := y.symm
   replace d := d.perm (Tb (Tr Tn))
   refine ln (jk (Wm (Wf ou (VA d (Mt (Ma Mh)) (jc c.C) au ag (bS a fun i6 c3 a => ?_)))))
   refine VE (eM d (Cb Pz (Cr Qz Cn)) call94 (fun m _ => (vc g f3 e7.2 d7 c.C _ _ m c9 c3)) ?_)
   rintro _ j5 f8 h4 d a2 P h ⟨f4, d8, z, rfl, d0⟩
   obtain rfl := z.symm
   replace d := d.perm (Tb (Tr Tn))
   refine jH (jV (jj ?_))
   obtain rfl := sj a
   exact ⟨f4, d8, f8, _, (a1.trans a2), (d.je (Kb (Kr (Db St)))), rfl, d0⟩
  refine jW (jV (jj ?_))
  obtain rfl := sj a
  exact ⟨G, D, d1, _, (jC.refl _), (d.je (Kb (Kr (Db St)))), rfl, i⟩
 rintro e5 E W ⟨B, H, K, Q, g1, d, d9, c4⟩ j
 refine sg (Wh d9 (bS j fun i2 b5 j => VE (rC d call37 (vw g B e5 _ _ (c4.sl (fun _ => rfl) (fun b o n => d.at_ (Mt (Ml n)))) (At.of (d.at_ Mh) _ rfl) b5) (fun h5 e8 j6 d2 d g2 q M => Wa (ln ?_)))))
 replace d := d.je (Kr (Db (Dr St)))
 refine jN ?_
 obtain rfl := sj j
 exact jR (v := e8) rfl rfl ⟨_, d2, rfl, d.lU (fun p n => (Ml n)) M.nd, M⟩
theorem SC (w : World) {c d : Value} {a b : List Int} (h1 : Sl (Pl (jS .u8)) 1 (hp w) c a) (g : Sl (Pl (jS .u8)) 1 (hp w) d b) : (callFunc 227 [c, d].toArray).run pg0 w = .ok (.value (.int .i64 (xY a b))) w := PY func227 (by kernel_rfl) (by kernel_rfl) (by kernel_rfl) (by kernel_rfl) h1 g
theorem GR (a : Value) (g : List Int) (c : Value) (i : List Int) (r : Int) (w : World) (j : Sl (Pl (jS .u8)) 1 (hp w) a g) (k : Sl (Pl (jS .u8)) 1 (hp w) c i) (hm : yR g i = some r) :
  jJ true pg0 180 [a, c] w (.int .i64 r) := by
 exact cG 8 func180 rfl (fun d => sg (Wa (lr (Wm (Wm (VE (Nh (args := [a, c]) (v := .int .i64 (xY g i)) rfl (by exact og rfl rfl) (SC _ (j.mono (Pl.mono _) d.ju) (k.mono (Pl.mono _) d.ju)) (Wa (lt (rQ hm d))))))))))
theorem HA (g i : jb) (r : Int) (w : World) (hm : tj g i = some r) :
  jJ true pg0 117 [(.agg (jg g).toArray), (.agg (jg i).toArray)] w (.int .i64 r) := by
 refine cG 10 func117 rfl (fun d => sg (VE (jU d rfl (fun T Y d => VE (jU d rfl (fun U Z d => Wa (ln (jo ?_))))))))
 replace d := d.drew
 have h := d.has.je (Kb (Kb Sn))
 refine ko h jP (XH 0 rfl h (fun _ m => jf rfl (jm m (Mt Mh) (jg g) rfl aT an)) (XH 2 rfl h (fun _ m => jf rfl (jm m Mh (jg i) rfl aT an)) (bS hm fun y t hm => XE 1 rfl (rC d call161 (Bo g _ _  t) (fun I B N G d a p j => ?_)))))
 have h := d.has.oW a (Dr (Kb (Kb Sn)))
 refine ⟨h, (bS hm fun z u hm => XE 3 rfl (rC d call161 (Bo i _ _  u) (fun J D Q H d c q k => ?_)))⟩
 have h := d.has.oW (a.trans c) (Dr (Dr (Kb (Kb Sn))))
 refine ⟨h, (bS hm fun M x hm => XE 4 rfl (Eg d call180 (GR B y D z _ _ (j.sl (fun _ => rfl) (fun b o n => d.at_ (Ma (Ml n)))) (k.sl (fun _ => rfl) (fun b o n => d.at_ (Ml n))) x) (fun K d => ?_)))⟩
 have h := d.has.oW (a.trans c) (Dr (Dr (Kb (Kb Sn))))
 refine ⟨h, (X 5 rfl h (lO rfl) (kz kr (jj ?_)))⟩
 exact jN (rQ hm d)
theorem C7 (j : Value) (a0 : List jb) (x : LO) (r : List jb) (w : World) {μ0 : jF} (h0 : na μ0 (x ++ []) w) (B : jy 108 jg 9 j a0 x) (hm : se a0 = some r) :
  ki true pg0 118 [j] w (x ++ []) (fun v L1 W' => ∃ y1 S2, v = y1 ∧ L1 = (S2 ++ []) ∧ jy 108 jg 9 y1 r S2) := by
 refine vg h0 61 func118 rfl (fun d => sg (Wa (lS (Wm (V (mw aJ rfl B) (Wi rfl (ln (CI hm rfl (fun g0 hm => ?_) (fun g0 hm => ?_)))))))))
 ·refine sg (Wm (Wa (lt (jE ?_))))
  obtain rfl := sj hm
  exact jR (v := j) rfl rfl ⟨_, _, rfl, (d.kF (Kr Sn)), j, x, rfl, rfl, B⟩
 refine kS (Wa (ln (kV (ns (fun m E W => ∃ t b4, ST true (keys (x ++ [])) w W μ0 (x ++ b4) ∧ E 0 = j ∧ E 3 = (.int .i64 t) ∧ nw a0 m t = some r) jX ⟨1, _, (d.je St), rfl, rfl, hm⟩ ?_))))
 rintro m E W ⟨t, b4, d, D, H, a⟩
 cases m with
 | zero => rw [nw] at a; cases a
 | succ f5 =>
  refine jo (sg (Wh H (Wh D (V (mw aJ rfl B) (Wi rfl (ln (CI a rfl (fun d0 a => ?_) (fun d0 a => ?_))))))))
  ·refine kn (jo (kV (jo ?_)))
   replace d := d.drew
   have h := d.has.je (Kr Sn)
   refine ko h jP (X 0 rfl h (jl D) (X 1 rfl h (jl H) (bS a fun c3 Z a => XQ 2 rfl h (lE (i := t) (x0 := c3) aJ an rfl rfl B (kL Z) (kq Z)) (fun g7 d6 => XH 3 rfl h (fun _ o => jf rfl (pg o (fun p n => (Ml n)) B lz d6 (kq Z) aT an)) (X 4 rfl h (jl D) (X 5 rfl h (jl H) (X 6 rfl h (kv rfl rfl rfl) (bS a fun c4 q a => XQ 7 rfl h (lE (i := (wi0 .i64 (t - 1))) (x0 := c4) aJ an rfl rfl B (kL q) (kq q)) (fun g8 d7 => XH 8 rfl h (fun _ o => jf rfl (pg o (fun p n => (Ml n)) B lz d7 (kq q) aT an)) (X 9 rfl h (uL rfl rfl (lN gP) (qK (Bm _ c3 c4))) (kz kr (jj ?_))))))))))))
   refine CI a rfl (fun d1 a => ?_) (fun d1 a => ?_)
   ·refine sg (Wh D (Wh H (bS a fun _ L a => VQ (rE (i := t) aJ an rfl rfl B (qc L) (qb L)) (fun c1 M => Wa (lS (Wa (ln ?_)))))))
    refine CJ a (fun U E W => ∃ s b5, ST true (keys (x ++ [])) w W μ0 (s ++ b5) ∧ E 0 = j ∧ E 3 = (.int .i64 U.2) ∧ jy 108 jg 9 j U.1 s) (fun U d4 => ?_) ?_
    ·refine kV (ns (fun m E W => ∃ A K Y y b6, ST true (keys (x ++ [])) w W μ0 (K ++ b6) ∧ E 0 = j ∧ E 3 = (.int .i64 Y) ∧ E 4 = c1 ∧ E 5 = (.int .i64 y) ∧ jy 108 jg 9 j A K ∧ nl t m A Y y = some U) jX ⟨a0, x, t, 1, _, (d.je St), D, H, rfl, rfl, B, d4⟩ ?_)
     rintro m E W ⟨A, K, Y, y, b6, d, Q, T, I, J, g, k⟩
     cases m with
     | zero => rw [nl] at k; cases k
     | succ f6 =>
      refine jo (sg (Wh J (Wh I (V (Et aJ rfl M g) (Wi rfl (ln (CI k rfl (fun d2 k => ?_) (fun d2 k => ?_))))))))
      ·refine kn (jo (CJ k (fun F E W => ∃ N b7, ST true (keys (x ++ [])) w W μ0 (N ++ b7) ∧ E 0 = j ∧ E 3 = (.int .i64 F.2) ∧ E 4 = c1 ∧ E 5 = (.int .i64 y) ∧ jy 108 jg 9 j F.1 N) (fun F c => ?_) ?_))
       ·refine kV (jo ?_)
        replace d := d.drew
        have h := d.has.je (Kr Sn)
        refine ko h jP (X 0 rfl h (jl I) (X 1 rfl h (jl J) (bS c fun c6 a2 c => XQ 2 rfl h (rI (i := y) (x0 := c6) aJ an rfl rfl g M (kL a2) (kq a2)) (fun g9 d8 => XH 3 rfl h (fun _ o => jf rfl (pg o (fun p n => (Ml n)) g lz d8 (uG (kq a2)) aT an)) (X 4 rfl h (jl I) (X 5 rfl h (jl J) (X 6 rfl h (kv rfl rfl rfl) (bS c fun c7 a3 c => XQ 7 rfl h (rI (i := (wi0 .i64 (y - 1))) (x0 := c7) aJ an rfl rfl g M (kL a3) (kq a3)) (fun h1 d9 => XH 8 rfl h (fun _ o => jf rfl (pg o (fun p n => (Ml n)) g lz d9 (uG (kq a3)) aT an)) (X 9 rfl h (B3 rfl rfl (lN gP) (xZ (Bm _ c6 c7))) (kz kr (jj ?_))))))))))))
        refine CI c rfl (fun d3 c => ?_) (fun d3 c => ?_)
        ·refine sg (Wh Q (Wh T (Wh I (Wh J (bS c fun a9 a4 c => VQ (rI (i := y) (x0 := a9) aJ an rfl rfl g M (kL a4) (kq a4)) (fun h2 e0 => V (jf rfl (pg d.has (fun p n => (Ml n)) g lz e0 (uG (kq a4)) aT an)) (bS c fun f8 a5 c => VQ (lE (i := Y) (x0 := f8) aJ an rfl rfl g (kL a5) (kq a5)) (fun h3 e1 => VO (wS (u := (.agg (jg a9).toArray)) (x1 := a9)  d g lz mo rfl rfl rfl e1 (kq a5) an (fun g3 e8 d c9 => ln (jk ?_)))))))))))
         refine Wh T (Wi rfl (Wa (jH (jV (jj ?_)))))
         obtain rfl := sj c
         exact ⟨e8, _, (d.je St), Q, rfl, I, J, c9⟩
        refine jW (jV (jj ?_))
        obtain rfl := sj c
        exact ⟨K, _, (d.je St), Q, T, I, J, g⟩
       rintro ⟨f4, f7⟩ E W ⟨N, b7, d, f0, f1, f2, f3, e4⟩ d5
       exact jk (Wh f3 (Wi rfl (Wa (ln ⟨f6, aY _, f4, N, f7, (wi0 .i64 (y + 1)), _, (d.je St), f0, f1, f2, rfl, e4, d5⟩))))
      refine mI (lZ (lZ (sr (jj ?_))))
      obtain rfl := sj k
      exact ⟨K, _, (d.je St), Q, T, g⟩
    rintro ⟨g4, c5⟩ E W ⟨s, b5, d, b9, c0, R⟩ G
    refine sg (Wh b9 (Wh c0 (bS G fun _ O G => VQ (rE (i := c5) aJ an rfl rfl R (qc O) (qb O)) (fun h4 e2 => VO (vX (z := K7)  d R lz mo aJ bh e2 rfl rfl (fun g2 e7 d c8 => lr (Wh b9 (Wh c0 (bS G fun _ P G => VQ (sT (i := c5) aJ an rfl rfl c8 lz (qc P) (qb P)) (fun c2 e3 => ?_))))))))))
    refine Wa (lt (kH (jE (jE (kH (jE ?_))))))
    obtain rfl := sj G
    exact jR (v := c2) rfl rfl ⟨_, _, rfl, (d.kF (Kr Sn)), c2, e7, rfl, rfl, e3⟩
   exact jW (jV (jj (jk (Wh H (Wi rfl (Wa (ln ⟨f5, aY _, (wi0 .i64 (t + 1)), _, (d.je St), D, rfl, a⟩)))))))
  refine mI (lZ (lZ (sr (jj (sg (Wh D (Wa (lt ?_))))))))
  obtain rfl := sj a
  exact jR (v := j) rfl rfl ⟨_, _, rfl, (d.kF (Kr Sn)), j, x, rfl, rfl, B⟩
theorem M2 (i : Value) (t r : List jb) (w : World) (B : Sl (Pl jg) 9 (hp w) i t) (hm : yy t = some r) :
  kw false pg0 51 [i] w 108 jg 9 r := by
 refine vi 11 func51 rfl (fun d => sg (Wa (lr (Wm (bS hm fun z T hm => VE (rC d call113 (kw.kI (D6 i t _ _ (B.mono (Pl.mono _) d.ju) T)) (fun W3 v7 A R8 d a5 s Q => bS hm fun U D hm => ?_)))))))
 refine VE (eM d (Cr Qz Cn) call112 (fun m _ => (Bl v7 z R8 (.func (.func 114) #[] #[]) (fun (x : jb) => xB x) _ _ m Q ⟨114, #[], #[], rfl, call114, fun W x r y hm => (IH x r W  hm).kI⟩ D)) ?_)
 rintro _ R b9 L d F n h ⟨k, K, a, rfl, I⟩
 obtain rfl := a.symm
 replace d := d.perm (Tr Tn)
 refine Wa (lr (Wm (bS hm fun Y G hm => ?_)))
 refine VE (eM d (Cr Qz Cn) call116 (fun m _ => ki.kI (MY k U K (.func (.func 117) #[] #[]) (fun (x : (jb × jb)) => tj x.1 x.2) _ _ m I ⟨117, #[], rfl, call117, fun W x r y hm => HA x.1 x.2 r W  hm⟩ G)) ?_)
 rintro _ b6 c0 a9 d a2 o h ⟨M, c, rfl, J⟩
 obtain rfl := c.symm
 replace d := d.perm (Tr Tn)
 refine lr (Wm (bS hm fun P H hm => ?_))
 refine VE (eM d (Cr Qz Cn) call118 (fun m _ => ki.kI (C7 k Y M _ _ m J H)) ?_)
 rintro _ b7 c1 O d a3 q h ⟨Z, N, g, rfl, j⟩
 obtain rfl := g.symm
 replace d := d.perm (Tr Tn)
 refine Wa (lt ?_)
 obtain rfl := sj hm
 exact jR (v := Z) rfl rfl ⟨_, N, rfl, d.lU (fun p u => (Ml u)) j.nd, j⟩
theorem Ng (c : Value) (i : List ByteArray) (a : LO) (r : List ByteArray) (w : World) {t : jF} (k : na t (a ++ []) w) (g : jy 9 mL 1 c i a) (hm : Fk i = some r) :
  ki true pg0 182 [c] w (a ++ []) (fun v j W' => ∃ S, v = (.tuple #[]) ∧ j = (S ++ []) ∧ jy 9 mL 1 c r S) := Ld (P := pg0) (ρ := Oj) O3 k.H g hm
theorem Br (j : Value) (a0 : List ByteArray) (x : LO) (r : List ByteArray) (w : World) {μ0 : jF} (h0 : na μ0 (x ++ []) w) (D : jy 9 mL 1 j a0 x) (hm : oZ a0 = some r) :
  ki true pg0 239 [j] w (x ++ []) (fun v L1 W' => ∃ y1 S2, v = y1 ∧ L1 = (S2 ++ []) ∧ jy 9 mL 1 y1 r S2) := by
 refine vg h0 61 func239 rfl (fun d => sg (Wa (lS (Wm (V (mw bc rfl D) (Wi rfl (ln (CI hm rfl (fun g1 hm => ?_) (fun g1 hm => ?_)))))))))
 ·refine sg (Wm (Wa (lt (jE ?_))))
  obtain rfl := sj hm
  exact jR (v := j) rfl rfl ⟨_, _, rfl, (d.kF (Kr Sn)), j, x, rfl, rfl, D⟩
 refine kS (Wa (ln (kV (ns (fun m E W => ∃ t b5, ST true (keys (x ++ [])) w W μ0 (x ++ b5) ∧ E 0 = j ∧ E 3 = (.int .i64 t) ∧ mG a0 m t = some r) jX ⟨1, _, (d.je St), rfl, rfl, hm⟩ ?_))))
 rintro m E W ⟨t, b5, d, G, I, a⟩
 cases m with
 | zero => rw [mG] at a; cases a
 | succ f6 =>
  refine jo (sg (Wh I (Wh G (V (mw bc rfl D) (Wi rfl (ln (CI a rfl (fun d1 a => ?_) (fun d1 a => ?_))))))))
  ·refine kn (jo (kV (jo ?_)))
   replace d := d.drew
   have h := d.has.je (Kr Sn)
   refine ko h jP (X 0 rfl h (jl G) (X 1 rfl h (jl I) (bS a fun c4 a2 a => XQ 2 rfl h (lE (i := t) (x0 := c4) bc cj rfl rfl D (kL a2) (kq a2)) (fun g8 d7 => XH 3 rfl h (fun _ o => jf rfl (uz o (fun p n => (Ml n)) D (fun _ => rfl) d7 (kq a2) (y := (.string c4)) rfl aG)) (X 4 rfl h (jl G) (X 5 rfl h (jl I) (X 6 rfl h (kv rfl rfl rfl) (bS a fun c5 a3 a => XQ 7 rfl h (lE (i := (wi0 .i64 (t - 1))) (x0 := c5) bc cj rfl rfl D (kL a3) (kq a3)) (fun g9 d8 => XH 8 rfl h (fun _ o => jf rfl (uz o (fun p n => (Ml n)) D (fun _ => rfl) d8 (kq a3) (y := (.string c5)) rfl aG)) (X 9 rfl h (sQ rfl rfl rfl) (kz kr (jj ?_))))))))))))
   refine CI a rfl (fun d2 a => ?_) (fun d2 a => ?_)
   ·refine sg (Wh G (Wh I (bS a fun _ O a => VQ (rE (i := t) bc cj rfl rfl D (qc O) (qb O)) (fun c2 N => Wa (lS (Wa (ln ?_)))))))
    refine CJ a (fun Y E W => ∃ F b6, ST true (keys (x ++ [])) w W μ0 (F ++ b6) ∧ E 0 = j ∧ E 3 = (.int .i64 Y.2) ∧ jy 9 mL 1 j Y.1 F) (fun Y d5 => ?_) ?_
    ·refine kV (ns (fun m E W => ∃ a9 M Z B b7, ST true (keys (x ++ [])) w W μ0 (M ++ b7) ∧ E 0 = j ∧ E 3 = (.int .i64 Z) ∧ E 4 = c2 ∧ E 5 = (.int .i64 B) ∧ jy 9 mL 1 j a9 M ∧ mH t m a9 Z B = some Y) jX ⟨a0, x, t, 1, _, (d.je St), G, I, rfl, rfl, D, d5⟩ ?_)
     rintro m E W ⟨a9, M, Z, B, b7, d, T, U, J, K, g, k⟩
     cases m with
     | zero => rw [mH] at k; cases k
     | succ f7 =>
      refine jo (sg (Wh K (Wh J (V (Et bc rfl N g) (Wi rfl (ln (CI k rfl (fun d3 k => ?_) (fun d3 k => ?_))))))))
      ·refine kn (jo (CJ k (fun L E W => ∃ Q b9, ST true (keys (x ++ [])) w W μ0 (Q ++ b9) ∧ E 0 = j ∧ E 3 = (.int .i64 L.2) ∧ E 4 = c2 ∧ E 5 = (.int .i64 B) ∧ jy 9 mL 1 j L.1 Q) (fun L c => ?_) ?_))
       ·refine kV (jo ?_)
        replace d := d.drew
        have h := d.has.je (Kr Sn)
        refine ko h jP (X 0 rfl h (jl J) (X 1 rfl h (jl K) (bS c fun c7 a4 c => XQ 2 rfl h (rI (i := B) (x0 := c7) bc cj rfl rfl g N (kL a4) (kq a4)) (fun h1 d9 => XH 3 rfl h (fun _ o => jf rfl (uz o (fun p n => (Ml n)) g (fun _ => rfl) d9 (uG (kq a4)) (y := (.string c7)) rfl aG)) (X 4 rfl h (jl J) (X 5 rfl h (jl K) (X 6 rfl h (kv rfl rfl rfl) (bS c fun c8 a5 c => XQ 7 rfl h (rI (i := (wi0 .i64 (B - 1))) (x0 := c8) bc cj rfl rfl g N (kL a5) (kq a5)) (fun h2 e0 => XH 8 rfl h (fun _ o => jf rfl (uz o (fun p n => (Ml n)) g (fun _ => rfl) e0 (uG (kq a5)) (y := (.string c8)) rfl aG)) (X 9 rfl h (sQ rfl rfl rfl) (kz kr (jj ?_))))))))))))
        refine CI c rfl (fun d4 c => ?_) (fun d4 c => ?_)
        ·refine sg (Wh T (Wh U (Wh J (Wh K (bS c fun q s c => VQ (rI (i := B) (x0 := q) bc cj rfl rfl g N (kL s) (kq s)) (fun h3 e1 => V (jf rfl (uz d.has (fun p n => (Ml n)) g (fun _ => rfl) e1 (uG (kq s)) (y := (.string q)) rfl aG)) (bS c fun f9 A c => VQ (lE (i := Z) (x0 := f9) bc cj rfl rfl g (kL A) (kq A)) (fun h4 e2 => VO (wS (u := (.string q)) (x1 := q)  d g (fun _ => rfl) An rfl rfl rfl e2 (kq A) cj (fun g4 e9 d d0 => ln (jk ?_)))))))))))
         refine Wh U (Wi rfl (Wa (jH (jV (jj ?_)))))
         obtain rfl := sj c
         exact ⟨e9, _, (d.je St), T, rfl, J, K, d0⟩
        refine jW (jV (jj ?_))
        obtain rfl := sj c
        exact ⟨M, _, (d.je St), T, U, J, K, g⟩
       rintro ⟨f5, f8⟩ E W ⟨Q, b9, d, f1, f2, f3, f4, e5⟩ d6
       exact jk (Wh f4 (Wi rfl (Wa (ln ⟨f7, aY _, f5, Q, f8, (wi0 .i64 (B + 1)), _, (d.je St), f1, f2, f3, rfl, e5, d6⟩))))
      refine mI (lZ (lZ (sr (jj ?_))))
      obtain rfl := sj k
      exact ⟨M, _, (d.je St), T, U, g⟩
    rintro ⟨g7, c6⟩ E W ⟨F, b6, d, c0, c1, b4⟩ H
    refine sg (Wh c0 (Wh c1 (bS H fun _ P H => VQ (rE (i := c6) bc cj rfl rfl b4 (qc P) (qb P)) (fun h5 e3 => VO (vX (z := zS)  d b4 (fun _ => rfl) An bc zeroValue9 e3 rfl rfl (fun g3 e8 d c9 => lr (Wh c0 (Wh c1 (bS H fun _ R H => VQ (sT (i := c6) bc cj rfl rfl c9 (fun _ => rfl) (qc R) (qb R)) (fun c3 e4 => ?_))))))))))
    refine Wa (lt (kH (jE (jE (kH (jE ?_))))))
    obtain rfl := sj H
    exact jR (v := c3) rfl rfl ⟨_, _, rfl, (d.kF (Kr Sn)), c3, e8, rfl, rfl, e4⟩
   exact jW (jV (jj (jk (Wh I (Wi rfl (Wa (ln ⟨f6, aY _, (wi0 .i64 (t + 1)), _, (d.je St), G, rfl, a⟩)))))))
  refine mI (lZ (lZ (sr (jj (sg (Wh G (Wa (lt ?_))))))))
  obtain rfl := sj a
  exact jR (v := j) rfl rfl ⟨_, _, rfl, (d.kF (Kr Sn)), j, x, rfl, rfl, D⟩
theorem GH (H : Value) (J r : List ByteArray) (w : World) (G : Sl (Pl mL) 1 (hp w) H J) (hm : xa J = some r) :
  kw true pg0 188 [H] w 9 mL 1 r := by
 refine vi 23 func188 rfl (fun d => sg (Wa (lr (Wa (lS (Wm ?_))))))
 refine V (kj bc rfl G) (Wm (ln (km (fun i E W => ∃ c t g D, (E 8 = .int .i64 (i : Nat) ∧ E 7 = .int .i64 (J.length : Nat)) ∧ ST true jT w W (hp w) (g ++ D) ∧ E 3 = c ∧ E 6 = H ∧ jy 9 mL 1 c t g ∧ sv (J.drop i) t = some r) J.length G.len ⟨(.slice none 0 0), ([]), [], _, ⟨rfl, rfl⟩, (d.je St), rfl, rfl, (jy.nil _ _ _), hm⟩ dc dc dc (fun _ _ _ h => by obtain ⟨_, _, _, _, o, _⟩ := h; exact o) ?_ ?_)))
 ·rintro b7 E W P ⟨c, t, g, D, ⟨n, q⟩, d, j, u, x, a⟩
  obtain ⟨k, d1, b0, a9, K⟩ := jY P
  rw [b0] at a
  refine bg (VQ (kC (enc := mL) (i := (b7 : Int)) (x0 := k) bc cj u n G (ak _) a9) (fun c6 Y => V (jf rfl (lL d.has (y := (.string k)) Y aG)) (Wa (lr (Wm (bS a fun c7 Z a => VE (Eg d iL (rJ k _ _  Z) (fun c1 d => ln ?_))))))))
  refine CI a rfl (fun T a => ?_) (fun T a => ?_)
  ·refine jk (Wh j (Wm (VE (kh (cs := [(.string k)].toArray) d (mf rfl) (mn bc cj zeroValue9) (fun c2 O d => ?_)))))
   replace d := d.perm (Nr (Qb Qz) Nz)
   refine bS a fun b1 U a => VE (lC (enc := mL) (v := c) (vs := (.slice (some ⟨O, 0, none⟩) 1 1)) (R := g) d (fun _ => rfl) dc An bc B0.1 B0.2.1 rfl B0.2.2.1 B0.2.2.2 rfl rfl x (Sl.lit (enc := mL) (l := [k]) (fun _ => rfl) rfl nb rfl (d.at_ (Ma Mh))) U (fun c3 b3 a4 d Q => Wa (jH (jV (jj ?_)))))
   replace d := d.je (Kr (Db St))
   exact ⟨n, b3, b1, a4, _, ⟨rfl, q⟩, (d.je St), rfl, u, Q, (by rw [K]; exact a)⟩
  exact jW (jV (jj ⟨n, c, t, g, _, ⟨rfl, q⟩, (d.je St), j, u, x, (by rw [K]; exact a)⟩))
 rintro E W ⟨c, t, g, D, ⟨n, q⟩, d, j, u, x, a⟩
 rw [ap] at a
 refine jj (sg (Wh j (bS a fun b2 L a => ?_)))
 refine VE (eM d (Cr Qz Cn) call182 (fun s _ => (Ng c t g _ _ s x L)) ?_)
 rintro _ c9 d2 b9 d b5 A m ⟨a5, z, rfl, a3⟩
 obtain rfl := z.symm
 replace d := d.perm (Tr Tn)
 refine lr (Wh j (bS a fun c8 a2 a => ?_))
 refine VE (eM d (Cr Qz Cn) call239 (fun s _ => (Br c b2 a5 _ _ s a3 a2)) ?_)
 rintro _ d0 d3 c0 d b6 F m ⟨b4, M, B, rfl, I⟩
 obtain rfl := B.symm
 replace d := d.perm (Tr Tn)
 refine Wa (lt ?_)
 obtain rfl := sj a
 exact jR (v := b4) rfl rfl ⟨_, M, rfl, d.lU (fun p hq => (Ml hq)) I.nd, I⟩
theorem IY (B : Value) (G : List jb) (r : List ByteArray) (w : World) (y : Sl (Pl jg) 9 (hp w) B G) (hm : xF G = some r) :
  kw true pg0 132 [B] w 9 mL 1 r := by
 refine vi 29 func132 rfl (fun d => sg (Wa (lr (Wa (lS (Wm ?_))))))
 refine V (kj aJ rfl y) (Wm (ln (km (fun i E W => ∃ g k j t, (E 8 = .int .i64 (i : Nat) ∧ E 7 = .int .i64 (G.length : Nat)) ∧ ST true jT w W (hp w) (j ++ t) ∧ E 3 = g ∧ E 6 = B ∧ jy 9 mL 1 g k j ∧ rr (G.drop i) k = some r) G.length y.len ⟨(.slice none 0 0), ([]), [], _, ⟨rfl, rfl⟩, (d.je St), rfl, rfl, (jy.nil _ _ _), hm⟩ dc dc dc (fun _ _ _ h => by obtain ⟨_, _, _, _, n, _⟩ := h; exact n) ?_ ?_)))
 ·rintro a5 E W T ⟨g, k, j, t, ⟨m, A⟩, d, u, x, z, c⟩
  obtain ⟨a, b4, Y, U, Z⟩ := jY T
  rw [Y] at c
  refine bg (VQ (kC (enc := jg) (i := (a5 : Int)) (x0 := a) aJ an x m y (ak _) U) (fun b2 J => V (jf rfl (kG d.has J aT an)) (VE (kl d bh (fun L b1 d => VO (jD (.agg (jg a).toArray) ((jg a).toArray) d rfl rfl an (mo a) nb rfl (fun O d => ln (jk (Wh u (Wf rq (VB d Mh rfl rfl aG (Wf mJ (Wf ox ?_)))))))))))))
  refine VB d Mh rfl rfl aG (Wf lm (Wf ox (VB d Mh rfl rfl aG (Wf ou (Wf ox (VB d Mh rfl rfl aG (VE (kh (cs := #[(.string a.jL), (.string a.Head.jn), (.string a.B.jn), (.string a.C.jn)]) d (Ot rfl rfl rfl rfl) (mn bc cj zeroValue9) (fun P Q d => ?_)))))))))
  replace d := d.perm (Nr (Qb (Qb Qz)) Nz)
  refine bS c fun F I c => VE (lC (enc := mL) (v := g) (vs := (.slice (some ⟨Q, 0, none⟩) 4 4)) (R := j) d (fun _ => rfl) dc An bc B0.1 B0.2.1 rfl B0.2.2.1 B0.2.2.2 rfl rfl z (Sl.lit (enc := mL) (l := [a.jL, a.Head.jn, a.B.jn, a.C.jn]) (fun _ => rfl) rfl nb rfl (d.at_ (Ma Mh))) I (fun a9 a2 M d H => Wa (jH (jV (jj ?_)))))
  replace d := d.je (Kr (Db (Db St)))
  exact ⟨m, a2, F, M, _, ⟨rfl, A⟩, (d.je St), rfl, x, H, (by rw [Z]; exact c)⟩
 rintro E W ⟨g, k, j, t, ⟨m, A⟩, d, u, x, z, c⟩
 rw [ap] at c
 refine jj (sg (Wh u (bS c fun b3 K c => VE (rC d call188 (GH g k _ _ (z.sl (fun _ => rfl) (fun b o s => d.at_ (Ml s))) K) (fun b0 a3 b5 N d a4 q D => Wa (ln ?_))))))
 replace d := d.je (Kr (Dr St))
 refine jN ?_
 obtain rfl := sj c
 exact jR (v := a3) rfl rfl ⟨_, N, rfl, d.lU (fun p s => (Ml s)) D.nd, D⟩
theorem AH (g : Value) (t : List ByteArray) (j : Value) (D : ByteArray → Option Bool) (r : Int) (w : World) (c : Sl (Pl mL) 1 (hp w) g t) (G : qZ pg0 j (hp w) (fun (x : ByteArray) => [(.string x)]) (fun (r : Bool) => (.bool r)) D) (hm : sL t D = some r) :
  jJ false pg0 272 [g, j] w (.int .i64 r) := by
 refine cG 19 func272 rfl (fun d => sg (Wa (lS (Wm (V (kj bc rfl c) (Wm (ln (km (fun i E W => ∃ k, (E 8 = .int .i64 (i : Nat) ∧ E 7 = .int .i64 (t.length : Nat)) ∧ ST false jT w W (hp w) k ∧ E 0 = g ∧ E 1 = j ∧ nj D (t.drop i) i = some r) t.length c.len ⟨_, ⟨rfl, rfl⟩, (d.je St), rfl, rfl, hm⟩ dc dc dc (fun _ _ _ h => by obtain ⟨_, n, _⟩ := h; exact n) ?_ ?_))))))))
 ·rintro T E W I ⟨k, ⟨m, o⟩, d, u, z, a⟩
  obtain ⟨B, U, N, M, Q⟩ := jY I
  rw [N] at a
  refine bg (Wh m (Wa (lr (Wh z (Wh u (Wm (VQ (kC (enc := mL) (i := (T : Int)) (x0 := B) bc cj rfl rfl c (ak _) M) (fun Z J => V (jf rfl (lL d.has (y := (.string B)) J aG)) (bS a fun p K a => ?_)))))))))
  refine VE (yP B d G (jC.refl _) rfl (ny rfl) K (fun Y d => ln (CI a rfl (fun H a => ?_) (fun H a => ?_))))
  ·refine sg (Wm (Wa (lt (kH (jE (kH (jE ?_)))))))
   obtain rfl := sj a
   exact rP d
  exact jW (jV (jj ⟨m, _, ⟨rfl, o⟩, (d.je St), u, z, (by rw [Q]; exact a)⟩))
 rintro E W ⟨k, ⟨m, o⟩, d, u, z, a⟩
 rw [ap] at a
 exact jj (sg (Wa (lt (rQ a d))))
theorem zx (a : Value) (g : List ByteArray) (c : Value) (i : ByteArray → Option Bool) (r : Bool) (w : World) (j : Sl (Pl mL) 1 (hp w) a g) (k : qZ pg0 c (hp w) (fun (x : ByteArray) => [(.string x)]) (fun (r : Bool) => (.bool r)) i) (hm : re g i = some r) :
  jJ false pg0 240 [a, c] w (.bool r) := by
 refine cG 9 func240 rfl (fun d => sg (Wa (lr (Wm (Wm (bS hm fun y t hm => VE (Eg d call272 (AH a g c i _ _ (j.mono (Pl.mono _) d.ju) (k.mono d.ju) t) (fun u d => Wi rfl (Wa (jH ?_))))))))))
 exact jj (jN (rQ hm d))
theorem FG (u : ByteArray) (z : Nat) (i : Value) (G : (ja × ByteArray) → Option Bool) (B : Nat) (g : jb) (D : Nat) (I : ByteArray) (r : Bool) (w : World) (H : qZ pg0 i (hp w) (fun (x : (ja × ByteArray)) => [(.agg (jc x.1).toArray), (.string x.2)]) (fun (r : Bool) => (.bool r)) G) (j : At (hp w) (.pointer (some ⟨z, 0, none⟩)) [i]) (k : At (hp w) (.pointer (some ⟨B, 0, none⟩)) (jg g)) (J : At (hp w) (.pointer (some ⟨D, 0, none⟩)) [(.string I)]) (hm : sF u G g I = some r) :
  jJ false pg0 241 [(.string u), (.pointer (some ⟨z, 0, none⟩)), (.pointer (some ⟨B, 0, none⟩)), (.pointer (some ⟨D, 0, none⟩))] w (.bool r) := by
 refine cG 20 func241 rfl (fun d => sg (Wa (lr (V (jf rfl (lL d.has (y := i) j isAgg104)) (VQ (sZ (jc g.B) lm rfl k rfl) (fun m Y => V (jf rfl (kG d.has Y au ag)) (Wm (bS hm fun n Z hm => VE (yP (g.B, u) d H (jC.refl _) rfl (og rfl rfl) Z (fun W6 d => Wm ?_))))))))))
 refine LJ hm (fun M E W => ∃ K, ST false jT w W (hp w) K ∧ E 5 = (.bool false) ∧ E 19 = (.bool M)) 8 ?_ (fun M c t => ?_)
 ·rintro a5 E W ⟨K, d, a2, U⟩ N
  exact Wg U (lt (rQ N d))
 refine bC c (fun a c => ?_) (fun a c => ?_)
 ·refine ug a (jf rfl (lL d.has (y := i) j isAgg104)) (ug a (jl rfl) (Sf a (sZ [(.string g.kk)] pX rfl k rfl) (fun a3 Q => ug a (jf rfl (lL d.has (y := (.string g.kk)) Q aG)) (ug a (kO (v := (.agg (jc (⟨u, g.kk⟩ : ja)).toArray)) (nB rfl rfl) (ku bj bA (EC _ bA) kr)) (ug a (jf rfl (lL d.has (y := (.string I)) J aG)) (bS c fun a4 T c => pV a (yP ((⟨u, g.kk⟩ : ja), I) d H (jC.refl _) rfl (og rfl rfl) T (fun h d => V (jz (cB a) rfl) ?_))))))))
  obtain rfl := sj c
  exact t _ _ ⟨_, (d.je St), rfl, rfl⟩
 refine un a (un a (un a (un a (un a (un a (un a (V (jA (cB a) rfl) ?_)))))))
 obtain rfl := sj c
 exact t _ _ ⟨_, (d.je St), rfl, rfl⟩
theorem HZ (g : jb) (u : Value) (y : (ja × ByteArray) → Option Bool) (k : Value) (D : List ByteArray) (j : ByteArray) (r : Bool) (w : World) (i : qZ pg0 u (hp w) (fun (x : (ja × ByteArray)) => [(.agg (jc x.1).toArray), (.string x.2)]) (fun (r : Bool) => (.bool r)) y) (I : Sl (Pl mL) 1 (hp w) k D) (hm : wV g y D j = some r) :
  jJ false pg0 190 [(.agg (jg g).toArray), u, k, (.string j)] w (.bool r) := by
 refine cG 41 func190 rfl (fun d => sg (VE (jU d rfl (fun W2 G d => ?_))))
 obtain ⟨f3, f4, f5, rfl⟩ := i.form
 refine VE (jU d rfl (fun W7 H d => VE (jU d rfl (fun W9 b8 d => Wa (lS (Wf mh (VB d (Mt (Mt Mh)) rfl rfl bl (ln (bg ?_)))))))))
 refine Wi rfl (Wa (ln (CI hm rfl (fun J hm => ?_) (fun J hm => ?_))))
 ·refine sg (Wf rq (VB d (Mt (Mt Mh)) rfl rfl aG (VB d Mh rfl rfl aG (V (sQ rfl rfl rfl) (Wa (ln ?_))))))
  replace d := d.je (Db (Db (Db St)))
  refine jN (kH (jE ?_))
  obtain rfl := sj hm
  exact rP d
 refine sg (Wi rfl (Wa (ln (CI hm rfl (fun K hm => ?_) (fun K hm => ?_)))))
 ·refine sg (VB d (Mt Mh) rfl rfl isAgg104 (Wf lm (VA d (Mt (Mt Mh)) (jc g.B) au ag (VB d Mh rfl rfl aG (bS hm fun q Q hm => VE (yP (g.B, j) d i (jC.refl _) rfl (og rfl rfl) Q (fun m d => Wa (ln ?_))))))))
  replace d := d.je (Db (Db (Db St)))
  refine jN (kH (jE ?_))
  obtain rfl := sj hm
  exact rP d
 refine sg (Wi rfl (Wa (ln (CI hm rfl (fun M hm => ?_) (fun M hm => ?_)))))
 ·refine sg (VB d (Mt Mh) rfl rfl isAgg104 (Wf lm (VA d (Mt (Mt Mh)) (jc g.B) au ag (VB d Mh rfl rfl aG (bS hm fun s T hm => VE (yP (g.B, j) d i (jC.refl _) rfl (og rfl rfl) T (fun n d => Wm (LJ hm (fun B E W => ∃ z, ST false jT w W (hp w) z ∧ E 8 = (.bool false) ∧ E 37 = (.bool B)) 6 ?_ (fun B c t => ?_)))))))))
  ·rintro F E W ⟨z, d, p, Z⟩ N
   refine Wg Z (lt (kH (jE ?_)))
   obtain rfl := sj N
   exact rP d
  refine bC c (fun a c => ?_) (fun a c => ?_)
  ·refine ug a (jf rfl (jq d.has (Mt Mh) rfl isAgg104)) (ug a (jh ou rfl) (ug a (jf rfl (jm d.has (Mt (Mt Mh)) (jc g.C) rfl au ag)) (ug a (jf rfl (jq d.has Mh rfl aG)) (bS c fun v U c => pV a (yP (g.C, j) d i (jC.refl _) rfl (og rfl rfl) U (fun o d => V (jz (cB a) rfl) ?_))))))
   obtain rfl := sj c
   exact t _ _ ⟨_, (d.je (Db (Db (Db St)))), rfl, rfl⟩
  refine un a (un a (un a (un a (un a (V (jA (cB a) rfl) ?_)))))
  obtain rfl := sj c
  exact t _ _ ⟨_, (d.je (Db (Db (Db St)))), rfl, rfl⟩
 refine jW (jV (jj (sg (Wm (V (rF (by exact TA rfl rfl rfl) rfl) (bS hm fun A Y hm => VE (Eg d call240 (zx k D (.func (.func 241) #[] #[(.pointer (some ⟨H, 0, none⟩)), (.pointer (some ⟨G, 0, none⟩)), (.pointer (some ⟨b8, 0, none⟩))]) (fun (x : ByteArray) => sF x y g j) _ _ (I.mono (Pl.mono _) d.ju) ⟨241, #[], #[(.pointer (some ⟨H, 0, none⟩)), (.pointer (some ⟨G, 0, none⟩)), (.pointer (some ⟨b8, 0, none⟩))], rfl, call241, fun W x r h hm => FG x H (.func f3 f4 f5) y G g b8 j r W (i.mono (d.ju.trans h)) (At.of (h _ _ (d.at_ (Mt Mh))) _ rfl) (At.of (h _ _ (d.at_ (Mt (Mt Mh)))) _ rfl) (At.of (h _ _ (d.at_ Mh)) _ rfl) hm⟩ Y) (fun a9 d => Wa (ln ?_)))))))))
 exact jN (rQ hm d)
theorem ID (c : jb) (B : Value) (f1 : (ja × ByteArray) → Option Bool) (T : Value) (a2 : List ByteArray) (r : List jd) (w : World) (b0 : qZ pg0 B (hp w) (fun (x : (ja × ByteArray)) => [(.agg (jc x.1).toArray), (.string x.2)]) (fun (r : Bool) => (.bool r)) f1) (d9 : Sl (Pl mL) 1 (hp w) T a2) (hm : tY c f1 a2 = some r) :
  kw false pg0 130 [(.agg (jg c).toArray), B, T] w 38 jw 3 r := by
 refine vi 47 func130 rfl (fun d => sg (VE (jU d rfl (fun W2 n d => Wa (lS (VA d Mh (jg c) aT an (bS hm fun r3 f6 hm => VE (Eg d iM (jJ.kI (rU c _ _  f6)) (fun W5 d => V (lM rfl) (Wm ?_))))))))))
 refine LJ hm (fun b6 E W => ∃ L8, ST false jT w W (hp w) ((n, Ol (jg c) 108) :: L8) ∧ E 1 = B ∧ E 2 = T ∧ E 3 = (.pointer (some ⟨n, 0, none⟩)) ∧ E 17 = (.bool b6)) 3 ?_ (fun b6 u U => ?_)
 ·rintro x7 E W ⟨L8, d, d3, e9, a4, f0⟩ H
  refine ln (CI H f0 (fun e0 H => ?_) (fun e0 H => ?_))
  ·refine sg (Wa (ln ?_))
   replace d := d.je (Db St)
   refine jN (jE ?_)
   obtain rfl := sj H
   exact jR (v := (.slice none 0 0)) rfl rfl ⟨_, [], rfl, d.lU (fun p o => by cases o) (by simp), jy.nil _ _ _⟩
  refine kg (Wh e9 (bS H fun d4 e3 H => VE (rC d call188 (kw.kI (GH T a2 _ _ (d9.mono (Pl.mono _) d.ju) e3)) (fun g8 q g9 g7 d c5 a8 a9 => Wa (lr (Wm (Wa (jH ?_))))))))
  refine jj (jo ?_)
  have e1 := a9.NX d (fun p o => (Ml o))
  obtain ⟨d5, d, c6, ab, b3⟩ := ST.xP d a9 (fun _ => rfl)
  refine CJ H (fun b5 E W => ∃ Y Z d2, jC d5 Z ∧ ST false jT w W Z ((n, Ol (jg c) 108) :: d2) ∧ E 1 = B ∧ E 2 = q ∧ E 3 = (.pointer (some ⟨n, 0, none⟩)) ∧ E 7 = Y ∧ Sl (Pl mL) 1 Z Y b5 ∧ Fr w.heap.size Y) (fun b5 t => ?_) ?_
  ·refine sg (V (jh mh a4) (VB d Mh rfl rfl bl (Wi rfl (ln (CI t rfl (fun c2 t => ?_) (fun c2 t => ?_))))))
   ·refine jk (V (jh rq a4) (VB d Mh rfl rfl aG (VE (kh (cs := [(.string c.jL)].toArray) d (mf rfl) (mn bc cj zeroValue9) (fun g1 J d => Wa (ln ?_))))))
    obtain rfl := sj t
    have c3 : Fr w.heap.size (.slice (some ⟨J, 0, none⟩) 1 1) := Fr.box d Mh
    obtain ⟨e7, d, b2, P, c9⟩ := ST.xP (R := [(J, Ol [(.string c.jL)] 9)]) d (jy.lit (l := [c.jL]) (enc := mL) (b := J) (m := 1) rfl dc rfl rfl) (fun _ => rfl)
    exact ⟨(.slice (some ⟨J, 0, none⟩) 1 1), e7, _, b2, (d.je St), d3, rfl, a4, rfl, c9, c3⟩
   refine kn ?_
   obtain rfl := sj t
   exact ⟨q, d5, _, (jC.refl _), (d.je St), d3, rfl, a4, rfl, b3, e1⟩
  rintro F E W ⟨Y, Z, d2, a5, d, f2, f3, f4, f5, a3, g2⟩ e2
  refine sg (Wa (lS (Wh f5 (V (kj bc rfl a3) (Wm (ln (km (fun i E W => ∃ k I j A, (E 29 = .int .i64 (i : Nat) ∧ E 28 = .int .i64 (F.length : Nat)) ∧ ST false jT w W Z ((n, Ol (jg c) 108) :: (j ++ A)) ∧ E 1 = B ∧ E 2 = q ∧ E 3 = (.pointer (some ⟨n, 0, none⟩)) ∧ E 8 = k ∧ E 27 = Y ∧ jy 38 jw 3 k I j ∧ pS c f1 d4 (F.drop i) I = some r) F.length a3.len ⟨(.slice none 0 0), ([]), [], _, ⟨rfl, rfl⟩, (d.je St), f2, f3, f4, rfl, rfl, (jy.nil _ _ _), e2⟩ dc dc dc (fun _ _ _ h => by obtain ⟨_, _, _, _, L, _⟩ := h; exact L) ?_ ?_)))))))
  ·rintro e4 E W c4 ⟨k, I, j, A, ⟨s, O⟩, d, K, M, D, N, Q, z, a⟩
   obtain ⟨g, f7, d1, d0, a6⟩ := jY c4
   let a0 := (⟨c.Head, g⟩ : jd)
   rw [d1] at a
   refine bg (VQ (kC (enc := mL) (i := (e4 : Int)) (x0 := g) bc cj Q s a3 (ak _) d0) (fun g3 c7 => V (jf rfl (lL d.has (y := (.string g)) c7 aG)) (Wa (lr (V (jf D (jm d.has Mh (jg c) rfl aT an)) (Wh K (Wh M (Wm (bS a fun g4 c8 a => ?_)))))))))
   refine VE (Eg d call190 (HZ c B f1 q d4 g _ _ (b0.mono (((c5.trans c6).trans a5).trans d.ju)) (b3.mono (Pl.mono _) (a5.trans d.ju)) c8) (fun f8 d => ln (CI a rfl (fun c0 a => ?_) (fun c0 a => ?_))))
   ·refine jk (Wh N (V (jh mJ D) (VA d Mh (jc c.Head) au ag (Wm (V (kO (v := (.agg (jw (a0)).toArray)) (nB rfl rfl) (ku cx bn (B4 _ bn) kr)) (VE (kh (cs := (jw (a0)).toArray) d (mf rfl) (mn bJ bu cx) (fun f9 d8 d => ?_))))))))
    replace d := d.perm (Nr (Qb (Qb Qz)) Nz)
    refine bS a fun e5 c1 a => VE (lC (enc := jw) (v := k) (vs := (.slice (some ⟨d8, 0, none⟩) 1 1)) (R := j) d nn dc zk bJ sD.1 sD.2.1 rfl sD.2.2.1 sD.2.2.2 rfl rfl z (Sl.lit (enc := jw) (l := [a0]) nn rfl nb rfl (d.at_ (Ma Mh))) c1 (fun g0 e6 d6 d b9 => Wa (jH (jV (jj ?_)))))
    replace d := d.je (Kr (Db St))
    exact ⟨s, e6, e5, d6, _, ⟨rfl, O⟩, (d.je (Sb (Pr Pz) St)), K, M, D, rfl, Q, b9, (by rw [a6]; exact a)⟩
   exact jW (jV (jj ⟨s, k, I, j, _, ⟨rfl, O⟩, (d.je St), K, M, D, N, Q, z, (by rw [a6]; exact a)⟩))
  rintro E W ⟨k, I, j, A, ⟨s, O⟩, d, K, M, D, N, Q, z, a⟩
  rw [ap] at a
  refine jj ?_
  replace d := d.je (Db St)
  refine sg (Wh N (Wa (lt ?_)))
  obtain rfl := sj a
  exact jR (v := k) rfl rfl ⟨_, j, rfl, d.lU (fun p o => (Ml o)) z.nd, z⟩
 refine bC u (fun G u => ?_) (fun G u => ?_)
 ·refine un G (un G (V (jz (cB G) rfl) ?_))
  obtain rfl := sj u
  exact U _ _ ⟨_, (d.je St), rfl, rfl, rfl, rfl⟩
 refine ug G (jl rfl) (ug G (IA underlying104 b0 rfl rfl) (V (jA (cB G) rfl) ?_))
 obtain rfl := sj u
 exact U _ _ ⟨_, (d.je St), rfl, rfl, rfl, rfl⟩
theorem Gp (a : ja) (g : ByteArray) (i : Nat) (c : Value) (u : List (jd × Bool)) (r : Bool) (w : World) (t : uN (fun (x : jd) => (.agg (jw x).toArray)) (fun (x : Bool) => (Value.bool x)) (hp w) c u) (j : At (hp w) (.pointer (some ⟨i, 0, none⟩)) [c]) (hm : tp a g u = some r) :
  jJ true pg0 133 [(.agg (jc a).toArray), (.string g), (.pointer (some ⟨i, 0, none⟩))] w (.bool r) := by
 refine cG 11 func133 rfl (fun d => sg (VE (jU d rfl (fun B D d => Wa (lr (V (jf rfl (lL d.has (y := c) j isAgg191)) (VA d Mh (jc a) au ag (Wm (V (kO (v := (.agg (jw (⟨a, g⟩ : jd)).toArray)) (nB rfl rfl) (ku cx bn (B4 _ bn) kr)) (V (ve (k := (⟨a, g⟩ : jd)) (z := false) (vf := (fun (x : Bool) => (Value.bool x))) JR fZ fe rfl rfl (t.mono (fun b o h => d.has.1 b o h))) (Wa ?_)))))))))))
 refine ln ?_
 exact jN (rQ hm d)
end Go.Proofs.YtbnbdigcbldfhaaGreat
