/- a part of a proof of OutcomeChecks -/
import Derived.Test.YtbnbdigcbldfhaaGreatO7Md
import Derived.Test.YtbnbdigcbldfhaaGreatProg
set_option linter.all false
namespace Go.Proofs.YtbnbdigcbldfhaaGreat
open Go.IntKind renaming wrap → wi0
open Go.Proofs.Tryz renaming prog → pg0
open Go.RowKit
set_option maxRecDepth 10000
open Tryz
def ag := @sizeOf28
def ak := @sizeOf108
def al := @underlying34
def an := @isAgg28
def au := @underlying45
def aG := @underlying22
def aH := @isAgg9
def aP := @sizeOf57
def aS := @isAgg108
def aT := @underlying112
def aU := @underlying9
def aV := @sizeOf140
def bf := @sizeOf38
def bj := @underlying120
def bl := @underlying38
def bo := @zeroValue28
def bw := @zeroValue108
def bx := @underlying55
def bB := @underlying28
def bF := @isAgg3
def bG := @isAgg57
def bI := @underlying78
def bN := @underlying108
def bT := @eqGuardType28
def bV := @sizeOf64
def bW := @zeroValue38
def cu := @zeroValue140
def cx := @sizeOf9
def cH := @isAgg38
def cW := @underlying140
def cX := @underlying64
def cZ := @zeroValue57
def da := @isAgg140
def df := @underlying174
def dg := @underlying170
def dh := @zeroValue64
def dq := @isAgg64
def dx := @call165
def dA := @underlying234
def dH := @underlying81
def dI := @zeroValue175
def dJ := @isAgg55
def dK := @isAgg34
def dL := @underlying79
def dQ := @underlying217
def dR := @underlying175
def eu := @underlying57
def eF := @isAgg45
def eV := @zeroValue4
def fC := @eqGuardType108
def fD := @isAgg78
def fE := @call100
def fS := @sizeOf3
def fT := @underlying158
def fU := @underlying280
def fV := @underlying191
def fW := @underlying206
def gb := @underlying5
def gd := @isAgg170
def gq := @underlying54
def gr := @underlying99
def gu := @call166
def gI := @sizeOf78
def gJ := @call99
def gS := @underlying3
def gT := @call157
def iq := @underlying250
def iA := @underlying74
def iB := @sizeOf5
def iC := @call177
def iD := @call115
def iE := @zeroValue9
def iF := @isAgg62
def iG := @underlying89
def iN := @sizeOf45
def iO := @zeroValue22
def iQ := @isAgg22
abbrev K0 : iR := ⟨zS, zS⟩
abbrev K1 : ByteArray := ⟨#[120]⟩
abbrev K2 : ByteArray := ⟨#[121]⟩
abbrev K3 : ByteArray := ⟨#[121, 111, 117]⟩
abbrev K4 : ByteArray := ⟨#[109, 101]⟩
abbrev K5 : iR := ⟨K1, K2⟩
abbrev K6 : iS := ⟨0, K0, zS, K0, K0, zS⟩
abbrev K7 : iV := ⟨K0, zS⟩
abbrev K9 : iS := ⟨1, K5, K3, K0, K0, zS⟩
abbrev Ky : Formula := ⟨1, 0, K5, []⟩
abbrev C1 (a c : Int) (d g : ByteArray) (h : Option Addr) (i j : Nat) : List Value := [(.int .i64 a), (.int .i64 c), (.string d), (.string g), (.slice h i j)]
abbrev C2 (a c : Int) (d : Option Addr) (g h : Nat) (i : Option Addr) (j k : Nat) : List Value := [(.int .i64 a), (.int .i64 c), (.slice d g h), (.slice i j k)]
abbrev C3 (a : Nat) : List Value := [(.string K4), (.slice none 0 0), (.slice none 0 0), (.string K3), (.int .i64 3), (.slice (some ⟨a, 0, none⟩) 1 1), (.slice none 0 0), (.slice none 0 0), (.slice none 0 0)]
abbrev C4 : List Value := [(.int .i64 1), (.int .i64 0), (.string (K5.ja)), (.string (K5.jt)), (.slice none 0 0)]
abbrev C5 (a c : Int) : List Value := [(.int .i64 a), (.int .i64 c), (.slice none 0 0), (.slice none 0 0)]
abbrev C6 : List Value := [(.int .i64 0), (.int .i64 0), (.slice none 0 0), (.slice none 0 0)]
theorem jE : Tryz.prog.follows .mixedOrders = true := by rfl
theorem Ig : Tryz.prog.info? 3 = some Tryz.t3 ∧ Tryz.t3.zero = some (.int .i64 0) ∧ Tryz.t3.size = 1 ∧ Tryz.t3.bytes = 8 := ⟨by kernel_rfl, by kernel_rfl, by kernel_rfl, by kernel_rfl⟩
theorem Ih : Tryz.prog.info? 4 = some Tryz.t4 ∧ Tryz.t4.zero = some (.bool false) ∧ Tryz.t4.size = 1 ∧ Tryz.t4.bytes = 1 := ⟨by kernel_rfl, by kernel_rfl, by kernel_rfl, by kernel_rfl⟩
theorem ru : Tryz.prog.info? 5 = some Tryz.t5 ∧ Tryz.t5.zero = some (.int .u8 0) ∧ Tryz.t5.size = 1 ∧ Tryz.t5.bytes = 1 := ⟨by kernel_rfl, by kernel_rfl, by kernel_rfl, by kernel_rfl⟩
theorem w9 : Tryz.prog.info? 9 = some Tryz.t9 ∧ Tryz.t9.zero = some (.string ⟨#[]⟩) ∧ Tryz.t9.size = 1 ∧ Tryz.t9.bytes = 16 := ⟨by kernel_rfl, by kernel_rfl, by kernel_rfl, by kernel_rfl⟩
theorem nw : Tryz.prog.info? 28 = some Tryz.t28 ∧ Tryz.t28.zero = some (.agg #[(.string ⟨#[]⟩), (.string ⟨#[]⟩)]) ∧ Tryz.t28.size = 2 ∧ Tryz.t28.bytes = 32 := ⟨by kernel_rfl, by kernel_rfl, by kernel_rfl, by kernel_rfl⟩
theorem FR : Tryz.prog.info? 34 = some Tryz.t34 ∧ Tryz.t34.zero = some (.slice none 0 0) ∧ Tryz.t34.size = 1 ∧ Tryz.t34.bytes = 24 := ⟨by kernel_rfl, by kernel_rfl, by kernel_rfl, by kernel_rfl⟩
theorem pt : Tryz.prog.info? 38 = some Tryz.t38 ∧ Tryz.t38.zero = some (.agg #[(.string ⟨#[]⟩), (.string ⟨#[]⟩), (.string ⟨#[]⟩)]) ∧ Tryz.t38.size = 3 ∧ Tryz.t38.bytes = 48 := ⟨by kernel_rfl, by kernel_rfl, by kernel_rfl, by kernel_rfl⟩
theorem qe : Tryz.prog.info? 108 = some Tryz.t108 ∧ Tryz.t108.zero = some (.agg #[(.int .i64 0), (.string ⟨#[]⟩), (.string ⟨#[]⟩), (.string ⟨#[]⟩), (.string ⟨#[]⟩), (.string ⟨#[]⟩), (.string ⟨#[]⟩), (.string ⟨#[]⟩), (.string ⟨#[]⟩)]) ∧ Tryz.t108.size = 9 ∧ Tryz.t108.bytes = 136 := ⟨by kernel_rfl, by kernel_rfl, by kernel_rfl, by kernel_rfl⟩
theorem lY : Tryz.prog.info? 140 = some Tryz.t140 ∧ Tryz.t140.zero = some (.agg #[(.int .i64 0), (.string ⟨#[]⟩), (.string ⟨#[]⟩), (.string ⟨#[]⟩), (.string ⟨#[]⟩), (.string ⟨#[]⟩), (.string ⟨#[]⟩), (.string ⟨#[]⟩), (.string ⟨#[]⟩), (.string ⟨#[]⟩), (.string ⟨#[]⟩), (.string ⟨#[]⟩)]) ∧ Tryz.t140.size = 12 ∧ Tryz.t140.bytes = 184 := ⟨by kernel_rfl, by kernel_rfl, by kernel_rfl, by kernel_rfl⟩
theorem nH : kD pg0 28 0 0 := kh bB rfl cx (by decide) rfl
theorem tA : kD pg0 28 1 1 := kh bB rfl cx (by decide) rfl
theorem OT : (Tryz.prog.fieldsOf 28).toList = (match Tryz.prog.underlying 28 with | some (.struct a) => a.toList | _ => []) := by rw [bB]; simp [Program.fieldsOf, bB]
theorem me (d : Nat) (x y : iR) (W : World) : (Op.equalIn (d + 2) 28 (.agg (iT x).toArray) (.agg (iT y).toArray)).run pg0 W = .ok (jh x y) W := by
 rw [eU W (d + 1) 28 _ _ (by kernel_rfl) Tryz.stoodInHeld28, OT, bB]
 exact (mC (by decide) (nU aH rfl) (nU aH rfl) (MZ aU _ _ _ _) (mC (by decide) (nU aH rfl) (nU aH rfl) (MZ aU _ _ _ _) (xA _ _ _)))
theorem DE : ∀ a, Tryz.prog.underlying 28 = some (.struct a) → ∀ w, (a.mapM (fun (f : Field) => do pure (f.offset, ← sizeOf f.type)) : Sem (Array (Nat × Nat))).run pg0 w = .ok #[(0, 1), (1, 1)] w := by
 intro a h w
 rw [bB] at h
 cases h
 kernel_rfl
theorem mT : kD pg0 108 0 0 := kh bN rfl fS (by decide) rfl
theorem mY : kD pg0 108 1 1 := kh bN rfl ag (by decide) rfl
theorem rz : kD pg0 108 2 3 := kh bN rfl cx (by decide) rfl
theorem kK : kD pg0 108 3 4 := kh bN rfl ag (by decide) rfl
theorem oh : kD pg0 108 4 6 := kh bN rfl ag (by decide) rfl
theorem pZ : kD pg0 108 5 8 := kh bN rfl cx (by decide) rfl
theorem NC : (Tryz.prog.fieldsOf 108).toList = (match Tryz.prog.underlying 108 with | some (.struct a) => a.toList | _ => []) := by rw [bN]; simp [Program.fieldsOf, bN]
theorem yt (d : Nat) (x y : iS) (W : World) : (Op.equalIn (d + 3) 108 (.agg (iX x).toArray) (.agg (iX y).toArray)).run pg0 W = .ok (mz x y) W := by
 rw [eU W (d + 2) 108 _ _ (by kernel_rfl) Tryz.stoodInHeld108, NC, bN]
 exact (mC (by decide) (nU bF rfl) (nU bF rfl) (Ts gS _ _ _ _) (mC (by decide) (qw an ag rfl) (qw an ag rfl) (me _ x.Head y.Head W) (mC (by decide) (nU aH rfl) (nU aH rfl) (MZ aU _ _ _ _) (mC (by decide) (qw an ag rfl) (qw an ag rfl) (me _ x.B y.B W) (mC (by decide) (qw an ag rfl) (qw an ag rfl) (me _ x.C y.C W) (mC (by decide) (nU aH rfl) (nU aH rfl) (MZ aU _ _ _ _) (xA _ _ _)))))))
theorem Ij : ∀ a, Tryz.prog.underlying 108 = some (.struct a) → ∀ w, (a.mapM (fun (f : Field) => do pure (f.offset, ← sizeOf f.type)) : Sem (Array (Nat × Nat))).run pg0 w = .ok #[(0, 1), (1, 2), (3, 1), (4, 2), (6, 2), (8, 1)] w := by
 intro a h w
 rw [bN] at h
 cases h
 kernel_rfl
theorem vB : kD pg0 38 0 0 := kh bl rfl ag (by decide) rfl
theorem pU : kD pg0 38 1 2 := kh bl rfl cx (by decide) rfl
theorem Om : (Tryz.prog.fieldsOf 38).toList = (match Tryz.prog.underlying 38 with | some (.struct a) => a.toList | _ => []) := by rw [bl]; simp [Program.fieldsOf, bl]
theorem Af (d : Nat) (x y : iV) (W : World) : (Op.equalIn (d + 3) 38 (.agg (je x).toArray) (.agg (je y).toArray)).run pg0 W = .ok (lf x y) W := by
 rw [eU W (d + 2) 38 _ _ (by kernel_rfl) Tryz.stoodInHeld38, Om, bl]
 exact (mC (by decide) (qw an ag rfl) (qw an ag rfl) (me _ x.iR y.iR W) (mC (by decide) (nU aH rfl) (nU aH rfl) (MZ aU _ _ _ _) (xA _ _ _)))
theorem Be : ∀ a, Tryz.prog.underlying 38 = some (.struct a) → ∀ w, (a.mapM (fun (f : Field) => do pure (f.offset, ← sizeOf f.type)) : Sem (Array (Nat × Nat))).run pg0 w = .ok #[(0, 2), (2, 1)] w := by
 intro a h w
 rw [bl] at h
 cases h
 kernel_rfl
theorem uX : kD pg0 140 0 0 := kh cW rfl ak (by decide) rfl
theorem od : kD pg0 140 1 9 := kh cW rfl bf (by decide) rfl
theorem MW : (Tryz.prog.fieldsOf 140).toList = (match Tryz.prog.underlying 140 with | some (.struct a) => a.toList | _ => []) := by rw [cW]; simp [Program.fieldsOf, cW]
theorem OE (d : Nat) (x y : jk) (W : World) : (Op.equalIn (d + 4) 140 (.agg (ji x).toArray) (.agg (ji y).toArray)).run pg0 W = .ok (zV x y) W := by
 rw [eU W (d + 3) 140 _ _ (by kernel_rfl) Tryz.stoodInHeld140, MW, cW]
 exact (mC (by decide) (qw aS ak rfl) (qw aS ak rfl) (yt _ x.iS y.iS W) (mC (by decide) (qw cH bf rfl) (qw cH bf rfl) (Af _ x.iV y.iV W) (xA _ _ _)))
theorem O1 : ∀ a, Tryz.prog.underlying 140 = some (.struct a) → ∀ w, (a.mapM (fun (f : Field) => do pure (f.offset, ← sizeOf f.type)) : Sem (Array (Nat × Nat))).run pg0 w = .ok #[(0, 9), (9, 3)] w := by
 intro a h w
 rw [cW] at h
 cases h
 kernel_rfl
theorem um : kD pg0 57 0 0 := kh eu rfl fS (by decide) rfl
theorem wM : kD pg0 57 1 1 := kh eu rfl fS (by decide) rfl
theorem wI : kD pg0 57 2 2 := kh eu rfl ag (by decide) rfl
theorem rT : kD pg0 57 3 4 := kh eu rfl sizeOf55 (by decide) rfl
theorem SP : ∀ a, Tryz.prog.underlying 57 = some (.struct a) → ∀ w, (a.mapM (fun (f : Field) => do pure (f.offset, ← sizeOf f.type)) : Sem (Array (Nat × Nat))).run pg0 w = .ok #[(0, 1), (1, 1), (2, 2), (4, 1)] w := by
 intro a h w
 rw [eu] at h
 cases h
 kernel_rfl
theorem Tj : ∀ a, Tryz.prog.underlying 52 = some (.struct a) → ∀ w, (a.mapM (fun (f : Field) => do pure (f.offset, ← sizeOf f.type)) : Sem (Array (Nat × Nat))).run pg0 w = .ok #[(0, 1), (1, 1), (2, 1)] w := by
 intro a h w
 rw [underlying52] at h
 cases h
 kernel_rfl
theorem MI : kD pg0 54 1 3 := kh gq rfl cx (by decide) rfl
theorem FK : kD pg0 54 3 5 := kh gq rfl sizeOf22 (by decide) rfl
theorem Tc : ∀ a, Tryz.prog.underlying 54 = some (.struct a) → ∀ w, (a.mapM (fun (f : Field) => do pure (f.offset, ← sizeOf f.type)) : Sem (Array (Nat × Nat))).run pg0 w = .ok #[(0, 3), (3, 1), (4, 1), (5, 1), (6, 1), (7, 1), (8, 1)] w := by
 intro a h w
 rw [gq] at h
 cases h
 kernel_rfl
theorem zY : kD pg0 64 0 0 := kh cX rfl fS (by decide) rfl
theorem Dp : kD pg0 64 1 1 := kh cX rfl sizeOf62 (by decide) rfl
theorem rM : kD pg0 64 2 2 := kh cX rfl sizeOf34 (by decide) rfl
theorem ui : kD pg0 64 3 3 := kh cX rfl iN (by decide) rfl
theorem N8 : ∀ a, Tryz.prog.underlying 64 = some (.struct a) → ∀ w, (a.mapM (fun (f : Field) => do pure (f.offset, ← sizeOf f.type)) : Sem (Array (Nat × Nat))).run pg0 w = .ok #[(0, 1), (1, 1), (2, 1), (3, 1)] w := by
 intro a h w
 rw [cX] at h
 cases h
 kernel_rfl
theorem QF : kD pg0 74 0 0 := kh iA rfl bV (by decide) rfl
theorem Q8 : kD pg0 74 1 4 := kh iA rfl sizeOf22 (by decide) rfl
theorem QD : kD pg0 74 2 5 := kh iA rfl aP (by decide) rfl
theorem Q2 : kD pg0 74 3 10 := kh iA rfl cx (by decide) rfl
theorem xF : kD pg0 81 0 0 := kh dH rfl gI (by decide) rfl
theorem Of : ∀ a, Tryz.prog.underlying 81 = some (.struct a) → ∀ w, (a.mapM (fun (f : Field) => do pure (f.offset, ← sizeOf f.type)) : Sem (Array (Nat × Nat))).run pg0 w = .ok #[(0, 1)] w := by
 intro a h w
 rw [dH] at h
 cases h
 kernel_rfl
theorem vP : kD pg0 158 0 0 := kh fT rfl gI (by decide) rfl
theorem GS : kD pg0 158 1 1 := kh fT rfl sizeOf4 (by decide) rfl
theorem Ss : ∀ a, Tryz.prog.underlying 158 = some (.struct a) → ∀ w, (a.mapM (fun (f : Field) => do pure (f.offset, ← sizeOf f.type)) : Sem (Array (Nat × Nat))).run pg0 w = .ok #[(0, 1), (1, 1)] w := by
 intro a h w
 rw [fT] at h
 cases h
 kernel_rfl
theorem vV : kD pg0 174 0 0 := kh df rfl sizeOf170 (by decide) rfl
theorem GZ : kD pg0 174 1 1 := kh df rfl sizeOf22 (by decide) rfl
theorem KY : kD pg0 174 2 2 := kh df rfl sizeOf171 (by decide) rfl
theorem GQ : kD pg0 174 3 3 := kh df rfl sizeOf172 (by decide) rfl
theorem zW : kD pg0 174 4 4 := kh df rfl sizeOf120 (by decide) rfl
theorem Eh : kD pg0 174 5 5 := kh df rfl fS (by decide) rfl
theorem Sm : ∀ a, Tryz.prog.underlying 174 = some (.struct a) → ∀ w, (a.mapM (fun (f : Field) => do pure (f.offset, ← sizeOf f.type)) : Sem (Array (Nat × Nat))).run pg0 w = .ok #[(0, 1), (1, 1), (2, 1), (3, 1), (4, 1), (5, 1)] w := by
 intro a h w
 rw [df] at h
 cases h
 kernel_rfl
theorem P5 : kD pg0 217 0 0 := kh dQ rfl sizeOf89 (by decide) rfl
theorem Qc : kD pg0 217 1 1 := kh dQ rfl sizeOf62 (by decide) rfl
theorem R7 : ∀ a, Tryz.prog.underlying 217 = some (.struct a) → ∀ w, (a.mapM (fun (f : Field) => do pure (f.offset, ← sizeOf f.type)) : Sem (Array (Nat × Nat))).run pg0 w = .ok #[(0, 1), (1, 1)] w := by
 intro a h w
 rw [dQ] at h
 cases h
 kernel_rfl
def wO : Nat → py Formula
 | 0 => fun _ _ _ => False
 | n + 1 => fun μ ys x => ∃ (v0 : Value), ys = [.int .i64 x.Op, .int .i64 x.K, .string x.iR.ja, .string x.iR.jt, v0] ∧ Sl (wO n) 5 μ v0 x.Kids
def ju : py Formula := fun μ ys x => ∃ n, wO n μ ys x
theorem Dj : ∀ n, FJ (wO n)
 | 0 => fun _ _ _ _ _ h => h
 | n + 1 => by rintro _ _ _ _ c ⟨v0, rfl, a⟩; exact ⟨v0, rfl, a.mono (Dj n) c⟩
theorem FQ : ∀ n m (μ : jw) (ys : List Value) (x : Formula), n ≤ m → wO n μ ys x → wO m μ ys x
 | 0, _, _, _, _, _, h => h.elim
 | n + 1, 0, _, _, _, a, _ => absurd a (by omega)
 | n + 1, m + 1, μ, ys, x, a, h => by
  obtain ⟨v0, rfl, c⟩ := h
  exact ⟨v0, rfl, c.imp fun ys x h => FQ n m μ ys x (by omega) h⟩
theorem ju.out {μ : jw} {ys : List Value} {x : Formula} (h : ju μ ys x) : ∃ (v0 : Value), ys = [.int .i64 x.Op, .int .i64 x.K, .string x.iR.ja, .string x.iR.jt, v0] ∧ Sl ju 5 μ v0 x.Kids := by
 obtain ⟨n, h⟩ := h
 cases n with
 | zero => exact h.elim
 | succ n =>
  obtain ⟨v0, rfl, a⟩ := h
  exact ⟨v0, rfl, a.imp fun ys x h => ⟨n, h⟩⟩
theorem ju.mk {μ : jw} {ys : List Value} {x : Formula} (h : ∃ (v0 : Value), ys = [.int .i64 x.Op, .int .i64 x.K, .string x.iR.ja, .string x.iR.jt, v0] ∧ Sl ju 5 μ v0 x.Kids) : ju μ ys x := by
 obtain ⟨v0, rfl, c⟩ := h
 obtain ⟨n, g⟩ := c.Sp (fun _ _ h => h) (fun a b ys x d h => FQ a b _ ys x d h)
 exact ⟨n + 1, v0, rfl, g⟩
theorem ky : Deep ju 5 where
 mono := fun _ _ _ _ c ⟨n, h⟩ => ⟨n, Dj n _ _ _ _ c h⟩
 len := by rintro _ _ _ h; obtain ⟨v0, rfl, a⟩ := h.out; rfl
 one := by
  rintro _ _ _ h
  obtain ⟨v0, rfl, a⟩ := h.out
  intro u hu; simp only [ay, cj, eo] at hu; rcases hu with rfl | rfl | rfl | rfl | rfl
  ·rfl
  ·rfl
  ·rfl
  ·rfl
  ·exact a.AU
def tk : py nF := fun μ ys x => ∃ (v0 : Value) (v1 : Value), ys = [.int .i64 x.Signed.iS.Kind, .string x.Signed.iS.Head.ja, .string x.Signed.iS.Head.jt, .string x.Signed.iS.jA, .string x.Signed.iS.B.ja, .string x.Signed.iS.B.jt, .string x.Signed.iS.C.ja, .string x.Signed.iS.C.jt, .string x.Signed.iS.jU, v0, .int .i64 x.lg.Op, .int .i64 x.lg.K, .string x.lg.iR.ja, .string x.lg.iR.jt, v1] ∧ Sl (Pl (jN .u8)) 1 μ v0 x.Signed.Tag ∧ Sl ju 5 μ v1 x.lg.Kids
theorem tk.out {μ : jw} {ys : List Value} {x : nF} (h : tk μ ys x) : ∃ (v0 : Value) (v1 : Value), ys = [.int .i64 x.Signed.iS.Kind, .string x.Signed.iS.Head.ja, .string x.Signed.iS.Head.jt, .string x.Signed.iS.jA, .string x.Signed.iS.B.ja, .string x.Signed.iS.B.jt, .string x.Signed.iS.C.ja, .string x.Signed.iS.C.jt, .string x.Signed.iS.jU, v0, .int .i64 x.lg.Op, .int .i64 x.lg.K, .string x.lg.iR.ja, .string x.lg.iR.jt, v1] ∧ Sl (Pl (jN .u8)) 1 μ v0 x.Signed.Tag ∧ Sl ju 5 μ v1 x.lg.Kids := h
theorem tk.mk {μ : jw} {ys : List Value} {x : nF} (h : ∃ (v0 : Value) (v1 : Value), ys = [.int .i64 x.Signed.iS.Kind, .string x.Signed.iS.Head.ja, .string x.Signed.iS.Head.jt, .string x.Signed.iS.jA, .string x.Signed.iS.B.ja, .string x.Signed.iS.B.jt, .string x.Signed.iS.C.ja, .string x.Signed.iS.C.jt, .string x.Signed.iS.jU, v0, .int .i64 x.lg.Op, .int .i64 x.lg.K, .string x.lg.iR.ja, .string x.lg.iR.jt, v1] ∧ Sl (Pl (jN .u8)) 1 μ v0 x.Signed.Tag ∧ Sl ju 5 μ v1 x.lg.Kids) : tk μ ys x := h
theorem JF : Deep tk 15 where
 mono := by rintro _ _ _ _ c ⟨v0, v1, rfl, a, h1⟩; exact ⟨v0, v1, rfl, a.mono (Pl.mono _) c, h1.mono ky.mono c⟩
 len := by rintro _ _ _ ⟨v0, v1, rfl, a, h1⟩; rfl
 one := by
  rintro _ _ _ ⟨v0, v1, rfl, a, h1⟩
  intro u hu; simp only [ay, cj, eo] at hu; rcases hu with rfl | rfl | rfl | rfl | rfl | rfl | rfl | rfl | rfl | rfl | rfl | rfl | rfl | rfl | rfl
  ·rfl
  ·rfl
  ·rfl
  ·rfl
  ·rfl
  ·rfl
  ·rfl
  ·rfl
  ·rfl
  ·exact a.AU
  ·rfl
  ·rfl
  ·rfl
  ·rfl
  ·exact h1.AU
def yI : py ux := fun μ ys x => ∃ (v0 : Value) (v1 : Value), ys = [.string x.iR.ja, .string x.iR.jt, .int .i64 x.lg.Op, .int .i64 x.lg.K, .string x.lg.iR.ja, .string x.lg.iR.jt, v0, v1] ∧ Sl ju 5 μ v0 x.lg.Kids ∧ Sl (Pl iX) 9 μ v1 x.Ee
theorem yI.out {μ : jw} {ys : List Value} {x : ux} (h : yI μ ys x) : ∃ (v0 : Value) (v1 : Value), ys = [.string x.iR.ja, .string x.iR.jt, .int .i64 x.lg.Op, .int .i64 x.lg.K, .string x.lg.iR.ja, .string x.lg.iR.jt, v0, v1] ∧ Sl ju 5 μ v0 x.lg.Kids ∧ Sl (Pl iX) 9 μ v1 x.Ee := h
theorem yI.mk {μ : jw} {ys : List Value} {x : ux} (h : ∃ (v0 : Value) (v1 : Value), ys = [.string x.iR.ja, .string x.iR.jt, .int .i64 x.lg.Op, .int .i64 x.lg.K, .string x.lg.iR.ja, .string x.lg.iR.jt, v0, v1] ∧ Sl ju 5 μ v0 x.lg.Kids ∧ Sl (Pl iX) 9 μ v1 x.Ee) : yI μ ys x := h
theorem RB : Deep yI 8 where
 mono := by rintro _ _ _ _ c ⟨v0, v1, rfl, a, h1⟩; exact ⟨v0, v1, rfl, a.mono ky.mono c, h1.mono (Pl.mono _) c⟩
 len := by rintro _ _ _ ⟨v0, v1, rfl, a, h1⟩; rfl
 one := by
  rintro _ _ _ ⟨v0, v1, rfl, a, h1⟩
  intro u hu; simp only [ay, cj, eo] at hu; rcases hu with rfl | rfl | rfl | rfl | rfl | rfl | rfl | rfl
  ·rfl
  ·rfl
  ·rfl
  ·rfl
  ·rfl
  ·rfl
  ·exact a.AU
  ·exact h1.AU
theorem Gc : ni pg0 9 Value.string kc := ni.string aU
theorem yX : ni pg0 28 (fun (x : iR) => (.agg (iT x).toArray)) jh :=
 ni.struct bB (fun d x y W => me (d + 8) x y W) (fun b k W => xR bB rfl (cY.2 ⟨fun _ => ⟨.string k.ja, nU aH rfl, rp aU _ _ _ _⟩, (cY.2 ⟨fun _ => ⟨.string k.jt, nU aH rfl, rp aU _ _ _ _⟩, (fun _ h => by cases h)⟩)⟩))
  (fun k x h => (jr.1 h).symm) (fun k => by simp [Instr.sameBits, iT, AH, kG])
theorem IU : ni pg0 38 (fun (x : iV) => (.agg (je x).toArray)) lf :=
 ni.struct bl (fun d x y W => Af (d + 7) x y W) (fun b k W => xR bl rfl (cY.2 ⟨fun _ => ⟨.agg (iT k.iR).toArray, qw an ag rfl, xR bB rfl (cY.2 ⟨fun _ => ⟨.string k.iR.ja, nU aH rfl, rp aU _ _ _ _⟩, (cY.2 ⟨fun _ => ⟨.string k.iR.jt, nU aH rfl, rp aU _ _ _ _⟩, (fun _ h => by cases h)⟩)⟩)⟩, (cY.2 ⟨fun _ => ⟨.string k.jA, nU aH rfl, rp aU _ _ _ _⟩, (fun _ h => by cases h)⟩)⟩))
  (fun k x h => (kO.1 h).symm) (fun k => by simp [Instr.sameBits, je, AH, kG])
theorem QQ (w : World) (s : ByteArray) (c : Int) : (callFunc 289 [Value.string s, .int .u8 c].toArray).run pg0 w = .ok (.value (.int .i64 (wu s c))) w := Gw func289 (by kernel_rfl) (by kernel_rfl) (by kernel_rfl) (by kernel_rfl) s c w
theorem xk (a : ByteArray) (c r : Int) (w : World) (hm : nc a c = some r) :
  jv true pg0 254 [(.string a), (.int .u8 c)] w (.int .i64 r) := by
 exact cG 8 func254 rfl (fun d => sg (Wa (lr (Wm (Wm (VE (LU (args := [(.string a), (.int .u8 c)]) (v := .int .i64 (wu a c)) rfl (by exact nB rfl rfl) (QQ _ a c) (Wa (lt (rQ hm d))))))))))
theorem yd (a : ByteArray) (c r : Int) (w : World) (hm : qp a c = some r) :
  jv true pg0 215 [(.string a), (.int .u8 c)] w (.int .i64 r) := by
 refine cG 8 func215 rfl (fun d => sg (Wa (lr (Wm (Wm (bS hm fun j g hm => VE (Eg d call254 (xk a c _ _  g) (fun i d => Wa (ln ?_)))))))))
 exact jz (rQ hm d)
theorem Ke (I : ByteArray) (r : Bool) (w : World) (hm : Bh I = some r) :
  jv true pg0 216 [(.string I)] w (.bool r) := by
 refine cG 16 func216 rfl (fun d => sg (Wa (lS (Wm (bS hm fun H J hm => VE (HB d aU bI gb rfl J (fun W3 N T d M p j Y => V (jO bI rfl j) (Wm (jC ?_)))))))))
 refine jb (jG (fun i E W => ∃ c, (E 8 = .int .i64 (i : Nat) ∧ E 7 = .int .i64 (H.length : Nat)) ∧ ST true jD w W T c ∧ E 6 = N ∧ uk (H.drop i) = some r) H.length j.len ⟨_, ⟨rfl, rfl⟩, (d.iU St), rfl, hm⟩ dc dc dc (fun _ _ _ h => by obtain ⟨_, n, _⟩ := h; exact n) ?_ ?_)
 ·rintro K E W u ⟨c, ⟨m, o⟩, d, g, a⟩
  obtain ⟨k, Q, D, B, G⟩ := jB u
  rw [D] at a
  refine bg (VQ (kk (enc := (jN .u8)) (i := (K : Int)) (x0 := k) bI iB g m j (ah _) B) (fun Z x => V (iW rfl (lC d.has (y := (.int .u8 k)) x isAgg5)) (Wa (lr (Wm (bS a fun q z a => VE (Eg d call215 (yd (⟨#[97, 98, 99, 100, 101, 102, 103, 104, 105, 106, 107, 108, 109, 110, 111, 112, 113, 114, 115, 116, 117, 118, 119, 120, 121, 122, 48, 49, 50, 51, 52, 53, 54, 55, 56, 57, 45]⟩ : ByteArray) k _ _  z) (fun U d => Wi rfl (jC ?_)))))))))
  refine jb (CI a rfl (fun t a => ?_) (fun t a => ?_))
  ·refine sg (Wa (lt (ko (jx (ko (jx ?_))))))
   obtain rfl := sj a
   exact rP d
  exact jJ (jI (jb ⟨m, _, ⟨rfl, o⟩, (d.iU St), g, (by rw [G]; exact a)⟩))
 rintro E W ⟨c, ⟨m, o⟩, d, g, a⟩
 rw [ai] at a
 exact jb (sg (Wa (lt (rQ a d))))
theorem qU (z : ByteArray) (r : Bool) (w : World) (hm : nO z = some r) :
  jv true pg0 177 [(.string z)] w (.bool r) := by
 refine cG 21 func177 rfl (fun d => sg (Wa (lr (Wm (V (mF aU rfl) (Wi rfl (Wm (LJ hm (fun K E W => ∃ Y, ST true jD w W (hp w) Y ∧ E 0 = (.string z) ∧ E 2 = (.bool false) ∧ E 10 = (.bool K)) 4 ?_ (fun K t y => ?_)))))))))
 ·rintro x2 E W ⟨Y, d, M, h, n⟩ a5
  refine Wh n (LJ a5 (fun J E W => ∃ D, ST true jD w W (hp w) D ∧ E 0 = (.string z) ∧ E 2 = (.bool false) ∧ E 16 = (.bool J)) 5 ?_ (fun J a x => ?_))
  ·rintro v E W ⟨D, d, m, H, a2⟩ N
   refine Wh a2 (LJ N (fun I E W => ∃ G, ST true jD w W (hp w) G ∧ E 2 = (.bool false) ∧ E 20 = (.bool I)) 3 ?_ (fun I j u => ?_))
   ·rintro A E W ⟨G, d, a9, a3⟩ Q
    exact Wg a3 (lt (rQ Q d))
   refine bC j (fun g j => ?_) (fun g j => ?_)
   ·refine ug g (jd m) (bS j fun q T j => oH g (Eg d call216 (Ke z _ _  T) (fun o d => V (jq (cB g) rfl) ?_)))
    obtain rfl := sj j
    exact u _ _ ⟨_, (d.iU St), H, rfl⟩
   refine un g (un g (V (jn (cB g) rfl) ?_))
   obtain rfl := sj j
   exact u _ _ ⟨_, (d.iU St), H, rfl⟩
  refine bC a (fun c a => ?_) (fun c a => ?_)
  ·refine ug c (jd M) (bS a fun Z B a => ug c (zK (i := 0) aU rfl rfl (yz B) (Cm B)) (bS a fun s U a => oH c (Eg d call215 (yd (⟨#[97, 98, 99, 100, 101, 102, 103, 104, 105, 106, 107, 108, 109, 110, 111, 112, 113, 114, 115, 116, 117, 118, 119, 120, 121, 122]⟩ : ByteArray) (Z.toNat : Int) _ _  U) (fun p d => ug c (kd rfl rfl rfl) (V (jq (cB c) rfl) ?_)))))
   obtain rfl := sj a
   exact x _ _ ⟨_, (d.iU St), M, h, rfl⟩
  refine un c (un c (un c (un c (V (jn (cB c) rfl) ?_))))
  obtain rfl := sj a
  exact x _ _ ⟨_, (d.iU St), M, h, rfl⟩
 refine bC t (fun k t => ?_) (fun k t => ?_)
 ·refine ug k (jd rfl) (ug k (mF aU rfl) (ug k (kd rfl rfl rfl) (V (jq (cB k) rfl) ?_)))
  obtain rfl := sj t
  exact y _ _ ⟨_, (d.iU St), rfl, rfl, rfl⟩
 refine un k (un k (un k (V (jn (cB k) rfl) ?_)))
 obtain rfl := sj t
 exact y _ _ ⟨_, (d.iU St), rfl, rfl, rfl⟩
theorem pP (i : iR) (r : Bool) (w : World) (hm : nl i = some r) :
  jv true pg0 157 [(.agg (iT i).toArray)] w (.bool r) := by
 refine cG 11 func157 rfl (fun d => sg (VE (jF d rfl (fun H J d => Wa (lr (Wf nH (VB d Mh rfl rfl aH (bS hm fun K y hm => VE (Eg d iC (qU i.ja _ _  y) (fun I d => Wm (LJ hm (fun k E W => ∃ j, ST true jD w W (hp w) j ∧ E 2 = (.bool false) ∧ E 10 = (.bool k)) 4 ?_ (fun k a g => ?_))))))))))))
 ·rintro G E W ⟨j, d, B, x⟩ t
  exact Wg x (lt (rQ t d))
 refine bC a (fun c a => ?_) (fun c a => ?_)
 ·refine ug c (iY tA rfl) (ug c (iW rfl (jg d.has Mh rfl aH)) (bS a fun D u a => oH c (Eg d iC (qU i.jt _ _  u) (fun z d => V (jq (cB c) rfl) ?_))))
  obtain rfl := sj a
  exact g _ _ ⟨_, (d.iU (Db St)), rfl, rfl⟩
 refine un c (un c (un c (V (jn (cB c) rfl) ?_)))
 obtain rfl := sj a
 exact g _ _ ⟨_, (d.iU (Db St)), rfl, rfl⟩
theorem Rg (w : World) (a b : ByteArray) : (callFunc 238 [Value.string a, .string b].toArray).run pg0 w = .ok (.value (.int .i64 (nJ a b))) w := NQ func238 (by kernel_rfl) (by kernel_rfl) (by kernel_rfl) (by kernel_rfl) a b w
theorem xd (a c : ByteArray) (r : Int) (w : World) (hm : lU a c = some r) :
  jv true pg0 186 [(.string a), (.string c)] w (.int .i64 r) := by
 exact cG 8 func186 rfl (fun d => sg (Wa (lr (Wm (Wm (VE (LU (args := [(.string a), (.string c)]) (v := .int .i64 (nJ a c)) rfl (by exact nB rfl rfl) (Rg _ a c) (Wa (lt (rQ hm d))))))))))
theorem zr (a c : ByteArray) (r : Int) (w : World) (hm : ov a c = some r) :
  jv true pg0 125 [(.string a), (.string c)] w (.int .i64 r) := by
 refine cG 8 func125 rfl (fun d => sg (Wa (lr (Wm (Wm (bS hm fun j g hm => VE (Eg d call186 (xd a c _ _  g) (fun i d => Wa (ln ?_)))))))))
 exact jz (rQ hm d)
theorem D1 (g : Value) (t : List Int) (r : Int) (w : World) (c : Sl (Pl (jN .i64)) 1 (hp w) g t) (hm : sx t = some r) :
  jv true pg0 124 [g] w (.int .i64 r) := by
 refine cG 18 func124 rfl (fun d => sg (Wa (lr (Wa (lS (Wm ?_))))))
 refine V (jO dA rfl c) (Wm (ln (jG (fun i E W => ∃ k, (E 8 = .int .i64 (i : Nat) ∧ E 7 = .int .i64 (t.length : Nat)) ∧ ST true jD w W (hp w) k ∧ E 3 = (.int .i64 0) ∧ E 6 = g ∧ rq (t.drop i) = some r) t.length c.len ⟨_, ⟨rfl, rfl⟩, (d.iU St), rfl, rfl, hm⟩ dc dc dc (fun _ _ _ h => by obtain ⟨_, n, _⟩ := h; exact n) ?_ ?_)))
 ·rintro J E W B ⟨k, ⟨m, o⟩, d, j, u, a⟩
  obtain ⟨x, K, H, G, I⟩ := jB B
  rw [H] at a
  refine bg (VQ (kk (enc := (jN .i64)) (i := (J : Int)) (x0 := x) dA fS u m c (ah _) G) (fun M D => V (iW rfl (lC d.has (y := (.int .i64 x)) D bF)) (Wa (lr (Wm (Wh j (Wi rfl (ln ?_))))))))
  refine CI a rfl (fun z a => ?_) (fun z a => ?_)
  ·refine sg (Wm (Wa (lt (ko (jx (ko (jx ?_)))))))
   obtain rfl := sj a
   exact rP d
  exact jJ (jI (jb ⟨m, _, ⟨rfl, o⟩, (d.iU St), j, u, (by rw [I]; exact a)⟩))
 rintro E W ⟨k, ⟨m, o⟩, d, j, u, a⟩
 rw [ai] at a
 exact jb (sg (Wh j (Wa (lt (rQ a d)))))
theorem yg (g i : iR) (r : Int) (w : World) (hm : lP g i = some r) :
  jv true pg0 57 [(.agg (iT g).toArray), (.agg (iT i).toArray)] w (.int .i64 r) := by
 refine cG 17 func57 rfl (fun d => sg (VE (jF d rfl (fun G I d => VE (jF d rfl (fun H J d => Wa (ln (jm ?_))))))))
 replace d := d.drew
 have h := d.has.iU (Kb (Kb Sn))
 refine jV h jE (X 0 rfl h (iY nH rfl) (XH 1 rfl h (fun _ m => iW rfl (jg m (Mt Mh) rfl aH)) (X 2 rfl h (iY nH rfl) (XH 3 rfl h (fun _ m => iW rfl (jg m Mh rfl aH)) (X 5 rfl h (iY tA rfl) (XH 6 rfl h (fun _ m => iW rfl (jg m (Mt Mh) rfl aH)) (X 7 rfl h (iY tA rfl) (XH 8 rfl h (fun _ m => iW rfl (jg m Mh rfl aH)) (bS hm fun a j hm => XE 4 rfl (Eg d call125 (zr g.ja i.ja _ _  j) (fun x d => ?_)))))))))))
 have h := d.has.iU (Kb (Kb Sn))
 refine ⟨h, (bS hm fun c k hm => XE 9 rfl (Eg d call125 (zr g.jt i.jt _ _  k) (fun y d => ?_)))⟩
 have h := d.has.iU (Kb (Kb Sn))
 refine ⟨h, (XE 10 rfl (jS (cs := #[(.int .i64 a), (.int .i64 c)]) d (nz rfl rfl) (lV dA fS zeroValue3) (fun z u d => ?_)))⟩
 have h := d.has.iU (Db (Kb (Kb Sn)))
 refine ⟨h, (bS hm fun D t hm => XE 11 rfl (Eg d call124 (D1 (.slice (some ⟨u, 0, none⟩) 2 2) ([a, c]) _ _ (Sl.lit (enc := (jN .i64)) (l := [a, c]) (fun _ => rfl) rfl nb rfl (d.at_ Mh)) t) (fun B d => ?_)))⟩
 have h := d.has.iU (Db (Kb (Kb Sn)))
 refine ⟨h, (X 12 rfl h (mw rfl) (km kr (jb ?_)))⟩
 exact jz (rQ hm d)
set_option maxHeartbeats 4000000 in
theorem rf (a : iS) (r : Bool) (w : World) (hm : nn a = some r) :
  jv true pg0 115 [(.agg (iX a).toArray)] w (.bool r) := by
 let m9 := (⟨a.Kind, a.Head, zS, a.B, a.C, zS⟩ : iS)
 let j2 := (⟨a.Kind, a.Head, zS, a.B, K0, a.jU⟩ : iS)
 let j1 : Value := (.agg (iT a.B).toArray)
 let g6 := ((iX (⟨a.Kind, a.Head, zS, a.B, K0, zS⟩ : iS)).toArray)
 let q := (⟨a.Kind, a.Head, zS, K0, K0, zS⟩ : iS)
 refine cG 98 func115 rfl (fun d => sg (VE (jF d rfl (fun W2 N d => Wa (lr (Wf mT (VB d Mh rfl rfl bF (Wf mY (VA d Mh (iT a.Head) an ag (V (kT (v := (.agg (iX q).toArray)) (nz rfl rfl) (ku bw bN (Ij _ bN) kr)) (VE (jK d bw (fun W4 B d => ?_)))))))))))))
 refine VO (jy (.agg (iX q).toArray) ((iX q).toArray) d rfl rfl ak (mx q) nb rfl (fun W5 d => lr (Wf mY (VA d (Mt Mh) (iT a.Head) an ag (bS hm fun p j4 hm => VE (Eg d gT (pP a.Head _ _  j4) (fun W8 d => Wa (ln (jm (D0 hm (fun L E W => ∃ b6, ST true jD w W (hp w) ((B, Ol (iX L.2) 108) :: ((N, Ol (iX a) 108) :: b6)) ∧ E 1 = (.pointer (some ⟨N, 0, none⟩)) ∧ E 3 = (.pointer (some ⟨B, 0, none⟩)) ∧ E 4 = (.bool L.1)) (fun L g Z => ?_) ?_))))))))))
 ·let g5 := ((iX m9).toArray : Array Value)
  let b8 := ((iX j2).toArray : Array Value)
  let o : Value := (.pointer (some ⟨B, 0, none⟩))
  let n : Value := (.pointer (some ⟨N, 0, none⟩))
  let a0 := ((iX a).toArray : Array Value)
  refine sg (Wf mT (VB d (Mt Mh) rfl rfl bF (ln (bg (Wi rfl (Wa (ln (CI g rfl (fun e5 g => ?_) (fun e5 g => ?_)))))))))
  ·replace d := d.drew
   have h := d.has.iU (Db (Kb Sn))
   refine jV h jE (X 0 rfl h (iY rz rfl) (XH 1 rfl h (fun _ m => iW rfl (jg m Mh rfl aH)) (X 2 rfl h (jd rfl) (X 3 rfl h (jd rfl) (X 8 rfl h (iY rz rfl) (PJ g (fun d6 E W => ∃ b9, ST true jD w W (hp w) ((B, Ol (iX q) 108) :: ((N, Obj.cells a0 108 (0, 0)) :: b9)) ∧ E 1 = n ∧ E 3 = o ∧ E 4 = (.bool p) ∧ E 18 = (.string a.jA) ∧ E 24 = (.bool d6) ∧ E 25 = (.pointer (some ⟨B, 3, none⟩))) (bm 11 511) 2 ?_ (fun d6 D a2 => ?_)))))))
   ·rintro m1 E W ⟨b9, d, h2, h3, k8, h4, h5, h6⟩ f1
    refine XO 9 rfl (jy (.string a.jA) ((iX (⟨a.Kind, a.Head, a.jA, K0, K0, zS⟩ : iS)).toArray) d h6 h4 cx (Cs a.jA) nb rfl (fun j5 d => ?_))
    have h := d.has.iU (Db (Kb Sn))
    refine ⟨h, (X 10 rfl h (mw h5) (km kr (jI (jb ?_))))⟩
    obtain rfl := sj f1
    exact ⟨_, rfl, _, (d.iU St), h2, h3, rfl⟩
   refine bC D (fun k D => ?_) (fun k D => ?_)
   ·refine Xg 4 rfl rfl (cB k) h (iY rz rfl) (xz 5 rfl rfl (cB k) h (fun _ m => iW rfl (jg m Mh rfl aH)) (bS D fun l2 f9 D => Hv 6 rfl rfl (cB k) (Eg d iC (qU a.jA _ _  f9) (fun j6 d => ?_))))
    have h := d.has.iU (Db (Kb Sn))
    refine ⟨h, (X 7 rfl h (jq (cB k) rfl) ?_)⟩
    obtain rfl := sj D
    refine tW kr (a2 _ _ ⟨_, (d.iU St), rfl, rfl, rfl, rfl, rfl, rfl⟩)
   refine Xn 4 rfl rfl (cB k) h (Xn 5 rfl rfl (cB k) h (Xn 6 rfl rfl (cB k) h (X 7 rfl h (jn (cB k) rfl) ?_)))
   obtain rfl := sj D
   refine tW kr (a2 _ _ ⟨_, (d.iU St), rfl, rfl, rfl, rfl, rfl, rfl⟩)
  refine sg (Wi rfl (Wa (ln (CI g rfl (fun e6 g => ?_) (fun e6 g => ?_)))))
  ·replace d := d.drew
   have h := d.has.iU (Db (Kb Sn))
   refine jV h jE (X 0 rfl h (iY kK rfl) (XH 1 rfl h (fun _ m => iW rfl (jc m Mh (iT a.B) rfl an ag)) (X 2 rfl h (jd rfl) (X 3 rfl h (jd rfl) (X 8 rfl h (iY kK rfl) (PJ g (fun d7 E W => ∃ c0, ST true jD w W (hp w) ((B, Ol (iX q) 108) :: ((N, Obj.cells a0 108 (0, 0)) :: c0)) ∧ E 1 = n ∧ E 3 = o ∧ E 4 = (.bool p) ∧ E 29 = j1 ∧ E 35 = (.bool d7) ∧ E 36 = (.pointer (some ⟨B, 4, none⟩))) (bm 11 511) 2 ?_ (fun d7 G a3 => ?_)))))))
   ·rintro m2 E W ⟨c0, d, h7, h8, k9, h9, i0, i1⟩ f2
    refine XO 9 rfl (jy j1 g6 d i1 h9 ag (lh a.B) nb rfl (fun j7 d => ?_))
    have h := d.has.iU (Db (Kb Sn))
    refine ⟨h, (X 10 rfl h (mw i0) (km kr (jI (jb ?_))))⟩
    obtain rfl := sj f2
    exact ⟨_, rfl, _, (d.iU St), h7, h8, rfl⟩
   refine bC G (fun t G => ?_) (fun t G => ?_)
   ·refine Xg 4 rfl rfl (cB t) h (iY kK rfl) (xz 5 rfl rfl (cB t) h (fun _ m => iW rfl (jc m Mh (iT a.B) rfl an ag)) (bS G fun l3 g0 G => Hv 6 rfl rfl (cB t) (Eg d gT (pP a.B _ _  g0) (fun j8 d => ?_))))
    have h := d.has.iU (Db (Kb Sn))
    refine ⟨h, (X 7 rfl h (jq (cB t) rfl) ?_)⟩
    obtain rfl := sj G
    refine tW kr (a3 _ _ ⟨_, (d.iU St), rfl, rfl, rfl, rfl, rfl, rfl⟩)
   refine Xn 4 rfl rfl (cB t) h (Xn 5 rfl rfl (cB t) h (Xn 6 rfl rfl (cB t) h (X 7 rfl h (jn (cB t) rfl) ?_)))
   obtain rfl := sj G
   refine tW kr (a3 _ _ ⟨_, (d.iU St), rfl, rfl, rfl, rfl, rfl, rfl⟩)
  refine sg (Wi rfl (Wa (ln (CI g rfl (fun e7 g => ?_) (fun e7 g => ?_)))))
  ·refine jm ?_
   replace d := d.drew
   have h := d.has.iU (Db (Kb Sn))
   refine jV h jE (X 0 rfl h (iY kK rfl) (XH 1 rfl h (fun _ m => iW rfl (jc m Mh (iT a.B) rfl an ag)) (X 2 rfl h (iY pZ rfl) (XH 3 rfl h (fun _ m => iW rfl (jg m Mh rfl aH)) (X 4 rfl h (iY kK rfl) (XO 5 rfl (jy j1 g6 d rfl rfl ag (lh a.B) nb rfl (fun j9 d => ?_))))))))
   have h := d.has.iU (Db (Kb Sn))
   refine ⟨h, (X 6 rfl h (iY pZ rfl) (XO 7 rfl (jy (.string a.jU) ((iX j2).toArray) d rfl rfl cx (Cs a.jU) nb rfl (fun k0 d => ?_))))⟩
   have h := d.has.iU (Db (Kb Sn))
   refine ⟨h, (km kr (jb (jj (Wm (Wm (LJ g (fun e0 E W => ∃ c1, ST true jD w W (hp w) ((B, Obj.cells b8 108 (0, 0)) :: ((N, Obj.cells a0 108 (0, 0)) :: c1)) ∧ E 1 = n ∧ E 3 = o ∧ E 4 = (.bool p) ∧ E 50 = (.bool e0)) 4 ?_ (fun e0 I R => ?_)))))))⟩
   ·rintro m3 E W ⟨c1, d, U, c7, c8, i2⟩ f3
    refine Wh i2 (LJ f3 (fun d9 E W => ∃ c2, ST true jD w W (hp w) ((B, Obj.cells b8 108 (0, 0)) :: ((N, Obj.cells a0 108 (0, 0)) :: c2)) ∧ E 1 = n ∧ E 3 = o ∧ E 4 = (.bool p) ∧ E 59 = (.bool d9)) 8 ?_ (fun d9 T a5 => ?_))
    ·rintro m4 E W ⟨c2, d, s, c9, d0, i3⟩ f4
     refine Wh i3 (LJ f4 (fun d8 E W => ∃ c3, ST true jD w W (hp w) ((B, Obj.cells b8 108 (0, 0)) :: ((N, Obj.cells a0 108 (0, 0)) :: c3)) ∧ E 1 = n ∧ E 3 = o ∧ E 4 = (.bool p) ∧ E 64 = (.bool d8)) 4 ?_ (fun d8 H a4 => ?_))
     ·rintro m5 E W ⟨c3, d, i4, i5, l0, i6⟩ f5
      refine Wg i6 (jC (jI (jb ?_)))
      obtain rfl := sj f5
      exact ⟨_, rfl, _, (d.iU St), i4, i5, rfl⟩
     refine bC H (fun x H => ?_) (fun x H => ?_)
     ·refine ug x (iY pZ s) (ug x (iW rfl (jg d.has (Mt Mh) rfl aH)) (bS H fun l4 g1 H => oH x (Eg d iC (qU a.jU _ _  g1) (fun k1 d => V (jq (cB x) rfl) ?_))))
      obtain rfl := sj H
      exact a4 _ _ ⟨_, (d.iU St), s, c9, d0, rfl⟩
     refine un x (un x (un x (V (jn (cB x) rfl) ?_)))
     obtain rfl := sj H
     exact a4 _ _ ⟨_, (d.iU St), s, c9, d0, rfl⟩
    refine bC T (fun c T => ?_) (fun c T => ?_)
    ·refine ug c (iY kK U) (ug c (iY nH rfl) (ug c (iW rfl (jg d.has (Mt Mh) rfl aH)) (ug c (iY mY U) (ug c (iY nH rfl) (ug c (iW rfl (jg d.has (Mt Mh) rfl aH)) (ug c (tZ rfl rfl rfl) (V (jq (cB c) rfl) ?_)))))))
     obtain rfl := sj T
     exact a5 _ _ ⟨_, (d.iU St), U, c7, c8, rfl⟩
    refine un c (un c (un c (un c (un c (un c (un c (V (jn (cB c) rfl) ?_)))))))
    obtain rfl := sj T
    exact a5 _ _ ⟨_, (d.iU St), U, c7, c8, rfl⟩
   refine bC I (fun u I => ?_) (fun u I => ?_)
   ·refine ug u (iY kK rfl) (ug u (iW rfl (jc d.has (Mt Mh) (iT a.B) rfl an ag)) (bS I fun l5 g2 I => oH u (Eg d gT (pP a.B _ _  g2) (fun k2 d => V (jq (cB u) rfl) ?_))))
    obtain rfl := sj I
    exact R _ _ ⟨_, (d.iU St), rfl, rfl, rfl, rfl⟩
   refine un u (un u (un u (V (jn (cB u) rfl) ?_)))
   obtain rfl := sj I
   exact R _ _ ⟨_, (d.iU St), rfl, rfl, rfl, rfl⟩
  refine sg (Wi rfl (Wa (ln (CI g rfl (fun e8 g => ?_) (fun e8 g => ?_)))))
  ·refine jm ?_
   replace d := d.drew
   have h := d.has.iU (Db (Kb Sn))
   refine jV h jE (X 0 rfl h (iY kK rfl) (XH 1 rfl h (fun _ m => iW rfl (jc m Mh (iT a.B) rfl an ag)) (X 2 rfl h (iY oh rfl) (XH 3 rfl h (fun _ m => iW rfl (jc m Mh (iT a.C) rfl an ag)) (X 4 rfl h (iY kK rfl) (XO 5 rfl (jy j1 g6 d rfl rfl ag (lh a.B) nb rfl (fun k3 d => ?_))))))))
   have h := d.has.iU (Db (Kb Sn))
   refine ⟨h, (X 6 rfl h (iY oh rfl) (XO 7 rfl (jy (.agg (iT a.C).toArray) ((iX m9).toArray) d rfl rfl ag (lh a.C) nb rfl (fun k4 d => ?_))))⟩
   have h := d.has.iU (Db (Kb Sn))
   refine ⟨h, (km kr (jb (jj (Wm (Wm (LJ g (fun e3 E W => ∃ c4, ST true jD w W (hp w) ((B, Obj.cells g5 108 (0, 0)) :: ((N, Obj.cells a0 108 (0, 0)) :: c4)) ∧ E 1 = n ∧ E 3 = o ∧ E 4 = (.bool p) ∧ E 78 = (.bool e3)) 4 ?_ (fun e3 M a9 => ?_)))))))⟩
   ·rintro m6 E W ⟨c4, d, A, d1, d2, i7⟩ f6
    refine Wh i7 (LJ f6 (fun e2 E W => ∃ c5, ST true jD w W (hp w) ((B, Obj.cells g5 108 (0, 0)) :: ((N, Obj.cells a0 108 (0, 0)) :: c5)) ∧ E 1 = n ∧ E 3 = o ∧ E 4 = (.bool p) ∧ E 83 = (.bool e2)) 4 ?_ (fun e2 K a8 => ?_))
    ·rintro m7 E W ⟨c5, d, Y, d3, d4, i8⟩ f7
     refine Wh i8 (LJ f7 (fun e1 E W => ∃ c6, ST true jD w W (hp w) ((B, Obj.cells g5 108 (0, 0)) :: ((N, Obj.cells a0 108 (0, 0)) :: c6)) ∧ E 1 = n ∧ E 3 = o ∧ E 4 = (.bool p) ∧ E 91 = (.bool e1)) 7 ?_ (fun e1 J a7 => ?_))
     ·rintro m8 E W ⟨c6, d, i9, j0, l1, j3⟩ f8
      refine Wg j3 (jC (jI (jb ?_)))
      obtain rfl := sj f8
      exact ⟨_, rfl, _, (d.iU St), i9, j0, rfl⟩
     refine bC J (fun i J => ?_) (fun i J => ?_)
     ·refine ug i (iY kK Y) (ug i (iW rfl (jc d.has (Mt Mh) (iT a.B) rfl an ag)) (ug i (iY oh Y) (ug i (iW rfl (jc d.has (Mt Mh) (iT a.C) rfl an ag)) (bS J fun l6 g3 J => oH i (Eg d call57 (yg a.B a.C _ _  g3) (fun k5 d => ug i (kd rfl rfl rfl) (V (jq (cB i) rfl) ?_)))))))
      obtain rfl := sj J
      exact a7 _ _ ⟨_, (d.iU St), Y, d3, d4, rfl⟩
     refine un i (un i (un i (un i (un i (un i (V (jn (cB i) rfl) ?_))))))
     obtain rfl := sj J
     exact a7 _ _ ⟨_, (d.iU St), Y, d3, d4, rfl⟩
    refine bC K (fun z K => ?_) (fun z K => ?_)
    ·refine ug z (iY oh A) (ug z (iW rfl (jc d.has (Mt Mh) (iT a.C) rfl an ag)) (bS K fun l7 g4 K => oH z (Eg d gT (pP a.C _ _  g4) (fun k6 d => V (jq (cB z) rfl) ?_))))
     obtain rfl := sj K
     exact a8 _ _ ⟨_, (d.iU St), A, d1, d2, rfl⟩
    refine un z (un z (un z (V (jn (cB z) rfl) ?_)))
    obtain rfl := sj K
    exact a8 _ _ ⟨_, (d.iU St), A, d1, d2, rfl⟩
   refine bC M (fun y M => ?_) (fun y M => ?_)
   ·refine ug y (iY kK rfl) (ug y (iW rfl (jc d.has (Mt Mh) (iT a.B) rfl an ag)) (bS M fun l8 g7 M => oH y (Eg d gT (pP a.B _ _  g7) (fun k7 d => V (jq (cB y) rfl) ?_))))
    obtain rfl := sj M
    exact a9 _ _ ⟨_, (d.iU St), rfl, rfl, rfl, rfl⟩
   refine un y (un y (un y (V (jn (cB y) rfl) ?_)))
   obtain rfl := sj M
   exact a9 _ _ ⟨_, (d.iU St), rfl, rfl, rfl, rfl⟩
  refine sg (Wa (ln ?_))
  replace d := d.iU (Db (Db St))
  refine jz (ko (jx ?_))
  obtain rfl := sj g
  replace Z : some false = some r := Z
  obtain rfl := sj Z
  exact rP d
 rintro ⟨l9, e4⟩ E W ⟨b6, d, g8, g9, h0⟩ e9
 refine sg (Wh h0 (Wm (LJ e9 (fun d5 E W => ∃ b7, ST true jD w W (hp w) b7 ∧ E 97 = (.bool d5)) 4 ?_ (fun d5 Q P => ?_))))
 ·rintro m0 E W ⟨b7, d, h1⟩ f0
  exact Wg h1 (lt (rQ f0 d))
 refine bC Q (fun j Q => ?_) (fun j Q => ?_)
 ·refine ug j (iW g9 (jc d.has Mh (iX e4) rfl aS ak)) (ug j (iW g8 (jc d.has (Mt Mh) (iX a) rfl aS ak)) (ug j (rn rfl rfl (kV fC) (nE (yt _ e4 a))) (V (jq (cB j) rfl) ?_)))
  obtain rfl := sj Q
  exact P _ _ ⟨_, (d.iU (Db (Db St))), rfl⟩
 refine un j (un j (un j (V (jn (cB j) rfl) ?_)))
 obtain rfl := sj Q
 exact P _ _ ⟨_, (d.iU (Db (Db St))), rfl⟩
theorem Dc (j : Value) (t : List iS) (c : iS) (r : Int) (w : World) (g : Sl (Pl iX) 9 (hp w) j t) (hm : vi t c = some r) :
  jv true pg0 248 [j, (.agg (iX c).toArray)] w (.int .i64 r) := by
 refine cG 19 func248 rfl (fun d => sg (VE (jF d rfl (fun Q J d => Wa (lS (Wm (V (jO aG rfl g) (Wm (ln ?_)))))))))
 refine jG (fun i E W => ∃ k, (E 8 = .int .i64 (i : Nat) ∧ E 7 = .int .i64 (t.length : Nat)) ∧ ST true jD w W (hp w) ((J, Ol (iX c) 108) :: k) ∧ E 0 = j ∧ E 3 = (.pointer (some ⟨J, 0, none⟩)) ∧ oI c (t.drop i) i = some r) t.length g.len ⟨_, ⟨rfl, rfl⟩, (d.iU St), rfl, rfl, hm⟩ dc dc dc (fun _ _ _ h => by obtain ⟨_, o, _⟩ := h; exact o) ?_ ?_
 ·rintro K E W B ⟨k, ⟨n, q⟩, d, u, x, a⟩
  obtain ⟨y, M, H, G, I⟩ := jB B
  rw [H] at a
  refine bg (Wh n (Wa (ln (jm ?_))))
  replace d := d.drew
  have m := d.has.iU (Kb Sn)
  refine jV m jE (XH 0 rfl m (fun _ p => iW x (jc p Mh (iX c) rfl aS ak)) (X 1 rfl m (jd u) (X 2 rfl m (jd rfl) (XQ 3 rfl m (kk (enc := iX) (i := (K : Int)) (x0 := y) aG ak rfl rfl g (ah _) G) (fun N D => XH 4 rfl m (fun _ p => iW rfl (jX p D aS ak)) (X 5 rfl m (rn rfl rfl (kV fC) (nE (yt _ c y))) (km kr (jb (CI a rfl (fun z a => ?_) (fun z a => ?_))))))))))
  ·refine sg (Wm (Wa (ln ?_)))
   replace d := d.iU (Db St)
   refine jz (ko (jx (ko (jx ?_))))
   obtain rfl := sj a
   exact rP d
  exact jJ (jI (jb ⟨n, _, ⟨rfl, q⟩, (d.iU St), u, x, (by rw [I]; exact a)⟩))
 rintro E W ⟨k, ⟨n, q⟩, d, u, x, a⟩
 rw [ai] at a
 refine jb ?_
 replace d := d.iU (Db St)
 exact sg (Wa (lt (rQ a d)))
theorem Bg (a : Value) (g : List iS) (c : iS) (r : Bool) (w : World) (i : Sl (Pl iX) 9 (hp w) a g) (hm : tO g c = some r) :
  jv true pg0 201 [a, (.agg (iX c).toArray)] w (.bool r) := by
 refine cG 9 func201 rfl (fun d => sg (VE (jF d rfl (fun k u d => Wa (lr (Wm (VA d Mh (iX c) aS ak (bS hm fun x j hm => VE (Eg d call248 (Dc a g c _ _ (i.mono (Pl.mono _) d.jf) j) (fun t d => Wi rfl (Wa ?_)))))))))))
 refine ln ?_
 exact jz (rQ hm d)
theorem FN (a : Value) (g : List iS) (c : iS) (r : Bool) (w : World) (i : Sl (Pl iX) 9 (hp w) a g) (hm : wo g c = some r) :
  jv true pg0 151 [a, (.agg (iX c).toArray)] w (.bool r) := by
 refine cG 8 func151 rfl (fun d => sg (VE (jF d rfl (fun k u d => Wa (lr (Wm (VA d Mh (iX c) aS ak (bS hm fun x j hm => VE (Eg d call201 (Bg a g c _ _ (i.mono (Pl.mono _) d.jf) j) (fun t d => Wa (jC ?_)))))))))))
 refine jb ?_
 exact jz (rQ hm d)
theorem JP (a : iS) (r : List iR) (w : World) (hm : xC a = some r) :
  jZ true pg0 52 [(.agg (iX a).toArray)] w 28 iT 2 r := by
 refine tS 27 func52 rfl (fun d => sg (VE (jF d rfl (fun W2 m d => Wa (lS (VA d Mh (iX a) aS ak (bS hm fun r3 q hm => VE (Eg d iD (rf a _ _  q) (fun W5 d => V (lj rfl) (jC ?_))))))))))
 refine jb (CI hm rfl (fun o hm => ?_) (fun o hm => ?_))
 ·refine sg (Wa (ln ?_))
  replace d := d.iU (Db St)
  refine jz (jx ?_)
  obtain rfl := sj hm
  exact jR (v := (.slice none 0 0)) rfl rfl ⟨_, [], rfl, d.ly (fun p h => by cases h) (by simp), jl.nil _ _ _⟩
 refine kg (Wf mY (VA d Mh (iT a.Head) an ag (VE (jS (cs := (iT a.Head).toArray) d (ma rfl) (lV al ag bo) (fun W8 y d => Wa (ln (jm (CJ hm (fun I E W => ∃ j i z, ST true jD w W (hp w) ((m, Ol (iX a) 108) :: (i ++ z)) ∧ E 1 = (.pointer (some ⟨m, 0, none⟩)) ∧ E 3 = j ∧ jl 28 iT 2 j I i) (fun I g => ?_) ?_))))))))
 ·refine sg (Wf mT (VB d (Mt Mh) rfl rfl bF (Wi rfl (ln (CI g rfl (fun Q g => ?_) (fun Q g => ?_))))))
  ·refine jj (Wm (Wf kK (VA d (Mt Mh) (iT a.B) an ag (VE (jS (cs := (iT a.B).toArray) d (ma rfl) (lV al ag bo) (fun P a4 d => ?_))))))
   replace d := d.perm (Nb (Pb Pz) Nz)
   refine bS g fun c0 T g => VE (kX (enc := iT) (v := (.slice (some ⟨y, 0, none⟩) 1 1)) (vs := (.slice (some ⟨a4, 0, none⟩) 1 1)) (R := [(y, Ol (iT a.Head) 28)]) d lp dc lh al nw.1 nw.2.1 rfl nw.2.2.1 nw.2.2.2 rfl rfl (jl.lit (l := [a.Head]) (enc := iT) rfl dc rfl rfl) (Sl.lit (enc := iT) (l := [a.B]) lp rfl nb rfl (d.at_ (Mt Mh))) T (fun b4 a9 n d K => Wa (ln ?_)))
   obtain rfl := sj g
   exact ⟨a9, n, _, (d.iU (Sb (Pr (Pb Pz)) (Kr (Db St)))), rfl, rfl, K⟩
  refine kn ?_
  obtain rfl := sj g
  replace d := d.S5
  exact ⟨(.slice (some ⟨y, 0, none⟩) 1 1), [(y, Ol (iT a.Head) 28)], _, (d.iU (Sb (Pr Pz) St)), rfl, rfl, (jl.lit (l := [a.Head]) (enc := iT) rfl dc rfl rfl)⟩
 rintro b5 E W ⟨j, i, z, d, D, G, u⟩ U
 refine jm (CJ U (fun H E W => ∃ t k B, ST true jD w W (hp w) (k ++ B) ∧ E 3 = t ∧ jl 28 iT 2 t H k) (fun H c => ?_) ?_)
 ·refine sg (V (iY mT D) (VB d Mh rfl rfl bF (Wi rfl (ln (CI c rfl (fun M c => ?_) (fun M c => ?_))))))
  ·refine jj (Wh G (V (iY oh D) (VA d Mh (iT a.C) an ag (VE (jS (cs := (iT a.C).toArray) d (ma rfl) (lV al ag bo) (fun A a3 d => ?_))))))
   replace d := d.perm (Nr (Qb (Qb Qz)) Nz)
   refine bS c fun b9 N c => VE (kX (enc := iT) (v := j) (vs := (.slice (some ⟨a3, 0, none⟩) 1 1)) (R := i) d lp dc lh al nw.1 nw.2.1 rfl nw.2.2.1 nw.2.2.2 rfl rfl u (Sl.lit (enc := iT) (l := [a.C]) lp rfl nb rfl (d.at_ (Ma Mh))) N (fun L s Z d J => Wa (ln ?_)))
   obtain rfl := sj c
   exact ⟨s, Z, _, (d.iU (Kr (Db (Db St)))), rfl, J⟩
  refine kn ?_
  obtain rfl := sj c
  exact ⟨j, i, _, (d.iU (Db St)), G, u⟩
 rintro b6 E W ⟨t, k, B, d, a5, x⟩ Y
 refine sg (Wh a5 (Wa (lt ?_)))
 obtain rfl := sj Y
 exact jR (v := t) rfl rfl ⟨_, k, rfl, d.ly (fun p h => (Ml h)) x.nd, x⟩
theorem CA (M : Nat) (u : Value) (a9 : List (iR × (List (ByteArray × Bool)))) (G : LO) (D : Value) (a0 : List iS) (B : LO) (a : Value) (Y : List (iR × (List iS))) (I : LO) (c : Value) (K : List (ByteArray × (List iS))) (t : LO) (j : Value) (a4 : List iV) (y : LO) (J : Int) (H : iS) (r : ((List iS) × (List (iR × (List iS))) × (List (ByteArray × (List iS))))) (w : World) {μ0 : jw} (h0 : nR μ0 ((M, Ob #[u, D, a, c, j, (.int .i64 J)] 174) :: (G ++ (B ++ (I ++ (t ++ (y ++ [])))))) w) (e9 : kB (fun (x : iR) => (.agg (iT x).toArray)) (kl Value.string (fun (x : Bool) => (Value.bool x))) u a9 G) (a6 : jl 108 iX 9 D a0 B) (b2 : kB (fun (x : iR) => (.agg (iT x).toArray)) (jl 108 iX 9) a Y I) (T : kB Value.string (jl 108 iX 9) c K t) (e1 : oA 38 je 3 j a4 y) (hm : sb a9 a0 Y K a4 J H = some r) :
  jY true pg0 171 [(.pointer (some ⟨M, 0, none⟩)), (.agg (iX H).toArray)] w ((M, Ob #[u, D, a, c, j, (.int .i64 J)] 174) :: (G ++ (B ++ (I ++ (t ++ (y ++ [])))))) (fun v L1 W' => ∃ y1 S2 S4 S6, v = (.tuple #[]) ∧ L1 = ((M, Ob #[u, y1, a, c, j, (.int .i64 J)] 174) :: (G ++ (S2 ++ (S4 ++ (S6 ++ (y ++ [])))))) ∧ jl 108 iX 9 y1 r.1 S2 ∧ kB (fun (x : iR) => (.agg (iT x).toArray)) (jl 108 iX 9) a r.2.1 S4 ∧ kB Value.string (jl 108 iX 9) c r.2.2 S6) := by
 refine wJ h0 55 func171 rfl (fun d => sg (VE (jF d rfl (fun W2 b1 d => ln (jm ?_)))))
 replace d := d.drew
 have m := d.has.iU (Kb Sn)
 have n := d.has.iU (Db (Kb Sn))
 refine yK 10 m n jE (lO 0 rfl kr (.inl rfl) rfl dc (fun _ _ h => ⟨h.1, oO br h.2⟩) ⟨m, fun _ => n⟩ (fun _ _ _ _ => jd rfl) (lO 1 rfl kr (.inl rfl) rfl dc (fun _ _ h => ⟨h.1, oO br h.2⟩) ⟨m, fun _ => n⟩ (fun _ _ _ _ => jd rfl) (lO 2 rfl kr (.inl rfl) rfl dc (fun _ _ h => ⟨h.1, oO br h.2⟩) ⟨m, fun _ => n⟩ (fun _ _ _ _ => lb rfl) (lO 3 rfl kr (.inl rfl) rfl dc (fun _ _ h => ⟨h.1, oO br h.2⟩) ⟨m, fun _ => n⟩ (fun _ _ _ _ => iY GZ rfl) (lO 4 rfl kr (.inl rfl) rfl dc (fun _ _ h => ⟨h.1, oO br h.2⟩) ⟨m, fun _ => n⟩ (fun l W q s => have p := (s.2 (q.Ny 10 [4] kr rfl)); iW rfl (jg p Mh rfl iQ)) (lO 5 rfl kr (.inl rfl) rfl dc (fun _ _ h => ⟨h.1, oO br h.2⟩) ⟨m, fun _ => n⟩ (fun l W q s => have p := s.1; iW rfl (jc p Mh (iX H) rfl aS ak)) (XE 6 rfl (jS (cs := (iX H).toArray) d (ma rfl) (lV aG ak bw) (fun k0 g0 d => ?_)))))))))
 have m := d.has.iU (Db (Kb Sn))
 have n := d.has.iU (Db (Db (Kb Sn)))
 refine ⟨⟨m, fun _ => n⟩, ?_⟩
 replace d := d.perm (Nr (Qb (Qb (Qb (Qr Qz)))) Nz)
 refine bS hm fun a5 f0 hm => XE 7 rfl (kX (enc := iX) (v := D) (vs := (.slice (some ⟨g0, 0, none⟩) 1 1)) (R := B) d kU dc mx aG qe.1 qe.2.1 rfl qe.2.2.1 qe.2.2.2 rfl rfl a6 (Sl.lit (enc := iX) (l := [H]) kU rfl nb rfl (d.at_ (Ma Mh))) f0 (fun k1 k4 b7 d b5 => ?_))
 have m := d.has.iU (Dr (Db (Kb Sn)))
 have n := d.has.iU (Dr (Db (Db (Kb Sn))))
 refine ⟨⟨m, fun _ => n⟩, (lO 8 rfl kr (.inl rfl) rfl dc (fun _ _ h => ⟨h.1, oO br h.2⟩) ⟨m, fun _ => n⟩ (fun _ _ _ _ => lb rfl) (lO 9 rfl kr (.inl rfl) rfl dc (fun _ _ h => ⟨h.1, oO br h.2⟩) ⟨m, fun _ => n⟩ (fun _ _ _ _ => iY GZ rfl) ?_))⟩
 obtain ⟨a8, b0, rfl⟩ := b5.form
 let A : Value := (.slice a8 a5.length b0)
 replace d := d.perm (Nb (Pr (Pb (Pb Pz))) Nz)
 refine XO 10 rfl (jy A (#[u, A, a, c, j, (.int .i64 J)]) d rfl rfl sizeOf22 oc nb rfl (fun k2 d => ?_))
 have m := d.has.iU (Db (Dr (Db (Kb Sn))))
 refine ⟨⟨m, fun h => KH kr h⟩, (km kr (jb ?_))⟩
 replace d := d.iU (Kb (Kr (Db St)))
 refine jm (sg (VA d (Mt (Ma Mh)) (iX H) aS ak (bS hm fun c1 f1 hm => VE (pT d call52 (JP H _ _  f1) (fun k3 k5 k6 j9 d g4 ad e8 => ?_)))))
 let b8 := (c1.drop (Int.toNat 1))
 obtain ⟨g3, d, g7, af, f2⟩ := ST.yk d e8 lp
 refine bS hm fun _ b9 hm => VQ (Br (i := 1) al ag rfl rfl f2 (pc b9) (oZ b9)) (fun g1 b6 => V (jO al rfl b6.1) (Wm (ln (jG (fun i E W => ∃ a3 U P, (E 20 = .int .i64 (i : Nat) ∧ E 19 = .int .i64 (b8.length : Nat)) ∧ ST true (keys ((M, Ob #[u, D, a, c, j, (.int .i64 J)] 174) :: (G ++ (B ++ (I ++ (t ++ (y ++ []))))))) w W g3 ((M, Ob #[u, A, a, c, j, (.int .i64 J)] 174) :: ((b1, Ol (iX H) 108) :: (U ++ (b7 ++ (G ++ (t ++ (y ++ P))))))) ∧ E 0 = (.pointer (some ⟨M, 0, none⟩)) ∧ E 3 = (.pointer (some ⟨b1, 0, none⟩)) ∧ E 18 = g1 ∧ kB (fun (x : iR) => (.agg (iT x).toArray)) (jl 108 iX 9) a a3 U ∧ mX H K a5 (b8.drop i) a3 = some r) b8.length b6.1.len ⟨Y, I, _, ⟨rfl, rfl⟩, (d.iU (Kb (Sb (Pr Pz) (Sr (Qr (Qr Qz)) St)))), rfl, rfl, rfl, b2, hm⟩ dc dc dc (fun _ _ _ h => by obtain ⟨_, _, _, ab, _⟩ := h; exact ab) ?_ ?_))))
 ·rintro f3 E W d3 ⟨a3, U, P, ⟨eI, eN⟩, d, a2, N, b4, Z, g⟩
  obtain ⟨Q, h4, d8, d7, d9⟩ := jB d3
  rw [d8] at g
  refine bg (VQ (kk (enc := iT) (i := (f3 : Int)) (x0 := Q) al ag b4 eI b6.1 (ah _) d7) (fun j4 d4 => V (iW rfl (jX d.has d4 an ag)) (VE (jK d bo (fun i1 j0 d => VO (jy (.agg (iT Q).toArray) ((iT Q).toArray) d rfl rfl ag (lh Q) nb rfl (fun i2 d => ln ?_)))))))
  replace d := d.drew
  have m := d.has.iU (Kb (Kb (Kb Sn)))
  refine jV m jE (X 0 rfl m (jd a2) (X 1 rfl m (lb rfl) (X 2 rfl m (iY KY rfl) (XH 3 rfl m (fun _ p => iW rfl (jg p (Mt Mh) rfl isAgg171)) (XH 4 rfl m (fun _ p => iW rfl (jc p Mh (iT Q) rfl an ag)) (XH 5 rfl m (fun _ p => iW N (jc p (Mt (Mt Mh)) (iX H) rfl aS ak)) (XE 6 rfl (jS (cs := (iX H).toArray) d (ma rfl) (lV aG ak bw) (fun i3 e6 d => ?_)))))))))
  have m := d.has.iU (Db (Kb (Kb (Kb Sn))))
  refine ⟨m, ?_⟩
  obtain ⟨h1, d1⟩ := Z
  replace d := d.perm (Nr (Qb (Qb (Qb (Qb Qz)))) Nz)
  refine XE 7 rfl (LG (k := Q) (x0 := [])  jr yX underlying171 iO (jl.nil _ _ _) d d1 rfl rfl (fun i4 f5 h3 h6 e2 d c3 c2 => ?_))
  have m := d.has.iU (Dr (Dr (Db (Kb (Kb (Kb Sn))))))
  refine ⟨m, (X 8 rfl m (yO rfl rfl) (X 10 rfl m (yO rfl rfl) ?_))⟩
  replace d := d.perm (Nr (Qr Qz) Nz)
  refine bS g fun c0 c8 g => XE 9 rfl (kX (enc := iX) (v := f5) (vs := (.slice (some ⟨e6, 0, none⟩) 1 1)) (R := e2) d kU dc mx aG qe.1 qe.2.1 rfl qe.2.2.1 qe.2.2.2 rfl rfl c3 (Sl.lit (enc := iX) (l := [H]) kU rfl nb rfl (d.at_ (Ma (Ma Mh)))) c8 (fun i5 j5 h7 d c4 => ?_))
  have m := d.has.iU (Dr (Dr (Db (Kb (Kb (Kb Sn))))))
  refine ⟨m, ?_⟩
  replace d := d.perm (Nr (Qr Qz) Nz)
  refine XO 11 rfl (JI (e := 0) (z := c0)  jr yX d c2 rfl rfl rfl c4 (fun i6 h2 e3 d c5 => ?_))
  have m := d.has.iU (Dr (Db (Kb (Kb (Kb Sn)))))
  refine ⟨m, (km kr (jI (jb ?_)))⟩
  replace d := d.iU (Kr (Db (Db St)))
  exact ⟨eI, (lZ jh a3 Q c0), e3, _, ⟨rfl, eN⟩, (d.iU (Sb (Pr Pz) (Sb (Pr Pz) St))), a2, N, b4, c5.e, (by rw [d9]; exact g)⟩
 rintro E W ⟨a3, U, P, ⟨eI, eN⟩, d, a2, N, b4, Z, g⟩
 rw [ai] at g
 refine jb (sg (V (iY mT N) (VB d (Mt Mh) rfl rfl bF (Wi rfl (ln (CI g rfl (fun c9 g => ?_) (fun c9 g => ?_)))))))
 ·replace d := d.drew
  have m := d.has.iU (Kb (Kb Sn))
  have n := d.has.iU (Db (Db (Dr (Dr (Dr (Kr Sn))))))
  refine yK 15 m n jE (lO 0 rfl kr (.inl rfl) rfl dc (fun _ _ h => ⟨h.1, oO br h.2⟩) ⟨m, fun _ => n⟩ (fun _ _ _ _ => jd a2) (lO 1 rfl kr (.inl rfl) rfl dc (fun _ _ h => ⟨h.1, oO br h.2⟩) ⟨m, fun _ => n⟩ (fun _ _ _ _ => lb rfl) (lO 2 rfl kr (.inl rfl) rfl dc (fun _ _ h => ⟨h.1, oO br h.2⟩) ⟨m, fun _ => n⟩ (fun _ _ _ _ => iY GQ rfl) (lO 3 rfl kr (.inl rfl) rfl dc (fun _ _ h => ⟨h.1, oO br h.2⟩) ⟨m, fun _ => n⟩ (fun l W q s => have p := s.1; iW rfl (jg p Mh rfl isAgg172)) (lO 4 rfl kr (.inl rfl) rfl dc (fun _ _ h => ⟨h.1, oO br h.2⟩) ⟨m, fun _ => n⟩ (fun _ _ _ _ => iY pZ N) (lO 5 rfl kr (.inl rfl) rfl dc (fun _ _ h => ⟨h.1, oO br h.2⟩) ⟨m, fun _ => n⟩ (fun l W q s => have p := s.1; iW rfl (jg p (Mt Mh) rfl aH)) (lO 6 rfl kr (.inl rfl) rfl dc (fun _ _ h => ⟨h.1, oO br h.2⟩) ⟨m, fun _ => n⟩ (fun _ _ _ _ => jd a2) (lO 7 rfl kr (.inl rfl) rfl dc (fun _ _ h => ⟨h.1, oO br h.2⟩) ⟨m, fun _ => n⟩ (fun _ _ _ _ => lb rfl) (lO 8 rfl kr (.inl rfl) rfl dc (fun _ _ h => ⟨h.1, oO br h.2⟩) ⟨m, fun _ => n⟩ (fun _ _ _ _ => iY GQ rfl) (lO 9 rfl kr (.inl rfl) rfl dc (fun _ _ h => ⟨h.1, oO br h.2⟩) ⟨m, fun _ => n⟩ (fun l W q s => have p := s.1; iW rfl (jg p Mh rfl isAgg172)) (lO 10 rfl kr (.inl rfl) rfl dc (fun _ _ h => ⟨h.1, oO br h.2⟩) ⟨m, fun _ => n⟩ (fun _ _ _ _ => iY pZ N) (lO 11 rfl kr (.inl rfl) rfl dc (fun _ _ h => ⟨h.1, oO br h.2⟩) ⟨m, fun _ => n⟩ (fun l W q s => have p := s.1; iW rfl (jg p (Mt Mh) rfl aH)) ?_))))))))))))
  obtain ⟨e0, L⟩ := T
  obtain ⟨h8, g8, g9⟩ := ll.rowAt kG.1 L H.jU
  refine lO 12 rfl kr (.inl rfl) rfl dc (fun _ _ h => ⟨h.1, oO br h.2⟩) ⟨m, fun _ => n⟩ (fun l W q s => have p := (s.2 (q.Ny 15 [12] kr rfl)); nG (k := H.jU) (z := (.slice none 0 0)) Gc underlying172 iO rfl rfl L (fun b o hq => p.2 b o (Ml hq))) (lO 13 rfl kr (.inl rfl) rfl dc (fun _ _ h => ⟨h.1, oO br h.2⟩) ⟨m, fun _ => n⟩ (fun l W q s => have p := s.1; iW N (jc p (Mt Mh) (iX H) rfl aS ak)) (XE 14 rfl (jS (cs := (iX H).toArray) d (ma rfl) (lV aG ak bw) (fun i7 e7 d => ?_))))
  have m := d.has.iU (Db (Kb (Kb Sn)))
  have n := d.has.iU (Db (Db (Db (Dr (Dr (Dr (Kr Sn)))))))
  refine ⟨⟨m, fun _ => n⟩, ?_⟩
  replace d := d.perm (Nr (Qb (Qb (Qb (Qr (Qr (Qr Qz)))))) Nz)
  obtain ⟨h9, e4, d5, d6, d2⟩ := ll.open kG.1 (jl.nil _ _ _) L H.jU
  replace d := d.perm (To d5)
  replace d := d.perm (Nr (Qr Qz) Nz)
  refine bS g fun f4 d0 g => XE 15 rfl (kX (enc := iX) (v := (qk kc e0 H.jU (.slice none 0 0))) (vs := (.slice (some ⟨e7, 0, none⟩) 1 1)) (R := e4) d kU dc mx aG qe.1 qe.2.1 rfl qe.2.2.1 qe.2.2.2 rfl rfl d6 (Sl.lit (enc := iX) (l := [H]) kU rfl nb rfl (d.at_ (Ma (Ma Mh)))) d0 (fun i8 j6 i0 d c6 => ?_))
  have m := d.has.iU (Dr (Dr (Db (Kb (Kb Sn)))))
  refine ⟨⟨m, fun h => KH kr h⟩, ?_⟩
  replace d := d.perm (Nr (Qr Qz) Nz)
  refine XO 16 rfl (Qs (k := H.jU) (z := f4)  Gc underlying172 d d2 rfl rfl rfl c6 (fun i9 e5 d c7 => ?_))
  have m := d.has.iU (Dr (Db (Kb (Kb Sn))))
  refine ⟨⟨m, fun h => KH kr h⟩, (km kr (tG ?_))⟩
  obtain rfl := sj g
  exact sI rfl ⟨_, _, rfl, (d.kC (Sb (Pr (Pb Pz)) (Sr (Qr (Qb (Qb (Qr (Qr Qz))))) (Sr (Qr (Qb (Qb (Qr Qz)))) (Sr (Qr (Qb (Qb Qz))) (Kr (Db (Db (Kr Sn))))))))), A, b7, U, e5, rfl, rfl, b5, Z, c7.e⟩
 refine jJ (tG ?_)
 obtain rfl := sj g
 exact sI rfl ⟨_, _, rfl, (d.kC (Kb (Db (Sr (Qr (Qr Qz)) (Sr (Qr Qz) (Kr (Kr (Kr Sn)))))))), A, b7, U, t, rfl, rfl, b5, Z, T⟩
theorem pI (J : Nat) (g : Value) (a0 : List (iR × (List (ByteArray × Bool)))) (D : LO) (a : Value) (M : List iS) (u : LO) (j : Value) (Z : List (iR × (List iS))) (B : LO) (c : Value) (N : List (ByteArray × (List iS))) (y : LO) (i : Value) (Y : List iV) (t : LO) (H : Int) (G : iR) (U : ByteArray) (r : ((List (iR × (List (ByteArray × Bool)))) × (List iV) × Int)) (w : World) {μ0 : jw} (h0 : nR μ0 ((J, Ob #[g, a, j, c, i, (.int .i64 H)] 174) :: (D ++ (u ++ (B ++ (y ++ (t ++ [])))))) w) (a5 : kB (fun (x : iR) => (.agg (iT x).toArray)) (kl Value.string (fun (x : Bool) => (Value.bool x))) g a0 D) (b5 : jl 108 iX 9 a M u) (c3 : kB (fun (x : iR) => (.agg (iT x).toArray)) (jl 108 iX 9) j Z B) (b6 : kB Value.string (jl 108 iX 9) c N y) (K : oA 38 je 3 i Y t) (hm : mn a0 M Z N Y H G U = some r) :
  jY true pg0 209 [(.pointer (some ⟨J, 0, none⟩)), (.agg (iT G).toArray), (.string U)] w ((J, Ob #[g, a, j, c, i, (.int .i64 H)] 174) :: (D ++ (u ++ (B ++ (y ++ (t ++ [])))))) (fun v L1 W' => ∃ S1 y3 S4, v = (.tuple #[]) ∧ L1 = ((J, Ob #[g, a, j, c, y3, (.int .i64 (r.2.2))] 174) :: (S1 ++ (u ++ (B ++ (y ++ (S4 ++ [])))))) ∧ kB (fun (x : iR) => (.agg (iT x).toArray)) (kl Value.string (fun (x : Bool) => (Value.bool x))) g r.1 S1 ∧ oA 38 je 3 y3 r.2.1 S4) := by
 let a1 := (#[g, a, j, c, i, (.int .i64 H)] : Array Value)
 refine wJ h0 53 func209 rfl (fun m => sg (VE (jF m rfl (fun W2 b1 m => ln (jm (jm ?_))))))
 replace m := m.drew
 have d := m.has.iU (Kb (Kb (Kr Sn)))
 refine jV d jE (X 0 rfl d (jd rfl) (X 1 rfl d (lb rfl) (X 2 rfl d (iY vV rfl) (XH 3 rfl d (fun _ p => iW rfl (jg p (Mt Mh) rfl gd)) (XH 4 rfl d (fun _ p => iW rfl (jc p Mh (iT G) rfl an ag)) ?_)))))
 obtain ⟨f4, Q⟩ := a5
 refine XH 5 rfl d (fun _ p => nG (k := G) (z := (.map none)) yX dg dI rfl rfl Q (fun b o A => p.2 b o (Mt (Mt (Ml A))))) (X 6 rfl d (jd rfl) (XH 7 rfl d (fun _ p => uu (k := U) (z := false) (vf := (fun (x : Bool) => (Value.bool x))) Gc dR eV rfl rfl (ll.Cq (μ := hp _) jr.1 Q G (fun b o A => p.2 b o (Mt (Mt (Ml A)))))) (km kr (jb (CI hm rfl (fun d5 hm => ?_) (fun d5 hm => ?_))))))
 ·refine jz (jx ?_)
  obtain rfl := sj hm
  exact sI rfl ⟨_, _, rfl, (m.kC (Db (Kb (Kr (Kr (Kr (Kr (Kr Sn)))))))), D, i, t, rfl, rfl, Q.e, K⟩
 refine kn (jm (CJ hm (fun b2 E W => ∃ a8 c0, ST true (keys ((J, Obj.cells a1 174 (0, 0)) :: (D ++ (u ++ (B ++ (y ++ (t ++ []))))))) w W μ0 ((b1, Ol (iT G) 28) :: ((J, Obj.cells a1 174 (0, 0)) :: (a8 ++ (u ++ (B ++ (y ++ (t ++ c0))))))) ∧ E 0 = (.pointer (some ⟨J, 0, none⟩)) ∧ E 2 = (.string U) ∧ E 4 = (.pointer (some ⟨b1, 0, none⟩)) ∧ kB (fun (x : iR) => (.agg (iT x).toArray)) (kl Value.string (fun (x : Bool) => (Value.bool x))) g b2 a8) (fun b2 I => ?_) ?_))
 ·refine jm ?_
  replace m := m.drew
  have d := m.has.iU (Kb (Kb (Kr Sn)))
  refine jV d jE (X 0 rfl d (jd rfl) (X 1 rfl d (lb rfl) (X 2 rfl d (iY vV rfl) (XH 3 rfl d (fun _ p => iW rfl (jg p (Mt Mh) rfl gd)) (XH 4 rfl d (fun _ p => iW rfl (jc p Mh (iT G) rfl an ag)) (XH 5 rfl d (fun _ p => nG (k := G) (z := (.map none)) yX dg dI rfl rfl Q (fun b o A => p.2 b o (Mt (Mt (Ml A))))) (X 6 rfl d (J8 jr.1 dR Q rfl rfl) (km kr (jb (CI I rfl (fun b7 I => ?_) (fun b7 I => ?_)))))))))))
  ·replace m := m.drew
   have d := m.has.iU (Kb (Kb Sn))
   refine jV d jE (X 0 rfl d (jd rfl) (X 1 rfl d (lb rfl) (X 2 rfl d (iY vV rfl) (XH 3 rfl d (fun _ p => iW rfl (jg p (Mt Mh) rfl gd)) (XH 4 rfl d (fun _ p => iW rfl (jc p Mh (iT G) rfl an ag)) (XE 5 rfl (AL (P := pg0) Value.string (fun (x : Bool) => (Value.bool x)) m (fun e1 e7 d9 m b3 => ?_))))))))
   have d := m.has.iU (Dr (Kb (Kb Sn)))
   refine ⟨d, ?_⟩
   replace m := m.perm (Nr (Qr (Qb (Qb Qz))) Nz)
   refine bS I fun e4 b9 I => XO 6 rfl (NO (k := G) (z := ([]))  yX dg m Q rfl rfl rfl b3 b9 (fun e2 c4 m b4 => ?_))
   have d := m.has.iU (Dr (Kb (Kb Sn)))
   refine ⟨d, (km kr (jb ?_))⟩
   obtain rfl := sj I
   exact ⟨c4, _, (m.iU (Sb (Pr Pz) (Sb (Pr Pz) St))), rfl, rfl, rfl, b4.e⟩
  refine kn ?_
  obtain rfl := sj I
  exact ⟨D, _, (m.iU St), rfl, rfl, rfl, Q.e⟩
 rintro f2 E W ⟨a8, c0, m, L, c1, c2, c8⟩ T
 refine jm ?_
 replace m := m.drew
 have d := m.has.iU (Kb (Kb Sn))
 have n := m.has.iU (Db (Db (Kr Sn)))
 refine yK 7 d n jE (lO 0 rfl kr (.inl rfl) rfl dc (fun _ _ h => ⟨h.1, oO br h.2⟩) ⟨d, fun _ => n⟩ (fun _ _ _ _ => jd L) (lO 1 rfl kr (.inl rfl) rfl dc (fun _ _ h => ⟨h.1, oO br h.2⟩) ⟨d, fun _ => n⟩ (fun _ _ _ _ => lb rfl) (lO 2 rfl kr (.inl rfl) rfl dc (fun _ _ h => ⟨h.1, oO br h.2⟩) ⟨d, fun _ => n⟩ (fun _ _ _ _ => iY vV rfl) (lO 3 rfl kr (.inl rfl) rfl dc (fun _ _ h => ⟨h.1, oO br h.2⟩) ⟨d, fun _ => n⟩ (fun l W q s => have p := s.1; iW rfl (jg p (Mt Mh) rfl gd)) (lO 4 rfl kr (.inl rfl) rfl dc (fun _ _ h => ⟨h.1, oO br h.2⟩) ⟨d, fun _ => n⟩ (fun l W q s => have p := s.1; iW c2 (jc p Mh (iT G) rfl an ag)) ?_)))))
 obtain ⟨e5, a9⟩ := c8
 refine lO 5 rfl kr (.inl rfl) rfl dc (fun _ _ h => ⟨h.1, oO br h.2⟩) ⟨d, fun _ => n⟩ (fun l W q s => have p := (s.2 (q.Ny 7 [5] kr rfl)); nG (k := G) (z := (.map none)) yX dg dI rfl rfl a9 (fun b o A => p.2 b o (Ml A))) (lO 6 rfl kr (.inl rfl) rfl dc (fun _ _ h => ⟨h.1, oO br h.2⟩) ⟨d, fun _ => n⟩ (fun _ _ _ _ => jd c1) ?_)
 replace m := m.perm (Nr (Qb (Qb Qz)) Nz)
 refine bS T fun f3 c7 T => XO 7 rfl (Mx (k := G) (v := true) (vf := (fun (x : Bool) => (Value.bool x)))  jr.1 Gc dR m a9 rfl rfl rfl c7 (fun e8 c9 m c5 => ?_))
 have d := m.has.iU (Dr (Kb (Kb Sn)))
 refine ⟨⟨d, fun h => KH kr h⟩, (km kr (jb (sg (Wh L (Wn (Wf Eh (VB m (Ma (Mt Mh)) rfl rfl bF (Wi rfl (Wn (Wf Eh ?_))))))))))⟩
 replace m := m.perm (Nb (Pr (Pb Pz)) Nz)
 refine VO (jy (.int .i64 (wi0 .i64 (H + 1))) (#[g, a, j, c, i, (.int .i64 (wi0 .i64 (H + 1)))]) m rfl rfl fS (Fw _ (wi0 .i64 (H + 1))) nb rfl (fun e9 m => ln ?_))
 replace m := m.drew
 have d := m.has.iU (Db (Dr (Kb Sn)))
 have n := m.has.iU (Kb Sn)
 refine yK 12 d n jE (lO 0 rfl kr (.inl rfl) rfl dc (fun _ _ h => ⟨h.1, oO br h.2⟩) ⟨d, fun _ => n⟩ (fun _ _ _ _ => jd L) (lO 1 rfl kr (.inl rfl) rfl dc (fun _ _ h => ⟨h.1, oO br h.2⟩) ⟨d, fun _ => n⟩ (fun _ _ _ _ => jd L) (lO 2 rfl kr (.inl rfl) rfl dc (fun _ _ h => ⟨h.1, oO br h.2⟩) ⟨d, fun _ => n⟩ (fun _ _ _ _ => lb rfl) (lO 3 rfl kr (.inl rfl) rfl dc (fun _ _ h => ⟨h.1, oO br h.2⟩) ⟨d, fun _ => n⟩ (fun _ _ _ _ => iY zW rfl) (lO 4 rfl kr (.inl rfl) rfl dc (fun _ _ h => ⟨h.1, oO br h.2⟩) ⟨d, fun _ => n⟩ (fun l W q s => have p := (s.2 (q.Ny 12 [4] kr rfl)); iW rfl (jg p Mh rfl isAgg120)) (lO 5 rfl kr (.inl rfl) rfl dc (fun _ _ h => ⟨h.1, oO br h.2⟩) ⟨d, fun _ => n⟩ (fun l W q s => have p := s.1; iW c2 (jc p Mh (iT G) rfl an ag)) (lO 6 rfl kr (.inl rfl) rfl dc (fun _ _ h => ⟨h.1, oO br h.2⟩) ⟨d, fun _ => n⟩ (fun _ _ _ _ => jd c1) (lO 7 rfl kr (.inl rfl) rfl dc (fun _ _ h => ⟨h.1, oO br h.2⟩) ⟨d, fun _ => n⟩ (fun _ _ _ _ => kT (v := (.agg (je (⟨G, U⟩ : iV)).toArray)) (nz rfl rfl) (ku bW bl (Be _ bl) kr)) (XE 8 rfl (jS (cs := (je (⟨G, U⟩ : iV)).toArray) m (ma rfl) (lV bj bf bW) (fun f0 d4 m => ?_)))))))))))
 have d := m.has.iU (Db (Db (Dr (Kb Sn))))
 have n := m.has.iU (Db (Kb Sn))
 refine ⟨⟨d, fun _ => n⟩, ?_⟩
 replace m := m.perm (Nr (Qb (Qb (Qr (Qb (Qr (Qr (Qr Qz))))))) Nz)
 refine bS T fun b0 c6 T => XE 9 rfl (Kd (enc := je) (v := i) (vs := (.slice (some ⟨d4, 0, none⟩) 1 1)) (R := t) m lJ dc uW bj pt.1 pt.2.1 rfl pt.2.2.1 pt.2.2.2 rfl rfl K (Sl.lit (enc := je) (l := [(⟨G, U⟩ : iV)]) lJ rfl nb rfl (m.at_ (Ma Mh))) c6 (fun f1 e6 d0 m a7 => ?_))
 have d := m.has.iU (Dr (Db (Db (Dr (Kb Sn)))))
 have n := m.has.iU (Dr (Db (Kb Sn)))
 refine ⟨⟨d, fun _ => n⟩, (lO 10 rfl kr (.inl rfl) rfl dc (fun _ _ h => ⟨h.1, oO br h.2⟩) ⟨d, fun _ => n⟩ (fun _ _ _ _ => lb rfl) (lO 11 rfl kr (.inl rfl) rfl dc (fun _ _ h => ⟨h.1, oO br h.2⟩) ⟨d, fun _ => n⟩ (fun _ _ _ _ => iY zW rfl) ?_))⟩
 obtain ⟨a3, a4, rfl⟩ := a7.form
 let a2 : Value := (.slice a3 b0.length a4)
 replace m := m.perm (Nb (Pr (Pb Pz)) Nz)
 refine XO 12 rfl (jy a2 (#[g, a, j, c, a2, (.int .i64 (wi0 .i64 (H + 1)))]) m rfl rfl sizeOf120 oc nb rfl (fun e0 m => ?_))
 have d := m.has.iU (Db (Dr (Db (Dr (Kb Sn)))))
 refine ⟨⟨d, fun h => KH kr h⟩, (km kr (tG ?_))⟩
 obtain rfl := sj T
 exact sI rfl ⟨_, _, rfl, (m.kC (Kb (Sr (Qr (Qb Qz)) (Sr (Qr (Qb (Qb Qz))) (Sr (Qr (Qb (Qb Qz))) (Sr (Qr (Qb (Qb Qz))) (Kr Sn))))))), c9, a2, d0, rfl, rfl, c5.e, a7⟩
theorem uN (a : Value) (g : List (ByteArray × Bool)) (r : Unit) (w : World) (c : tX Value.string (fun (x : Bool) => (Value.bool x)) (hp w) a g) (hm : np g = some r) :
  jY true pg0 120 [a] w [] (fun v k W' => ∃ i, v = (.func (.func 183) #[] #[(.pointer (some ⟨i, 0, none⟩))]) ∧ k = ((i, Ob #[a] 175) :: [])) := by
 refine tS 4 func120 rfl (fun d => sg ?_)
 obtain ⟨t, rfl⟩ := c.form
 refine VE (jF d rfl (fun u j d => Wa (lr (V (si (by exact nr rfl) rfl) (Wa (lt ?_))))))
 obtain rfl := sj hm
 exact jR (v := (.func (.func 183) #[] #[(.pointer (some ⟨j, 0, none⟩))])) rfl rfl ⟨_, _, rfl, (d.I4 (Kb Sn)), j, rfl, rfl⟩
theorem GJ {β : Type} {vf : β → Value} {l : List (ByteArray × β)} {b : Nat} {a : Value} {W : World} {r : List ByteArray} (c : W.heap[b]? = some (.cells #[a] 175 (0, 0))) (hm : tX Value.string vf (hp W) a l) (hk : FF l = some r) : jZ false pg0 119 [.func (.func 183) #[] #[.pointer (some ⟨b, 0, none⟩)]] W 9 lE 1 r := JT (P := pg0) PD Qd NN rfl aU call183 call182 c hm hk
theorem xm (T : Nat) (a : Value) (u : List (iR × (List (ByteArray × Bool)))) (c : Value) (t : List iS) (j : Value) (G : List (iR × (List iS))) (g : Value) (B : List (ByteArray × (List iS))) (i : Value) (D : List iV) (Q : Int) (H : iR) (r : List ByteArray) (w : World) (J : qZ (fun (x : iR) => (.agg (iT x).toArray)) (kl Value.string (fun (x : Bool) => (Value.bool x))) (hp w) a u) (Z : Sl (Pl iX) 9 (hp w) c t) (a4 : qZ (fun (x : iR) => (.agg (iT x).toArray)) (jl 108 iX 9) (hp w) j G) (a0 : qZ Value.string (jl 108 iX 9) (hp w) g B) (a3 : Sl (Pl je) 3 (hp w) i D) (Y : At (hp w) (.pointer (some ⟨T, 0, none⟩)) [a, c, j, g, i, (.int .i64 Q)]) (hm : pv u t G B D Q H = some r) :
  jZ false pg0 53 [(.pointer (some ⟨T, 0, none⟩)), (.agg (iT H).toArray)] w 9 lE 1 r := by
 refine tS 15 func53 rfl (fun d => sg (VE (jF d rfl (fun W2 b1 d => Wa (lS (Wm (V (qS underlying101 rfl rfl) (ln (nW rfl ?_)))))))))
 refine kn (jm ?_)
 replace d := d.drew
 have h := d.has.iU (Kb Sn)
 refine jV h jE (X 0 rfl h (jd rfl) (X 1 rfl h (lb rfl) (XQ 2 rfl h (vK [a] vV rfl Y rfl) (fun b9 E => XH 3 rfl h (fun _ m => iW rfl (lC m (y := a) E gd)) (XH 4 rfl h (fun _ m => iW rfl (jc m Mh (iT H) rfl an ag)) ?_)))))
 obtain ⟨a9, b4, K, M⟩ := J
 refine XH 5 rfl h (fun _ m => nG (k := H) (z := (.map none)) yX dg dI rfl rfl K (fun b o n => m.1 b o (M b o n))) (bS hm fun c0 L hm => ?_)
 refine XE 6 rfl (F0 d (cP _) call120 (fun _ _ _ _ => jY.kw (uN (qk jh a9 H (.map none)) ((ki jh u H).getD []) _ _ ((ll.Cq jr.1 K H M).mono d.jf) L)) (fun b5 c2 c3 b3 d I s q a5 => ?_) (L0 := []))
 obtain ⟨b7, N, rfl⟩ := a5
 replace N := N.symm; subst N
 replace d := d.perm (Tb Tn)
 have h := d.has.pO I (Db (Kb Sn))
 refine ⟨h, (bS hm fun c1 P hm => XE 7 rfl (pT d call119 (GJ (vf := (fun (x : Bool) => (Value.bool x))) (d.has.2 _ _ Mh) ((ll.Cq jr.1 K H M).mono (fun b o n => d.has.1 b o (I b o n))) P) (fun b6 W c4 R d a2 A U => ?_)))⟩
 have h := d.has.pO (I.trans a2) (Dr (Db (Kb Sn)))
 refine ⟨h, (X 8 rfl h (mw rfl) (km kr (jb ?_)))⟩
 replace d := d.iU (Kr (Db (Db St)))
 refine jz ?_
 obtain rfl := sj hm
 exact jR (v := W) rfl rfl ⟨_, R, rfl, d.ly (fun p n => (Ml n)) U.nd, U⟩
theorem C7 (K : Nat) (g : Value) (N : List (iR × (List (ByteArray × Bool)))) (G : LO) (a : Value) (H : List iS) (k : LO) (j : Value) (J : List (iR × (List iS))) (u : LO) (c : Value) (I : List (ByteArray × (List iS))) (t : LO) (z : Value) (M : List iV) (B : LO) (Z : Int) (L a2 : iR) (r : ((List (iR × (List (ByteArray × Bool)))) × (List iV) × Int)) (w : World) {μ0 : jw} (h0 : nR μ0 ((K, Ob #[g, a, j, c, z, (.int .i64 Z)] 174) :: (G ++ (k ++ (u ++ (t ++ (B ++ [])))))) w) (a5 : kB (fun (x : iR) => (.agg (iT x).toArray)) (kl Value.string (fun (x : Bool) => (Value.bool x))) g N G) (Q : jl 108 iX 9 a H k) (a4 : kB (fun (x : iR) => (.agg (iT x).toArray)) (jl 108 iX 9) j J u) (T : kB Value.string (jl 108 iX 9) c I t) (a3 : oA 38 je 3 z M B) (hm : sP N H J I M Z L a2 = some r) :
  jY false pg0 252 [(.pointer (some ⟨K, 0, none⟩)), (.agg (iT L).toArray), (.agg (iT a2).toArray)] w ((K, Ob #[g, a, j, c, z, (.int .i64 Z)] 174) :: (G ++ (k ++ (u ++ (t ++ (B ++ [])))))) (fun v L1 W' => ∃ S1 y3 S4, v = (.tuple #[]) ∧ L1 = ((K, Ob #[g, a, j, c, y3, (.int .i64 (r.2.2))] 174) :: (S1 ++ (k ++ (u ++ (t ++ (S4 ++ [])))))) ∧ kB (fun (x : iR) => (.agg (iT x).toArray)) (kl Value.string (fun (x : Bool) => (Value.bool x))) g r.1 S1 ∧ oA 38 je 3 y3 r.2.1 S4) := by
 refine wJ h0 21 func252 rfl (fun d => sg (VE (jF d rfl (fun W2 b1 d => VE (jF d rfl (fun W4 b3 d => lr (Wm (VA d (Mt Mh) (iT L) an ag (bS hm fun r5 e6 hm => VE (pT d call53 (xm K g N a H j J c I z M Z L _ _ (a5.at (fun b o m => d.at_ (Mt (Mt (Mt (Ml m)))))) (Q.sl kU (fun b o m => d.at_ (Mt (Mt (Mt (Ma (Ml m))))))) (a4.at (fun b o m => d.at_ (Mt (Mt (Mt (Ma (Ma (Ml m)))))))) (T.at (fun b o m => d.at_ (Mt (Mt (Mt (Ma (Ma (Ma (Ml m))))))))) ((a3.DJ lJ).mono (Pl.mono _) (yN (fun b o m => d.at_ (Mt (Mt (Mt (Ma (Ma (Ma (Ma (Ml m))))))))))) (At.of (d.at_ (Mt (Mt Mh))) _ rfl) e6) (fun W7 e7 A e2 d f5 ao a9 => V (lT aT rfl a9) (Wm ?_))))))))))))
 refine ln ?_
 replace d := d.iU (Kr (Kb (Db St)))
 refine yi (jG (fun i E W => ∃ n U a0 q Y s P b7, (E 12 = .int .i64 (i : Nat) ∧ E 11 = .int .i64 (r5.length : Nat)) ∧ js A P ∧ ST false (keys ((K, Ob #[g, a, j, c, z, (.int .i64 Z)] 174) :: (G ++ (k ++ (u ++ (t ++ (B ++ []))))))) w W P ((K, Ob #[g, a, j, c, a0, (.int .i64 s)] 174) :: ((b3, Ol (iT a2) 28) :: (U ++ (k ++ (u ++ (t ++ (Y ++ (e2 ++ b7)))))))) ∧ E 0 = (.pointer (some ⟨K, 0, none⟩)) ∧ E 5 = (.pointer (some ⟨b3, 0, none⟩)) ∧ E 10 = e7 ∧ kB (fun (x : iR) => (.agg (iT x).toArray)) (kl Value.string (fun (x : Bool) => (Value.bool x))) g n U ∧ oA 38 je 3 a0 q Y ∧ oM H J I a2 (r5.drop i) n q s = some r) r5.length a9.len ⟨N, G, z, M, B, Z, A, _, ⟨rfl, rfl⟩, (js.refl _), (d.iU (Sb (Pr (Pb Pz)) (Sb (Pr Pz) (Sr (Qr Qz) (Sr (Qr Qz) (Sr (Qr Qz) (Sr (Qr Qz) (Sr (Qr Qz) St)))))))), rfl, rfl, rfl, a5, a3, hm⟩ dc dc dc (fun _ _ _ h => by obtain ⟨_, _, _, _, _, _, _, _, ab, _⟩ := h; exact ab) ?_ ?_)
 ·rintro d8 E W c9 ⟨n, U, a0, q, Y, s, P, b7, ⟨eI, eN⟩, b6, d, c0, c1, c2, R, b2, D⟩
  obtain ⟨c4, f0, d2, c5, d3⟩ := jB c9
  rw [d2] at D
  refine bg (VQ (kY (i := (d8 : Int)) (x0 := c4) aT cx c2 eI a9 (ah _) c5) (fun f6 d0 => V (iW rfl (tI d.has (fun p m => (Mt (Mt (Ma (Ma (Ma (Ma (Ma (Ml m))))))))) a9 (fun _ => rfl) d0 c5 (y := (.string c4)) rfl aH)) (Wa (ln (jj (Wh c0 (V (iW c1 (jc d.has (Mt Mh) (iT a2) rfl an ag)) (Wm (bS D fun c3 d1 D => ?_)))))))))
  refine VE (eM d (Cb Pz (Cr (Qb Qz) (Cr (Qb Qz) (Cr (Qb Qz) (Cr (Qb Qz) (Cr (Qb Qz) Cn)))))) call209 (fun hh _ => jY.kw (pI K g n U a H k j J u c I t a0 q Y s a2 c4 _ _ hh R Q a4 T b2 d1)) ?_)
  rintro _ f7 e1 f2 d c7 ad af ⟨d6, e0, d7, b4, rfl, d4, d5⟩
  obtain rfl := b4.symm
  replace d := d.perm (Tb (Tr (Tr (Tr (Tr (Tr Tn))))))
  exact jC (jI (jb ⟨eI, c3.1, d6, e0, c3.2.1, d7, c3.2.2, e1, _, ⟨rfl, eN⟩, (b6.trans c7), (d.iU (Kb (Sb (Pr (Pr (Pr (Pr (Pr Pz))))) St))), c0, c1, c2, d4, d5, (by rw [d3]; exact D)⟩))
 rintro E W ⟨n, U, a0, q, Y, s, P, b7, ⟨eI, eN⟩, b6, d, c0, c1, c2, R, b2, D⟩
 rw [ai] at D
 refine jb ?_
 replace d := d.iU (Kb (Db (Kr (Kr (Kr (Kr (Kr (Dr St))))))))
 refine tG ?_
 obtain rfl := sj D
 exact sI rfl ⟨_, _, rfl, (d.kC (Kb (Kr (Kr (Kr (Kr (Kr Sn))))))), U, a0, Y, rfl, rfl, R, b2⟩
theorem yf (K : Nat) (G : Value) (Z : List (iR × (List (ByteArray × Bool)))) (D : LO) (g : Value) (I : List iS) (a : LO) (B : Value) (N : List (iR × (List iS))) (y : LO) (i : Value) (J : List (ByteArray × (List iS))) (c : LO) (t : Value) (M : List iV) (j : LO) (a0 : Int) (Q : iS) (a2 : iV) (r : ((List (iR × (List (ByteArray × Bool)))) × (List iV) × Int)) (w : World) {μ0 : jw} (h0 : nR μ0 ((K, Ob #[G, g, B, i, t, (.int .i64 a0)] 174) :: (D ++ (a ++ (y ++ (c ++ (j ++ [])))))) w) (U : kB (fun (x : iR) => (.agg (iT x).toArray)) (kl Value.string (fun (x : Bool) => (Value.bool x))) G Z D) (T : jl 108 iX 9 g I a) (a3 : kB (fun (x : iR) => (.agg (iT x).toArray)) (jl 108 iX 9) B N y) (Y : kB Value.string (jl 108 iX 9) i J c) (H : oA 38 je 3 t M j) (hm : qn Z I N J M a0 Q a2 = some r) :
  jY false pg0 210 [(.pointer (some ⟨K, 0, none⟩)), (.agg (iX Q).toArray), (.agg (je a2).toArray)] w ((K, Ob #[G, g, B, i, t, (.int .i64 a0)] 174) :: (D ++ (a ++ (y ++ (c ++ (j ++ [])))))) (fun v L1 W' => ∃ S1 y3 S4, v = (.tuple #[]) ∧ L1 = ((K, Ob #[G, g, B, i, y3, (.int .i64 (r.2.2))] 174) :: (S1 ++ (a ++ (y ++ (c ++ (S4 ++ [])))))) ∧ kB (fun (x : iR) => (.agg (iT x).toArray)) (kl Value.string (fun (x : Bool) => (Value.bool x))) G r.1 S1 ∧ oA 38 je 3 y3 r.2.1 S4) := by
 let A := (#[G, g, B, i, t, (.int .i64 a0)] : Array Value)
 refine wJ h0 57 func210 rfl (fun d => sg (VE (jF d rfl (fun W2 L d => VE (jF d rfl (fun W4 R d => lr (Wf mT (VB d (Mt Mh) rfl rfl bF (ln (lc (jm ?_)))))))))))
 refine jj (Wi rfl (Wa (ln (CI hm rfl (fun e5 hm => ?_) (fun e5 hm => ?_)))))
 ·refine jj (Wm (Wf mY (VA d (Mt Mh) (iT Q.Head) an ag (Wf pU (VB d Mh rfl rfl aH (bS hm fun r6 e6 hm => ?_))))))
  refine VE (eM d (Cb (Pb (Pb Pz)) (Cr (Qb (Qb Qz)) (Cr (Qb (Qb Qz)) (Cr (Qb (Qb Qz)) (Cr (Qb (Qb Qz)) (Cr (Qb (Qb Qz)) Cn)))))) call209 (fun s _ => jY.kw (pI K G Z D g I a B N y i J c t M j a0 Q.Head a2.jA _ _ s U T a3 Y H e6)) ?_)
  rintro _ g7 af f8 d f2 a6 n ⟨d2, e7, d3, a8, rfl, c5, c6⟩
  obtain rfl := a8.symm
  replace d := d.perm (Tb (Tr (Tr (Tr (Tr (Tr Tn))))))
  refine jC (jI (tG ?_))
  obtain rfl := sj hm
  exact sI rfl ⟨_, _, rfl, (d.kC (Kb (Kr (Kr (Kr (Kr (Kr Sn))))))), d2, e7, d3, rfl, rfl, c5, c6⟩
 refine sg (Wi rfl (Wa (ln (CI hm rfl (fun c0 hm => ?_) (fun c0 hm => ?_)))))
 ·refine jj (Wm (Wf pU (VB d Mh rfl rfl aH (Wf pZ (VB d (Mt Mh) rfl rfl aH (V (kT (v := (.agg (iT (⟨a2.jA, Q.jU⟩ : iR)).toArray)) (nz rfl rfl) (ku bo bB (DE _ bB) kr)) (Wf mY (VA d (Mt Mh) (iT Q.Head) an ag (bS hm fun g3 c3 hm => ?_)))))))))
  refine VE (eM d (Cb (Pb (Pb Pz)) (Cr (Qb (Qb Qz)) (Cr (Qb (Qb Qz)) (Cr (Qb (Qb Qz)) (Cr (Qb (Qb Qz)) (Cr (Qb (Qb Qz)) Cn)))))) call252 (fun s _ => (C7 K G Z D g I a B N y i J c t M j a0 (⟨a2.jA, Q.jU⟩ : iR) Q.Head _ _ s U T a3 Y H c3)) ?_)
  rintro _ g8 h2 f9 d f3 ab n ⟨d4, e9, d5, a9, rfl, c7, c8⟩
  obtain rfl := a9.symm
  replace d := d.perm (Tb (Tr (Tr (Tr (Tr (Tr Tn))))))
  refine jC (jI (tG ?_))
  obtain rfl := sj hm
  exact sI rfl ⟨_, _, rfl, (d.kC (Kb (Kr (Kr (Kr (Kr (Kr Sn))))))), d4, e9, d5, rfl, rfl, c7, c8⟩
 refine sg (Wi rfl (Wa (ln (CI hm rfl (fun c1 hm => ?_) (fun c1 hm => ?_)))))
 ·refine jm ?_
  replace d := d.drew
  have h := d.has.iU (Kb (Kb (Kb (Kr Sn))))
  refine jV h jE (X 0 rfl h (jd rfl) (X 1 rfl h (lb rfl) (X 2 rfl h (iY vV rfl) (XH 3 rfl h (fun _ m => iW rfl (jg m (Mt (Mt Mh)) rfl gd)) (X 4 rfl h (iY kK rfl) (XH 5 rfl h (fun _ m => iW rfl (jc m (Mt Mh) (iT Q.B) rfl an ag)) ?_))))))
  obtain ⟨f7, a5⟩ := U
  refine XH 6 rfl h (fun _ m => nG (k := Q.B) (z := (.map none)) yX dg dI rfl rfl a5 (fun b o p => m.2 b o (Mt (Mt (Mt (Ml p)))))) (X 7 rfl h (iY pU rfl) (XH 8 rfl h (fun _ m => iW rfl (jg m Mh rfl aH)) (XH 9 rfl h (fun _ m => uu (k := a2.jA) (z := false) (vf := (fun (x : Bool) => (Value.bool x))) Gc dR eV rfl rfl (ll.Cq (μ := hp _) jr.1 a5 Q.B (fun b o p => m.2 b o (Mt (Mt (Mt (Ml p))))))) (X 10 rfl h (jd rfl) (PJ hm (fun b5 E W => ∃ b4, ST false (keys ((K, Obj.cells A 174 (0, 0)) :: (D ++ (a ++ (y ++ (c ++ (j ++ []))))))) w W μ0 ((R, Ol (je a2) 38) :: ((L, Ol (iX Q) 108) :: ((K, Obj.cells A 174 (0, 0)) :: (D ++ (a ++ (y ++ (c ++ (j ++ b4)))))))) ∧ E 0 = (.pointer (some ⟨K, 0, none⟩)) ∧ E 4 = (.pointer (some ⟨L, 0, none⟩)) ∧ E 5 = (.pointer (some ⟨R, 0, none⟩)) ∧ E 50 = (.bool b5)) (bm 22 4194303) 0 ?_ (fun b5 q P => ?_))))))
  ·rintro h1 E W ⟨b4, d, e1, e2, e3, e4⟩ a4
   refine km kr (jb (CI a4 e4 (fun c2 a4 => ?_) (fun c2 a4 => ?_)))
   ·refine jj (Wh e1 (V (iY mY e2) (VA d (Mt Mh) (iT Q.Head) an ag (V (iY pU e3) (VB d Mh rfl rfl aH (bS a4 fun g4 c4 a4 => ?_))))))
    refine VE (eM d (Cb (Pb (Pb Pz)) (Cr (Qb (Qb Qz)) (Cr (Qb (Qb Qz)) (Cr (Qb (Qb Qz)) (Cr (Qb (Qb Qz)) (Cr (Qb (Qb Qz)) Cn)))))) call209 (fun s _ => jY.kw (pI K G Z D g I a B N y i J c t M j a0 Q.Head a2.jA _ _ s a5.e T a3 Y H c4)) ?_)
    rintro _ g9 h3 g0 d f4 ad n ⟨d7, f0, d8, b0, rfl, c9, d0⟩
    obtain rfl := b0.symm
    replace d := d.perm (Tb (Tr (Tr (Tr (Tr (Tr Tn))))))
    refine jC (jI (tG ?_))
    obtain rfl := sj a4
    exact sI rfl ⟨_, _, rfl, (d.kC (Kb (Kr (Kr (Kr (Kr (Kr Sn))))))), d7, f0, d8, rfl, rfl, c9, d0⟩
   refine jJ (jI (tG ?_))
   obtain rfl := sj a4
   exact sI rfl ⟨_, _, rfl, (d.kC (Db (Db (Kb (Kr (Kr (Kr (Kr (Kr Sn))))))))), D, t, j, rfl, rfl, a5.e, H⟩
  refine bC q (fun u q => ?_) (fun u q => ?_)
  ·refine Xg 11 rfl rfl (cB u) h (jd rfl) (Xg 12 rfl rfl (cB u) h (lb rfl) (Xg 13 rfl rfl (cB u) h (iY vV rfl) (xz 14 rfl rfl (cB u) h (fun _ m => iW rfl (jg m (Mt (Mt Mh)) rfl gd)) (Xg 15 rfl rfl (cB u) h (iY oh rfl) (xz 16 rfl rfl (cB u) h (fun _ m => iW rfl (jc m (Mt Mh) (iT Q.C) rfl an ag)) (xz 17 rfl rfl (cB u) h (fun _ m => nG (k := Q.C) (z := (.map none)) yX dg dI rfl rfl a5 (fun b o p => m.2 b o (Mt (Mt (Mt (Ml p)))))) (Xg 18 rfl rfl (cB u) h (iY pU rfl) (xz 19 rfl rfl (cB u) h (fun _ m => iW rfl (jg m Mh rfl aH)) (xz 20 rfl rfl (cB u) h (fun _ m => uu (k := a2.jA) (z := false) (vf := (fun (x : Bool) => (Value.bool x))) Gc dR eV rfl rfl (ll.Cq (μ := hp _) jr.1 a5 Q.C (fun b o p => m.2 b o (Mt (Mt (Mt (Ml p))))))) (X 21 rfl h (jq (cB u) rfl) ?_))))))))))
   obtain rfl := sj q
   refine tW kr (P _ _ ⟨_, (d.iU St), rfl, rfl, rfl, rfl⟩)
  refine Xn 11 rfl rfl (cB u) h (Xn 12 rfl rfl (cB u) h (Xn 13 rfl rfl (cB u) h (Xn 14 rfl rfl (cB u) h (Xn 15 rfl rfl (cB u) h (Xn 16 rfl rfl (cB u) h (Xn 17 rfl rfl (cB u) h (Xn 18 rfl rfl (cB u) h (Xn 19 rfl rfl (cB u) h (Xn 20 rfl rfl (cB u) h (X 21 rfl h (jn (cB u) rfl) ?_))))))))))
  obtain rfl := sj q
  refine tW kr (P _ _ ⟨_, (d.iU St), rfl, rfl, rfl, rfl⟩)
 refine jJ (jI (tG ?_))
 obtain rfl := sj hm
 exact sI rfl ⟨_, _, rfl, (d.kC (Db (Db (Kb (Kr (Kr (Kr (Kr (Kr Sn))))))))), D, t, j, rfl, rfl, U, H⟩
theorem BZ (K : Nat) (g : Value) (T : List (iR × (List (ByteArray × Bool)))) (D : LO) (a : Value) (G : List iS) (j : LO) (t : Value) (J : List (iR × (List iS))) (u : LO) (c : Value) (H : List (ByteArray × (List iS))) (k : LO) (z : Value) (M : List iV) (B : LO) (a0 : Int) (Z : iS) (r : ((List (iR × (List (ByteArray × Bool)))) × (List iV) × Int)) (w : World) {μ0 : jw} (h0 : nR μ0 ((K, Ob #[g, a, t, c, z, (.int .i64 a0)] 174) :: (D ++ (j ++ (u ++ (k ++ (B ++ [])))))) w) (a2 : kB (fun (x : iR) => (.agg (iT x).toArray)) (kl Value.string (fun (x : Bool) => (Value.bool x))) g T D) (N : jl 108 iX 9 a G j) (Y : kB (fun (x : iR) => (.agg (iT x).toArray)) (jl 108 iX 9) t J u) (Q : kB Value.string (jl 108 iX 9) c H k) (U : oA 38 je 3 z M B) (hm : rr T G J H M a0 Z = some r) :
  jY false pg0 172 [(.pointer (some ⟨K, 0, none⟩)), (.agg (iX Z).toArray)] w ((K, Ob #[g, a, t, c, z, (.int .i64 a0)] 174) :: (D ++ (j ++ (u ++ (k ++ (B ++ [])))))) (fun v L1 W' => ∃ S1 y3 S4, v = (.tuple #[]) ∧ L1 = ((K, Ob #[g, a, t, c, y3, (.int .i64 (r.2.2))] 174) :: (S1 ++ (j ++ (u ++ (k ++ (S4 ++ [])))))) ∧ kB (fun (x : iR) => (.agg (iT x).toArray)) (kl Value.string (fun (x : Bool) => (Value.bool x))) g r.1 S1 ∧ oA 38 je 3 y3 r.2.1 S4) := by
 refine wJ h0 33 func172 rfl (fun d => sg (VE (jF d rfl (fun W2 b1 d => lr (Wf mT (VB d Mh rfl rfl bF (ln (bg ?_))))))))
 refine Wi rfl (Wa (ln (CI hm rfl (fun f1 hm => ?_) (fun f1 hm => ?_))))
 ·refine jj (Wm (Wf mY (VA d Mh (iT Z.Head) an ag (Wf rz (VB d Mh rfl rfl aH (bS hm fun r4 f2 hm => ?_))))))
  refine VE (eM d (Cb (Pb Pz) (Cr (Qb Qz) (Cr (Qb Qz) (Cr (Qb Qz) (Cr (Qb Qz) (Cr (Qb Qz) Cn)))))) call209 (fun hh _ => jY.kw (pI K g T D a G j t J u c H k z M B a0 Z.Head Z.jA _ _ hh a2 N Y Q U f2)) ?_)
  rintro _ h1 ao g8 d g2 af n ⟨e7, f4, e8, c2, rfl, e0, e1⟩
  obtain rfl := c2.symm
  replace d := d.perm (Tb (Tr (Tr (Tr (Tr (Tr Tn))))))
  refine jC (jI (tG ?_))
  obtain rfl := sj hm
  exact sI rfl ⟨_, _, rfl, (d.kC (Kb (Kr (Kr (Kr (Kr (Kr Sn))))))), e7, f4, e8, rfl, rfl, e0, e1⟩
 refine sg (Wm (Wf kK (VA d Mh (iT Z.B) an ag (bS hm fun c6 d9 hm => VE (pT d call53 (xm K g T a G t J c H z M a0 Z.B _ _ (a2.at (fun b o m => d.at_ (Mt (Mt (Ml m))))) (N.sl kU (fun b o m => d.at_ (Mt (Mt (Ma (Ml m)))))) (Y.at (fun b o m => d.at_ (Mt (Mt (Ma (Ma (Ml m))))))) (Q.at (fun b o m => d.at_ (Mt (Mt (Ma (Ma (Ma (Ml m)))))))) ((U.DJ lJ).mono (Pl.mono _) (yN (fun b o m => d.at_ (Mt (Mt (Ma (Ma (Ma (Ma (Ml m)))))))))) (At.of (d.at_ (Mt Mh)) _ rfl) d9) (fun g9 f3 d5 e5 d f6 ad P => V (lT aT rfl P) (Wm (ln (yi (jG (fun i E W => ∃ q a3 a5 s a4 a9 R b9, (E 13 = .int .i64 (i : Nat) ∧ E 12 = .int .i64 (c6.length : Nat)) ∧ js d5 R ∧ ST false (keys ((K, Ob #[g, a, t, c, z, (.int .i64 a0)] 174) :: (D ++ (j ++ (u ++ (k ++ (B ++ []))))))) w W R ((K, Ob #[g, a, t, c, a5, (.int .i64 a9)] 174) :: ((b1, Ol (iX Z) 108) :: (a3 ++ (j ++ (u ++ (k ++ (a4 ++ (e5 ++ b9)))))))) ∧ E 0 = (.pointer (some ⟨K, 0, none⟩)) ∧ E 3 = (.pointer (some ⟨b1, 0, none⟩)) ∧ E 11 = f3 ∧ kB (fun (x : iR) => (.agg (iT x).toArray)) (kl Value.string (fun (x : Bool) => (Value.bool x))) g q a3 ∧ oA 38 je 3 a5 s a4 ∧ nI G J H Z (c6.drop i) q s a9 = some r) c6.length P.len ⟨T, D, z, M, B, a0, d5, _, ⟨rfl, rfl⟩, (js.refl _), (d.iU (Sb (Pr (Pb Pz)) (Sb (Pr Pz) (Sr (Qr Qz) (Sr (Qr Qz) (Sr (Qr Qz) (Sr (Qr Qz) (Sr (Qr Qz) St)))))))), rfl, rfl, rfl, a2, U, hm⟩ dc dc dc (fun _ _ _ h => by obtain ⟨_, _, _, _, _, _, _, _, a1, _⟩ := h; exact a1) ?_ ?_))))))))))
 ·rintro e2 E W c8 ⟨q, a3, a5, s, a4, a9, R, b9, ⟨eI, eN⟩, b7, d, c0, L, c1, b3, b4, I⟩
  obtain ⟨A, f7, d1, c4, d2⟩ := jB c8
  rw [d1] at I
  refine bg (VQ (kY (i := (e2 : Int)) (x0 := A) aT cx c1 eI P (ah _) c4) (fun g3 c9 => V (iW rfl (tI d.has (fun p m => (Mt (Mt (Ma (Ma (Ma (Ma (Ma (Ml m))))))))) P (fun _ => rfl) c9 c4 (y := (.string A)) rfl aH)) (Wa (ln (jj (Wh c0 (V (iW L (jc d.has (Mt Mh) (iX Z) rfl aS ak)) (V (iY kK L) (VA d (Mt Mh) (iT Z.B) an ag (Wm (V (kT (v := (.agg (je (⟨Z.B, A⟩ : iV)).toArray)) (nz rfl rfl) (ku bW bl (Be _ bl) kr)) ?_)))))))))))
  refine bS I fun c3 d0 I => ?_
  refine VE (eM d (Cb Pz (Cr (Qb Qz) (Cr (Qb Qz) (Cr (Qb Qz) (Cr (Qb Qz) (Cr (Qb Qz) Cn)))))) call210 (fun hh _ => (yf K g q a3 a G j t J u c H k a5 s a4 a9 Z (⟨Z.B, A⟩ : iV) _ _ hh b3 N Y Q b4 d0)) ?_)
  rintro _ g4 e4 f9 d c5 ab n ⟨d6, e3, d7, b5, rfl, d3, d4⟩
  obtain rfl := b5.symm
  replace d := d.perm (Tb (Tr (Tr (Tr (Tr (Tr Tn))))))
  exact jC (jI (jb ⟨eI, c3.1, d6, e3, c3.2.1, d7, c3.2.2, e4, _, ⟨rfl, eN⟩, (b7.trans c5), (d.iU (Kb (Sb (Pr (Pr (Pr (Pr (Pr Pz))))) St))), c0, L, c1, d3, d4, (by rw [d2]; exact I)⟩))
 rintro E W ⟨q, a3, a5, s, a4, a9, R, b9, ⟨eI, eN⟩, b7, d, c0, L, c1, b3, b4, I⟩
 rw [ai] at I
 refine jb ?_
 replace d := d.iU (Kb (Db (Kr (Kr (Kr (Kr (Kr (Dr St))))))))
 refine jI (tG ?_)
 obtain rfl := sj I
 exact sI rfl ⟨_, _, rfl, (d.kC (Kb (Kr (Kr (Kr (Kr (Kr Sn))))))), a3, a5, a4, rfl, rfl, b3, b4⟩
theorem Bv (I : Nat) (a : Value) (e8 : List (iR × (List (ByteArray × Bool)))) (K : LO) (c : Value) (Q : List iS) (j : LO) (u : Value) (N : List (iR × (List iS))) (y : LO) (g : Value) (H : List (ByteArray × (List iS))) (t : LO) (G : Value) (d4 : List iV) (D : LO) (a0 : Int) (r : ((List (iR × (List (ByteArray × Bool)))) × (List iV) × Int)) (w : World) {μ0 : jw} (h0 : nR μ0 ((I, Ob #[a, c, u, g, G, (.int .i64 a0)] 174) :: (K ++ (j ++ (y ++ (t ++ (D ++ [])))))) w) (h4 : kB (fun (x : iR) => (.agg (iT x).toArray)) (kl Value.string (fun (x : Bool) => (Value.bool x))) a e8 K) (c1 : jl 108 iX 9 c Q j) (g7 : kB (fun (x : iR) => (.agg (iT x).toArray)) (jl 108 iX 9) u N y) (c2 : kB Value.string (jl 108 iX 9) g H t) (g4 : oA 38 je 3 G d4 D) (hm : tL e8 Q N H d4 a0 = some r) :
  jY false pg0 173 [(.pointer (some ⟨I, 0, none⟩))] w ((I, Ob #[a, c, u, g, G, (.int .i64 a0)] 174) :: (K ++ (j ++ (y ++ (t ++ (D ++ [])))))) (fun v L1 W' => ∃ S1 y3 S4, v = (.tuple #[]) ∧ L1 = ((I, Ob #[a, c, u, g, y3, (.int .i64 (r.2.2))] 174) :: (S1 ++ (j ++ (y ++ (t ++ (S4 ++ [])))))) ∧ kB (fun (x : iR) => (.agg (iT x).toArray)) (kl Value.string (fun (x : Bool) => (Value.bool x))) a r.1 S1 ∧ oA 38 je 3 y3 r.2.1 S4) := by
 let g5 : Value := (.pointer (some ⟨I, 0, none⟩))
 let b8 := ((I, Ob #[a, c, u, g, G, (.int .i64 a0)] 174) :: (K ++ (j ++ (y ++ (t ++ (D ++ []))))))
 refine wJ h0 75 func173 rfl (fun d => yi (lc (og (fun m E W => ∃ e3 b7 e4 a1 b9 d1 b4 h5, js μ0 b4 ∧ ST false (keys b8) w W b4 ((I, Ob #[a, c, u, g, e4, (.int .i64 d1)] 174) :: (b7 ++ (j ++ (y ++ (t ++ (b9 ++ h5)))))) ∧ E 0 = g5 ∧ kB (fun (x : iR) => (.agg (iT x).toArray)) (kl Value.string (fun (x : Bool) => (Value.bool x))) a e3 b7 ∧ oA 38 je 3 e4 a1 b9 ∧ lM Q N H m e3 a1 d1 = some r) jM ⟨e8, K, G, d4, D, a0, μ0, _, (js.refl _), (d.iU St), rfl, h4, g4, hm⟩ ?_)))
 rintro m E W ⟨e3, b7, e4, a1, b9, d1, b4, h5, i0, d, P, g9, c5, M⟩
 cases m with
 | zero => rw [lM] at M; cases M
 | succ n0 =>
  refine jm (sg (Wh P (Wn (Wf zW (VB d Mh rfl rfl isAgg120 (V (OQ bj rfl c5) (Wi rfl (ln (CI M rfl (fun i7 M => ?_) (fun i7 M => ?_))))))))))
  ·refine kn (bg (Wh P (Wn (Wf zW (VB d Mh rfl rfl isAgg120 (bS M fun B h2 M => VQ (kk (enc := je) (i := 0) (x0 := B) bj bf rfl rfl (c5.DJ lJ) (kz h2) (ke h2)) (fun q0 j7 => V (iW rfl (jX (qg.hp _) (j7.mono (yN (fun b o q => d.has.2 b o (Mt (Ma (Ma (Ma (Ma (Ml q))))))))) cH bf)) (VE (jK d bW (fun o9 a5 d => VO (jy (.agg (je B).toArray) ((je B).toArray) d rfl rfl bf (uW B) nb rfl (fun p0 d => jC ?_))))))))))))
   let j2 := ((ki jh N B.iR).getD [])
   let j1 : Value := (.pointer (some ⟨a5, 0, none⟩))
   let i6 := ((je B).toArray : Array Value)
   let i5 := ((ki kc H B.iR.jt).getD [])
   refine jb (sg (Wh P (Wh P (Wn (Wf zW (VB d (Mt Mh) rfl rfl isAgg120 (bS M fun _ g8 M => VQ (LA (i := 1) bj bf rfl rfl lJ c5 (pc g8) (oZ g8)) (fun q3 h1 => Wn (Wf zW ?_)))))))))
   obtain ⟨f7, g0, rfl⟩ := h1.form
   let g6 : Value := (.slice f7 (a1.drop (Int.toNat 1)).length g0)
   replace d := d.perm (Nb (Pb Pz) Nz)
   refine VO (jy g6 (#[a, c, u, g, g6, (.int .i64 d1)]) d rfl rfl sizeOf120 oc nb rfl (fun p1 d => ln (jm (jm ?_))))
   replace d := d.drew
   have n := d.has.iU (Kb (Kb (Dr (Dr (Kr Sn)))))
   refine jV n jE (X 0 rfl n (jd P) (X 1 rfl n (lb rfl) (X 2 rfl n (iY KY rfl) (XH 3 rfl n (fun _ p => iW rfl (jg p Mh rfl isAgg171)) (X 4 rfl n (iY vB rfl) (XH 5 rfl n (fun _ p => iW rfl (jc p (Mt Mh) (iT B.iR) rfl an ag)) ?_))))))
   obtain ⟨l7, c3⟩ := g7
   obtain ⟨o7, f0, k2⟩ := ll.rowAt jr.1 c3 B.iR
   refine XH 6 rfl n (fun _ p => nG (k := B.iR) (z := (.slice none 0 0)) yX underlying171 iO rfl rfl c3 (fun b o q => p.2 b o (Mt (Mt (Ml q))))) (X 7 rfl n (jO aG rfl (f0.DJ kU)) (X 8 rfl n (jd rfl) (km kr (jb (CJ M (fun d0 E W => ∃ d6 e5 d7 b5 h6, js b4 b5 ∧ ST false (keys b8) w W b5 ((I, Ob #[a, c, u, g, e5, (.int .i64 d0.2.2)] 174) :: ((a5, Obj.cells i6 38 (0, 0)) :: (d6 ++ (j ++ (y ++ (t ++ (d7 ++ h6))))))) ∧ E 0 = g5 ∧ E 2 = j1 ∧ kB (fun (x : iR) => (.agg (iT x).toArray)) (kl Value.string (fun (x : Bool) => (Value.bool x))) a d0.1 d6 ∧ oA 38 je 3 e5 d0.2.1 d7) (fun d0 j6 => ?_) ?_)))))
   ·refine jG (fun i E W => ∃ c7 a3 b1 c8 a4 d2 d3 f9, (E 35 = .int .i64 (i : Nat) ∧ E 34 = .int .i64 (j2.length : Nat)) ∧ js b4 d3 ∧ ST false (keys b8) w W d3 ((I, Ob #[a, c, u, g, b1, (.int .i64 d2)] 174) :: ((a5, Obj.cells i6 38 (0, 0)) :: (a3 ++ (j ++ (y ++ (t ++ (a4 ++ f9))))))) ∧ E 0 = g5 ∧ E 2 = j1 ∧ E 33 = (qk jh l7 B.iR (.slice none 0 0)) ∧ kB (fun (x : iR) => (.agg (iT x).toArray)) (kl Value.string (fun (x : Bool) => (Value.bool x))) a c7 a3 ∧ oA 38 je 3 b1 c8 a4 ∧ ny Q N H B (j2.drop i) c7 c8 d2 = some d0) j2.length (f0.DJ kU).len ⟨e3, b7, g6, (a1.drop (Int.toNat 1)), b9, d1, b4, _, ⟨rfl, rfl⟩, (js.refl _), (d.iU St), P, rfl, rfl, g9, h1, j6⟩ dc dc dc (fun _ _ _ h => by obtain ⟨_, _, _, _, _, _, _, _, A, _⟩ := h; exact A) ?_ ?_
    ·rintro m5 E W j0 ⟨c7, a3, b1, c8, a4, d2, d3, f9, ⟨s, eN⟩, d5, d, e1, e2, g1, f3, f4, T⟩
     obtain ⟨b3, o3, l1, l0, l2⟩ := jB j0
     rw [l1] at T
     refine bg (VQ (kk (enc := iX) (i := (m5 : Int)) (x0 := b3) aG ak g1 s (f0.DJ kU) (ah _) l0) (fun q2 j9 => V (iW rfl (jX (qg.hp _) (j9.mono (yN (fun b o q => d.has.2 b o (Mt (Mt (Ma (Ma (Ml (k2 b o q))))))))) aS ak)) (VE (jK d bw (fun p5 p9 d => VO (jy (.agg (iX b3).toArray) ((iX b3).toArray) d rfl rfl ak (mx b3) nb rfl (fun p6 d => ln (jj (Wh e1 (VA d Mh (iX b3) aS ak (V (iW e2 (jc d.has (Mt (Mt Mh)) (je B) rfl cH bf)) (bS T fun g3 k1 T => ?_))))))))))))
     refine VE (eM d (Cb (Pb Pz) (Cr (Qb (Qb Qz)) (Cr (Qb (Qb Qz)) (Cr (Qb (Qb Qz)) (Cr (Qb (Qb Qz)) (Cr (Qb (Qb Qz)) Cn)))))) call210 (fun hh _ => (yf I a c7 a3 c Q j u N y g H t b1 c8 a4 d2 b3 B _ _ hh f3 c1 c3.e c2 f4 k1)) ?_)
     rintro _ q5 n6 o6 d i4 ad L ⟨m1, n4, m2, f6, rfl, l5, l6⟩
     obtain rfl := f6.symm
     replace d := d.perm (Tb (Tr (Tr (Tr (Tr (Tr Tn))))))
     refine jC (jI (jb ?_))
     replace d := d.iU (Kb (Kr (Kr (Kr (Kr (Kr (Db St)))))))
     exact ⟨s, g3.1, m1, n4, g3.2.1, m2, g3.2.2, n6, _, ⟨rfl, eN⟩, (d5.trans i4), (d.iU (Kb (Sb (Pr (Pr (Pr (Pr (Pr Pz))))) St))), e1, e2, g1, l5, l6, (by rw [l2]; exact T)⟩
    rintro E W ⟨c7, a3, b1, c8, a4, d2, d3, f9, ⟨s, eN⟩, d5, d, e1, e2, g1, f3, f4, T⟩
    rw [ai] at T
    refine jb ?_
    obtain rfl := sj T
    exact ⟨a3, b1, a4, d3, _, d5, (d.iU St), e1, e2, f3, f4⟩
   rintro ⟨m6, m7, n1⟩ E W ⟨d6, e5, d7, b5, h6, i1, d, h8, h9, k3, k4⟩ j3
   refine jm ?_
   replace d := d.drew
   have n := d.has.iU (Kb (Kb (Dr (Dr (Dr (Kr Sn))))))
   refine jV n jE (X 0 rfl n (jd h8) (X 1 rfl n (lb rfl) (X 2 rfl n (iY GQ rfl) (XH 3 rfl n (fun _ p => iW rfl (jg p Mh rfl isAgg172)) (X 4 rfl n (iY vB h9) (X 5 rfl n (iY tA rfl) (XH 6 rfl n (fun _ p => iW rfl (jg p (Mt Mh) rfl aH)) ?_)))))))
   obtain ⟨l8, e9⟩ := c2
   obtain ⟨o8, f1, k5⟩ := ll.rowAt kG.1 e9 B.iR.jt
   refine XH 7 rfl n (fun _ p => nG (k := B.iR.jt) (z := (.slice none 0 0)) Gc underlying172 iO rfl rfl e9 (fun b o q => p.2 b o (Mt (Mt (Ml q))))) (X 8 rfl n (jO aG rfl (f1.DJ kU)) (X 9 rfl n (jd rfl) (km kr (jb (yi (CJ j3 (fun c9 E W => ∃ d8 e6 d9 e7 h7, js b5 e7 ∧ ST false (keys b8) w W e7 ((I, Ob #[a, c, u, g, e6, (.int .i64 c9.2.2)] 174) :: (d8 ++ (j ++ (y ++ (t ++ (d9 ++ h7)))))) ∧ E 0 = g5 ∧ kB (fun (x : iR) => (.agg (iT x).toArray)) (kl Value.string (fun (x : Bool) => (Value.bool x))) a c9.1 d8 ∧ oA 38 je 3 e6 c9.2.1 d9) (fun c9 j5 => ?_) ?_))))))
   ·refine jG (fun i E W => ∃ a9 Y a2 b0 Z b2 b6 f8, (E 53 = .int .i64 (i : Nat) ∧ E 52 = .int .i64 (i5.length : Nat)) ∧ js b5 b6 ∧ ST false (keys b8) w W b6 ((I, Ob #[a, c, u, g, a2, (.int .i64 b2)] 174) :: ((a5, Obj.cells i6 38 (0, 0)) :: (Y ++ (j ++ (y ++ (t ++ (Z ++ f8))))))) ∧ E 0 = g5 ∧ E 2 = j1 ∧ E 51 = (qk kc l8 B.iR.jt (.slice none 0 0)) ∧ kB (fun (x : iR) => (.agg (iT x).toArray)) (kl Value.string (fun (x : Bool) => (Value.bool x))) a a9 Y ∧ oA 38 je 3 a2 b0 Z ∧ my B Q N H (i5.drop i) a9 b0 b2 = some c9) i5.length (f1.DJ kU).len ⟨m6, d6, e5, m7, d7, n1, b5, _, ⟨rfl, rfl⟩, (js.refl _), (d.iU St), h8, h9, rfl, k3, k4, j5⟩ dc dc dc (fun _ _ _ h => by obtain ⟨_, _, _, _, _, _, _, _, A, _⟩ := h; exact A) ?_ ?_
    ·rintro m4 E W i9 ⟨a9, Y, a2, b0, Z, b2, b6, f8, ⟨s, eN⟩, a8, d, R, c0, e0, f2, c6, J⟩
     obtain ⟨U, o2, k9, k8, h3⟩ := jB i9
     rw [k9] at J
     refine bg (VQ (kk (enc := iX) (i := (m4 : Int)) (x0 := U) aG ak e0 s (f1.DJ kU) (ah _) k8) (fun q1 j8 => V (iW rfl (jX (qg.hp _) (j8.mono (yN (fun b o q => d.has.2 b o (Mt (Mt (Ma (Ma (Ma (Ml (k5 b o q)))))))))) aS ak)) (VE (jK d bw (fun p2 p8 d => VO (jy (.agg (iX U).toArray) ((iX U).toArray) d rfl rfl ak (mx U) nb rfl (fun p3 d => ln (jm ?_))))))))
     replace d := d.drew
     have n := d.has.iU (Kb (Kb (Kb (Kr Sn))))
     refine jV n jE (X 0 rfl n (jd R) (X 1 rfl n (lb rfl) (X 2 rfl n (iY vV rfl) (XH 3 rfl n (fun _ p => iW rfl (jg p (Mt Mh) rfl gd)) (X 4 rfl n (iY kK rfl) (XH 5 rfl n (fun _ p => iW rfl (jc p Mh (iT U.B) rfl an ag)) ?_))))))
     obtain ⟨o0, c4⟩ := f2
     refine XH 6 rfl n (fun _ p => nG (k := U.B) (z := (.map none)) yX dg dI rfl rfl c4 (fun b o q => p.2 b o (Mt (Mt (Mt (Ml q)))))) (X 7 rfl n (iY vB c0) (X 8 rfl n (iY nH rfl) (XH 9 rfl n (fun _ p => iW rfl (jg p (Mt (Mt Mh)) rfl aH)) (XH 10 rfl n (fun _ p => uu (k := B.iR.ja) (z := false) (vf := (fun (x : Bool) => (Value.bool x))) Gc dR eV rfl rfl (ll.Cq (μ := hp _) jr.1 c4 U.B (fun b o q => p.2 b o (Mt (Mt (Mt (Ml q))))))) (km kr (jb (CI J rfl (fun i8 J => ?_) (fun i8 J => ?_))))))))
     ·refine jj (Wh R (Wf mY (VA d Mh (iT U.Head) an ag (V (iY pU c0) (VB d (Mt (Mt Mh)) rfl rfl aH (bS J fun g2 k0 J => ?_))))))
      refine VE (eM d (Cb (Pb Pz) (Cr (Qb (Qb Qz)) (Cr (Qb (Qb Qz)) (Cr (Qb (Qb Qz)) (Cr (Qb (Qb Qz)) (Cr (Qb (Qb Qz)) Cn)))))) call209 (fun hh _ => jY.kw (pI I a a9 Y c Q j u N y g H t a2 b0 Z b2 U.Head B.jA _ _ hh c4.e c1 c3.e e9.e c6 k0)) ?_)
      rintro _ q4 n5 o5 d i3 ab L ⟨l9, n3, m0, f5, rfl, l3, l4⟩
      obtain rfl := f5.symm
      replace d := d.perm (Tb (Tr (Tr (Tr (Tr (Tr Tn))))))
      refine jC (jI (jb ?_))
      replace d := d.iU (Kb (Kr (Kr (Kr (Kr (Kr (Db St)))))))
      exact ⟨s, g2.1, l9, n3, g2.2.1, m0, g2.2.2, n5, _, ⟨rfl, eN⟩, (a8.trans i3), (d.iU (Kb (Sb (Pr (Pr (Pr (Pr (Pr Pz))))) St))), R, c0, e0, l3, l4, (by rw [h3]; exact J)⟩
     refine jJ (jI (jb ?_))
     replace d := d.iU (Db St)
     exact ⟨s, a9, Y, a2, b0, Z, b2, b6, _, ⟨rfl, eN⟩, a8, (d.iU St), R, c0, e0, c4.e, c6, (by rw [h3]; exact J)⟩
    rintro E W ⟨a9, Y, a2, b0, Z, b2, b6, f8, ⟨s, eN⟩, a8, d, R, c0, e0, f2, c6, J⟩
    rw [ai] at J
    refine jb ?_
    obtain rfl := sj J
    exact ⟨Y, a2, Z, b6, _, a8, (d.iU (Kb (Db St))), R, f2, c6⟩
   rintro ⟨m8, m9, n2⟩ E W ⟨d8, e6, d9, e7, h7, i2, d, m3, k6, k7⟩ j4
   exact jI (jb ⟨n0, bk _, m8, d8, e6, m9, d9, n2, e7, _, ((i0.trans i1).trans i2), (d.iU St), m3, k6, k7, j4⟩)
  refine nt (mH (mH (tK (jb (tG ?_)))))
  obtain rfl := sj M
  exact sI rfl ⟨_, _, rfl, (d.kC (Kb (Kr (Kr (Kr (Kr (Kr Sn))))))), b7, e4, b9, rfl, rfl, g9, c5⟩
theorem Df (H : Nat) (g : Value) (c2 : List (iR × (List (ByteArray × Bool)))) (G : LO) (u : Value) (a7 : List iS) (k : LO) (c : Value) (b7 : List (iR × (List iS))) (z : LO) (a : Value) (a8 : List (ByteArray × (List iS))) (t : LO) (B : Value) (b6 : List iV) (y : LO) (K : Int) (d1 : Value) (q : List iS) (r : (Int × (List (iR × (List (ByteArray × Bool)))) × (List iS) × (List (iR × (List iS))) × (List (ByteArray × (List iS))) × (List iV) × Int)) (w : World) {μ0 : jw} (h0 : nR μ0 ((H, Ob #[g, u, c, a, B, (.int .i64 K)] 174) :: (G ++ (k ++ (z ++ (t ++ (y ++ [])))))) w) (d6 : kB (fun (x : iR) => (.agg (iT x).toArray)) (kl Value.string (fun (x : Bool) => (Value.bool x))) g c2 G) (c6 : jl 108 iX 9 u a7 k) (d3 : kB (fun (x : iR) => (.agg (iT x).toArray)) (jl 108 iX 9) c b7 z) (c7 : kB Value.string (jl 108 iX 9) a a8 t) (d2 : oA 38 je 3 B b6 y) (d7 : Sl (Pl iX) 9 μ0 d1 q) (hm : sN c2 a7 b7 a8 b6 K q = some r) :
  jY false pg0 109 [(.pointer (some ⟨H, 0, none⟩)), d1] w ((H, Ob #[g, u, c, a, B, (.int .i64 K)] 174) :: (G ++ (k ++ (z ++ (t ++ (y ++ [])))))) (fun v L1 W' => ∃ S1 y3 S4 S6 S8 i1 i0, v = (.int .i64 (r.1)) ∧ L1 = ((H, Ob #[g, y3, c, a, i1, (.int .i64 (r.2.2.2.2.2.2))] 174) :: (S1 ++ (S4 ++ (S6 ++ (S8 ++ (i0 ++ [])))))) ∧ kB (fun (x : iR) => (.agg (iT x).toArray)) (kl Value.string (fun (x : Bool) => (Value.bool x))) g r.2.1 S1 ∧ jl 108 iX 9 y3 r.2.2.1 S4 ∧ kB (fun (x : iR) => (.agg (iT x).toArray)) (jl 108 iX 9) c r.2.2.2.1 S6 ∧ kB Value.string (jl 108 iX 9) a r.2.2.2.2.1 S8 ∧ oA 38 je 3 i1 r.2.2.2.2.2.1 i0) := by
 let b8 := ((H, Ob #[g, u, c, a, B, (.int .i64 K)] 174) :: (G ++ (k ++ (z ++ (t ++ (y ++ []))))))
 refine wJ h0 46 func109 rfl (fun d => sg (Wa (lS (Wm (V (qS underlying101 rfl rfl) (ln (nW rfl (jJ ?_))))))))
 refine jb (sg (Wm (Wn (Wf Eh (VB d Mh rfl rfl bF (Wa (lS (Wm (V (jO aG rfl d7) ?_)))))))))
 refine Wm (ln (jG (fun i E W => ∃ a3 N M a4 Q a9 T p U a0 a5 Y a2 c1 d5, (E 16 = .int .i64 (i : Nat) ∧ E 15 = .int .i64 (q.length : Nat)) ∧ js μ0 c1 ∧ ST false (keys b8) w W c1 ((H, Ob #[g, M, c, a, a0, (.int .i64 a2)] 174) :: (N ++ (Q ++ (T ++ (U ++ (Y ++ d5)))))) ∧ E 0 = (.pointer (some ⟨H, 0, none⟩)) ∧ E 5 = (.int .i64 K) ∧ E 14 = d1 ∧ kB (fun (x : iR) => (.agg (iT x).toArray)) (kl Value.string (fun (x : Bool) => (Value.bool x))) g a3 N ∧ jl 108 iX 9 M a4 Q ∧ kB (fun (x : iR) => (.agg (iT x).toArray)) (jl 108 iX 9) c a9 T ∧ kB Value.string (jl 108 iX 9) a p U ∧ oA 38 je 3 a0 a5 Y ∧ mr K (q.drop i) a3 a4 a9 p a5 a2 = some r) q.length d7.len ⟨c2, G, u, a7, k, b7, z, a8, t, B, b6, y, K, μ0, _, ⟨rfl, rfl⟩, (js.refl _), (d.iU St), rfl, rfl, rfl, d6, c6, d3, c7, d2, hm⟩ dc dc dc (fun _ _ _ h => by obtain ⟨_, _, _, _, _, _, _, _, _, _, _, _, _, _, _, ab, _⟩ := h; exact ab) ?_ ?_))
 ·rintro f6 E W g3 ⟨a3, N, M, a4, Q, a9, T, p, U, a0, a5, Y, a2, c1, d5, ⟨eI, eN⟩, b1, d, A, c3, c4, P, s, R, b4, b5, D⟩
  obtain ⟨I, j8, h4, h3, d9⟩ := jB g3
  rw [h4] at D
  refine bg (VQ (kk (enc := iX) (i := (f6 : Int)) (x0 := I) aG ak c4 eI (d7.mono (Pl.mono _) b1) (ah _) h3) (fun l1 g4 => V (iW rfl (jX d.has g4 aS ak)) (VE (jK d bw (fun k3 e8 d => VO (jy (.agg (iX I).toArray) ((iX I).toArray) d rfl rfl ak (mx I) nb rfl (fun k4 d => ln (jm ?_))))))))
  replace d := d.drew
  have m := d.has.iU (Kb (Kb Sn))
  refine jV m jE (XH 0 rfl m (fun _ hS => iW rfl (jc hS Mh (iX I) rfl aS ak)) (bS D fun l2 g7 D => XE 1 rfl (Eg d iD (jv.kw (rf I _ _  g7)) (fun k5 d => ?_))))
  have m := d.has.iU (Kb (Kb Sn))
  refine ⟨m, (X 2 rfl m (jd rfl) (PJ D (fun f7 E W => ∃ e4, ST false (keys b8) w W c1 ((e8, Ol (iX I) 108) :: ((H, Ob #[g, M, c, a, a0, (.int .i64 a2)] 174) :: (N ++ (Q ++ (T ++ (U ++ (Y ++ e4))))))) ∧ E 0 = (.pointer (some ⟨H, 0, none⟩)) ∧ E 5 = (.int .i64 K) ∧ E 7 = (.pointer (some ⟨e8, 0, none⟩)) ∧ E 14 = d1 ∧ E 15 = (.int .i64 (q.length : Int)) ∧ E 16 = (.int .i64 (f6 : Int)) ∧ E 30 = (.bool f7)) (bm 11 2047) 0 ?_ (fun f7 Z d4 => ?_)))⟩
  ·rintro l7 E W ⟨e4, d, c5, e9, f0, f1, f2, f3, i6⟩ J
   refine km kr (jb (CI J i6 (fun g2 J => ?_) (fun g2 J => ?_)))
   ·refine sg (Wh c5 (V (iW f0 (jc d.has Mh (iX I) rfl aS ak)) (bS J fun L g8 J => ?_)))
    refine VE (eM d (Cb (Pb Pz) (Cr (Qb Qz) (Cr (Qb Qz) (Cr (Qb Qz) (Cr (Qb Qz) (Cr (Qb Qz) Cn)))))) call171 (fun hh _ => jY.kw (CA H g a3 N M a4 Q c a9 T a p U a0 a5 Y a2 I _ _ hh P s R b4 b5 g8)) ?_)
    rintro _ l4 l8 k0 d f4 ad n ⟨f8, e5, e6, e7, c8, rfl, e0, e1, e2⟩
    obtain rfl := c8.symm
    replace d := d.perm (Tb (Tr (Tr (Tr (Tr (Tr Tn))))))
    refine ln (jj (Wh c5 (V (iW f0 (jc d.has (Mt (Ma (Ma (Ma (Ma (Ma Mh)))))) (iX I) rfl aS ak)) (bS J fun d8 g9 J => ?_))))
    refine VE (eM d (Cb Pz (Cr Qz (Cr Qz (Cr Qz (Cr Qz (Cr Qz Cn)))))) call172 (fun hh _ => (BZ H g a3 N f8 L.1 e5 c L.2.1 e6 a L.2.2 e7 a0 a5 Y a2 I _ _ hh P e0 e1 e2 b5 g9)) ?_)
    rintro _ l5 j0 k1 d f5 af n ⟨i2, i8, i3, c9, rfl, h5, h6⟩
    obtain rfl := c9.symm
    replace d := d.perm (Tb (Tr (Tr (Tr (Tr (Tr Tn))))))
    refine jC (jI (jb ?_))
    replace d := d.iU (Kb (Kr (Kr (Kr (Kr (Kr (Db St)))))))
    exact ⟨f3, d8.1, i2, f8, L.1, e5, L.2.1, e6, L.2.2, e7, i8, d8.2.1, i3, d8.2.2, j0, _, ⟨rfl, f2⟩, ((b1.trans f4).trans f5), (d.iU St), c5, e9, f1, h5, e0, e1, e2, h6, (by rw [d9]; exact J)⟩
   refine jJ (jI (jb ?_))
   replace d := d.iU (Db St)
   exact ⟨f3, a3, N, M, a4, Q, a9, T, p, U, a0, a5, Y, a2, c1, _, ⟨rfl, f2⟩, b1, (d.iU St), c5, e9, f1, P, s, R, b4, b5, (by rw [d9]; exact J)⟩
  refine bC Z (fun j Z => ?_) (fun j Z => ?_)
  ·refine Xg 3 rfl rfl (cB j) m (jd A) (Xg 4 rfl rfl (cB j) m (lb rfl) (Xg 5 rfl rfl (cB j) m (iY GZ rfl) (xz 6 rfl rfl (cB j) m (fun _ hS => iW rfl (jg hS (Mt Mh) rfl iQ)) (xz 7 rfl rfl (cB j) m (fun _ hS => iW rfl (jc hS Mh (iX I) rfl aS ak)) (bS Z fun l3 h1 Z => Hv 8 rfl rfl (cB j) (Eg d call151 (jv.kw (FN M a4 I _ _ (s.sl kU (fun b o hq => d.at_ (Mt (Mt (Ma (Ml hq)))))) h1)) (fun k8 d => ?_)))))))
   have m := d.has.iU (Kb (Kb Sn))
   refine ⟨m, (Xg 9 rfl rfl (cB j) m (lj rfl) (X 10 rfl m (jq (cB j) rfl) ?_))⟩
   obtain rfl := sj Z
   refine tW kr (d4 _ _ ⟨_, (d.iU St), A, c3, rfl, c4, eN, eI, rfl⟩)
  refine Xn 3 rfl rfl (cB j) m (Xn 4 rfl rfl (cB j) m (Xn 5 rfl rfl (cB j) m (Xn 6 rfl rfl (cB j) m (Xn 7 rfl rfl (cB j) m (Xn 8 rfl rfl (cB j) m (Xn 9 rfl rfl (cB j) m (X 10 rfl m (jn (cB j) rfl) ?_)))))))
  obtain rfl := sj Z
  refine tW kr (d4 _ _ ⟨_, (d.iU St), A, c3, rfl, c4, eN, eI, rfl⟩)
 rintro E W ⟨a3, N, M, a4, Q, a9, T, p, U, a0, a5, Y, a2, c1, d5, ⟨eI, eN⟩, b1, d, A, c3, c4, P, s, R, b4, b5, D⟩
 rw [ai] at D
 refine jb (sg (Wh A (bS D fun i7 h2 D => ?_)))
 refine VE (eM d (Cb Pz (Cr Qz (Cr Qz (Cr Qz (Cr Qz (Cr Qz Cn)))))) call173 (fun hh _ => (Bv H g a3 N M a4 Q c a9 T a p U a0 a5 Y a2 _ _ hh P s R b4 b5 h2)) ?_)
 rintro _ l6 l9 k2 d j6 ao n ⟨i4, i9, i5, d0, rfl, h7, h8⟩
 obtain rfl := d0.symm
 replace d := d.perm (Tb (Tr (Tr (Tr (Tr (Tr Tn))))))
 refine lr (Wh A (Wn (Wf Eh (VB d Mh rfl rfl bF (Wh c3 (Wi rfl (Wa (lt ?_))))))))
 obtain rfl := sj D
 exact jR (v := (.int .i64 (wi0 .i64 (i7.2.2 - K)))) rfl rfl ⟨_, _, rfl, (d.kC (Kb (Kr (Kr (Kr (Kr (Kr Sn))))))), i4, M, Q, T, U, i9, i5, rfl, rfl, h7, s, R, b4, h8⟩
theorem Mj (j : Value) (H : List iS) (r : ((List (iR × (List (ByteArray × Bool)))) × (List iS) × (List (iR × (List iS))) × (List (ByteArray × (List iS))) × (List iV) × Int)) (w : World) (J : Sl (Pl iX) 9 (hp w) j H) (hm : uD H = some r) :
  jY false pg0 47 [j] w [] (fun v L1 W' => ∃ n p S3 q S6 s S9 D u G y, v = (.pointer (some ⟨n, 0, none⟩)) ∧ L1 = ((n, Ob #[p, q, s, D, G, (.int .i64 (r.2.2.2.2.2))] 174) :: (S3 ++ (S6 ++ (S9 ++ (u ++ (y ++ [])))))) ∧ kB (fun (x : iR) => (.agg (iT x).toArray)) (kl Value.string (fun (x : Bool) => (Value.bool x))) p r.1 S3 ∧ jl 108 iX 9 q r.2.1 S6 ∧ kB (fun (x : iR) => (.agg (iT x).toArray)) (jl 108 iX 9) s r.2.2.1 S9 ∧ kB Value.string (jl 108 iX 9) D r.2.2.2.1 u ∧ oA 38 je 3 G r.2.2.2.2.1 y) := by
 refine tS 13 func47 rfl (fun d => sg (Wa (lr (VE (Ce (P := pg0) (fun (x : iR) => (.agg (iT x).toArray)) (kl Value.string (fun (x : Bool) => (Value.bool x))) d (fun W1 v4 R2 d z => VE (Ce (P := pg0) (fun (x : iR) => (.agg (iT x).toArray)) (jl 108 iX 9) d (fun W5 v8 R6 d B => VE (Ce (P := pg0) Value.string (jl 108 iX 9) d (fun W9 c4 Y d t => ?_))))))))))
 obtain ⟨a, rfl⟩ := z.form
 obtain ⟨c, rfl⟩ := B.form
 obtain ⟨g, rfl⟩ := t.form
 refine V (kT (v := (.agg #[(.map (some a)), (.slice none 0 0), (.map (some c)), (.map (some g)), (.slice none 0 0), (.int .i64 0)])) (NM rfl rfl rfl) (ku zeroValue174 df (Sm _ df) kr)) (VE (jF d rfl (fun c1 k d => Wa (lr (Wm (Wm (bS hm fun W K hm => ?_)))))))
 refine VE (eM d (Cb Pz (Cr (Qr (Qr Qz)) (C0 (Cr (Qr Qz) (Cr Qz (C0 Cn)))))) call109 (fun I m => (Df k (.map (some a)) ([]) R2 (.slice none 0 0) ([]) [] (.map (some c)) ([]) R6 (.map (some g)) ([]) Y (.slice none 0 0) ([]) [] 0 j H _ _ I z (jl.nil _ _ _) B t (oA.nil _ _ _) (J.mono (Pl.mono _) m) K)) ?_)
 rintro _ c5 c6 R d L o h ⟨Z, A, a2, a3, a4, E, a5, i, rfl, M, N, Q, T, U⟩
 obtain rfl := i.symm
 replace d := d.perm (Tb (Tr (Tr (Tr (Tr (Tr Tn))))))
 refine lr (Wm (Wa (lt ?_)))
 obtain rfl := sj hm
 exact jR (v := (.pointer (some ⟨k, 0, none⟩))) rfl rfl ⟨_, _, rfl, (d.I4 (Kb (Kr (Kr (Kr (Kr (Kr Sn))))))), k, (.map (some a)), Z, A, a2, (.map (some c)), a3, (.map (some g)), a4, E, a5, rfl, rfl, M, N, Q, T, U⟩
theorem Ng (i : zg) (a c g t j k : Value) (r : ((List (iR × (List (ByteArray × Bool)))) × (List iS) × (List (iR × (List iS))) × (List (ByteArray × (List iS))) × (List iV) × Int × ByteArray × ByteArray × Int)) (w : World) (y : Sl tk 15 (hp w) a i.mc.pa) (z : Sl yI 8 (hp w) c i.mc.Aa) (u : Sl (Pl iX) 9 (hp w) g i.oz) (G : Sl (Pl iX) 9 (hp w) t i.Shown) (B : Sl (Pl iT) 2 (hp w) j i.lq) (D : Sl (Pl iT) 2 (hp w) k i.Ct) (hm : A2 i = some r) :
  jY false pg0 73 [(.agg #[(.string i.mc.Name), a, c, (.string i.rU), (.int .i64 i.Room), g, t, j, k])] w [] (fun v L1 W' => ∃ m n p S4 q S7 s J U K Y M Q, v = (.func (.func 144) #[] #[(.pointer (some ⟨m, 0, none⟩)), (.pointer (some ⟨Q, 0, none⟩))]) ∧ L1 = ((m, Ob #[(.pointer (some ⟨n, 0, none⟩))] 101) :: ((n, Ob #[p, q, s, U, Y, (.int .i64 (r.2.2.2.2.2.1))] 174) :: ((Q, Ob #[(.string (r.2.2.2.2.2.2.1)), a, c, (.string (r.2.2.2.2.2.2.2.1)), (.int .i64 (r.2.2.2.2.2.2.2.2)), g, t, j, k] 54) :: (S4 ++ (S7 ++ (J ++ (K ++ (M ++ [])))))))) ∧ kB (fun (x : iR) => (.agg (iT x).toArray)) (kl Value.string (fun (x : Bool) => (Value.bool x))) p r.1 S4 ∧ jl 108 iX 9 q r.2.1 S7 ∧ kB (fun (x : iR) => (.agg (iT x).toArray)) (jl 108 iX 9) s r.2.2.1 J ∧ kB Value.string (jl 108 iX 9) U r.2.2.2.1 K ∧ oA 38 je 3 Y r.2.2.2.2.1 M) := by
 refine tS 8 func73 rfl (fun d => sg ?_)
 obtain ⟨A1, c2, rfl⟩ := y.form
 obtain ⟨A3, c4, rfl⟩ := z.form
 obtain ⟨A5, c6, rfl⟩ := u.form
 obtain ⟨A7, c8, rfl⟩ := G.form
 obtain ⟨A9, c1, rfl⟩ := B.form
 obtain ⟨a7, c3, rfl⟩ := D.form
 refine VE (jF d rfl (fun e6 N d => Wa (lr (Wf FK (VB d Mh rfl rfl iQ (bS hm fun f0 A hm => ?_))))))
 refine VE (F0 d (cP _) call47 (fun _ _ _ _ => (Mj (.slice A5 i.oz.length c6) i.oz _ _ (u.mono (Pl.mono _) d.jf) A)) (fun e7 f1 f2 e5 d d6 o h Z => ?_) (L0 := []))
 obtain ⟨I, c7, a9, c9, L, d1, P, d2, R, d3, W, H, rfl, a2, a3, a4, a5, E⟩ := Z
 replace H := H.symm; subst H
 replace d := d.perm (Tb (Tr (Tr (Tr (Tr (Tr Tn))))))
 refine VE (jK d zeroValue101 (fun e8 T d => VO (jy (.pointer (some ⟨I, 0, none⟩)) (#[(.pointer (some ⟨I, 0, none⟩))]) d rfl rfl sizeOf101 oc nb rfl (fun e9 d => lr (V (si (by exact nB rfl rfl) rfl) (Wa (lt ?_)))))))
 obtain rfl := sj hm
 exact jR (v := (.func (.func 144) #[] #[(.pointer (some ⟨T, 0, none⟩)), (.pointer (some ⟨N, 0, none⟩))])) rfl rfl ⟨_, _, rfl, (d.I4 (Kb (Kb (Sb (Pr (Pr (Pr (Pr (Pr Pz))))) (Kr (Kr (Kr (Kr (Kr Sn))))))))), T, I, c7, a9, c9, L, d1, P, d2, R, d3, W, N, rfl, rfl, a2, a3, a4, a5, E⟩
theorem CC (T : Formula → Int → Option (Int × Int)) (p : ∀ (t : Formula) (j : Value) (I : Int) (r : (Int × Int)) (w : World) (g : Sl ju 5 (hp w) j t.Kids), T t I = some r → jv false pg0 211 [(.agg #[(.int .i64 t.Op), (.int .i64 t.K), (.string t.iR.ja), (.string t.iR.jt), j]), (.int .i64 I)] w (.tuple #[(.int .i64 r.1), (.int .i64 r.2)])) (t : Formula) (j : Value) (I : Int) (r : (Int × Int)) (w : World) (g : Sl ju 5 (hp w) j t.Kids) (hm : uB T t I = some r) :
  jv false pg0 211 [(.agg #[(.int .i64 t.Op), (.int .i64 t.K), (.string t.iR.ja), (.string t.iR.jt), j]), (.int .i64 I)] w (.tuple #[(.int .i64 r.1), (.int .i64 r.2)]) := by
 refine cG 40 func211 rfl (fun d => sg ?_)
 obtain ⟨A1, c2, rfl⟩ := g.form
 refine VE (jF d rfl (fun W4 b3 d => Wa (Wa (lr (Wa (Wa (lS (Wf rT ?_))))))))
 refine VB d Mh rfl rfl dJ (V (jO bx rfl g) (Wm (ln ?_)))
 replace d := d.iU (Db St)
 refine CJ hm (fun Q E W => ∃ a2, ST false jD w W (hp w) a2 ∧ E 6 = (.int .i64 Q.1) ∧ E 7 = (.int .i64 Q.2)) (fun Q a5 => ?_) ?_
 ·refine jG (fun i E W => ∃ y z J, (E 15 = .int .i64 (i : Nat) ∧ E 14 = .int .i64 (t.Kids.length : Nat)) ∧ ST false jD w W (hp w) J ∧ E 1 = (.int .i64 I) ∧ E 6 = (.int .i64 y) ∧ E 7 = (.int .i64 z) ∧ E 13 = (.slice A1 t.Kids.length c2) ∧ nT I T (t.Kids.drop i) y z = some Q) t.Kids.length g.len ⟨1, 0, _, ⟨rfl, rfl⟩, (d.iU St), rfl, rfl, rfl, rfl, a5⟩ dc dc dc (fun _ _ _ h => by obtain ⟨_, _, _, n, _⟩ := h; exact n) ?_ ?_
  ·rintro P E W a3 ⟨y, z, J, ⟨m, o⟩, d, G, x, H, K, a⟩
   obtain ⟨c, c6, s, q, a9⟩ := jB a3
   rw [s] at a
   refine bg (VQ (uF (i := (P : Int)) (x0 := c) ju.out bx aP K m g (ah _) q) (fun c4 ⟨_, ⟨c5, rfl, N⟩, Y⟩ => V (iW rfl (jX d.has Y bG aP)) (VE (jK d cZ (fun b9 c3 d => ?_)))))
   obtain ⟨B, D, rfl⟩ := N.form
   let a0 := (C1 c.Op c.K c.iR.ja c.iR.jt B c.Kids.length D)
   refine VO (jy (.agg a0.toArray) (a0.toArray) d rfl rfl aP oc nb rfl (fun c0 d => lS (Wh x (Wh G (Wi rfl (ln (CI a rfl (fun U a => ?_) (fun U a => ?_))))))))
   ·refine nt (mH (Rs (by simp) (mH (tK (jb ?_)))))
    obtain rfl := sj a
    exact ⟨_, (d.iU (Db St)), x, H⟩
   refine kg (VA d Mh a0 bG aP (Wh G (Wh x (Wi rfl (bS a fun M Z a => VE (Eg d call211 (p c (.slice B c.Kids.length D) (wi0 .i64 (I - y)) _ _ (N.mono ky.mono d.jf) Z) (fun c1 d => Wm (Wx rfl (Wx rfl (Wa (Wa ?_)))))))))))
   refine ln ?_
   replace d := d.iU (Db St)
   exact jj (Wh x (Wm (Wi rfl (Wh H (Wm (V (JD (k := .i64) rfl rfl) (Wa (Wa (jC (jI (jb ⟨m, (wi0 .i64 (y + M.1)), (if M.2 > z then M.2 else z), _, ⟨rfl, o⟩, (d.iU St), G, rfl, rfl, K, (by rw [a9]; exact a)⟩)))))))))))
  rintro E W ⟨y, z, J, ⟨m, o⟩, d, G, x, H, K, a⟩
  rw [ai] at a
  refine jb ?_
  obtain rfl := sj a
  exact ⟨_, (d.iU St), x, H⟩
 rintro ⟨R, b7⟩ E W ⟨a2, d, A, L⟩ a4
 refine sg (Wh A (Wh L (Wi rfl (Wa (Wa (lt ?_))))))
 obtain rfl := sj a4
 exact pq (v := (.int .i64 R)) (u := (.int .i64 (wi0 .i64 (b7 + 1)))) rfl rfl rfl ⟨rfl, d.ex⟩
theorem AI : ∀ (n : Nat) (c : Formula) (a : Value) (i : Int) (r : (Int × Int)) (w : World) (g : Sl ju 5 (hp w) a c.Kids) (_ : mQ n c i = some r),
  jv false pg0 211 [(.agg #[(.int .i64 c.Op), (.int .i64 c.K), (.string c.iR.ja), (.string c.iR.jt), a]), (.int .i64 i)] w (.tuple #[(.int .i64 r.1), (.int .i64 r.2)])
 | 0 => by intros; rename_i h; simp only [mQ] at h; cases h
 | n + 1 => CC (mQ n) (AI n)
theorem GH (a : Formula) (g : Value) (r : (Int × Int)) (w : World) (c : Sl ju 5 (hp w) g a.Kids) (hm : vY a = some r) :
  jv false pg0 174 [(.agg #[(.int .i64 a.Op), (.int .i64 a.K), (.string a.iR.ja), (.string a.iR.jt), g])] w (.tuple #[(.int .i64 r.1), (.int .i64 r.2)]) := by
 refine cG 15 func174 rfl (fun d => sg ?_)
 obtain ⟨i, j, rfl⟩ := c.form
 refine VE (jF d rfl (fun y B d => Wa (Wa (lr (VA d Mh (C1 a.Op a.K a.iR.ja a.iR.jt i a.Kids.length j) bG aP (bS hm fun x t hm => VE (Eg d call211 ((AI jM) a (.slice i a.Kids.length j) 4096 _ _ (c.mono ky.mono d.jf) t) (fun z d => Wm (Wx rfl (Wx rfl (Wa (Wa ?_))))))))))))
 refine ln ?_
 replace d := d.iU (Db St)
 refine jm (sg (Wm (Wi rfl (ln (CI hm rfl (fun k hm => ?_) (fun k hm => ?_))))))
 ·refine sg (Wa (Wa (lt (jx ?_))))
  obtain rfl := sj hm
  exact pq (v := (.int .i64 0)) (u := (.int .i64 0)) rfl rfl rfl ⟨rfl, d.ex⟩
 refine kg (Wm (Wm (Wa (Wa (lt ?_)))))
 obtain rfl := sj hm
 exact pq (v := (.int .i64 x.1)) (u := (.int .i64 x.2)) rfl rfl rfl ⟨rfl, d.ex⟩
theorem Gy (a : Formula) (H : Value) (r : Bool) (w : World) (t : Sl ju 5 (hp w) H a.Kids) (hm : vU a = some r) :
  jv true pg0 212 [(.agg #[(.int .i64 a.Op), (.int .i64 a.K), (.string a.iR.ja), (.string a.iR.jt), H])] w (.bool r) := by
 refine cG 63 func212 rfl (fun d => sg ?_)
 obtain ⟨A1, c2, rfl⟩ := t.form
 let n := (C1 a.Op a.K a.iR.ja a.iR.jt A1 a.Kids.length c2)
 refine VE (jF d rfl (fun W4 N d => Wa (lr (V (kT (v := (.agg (iT K0).toArray)) uo (ku bo bB (DE _ bB) kr)) (VE (jK d bo (fun W6 L d => VO (jy (.agg (iT K0).toArray) ((iT K0).toArray) d rfl rfl ag (lh K0) nb rfl (fun W7 d => lS (Wf um ?_))))))))))
 refine VB d (Mt Mh) rfl rfl bF (ln (bg (Wi rfl (Wa (ln (CI hm rfl (fun d9 hm => ?_) (fun d9 hm => ?_)))))))
 ·refine sg (Wf wI (VA d (Mt Mh) (iT a.iR) an ag (bS hm fun f7 e5 hm => VE (Eg d gT (pP a.iR _ _  e5) (fun f5 d => Wm (LJ hm (fun d2 E W => ∃ c4, ST true jD w W (hp w) ((N, Ol n 57) :: c4) ∧ E 1 = (.pointer (some ⟨N, 0, none⟩)) ∧ E 2 = (.bool false) ∧ E 17 = (.bool d2)) 5 ?_ (fun d2 J a4 => ?_)))))))
  ·rintro f8 E W ⟨c4, d, e7, c9, e8⟩ e1
   refine Wh e8 (LJ e1 (fun d1 E W => ∃ c5, ST true jD w W (hp w) c5 ∧ E 2 = (.bool false) ∧ E 22 = (.bool d1)) 4 ?_ (fun d1 I a3 => ?_))
   ·rintro f9 E W ⟨c5, d, f6, e9⟩ e2
    refine Wg e9 (lt (ko (jx ?_)))
    obtain rfl := sj e2
    exact rP d
   refine bC I (fun u I => ?_) (fun u I => ?_)
   ·refine ug u (iY wM e7) (ug u (iW rfl (jg d.has Mh rfl bF)) (ug u (kd rfl rfl rfl) (V (jq (cB u) rfl) ?_)))
    obtain rfl := sj I
    exact a3 _ _ ⟨_, (d.iU (Db St)), c9, rfl⟩
   refine un u (un u (un u (V (jn (cB u) rfl) ?_)))
   obtain rfl := sj I
   exact a3 _ _ ⟨_, (d.iU (Db St)), c9, rfl⟩
  refine bC J (fun j J => ?_) (fun j J => ?_)
  ·refine ug j (iY rT rfl) (ug j (iW rfl (jg d.has (Mt Mh) rfl dJ)) (ug j (jO bx rfl t) (ug j (kd rfl rfl rfl) (V (jq (cB j) rfl) ?_))))
   obtain rfl := sj J
   exact a4 _ _ ⟨_, (d.iU (Db St)), rfl, rfl, rfl⟩
  refine un j (un j (un j (un j (V (jn (cB j) rfl) ?_))))
  obtain rfl := sj J
  exact a4 _ _ ⟨_, (d.iU (Db St)), rfl, rfl, rfl⟩
 let a0 := (n.toArray : Array Value)
 let h : Value := (.pointer (some ⟨N, 0, none⟩))
 refine jm (CJ hm (fun R E W => ∃ c6, ST true jD w W (hp w) ((L, Ol (iT K0) 28) :: ((N, Obj.cells a0 57 (0, 0)) :: c6)) ∧ E 1 = h ∧ E 3 = (.pointer (some ⟨L, 0, none⟩)) ∧ E 23 = (.bool R)) (fun R G => ?_) ?_)
 ·refine sg (Wi rfl (Wa (ln (CI G rfl (fun b9 G => ?_) (fun b9 G => ?_)))))
  ·refine kn ?_
   obtain rfl := sj G
   exact ⟨_, (d.iU St), rfl, rfl, rfl⟩
  refine jj (Wi rfl (Wa (ln ?_)))
  obtain rfl := sj G
  exact ⟨_, (d.iU St), rfl, rfl, rfl⟩
 rintro g0 E W ⟨c6, d, Q, d0, f0⟩ K
 refine CI K f0 (fun e0 K => ?_) (fun e0 K => ?_)
 ·refine sg (V (iY wI Q) (VA d (Mt Mh) (iT a.iR) an ag (V (iW d0 (jc d.has Mh (iT K0) rfl an ag)) (V (rn rfl rfl (kV bT) (nE (me _ a.iR K0))) (Wm (LJ K (fun d3 E W => ∃ c7, ST true jD w W (hp w) c7 ∧ E 34 = (.bool d3)) 4 ?_ (fun d3 M a5 => ?_)))))))
  ·rintro g1 E W ⟨c7, d, f1⟩ e3
   refine Wg f1 (lt (ko (jx ?_)))
   obtain rfl := sj e3
   exact rP d
  refine bC M (fun x M => ?_) (fun x M => ?_)
  ·refine ug x (iY wM Q) (ug x (iW rfl (jg d.has (Mt Mh) rfl bF)) (ug x (kd rfl rfl rfl) (V (jq (cB x) rfl) ?_)))
   obtain rfl := sj M
   exact a5 _ _ ⟨_, (d.iU (Db (Db St))), rfl⟩
  refine un x (un x (un x (V (jn (cB x) rfl) ?_)))
  obtain rfl := sj M
  exact a5 _ _ ⟨_, (d.iU (Db (Db St))), rfl⟩
 refine jJ (jI (jb (sg (V (iY um Q) (VB d (Mt Mh) rfl rfl bF (Wi rfl (Wm (LJ K (fun P E W => ∃ c8, ST true jD w W (hp w) ((N, Obj.cells a0 57 (0, 0)) :: c8) ∧ E 1 = h ∧ E 43 = (.bool P)) 5 ?_ (fun P D m => ?_)))))))))
 ·rintro g2 E W ⟨c8, d, a2, d4⟩ e4
  refine Wh d4 (LJ e4 (fun A E W => ∃ o, ST true jD w W (hp w) ((N, Obj.cells a0 57 (0, 0)) :: o) ∧ E 1 = h ∧ E 48 = (.bool A)) 4 ?_ (fun A B Z => ?_))
  ·rintro f2 E W ⟨o, d, T, d5⟩ c0
   refine Wh d5 (LJ c0 (fun s E W => ∃ a9, ST true jD w W (hp w) ((N, Obj.cells a0 57 (0, 0)) :: a9) ∧ E 1 = h ∧ E 56 = (.bool s)) 7 ?_ (fun s z Y => ?_))
   ·rintro f3 E W ⟨a9, d, d6, d7⟩ c1
    refine Wh d7 (LJ c1 (fun q E W => ∃ p, ST true jD w W (hp w) p ∧ E 62 = (.bool q)) 5 ?_ (fun q y U => ?_))
    ·rintro f4 E W ⟨p, d, d8⟩ c3
     exact Wg d8 (lt (rQ c3 d))
    refine bC y (fun g y => ?_) (fun g y => ?_)
    ·refine ug g (iY rT d6) (ug g (iW rfl (jg d.has Mh rfl dJ)) (ug g (jO bx rfl t) (ug g (kd rfl rfl rfl) (V (jq (cB g) rfl) ?_))))
     obtain rfl := sj y
     exact U _ _ ⟨_, (d.iU (Db St)), rfl⟩
    refine un g (un g (un g (un g (V (jn (cB g) rfl) ?_))))
    obtain rfl := sj y
    exact U _ _ ⟨_, (d.iU (Db St)), rfl⟩
   refine bC z (fun c z => ?_) (fun c z => ?_)
   ·refine ug c (iY wM T) (ug c (iW rfl (jg d.has Mh rfl bF)) (ug c (iY rT T) (ug c (iW rfl (jg d.has Mh rfl dJ)) (ug c (jO bx rfl t) (ug c (kd rfl rfl rfl) (V (jq (cB c) rfl) ?_))))))
    obtain rfl := sj z
    exact Y _ _ ⟨_, (d.iU St), T, rfl⟩
   refine un c (un c (un c (un c (un c (un c (V (jn (cB c) rfl) ?_))))))
   obtain rfl := sj z
   exact Y _ _ ⟨_, (d.iU St), T, rfl⟩
  refine bC B (fun i B => ?_) (fun i B => ?_)
  ·refine ug i (iY wM a2) (ug i (iW rfl (jg d.has Mh rfl bF)) (ug i (kd rfl rfl rfl) (V (jq (cB i) rfl) ?_)))
   obtain rfl := sj B
   exact Z _ _ ⟨_, (d.iU St), a2, rfl⟩
  refine un i (un i (un i (V (jn (cB i) rfl) ?_)))
  obtain rfl := sj B
  exact Z _ _ ⟨_, (d.iU St), a2, rfl⟩
 refine bC D (fun k D => ?_) (fun k D => ?_)
 ·refine ug k (iY wI Q) (ug k (iW rfl (jc d.has (Mt Mh) (iT a.iR) rfl an ag)) (ug k (iW d0 (jc d.has Mh (iT K0) rfl an ag)) (ug k (rn rfl rfl (kV bT) (nE (me _ a.iR K0))) (V (jq (cB k) rfl) ?_))))
  obtain rfl := sj D
  exact m _ _ ⟨_, (d.iU (Db St)), Q, rfl⟩
 refine un k (un k (un k (un k (V (jn (cB k) rfl) ?_))))
 obtain rfl := sj D
 exact m _ _ ⟨_, (d.iU (Db St)), Q, rfl⟩
theorem zd (g : Value) (t : List Formula) (j : Value) (z : Formula → Option Bool) (r : Int) (w : World) (c : Sl ju 5 (hp w) g t) (B : Hn pg0 j (hp w) (JN ju) (fun (r : Bool) => (.bool r)) z) (hm : rI t z = some r) :
  jv false pg0 253 [g, j] w (.int .i64 r) := by
 refine cG 19 func253 rfl (fun d => sg (Wa (lS (Wm (V (jO bx rfl c) (Wm (ln (jG (fun i E W => ∃ k, (E 8 = .int .i64 (i : Nat) ∧ E 7 = .int .i64 (t.length : Nat)) ∧ ST false jD w W (hp w) k ∧ E 0 = g ∧ E 1 = j ∧ lK z (t.drop i) i = some r) t.length c.len ⟨_, ⟨rfl, rfl⟩, (d.iU St), rfl, rfl, hm⟩ dc dc dc (fun _ _ _ h => by obtain ⟨_, n, _⟩ := h; exact n) ?_ ?_))))))))
 ·rintro Q E W G ⟨k, ⟨m, o⟩, d, u, x, a⟩
  obtain ⟨y, U, M, K, N⟩ := jB G
  rw [M] at a
  refine bg (Wh m (Wa (lr (Wh x (Wh u (Wm (VQ (uF (i := (Q : Int)) (x0 := y) ju.out bx aP rfl rfl c (ah _) K) (fun Z ⟨_, ⟨T, rfl, J⟩, H⟩ => V (iW rfl (jX d.has H bG aP)) (bS a fun p I a => ?_)))))))))
  refine VE (R0 y d B (js.refl _) (JN.mk ky (ju.mk ⟨T, rfl, J⟩) d.jf) rfl (nr rfl) I (fun Y d => ln (CI a rfl (fun D a => ?_) (fun D a => ?_))))
  ·refine sg (Wm (Wa (lt (ko (jx (ko (jx ?_)))))))
   obtain rfl := sj a
   exact rP d
  exact jJ (jI (jb ⟨m, _, ⟨rfl, o⟩, (d.iU St), u, x, (by rw [N]; exact a)⟩))
 rintro E W ⟨k, ⟨m, o⟩, d, u, x, a⟩
 rw [ai] at a
 exact jb (sg (Wa (lt (rQ a d))))
theorem ya (a : Value) (g : List Formula) (c : Value) (i : Formula → Option Bool) (r : Bool) (w : World) (j : Sl ju 5 (hp w) a g) (k : Hn pg0 c (hp w) (JN ju) (fun (r : Bool) => (.bool r)) i) (hm : mA g i = some r) :
  jv false pg0 213 [a, c] w (.bool r) := by
 refine cG 9 func213 rfl (fun d => sg (Wa (lr (Wm (Wm (bS hm fun x t hm => VE (Eg d call253 (zd a g c i _ _ (j.mono ky.mono d.jf) (k.mono d.jf) t) (fun u d => Wi rfl (Wa (jC ?_))))))))))
 exact jb (jz (rQ hm d))
theorem Dx (i : Formula → Option Bool) (t : ∀ (c : Formula) (a : Value) (r : Bool) (w : World) (g : Sl ju 5 (hp w) a c.Kids), i c = some r → jv false pg0 175 [(.agg #[(.int .i64 c.Op), (.int .i64 c.K), (.string c.iR.ja), (.string c.iR.jt), a])] w (.bool r)) (c : Formula) (a : Value) (r : Bool) (w : World) (g : Sl ju 5 (hp w) a c.Kids) (hm : tl i c = some r) :
  jv false pg0 214 [(.agg #[(.int .i64 c.Op), (.int .i64 c.K), (.string c.iR.ja), (.string c.iR.jt), a])] w (.bool r) := by
 refine cG 6 func214 rfl (fun d => sg ?_)
 obtain ⟨j, k, rfl⟩ := g.form
 refine VE (jF d rfl (fun x z d => Wa (lr (VA d Mh (C1 c.Op c.K c.iR.ja c.iR.jt j c.Kids.length k) bG aP (bS hm fun B u hm => VE (Eg d call175 (t c (.slice j c.Kids.length k) _ _ (g.mono ky.mono d.jf) u) (fun y d => V (lj rfl) (Wa (ln ?_)))))))))
 exact jz (rQ hm d)
theorem Cg (z : Formula → Option Bool) (T : ∀ (a : Formula) (g : Value) (r : Bool) (w : World) (c : Sl ju 5 (hp w) g a.Kids), z a = some r → jv false pg0 175 [(.agg #[(.int .i64 a.Op), (.int .i64 a.K), (.string a.iR.ja), (.string a.iR.jt), g])] w (.bool r)) (a : Formula) (g : Value) (r : Bool) (w : World) (c : Sl ju 5 (hp w) g a.Kids) (hm : uG z a = some r) :
  jv false pg0 175 [(.agg #[(.int .i64 a.Op), (.int .i64 a.K), (.string a.iR.ja), (.string a.iR.jt), g])] w (.bool r) := by
 refine cG 17 func175 rfl (fun d => sg ?_)
 obtain ⟨B, D, rfl⟩ := c.form
 let a0 := (C1 a.Op a.K a.iR.ja a.iR.jt B a.Kids.length D)
 refine VE (jF d rfl (fun W4 U d => Wa (lr (VA d Mh a0 bG aP (bS hm fun A a3 hm => VE (Eg d call212 (jv.kw (Gy a (.slice B a.Kids.length D) _ _ (c.mono ky.mono d.jf) a3)) (fun W7 d => Wm (LJ hm (fun K E W => ∃ G, ST false jD w W (hp w) ((U, Ol a0 57) :: G) ∧ E 1 = (.pointer (some ⟨U, 0, none⟩)) ∧ E 2 = (.bool false) ∧ E 10 = (.bool K)) 5 ?_ (fun K t y => ?_)))))))))
 ·rintro L E W ⟨G, d, Y, I, Z⟩ M
  refine Wh Z (LJ M (fun J E W => ∃ H, ST false jD w W (hp w) H ∧ E 2 = (.bool false) ∧ E 16 = (.bool J)) 5 ?_ (fun J k u => ?_))
  ·rintro s E W ⟨H, d, p, h⟩ N
   exact Wg h (lt (rQ N d))
  refine bC k (fun i k => ?_) (fun i k => ?_)
  ·refine ug i (iY rT Y) (ug i (iW rfl (jg d.has Mh rfl dJ)) (bS k fun q Q k => oH i (Eg d call213 (ya (.slice B a.Kids.length D) a.Kids (.func (.func 214) #[] #[]) (fun (x : Formula) => tl z x) _ _ (c.mono ky.mono d.jf) ⟨214, #[], #[], rfl, call214, fun W x vs r v m hm => by obtain ⟨_, rfl, a2⟩ := m; obtain ⟨o, rfl, n⟩ := a2.out; exact Dx z T x o r W n hm⟩ Q) (fun a5 d => ug i (lj rfl) (V (jq (cB i) rfl) ?_)))))
   obtain rfl := sj k
   exact u _ _ ⟨_, (d.iU (Db St)), I, rfl⟩
  refine un i (un i (un i (un i (V (jn (cB i) rfl) ?_))))
  obtain rfl := sj k
  exact u _ _ ⟨_, (d.iU (Db St)), I, rfl⟩
 refine bC t (fun j t => ?_) (fun j t => ?_)
 ·refine ug j (iY rT rfl) (ug j (iW rfl (jg d.has Mh rfl dJ)) (ug j (jO bx rfl c) (ug j (kd rfl rfl rfl) (V (jq (cB j) rfl) ?_))))
  obtain rfl := sj t
  exact y _ _ ⟨_, (d.iU St), rfl, rfl, rfl⟩
 refine un j (un j (un j (un j (V (jn (cB j) rfl) ?_))))
 obtain rfl := sj t
 exact y _ _ ⟨_, (d.iU St), rfl, rfl, rfl⟩
theorem AX : ∀ (n : Nat) (c : Formula) (a : Value) (r : Bool) (w : World) (g : Sl ju 5 (hp w) a c.Kids) (_ : pQ n c = some r),
  jv false pg0 175 [(.agg #[(.int .i64 c.Op), (.int .i64 c.K), (.string c.iR.ja), (.string c.iR.jt), a])] w (.bool r)
 | 0 => by intros; rename_i h; simp only [pQ] at h; cases h
 | n + 1 => Cg (pQ n) (AX n)
theorem AF (a : Formula) (k : Value) (r : Bool) (w : World) (c : Sl ju 5 (hp w) k a.Kids) (hm : oD a = some r) :
  jv false pg0 110 [(.agg #[(.int .i64 a.Op), (.int .i64 a.K), (.string a.iR.ja), (.string a.iR.jt), k])] w (.bool r) := by
 refine cG 24 func110 rfl (fun d => sg ?_)
 obtain ⟨y, z, rfl⟩ := c.form
 let a0 := (C1 a.Op a.K a.iR.ja a.iR.jt y a.Kids.length z)
 refine VE (jF d rfl (fun W4 H d => Wa (lr (VA d Mh a0 bG aP (bS hm fun p a9 hm => VE (Eg d call174 (GH a (.slice y a.Kids.length z) _ _ (c.mono ky.mono d.jf) a9) (fun W7 d => Wm (Wx rfl (Wx rfl (Wa (Wa (jC ?_))))))))))))
 refine jb (sg (Wm (Wi rfl (Wm (LJ hm (fun Y E W => ∃ I, ST false jD w W (hp w) ((H, Ol a0 57) :: I) ∧ E 1 = (.pointer (some ⟨H, 0, none⟩)) ∧ E 2 = (.bool false) ∧ E 4 = (.int .i64 p.2) ∧ E 15 = (.bool Y)) 3 ?_ (fun Y x G => ?_))))))
 ·rintro P E W ⟨I, d, M, N, a4, a5⟩ Z
  refine Wh a5 (LJ Z (fun U E W => ∃ J, ST false jD w W (hp w) ((H, Ol a0 57) :: J) ∧ E 1 = (.pointer (some ⟨H, 0, none⟩)) ∧ E 2 = (.bool false) ∧ E 19 = (.bool U)) 3 ?_ (fun U u D => ?_))
  ·rintro A E W ⟨J, d, m, Q, n⟩ h
   refine Wh n (LJ h (fun T E W => ∃ K, ST false jD w W (hp w) K ∧ E 2 = (.bool false) ∧ E 23 = (.bool T)) 3 ?_ (fun T j B => ?_))
   ·rintro L E W ⟨K, d, s, o⟩ a2
    exact Wg o (lt (rQ a2 d))
   refine bC j (fun i j => ?_) (fun i j => ?_)
   ·refine ug i (iW m (jc d.has Mh a0 rfl bG aP)) (bS j fun v a3 j => oH i (Eg d call175 ((AX jM) a (.slice y a.Kids.length z) _ _ (c.mono ky.mono d.jf) a3) (fun q d => V (jq (cB i) rfl) ?_)))
    obtain rfl := sj j
    exact B _ _ ⟨_, (d.iU (Db St)), Q, rfl⟩
   refine un i (un i (V (jn (cB i) rfl) ?_))
   obtain rfl := sj j
   exact B _ _ ⟨_, (d.iU (Db St)), Q, rfl⟩
  refine bC u (fun g u => ?_) (fun g u => ?_)
  ·refine ug g (jd a4) (ug g (kd rfl rfl rfl) (V (jq (cB g) rfl) ?_))
   obtain rfl := sj u
   exact D _ _ ⟨_, (d.iU St), M, N, rfl⟩
  refine un g (un g (V (jn (cB g) rfl) ?_))
  obtain rfl := sj u
  exact D _ _ ⟨_, (d.iU St), M, N, rfl⟩
 refine bC x (fun t x => ?_) (fun t x => ?_)
 ·refine ug t (jd rfl) (ug t (kd rfl rfl rfl) (V (jq (cB t) rfl) ?_))
  obtain rfl := sj x
  exact G _ _ ⟨_, (d.iU St), rfl, rfl, rfl, rfl⟩
 refine un t (un t (V (jn (cB t) rfl) ?_))
 obtain rfl := sj x
 exact G _ _ ⟨_, (d.iU St), rfl, rfl, rfl, rfl⟩
theorem Cx (N : Formula → Option (List iR)) (P : ∀ (g : Formula) (k : Value) (r : List iR) (w : World) (j : Sl ju 5 (hp w) k g.Kids), N g = some r → jZ false pg0 243 [(.agg #[(.int .i64 g.Op), (.int .i64 g.K), (.string g.iR.ja), (.string g.iR.jt), k])] w 28 iT 2 r) (g : Formula) (k : Value) (r : List iR) (w : World) (j : Sl ju 5 (hp w) k g.Kids) (hm : uz N g = some r) :
  jZ false pg0 243 [(.agg #[(.int .i64 g.Op), (.int .i64 g.K), (.string g.iR.ja), (.string g.iR.jt), k])] w 28 iT 2 r := by
 refine tS 25 func243 rfl (fun d => sg ?_)
 obtain ⟨A1, c2, rfl⟩ := j.form
 refine VE (jF d rfl (fun W4 b3 d => Wa (lS (Wf um (VB d Mh rfl rfl bF (Wi rfl (ln (CI hm rfl (fun b7 hm => ?_) (fun b7 hm => ?_)))))))))
 ·refine sg (Wf wI (VA d Mh (iT g.iR) an ag (VE (jS (cs := (iT g.iR).toArray) d (ma rfl) (lV al ag bo) (fun W7 s d => Wa (ln ?_))))))
  replace d := d.iU (Kb (Db St))
  refine jz (jx ?_)
  obtain rfl := sj hm
  exact jR (v := (.slice (some ⟨s, 0, none⟩) 1 1)) rfl rfl ⟨_, [(s, Ol (iT g.iR) 28)], rfl, d.ly (fun p m => by rw [aC] at m; subst m; exact Mh) (by simp), (jl.lit (l := [g.iR]) (enc := iT) rfl dc rfl rfl)⟩
 refine kg (Wa (lS (Wf rT (VB d Mh rfl rfl dJ (V (jO bx rfl j) (Wm (jC ?_)))))))
 refine jb ?_
 replace d := d.iU (Db St)
 refine jG (fun i E W => ∃ u D t G H, (E 15 = .int .i64 (i : Nat) ∧ E 14 = .int .i64 (g.Kids.length : Nat)) ∧ js (hp w) G ∧ ST false jD w W G (t ++ H) ∧ E 3 = u ∧ E 13 = (.slice A1 g.Kids.length c2) ∧ jl 28 iT 2 u D t ∧ pp N (g.Kids.drop i) D = some r) g.Kids.length j.len ⟨(.slice none 0 0), ([]), [], (hp w), _, ⟨rfl, rfl⟩, (js.refl _), (d.iU St), rfl, rfl, (jl.nil _ _ _), hm⟩ dc dc dc (fun _ _ _ h => by obtain ⟨_, _, _, _, _, o, _⟩ := h; exact o) ?_ ?_
 ·rintro a7 E W Y ⟨u, D, t, G, H, ⟨n, A⟩, y, d, I, J, x, c⟩
  obtain ⟨a, b9, a3, a2, a4⟩ := jB Y
  rw [a3] at c
  refine bg (VQ (uF (i := (a7 : Int)) (x0 := a) ju.out bx aP J n (j.mono ky.mono y) (ah _) a2) (fun c7 ⟨_, ⟨c9, rfl, K⟩, Z⟩ => V (iW rfl (jX d.has Z bG aP)) (VE (jK d cZ (fun c1 c6 d => ?_)))))
  obtain ⟨z, B, rfl⟩ := K.form
  let a0 := (C1 a.Op a.K a.iR.ja a.iR.jt z a.Kids.length B)
  refine VO (jy (.agg a0.toArray) (a0.toArray) d rfl rfl aP oc nb rfl (fun c3 d => ln (jj (Wh I (VA d Mh a0 bG aP (bS c fun c8 L c => VE (pT d call243 (P a (.slice z a.Kids.length B) _ _ (K.mono ky.mono d.jf) L) (fun c4 a9 b1 c0 d M q Q => ?_))))))))
  replace d := d.perm (Nr (Qr (Qb Qz)) Nz)
  refine bS c fun a8 U c => VE (kX (enc := iT) (v := u) (vs := a9) (R := t) d lp dc lh al nw.1 nw.2.1 rfl nw.2.2.1 nw.2.2.2 rfl rfl x (Q.SD lp d (fun p m => (Ma (Ml m)))) U (fun c5 b0 a5 d T => Wa (jC (jI (jb ?_)))))
  replace d := d.iU (Kr (Dr (Db St)))
  exact ⟨n, b0, a8, a5, b1, _, ⟨rfl, A⟩, (y.trans M), (d.iU St), rfl, J, T, (by rw [a4]; exact c)⟩
 rintro E W ⟨u, D, t, G, H, ⟨n, A⟩, y, d, I, J, x, c⟩
 rw [ai] at c
 refine jb (sg (Wh I (Wa (lt ?_))))
 obtain rfl := sj c
 exact jR (v := u) rfl rfl ⟨_, t, rfl, d.ly (fun p m => (Ml m)) x.nd, x⟩
theorem AV : ∀ (n : Nat) (c : Formula) (a : Value) (r : List iR) (w : World) (g : Sl ju 5 (hp w) a c.Kids) (_ : pC n c = some r),
  jZ false pg0 243 [(.agg #[(.int .i64 c.Op), (.int .i64 c.K), (.string c.iR.ja), (.string c.iR.jt), a])] w 28 iT 2 r
 | 0 => by intros; rename_i h; simp only [pC] at h; cases h
 | n + 1 => Cx (pC n) (AV n)
theorem Dh (g : Value) (i r : List iR) (w : World) (a : Sl (Pl iT) 2 (hp w) g i) (hm : qm i = some r) :
  jZ true pg0 274 [g] w 28 iT 2 r := by
 unfold qm at hm
 refine tS 8 func274 rfl (fun d => sg (Wa (lS (Wm ?_))))
 obtain ⟨y, B, rfl⟩ := a.form
 refine V (AK al rfl rfl) (ln ?_)
 rcases y with _ | z
 ·have u := a.isNil
  replace hm : some [] = some r := by rw [u] at hm; simpa [kR, maxLen] using hm
  refine vN (rfl) (sg (Wa (lt (jx ?_))))
  obtain rfl := sj hm
  exact jR (v := (.slice none 0 0)) rfl rfl ⟨_, [], rfl, d.ly (fun p h => by cases h) (by simp), jl.nil _ _ _⟩
 ·refine nW (rfl) (kg (VE (jS (cs := #[]) d uo (B9 [] al ag bo dc rfl (by simp) rfl rfl) (fun G k d => Wm (bS hm fun H t hm => VE (kX (enc := iT) (v := (.slice (some ⟨k, 0, none⟩) 0 0)) (vs := (.slice (some z) i.length B)) (R := [(k, Ob #[] 28)]) d lp dc lh al nw.1 nw.2.1 rfl nw.2.2.1 nw.2.2.2 rfl rfl (jl.lit (l := []) (enc := iT) rfl dc rfl rfl) (a.mono (Pl.mono _) d.jf) t (fun D x j d c => Wa (lt ?_))))))))
  obtain rfl := sj hm
  exact jR (v := x) rfl rfl ⟨_, j, rfl, d.ly (fun p h => (Ml h)) c.nd, c⟩
theorem wx (g : Value) (t : List iR) (j : Value) (B : iR → Option Bool) (r : Int) (w : World) (c : Sl (Pl iT) 2 (hp w) g t) (D : qt pg0 j (hp w) (fun (x : iR) => [(.agg (iT x).toArray)]) (fun (r : Bool) => (.bool r)) B) (hm : mU t B = some r) :
  jv false pg0 197 [g, j] w (.int .i64 r) := by
 refine cG 19 func197 rfl (fun d => sg (Wa (lS (Wm (V (jO al rfl c) (Wm (ln (jG (fun i E W => ∃ k, (E 8 = .int .i64 (i : Nat) ∧ E 7 = .int .i64 (t.length : Nat)) ∧ ST false jD w W (hp w) k ∧ E 0 = g ∧ E 1 = j ∧ kQ B (t.drop i) i = some r) t.length c.len ⟨_, ⟨rfl, rfl⟩, (d.iU St), rfl, rfl, hm⟩ dc dc dc (fun _ _ _ h => by obtain ⟨_, n, _⟩ := h; exact n) ?_ ?_))))))))
 ·rintro Q E W H ⟨k, ⟨m, o⟩, d, u, y, a⟩
  obtain ⟨z, T, M, K, N⟩ := jB H
  rw [M] at a
  refine bg (Wh m (Wa (lr (Wh y (Wh u (Wm (VQ (kk (enc := iT) (i := (Q : Int)) (x0 := z) al ag rfl rfl c (ah _) K) (fun Y I => V (iW rfl (jX d.has I an ag)) (bS a fun Z J a => ?_)))))))))
  refine VE (xV z d D (js.refl _) rfl (nr rfl) J (fun U d => ln (CI a rfl (fun G a => ?_) (fun G a => ?_))))
  ·refine sg (Wm (Wa (lt (ko (jx (ko (jx ?_)))))))
   obtain rfl := sj a
   exact rP d
  exact jJ (jI (jb ⟨m, _, ⟨rfl, o⟩, (d.iU St), u, y, (by rw [N]; exact a)⟩))
 rintro E W ⟨k, ⟨m, o⟩, d, u, y, a⟩
 rw [ai] at a
 exact jb (sg (Wa (lt (rQ a d))))
theorem Au (j : Value) (a0 : List iR) (t : LO) (H : Value) (f1 : iR → Option Bool) (r : List iR) (w : World) {μ0 : jw} (h0 : nR μ0 (t ++ []) w) (T : jl 28 iT 2 j a0 t) (a4 : qt pg0 H μ0 (fun (x : iR) => [(.agg (iT x).toArray)]) (fun (r : Bool) => (.bool r)) f1) (hm : pz a0 f1 = some r) :
  jY false pg0 273 [j, H] w (t ++ []) (fun v L1 W' => ∃ s S2, v = s ∧ L1 = (S2 ++ []) ∧ jl 28 iT 2 s r S2) := by
 refine wJ h0 42 func273 rfl (fun d => sg (Wa (lr (Wm (Wm (bS hm fun q d3 hm => VE (Eg d call197 (wx j a0 H f1 _ _ (T.sl lp (fun b o h => d.at_ (Ml h))) (a4.mono d.jf) d3) (fun W3 d => Wa (ln ?_)))))))))
 refine jm (sg (Wm (Wi rfl (ln (CI hm rfl (fun d2 hm => ?_) (fun d2 hm => ?_))))))
 ·refine sg (Wm (Wa (lt (jx ?_))))
  obtain rfl := sj hm
  exact jR (v := j) rfl rfl ⟨_, _, rfl, (d.kC (Kr Sn)), j, t, rfl, rfl, T⟩
 refine kS (Wm (Wi rfl (Wa (ln (lc (og (fun m E W => ∃ U I B D a2, ST false (keys (t ++ [])) w W μ0 (I ++ a2) ∧ E 0 = j ∧ E 1 = H ∧ E 5 = (.int .i64 B) ∧ E 6 = (.int .i64 D) ∧ jl 28 iT 2 j U I ∧ lX f1 m U B D = some r) jM ⟨a0, t, q, (wi0 .i64 (q + 1)), _, (d.iU St), rfl, rfl, rfl, rfl, T, hm⟩ ?_))))))
 rintro m E W ⟨U, I, B, D, a2, d, y, Q, G, K, g, a⟩
 cases m with
 | zero => rw [lX] at a; cases a
 | succ c8 =>
  refine jm (sg (Wh K (Wh y (V (lT al rfl g) (Wi rfl (ln (CI a rfl (fun L a => ?_) (fun L a => ?_))))))))
  ·refine kn (jm (CJ a (fun Y E W => ∃ J a3, ST false (keys (t ++ [])) w W μ0 (J ++ a3) ∧ E 0 = j ∧ E 1 = H ∧ E 5 = (.int .i64 Y.2) ∧ E 6 = (.int .i64 D) ∧ jl 28 iT 2 j Y.1 J) (fun Y c => ?_) ?_))
   ·refine bg (Wh y (Wh K (bS c fun k M c => VQ (kY (i := D) (x0 := k) al ag rfl rfl g (kz M) (ke M)) (fun e4 b3 => V (iW rfl (oy d.has (fun p h => (Ml h)) g lp b3 (ke M) an ag)) (VE (jK d bo (fun d7 e2 d => VO (jy (.agg (iT k).toArray) ((iT k).toArray) d rfl rfl ag (lh k) nb rfl (fun d8 d => lr (Wh Q ?_))))))))))
    refine VA d Mh (iT k) an ag (bS c fun e6 b5 c => VE (xV k d a4 (js.refl _) rfl (nr rfl) b5 (fun d9 d => V (lj rfl) (ln (CI c rfl (fun P c => ?_) (fun P c => ?_))))))
    ·refine sg (Wh y (Wh G (VA d Mh (iT k) an ag (bS c fun d0 N c => VQ (kY (i := B) (x0 := d0) al ag rfl rfl g (kz N) (ke N)) (fun e5 b4 => ?_)))))
     replace d := d.perm (Nr (Qb Qz) Nz)
     refine VO (vM (u := (.agg (iT k).toArray)) (x1 := k)  d g lp lh rfl rfl rfl b4 (ke N) ag (fun e0 c1 d A => ln ?_))
     replace d := d.iU (Kr (Db St))
     refine jj (Wh G (Wi rfl (Wa (jC (jI (jb ?_))))))
     obtain rfl := sj c
     exact ⟨c1, _, (d.iU St), y, Q, rfl, K, A⟩
    refine jJ (jI (jb ?_))
    obtain rfl := sj c
    exact ⟨I, _, (d.iU (Db St)), y, Q, G, K, g⟩
   rintro ⟨c7, c9⟩ E W ⟨J, a3, d, c3, c4, c5, c6, b6⟩ R
   exact jj (Wh c6 (Wi rfl (Wa (ln ⟨c8, bk _, c7, J, c9, (wi0 .i64 (D + 1)), _, (d.iU St), c3, c4, c5, rfl, b6, R⟩))))
  refine nt (mH (mH (tK (jb (sg (Wh y (Wh G (bS a fun _ Z a => VQ (qN (i := B) al ag rfl rfl g (pc Z) (oZ Z)) (fun e7 b7 => VO (vc (z := K0)  d g lp lh al bo b7 rfl rfl (fun e1 c2 d a9 => lr (Wh y ?_))))))))))))
  refine Wh G (bS a fun _ n a => VQ (se (i := B) al ag rfl rfl a9 lp (pc n) (oZ n)) (fun a5 b9 => Wa (lt ?_)))
  obtain rfl := sj a
  exact jR (v := a5) rfl rfl ⟨_, _, rfl, (d.kC (Kr Sn)), a5, c2, rfl, rfl, b9⟩
theorem H2 (a : iR) (r : Bool) (w : World) (hm : w8 a = some r) :
  jv true pg0 275 [(.agg (iT a).toArray)] w (.bool r) := by
 refine cG 6 func275 rfl (fun d => sg (VE (jF d rfl (fun g j d => Wa (lr (VA d Mh (iT a) an ag (bS hm fun k c hm => VE (Eg d gT (pP a _ _  c) (fun i d => V (lj rfl) (Wa (jC ?_)))))))))))
 refine jb ?_
 exact jz (rQ hm d)
theorem LR (c : Value) (k : List iR) (a : LO) (g : Value) (t : (iR × iR) → Option Int) (r : List iR) (w : World) {y : jw} (u : nR y (a ++ []) w) (i : jl 28 iT 2 c k a) (j : EN pg0 g y (fun (x : (iR × iR)) => [(.agg (iT x.1).toArray), (.agg (iT x.2).toArray)]) (fun (r : Int) => (.int .i64 r)) t) (hm : wg t k = some r) :
  jY true pg0 276 [c, g] w (a ++ []) (fun v z W' => ∃ S, v = (.tuple #[]) ∧ z = (S ++ []) ∧ jl 28 iT 2 c r S) := EU (P := pg0) (ρ := Nx) Qo 2 an ag iT lp lh u.H u.S i j hm
theorem B7 (j : Value) (a0 : List iR) (x : LO) (r : List iR) (w : World) {μ0 : jw} (h0 : nR μ0 (x ++ []) w) (B : jl 28 iT 2 j a0 x) (hm : rF a0 = some r) :
  jY true pg0 277 [j] w (x ++ []) (fun v L1 W' => ∃ y1 S2, v = y1 ∧ L1 = (S2 ++ []) ∧ jl 28 iT 2 y1 r S2) := by
 refine wJ h0 61 func277 rfl (fun d => sg (Wa (lS (Wm (V (lT al rfl B) (Wi rfl (ln (CI hm rfl (fun g0 hm => ?_) (fun g0 hm => ?_)))))))))
 ·refine sg (Wm (Wa (lt (jx ?_))))
  obtain rfl := sj hm
  exact jR (v := j) rfl rfl ⟨_, _, rfl, (d.kC (Kr Sn)), j, x, rfl, rfl, B⟩
 refine kS (Wa (ln (lc (og (fun m E W => ∃ t b4, ST true (keys (x ++ [])) w W μ0 (x ++ b4) ∧ E 0 = j ∧ E 3 = (.int .i64 t) ∧ mN a0 m t = some r) jM ⟨1, _, (d.iU St), rfl, rfl, hm⟩ ?_))))
 rintro m E W ⟨t, b4, d, D, H, a⟩
 cases m with
 | zero => rw [mN] at a; cases a
 | succ f5 =>
  refine jm (sg (Wh H (Wh D (V (lT al rfl B) (Wi rfl (ln (CI a rfl (fun d0 a => ?_) (fun d0 a => ?_))))))))
  ·refine kn (jm (lc (jm ?_)))
   replace d := d.drew
   have h := d.has.iU (Kr Sn)
   refine jV h jE (X 0 rfl h (jd D) (X 1 rfl h (jd H) (bS a fun c3 Z a => XQ 2 rfl h (kY (i := t) (x0 := c3) al ag rfl rfl B (kz Z) (ke Z)) (fun g7 d6 => XH 3 rfl h (fun _ o => iW rfl (oy o (fun p n => (Ml n)) B lp d6 (ke Z) an ag)) (X 4 rfl h (jd D) (X 5 rfl h (jd H) (X 6 rfl h (kd rfl rfl rfl) (bS a fun c4 q a => XQ 7 rfl h (kY (i := (wi0 .i64 (t - 1))) (x0 := c4) al ag rfl rfl B (kz q) (ke q)) (fun g8 d7 => XH 8 rfl h (fun _ o => iW rfl (oy o (fun p n => (Ml n)) B lp d7 (ke q) an ag)) (X 9 rfl h (rn rfl rfl (kV bT) (nE (me _ c3 c4))) (km kr (jb ?_))))))))))))
   refine CI a rfl (fun d1 a => ?_) (fun d1 a => ?_)
   ·refine sg (Wh D (Wh H (bS a fun _ P a => VQ (qN (i := t) al ag rfl rfl B (pc P) (oZ P)) (fun c1 M => Wa (lS (Wa (ln ?_)))))))
    refine CJ a (fun U E W => ∃ s b5, ST true (keys (x ++ [])) w W μ0 (s ++ b5) ∧ E 0 = j ∧ E 3 = (.int .i64 U.2) ∧ jl 28 iT 2 j U.1 s) (fun U d4 => ?_) ?_
    ·refine lc (og (fun m E W => ∃ A K Y y b6, ST true (keys (x ++ [])) w W μ0 (K ++ b6) ∧ E 0 = j ∧ E 3 = (.int .i64 Y) ∧ E 4 = c1 ∧ E 5 = (.int .i64 y) ∧ jl 28 iT 2 j A K ∧ mG t m A Y y = some U) jM ⟨a0, x, t, 1, _, (d.iU St), D, H, rfl, rfl, B, d4⟩ ?_)
     rintro m E W ⟨A, K, Y, y, b6, d, Q, T, I, J, g, k⟩
     cases m with
     | zero => rw [mG] at k; cases k
     | succ f6 =>
      refine jm (sg (Wh J (Wh I (V (Dv al rfl M g) (Wi rfl (ln (CI k rfl (fun d2 k => ?_) (fun d2 k => ?_))))))))
      ·refine kn (jm (CJ k (fun L E W => ∃ N b7, ST true (keys (x ++ [])) w W μ0 (N ++ b7) ∧ E 0 = j ∧ E 3 = (.int .i64 L.2) ∧ E 4 = c1 ∧ E 5 = (.int .i64 y) ∧ jl 28 iT 2 j L.1 N) (fun L c => ?_) ?_))
       ·refine lc (jm ?_)
        replace d := d.drew
        have h := d.has.iU (Kr Sn)
        refine jV h jE (X 0 rfl h (jd I) (X 1 rfl h (jd J) (bS c fun c6 a2 c => XQ 2 rfl h (qT (i := y) (x0 := c6) al ag rfl rfl g M (kz a2) (ke a2)) (fun g9 d8 => XH 3 rfl h (fun _ o => iW rfl (oy o (fun p n => (Ml n)) g lp d8 (tP (ke a2)) an ag)) (X 4 rfl h (jd I) (X 5 rfl h (jd J) (X 6 rfl h (kd rfl rfl rfl) (bS c fun c7 a3 c => XQ 7 rfl h (qT (i := (wi0 .i64 (y - 1))) (x0 := c7) al ag rfl rfl g M (kz a3) (ke a3)) (fun h1 d9 => XH 8 rfl h (fun _ o => iW rfl (oy o (fun p n => (Ml n)) g lp d9 (tP (ke a3)) an ag)) (X 9 rfl h (Eu rfl rfl (kV bT) (zQ (me _ c6 c7))) (km kr (jb ?_))))))))))))
        refine CI c rfl (fun d3 c => ?_) (fun d3 c => ?_)
        ·refine sg (Wh Q (Wh T (Wh I (Wh J (bS c fun a9 a4 c => VQ (qT (i := y) (x0 := a9) al ag rfl rfl g M (kz a4) (ke a4)) (fun h2 e0 => V (iW rfl (oy d.has (fun p n => (Ml n)) g lp e0 (tP (ke a4)) an ag)) (bS c fun f8 a5 c => VQ (kY (i := Y) (x0 := f8) al ag rfl rfl g (kz a5) (ke a5)) (fun h3 e1 => VO (vM (u := (.agg (iT a9).toArray)) (x1 := a9)  d g lp lh rfl rfl rfl e1 (ke a5) ag (fun g3 e8 d c9 => ln (jj ?_)))))))))))
         refine Wh T (Wi rfl (Wa (jC (jI (jb ?_)))))
         obtain rfl := sj c
         exact ⟨e8, _, (d.iU St), Q, rfl, I, J, c9⟩
        refine jJ (jI (jb ?_))
        obtain rfl := sj c
        exact ⟨K, _, (d.iU St), Q, T, I, J, g⟩
       rintro ⟨f4, f7⟩ E W ⟨N, b7, d, f0, f1, f2, f3, e4⟩ d5
       exact jj (Wh f3 (Wi rfl (Wa (ln ⟨f6, bk _, f4, N, f7, (wi0 .i64 (y + 1)), _, (d.iU St), f0, f1, f2, rfl, e4, d5⟩))))
      refine nt (mH (mH (tK (jb ?_))))
      obtain rfl := sj k
      exact ⟨K, _, (d.iU St), Q, T, g⟩
    rintro ⟨g4, c5⟩ E W ⟨s, b5, d, b9, c0, b3⟩ G
    refine sg (Wh b9 (Wh c0 (bS G fun _ R G => VQ (qN (i := c5) al ag rfl rfl b3 (pc R) (oZ R)) (fun h4 e2 => VO (vc (z := K0)  d b3 lp lh al bo e2 rfl rfl (fun g2 e7 d c8 => lr (Wh b9 (Wh c0 (bS G fun _ b2 G => VQ (se (i := c5) al ag rfl rfl c8 lp (pc b2) (oZ b2)) (fun c2 e3 => ?_))))))))))
    refine Wa (lt (ko (jx (jx (ko (jx ?_))))))
    obtain rfl := sj G
    exact jR (v := c2) rfl rfl ⟨_, _, rfl, (d.kC (Kr Sn)), c2, e7, rfl, rfl, e3⟩
   exact jJ (jI (jb (jj (Wh H (Wi rfl (Wa (ln ⟨f5, bk _, (wi0 .i64 (t + 1)), _, (d.iU St), D, rfl, a⟩)))))))
  refine nt (mH (mH (tK (jb (sg (Wh D (Wa (lt ?_))))))))
  obtain rfl := sj a
  exact jR (v := j) rfl rfl ⟨_, _, rfl, (d.kC (Kr Sn)), j, x, rfl, rfl, B⟩
theorem Lk (i : Value) (t r : List iR) (w : World) (B : Sl (Pl iT) 2 (hp w) i t) (hm : zA t = some r) :
  jZ false pg0 242 [i] w 28 iT 2 r := by
 refine tS 11 func242 rfl (fun d => sg (Wa (lr (Wm (bS hm fun z T hm => VE (pT d call274 (jZ.kw (Dh i t _ _ (B.mono (Pl.mono _) d.jf) T)) (fun W3 A E R8 d a5 s Q => bS hm fun U D hm => ?_)))))))
 refine VE (eM d (Cr Qz Cn) call273 (fun m _ => (Au A z R8 (.func (.func 275) #[] #[]) (fun (x : iR) => w8 x) _ _ m Q ⟨275, #[], #[], rfl, call275, fun W x r y hm => (H2 x r W  hm).kw⟩ D)) ?_)
 rintro _ b5 b9 P d L n h ⟨k, K, a, rfl, I⟩
 obtain rfl := a.symm
 replace d := d.perm (Tr Tn)
 refine Wa (lr (Wm (bS hm fun Y G hm => ?_)))
 refine VE (eM d (Cr Qz Cn) call276 (fun m _ => jY.kw (LR k U K (.func (.func 57) #[] #[]) (fun (x : (iR × iR)) => lP x.1 x.2) _ _ m I ⟨57, #[], rfl, call57, fun W x r y hm => yg x.1 x.2 r W  hm⟩ G)) ?_)
 rintro _ b6 c0 a9 d a2 o h ⟨M, c, rfl, J⟩
 obtain rfl := c.symm
 replace d := d.perm (Tr Tn)
 refine lr (Wm (bS hm fun b4 H hm => ?_))
 refine VE (eM d (Cr Qz Cn) call277 (fun m _ => jY.kw (B7 k Y M _ _ m J H)) ?_)
 rintro _ b7 c1 R d a3 q h ⟨Z, N, g, rfl, j⟩
 obtain rfl := g.symm
 replace d := d.perm (Tr Tn)
 refine Wa (lt ?_)
 obtain rfl := sj hm
 exact jR (v := Z) rfl rfl ⟨_, N, rfl, d.ly (fun p u => (Ml u)) j.nd, j⟩
theorem FD (a : Formula) (g : Value) (r : List iR) (w : World) (c : Sl ju 5 (hp w) g a.Kids) (hm : tF a = some r) :
  jZ false pg0 192 [(.agg #[(.int .i64 a.Op), (.int .i64 a.K), (.string a.iR.ja), (.string a.iR.jt), g])] w 28 iT 2 r := by
 refine tS 6 func192 rfl (fun d => sg ?_)
 obtain ⟨j, k, rfl⟩ := c.form
 refine VE (jF d rfl (fun N T d => Wa (lr (VA d Mh (C1 a.Op a.K a.iR.ja a.iR.jt j a.Kids.length k) bG aP (bS hm fun H y hm => VE (pT d call243 ((AV jM) a (.slice j a.Kids.length k) _ _ (c.mono ky.mono d.jf) y) (fun Q z U I d G m t => bS hm fun K u hm => VE (pT d call242 (Lk z H _ _ (t.sl lp (fun b o h => d.at_ (Ml h))) u) (fun J B M x d D n i => Wa (ln ?_))))))))))
 replace d := d.iU (Kr (Dr (Db St)))
 refine jz ?_
 obtain rfl := sj hm
 exact jR (v := B) rfl rfl ⟨_, x, rfl, d.ly (fun p h => (Ml h)) i.nd, i⟩
theorem CU (I : Value) (K : List iR) (G : Int) (r : List iR) (w : World) (H : Sl (Pl iT) 2 (hp w) I K) (hm : rL K G = some r) :
  jZ true pg0 194 [I, (.int .i64 G)] w 28 iT 2 r := by
 refine tS 26 func194 rfl (fun d => sg (Wa (lr (Wa (lS (Wm ?_))))))
 refine V (jO al rfl H) (Wm (ln (jG (fun i E W => ∃ u B j D, (E 10 = .int .i64 (i : Nat) ∧ E 9 = .int .i64 (K.length : Nat)) ∧ ST true jD w W (hp w) (j ++ D) ∧ E 1 = (.int .i64 G) ∧ E 5 = u ∧ E 8 = I ∧ jl 28 iT 2 u B j ∧ nV G (K.drop i) i B = some r) K.length H.len ⟨(.slice none 0 0), ([]), [], _, ⟨rfl, rfl⟩, (d.iU St), rfl, rfl, rfl, (jl.nil _ _ _), hm⟩ dc dc dc (fun _ _ _ h => by obtain ⟨_, _, _, _, n, _⟩ := h; exact n) ?_ ?_)))
 ·rintro J E W a3 ⟨u, B, j, D, ⟨m, o⟩, d, x, y, z, t, c⟩
  obtain ⟨g, b4, a5, a4, M⟩ := jB a3
  rw [a5] at c
  refine bg (Wh m (VQ (kk (enc := iT) (i := (J : Int)) (x0 := g) al ag z m H (ah _) a4) (fun b3 Y => V (iW rfl (jX d.has Y an ag)) (VE (jK d bo (fun L b2 d => Wa (VO (jy (.agg (iT g).toArray) ((iT g).toArray) d rfl rfl ag (lh g) nb rfl (fun a9 d => lr (Wh x (Wm ?_)))))))))))
  refine bS c fun _ U c => V (Mp (a := G) (b := (J : Int)) rfl rfl (wC U)) (V (FZ (k := .i64) (a := (Int.fdiv G (2 ^ min (Int.toNat (J : Int)) (IntKind.bits .i64)))) (b := 1) (v := (.int .i64 (wi0 .i64 (BitVec.ofInt (IntKind.bits .i64) (Int.fdiv G (2 ^ min (Int.toNat (J : Int)) (IntKind.bits .i64))) &&& BitVec.ofInt (IntKind.bits .i64) 1).toNat))) rfl rfl dc rfl) (Wi rfl (ln (CI c rfl (fun Q c => ?_) (fun Q c => ?_)))))
  ·refine jj (Wh y (VA d Mh (iT g) an ag (VE (jS (cs := (iT g).toArray) d (ma rfl) (lV al ag bo) (fun P a2 d => ?_)))))
   replace d := d.perm (Nr (Qb (Qb Qz)) Nz)
   refine bS c fun q T c => VE (kX (enc := iT) (v := u) (vs := (.slice (some ⟨a2, 0, none⟩) 1 1)) (R := j) d lp dc lh al nw.1 nw.2.1 rfl nw.2.2.1 nw.2.2.2 rfl rfl t (Sl.lit (enc := iT) (l := [g]) lp rfl nb rfl (d.at_ (Ma Mh))) T (fun b1 s Z d N => Wa (jC (jI (jb ?_)))))
   replace d := d.iU (Kr (Db (Db St)))
   exact ⟨m, s, q, Z, _, ⟨rfl, o⟩, (d.iU St), x, rfl, z, N, (by rw [M]; exact c)⟩
  refine jJ (jI (jb ?_))
  replace d := d.iU (Db St)
  exact ⟨m, u, B, j, _, ⟨rfl, o⟩, (d.iU St), x, y, z, t, (by rw [M]; exact c)⟩
 rintro E W ⟨u, B, j, D, ⟨m, o⟩, d, x, y, z, t, c⟩
 rw [ai] at c
 refine jb (sg (Wh y (Wa (lt ?_))))
 obtain rfl := sj c
 exact jR (v := u) rfl rfl ⟨_, j, rfl, d.ly (fun p A => (Ml A)) t.nd, t⟩
theorem Cj (Q : Formula → (iR → Option Bool) → Option Bool) (a5 : ∀ (g : Formula) (k : Value) (t : Value) (J : iR → Option Bool) (r : Bool) (w : World) (c : Sl ju 5 (hp w) k g.Kids) (K : qt pg0 t (hp w) (fun (x : iR) => [(.agg (iT x).toArray)]) (fun (r : Bool) => (.bool r)) J), Q g J = some r → jv false pg0 111 [(.agg #[(.int .i64 g.Op), (.int .i64 g.K), (.string g.iR.ja), (.string g.iR.jt), k]), t] w (.bool r)) (g : Formula) (k t : Value) (J : iR → Option Bool) (r : Bool) (w : World) (c : Sl ju 5 (hp w) k g.Kids) (K : qt pg0 t (hp w) (fun (x : iR) => [(.agg (iT x).toArray)]) (fun (r : Bool) => (.bool r)) J) (hm : uE Q g J = some r) :
  jv false pg0 111 [(.agg #[(.int .i64 g.Op), (.int .i64 g.K), (.string g.iR.ja), (.string g.iR.jt), k]), t] w (.bool r) := by
 refine cG 45 func111 rfl (fun d => sg ?_)
 obtain ⟨A1, c2, rfl⟩ := c.form
 refine VE (jF d rfl (fun W4 p d => Wa (lS (Wf um (VB d Mh rfl rfl bF (Wi rfl (ln (CI hm rfl (fun a9 hm => ?_) (fun a9 hm => ?_)))))))))
 ·refine sg (Wm (Wf wI (VA d Mh (iT g.iR) an ag (bS hm fun r6 A hm => VE (xV g.iR d K (js.refl _) rfl (nr rfl) A (fun W8 d => Wa (ln ?_)))))))
  replace d := d.iU (Db St)
  refine jz (jx ?_)
  obtain rfl := sj hm
  exact rP d
 refine kg (Wa (lS (Wf rT (VB d Mh rfl rfl dJ (V (jO bx rfl c) (Wm (jC ?_)))))))
 refine jb (jG (fun i E W => ∃ z I, (E 18 = .int .i64 (i : Nat) ∧ E 17 = .int .i64 (g.Kids.length : Nat)) ∧ ST false jD w W (hp w) ((p, Ol (C1 g.Op g.K g.iR.ja g.iR.jt A1 g.Kids.length c2) 57) :: I) ∧ E 1 = t ∧ E 2 = (.pointer (some ⟨p, 0, none⟩)) ∧ E 5 = (.int .i64 z) ∧ E 16 = (.slice A1 g.Kids.length c2) ∧ nS Q J g (g.Kids.drop i) z = some r) g.Kids.length c.len ⟨0, _, ⟨rfl, rfl⟩, (d.iU St), rfl, rfl, rfl, rfl, hm⟩ dc dc dc (fun _ _ _ h => by obtain ⟨_, _, n, _⟩ := h; exact n) ?_ ?_)
 ·rintro L E W a4 ⟨z, I, ⟨m, o⟩, d, G, u, y, H, a⟩
  obtain ⟨j, c1, v, s, N⟩ := jB a4
  rw [v] at a
  refine bg (VQ (uF (i := (L : Int)) (x0 := j) ju.out bx aP H m c (ah _) s) (fun b7 ⟨_, ⟨c0, rfl, M⟩, Z⟩ => V (iW rfl (jX d.has Z bG aP)) (VE (jK d cZ (fun P b6 d => ?_)))))
  obtain ⟨B, D, rfl⟩ := M.form
  let a0 := (C1 j.Op j.K j.iR.ja j.iR.jt B j.Kids.length D)
  refine VO (jy (.agg a0.toArray) (a0.toArray) d rfl rfl aP oc nb rfl (fun R d => lr (VA d Mh a0 bG aP (Wh G (bS a fun b9 q a => VE (Eg d call111 (a5 j (.slice B j.Kids.length D) t J _ _ (M.mono ky.mono d.jf) (K.mono d.jf) q) (fun b5 d => ln ?_)))))))
  replace d := d.iU (Db St)
  refine CI a rfl (fun T a => ?_) (fun T a => ?_)
  ·exact jj (Wh y (Wi rfl (Wa (jC (jI (jb ⟨m, (wi0 .i64 (z + 1)), _, ⟨rfl, o⟩, (d.iU St), G, u, rfl, H, (by rw [N]; exact a)⟩))))))
  exact jJ (jI (jb ⟨m, z, _, ⟨rfl, o⟩, (d.iU St), G, u, y, H, (by rw [N]; exact a)⟩))
 rintro E W ⟨z, I, ⟨m, o⟩, d, G, u, y, H, a⟩
 rw [ai] at a
 refine jb (jm (sg (V (iY um u) (VB d Mh rfl rfl bF (ln (bg (Wi rfl (Wa (ln ?_)))))))))
 refine CI a rfl (fun U a => ?_) (fun U a => ?_)
 ·refine sg (Wh y (V (iY rT u) (VB d Mh rfl rfl dJ (V (jO bx rfl c) (Wi rfl (Wa (ln ?_)))))))
  replace d := d.iU (Db St)
  refine jz (ko (jx ?_))
  obtain rfl := sj a
  exact rP d
 refine sg (Wi rfl (Wa (ln (CI a rfl (fun Y a => ?_) (fun Y a => ?_)))))
 ·refine sg (Wh y (Wi rfl (Wa (ln ?_))))
  replace d := d.iU (Db St)
  refine jz (ko (jx ?_))
  obtain rfl := sj a
  exact rP d
 refine jJ (jI (jb (sg (Wh y (V (iY wM u) (VB d Mh rfl rfl bF (Wi rfl (Wa (ln ?_)))))))))
 exact jz (rQ a d)
theorem A8 : ∀ (n : Nat) (c : Formula) (a : Value) (g : Value) (j : iR → Option Bool) (r : Bool) (w : World) (i : Sl ju 5 (hp w) a c.Kids) (k : qt pg0 g (hp w) (fun (x : iR) => [(.agg (iT x).toArray)]) (fun (r : Bool) => (.bool r)) j) (_ : oC n c j = some r),
  jv false pg0 111 [(.agg #[(.int .i64 c.Op), (.int .i64 c.K), (.string c.iR.ja), (.string c.iR.jt), a]), g] w (.bool r)
 | 0 => by intros; rename_i h; simp only [oC] at h; cases h
 | n + 1 => Cj (oC n) (A8 n)
theorem GG (a : Formula) (j k : Value) (G : iR → Option Bool) (r : Bool) (w : World) (c : Sl ju 5 (hp w) j a.Kids) (z : qt pg0 k (hp w) (fun (x : iR) => [(.agg (iT x).toArray)]) (fun (r : Bool) => (.bool r)) G) (hm : sr a G = some r) :
  jv false pg0 48 [(.agg #[(.int .i64 a.Op), (.int .i64 a.K), (.string a.iR.ja), (.string a.iR.jt), j]), k] w (.bool r) := by
 refine cG 16 func48 rfl (fun d => sg ?_)
 obtain ⟨u, y, rfl⟩ := c.form
 let a0 := (C1 a.Op a.K a.iR.ja a.iR.jt u a.Kids.length y)
 refine VE (jF d rfl (fun U Z d => Wa (lr (Wm (V (NI underlying105 z.form rfl rfl) (Wm (Vg rfl rfl (iW rfl (jc d.has Mh a0 rfl bG aP)) (bS hm fun h K hm => ND rfl rfl (Eg d call110 (AF a (.slice u a.Kids.length y) _ _ (c.mono ky.mono d.jf) K) (fun Y d => V (jq rfl rfl) (Wm (LJ hm (fun D E W => ∃ B, ST false jD w W (hp w) B ∧ E 4 = (.bool false) ∧ E 15 = (.bool D)) 4 ?_ (fun D g t => ?_)))))))))))))
 ·rintro T E W ⟨B, d, N, J⟩ H
  exact Wg J (lt (rQ H d))
 refine bC g (fun i g => ?_) (fun i g => ?_)
 ·refine ug i (iW rfl (jc d.has Mh a0 rfl bG aP)) (ug i (jd rfl) (bS g fun Q I g => oH i (Eg d call111 ((A8 jM) a (.slice u a.Kids.length y) k G _ _ (c.mono ky.mono d.jf) (z.mono d.jf) I) (fun M d => V (jq (cB i) rfl) ?_))))
  obtain rfl := sj g
  exact t _ _ ⟨_, (d.iU (Db St)), rfl, rfl⟩
 refine un i (un i (un i (V (jn (cB i) rfl) ?_)))
 obtain rfl := sj g
 exact t _ _ ⟨_, (d.iU (Db St)), rfl, rfl⟩
theorem C9 (j : Value) (t : List iR) (c : iR) (r : Int) (w : World) (g : Sl (Pl iT) 2 (hp w) j t) (hm : ve t c = some r) :
  jv true pg0 247 [j, (.agg (iT c).toArray)] w (.int .i64 r) := by
 refine cG 19 func247 rfl (fun d => sg (VE (jF d rfl (fun Q J d => Wa (lS (Wm (V (jO al rfl g) (Wm (ln ?_)))))))))
 refine jG (fun i E W => ∃ k, (E 8 = .int .i64 (i : Nat) ∧ E 7 = .int .i64 (t.length : Nat)) ∧ ST true jD w W (hp w) ((J, Ol (iT c) 28) :: k) ∧ E 0 = j ∧ E 3 = (.pointer (some ⟨J, 0, none⟩)) ∧ oQ c (t.drop i) i = some r) t.length g.len ⟨_, ⟨rfl, rfl⟩, (d.iU St), rfl, rfl, hm⟩ dc dc dc (fun _ _ _ h => by obtain ⟨_, o, _⟩ := h; exact o) ?_ ?_
 ·rintro K E W B ⟨k, ⟨n, q⟩, d, u, x, a⟩
  obtain ⟨y, M, H, G, I⟩ := jB B
  rw [H] at a
  refine bg (Wh n (Wa (ln (jm ?_))))
  replace d := d.drew
  have m := d.has.iU (Kb Sn)
  refine jV m jE (XH 0 rfl m (fun _ p => iW x (jc p Mh (iT c) rfl an ag)) (X 1 rfl m (jd u) (X 2 rfl m (jd rfl) (XQ 3 rfl m (kk (enc := iT) (i := (K : Int)) (x0 := y) al ag rfl rfl g (ah _) G) (fun N D => XH 4 rfl m (fun _ p => iW rfl (jX p D an ag)) (X 5 rfl m (rn rfl rfl (kV bT) (nE (me _ c y))) (km kr (jb (CI a rfl (fun z a => ?_) (fun z a => ?_))))))))))
  ·refine sg (Wm (Wa (ln ?_)))
   replace d := d.iU (Db St)
   refine jz (ko (jx (ko (jx ?_))))
   obtain rfl := sj a
   exact rP d
  exact jJ (jI (jb ⟨n, _, ⟨rfl, q⟩, (d.iU St), u, x, (by rw [I]; exact a)⟩))
 rintro E W ⟨k, ⟨n, q⟩, d, u, x, a⟩
 rw [ai] at a
 refine jb ?_
 replace d := d.iU (Db St)
 exact sg (Wa (lt (rQ a d)))
theorem BC (a : Value) (g : List iR) (c : iR) (r : Bool) (w : World) (i : Sl (Pl iT) 2 (hp w) a g) (hm : tM g c = some r) :
  jv true pg0 200 [a, (.agg (iT c).toArray)] w (.bool r) := by
 refine cG 9 func200 rfl (fun d => sg (VE (jF d rfl (fun k u d => Wa (lr (Wm (VA d Mh (iT c) an ag (bS hm fun x j hm => VE (Eg d call247 (C9 a g c _ _ (i.mono (Pl.mono _) d.jf) j) (fun t d => Wi rfl (Wa ?_)))))))))))
 refine ln ?_
 exact jz (rQ hm d)
theorem Ln (a : Value) (g : List iR) (c : iR) (r : Bool) (w : World) (i : Sl (Pl iT) 2 (hp w) a g) (hm : zH g c = some r) :
  jv true pg0 149 [a, (.agg (iT c).toArray)] w (.bool r) := by
 refine cG 8 func149 rfl (fun d => sg (VE (jF d rfl (fun k u d => Wa (lr (Wm (VA d Mh (iT c) an ag (bS hm fun x j hm => VE (Eg d call200 (BC a g c _ _ (i.mono (Pl.mono _) d.jf) j) (fun t d => Wa (jC ?_)))))))))))
 refine jb ?_
 exact jz (rQ hm d)
theorem DY (c : iR) (g : Nat) (a : Value) (j : List iR) (r : Bool) (w : World) (k : Sl (Pl iT) 2 (hp w) a j) (i : At (hp w) (.pointer (some ⟨g, 0, none⟩)) [a]) (hm : nN c j = some r) :
  jv true pg0 148 [(.agg (iT c).toArray), (.pointer (some ⟨g, 0, none⟩))] w (.bool r) := by
 refine cG 7 func148 rfl (fun d => sg (VE (jF d rfl (fun u z d => Wa (lr (V (iW rfl (lC d.has (y := a) i dK)) (VA d Mh (iT c) an ag (bS hm fun B t hm => VE (Eg d call149 (Ln a j c _ _ (k.mono (Pl.mono _) d.jf) t) (fun x d => Wa (jC ?_)))))))))))
 refine jb ?_
 exact jz (rQ hm d)
theorem A4 (a : Formula) (g k : Value) (i : List iR) (r : Bool) (w : World) (c : Sl ju 5 (hp w) g a.Kids) (j : Sl (Pl iT) 2 (hp w) k i) (hm : nx a i = some r) :
  jv false pg0 85 [(.agg #[(.int .i64 a.Op), (.int .i64 a.K), (.string a.iR.ja), (.string a.iR.jt), g]), k] w (.bool r) := by
 refine cG 8 func85 rfl (fun d => sg ?_)
 obtain ⟨t, y, rfl⟩ := c.form
 refine VE (jF d rfl (fun H J d => ?_))
 obtain ⟨B, D, rfl⟩ := j.form
 refine VE (jF d rfl (fun I u d => Wa (lr (VA d (Mt Mh) (C1 a.Op a.K a.iR.ja a.iR.jt t a.Kids.length y) bG aP (V (si (by exact nr rfl) rfl) (bS hm fun K z hm => VE (Eg d call48 (GG a (.slice t a.Kids.length y) (.func (.func 148) #[] #[(.pointer (some ⟨u, 0, none⟩))]) (fun (x : iR) => nN x i) _ _ (c.mono ky.mono d.jf) ⟨148, #[], #[(.pointer (some ⟨u, 0, none⟩))], rfl, call148, fun W x r h hm => (DY x u (.slice B i.length D) i r W (j.mono (Pl.mono _) (d.jf.trans h)) (At.of (h _ _ (d.at_ Mh)) _ rfl) hm).kw⟩ z) (fun G d => Wa (ln ?_)))))))))
 exact jz (rQ hm d)
theorem Jr (t : Formula) (b9 a2 : Value) (n : List iR) (r : List Int) (w : World) (b7 : Sl ju 5 (hp w) b9 t.Kids) (e4 : Sl (Pl iT) 2 (hp w) a2 n) (hm : xN t n = some r) :
  jZ false pg0 193 [(.agg #[(.int .i64 t.Op), (.int .i64 t.K), (.string t.iR.ja), (.string t.iR.jt), b9]), a2] w 3 (jN .i64) 1 r := by
 refine tS 64 func193 rfl (fun d => sg ?_)
 obtain ⟨A1, c2, rfl⟩ := b7.form
 let a0 := (C1 t.Op t.K t.iR.ja t.iR.jt A1 t.Kids.length c2)
 refine VE (jF d rfl (fun W4 s d => Wa (lr (Wm (V (jO al rfl e4) (bS hm fun _ m7 hm => V (Ll (a := 1) (b := (n.length : Int)) rfl rfl (wC m7)) (bS hm fun l6 m6 hm => VE (JV (enc := LX) (z := false) d (fun _ => rfl) dc fU Ih.1 Ih.2.1 Ih.2.2.1 Ih.2.2.2 rfl rfl rfl m6 (fun W8 d0 R9 d e8 => Wa (ln ?_))))))))))
 let d1 : Value := (.int .i64 (l6.length : Int))
 refine sg (Wa (lS (Wm (V (lT fU rfl e8) (Wm (ln (jG (fun i E W => ∃ Z c1 D b5 B c4 d6, (E 16 = .int .i64 (i : Nat) ∧ E 15 = .int .i64 (l6.length : Nat)) ∧ js (hp w) c4 ∧ ST false jD w W c4 ((s, Ol a0 57) :: (B ++ (c1 ++ d6))) ∧ E 1 = a2 ∧ E 2 = (.pointer (some ⟨s, 0, none⟩)) ∧ E 5 = d0 ∧ E 6 = D ∧ jl 4 LX 1 d0 Z c1 ∧ jl 3 (jN .i64) 1 D b5 B ∧ pA n t (l6.drop i) i Z b5 = some r) l6.length e8.len ⟨l6, R9, (.slice none 0 0), ([]), [], (hp w), _, ⟨rfl, rfl⟩, (js.refl _), (d.iU (Sb (Pr Pz) St)), rfl, rfl, rfl, rfl, e8, (jl.nil _ _ _), hm⟩ dc dc dc (fun _ _ _ h => by obtain ⟨_, _, _, _, _, _, _, A, _⟩ := h; exact A) ?_ ?_)))))))
 ·let c0 : Value := (.pointer (some ⟨s, 0, none⟩))
  rintro c E W h7 ⟨Z, c1, D, b5, B, c4, d6, ⟨q, L⟩, T, d, c3, d9, e0, e1, c6, a6, x⟩
  let b8 : Value := (.int .i64 (c : Int))
  obtain ⟨o3, n1, i7, m8, e7⟩ := jB h7
  rw [i7] at x
  refine bg (Wh q (Wa (ln (jm ?_))))
  replace d := d.drew
  have m := d.has.iU (Kb Sn)
  refine jV m jE (X 0 rfl m (jd e0) (X 1 rfl m (jd rfl) (XH 2 rfl m (fun _ hS => iW d9 (jc hS Mh a0 rfl bG aP)) (X 3 rfl m (jd c3) (X 4 rfl m (jd rfl) (bS x fun m1 i5 x => XE 5 rfl (pT d call194 (jZ.kw (CU a2 n (c : Int) _ _ (e4.mono (Pl.mono _) (T.trans d.jf)) i5)) (fun n4 m2 a4 n3 d H ab h1 => ?_))))))))
  have m := d.has.pO H (Dr (Kb Sn))
  refine ⟨m, (bS x fun b6 i6 x => XE 6 rfl (Eg d call85 (A4 t (.slice A1 t.Kids.length c2) m2 m1 _ _ (b7.mono ky.mono ((T.trans H).trans d.jf)) (h1.sl lp (fun b o P => d.at_ (Ml P))) i6) (fun n5 d => ?_)))⟩
  have m := d.has.pO H (Dr (Kb Sn))
  refine ⟨m, (bS x fun m4 c7 x => XQ 7 rfl m (kY (i := (c : Int)) (x0 := m4) fU sizeOf4 rfl rfl c6 (kz c7) (ke c7)) (fun o0 i2 => ?_))⟩
  replace d := d.perm (Nr (Qr (Qb (Qr Qz))) Nz)
  refine XO 8 rfl (vM (u := (.bool b6)) (x1 := b6)  d c6 (fun _ => rfl) SN rfl rfl rfl i2 (ke c7) sizeOf4 (fun n6 U d Q => ?_))
  have m := d.has.pO H (Dr (Dr (Kb Sn)))
  refine ⟨m, (km kr (jb ?_))⟩
  replace d := d.iU (Kr (Dr St))
  refine sg (Wa (lS (Wh c3 (V (jO al rfl e4) (Wm (ln (CJ x (fun e6 E W => ∃ e9, ST false jD w W a4 ((s, Ol a0 57) :: (U ++ (B ++ e9))) ∧ E 1 = a2 ∧ E 2 = c0 ∧ E 5 = d0 ∧ E 6 = D ∧ E 7 = b8 ∧ E 8 = (.bool e6) ∧ E 15 = d1 ∧ E 16 = b8) (fun e6 h9 => ?_) ?_)))))))
  ·refine jG (fun i E W => ∃ a3 d7, (E 29 = .int .i64 (i : Nat) ∧ E 28 = .int .i64 (n.length : Nat)) ∧ ST false jD w W a4 ((s, Ol a0 57) :: (U ++ (B ++ d7))) ∧ E 1 = a2 ∧ E 2 = c0 ∧ E 5 = d0 ∧ E 6 = D ∧ E 7 = b8 ∧ E 8 = (.bool a3) ∧ E 15 = d1 ∧ E 16 = b8 ∧ pV c Z b6 (n.drop i) i a3 = some e6) n.length e4.len ⟨false, _, ⟨rfl, rfl⟩, (d.iU (Sb (Pr Pz) St)), c3, d9, e0, e1, rfl, rfl, L, q, h9⟩ dc dc dc (fun _ _ _ h => by obtain ⟨_, _, A, _⟩ := h; exact A) ?_ ?_
   ·rintro N E W h8 ⟨a3, d7, ⟨q, L⟩, d, a9, b0, a7, b1, Y, a8, b2, b4, K⟩
    obtain ⟨o6, n2, i8, m9, i9⟩ := jB h8
    rw [i8] at K
    refine bg (Wh q (Wa (ln (jj (Wh a8 (Wm (LJ K (fun g7 E W => ∃ f1, ST false jD w W a4 ((s, Ol a0 57) :: (U ++ (B ++ f1))) ∧ E 1 = a2 ∧ E 2 = c0 ∧ E 5 = d0 ∧ E 6 = D ∧ E 7 = b8 ∧ E 8 = (.bool a3) ∧ E 15 = d1 ∧ E 16 = b8 ∧ E 28 = (.int .i64 (n.length : Int)) ∧ E 29 = (.int .i64 (N : Int)) ∧ E 48 = (.bool g7)) 15 ?_ (fun g7 M d3 => ?_))))))))
    ·rintro m5 E W ⟨f1, d, j7, j8, j9, k0, k1, n9, k2, k3, k4, k5, k6⟩ i0
     exact Wg k6 (jC (jI (jb ⟨k5, m5, _, ⟨rfl, k4⟩, (d.iU St), j7, j8, j9, k0, k1, rfl, k2, k3, (by rw [i9]; exact i0)⟩)))
    refine bC M (fun g M => ?_) (fun g M => ?_)
    ·refine un g (un g (un g (un g (un g (un g (Vu rfl rfl (Vu rfl rfl (Vu rfl rfl (Vu rfl rfl (Vu rfl rfl (Vu rfl rfl (Vu rfl rfl (un g (V (jq (cB g) rfl) ?_))))))))))))))
     obtain rfl := sj M
     exact d3 _ _ ⟨_, (d.iU St), a9, b0, a7, b1, Y, a8, b2, b4, L, q, rfl⟩
    refine ug g (jd Y) (ug g (jd rfl) (bS M fun _ h5 M => ug g (Mp (a := (c : Int)) (b := (N : Int)) rfl rfl (wC h5)) (ug g (FZ (k := .i64) (a := (Int.fdiv (c : Int) (2 ^ min (Int.toNat (N : Int)) (IntKind.bits .i64)))) (b := 1) (v := (.int .i64 (wi0 .i64 (BitVec.ofInt (IntKind.bits .i64) (Int.fdiv (c : Int) (2 ^ min (Int.toNat (N : Int)) (IntKind.bits .i64))) &&& BitVec.ofInt (IntKind.bits .i64) 1).toNat))) rfl rfl dc rfl) (ug g (kd rfl rfl rfl) (ug g (jd rfl) (LJ M (fun g8 E W => ∃ f2, ST false jD w W a4 ((s, Ol a0 57) :: (U ++ (B ++ f2))) ∧ E 1 = a2 ∧ E 2 = c0 ∧ E 5 = d0 ∧ E 6 = D ∧ E 7 = b8 ∧ E 8 = (.bool a3) ∧ E 15 = d1 ∧ E 16 = b8 ∧ E 28 = (.int .i64 (n.length : Int)) ∧ E 29 = (.int .i64 (N : Int)) ∧ E 33 = (.bool a3) ∧ E 47 = (.bool g8)) 8 ?_ (fun g8 G d4 => ?_)))))))
    ·rintro o7 E W ⟨f2, d, k7, k8, k9, l0, l1, l2, l3, l4, l5, l7, l8, l9⟩ i1
     refine V (jn (l8.trans (cB g)) l9) ?_
     obtain rfl := sj i1
     exact d3 _ _ ⟨_, (d.iU St), k7, k8, k9, l0, l1, l2, l3, l4, l5, l7, rfl⟩
    refine bC G (fun j G => ?_) (fun j G => ?_)
    ·let d5 := (wi0 .i64 (1 * 2 ^ min (Int.toNat (N : Int)) (IntKind.bits .i64)))
     refine ug j (jd a7) (ug j (jd Y) (ug j (jd rfl) (bS G fun _ h6 G => ug j (Ll (a := 1) (b := (N : Int)) rfl rfl (wC h6)) (ug j (QO (k := .i64) (a := (c : Int)) (b := d5) rfl rfl) (bS G fun h0 c9 G => SC j (kY (i := (wi0 .i64 (BitVec.ofInt (IntKind.bits .i64) (c : Int) &&& ~~~ BitVec.ofInt (IntKind.bits .i64) d5).toNat)) (x0 := h0) fU sizeOf4 rfl rfl Q (kz c9) (ke c9)) (fun o2 i4 => ug j (iW rfl (tI d.has (fun p P => (Mt (Ml P))) Q (fun _ => rfl) i4 (ke c9) (y := (.bool h0)) rfl isAgg4)) (ug g (jq (cB j) rfl) ?_)))))))
     obtain rfl := sj G
     exact d4 _ _ ⟨_, (d.iU St), a9, b0, a7, b1, Y, a8, b2, b4, L, q, rfl, rfl⟩
    refine un j (un j (un j (un j (un j (un j (un j (ug g (jn (cB j) rfl) ?_)))))))
    obtain rfl := sj G
    exact d4 _ _ ⟨_, (d.iU St), a9, b0, a7, b1, Y, a8, b2, b4, L, q, rfl, rfl⟩
   rintro E W ⟨a3, d7, ⟨q, L⟩, d, a9, b0, a7, b1, Y, a8, b2, b4, K⟩
   rw [ai] at K
   refine jb ?_
   obtain rfl := sj K
   exact ⟨_, (d.iU St), a9, b0, a7, b1, Y, a8, b2, b4⟩
  rintro o4 E W ⟨e9, d, f3, f4, e2, f5, e3, j4, f6, f7⟩ c5
  refine sg (Wh e2 (Wh e3 (bS c5 fun g9 c8 c5 => VQ (kY (i := (c : Int)) (x0 := g9) fU sizeOf4 rfl rfl Q (kz c8) (ke c8)) (fun o1 i3 => V (iW rfl (tI d.has (fun p P => (Mt (Ml P))) Q (fun _ => rfl) i3 (ke c8) (y := (.bool g9)) rfl isAgg4)) (Wm (LJ c5 (fun g4 E W => ∃ f0, ST false jD w W a4 ((s, Ol a0 57) :: (U ++ (B ++ f0))) ∧ E 1 = a2 ∧ E 2 = c0 ∧ E 5 = d0 ∧ E 6 = D ∧ E 7 = b8 ∧ E 15 = d1 ∧ E 16 = b8 ∧ E 57 = (.bool g4)) 3 ?_ (fun g4 a5 d2 => ?_)))))))
  ·rintro o5 E W ⟨f0, d, f8, f9, g0, g1, j5, g2, g3, j6⟩ J
   refine ln (CI J j6 (fun h3 J => ?_) (fun h3 J => ?_))
   ·refine jj (Wh g1 (Wh j5 (VE (jS (cs := [b8].toArray) d (ma rfl) (lV dA fS zeroValue3) (fun n7 j3 d => ?_)))))
    replace d := d.perm (Nr (Qb (Qb (Qr Qz))) Nz)
    refine bS J fun m0 h4 J => VE (kX (enc := (jN .i64)) (v := D) (vs := (.slice (some ⟨j3, 0, none⟩) 1 1)) (R := B) d (fun _ => rfl) dc (Fw _) dA Ig.1 Ig.2.1 rfl Ig.2.2.1 Ig.2.2.2 rfl rfl a6 (Sl.lit (enc := (jN .i64)) (l := [(c : Int)]) (fun _ => rfl) rfl nb rfl (d.at_ (Ma Mh))) h4 (fun n8 m3 j0 d h2 => Wa (jC (jI (jb ?_)))))
    replace d := d.iU (Kr (Db St))
    exact ⟨g3, (Z.set (Int.toNat (c : Int)) b6), U, m3, m0, j0, a4, _, ⟨rfl, g2⟩, (T.trans H), (d.iU (Sb (Pr Pz) St)), f8, f9, g0, rfl, Q, h2, (by rw [e7]; exact J)⟩
   exact jJ (jI (jb ⟨g3, (Z.set (Int.toNat (c : Int)) b6), U, D, b5, B, a4, _, ⟨rfl, g2⟩, (T.trans H), (d.iU (Kb (Sr (Qr Qz) St))), f8, f9, g0, g1, Q, a6, (by rw [e7]; exact J)⟩))
  refine bC a5 (fun I a5 => ?_) (fun I a5 => ?_)
  ·refine ug I (jd j4) (ug I (lj rfl) (V (jq (cB I) rfl) ?_))
   obtain rfl := sj a5
   exact d2 _ _ ⟨_, (d.iU St), f3, f4, e2, f5, e3, f6, f7, rfl⟩
  refine un I (un I (V (jn (cB I) rfl) ?_))
  obtain rfl := sj a5
  exact d2 _ _ ⟨_, (d.iU St), f3, f4, e2, f5, e3, f6, f7, rfl⟩
 rintro E W ⟨Z, c1, D, b5, B, c4, d6, ⟨q, L⟩, T, d, c3, d9, e0, e1, c6, a6, x⟩
 rw [ai] at x
 refine jb ?_
 replace d := d.iU (Db (Kr (Dr St)))
 refine sg (Wh e1 (Wa (lt ?_)))
 obtain rfl := sj x
 exact jR (v := D) rfl rfl ⟨_, B, rfl, d.ly (fun p P => (Ml P)) a6.nd, a6⟩
theorem L5 (c : Value) (t : List (List iR)) (a : LO) (g : Value) (u : ((List iR) × (List iR)) → Option Int) (r : List (List iR)) (w : World) {i : jw} (y : nR i (a ++ []) w) (j : nu 34 (yL iT 2) 1 i c t a) (k : Sz pg0 g i (yL iT 2) u) (hm : Ew u t = some r) :
  oq true pg0 195 [c, g] w i (a ++ []) (fun v x z => ∃ S, v = (.tuple #[]) ∧ x = (S ++ []) ∧ nu 34 (yL iT 2) 1 z c r S) := Kc (P := pg0) (ρ := M3) QL I3 y j k hm
theorem AG (a : Int) (r : Bool) (w : World) (hm : xK a = some r) :
  jv true pg0 286 [(.int .i64 a)] w (.bool r) := by
 exact cG 6 func286 rfl (fun c => sg (Wa (lr (Wm (Wm (Wi rfl (Wa (lt (rQ hm c)))))))))
theorem EC (a c r : Int) (w : World) (hm : wD a c = some r) :
  jv true pg0 245 [(.int .i64 a), (.int .i64 c)] w (.int .i64 r) := by
 refine cG 20 func245 rfl (fun d => sg (Wa (lr (Wm (bS hm fun B u hm => VE (Eg d call286 (AG a _ _  u) (fun y d => Wa (ln (jm ?_)))))))))
 refine jj (Wm (bS hm fun D x hm => VE (Eg d call286 (AG c _ _  x) (fun z d => Wa (lS (Wm (ln (CI hm rfl (fun j hm => ?_) (fun j hm => ?_)))))))))
 ·refine jm (sg (Wm (ln (CI hm rfl (fun k hm => ?_) (fun k hm => ?_)))))
  ·refine sg (Wa (lt (jx (jx ?_))))
   obtain rfl := sj hm
   exact rP d
  refine kg (Wa (lt (jx ?_)))
  obtain rfl := sj hm
  exact rP d
 refine kS (Wm (ln (CI hm rfl (fun t hm => ?_) (fun t hm => ?_))))
 ·refine sg (Wa (lt (jx ?_)))
  obtain rfl := sj hm
  exact rP d
 refine kS (Wm (Wm (Wi rfl (ln (CI hm rfl (fun g hm => ?_) (fun g hm => ?_))))))
 ·refine sg (Wa (lt (jx ?_)))
  obtain rfl := sj hm
  exact rP d
 refine kS (Wm (Wm (Wi rfl (ln (CI hm rfl (fun i hm => ?_) (fun i hm => ?_))))))
 ·refine sg (Wa (lt (jx ?_)))
  obtain rfl := sj hm
  exact rP d
 exact kg (Wa (lt (rQ hm d)))
theorem rK (t : Value) (J : List iR) (G : Value) (Z : List iR) (H : Value) (f2 : (iR × iR) → Option Int) (r : Int) (w : World) (k : Sl (Pl iT) 2 (hp w) t J) (D : Sl (Pl iT) 2 (hp w) G Z) (a3 : EN pg0 H (hp w) (fun (x : (iR × iR)) => [(.agg (iT x.1).toArray), (.agg (iT x.2).toArray)]) (fun (r : Int) => (.int .i64 r)) f2) (hm : lF J Z f2 = some r) :
  jv true pg0 246 [t, G, H] w (.int .i64 r) := by
 refine cG 39 func246 rfl (fun d => sg (Wa (lS (Wm (V (jO al rfl k) (Wm (ln (jG (fun i E W => ∃ u, (E 13 = .int .i64 (i : Nat) ∧ E 12 = .int .i64 (J.length : Nat)) ∧ ST true jD w W (hp w) u ∧ E 0 = t ∧ E 1 = G ∧ E 2 = H ∧ E 11 = t ∧ kv Z f2 J (J.drop i) i = some r) J.length k.len ⟨_, ⟨rfl, rfl⟩, (d.iU St), rfl, rfl, rfl, rfl, hm⟩ dc dc dc (fun _ _ _ h => by obtain ⟨_, n, _⟩ := h; exact n) ?_ ?_))))))))
 ·rintro Y E W a4 ⟨u, ⟨m, o⟩, d, y, g, z, B, a⟩
  obtain ⟨j, c0, p, a5, q⟩ := jB a4
  rw [p] at a
  refine bg (Wh m (VQ (kk (enc := iT) (i := (Y : Int)) (x0 := j) al ag B m k (ah _) a5) (fun b5 Q => V (iW rfl (jX d.has Q an ag)) (VE (jK d bo (fun s P d => Wa (VO (jy (.agg (iT j).toArray) ((iT j).toArray) d rfl rfl ag (lh j) nb rfl (fun a9 d => lS (Wm ?_))))))))))
  refine Wh g (V (jO al rfl D) (Wi rfl (ln (CI a rfl (fun K a => ?_) (fun K a => ?_)))))
  ·refine sg (Wa (ln ?_))
   replace d := d.iU (Db St)
   refine jz (jx (ko (jx (ko (jx ?_)))))
   obtain rfl := sj a
   exact rP d
  refine kg (Wh g (Wm (bS a fun c I a => VQ (kk (enc := iT) (i := (Y : Int)) (x0 := c) al ag rfl rfl D (kz I) (ke I)) (fun b6 T => V (iW rfl (jX d.has T an ag)) (VE (jK d bo (fun v R d => VO (jy (.agg (iT c).toArray) ((iT c).toArray) d rfl rfl ag (lh c) nb rfl (fun A d => lr ?_)))))))))
  refine Wh z (VA d (Mt Mh) (iT j) an ag (VA d Mh (iT c) an ag (bS a fun b7 U a => VE (RU (j, c) d a3 (js.refl _) rfl (nB rfl rfl) U (fun L d => Wa (ln ?_))))))
  replace d := d.iU (Db (Db St))
  refine sg (Wm (Wi rfl (ln (CI a rfl (fun M a => ?_) (fun M a => ?_)))))
  ·refine sg (Wm (Wa (lt (ko (jx (ko (jx ?_)))))))
   obtain rfl := sj a
   exact rP d
  exact jJ (jI (jb ⟨m, _, ⟨rfl, o⟩, (d.iU St), y, g, z, B, (by rw [q]; exact a)⟩))
 rintro E W ⟨u, ⟨m, o⟩, d, y, g, z, B, a⟩
 rw [ai] at a
 refine jb (jm (sg (Wh y (V (jO al rfl k) (Wh g (V (jO al rfl D) (Wi rfl (ln (CI a rfl (fun N a => ?_) (fun N a => ?_))))))))))
 ·refine sg (Wa (lt (jx ?_)))
  obtain rfl := sj a
  exact rP d
 exact kg (Wa (lt (rQ a d)))
theorem G7 (a : Value) (t : List iR) (c : Value) (u : List iR) (r : Int) (w : World) (g : Sl (Pl iT) 2 (hp w) a t) (i : Sl (Pl iT) 2 (hp w) c u) (hm : sn t u = some r) :
  jv true pg0 196 [a, c] w (.int .i64 r) := by
 refine cG 15 func196 rfl (fun d => sg (Wa (lr (Wm (V (jO al rfl g) (Wm (V (jO al rfl i) (bS hm fun j z hm => VE (Eg d call245 (EC (t.length : Int) (u.length : Int) _ _  z) (fun H d => Wm ?_))))))))))
 refine Wm (bS hm fun k B hm => VE (Eg d call246 (rK a t c u (.func (.func 57) #[] #[]) (fun (x : (iR × iR)) => lP x.1 x.2) _ _ (g.mono (Pl.mono _) d.jf) (i.mono (Pl.mono _) d.jf) ⟨57, #[], rfl, call57, fun W x r h hm => yg x.1 x.2 r W  hm⟩ B) (fun I d => VE (jS (cs := #[(.int .i64 j), (.int .i64 k)]) d (nz rfl rfl) (lV dA fS zeroValue3) (fun J D d => bS hm fun K y hm => VE (Eg d call124 (D1 (.slice (some ⟨D, 0, none⟩) 2 2) ([j, k]) _ _ (Sl.lit (enc := (jN .i64)) (l := [j, k]) (fun _ => rfl) rfl nb rfl (d.at_ Mh)) y) (fun G d => Wa (ln ?_))))))))
 exact jz (rQ hm d)
theorem IT (c : Formula) (H : Value) (r : ((List (List iR)) × Int)) (w : World) {μ0 : jw} (h0 : nR μ0 [] w) (g : Sl ju 5 μ0 H c.Kids) (hm : xI c = some r) :
  oq false pg0 141 [(.agg #[(.int .i64 c.Op), (.int .i64 c.K), (.string c.iR.ja), (.string c.iR.jt), H])] w μ0 [] (fun v L1 μ1 => ∃ y1, v = (.tuple #[y1, (.int .i64 (r.2))]) ∧ L1 = [] ∧ Sl (yL iT 2) 1 μ1 y1 (r.1)) := by
 refine Qy h0 37 func141 rfl (fun d => sg ?_)
 obtain ⟨A1, c2, rfl⟩ := g.form
 let a1 : Value := (.slice A1 c.Kids.length c2)
 let a0 := (C1 c.Op c.K c.iR.ja c.iR.jt A1 c.Kids.length c2)
 refine VE (jF d rfl (fun W4 b3 d => Wa (Wa (lS (VA d Mh a0 bG aP (bS hm fun r5 e7 hm => VE (Eg d call110 (AF c a1 _ _ (g.mono ky.mono d.jf) e7) (fun W7 d => V (lj rfl) (ln (CI hm rfl (fun e6 hm => ?_) (fun e6 hm => ?_)))))))))))
 ·refine sg (Wa (Wa (ln ?_)))
  replace d := d.iU (Db St)
  refine jz (jx ?_)
  obtain rfl := sj hm
  exact pq (v := (.slice none 0 0)) (u := (.int .i64 11)) rfl rfl rfl ⟨_, _, _, rfl, (d.kC Sn), (js.refl _), Lo.refl, (ST.jT d (lm.mem Sn)), (.slice none 0 0), rfl, rfl, (Sl.nil _ _ _)⟩
 refine kg (VA d Mh a0 bG aP (bS hm fun r9 d4 hm => VE (pT d call192 (FD c a1 _ _ (g.mono ky.mono d.jf) d4) (fun h8 b5 i0 e4 d I n a6 => Wa (lS (Wm (V (lT al rfl a6) ?_)))))))
 refine Wi rfl (ln (CI hm rfl (fun d3 hm => ?_) (fun d3 hm => ?_)))
 ·refine sg (Wa (Wa (ln ?_)))
  replace d := d.iU (Dr (Db St))
  refine jz (jx ?_)
  obtain rfl := sj hm
  exact pq (v := (.slice none 0 0)) (u := (.int .i64 12)) rfl rfl rfl ⟨_, _, _, rfl, (d.kC Sn), I, n, (ST.jT d (lm.mem Sn)), (.slice none 0 0), rfl, rfl, (Sl.nil _ _ _)⟩
 refine kg (Wa (lS (VA d (Ma Mh) a0 bG aP (Wm (bS hm fun b4 d5 hm => VE (pT d call193 (Jr c a1 b5 r9 _ _ (g.mono ky.mono (I.trans d.jf)) (a6.sl lp (fun b o R => d.at_ (Ml R))) d5) (fun h9 e8 b6 e5 d a9 q T => V (lT dA rfl T) ?_)))))))
 refine Wm (ln ?_)
 replace d := d.iU (Kr (Kr (Db St)))
 refine jG (fun i E W => ∃ j Q t G a2, (E 20 = .int .i64 (i : Nat) ∧ E 19 = .int .i64 (b4.length : Nat)) ∧ js b6 G ∧ Lo (keys []) w b6 G ∧ ST false (keys []) w W G (t ++ (e5 ++ (e4 ++ a2))) ∧ E 4 = b5 ∧ E 5 = j ∧ E 18 = e8 ∧ nu 34 (yL iT 2) 1 G j Q t ∧ tC r9 (b4.drop i) Q = some r) b4.length T.len ⟨(.slice none 0 0), ([]), [], b6, _, ⟨rfl, rfl⟩, (js.refl _), Lo.refl, (d.iU St), rfl, rfl, rfl, (nu.nil _ _ _ _), hm⟩ dc dc dc (fun _ _ _ h => by obtain ⟨_, _, _, _, _, ab, _⟩ := h; exact ab) ?_ ?_
 ·rintro d6 E W c3 ⟨j, Q, t, G, a2, ⟨eI, eN⟩, k, m, d, a4, N, a5, J, a⟩
  obtain ⟨a7, f0, c9, b0, d0⟩ := jB c3
  rw [c9] at a
  refine bg (VQ (kY (i := (d6 : Int)) (x0 := a7) dA fS a5 eI T (ah _) b0) (fun g7 c4 => V (iW rfl (tI d.has (fun p R => (Ma (Ml R))) T (fun _ => rfl) c4 b0 (y := (.int .i64 a7)) rfl bF)) (Wa (ln (jj (Wh N (Wh a4 (Wm (bS a fun D c5 a => VE (pT d call194 (jZ.kw (CU b5 r9 a7 _ _ (a6.sl lp (fun b o R => d.at_ (Ma (Ma (Ml R))))) c5)) (fun f5 g9 h5 f3 d Y s a8 => ?_)))))))))))
  obtain ⟨K, M, rfl⟩ := a8.form
  refine VE (jS (cs := #[(.slice K D.length M)]) d (ma rfl) (lV gr sizeOf34 zeroValue34) (fun f6 f9 d => ?_))
  replace d := d.perm (Nr (Qb Qz) Nz)
  obtain ⟨e3, d, Z, A, c7⟩ := ST.yk d a8 lp
  replace d := d.perm (Nr (Qb Qz) Nz)
  refine bS a fun d7 c0 a => VE (Np (B := t) I3 d dc gr FR.1 FR.2.1 rfl FR.2.2.1 FR.2.2.2 rfl rfl (J.mono I3 (Y.trans Z)) (KW.lit I3 (l := [D]) (.cons (ys := [(.slice K D.length M)]) ⟨(.slice K D.length M), rfl, c7⟩ .nil) rfl nb (d.at_ (Ma Mh))) c0 (fun f7 d9 d2 d b9 => Wa (jC (jI (jb ?_)))))
  replace d := d.iU (Kr (Db St))
  exact ⟨eI, d9, d7, d2, e3, _, ⟨rfl, eN⟩, ((k.trans Y).trans Z), ((m.trans s).trans A), (d.iU St), a4, rfl, a5, b9, (by rw [d0]; exact a)⟩
 rintro E W ⟨j, Q, t, G, a2, ⟨eI, eN⟩, k, m, d, a4, N, a5, J, a⟩
 rw [ai] at a
 refine jb ?_
 replace d := d.iU (Kr (Dr (Dr St)))
 refine jm (sg (Wh N (V (NP gr rfl J) (Wi rfl (ln (CI a rfl (fun c1 a => ?_) (fun c1 a => ?_)))))))
 ·refine sg (Wa (Wa (ln ?_)))
  replace d := d.iU (Dr St)
  refine jz (jx ?_)
  obtain rfl := sj a
  exact pq (v := (.slice none 0 0)) (u := (.int .i64 12)) rfl rfl rfl ⟨_, _, _, rfl, (d.kC Sn), ((I.trans a9).trans k), ((n.trans q).trans m), (ST.jT d (lm.mem Sn)), (.slice none 0 0), rfl, rfl, (Sl.nil _ _ _)⟩
 refine kg (Wh N (bS a fun g8 c6 a => ?_))
 refine VE (eD d (Cr Qz Cn) call195 (fun hh => oq.kw (L5 j Q t (.func (.func 196) #[] #[]) (fun (x : ((List iR) × (List iR))) => sn x.1 x.2) _ _ hh J ⟨196, #[], rfl, call196, fun W x y z r hs hy hz hm => by obtain ⟨_, e1, h1⟩ := hy; obtain ⟨_, e2, h2⟩ := hz; cases e1; cases e2; exact (G7 y x.1 z x.2 r W h1 h2 hm)⟩ c6)) ?_)
 rintro _ h3 h6 f2 d b1 L ⟨f4, U, rfl, d1⟩
 obtain rfl := U.symm
 replace d := d.perm (Tr Tn)
 refine lr (Wh N (Wa (Wa (lt ?_))))
 obtain rfl := sj a
 refine pq (v := j) (u := (.int .i64 0)) rfl rfl rfl ?_
 obtain ⟨h7, d, b2, P, c8⟩ := ST.SR I3 d d1
 exact ⟨_, _, _, rfl, (d.kC Sn), ((((I.trans a9).trans k).trans b1).trans b2), ((((n.trans q).trans m).trans L).trans P), (ST.jT d (lm.mem Sn)), j, rfl, rfl, c8⟩
theorem uS (a : Value) (g : List iR) (c : Value) (i : iR → Option Bool) (r : Bool) (w : World) (j : Sl (Pl iT) 2 (hp w) a g) (k : qt pg0 c (hp w) (fun (x : iR) => [(.agg (iT x).toArray)]) (fun (r : Bool) => (.bool r)) i) (hm : mg g i = some r) :
  jv false pg0 142 [a, c] w (.bool r) := by
 refine cG 9 func142 rfl (fun d => sg (Wa (lr (Wm (Wm (bS hm fun y t hm => VE (Eg d call197 (wx a g c i _ _ (j.mono (Pl.mono _) d.jf) (k.mono d.jf) t) (fun u d => Wi rfl (Wa (jC ?_))))))))))
 exact jb (jz (rQ hm d))
theorem F2 (c : iR) (g : Nat) (a : Value) (i : iR → Option Bool) (r : Bool) (w : World) (k : qt pg0 a (hp w) (fun (x : iR) => [(.agg (iT x).toArray)]) (fun (r : Bool) => (.bool r)) i) (j : At (hp w) (.pointer (some ⟨g, 0, none⟩)) [a]) (hm : vp c i = some r) :
  jv false pg0 143 [(.agg (iT c).toArray), (.pointer (some ⟨g, 0, none⟩))] w (.bool r) := by
 refine cG 8 func143 rfl (fun d => sg (VE (jF d rfl (fun u B d => Wa (lr (V (iW rfl (lC d.has (y := a) j isAgg105)) (VA d Mh (iT c) an ag (bS hm fun D t hm => VE (xV c d k (js.refl _) rfl (nr rfl) t (fun z d => V (lj rfl) (Wa ?_)))))))))))
 refine ln ?_
 exact jz (rQ hm d)
theorem IX (c : Formula) (t Z : Value) (T : iR → Option Bool) (r : ((List iR) × Bool)) (w : World) {μ0 : jw} (h0 : nR μ0 [] w) (k : Sl ju 5 μ0 t c.Kids) (I : qt pg0 Z μ0 (fun (x : iR) => [(.agg (iT x).toArray)]) (fun (r : Bool) => (.bool r)) T) (hm : xG c T = some r) :
  oq false pg0 72 [(.agg #[(.int .i64 c.Op), (.int .i64 c.K), (.string c.iR.ja), (.string c.iR.jt), t]), Z] w μ0 [] (fun v L1 μ1 => ∃ P, v = (.tuple #[P, (.bool (r.2))]) ∧ L1 = [] ∧ Sl (Pl iT) 2 μ1 P (r.1)) := by
 refine Qy h0 33 func72 rfl (fun d => sg ?_)
 obtain ⟨A1, c2, rfl⟩ := k.form
 refine VE (jF d rfl (fun W4 b3 d => ?_))
 obtain ⟨f5, f6, f7, rfl⟩ := I.form
 refine VE (jF d rfl (fun W9 b8 d => Wa (Wa (lr (VA d (Mt Mh) (C1 c.Op c.K c.iR.ja c.iR.jt A1 c.Kids.length c2) bG aP (bS hm fun U b9 hm => ?_))))))
 refine VE (eD d (cP _) call141 (fun hh => (IT c (.slice A1 c.Kids.length c2) _ _ hh (k.mono ky.mono (js.refl _)) b9)) ?_ (L0 := []))
 rintro _ d8 s d6 d z m ⟨q, J, rfl, K⟩
 obtain rfl := J.symm
 refine Wm (Wx rfl (Wx rfl (Wa (Wa (ln ?_)))))
 replace d := d.iU (Kb (Db St))
 refine jm (sg (Wm (Wi rfl (Wm (LJ hm (fun Y E W => ∃ p, ST false (keys []) w W s ((b8, Ob #[(.func f5 f6 f7)] 105) :: p) ∧ E 3 = (.pointer (some ⟨b8, 0, none⟩)) ∧ E 6 = q ∧ E 20 = (.bool Y)) 3 ?_ (fun Y j G => ?_))))))
 ·let a0 : Value := (.pointer (some ⟨b8, 0, none⟩))
  rintro d9 E W ⟨p, d, c4, c5, c6⟩ B
  refine ln (CI B c6 (fun b6 B => ?_) (fun b6 B => ?_))
  ·refine sg (Wa (Wa (ln ?_)))
   replace d := d.iU (Db St)
   refine jz (jx ?_)
   obtain rfl := sj B
   exact pq (v := (.slice none 0 0)) (u := (.bool false)) rfl rfl rfl ⟨_, _, _, rfl, (d.kC Sn), z, m, (ST.jT d (lm.mem Sn)), (.slice none 0 0), rfl, rfl, (Sl.nil _ _ _)⟩
  refine kS (Wh c5 (V (jO gr rfl K) (Wm (ln (jG (fun i E W => ∃ N, (E 23 = .int .i64 (i : Nat) ∧ E 22 = .int .i64 (U.1.length : Nat)) ∧ ST false (keys []) w W s ((b8, Ob #[(.func f5 f6 f7)] 105) :: N) ∧ E 3 = a0 ∧ E 21 = q ∧ vn T (U.1.drop i) = some r) U.1.length K.len ⟨_, ⟨rfl, rfl⟩, (d.iU St), c4, rfl, B⟩ dc dc dc (fun _ _ _ h => by obtain ⟨_, o, _⟩ := h; exact o) ?_ ?_)))))
  ·rintro c7 E W b7 ⟨N, ⟨n, A⟩, d, Q, H, a⟩
   obtain ⟨a9, d4, c1, c0, c3⟩ := jB b7
   rw [c1] at a
   refine bg (VQ (E6 (enc := iT) (k2 := 2) (i := (c7 : Int)) (x0 := a9) gr sizeOf34 H n K (ah _) c0) (fun d2 ⟨D, a5, M⟩ => V (iW rfl (lC d.has (y := D) a5 dK)) (Wa (lr (Wm (V (si (by exact nr Q) rfl) (bS a fun d3 R a => VE (Eg d call142 (uS D a9 (.func (.func 143) #[] #[a0]) (fun (x : iR) => vp x T) _ _ (M.mono (Pl.mono _) d.jf) ⟨143, #[], #[a0], rfl, call143, fun W x r L hm => F2 x b8 (.func f5 f6 f7) T r W (I.mono ((z.trans d.jf).trans L)) (At.of (L _ _ (d.at_ Mh)) _ rfl) hm⟩ R) (fun d0 d => V (lj rfl) ?_)))))))))
   refine ln (CI a rfl (fun a4 a => ?_) (fun a4 a => ?_))
   ·refine sg (Wm (Wa (Wa (ln ?_))))
    replace d := d.iU (Db St)
    refine jz (ko (jx (ko (jx ?_))))
    obtain rfl := sj a
    exact pq (v := D) (u := (.bool true)) rfl rfl rfl ⟨_, _, _, rfl, (d.kC Sn), z, m, (ST.jT d (lm.mem Sn)), D, rfl, rfl, M⟩
   exact jJ (jI (jb ⟨n, _, ⟨rfl, A⟩, (d.iU St), Q, H, (by rw [c3]; exact a)⟩))
  rintro E W ⟨N, ⟨n, A⟩, d, Q, H, a⟩
  rw [ai] at a
  refine jb ?_
  replace d := d.iU (Db St)
  refine sg (Wa (Wa (lt ?_)))
  obtain rfl := sj a
  exact pq (v := (.slice none 0 0)) (u := (.bool false)) rfl rfl rfl ⟨_, _, _, rfl, (d.kC Sn), z, m, (ST.jT d (lm.mem Sn)), (.slice none 0 0), rfl, rfl, (Sl.nil _ _ _)⟩
 refine bC j (fun g j => ?_) (fun g j => ?_)
 ·refine un g (un g (V (jq (cB g) rfl) ?_))
  obtain rfl := sj j
  exact G _ _ ⟨_, (d.iU St), rfl, rfl, rfl⟩
 refine ug g (iW rfl (jg d.has Mh rfl isAgg105)) (ug g (HE underlying105 I rfl rfl) (V (jn (cB g) rfl) ?_))
 obtain rfl := sj j
 exact G _ _ ⟨_, (d.iU St), rfl, rfl, rfl⟩
theorem Fc (K : Nat) (a : Value) (G : List (iR × (List (ByteArray × Bool)))) (c : Value) (t : List iS) (j : Value) (D : List (iR × (List iS))) (g : Value) (u : List (ByteArray × (List iS))) (i : Value) (B : List iV) (J : Int) (I : iR) (a2 : ByteArray) (r : Bool) (w : World) (H : qZ (fun (x : iR) => (.agg (iT x).toArray)) (kl Value.string (fun (x : Bool) => (Value.bool x))) (hp w) a G) (T : Sl (Pl iX) 9 (hp w) c t) (Z : qZ (fun (x : iR) => (.agg (iT x).toArray)) (jl 108 iX 9) (hp w) j D) (U : qZ Value.string (jl 108 iX 9) (hp w) g u) (Y : Sl (Pl je) 3 (hp w) i B) (Q : At (hp w) (.pointer (some ⟨K, 0, none⟩)) [a, c, j, g, i, (.int .i64 J)]) (hm : qC G t D u B J I a2 = some r) :
  jv true pg0 50 [(.pointer (some ⟨K, 0, none⟩)), (.agg (iT I).toArray), (.string a2)] w (.bool r) := by
 refine cG 19 func50 rfl (fun m => sg (VE (jF m rfl (fun W2 s m => Wa (ln (jm ?_))))))
 replace m := m.drew
 have d := m.has.iU (Kb Sn)
 refine jV d jE (X 0 rfl d (jd rfl) (X 1 rfl d (zI underlying101 rfl rfl) (X 2 rfl d (jd rfl) (Xg 3 rfl rfl rfl d (jd rfl) (Xg 4 rfl rfl rfl d (lb rfl) (Ls 5 rfl kr (.inr ⟨2, true, 9, rfl, rfl, by decide, rfl⟩) rfl dc (fun _ _ h => h) d (vK [a] vV rfl Q rfl) (fun q a3 => xz 6 rfl rfl rfl d (fun _ n => iW rfl (lC n (y := a) a3 gd)) (xz 7 rfl rfl rfl d (fun _ n => iW rfl (jc n Mh (iT I) rfl an ag)) ?_))))))))
 obtain ⟨a4, a5, M, N⟩ := H
 refine xz 8 rfl rfl rfl d (fun _ n => nG (k := I) (z := (.map none)) yX dg dI rfl rfl M (fun b o p => n.1 b o (N b o p))) (Xg 9 rfl rfl rfl d (jd rfl) (xz 10 rfl rfl rfl d (fun _ n => uu (k := a2) (z := false) (vf := (fun (x : Bool) => (Value.bool x))) Gc dR eV rfl rfl ((ll.Cq jr.1 M I N).mono (fun b o p => n.1 b o p))) (X 11 rfl d (jq rfl rfl) (X 12 rfl d (mw rfl) (km kr (jb ?_))))))
 exact jz (rQ hm m)
theorem IF (a0 : iR) (n Z : Nat) (I : Value) (U : List (iR × (List (ByteArray × Bool)))) (g : Value) (G : List iS) (u : Value) (N : List (iR × (List iS))) (i : Value) (H : List (ByteArray × (List iS))) (t : Value) (M : List iV) (h : Int) (o : Nat) (B : ByteArray) (a : Value) (j : List nF) (c : Value) (z : List ux) (k : ByteArray) (a5 : Int) (D : Value) (J : List iS) (T : Value) (a2 : List iS) (K : Value) (Y : List iR) (Q : Value) (m : List iR) (r : Bool) (w : World) (a9 : qZ (fun (x : iR) => (.agg (iT x).toArray)) (kl Value.string (fun (x : Bool) => (Value.bool x))) (hp w) I U) (a3 : Sl (Pl iX) 9 (hp w) g G) (q : qZ (fun (x : iR) => (.agg (iT x).toArray)) (jl 108 iX 9) (hp w) u N) (a4 : qZ Value.string (jl 108 iX 9) (hp w) i H) (p : Sl (Pl je) 3 (hp w) t M) (s : At (hp w) (.pointer (some ⟨Z, 0, none⟩)) [I, g, u, i, t, (.int .i64 h)]) (v : At (hp w) (.pointer (some ⟨n, 0, none⟩)) [(.pointer (some ⟨Z, 0, none⟩))]) (L : Sl tk 15 (hp w) a j) (R : Sl yI 8 (hp w) c z) (W : Sl (Pl iX) 9 (hp w) D J) (c3 : Sl (Pl iX) 9 (hp w) T a2) (b9 : Sl (Pl iT) 2 (hp w) K Y) (c2 : Sl (Pl iT) 2 (hp w) Q m) (c1 : At (hp w) (.pointer (some ⟨o, 0, none⟩)) [(.string B), a, c, (.string k), (.int .i64 a5), D, T, K, Q]) (hm : vI a0 U G N H M h B j z k a5 J a2 Y m = some r) :
  jv true pg0 144 [(.agg (iT a0).toArray), (.pointer (some ⟨n, 0, none⟩)), (.pointer (some ⟨o, 0, none⟩))] w (.bool r) := by
 refine cG 10 func144 rfl (fun d => sg (VE (jF d rfl (fun W2 P d => Wa (lr (V (iW rfl (lC d.has (y := (.pointer (some ⟨Z, 0, none⟩))) v isAgg101)) (VA d Mh (iT a0) an ag (VQ (vK [(.string k)] MI rfl c1 rfl) (fun p3 A => V (iW rfl (lC d.has (y := (.string k)) A aH)) (bS hm fun r6 E hm => VE (Eg d call50 (Fc Z I U g G u N i H t M h a0 k _ _ (a9.mono d.jf) (a3.mono (Pl.mono _) d.jf) (q.mono d.jf) (a4.mono d.jf) (p.mono (Pl.mono _) d.jf) (s.mono d.jf) E) (fun W8 d => ?_))))))))))))
 refine Wa (ln ?_)
 exact jz (rQ hm d)
theorem Da (g : Value) (i r : List iS) (w : World) (a : Sl (Pl iX) 9 (hp w) g i) (hm : qo i = some r) :
  jZ true pg0 113 [g] w 108 iX 9 r := by
 unfold qo at hm
 refine tS 8 func113 rfl (fun d => sg (Wa (lS (Wm ?_))))
 obtain ⟨y, B, rfl⟩ := a.form
 refine V (AK aG rfl rfl) (ln ?_)
 rcases y with _ | z
 ·have u := a.isNil
  replace hm : some [] = some r := by rw [u] at hm; simpa [kR, maxLen] using hm
  refine vN (rfl) (sg (Wa (lt (jx ?_))))
  obtain rfl := sj hm
  exact jR (v := (.slice none 0 0)) rfl rfl ⟨_, [], rfl, d.ly (fun p h => by cases h) (by simp), jl.nil _ _ _⟩
 ·refine nW (rfl) (kg (VE (jS (cs := #[]) d uo (B9 [] aG ak bw dc rfl (by simp) rfl rfl) (fun G k d => Wm (bS hm fun H t hm => VE (kX (enc := iX) (v := (.slice (some ⟨k, 0, none⟩) 0 0)) (vs := (.slice (some z) i.length B)) (R := [(k, Ob #[] 108)]) d kU dc mx aG qe.1 qe.2.1 rfl qe.2.2.1 qe.2.2.2 rfl rfl (jl.lit (l := []) (enc := iX) rfl dc rfl rfl) (a.mono (Pl.mono _) d.jf) t (fun D x j d c => Wa (lt ?_))))))))
  obtain rfl := sj hm
  exact jR (v := x) rfl rfl ⟨_, j, rfl, d.ly (fun p h => (Ml h)) c.nd, c⟩
theorem Az (g : Value) (t : List iS) (j : Value) (B : iS → Option Bool) (r : Int) (w : World) (c : Sl (Pl iX) 9 (hp w) g t) (D : qt pg0 j (hp w) (fun (x : iS) => [(.agg (iX x).toArray)]) (fun (r : Bool) => (.bool r)) B) (hm : sS t B = some r) :
  jv false pg0 176 [g, j] w (.int .i64 r) := by
 refine cG 19 func176 rfl (fun d => sg (Wa (lS (Wm (V (jO aG rfl c) (Wm (ln (jG (fun i E W => ∃ k, (E 8 = .int .i64 (i : Nat) ∧ E 7 = .int .i64 (t.length : Nat)) ∧ ST false jD w W (hp w) k ∧ E 0 = g ∧ E 1 = j ∧ nh B (t.drop i) i = some r) t.length c.len ⟨_, ⟨rfl, rfl⟩, (d.iU St), rfl, rfl, hm⟩ dc dc dc (fun _ _ _ h => by obtain ⟨_, n, _⟩ := h; exact n) ?_ ?_))))))))
 ·rintro Q E W H ⟨k, ⟨m, o⟩, d, u, y, a⟩
  obtain ⟨z, T, M, K, N⟩ := jB H
  rw [M] at a
  refine bg (Wh m (Wa (lr (Wh y (Wh u (Wm (VQ (kk (enc := iX) (i := (Q : Int)) (x0 := z) aG ak rfl rfl c (ah _) K) (fun Y I => V (iW rfl (jX d.has I aS ak)) (bS a fun Z J a => ?_)))))))))
  refine VE (xV z d D (js.refl _) rfl (nr rfl) J (fun U d => ln (CI a rfl (fun G a => ?_) (fun G a => ?_))))
  ·refine sg (Wm (Wa (lt (ko (jx (ko (jx ?_)))))))
   obtain rfl := sj a
   exact rP d
  exact jJ (jI (jb ⟨m, _, ⟨rfl, o⟩, (d.iU St), u, y, (by rw [N]; exact a)⟩))
 rintro E W ⟨k, ⟨m, o⟩, d, u, y, a⟩
 rw [ai] at a
 exact jb (sg (Wa (lt (rQ a d))))
theorem Ap (j : Value) (a0 : List iS) (t : LO) (H : Value) (f1 : iS → Option Bool) (r : List iS) (w : World) {μ0 : jw} (h0 : nR μ0 (t ++ []) w) (T : jl 108 iX 9 j a0 t) (a4 : qt pg0 H μ0 (fun (x : iS) => [(.agg (iX x).toArray)]) (fun (r : Bool) => (.bool r)) f1) (hm : pH a0 f1 = some r) :
  jY false pg0 112 [j, H] w (t ++ []) (fun v L1 W' => ∃ s S2, v = s ∧ L1 = (S2 ++ []) ∧ jl 108 iX 9 s r S2) := by
 refine wJ h0 42 func112 rfl (fun d => sg (Wa (lr (Wm (Wm (bS hm fun q d3 hm => VE (Eg d call176 (Az j a0 H f1 _ _ (T.sl kU (fun b o h => d.at_ (Ml h))) (a4.mono d.jf) d3) (fun W3 d => Wa (ln ?_)))))))))
 refine jm (sg (Wm (Wi rfl (ln (CI hm rfl (fun d2 hm => ?_) (fun d2 hm => ?_))))))
 ·refine sg (Wm (Wa (lt (jx ?_))))
  obtain rfl := sj hm
  exact jR (v := j) rfl rfl ⟨_, _, rfl, (d.kC (Kr Sn)), j, t, rfl, rfl, T⟩
 refine kS (Wm (Wi rfl (Wa (ln (lc (og (fun m E W => ∃ U I B D a2, ST false (keys (t ++ [])) w W μ0 (I ++ a2) ∧ E 0 = j ∧ E 1 = H ∧ E 5 = (.int .i64 B) ∧ E 6 = (.int .i64 D) ∧ jl 108 iX 9 j U I ∧ lW f1 m U B D = some r) jM ⟨a0, t, q, (wi0 .i64 (q + 1)), _, (d.iU St), rfl, rfl, rfl, rfl, T, hm⟩ ?_))))))
 rintro m E W ⟨U, I, B, D, a2, d, y, Q, G, K, g, a⟩
 cases m with
 | zero => rw [lW] at a; cases a
 | succ c8 =>
  refine jm (sg (Wh K (Wh y (V (lT aG rfl g) (Wi rfl (ln (CI a rfl (fun L a => ?_) (fun L a => ?_))))))))
  ·refine kn (jm (CJ a (fun Y E W => ∃ J a3, ST false (keys (t ++ [])) w W μ0 (J ++ a3) ∧ E 0 = j ∧ E 1 = H ∧ E 5 = (.int .i64 Y.2) ∧ E 6 = (.int .i64 D) ∧ jl 108 iX 9 j Y.1 J) (fun Y c => ?_) ?_))
   ·refine bg (Wh y (Wh K (bS c fun k M c => VQ (kY (i := D) (x0 := k) aG ak rfl rfl g (kz M) (ke M)) (fun e4 b3 => V (iW rfl (oy d.has (fun p h => (Ml h)) g kU b3 (ke M) aS ak)) (VE (jK d bw (fun d7 e2 d => VO (jy (.agg (iX k).toArray) ((iX k).toArray) d rfl rfl ak (mx k) nb rfl (fun d8 d => lr (Wh Q ?_))))))))))
    refine VA d Mh (iX k) aS ak (bS c fun e6 b5 c => VE (xV k d a4 (js.refl _) rfl (nr rfl) b5 (fun d9 d => V (lj rfl) (ln (CI c rfl (fun P c => ?_) (fun P c => ?_))))))
    ·refine sg (Wh y (Wh G (VA d Mh (iX k) aS ak (bS c fun d0 N c => VQ (kY (i := B) (x0 := d0) aG ak rfl rfl g (kz N) (ke N)) (fun e5 b4 => ?_)))))
     replace d := d.perm (Nr (Qb Qz) Nz)
     refine VO (vM (u := (.agg (iX k).toArray)) (x1 := k)  d g kU mx rfl rfl rfl b4 (ke N) ak (fun e0 c1 d A => ln ?_))
     replace d := d.iU (Kr (Db St))
     refine jj (Wh G (Wi rfl (Wa (jC (jI (jb ?_))))))
     obtain rfl := sj c
     exact ⟨c1, _, (d.iU St), y, Q, rfl, K, A⟩
    refine jJ (jI (jb ?_))
    obtain rfl := sj c
    exact ⟨I, _, (d.iU (Db St)), y, Q, G, K, g⟩
   rintro ⟨c7, c9⟩ E W ⟨J, a3, d, c3, c4, c5, c6, b6⟩ R
   exact jj (Wh c6 (Wi rfl (Wa (ln ⟨c8, bk _, c7, J, c9, (wi0 .i64 (D + 1)), _, (d.iU St), c3, c4, c5, rfl, b6, R⟩))))
  refine nt (mH (mH (tK (jb (sg (Wh y (Wh G (bS a fun _ Z a => VQ (qN (i := B) aG ak rfl rfl g (pc Z) (oZ Z)) (fun e7 b7 => VO (vc (z := K6)  d g kU mx aG bw b7 rfl rfl (fun e1 c2 d a9 => lr (Wh y ?_))))))))))))
  refine Wh G (bS a fun _ n a => VQ (se (i := B) aG ak rfl rfl a9 kU (pc n) (oZ n)) (fun a5 b9 => Wa (lt ?_)))
  obtain rfl := sj a
  exact jR (v := a5) rfl rfl ⟨_, _, rfl, (d.kC (Kr Sn)), a5, c2, rfl, rfl, b9⟩
theorem HK (a : iS) (r : Bool) (w : World) (hm : wY a = some r) :
  jv true pg0 114 [(.agg (iX a).toArray)] w (.bool r) := by
 refine cG 6 func114 rfl (fun d => sg (VE (jF d rfl (fun g j d => Wa (lr (VA d Mh (iX a) aS ak (bS hm fun k c hm => VE (Eg d iD (rf a _ _  c) (fun i d => V (lj rfl) (Wa (jC ?_)))))))))))
 refine jb ?_
 exact jz (rQ hm d)
theorem Lw (c : Value) (k : List iS) (a : LO) (g : Value) (t : (iS × iS) → Option Int) (r : List iS) (w : World) {y : jw} (u : nR y (a ++ []) w) (i : jl 108 iX 9 c k a) (j : EN pg0 g y (fun (x : (iS × iS)) => [(.agg (iX x.1).toArray), (.agg (iX x.2).toArray)]) (fun (r : Int) => (.int .i64 r)) t) (hm : wg t k = some r) :
  jY true pg0 116 [c, g] w (a ++ []) (fun v z W' => ∃ S, v = (.tuple #[]) ∧ z = (S ++ []) ∧ jl 108 iX 9 c r S) := EU (P := pg0) (ρ := MC) QP 9 aS ak iX kU mx u.H u.S i j hm
theorem oF (t : Nat) (j : Value) (G : List Int) (i : LO) (h : Int) (r : (Bool × (List Int))) (w : World) {μ0 : jw} (s : nR μ0 ((t, Ob #[j] 81) :: (i ++ [])) w) (y : jl 5 (jN .u8) 1 j G i) (hm : kI G h = some r) :
  jY true pg0 93 [(.pointer (some ⟨t, 0, none⟩)), (.int .i64 h)] w ((t, Ob #[j] 81) :: (i ++ [])) (fun v L1 W' => ∃ n S2, v = (.bool (r.1)) ∧ L1 = ((t, Ob #[n] 81) :: (S2 ++ [])) ∧ jl 5 (jN .u8) 1 n r.2 S2) := by
 refine wJ s 38 func93 rfl (fun d => sg (Wa (lS (Wm (V (qS dL rfl rfl) (Wm (Vg rfl rfl (jd rfl) (Vg rfl rfl (kd rfl rfl rfl) (V (jn rfl rfl) ?_)))))))))
 refine ln (CI hm rfl (fun a9 hm => ?_) (fun a9 hm => ?_))
 ·refine sg (Wa (lt (jx ?_)))
  obtain rfl := sj hm
  exact jR (v := (.bool false)) rfl rfl ⟨_, _, rfl, (d.kC (Kb (Kr Sn))), j, i, rfl, rfl, y⟩
 refine kn (jm (lc (og (fun m E W => ∃ c z U u a0, ST true (keys ((t, Ob #[j] 81) :: (i ++ []))) w W μ0 ((t, Ob #[z] 81) :: (u ++ a0)) ∧ E 0 = (.pointer (some ⟨t, 0, none⟩)) ∧ E 1 = (.int .i64 c) ∧ jl 5 (jN .u8) 1 z U u ∧ mu m c U = some r) jM ⟨h, j, G, i, _, (d.iU St), rfl, rfl, y, hm⟩ ?_)))
 rintro m E W ⟨c, z, U, u, a0, d, x, K, T, g⟩
 cases m with
 | zero => rw [mu] at g; cases g
 | succ q =>
  refine jm (sg (Wh K (Wi rfl (ln (CI g rfl (fun o g => ?_) (fun o g => ?_))))))
  ·refine kn (jm (lc (jj (Wh x (Wh x (Wn (Wf xF (VB d Mh rfl rfl fD (Wh K (V (Ed (k' := .i64) (a := c) gS gb rfl) (V (FZ (k := .u8) (a := (IntKind.u8.wrap c)) (b := 128) (v := (.int .u8 (IntKind.u8.wrap (BitVec.ofInt (IntKind.bits .u8) (IntKind.u8.wrap c) ||| BitVec.ofInt (IntKind.bits .u8) 128).toNat))) rfl rfl dc rfl) (VE (jS (cs := [(.int .u8 (IntKind.u8.wrap (BitVec.ofInt (IntKind.bits .u8) (IntKind.u8.wrap c) ||| BitVec.ofInt (IntKind.bits .u8) 128).toNat))].toArray) d (ma rfl) (lV bI iB zeroValue5) (fun c3 p d => ?_))))))))))))))
   replace d := d.perm (Nr (Qb (Qb Qz)) Nz)
   refine bS g fun Q Y g => VE (kX (enc := (jN .u8)) (v := z) (vs := (.slice (some ⟨p, 0, none⟩) 1 1)) (R := u) d (fun _ => rfl) dc (Fw _) bI ru.1 ru.2.1 rfl ru.2.2.1 ru.2.2.2 rfl rfl T (Sl.lit (enc := (jN .u8)) (l := [(IntKind.u8.wrap (BitVec.ofInt (IntKind.bits .u8) (IntKind.u8.wrap c) ||| BitVec.ofInt (IntKind.bits .u8) 128).toNat)]) (fun _ => rfl) rfl nb rfl (d.at_ (Ma Mh))) Y (fun A c1 a2 d M => Wn (Wf xF ?_)))
   obtain ⟨B, H, rfl⟩ := M.form
   replace d := d.perm (Nb (Pr (Pb Pz)) Nz)
   refine VO (jy (.slice B Q.length H) (#[(.slice B Q.length H)]) d rfl rfl gI oc nb rfl (fun L d => jC (jI (jb ?_))))
   replace d := d.iU (Kb (Kr (Db St)))
   exact jj (Wh K (V (Mp (a := c) (b := 7) rfl rfl dc) (Wa (ln ⟨q, bk _, (Int.fdiv c (2 ^ min (Int.toNat 7) (IntKind.bits .i64))), (.slice B Q.length H), Q, a2, _, (d.iU St), x, rfl, M, g⟩))))
  refine nt (mH (mH (tK (jb (sg (Wh x (Wh x (Wn (Wf xF (VB d Mh rfl rfl fD (Wh K (V (Ed (k' := .i64) (a := c) gS gb rfl) (VE (jS (cs := [(.int .u8 (IntKind.u8.wrap c))].toArray) d (ma rfl) (lV bI iB zeroValue5) (fun P a5 d => ?_)))))))))))))))
  replace d := d.perm (Nr (Qb (Qb Qz)) Nz)
  refine bS g fun J Z g => VE (kX (enc := (jN .u8)) (v := z) (vs := (.slice (some ⟨a5, 0, none⟩) 1 1)) (R := u) d (fun _ => rfl) dc (Fw _) bI ru.1 ru.2.1 rfl ru.2.2.1 ru.2.2.2 rfl rfl T (Sl.lit (enc := (jN .u8)) (l := [(IntKind.u8.wrap c)]) (fun _ => rfl) rfl nb rfl (d.at_ (Ma Mh))) Z (fun b7 c2 a3 d N => Wn (Wf xF ?_)))
  obtain ⟨D, I, rfl⟩ := N.form
  replace d := d.perm (Nb (Pr (Pb Pz)) Nz)
  refine VO (jy (.slice D J.length I) (#[(.slice D J.length I)]) d rfl rfl gI oc nb rfl (fun b9 d => ln ?_))
  replace d := d.iU (Kb (Kr (Db St)))
  refine sg (Wa (lt ?_))
  obtain rfl := sj g
  exact jR (v := (.bool true)) rfl rfl ⟨_, _, rfl, (d.kC (Kb (Kr Sn))), (.slice D J.length I), a3, rfl, rfl, N⟩
theorem EG (g : Nat) (c : Value) (j : List Int) (a : LO) (u : Value) (D : List Int) (r : (Bool × (List Int))) (w : World) {Z : jw} (m : nR Z ((g, Ob #[c] 81) :: (a ++ [])) w) (i : jl 5 (jN .u8) 1 c j a) (k : Sl (Pl (jN .u8)) 1 Z u D) (hm : ub j D = some r) :
  jY true pg0 206 [(.pointer (some ⟨g, 0, none⟩)), u] w ((g, Ob #[c] 81) :: (a ++ [])) (fun v L1 W' => ∃ U M, v = (.bool (r.1)) ∧ L1 = ((g, Ob #[U] 81) :: (M ++ [])) ∧ jl 5 (jN .u8) 1 U r.2 M) := by
 refine wJ m 25 func206 rfl (fun d => sg (Wa (lS (Wm (V (qS dL rfl rfl) (Wm (Vg rfl rfl (jd rfl) (Vg rfl rfl (jO bI rfl k) (Vg rfl rfl (kd rfl rfl rfl) ?_)))))))))
 refine V (jn rfl rfl) (ln (CI hm rfl (fun Q hm => ?_) (fun Q hm => ?_)))
 ·refine sg (Wa (lt (jx ?_)))
  obtain rfl := sj hm
  exact jR (v := (.bool false)) rfl rfl ⟨_, _, rfl, (d.kC (Kb (Kr Sn))), c, a, rfl, rfl, i⟩
 refine kg (Wm (Wm (V (jO bI rfl k) (bS hm fun s T hm => ?_))))
 refine VE (eM d (Cb Pz (Cr Qz Cn)) call93 (fun n _ => (oF g c j a (D.length : Int) _ _ n i T)) ?_)
 rintro _ A p a3 d H o h ⟨Y, K, t, rfl, I⟩
 obtain rfl := t.symm
 replace d := d.perm (Tb (Tr Tn))
 refine lr (Wm (Wm (Wn (Wf xF (VB d Mh rfl rfl fD (Wm ?_))))))
 replace d := d.perm (Nr (Qb Qz) Nz)
 refine bS hm fun B G hm => VE (kX (enc := (jN .u8)) (v := Y) (vs := u) (R := K) d (fun _ => rfl) dc (Fw _) bI ru.1 ru.2.1 rfl ru.2.2.1 ru.2.2.2 rfl rfl I (k.mono (Pl.mono _) (H.trans d.jf)) G (fun a4 q J d z => Wn (Wf xF ?_)))
 obtain ⟨x, y, rfl⟩ := z.form
 replace d := d.perm (Nb (Pr Pz) Nz)
 refine VO (jy (.slice x B.length y) (#[(.slice x B.length y)]) d rfl rfl gI oc nb rfl (fun a5 d => lr (Wa (lt ?_))))
 obtain rfl := sj hm
 exact jR (v := (.bool true)) rfl rfl ⟨_, _, rfl, (d.kC (Kb (Kr Sn))), (.slice x B.length y), J, rfl, rfl, z⟩
theorem vz (j : Nat) (c : Value) (t : List Int) (a : LO) (J : ByteArray) (r : (Bool × (List Int))) (w : World) {Z : jw} (L : nR Z ((j, Ob #[c] 81) :: (a ++ [])) w) (k : jl 5 (jN .u8) 1 c t a) (hm : oT t J = some r) :
  jY true pg0 162 [(.pointer (some ⟨j, 0, none⟩)), (.string J)] w ((j, Ob #[c] 81) :: (a ++ [])) (fun v L1 W' => ∃ p S2, v = (.bool (r.1)) ∧ L1 = ((j, Ob #[p] 81) :: (S2 ++ [])) ∧ jl 5 (jN .u8) 1 p r.2 S2) := by
 refine wJ L 17 func162 rfl (fun d => sg (Wa (lr (Wm (V (zI dL rfl rfl) (Wm (Vg rfl rfl (jd rfl) (bS hm fun r1 a4 hm => ND rfl rfl (Eg d iC (qU J _ _  a4) (fun W3 d => V (jq rfl rfl) ?_))))))))))
 refine Wm (LJ hm (fun B E W => ∃ z x D I, js Z D ∧ ST true (keys ((j, Ob #[c] 81) :: (a ++ []))) w W D ((j, Ob #[z] 81) :: (x ++ I)) ∧ E 4 = (.bool false) ∧ E 16 = (.bool B.1) ∧ jl 5 (jN .u8) 1 z B.2 x) 5 ?_ (fun B g y => ?_))
 ·rintro ⟨s, c0⟩ E W ⟨z, x, D, I, R, d, b9, a3, T⟩ M
  refine Wg a3 (lt ?_)
  obtain rfl := sj M
  exact jR (v := (.bool s)) rfl rfl ⟨_, _, rfl, (d.kC (Kb (Kr Sn))), z, x, rfl, rfl, T⟩
 refine bC g (fun i g => ?_) (fun i g => ?_)
 ·refine ug i (jd rfl) (ug i (jd rfl) (bS g fun a5 N g => oH i (HB d aU bI gb rfl N (fun b6 q c3 d G n U b4 => bS g fun c1 Q g => ?_))))
  refine oH i (eM d (Cb Pz (Cr Qz Cn)) call206 (fun P m => (EG j c t a q a5 _ _ P k (U.mono (Pl.mono _) m) Q)) ?_)
  rintro _ c2 A b5 d H o h ⟨a9, a2, u, rfl, Y⟩
  obtain rfl := u.symm
  replace d := d.perm (Tb (Tr Tn))
  refine V (jq (cB i) rfl) ?_
  obtain rfl := sj g
  exact y _ _ ⟨a9, a2, A, _, (G.trans H), (d.iU St), rfl, rfl, Y⟩
 refine un i (un i (un i (un i (V (jn (cB i) rfl) ?_))))
 obtain rfl := sj g
 exact y _ _ ⟨c, a, Z, _, (js.refl _), (d.iU St), rfl, rfl, k⟩
theorem uq (c : Nat) (i : Value) (D : List Int) (a : LO) (x : iR) (r : (Bool × (List Int))) (w : World) {μ0 : jw} (h0 : nR μ0 ((c, Ob #[i] 81) :: (a ++ [])) w) (y : jl 5 (jN .u8) 1 i D a) (hm : mK D x = some r) :
  jY true pg0 94 [(.pointer (some ⟨c, 0, none⟩)), (.agg (iT x).toArray)] w ((c, Ob #[i] 81) :: (a ++ [])) (fun v L1 W' => ∃ s S2, v = (.bool (r.1)) ∧ L1 = ((c, Ob #[s] 81) :: (S2 ++ [])) ∧ jl 5 (jN .u8) 1 s r.2 S2) := by
 let n := ((c, Ob #[i] 81) :: (a ++ []))
 refine wJ h0 23 func94 rfl (fun d => sg (VE (jF d rfl (fun W2 o d => Wa (lr (Wm (V (zI dL rfl rfl) (Wm (Vg rfl rfl (iW rfl (jc d.has Mh (iT x) rfl an ag)) (bS hm fun r3 c4 hm => ND rfl rfl (Eg d gT (pP x _ _  c4) (fun W5 d => ?_))))))))))))
 refine V (jq rfl rfl) (Wm (LJ hm (fun T E W => ∃ z u B a0, js μ0 B ∧ ST true (keys n) w W B ((o, Ol (iT x) 28) :: ((c, Ob #[z] 81) :: (u ++ a0))) ∧ E 0 = (.pointer (some ⟨c, 0, none⟩)) ∧ E 3 = (.pointer (some ⟨o, 0, none⟩)) ∧ E 4 = (.bool false) ∧ E 16 = (.bool T.1) ∧ jl 5 (jN .u8) 1 z T.2 u) 5 ?_ (fun T t K => ?_)))
 ·rintro ⟨e6, c5⟩ E W ⟨z, u, B, a0, d2, d, c0, c1, a3, c2, N⟩ A
  refine Wh c2 (LJ A (fun Q E W => ∃ M I U a2, js B U ∧ ST true (keys n) w W U ((c, Ob #[M] 81) :: (I ++ a2)) ∧ E 4 = (.bool false) ∧ E 22 = (.bool Q.1) ∧ jl 5 (jN .u8) 1 M Q.2 I) 5 ?_ (fun Q k J => ?_))
  ·rintro ⟨c6, e1⟩ E W ⟨M, I, U, a2, d3, d, e0, c3, R⟩ L
   refine Wg c3 (lt ?_)
   obtain rfl := sj L
   exact jR (v := (.bool c6)) rfl rfl ⟨_, _, rfl, (d.kC (Kb (Kr Sn))), M, I, rfl, rfl, R⟩
  refine bC k (fun g k => ?_) (fun g k => ?_)
  ·refine ug g (jd c0) (ug g (iY tA c1) (ug g (iW rfl (jg d.has Mh rfl aH)) (bS k fun e2 P k => ?_)))
   refine oH g (eM d (Cb (Pb Pz) (Cr (Qb Qz) Cn)) call162 (fun m _ => (vz c z c5 u x.jt _ _ m N P)) ?_)
   rintro _ e4 d0 d6 d Y p h ⟨c8, b6, G, rfl, b2⟩
   obtain rfl := G.symm
   replace d := d.perm (Tb (Tr Tn))
   refine V (jq (cB g) rfl) ?_
   obtain rfl := sj k
   exact J _ _ ⟨c8, b6, d0, _, Y, (d.iU (Kb (Kr (Db St)))), a3, rfl, b2⟩
  refine un g (un g (un g (un g (V (jn (cB g) rfl) ?_))))
  obtain rfl := sj k
  exact J _ _ ⟨z, u, B, _, (js.refl _), (d.iU (Db St)), a3, rfl, N⟩
 refine bC t (fun j t => ?_) (fun j t => ?_)
 ·refine ug j (jd rfl) (ug j (iY nH rfl) (ug j (iW rfl (jg d.has Mh rfl aH)) (bS t fun e3 a9 t => ?_)))
  refine oH j (eM d (Cb (Pb Pz) (Cr (Qb Qz) Cn)) call162 (fun m _ => (vz c i D a x.ja _ _ m y a9)) ?_)
  rintro _ e5 d1 d7 d Z q h ⟨c9, b7, H, rfl, b3⟩
  obtain rfl := H.symm
  replace d := d.perm (Tb (Tr Tn))
  refine V (jq (cB j) rfl) ?_
  obtain rfl := sj t
  exact K _ _ ⟨c9, b7, d1, _, Z, (d.iU (Sb (Pb (Pr Pz)) St)), rfl, rfl, rfl, rfl, b3⟩
 refine un j (un j (un j (un j (V (jn (cB j) rfl) ?_))))
 obtain rfl := sj t
 exact K _ _ ⟨i, a, μ0, _, (js.refl _), (d.iU St), rfl, rfl, rfl, rfl, y⟩
theorem zf (g : Value) (i r : List Int) (w : World) (a : Sl (Pl (jN .u8)) 1 (hp w) g i) (hm : nq i = some r) :
  jZ true pg0 96 [g] w 5 (jN .u8) 1 r := by
 unfold nq at hm
 refine tS 8 func96 rfl (fun d => sg (Wa (lS (Wm ?_))))
 obtain ⟨y, B, rfl⟩ := a.form
 refine V (AK bI rfl rfl) (ln ?_)
 rcases y with _ | z
 ·have u := a.isNil
  replace hm : some [] = some r := by rw [u] at hm; simpa [kR, maxLen] using hm
  refine vN (rfl) (sg (Wa (lt (jx ?_))))
  obtain rfl := sj hm
  exact jR (v := (.slice none 0 0)) rfl rfl ⟨_, [], rfl, d.ly (fun p h => by cases h) (by simp), jl.nil _ _ _⟩
 ·refine nW (rfl) (kg (VE (jS (cs := #[]) d uo (B9 [] bI iB zeroValue5 dc rfl (by simp) rfl rfl) (fun G k d => Wm (bS hm fun H t hm => VE (kX (enc := (jN .u8)) (v := (.slice (some ⟨k, 0, none⟩) 0 0)) (vs := (.slice (some z) i.length B)) (R := [(k, Ob #[] 5)]) d (fun _ => rfl) dc (Fw _) bI ru.1 ru.2.1 rfl ru.2.2.1 ru.2.2.2 rfl rfl (jl.lit (l := []) (enc := (jN .u8)) rfl dc rfl rfl) (a.mono (Pl.mono _) d.jf) t (fun D x j d c => Wa (lt ?_))))))))
  obtain rfl := sj hm
  exact jR (v := x) rfl rfl ⟨_, j, rfl, d.ly (fun p h => (Ml h)) c.nd, c⟩
theorem xg (g : Nat) (a : Value) (c r : List Int) (w : World) (j : Sl (Pl (jN .u8)) 1 (hp w) a c) (k : At (hp w) (.pointer (some ⟨g, 0, none⟩)) [a]) (hm : nQ c = some r) :
  jZ true pg0 37 [(.pointer (some ⟨g, 0, none⟩))] w 5 (jN .u8) 1 r := by
 refine tS 10 func37 rfl (fun d => sg (Wa (lS (Wm (V (qS dL rfl rfl) (ln (nW rfl (jJ ?_))))))))
 refine jb (sg (Wm (Wn (VQ (vK [a] xF rfl k rfl) (fun G u => V (iW rfl (lC d.has (y := a) u fD)) (bS hm fun H x hm => VE (pT d call96 (zf a c _ _ (j.mono (Pl.mono _) d.jf) x) (fun D z I t d B h i => Wa (lt ?_)))))))))
 obtain rfl := sj hm
 exact jR (v := z) rfl rfl ⟨_, t, rfl, d.ly (fun p m => (Ml m)) i.nd, i⟩
theorem Ar (c : iS) (r : List Int) (w : World) (hm : sE c = some r) :
  jZ true pg0 161 [(.agg (iX c).toArray)] w 5 (jN .u8) 1 r := by
 refine tS 53 func161 rfl (fun d => sg (VE (jF d rfl (fun W2 b1 d => Wa (lS (VA d Mh (iX c) aS ak (bS hm fun r3 g3 hm => VE (Eg d iD (rf c _ _  g3) (fun W5 d => V (lj rfl) (jC ?_))))))))))
 refine jb (CI hm rfl (fun g0 hm => ?_) (fun g0 hm => ?_))
 ·refine sg (Wa (ln ?_))
  replace d := d.iU (Db St)
  refine jz (jx ?_)
  obtain rfl := sj hm
  exact jR (v := (.slice none 0 0)) rfl rfl ⟨_, [], rfl, d.ly (fun p n => by cases n) (by simp), jl.nil _ _ _⟩
 refine kg (V (kT (v := (.agg #[(.slice none 0 0)])) uo (ku zeroValue81 dH (Of _ dH) kr)) (VE (jF d rfl (fun W8 g d => Wa (lr (Wm (Wf mT (VB d (Mt Mh) rfl rfl bF (bS hm fun r9 e2 hm => ?_)))))))))
 refine VE (eM d (Cb Pz (C0 Cn)) call93 (fun m _ => (oF g (.slice none 0 0) ([]) [] c.Kind _ _ m (jl.nil _ _ _) e2)) ?_)
 rintro _ k3 k5 j9 d g7 a7 h ⟨g4, f9, I, rfl, e4⟩
 obtain rfl := I.symm
 replace d := d.perm (Tb (Tr Tn))
 refine lr (Wm (Wf mY (VA d (Mt (Ma Mh)) (iT c.Head) an ag (bS hm fun N e3 hm => ?_))))
 refine VE (eM d (Cb Pz (Cr Qz Cn)) call94 (fun m _ => (uq g g4 r9.2 f9 c.Head _ _ m e4 e3)) ?_)
 rintro _ k4 d1 k0 d g8 a8 h ⟨G, D, J, rfl, i⟩
 obtain rfl := J.symm
 replace d := d.perm (Tb (Tr Tn))
 refine ln (jm (CJ hm (fun a3 E W => ∃ B H K Q, js d1 K ∧ ST true jD w W K ((g, Ob #[B] 81) :: (H ++ Q)) ∧ E 3 = (.pointer (some ⟨g, 0, none⟩)) ∧ jl 5 (jN .u8) 1 B a3 H) (fun a3 a => ?_) ?_))
 ·refine sg (Wf mT (VB d (Mt (Ma Mh)) rfl rfl bF (ln (bg (Wi rfl (Wa (ln (CI a rfl (fun b0 a => ?_) (fun b0 a => ?_)))))))))
  ·refine jj (Wm (Wf rz (VB d (Mt (Ma Mh)) rfl rfl aH (bS a fun i3 b6 a => ?_))))
   refine VE (eM d (Cb Pz (Cr Qz Cn)) call162 (fun m _ => (vz g G N.2 D c.jA _ _ m i b6)) ?_)
   rintro _ i8 f5 g9 d T s h ⟨e9, d3, k, rfl, c5⟩
   obtain rfl := k.symm
   replace d := d.perm (Tb (Tr Tn))
   refine jC (jI (jb ?_))
   obtain rfl := sj a
   exact ⟨e9, d3, f5, _, T, (d.iU (Kb (Kr (Db St)))), rfl, c5⟩
  refine sg (Wi rfl (Wa (ln (CI a rfl (fun b2 a => ?_) (fun b2 a => ?_)))))
  ·refine jj (Wm (Wf kK (VA d (Mt (Ma Mh)) (iT c.B) an ag (bS a fun i4 b9 a => ?_))))
   refine VE (eM d (Cb Pz (Cr Qz Cn)) call94 (fun m _ => (uq g G N.2 D c.B _ _ m i b9)) ?_)
   rintro _ i9 f6 h0 d U A h ⟨f0, d4, t, rfl, c6⟩
   obtain rfl := t.symm
   replace d := d.perm (Tb (Tr Tn))
   refine jC (jI (jb ?_))
   obtain rfl := sj a
   exact ⟨f0, d4, f6, _, U, (d.iU (Kb (Kr (Db St)))), rfl, c6⟩
  refine sg (Wi rfl (Wa (ln (CI a rfl (fun b3 a => ?_) (fun b3 a => ?_)))))
  ·refine sg (Wm (Wf kK (VA d (Mt (Ma Mh)) (iT c.B) an ag (bS a fun e6 c0 a => ?_))))
   refine VE (eM d (Cb Pz (Cr Qz Cn)) call94 (fun m _ => (uq g G N.2 D c.B _ _ m i c0)) ?_)
   rintro _ j0 j7 h1 d Y L h ⟨f1, d5, u, rfl, c7⟩
   obtain rfl := u.symm
   replace d := d.perm (Tb (Tr Tn))
   refine ln (jj (Wm (Wf pZ (VB d (Mt (Ma Mh)) rfl rfl aH (bS a fun i5 c1 a => ?_)))))
   refine VE (eM d (Cb Pz (Cr Qz Cn)) call162 (fun m _ => (vz g f1 e6.2 d5 c.jU _ _ m c7 c1)) ?_)
   rintro _ j3 f7 h2 d Z P h ⟨f2, d6, x, rfl, c8⟩
   obtain rfl := x.symm
   replace d := d.perm (Tb (Tr Tn))
   refine jC (jI (jb ?_))
   obtain rfl := sj a
   exact ⟨f2, d6, f7, _, (Y.trans Z), (d.iU (Kb (Kr (Db St)))), rfl, c8⟩
  refine sg (Wi rfl (Wa (ln (CI a rfl (fun b4 a => ?_) (fun b4 a => ?_)))))
  ·refine sg (Wm (Wf kK (VA d (Mt (Ma Mh)) (iT c.B) an ag (bS a fun e7 c2 a => ?_))))
   refine VE (eM d (Cb Pz (Cr Qz Cn)) call94 (fun m _ => (uq g G N.2 D c.B _ _ m i c2)) ?_)
   rintro _ j4 j8 h3 d a1 R h ⟨f3, d7, y, rfl, c9⟩
   obtain rfl := y.symm
   replace d := d.perm (Tb (Tr Tn))
   refine ln (jj (Wm (Wf oh (VA d (Mt (Ma Mh)) (iT c.C) an ag (bS a fun i6 c3 a => ?_)))))
   refine VE (eM d (Cb Pz (Cr Qz Cn)) call94 (fun m _ => (uq g f3 e7.2 d7 c.C _ _ m c9 c3)) ?_)
   rintro _ j5 f8 h4 d a2 a6 h ⟨f4, d8, z, rfl, d0⟩
   obtain rfl := z.symm
   replace d := d.perm (Tb (Tr Tn))
   refine jC (jI (jb ?_))
   obtain rfl := sj a
   exact ⟨f4, d8, f8, _, (a1.trans a2), (d.iU (Kb (Kr (Db St)))), rfl, d0⟩
  refine jJ (jI (jb ?_))
  obtain rfl := sj a
  exact ⟨G, D, d1, _, (js.refl _), (d.iU (Kb (Kr (Db St)))), rfl, i⟩
 rintro e5 E W ⟨B, H, K, Q, g1, d, d9, c4⟩ j
 refine sg (Wh d9 (bS j fun i2 b5 j => VE (pT d call37 (xg g B e5 _ _ (c4.sl (fun _ => rfl) (fun b o n => d.at_ (Mt (Ml n)))) (At.of (d.at_ Mh) _ rfl) b5) (fun h5 e8 j6 d2 d g2 q M => Wa (ln ?_)))))
 replace d := d.iU (Kr (Db (Dr St)))
 refine jz ?_
 obtain rfl := sj j
 exact jR (v := e8) rfl rfl ⟨_, d2, rfl, d.ly (fun p n => (Ml n)) M.nd, M⟩
theorem Rk (w : World) {c d : Value} {a b : List Int} (h1 : Sl (Pl (jN .u8)) 1 (hp w) c a) (g : Sl (Pl (jN .u8)) 1 (hp w) d b) : (callFunc 227 [c, d].toArray).run pg0 w = .ok (.value (.int .i64 (xn a b))) w := OF func227 (by kernel_rfl) (by kernel_rfl) (by kernel_rfl) (by kernel_rfl) h1 g
theorem FL (a : Value) (g : List Int) (c : Value) (i : List Int) (r : Int) (w : World) (j : Sl (Pl (jN .u8)) 1 (hp w) a g) (k : Sl (Pl (jN .u8)) 1 (hp w) c i) (hm : xW g i = some r) :
  jv true pg0 180 [a, c] w (.int .i64 r) := by
 exact cG 8 func180 rfl (fun d => sg (Wa (lr (Wm (Wm (VE (LU (args := [a, c]) (v := .int .i64 (xn g i)) rfl (by exact nB rfl rfl) (Rk _ (j.mono (Pl.mono _) d.jf) (k.mono (Pl.mono _) d.jf)) (Wa (lt (rQ hm d))))))))))
theorem GD (g i : iS) (r : Int) (w : World) (hm : sv g i = some r) :
  jv true pg0 117 [(.agg (iX g).toArray), (.agg (iX i).toArray)] w (.int .i64 r) := by
 refine cG 10 func117 rfl (fun d => sg (VE (jF d rfl (fun T Y d => VE (jF d rfl (fun U Z d => Wa (ln (jm ?_))))))))
 replace d := d.drew
 have h := d.has.iU (Kb (Kb Sn))
 refine jV h jE (XH 0 rfl h (fun _ m => iW rfl (jc m (Mt Mh) (iX g) rfl aS ak)) (XH 2 rfl h (fun _ m => iW rfl (jc m Mh (iX i) rfl aS ak)) (bS hm fun y t hm => XE 1 rfl (pT d call161 (Ar g _ _  t) (fun I B N G d a p j => ?_)))))
 have h := d.has.pO a (Dr (Kb (Kb Sn)))
 refine ⟨h, (bS hm fun z u hm => XE 3 rfl (pT d call161 (Ar i _ _  u) (fun J D Q H d c q k => ?_)))⟩
 have h := d.has.pO (a.trans c) (Dr (Dr (Kb (Kb Sn))))
 refine ⟨h, (bS hm fun M x hm => XE 4 rfl (Eg d call180 (FL B y D z _ _ (j.sl (fun _ => rfl) (fun b o n => d.at_ (Ma (Ml n)))) (k.sl (fun _ => rfl) (fun b o n => d.at_ (Ml n))) x) (fun K d => ?_)))⟩
 have h := d.has.pO (a.trans c) (Dr (Dr (Kb (Kb Sn))))
 refine ⟨h, (X 5 rfl h (mw rfl) (km kr (jb ?_)))⟩
 exact jz (rQ hm d)
theorem B4 (j : Value) (a0 : List iS) (x : LO) (r : List iS) (w : World) {μ0 : jw} (h0 : nR μ0 (x ++ []) w) (B : jl 108 iX 9 j a0 x) (hm : ry a0 = some r) :
  jY true pg0 118 [j] w (x ++ []) (fun v L1 W' => ∃ y1 S2, v = y1 ∧ L1 = (S2 ++ []) ∧ jl 108 iX 9 y1 r S2) := by
 refine wJ h0 61 func118 rfl (fun d => sg (Wa (lS (Wm (V (lT aG rfl B) (Wi rfl (ln (CI hm rfl (fun g0 hm => ?_) (fun g0 hm => ?_)))))))))
 ·refine sg (Wm (Wa (lt (jx ?_))))
  obtain rfl := sj hm
  exact jR (v := j) rfl rfl ⟨_, _, rfl, (d.kC (Kr Sn)), j, x, rfl, rfl, B⟩
 refine kS (Wa (ln (lc (og (fun m E W => ∃ t b4, ST true (keys (x ++ [])) w W μ0 (x ++ b4) ∧ E 0 = j ∧ E 3 = (.int .i64 t) ∧ mP a0 m t = some r) jM ⟨1, _, (d.iU St), rfl, rfl, hm⟩ ?_))))
 rintro m E W ⟨t, b4, d, D, H, a⟩
 cases m with
 | zero => rw [mP] at a; cases a
 | succ f5 =>
  refine jm (sg (Wh H (Wh D (V (lT aG rfl B) (Wi rfl (ln (CI a rfl (fun d0 a => ?_) (fun d0 a => ?_))))))))
  ·refine kn (jm (lc (jm ?_)))
   replace d := d.drew
   have h := d.has.iU (Kr Sn)
   refine jV h jE (X 0 rfl h (jd D) (X 1 rfl h (jd H) (bS a fun c3 Z a => XQ 2 rfl h (kY (i := t) (x0 := c3) aG ak rfl rfl B (kz Z) (ke Z)) (fun g7 d6 => XH 3 rfl h (fun _ o => iW rfl (oy o (fun p n => (Ml n)) B kU d6 (ke Z) aS ak)) (X 4 rfl h (jd D) (X 5 rfl h (jd H) (X 6 rfl h (kd rfl rfl rfl) (bS a fun c4 q a => XQ 7 rfl h (kY (i := (wi0 .i64 (t - 1))) (x0 := c4) aG ak rfl rfl B (kz q) (ke q)) (fun g8 d7 => XH 8 rfl h (fun _ o => iW rfl (oy o (fun p n => (Ml n)) B kU d7 (ke q) aS ak)) (X 9 rfl h (rn rfl rfl (kV fC) (nE (yt _ c3 c4))) (km kr (jb ?_))))))))))))
   refine CI a rfl (fun d1 a => ?_) (fun d1 a => ?_)
   ·refine sg (Wh D (Wh H (bS a fun _ P a => VQ (qN (i := t) aG ak rfl rfl B (pc P) (oZ P)) (fun c1 M => Wa (lS (Wa (ln ?_)))))))
    refine CJ a (fun U E W => ∃ s b5, ST true (keys (x ++ [])) w W μ0 (s ++ b5) ∧ E 0 = j ∧ E 3 = (.int .i64 U.2) ∧ jl 108 iX 9 j U.1 s) (fun U d4 => ?_) ?_
    ·refine lc (og (fun m E W => ∃ A K Y y b6, ST true (keys (x ++ [])) w W μ0 (K ++ b6) ∧ E 0 = j ∧ E 3 = (.int .i64 Y) ∧ E 4 = c1 ∧ E 5 = (.int .i64 y) ∧ jl 108 iX 9 j A K ∧ mI t m A Y y = some U) jM ⟨a0, x, t, 1, _, (d.iU St), D, H, rfl, rfl, B, d4⟩ ?_)
     rintro m E W ⟨A, K, Y, y, b6, d, Q, T, I, J, g, k⟩
     cases m with
     | zero => rw [mI] at k; cases k
     | succ f6 =>
      refine jm (sg (Wh J (Wh I (V (Dv aG rfl M g) (Wi rfl (ln (CI k rfl (fun d2 k => ?_) (fun d2 k => ?_))))))))
      ·refine kn (jm (CJ k (fun L E W => ∃ N b7, ST true (keys (x ++ [])) w W μ0 (N ++ b7) ∧ E 0 = j ∧ E 3 = (.int .i64 L.2) ∧ E 4 = c1 ∧ E 5 = (.int .i64 y) ∧ jl 108 iX 9 j L.1 N) (fun L c => ?_) ?_))
       ·refine lc (jm ?_)
        replace d := d.drew
        have h := d.has.iU (Kr Sn)
        refine jV h jE (X 0 rfl h (jd I) (X 1 rfl h (jd J) (bS c fun c6 a2 c => XQ 2 rfl h (qT (i := y) (x0 := c6) aG ak rfl rfl g M (kz a2) (ke a2)) (fun g9 d8 => XH 3 rfl h (fun _ o => iW rfl (oy o (fun p n => (Ml n)) g kU d8 (tP (ke a2)) aS ak)) (X 4 rfl h (jd I) (X 5 rfl h (jd J) (X 6 rfl h (kd rfl rfl rfl) (bS c fun c7 a3 c => XQ 7 rfl h (qT (i := (wi0 .i64 (y - 1))) (x0 := c7) aG ak rfl rfl g M (kz a3) (ke a3)) (fun h1 d9 => XH 8 rfl h (fun _ o => iW rfl (oy o (fun p n => (Ml n)) g kU d9 (tP (ke a3)) aS ak)) (X 9 rfl h (Eu rfl rfl (kV fC) (zQ (yt _ c6 c7))) (km kr (jb ?_))))))))))))
        refine CI c rfl (fun d3 c => ?_) (fun d3 c => ?_)
        ·refine sg (Wh Q (Wh T (Wh I (Wh J (bS c fun a9 a4 c => VQ (qT (i := y) (x0 := a9) aG ak rfl rfl g M (kz a4) (ke a4)) (fun h2 e0 => V (iW rfl (oy d.has (fun p n => (Ml n)) g kU e0 (tP (ke a4)) aS ak)) (bS c fun f8 a5 c => VQ (kY (i := Y) (x0 := f8) aG ak rfl rfl g (kz a5) (ke a5)) (fun h3 e1 => VO (vM (u := (.agg (iX a9).toArray)) (x1 := a9)  d g kU mx rfl rfl rfl e1 (ke a5) ak (fun g3 e8 d c9 => ln (jj ?_)))))))))))
         refine Wh T (Wi rfl (Wa (jC (jI (jb ?_)))))
         obtain rfl := sj c
         exact ⟨e8, _, (d.iU St), Q, rfl, I, J, c9⟩
        refine jJ (jI (jb ?_))
        obtain rfl := sj c
        exact ⟨K, _, (d.iU St), Q, T, I, J, g⟩
       rintro ⟨f4, f7⟩ E W ⟨N, b7, d, f0, f1, f2, f3, e4⟩ d5
       exact jj (Wh f3 (Wi rfl (Wa (ln ⟨f6, bk _, f4, N, f7, (wi0 .i64 (y + 1)), _, (d.iU St), f0, f1, f2, rfl, e4, d5⟩))))
      refine nt (mH (mH (tK (jb ?_))))
      obtain rfl := sj k
      exact ⟨K, _, (d.iU St), Q, T, g⟩
    rintro ⟨g4, c5⟩ E W ⟨s, b5, d, b9, c0, b3⟩ G
    refine sg (Wh b9 (Wh c0 (bS G fun _ R G => VQ (qN (i := c5) aG ak rfl rfl b3 (pc R) (oZ R)) (fun h4 e2 => VO (vc (z := K6)  d b3 kU mx aG bw e2 rfl rfl (fun g2 e7 d c8 => lr (Wh b9 (Wh c0 (bS G fun _ b2 G => VQ (se (i := c5) aG ak rfl rfl c8 kU (pc b2) (oZ b2)) (fun c2 e3 => ?_))))))))))
    refine Wa (lt (ko (jx (jx (ko (jx ?_))))))
    obtain rfl := sj G
    exact jR (v := c2) rfl rfl ⟨_, _, rfl, (d.kC (Kr Sn)), c2, e7, rfl, rfl, e3⟩
   exact jJ (jI (jb (jj (Wh H (Wi rfl (Wa (ln ⟨f5, bk _, (wi0 .i64 (t + 1)), _, (d.iU St), D, rfl, a⟩)))))))
  refine nt (mH (mH (tK (jb (sg (Wh D (Wa (lt ?_))))))))
  obtain rfl := sj a
  exact jR (v := j) rfl rfl ⟨_, _, rfl, (d.kC (Kr Sn)), j, x, rfl, rfl, B⟩
theorem Lz (i : Value) (t r : List iS) (w : World) (B : Sl (Pl iX) 9 (hp w) i t) (hm : xH t = some r) :
  jZ false pg0 51 [i] w 108 iX 9 r := by
 refine tS 11 func51 rfl (fun d => sg (Wa (lr (Wm (bS hm fun z T hm => VE (pT d call113 (jZ.kw (Da i t _ _ (B.mono (Pl.mono _) d.jf) T)) (fun W3 A E R8 d a5 s Q => bS hm fun U D hm => ?_)))))))
 refine VE (eM d (Cr Qz Cn) call112 (fun m _ => (Ap A z R8 (.func (.func 114) #[] #[]) (fun (x : iS) => wY x) _ _ m Q ⟨114, #[], #[], rfl, call114, fun W x r y hm => (HK x r W  hm).kw⟩ D)) ?_)
 rintro _ b5 b9 P d L n h ⟨k, K, a, rfl, I⟩
 obtain rfl := a.symm
 replace d := d.perm (Tr Tn)
 refine Wa (lr (Wm (bS hm fun Y G hm => ?_)))
 refine VE (eM d (Cr Qz Cn) call116 (fun m _ => jY.kw (Lw k U K (.func (.func 117) #[] #[]) (fun (x : (iS × iS)) => sv x.1 x.2) _ _ m I ⟨117, #[], rfl, call117, fun W x r y hm => GD x.1 x.2 r W  hm⟩ G)) ?_)
 rintro _ b6 c0 a9 d a2 o h ⟨M, c, rfl, J⟩
 obtain rfl := c.symm
 replace d := d.perm (Tr Tn)
 refine lr (Wm (bS hm fun b4 H hm => ?_))
 refine VE (eM d (Cr Qz Cn) call118 (fun m _ => jY.kw (B4 k Y M _ _ m J H)) ?_)
 rintro _ b7 c1 R d a3 q h ⟨Z, N, g, rfl, j⟩
 obtain rfl := g.symm
 replace d := d.perm (Tr Tn)
 refine Wa (lt ?_)
 obtain rfl := sj hm
 exact jR (v := Z) rfl rfl ⟨_, N, rfl, d.ly (fun p u => (Ml u)) j.nd, j⟩
theorem LS (c : Value) (i : List ByteArray) (a : LO) (r : List ByteArray) (w : World) {t : jw} (k : nR t (a ++ []) w) (g : jl 9 lE 1 c i a) (hm : Ek i = some r) :
  jY true pg0 182 [c] w (a ++ []) (fun v j W' => ∃ S, v = (.tuple #[]) ∧ j = (S ++ []) ∧ jl 9 lE 1 c r S) := JZ (P := pg0) (ρ := M6) NN k.H g hm
theorem Ay (j : Value) (a0 : List ByteArray) (x : LO) (r : List ByteArray) (w : World) {μ0 : jw} (h0 : nR μ0 (x ++ []) w) (D : jl 9 lE 1 j a0 x) (hm : om a0 = some r) :
  jY true pg0 239 [j] w (x ++ []) (fun v L1 W' => ∃ y1 S2, v = y1 ∧ L1 = (S2 ++ []) ∧ jl 9 lE 1 y1 r S2) := by
 refine wJ h0 61 func239 rfl (fun d => sg (Wa (lS (Wm (V (lT aT rfl D) (Wi rfl (ln (CI hm rfl (fun g1 hm => ?_) (fun g1 hm => ?_)))))))))
 ·refine sg (Wm (Wa (lt (jx ?_))))
  obtain rfl := sj hm
  exact jR (v := j) rfl rfl ⟨_, _, rfl, (d.kC (Kr Sn)), j, x, rfl, rfl, D⟩
 refine kS (Wa (ln (lc (og (fun m E W => ∃ t b5, ST true (keys (x ++ [])) w W μ0 (x ++ b5) ∧ E 0 = j ∧ E 3 = (.int .i64 t) ∧ mh a0 m t = some r) jM ⟨1, _, (d.iU St), rfl, rfl, hm⟩ ?_))))
 rintro m E W ⟨t, b5, d, G, I, a⟩
 cases m with
 | zero => rw [mh] at a; cases a
 | succ f6 =>
  refine jm (sg (Wh I (Wh G (V (lT aT rfl D) (Wi rfl (ln (CI a rfl (fun d1 a => ?_) (fun d1 a => ?_))))))))
  ·refine kn (jm (lc (jm ?_)))
   replace d := d.drew
   have h := d.has.iU (Kr Sn)
   refine jV h jE (X 0 rfl h (jd G) (X 1 rfl h (jd I) (bS a fun c4 a2 a => XQ 2 rfl h (kY (i := t) (x0 := c4) aT cx rfl rfl D (kz a2) (ke a2)) (fun g8 d7 => XH 3 rfl h (fun _ o => iW rfl (tI o (fun p n => (Ml n)) D (fun _ => rfl) d7 (ke a2) (y := (.string c4)) rfl aH)) (X 4 rfl h (jd G) (X 5 rfl h (jd I) (X 6 rfl h (kd rfl rfl rfl) (bS a fun c5 a3 a => XQ 7 rfl h (kY (i := (wi0 .i64 (t - 1))) (x0 := c5) aT cx rfl rfl D (kz a3) (ke a3)) (fun g9 d8 => XH 8 rfl h (fun _ o => iW rfl (tI o (fun p n => (Ml n)) D (fun _ => rfl) d8 (ke a3) (y := (.string c5)) rfl aH)) (X 9 rfl h (tZ rfl rfl rfl) (km kr (jb ?_))))))))))))
   refine CI a rfl (fun d2 a => ?_) (fun d2 a => ?_)
   ·refine sg (Wh G (Wh I (bS a fun _ R a => VQ (qN (i := t) aT cx rfl rfl D (pc R) (oZ R)) (fun c2 N => Wa (lS (Wa (ln ?_)))))))
    refine CJ a (fun Y E W => ∃ L b6, ST true (keys (x ++ [])) w W μ0 (L ++ b6) ∧ E 0 = j ∧ E 3 = (.int .i64 Y.2) ∧ jl 9 lE 1 j Y.1 L) (fun Y d5 => ?_) ?_
    ·refine lc (og (fun m E W => ∃ a9 M Z B b7, ST true (keys (x ++ [])) w W μ0 (M ++ b7) ∧ E 0 = j ∧ E 3 = (.int .i64 Z) ∧ E 4 = c2 ∧ E 5 = (.int .i64 B) ∧ jl 9 lE 1 j a9 M ∧ mi t m a9 Z B = some Y) jM ⟨a0, x, t, 1, _, (d.iU St), G, I, rfl, rfl, D, d5⟩ ?_)
     rintro m E W ⟨a9, M, Z, B, b7, d, T, U, J, K, g, k⟩
     cases m with
     | zero => rw [mi] at k; cases k
     | succ f7 =>
      refine jm (sg (Wh K (Wh J (V (Dv aT rfl N g) (Wi rfl (ln (CI k rfl (fun d3 k => ?_) (fun d3 k => ?_))))))))
      ·refine kn (jm (CJ k (fun P E W => ∃ Q b9, ST true (keys (x ++ [])) w W μ0 (Q ++ b9) ∧ E 0 = j ∧ E 3 = (.int .i64 P.2) ∧ E 4 = c2 ∧ E 5 = (.int .i64 B) ∧ jl 9 lE 1 j P.1 Q) (fun P c => ?_) ?_))
       ·refine lc (jm ?_)
        replace d := d.drew
        have h := d.has.iU (Kr Sn)
        refine jV h jE (X 0 rfl h (jd J) (X 1 rfl h (jd K) (bS c fun c7 a4 c => XQ 2 rfl h (qT (i := B) (x0 := c7) aT cx rfl rfl g N (kz a4) (ke a4)) (fun h1 d9 => XH 3 rfl h (fun _ o => iW rfl (tI o (fun p n => (Ml n)) g (fun _ => rfl) d9 (tP (ke a4)) (y := (.string c7)) rfl aH)) (X 4 rfl h (jd J) (X 5 rfl h (jd K) (X 6 rfl h (kd rfl rfl rfl) (bS c fun c8 a5 c => XQ 7 rfl h (qT (i := (wi0 .i64 (B - 1))) (x0 := c8) aT cx rfl rfl g N (kz a5) (ke a5)) (fun h2 e0 => XH 8 rfl h (fun _ o => iW rfl (tI o (fun p n => (Ml n)) g (fun _ => rfl) e0 (tP (ke a5)) (y := (.string c8)) rfl aH)) (X 9 rfl h (tZ rfl rfl rfl) (km kr (jb ?_))))))))))))
        refine CI c rfl (fun d4 c => ?_) (fun d4 c => ?_)
        ·refine sg (Wh T (Wh U (Wh J (Wh K (bS c fun q s c => VQ (qT (i := B) (x0 := q) aT cx rfl rfl g N (kz s) (ke s)) (fun h3 e1 => V (iW rfl (tI d.has (fun p n => (Ml n)) g (fun _ => rfl) e1 (tP (ke s)) (y := (.string q)) rfl aH)) (bS c fun f9 A c => VQ (kY (i := Z) (x0 := f9) aT cx rfl rfl g (kz A) (ke A)) (fun h4 e2 => VO (vM (u := (.string q)) (x1 := q)  d g (fun _ => rfl) Cs rfl rfl rfl e2 (ke A) cx (fun g4 e9 d d0 => ln (jj ?_)))))))))))
         refine Wh U (Wi rfl (Wa (jC (jI (jb ?_)))))
         obtain rfl := sj c
         exact ⟨e9, _, (d.iU St), T, rfl, J, K, d0⟩
        refine jJ (jI (jb ?_))
        obtain rfl := sj c
        exact ⟨M, _, (d.iU St), T, U, J, K, g⟩
       rintro ⟨f5, f8⟩ E W ⟨Q, b9, d, f1, f2, f3, f4, e5⟩ d6
       exact jj (Wh f4 (Wi rfl (Wa (ln ⟨f7, bk _, f5, Q, f8, (wi0 .i64 (B + 1)), _, (d.iU St), f1, f2, f3, rfl, e5, d6⟩))))
      refine nt (mH (mH (tK (jb ?_))))
      obtain rfl := sj k
      exact ⟨M, _, (d.iU St), T, U, g⟩
    rintro ⟨g7, c6⟩ E W ⟨L, b6, d, c0, c1, b4⟩ H
    refine sg (Wh c0 (Wh c1 (bS H fun _ b2 H => VQ (qN (i := c6) aT cx rfl rfl b4 (pc b2) (oZ b2)) (fun h5 e3 => VO (vc (z := zS)  d b4 (fun _ => rfl) Cs aT iE e3 rfl rfl (fun g3 e8 d c9 => lr (Wh c0 (Wh c1 (bS H fun _ b3 H => VQ (se (i := c6) aT cx rfl rfl c9 (fun _ => rfl) (pc b3) (oZ b3)) (fun c3 e4 => ?_))))))))))
    refine Wa (lt (ko (jx (jx (ko (jx ?_))))))
    obtain rfl := sj H
    exact jR (v := c3) rfl rfl ⟨_, _, rfl, (d.kC (Kr Sn)), c3, e8, rfl, rfl, e4⟩
   exact jJ (jI (jb (jj (Wh I (Wi rfl (Wa (ln ⟨f6, bk _, (wi0 .i64 (t + 1)), _, (d.iU St), G, rfl, a⟩)))))))
  refine nt (mH (mH (tK (jb (sg (Wh G (Wa (lt ?_))))))))
  obtain rfl := sj a
  exact jR (v := j) rfl rfl ⟨_, _, rfl, (d.kC (Kr Sn)), j, x, rfl, rfl, D⟩
theorem FB (H : Value) (J r : List ByteArray) (w : World) (G : Sl (Pl lE) 1 (hp w) H J) (hm : wi J = some r) :
  jZ true pg0 188 [H] w 9 lE 1 r := by
 refine tS 23 func188 rfl (fun d => sg (Wa (lr (Wa (lS (Wm ?_))))))
 refine V (jO aT rfl G) (Wm (ln (jG (fun i E W => ∃ c t g D, (E 8 = .int .i64 (i : Nat) ∧ E 7 = .int .i64 (J.length : Nat)) ∧ ST true jD w W (hp w) (g ++ D) ∧ E 3 = c ∧ E 6 = H ∧ jl 9 lE 1 c t g ∧ rH (J.drop i) t = some r) J.length G.len ⟨(.slice none 0 0), ([]), [], _, ⟨rfl, rfl⟩, (d.iU St), rfl, rfl, (jl.nil _ _ _), hm⟩ dc dc dc (fun _ _ _ h => by obtain ⟨_, _, _, _, o, _⟩ := h; exact o) ?_ ?_)))
 ·rintro b7 E W a8 ⟨c, t, g, D, ⟨n, q⟩, d, j, u, x, a⟩
  obtain ⟨k, d1, b0, a9, K⟩ := jB a8
  rw [b0] at a
  refine bg (VQ (kk (enc := lE) (i := (b7 : Int)) (x0 := k) aT cx u n G (ah _) a9) (fun c6 Y => V (iW rfl (lC d.has (y := (.string k)) Y aH)) (Wa (lr (Wm (bS a fun c7 Z a => VE (Eg d iC (qU k _ _  Z) (fun c1 d => ln ?_))))))))
  refine CI a rfl (fun T a => ?_) (fun T a => ?_)
  ·refine jj (Wh j (Wm (VE (jS (cs := [(.string k)].toArray) d (ma rfl) (lV aT cx iE) (fun c2 a7 d => ?_)))))
   replace d := d.perm (Nr (Qb Qz) Nz)
   refine bS a fun b1 U a => VE (kX (enc := lE) (v := c) (vs := (.slice (some ⟨a7, 0, none⟩) 1 1)) (R := g) d (fun _ => rfl) dc Cs aT w9.1 w9.2.1 rfl w9.2.2.1 w9.2.2.2 rfl rfl x (Sl.lit (enc := lE) (l := [k]) (fun _ => rfl) rfl nb rfl (d.at_ (Ma Mh))) U (fun c3 b3 a4 d Q => Wa (jC (jI (jb ?_)))))
   replace d := d.iU (Kr (Db St))
   exact ⟨n, b3, b1, a4, _, ⟨rfl, q⟩, (d.iU St), rfl, u, Q, (by rw [K]; exact a)⟩
  exact jJ (jI (jb ⟨n, c, t, g, _, ⟨rfl, q⟩, (d.iU St), j, u, x, (by rw [K]; exact a)⟩))
 rintro E W ⟨c, t, g, D, ⟨n, q⟩, d, j, u, x, a⟩
 rw [ai] at a
 refine jb (sg (Wh j (bS a fun b2 M a => ?_)))
 refine VE (eM d (Cr Qz Cn) call182 (fun s _ => (LS c t g _ _ s x M)) ?_)
 rintro _ c9 d2 b9 d b5 A m ⟨a5, z, rfl, a3⟩
 obtain rfl := z.symm
 replace d := d.perm (Tr Tn)
 refine lr (Wh j (bS a fun c8 a2 a => ?_))
 refine VE (eM d (Cr Qz Cn) call239 (fun s _ => (Ay c b2 a5 _ _ s a3 a2)) ?_)
 rintro _ d0 d3 c0 d b6 L m ⟨b4, P, B, rfl, I⟩
 obtain rfl := B.symm
 replace d := d.perm (Tr Tn)
 refine Wa (lt ?_)
 obtain rfl := sj a
 exact jR (v := b4) rfl rfl ⟨_, P, rfl, d.ly (fun p hq => (Ml hq)) I.nd, I⟩
theorem H0 (B : Value) (G : List iS) (r : List ByteArray) (w : World) (y : Sl (Pl iX) 9 (hp w) B G) (hm : w6 G = some r) :
  jZ true pg0 132 [B] w 9 lE 1 r := by
 refine tS 29 func132 rfl (fun d => sg (Wa (lr (Wa (lS (Wm ?_))))))
 refine V (jO aG rfl y) (Wm (ln (jG (fun i E W => ∃ g k j t, (E 8 = .int .i64 (i : Nat) ∧ E 7 = .int .i64 (G.length : Nat)) ∧ ST true jD w W (hp w) (j ++ t) ∧ E 3 = g ∧ E 6 = B ∧ jl 9 lE 1 g k j ∧ qG (G.drop i) k = some r) G.length y.len ⟨(.slice none 0 0), ([]), [], _, ⟨rfl, rfl⟩, (d.iU St), rfl, rfl, (jl.nil _ _ _), hm⟩ dc dc dc (fun _ _ _ h => by obtain ⟨_, _, _, _, n, _⟩ := h; exact n) ?_ ?_)))
 ·rintro a5 E W T ⟨g, k, j, t, ⟨m, A⟩, d, u, x, z, c⟩
  obtain ⟨a, b4, Y, U, Z⟩ := jB T
  rw [Y] at c
  refine bg (VQ (kk (enc := iX) (i := (a5 : Int)) (x0 := a) aG ak x m y (ah _) U) (fun b2 J => V (iW rfl (jX d.has J aS ak)) (VE (jK d bw (fun P b1 d => VO (jy (.agg (iX a).toArray) ((iX a).toArray) d rfl rfl ak (mx a) nb rfl (fun a7 d => ln (jj (Wh u (Wf rz (VB d Mh rfl rfl aH (Wf mY (Wf nH ?_)))))))))))))
  refine VB d Mh rfl rfl aH (Wf kK (Wf nH (VB d Mh rfl rfl aH (Wf oh (Wf nH (VB d Mh rfl rfl aH (VE (jS (cs := #[(.string a.jA), (.string a.Head.ja), (.string a.B.ja), (.string a.C.ja)]) d (Na rfl rfl rfl rfl) (lV aT cx iE) (fun a8 Q d => ?_)))))))))
  replace d := d.perm (Nr (Qb (Qb Qz)) Nz)
  refine bS c fun L I c => VE (kX (enc := lE) (v := g) (vs := (.slice (some ⟨Q, 0, none⟩) 4 4)) (R := j) d (fun _ => rfl) dc Cs aT w9.1 w9.2.1 rfl w9.2.2.1 w9.2.2.2 rfl rfl z (Sl.lit (enc := lE) (l := [a.jA, a.Head.ja, a.B.ja, a.C.ja]) (fun _ => rfl) rfl nb rfl (d.at_ (Ma Mh))) I (fun a9 a2 M d H => Wa (jC (jI (jb ?_)))))
  replace d := d.iU (Kr (Db (Db St)))
  exact ⟨m, a2, L, M, _, ⟨rfl, A⟩, (d.iU St), rfl, x, H, (by rw [Z]; exact c)⟩
 rintro E W ⟨g, k, j, t, ⟨m, A⟩, d, u, x, z, c⟩
 rw [ai] at c
 refine jb (sg (Wh u (bS c fun b3 K c => VE (pT d call188 (FB g k _ _ (z.sl (fun _ => rfl) (fun b o s => d.at_ (Ml s))) K) (fun b0 a3 b5 N d a4 q D => Wa (ln ?_))))))
 replace d := d.iU (Kr (Dr St))
 refine jz ?_
 obtain rfl := sj c
 exact jR (v := a3) rfl rfl ⟨_, N, rfl, d.ly (fun p s => (Ml s)) D.nd, D⟩
theorem zB (g : Value) (t : List ByteArray) (j : Value) (D : ByteArray → Option Bool) (r : Int) (w : World) (c : Sl (Pl lE) 1 (hp w) g t) (G : qt pg0 j (hp w) (fun (x : ByteArray) => [(.string x)]) (fun (r : Bool) => (.bool r)) D) (hm : rY t D = some r) :
  jv false pg0 272 [g, j] w (.int .i64 r) := by
 refine cG 19 func272 rfl (fun d => sg (Wa (lS (Wm (V (jO aT rfl c) (Wm (ln (jG (fun i E W => ∃ k, (E 8 = .int .i64 (i : Nat) ∧ E 7 = .int .i64 (t.length : Nat)) ∧ ST false jD w W (hp w) k ∧ E 0 = g ∧ E 1 = j ∧ mE D (t.drop i) i = some r) t.length c.len ⟨_, ⟨rfl, rfl⟩, (d.iU St), rfl, rfl, hm⟩ dc dc dc (fun _ _ _ h => by obtain ⟨_, n, _⟩ := h; exact n) ?_ ?_))))))))
 ·rintro T E W I ⟨k, ⟨m, o⟩, d, u, z, a⟩
  obtain ⟨B, U, N, M, Q⟩ := jB I
  rw [N] at a
  refine bg (Wh m (Wa (lr (Wh z (Wh u (Wm (VQ (kk (enc := lE) (i := (T : Int)) (x0 := B) aT cx rfl rfl c (ah _) M) (fun Z J => V (iW rfl (lC d.has (y := (.string B)) J aH)) (bS a fun p K a => ?_)))))))))
  refine VE (xV B d G (js.refl _) rfl (nr rfl) K (fun Y d => ln (CI a rfl (fun H a => ?_) (fun H a => ?_))))
  ·refine sg (Wm (Wa (lt (ko (jx (ko (jx ?_)))))))
   obtain rfl := sj a
   exact rP d
  exact jJ (jI (jb ⟨m, _, ⟨rfl, o⟩, (d.iU St), u, z, (by rw [Q]; exact a)⟩))
 rintro E W ⟨k, ⟨m, o⟩, d, u, z, a⟩
 rw [ai] at a
 exact jb (sg (Wa (lt (rQ a d))))
theorem yr (a : Value) (g : List ByteArray) (c : Value) (i : ByteArray → Option Bool) (r : Bool) (w : World) (j : Sl (Pl lE) 1 (hp w) a g) (k : qt pg0 c (hp w) (fun (x : ByteArray) => [(.string x)]) (fun (r : Bool) => (.bool r)) i) (hm : qv g i = some r) :
  jv false pg0 240 [a, c] w (.bool r) := by
 refine cG 9 func240 rfl (fun d => sg (Wa (lr (Wm (Wm (bS hm fun y t hm => VE (Eg d call272 (zB a g c i _ _ (j.mono (Pl.mono _) d.jf) (k.mono d.jf) t) (fun u d => Wi rfl (Wa (jC ?_))))))))))
 exact jb (jz (rQ hm d))
theorem EE (u : ByteArray) (z : Nat) (i : Value) (G : (iR × ByteArray) → Option Bool) (B : Nat) (g : iS) (D : Nat) (I : ByteArray) (r : Bool) (w : World) (H : qt pg0 i (hp w) (fun (x : (iR × ByteArray)) => [(.agg (iT x.1).toArray), (.string x.2)]) (fun (r : Bool) => (.bool r)) G) (j : At (hp w) (.pointer (some ⟨z, 0, none⟩)) [i]) (k : At (hp w) (.pointer (some ⟨B, 0, none⟩)) (iX g)) (J : At (hp w) (.pointer (some ⟨D, 0, none⟩)) [(.string I)]) (hm : rR u G g I = some r) :
  jv false pg0 241 [(.string u), (.pointer (some ⟨z, 0, none⟩)), (.pointer (some ⟨B, 0, none⟩)), (.pointer (some ⟨D, 0, none⟩))] w (.bool r) := by
 refine cG 20 func241 rfl (fun d => sg (Wa (lr (V (iW rfl (lC d.has (y := i) j isAgg104)) (VQ (vK (iT g.B) kK rfl k rfl) (fun m Y => V (iW rfl (jX d.has Y an ag)) (Wm (bS hm fun n Z hm => VE (xV (g.B, u) d H (js.refl _) rfl (nB rfl rfl) Z (fun W6 d => Wm ?_))))))))))
 refine LJ hm (fun M E W => ∃ K, ST false jD w W (hp w) K ∧ E 5 = (.bool false) ∧ E 19 = (.bool M)) 8 ?_ (fun M c t => ?_)
 ·rintro a5 E W ⟨K, d, a2, U⟩ N
  exact Wg U (lt (rQ N d))
 refine bC c (fun a c => ?_) (fun a c => ?_)
 ·refine ug a (iW rfl (lC d.has (y := i) j isAgg104)) (ug a (jd rfl) (SC a (vK [(.string g.jU)] pZ rfl k rfl) (fun a3 Q => ug a (iW rfl (lC d.has (y := (.string g.jU)) Q aH)) (ug a (kT (v := (.agg (iT (⟨u, g.jU⟩ : iR)).toArray)) (nz rfl rfl) (ku bo bB (DE _ bB) kr)) (ug a (iW rfl (lC d.has (y := (.string I)) J aH)) (bS c fun a4 T c => oH a (xV ((⟨u, g.jU⟩ : iR), I) d H (js.refl _) rfl (nB rfl rfl) T (fun h d => V (jq (cB a) rfl) ?_))))))))
  obtain rfl := sj c
  exact t _ _ ⟨_, (d.iU St), rfl, rfl⟩
 refine un a (un a (un a (un a (un a (un a (un a (V (jn (cB a) rfl) ?_)))))))
 obtain rfl := sj c
 exact t _ _ ⟨_, (d.iU St), rfl, rfl⟩
theorem G6 (g : iS) (u : Value) (y : (iR × ByteArray) → Option Bool) (k : Value) (D : List ByteArray) (j : ByteArray) (r : Bool) (w : World) (i : qt pg0 u (hp w) (fun (x : (iR × ByteArray)) => [(.agg (iT x.1).toArray), (.string x.2)]) (fun (r : Bool) => (.bool r)) y) (I : Sl (Pl lE) 1 (hp w) k D) (hm : vT g y D j = some r) :
  jv false pg0 190 [(.agg (iX g).toArray), u, k, (.string j)] w (.bool r) := by
 refine cG 41 func190 rfl (fun d => sg (VE (jF d rfl (fun W2 G d => ?_))))
 obtain ⟨f3, f4, f5, rfl⟩ := i.form
 refine VE (jF d rfl (fun W7 H d => VE (jF d rfl (fun W9 b8 d => Wa (lS (Wf mT (VB d (Mt (Mt Mh)) rfl rfl bF (ln (bg ?_)))))))))
 refine Wi rfl (Wa (ln (CI hm rfl (fun J hm => ?_) (fun J hm => ?_))))
 ·refine sg (Wf rz (VB d (Mt (Mt Mh)) rfl rfl aH (VB d Mh rfl rfl aH (V (tZ rfl rfl rfl) (Wa (ln ?_))))))
  replace d := d.iU (Db (Db (Db St)))
  refine jz (ko (jx ?_))
  obtain rfl := sj hm
  exact rP d
 refine sg (Wi rfl (Wa (ln (CI hm rfl (fun K hm => ?_) (fun K hm => ?_)))))
 ·refine sg (VB d (Mt Mh) rfl rfl isAgg104 (Wf kK (VA d (Mt (Mt Mh)) (iT g.B) an ag (VB d Mh rfl rfl aH (bS hm fun q Q hm => VE (xV (g.B, j) d i (js.refl _) rfl (nB rfl rfl) Q (fun m d => Wa (ln ?_))))))))
  replace d := d.iU (Db (Db (Db St)))
  refine jz (ko (jx ?_))
  obtain rfl := sj hm
  exact rP d
 refine sg (Wi rfl (Wa (ln (CI hm rfl (fun M hm => ?_) (fun M hm => ?_)))))
 ·refine sg (VB d (Mt Mh) rfl rfl isAgg104 (Wf kK (VA d (Mt (Mt Mh)) (iT g.B) an ag (VB d Mh rfl rfl aH (bS hm fun s T hm => VE (xV (g.B, j) d i (js.refl _) rfl (nB rfl rfl) T (fun n d => Wm (LJ hm (fun B E W => ∃ z, ST false jD w W (hp w) z ∧ E 8 = (.bool false) ∧ E 37 = (.bool B)) 6 ?_ (fun B c t => ?_)))))))))
  ·rintro L E W ⟨z, d, p, Z⟩ N
   refine Wg Z (lt (ko (jx ?_)))
   obtain rfl := sj N
   exact rP d
  refine bC c (fun a c => ?_) (fun a c => ?_)
  ·refine ug a (iW rfl (jg d.has (Mt Mh) rfl isAgg104)) (ug a (iY oh rfl) (ug a (iW rfl (jc d.has (Mt (Mt Mh)) (iT g.C) rfl an ag)) (ug a (iW rfl (jg d.has Mh rfl aH)) (bS c fun v U c => oH a (xV (g.C, j) d i (js.refl _) rfl (nB rfl rfl) U (fun o d => V (jq (cB a) rfl) ?_))))))
   obtain rfl := sj c
   exact t _ _ ⟨_, (d.iU (Db (Db (Db St)))), rfl, rfl⟩
  refine un a (un a (un a (un a (un a (V (jn (cB a) rfl) ?_)))))
  obtain rfl := sj c
  exact t _ _ ⟨_, (d.iU (Db (Db (Db St)))), rfl, rfl⟩
 refine jJ (jI (jb (sg (Wm (V (si (by exact Sh rfl rfl rfl) rfl) (bS hm fun A Y hm => VE (Eg d call240 (yr k D (.func (.func 241) #[] #[(.pointer (some ⟨H, 0, none⟩)), (.pointer (some ⟨G, 0, none⟩)), (.pointer (some ⟨b8, 0, none⟩))]) (fun (x : ByteArray) => rR x y g j) _ _ (I.mono (Pl.mono _) d.jf) ⟨241, #[], #[(.pointer (some ⟨H, 0, none⟩)), (.pointer (some ⟨G, 0, none⟩)), (.pointer (some ⟨b8, 0, none⟩))], rfl, call241, fun W x r h hm => EE x H (.func f3 f4 f5) y G g b8 j r W (i.mono (d.jf.trans h)) (At.of (h _ _ (d.at_ (Mt Mh))) _ rfl) (At.of (h _ _ (d.at_ (Mt (Mt Mh)))) _ rfl) (At.of (h _ _ (d.at_ Mh)) _ rfl) hm⟩ Y) (fun a9 d => Wa (ln ?_)))))))))
 exact jz (rQ hm d)
theorem HH (c : iS) (B : Value) (f1 : (iR × ByteArray) → Option Bool) (T : Value) (a2 : List ByteArray) (r : List iV) (w : World) (b0 : qt pg0 B (hp w) (fun (x : (iR × ByteArray)) => [(.agg (iT x.1).toArray), (.string x.2)]) (fun (r : Bool) => (.bool r)) f1) (d9 : Sl (Pl lE) 1 (hp w) T a2) (hm : sX c f1 a2 = some r) :
  jZ false pg0 130 [(.agg (iX c).toArray), B, T] w 38 je 3 r := by
 refine tS 47 func130 rfl (fun d => sg (VE (jF d rfl (fun W2 n d => Wa (lS (VA d Mh (iX c) aS ak (bS hm fun r3 f6 hm => VE (Eg d iD (jv.kw (rf c _ _  f6)) (fun W5 d => V (lj rfl) (Wm ?_))))))))))
 refine LJ hm (fun b6 E W => ∃ L8, ST false jD w W (hp w) ((n, Ol (iX c) 108) :: L8) ∧ E 1 = B ∧ E 2 = T ∧ E 3 = (.pointer (some ⟨n, 0, none⟩)) ∧ E 17 = (.bool b6)) 3 ?_ (fun b6 u U => ?_)
 ·rintro x7 E W ⟨L8, d, d3, e9, a4, f0⟩ H
  refine ln (CI H f0 (fun e0 H => ?_) (fun e0 H => ?_))
  ·refine sg (Wa (ln ?_))
   replace d := d.iU (Db St)
   refine jz (jx ?_)
   obtain rfl := sj H
   exact jR (v := (.slice none 0 0)) rfl rfl ⟨_, [], rfl, d.ly (fun p o => by cases o) (by simp), jl.nil _ _ _⟩
  refine kg (Wh e9 (bS H fun d4 e3 H => VE (pT d call188 (jZ.kw (FB T a2 _ _ (d9.mono (Pl.mono _) d.jf) e3)) (fun g8 q g9 g7 d c5 ab a9 => Wa (lr (Wm (Wa (jC ?_))))))))
  refine jb (jm ?_)
  have e1 := a9.MM d (fun p o => (Ml o))
  obtain ⟨d5, d, c6, ad, b3⟩ := ST.yk d a9 (fun _ => rfl)
  refine CJ H (fun b5 E W => ∃ Y Z d2, js d5 Z ∧ ST false jD w W Z ((n, Ol (iX c) 108) :: d2) ∧ E 1 = B ∧ E 2 = q ∧ E 3 = (.pointer (some ⟨n, 0, none⟩)) ∧ E 7 = Y ∧ Sl (Pl lE) 1 Z Y b5 ∧ Fr w.heap.size Y) (fun b5 t => ?_) ?_
  ·refine sg (V (iY mT a4) (VB d Mh rfl rfl bF (Wi rfl (ln (CI t rfl (fun c2 t => ?_) (fun c2 t => ?_))))))
   ·refine jj (V (iY rz a4) (VB d Mh rfl rfl aH (VE (jS (cs := [(.string c.jA)].toArray) d (ma rfl) (lV aT cx iE) (fun g1 J d => Wa (ln ?_))))))
    obtain rfl := sj t
    have c3 : Fr w.heap.size (.slice (some ⟨J, 0, none⟩) 1 1) := Fr.box d Mh
    obtain ⟨e7, d, b2, a8, c9⟩ := ST.yk (R := [(J, Ol [(.string c.jA)] 9)]) d (jl.lit (l := [c.jA]) (enc := lE) (b := J) (m := 1) rfl dc rfl rfl) (fun _ => rfl)
    exact ⟨(.slice (some ⟨J, 0, none⟩) 1 1), e7, _, b2, (d.iU St), d3, rfl, a4, rfl, c9, c3⟩
   refine kn ?_
   obtain rfl := sj t
   exact ⟨q, d5, _, (js.refl _), (d.iU St), d3, rfl, a4, rfl, b3, e1⟩
  rintro L E W ⟨Y, Z, d2, a5, d, f2, f3, f4, f5, a3, g2⟩ e2
  refine sg (Wa (lS (Wh f5 (V (jO aT rfl a3) (Wm (ln (jG (fun i E W => ∃ k I j A, (E 29 = .int .i64 (i : Nat) ∧ E 28 = .int .i64 (L.length : Nat)) ∧ ST false jD w W Z ((n, Ol (iX c) 108) :: (j ++ A)) ∧ E 1 = B ∧ E 2 = q ∧ E 3 = (.pointer (some ⟨n, 0, none⟩)) ∧ E 8 = k ∧ E 27 = Y ∧ jl 38 je 3 k I j ∧ pk c f1 d4 (L.drop i) I = some r) L.length a3.len ⟨(.slice none 0 0), ([]), [], _, ⟨rfl, rfl⟩, (d.iU St), f2, f3, f4, rfl, rfl, (jl.nil _ _ _), e2⟩ dc dc dc (fun _ _ _ h => by obtain ⟨_, _, _, _, P, _⟩ := h; exact P) ?_ ?_)))))))
  ·rintro e4 E W c4 ⟨k, I, j, A, ⟨s, eN⟩, d, K, M, D, N, Q, z, a⟩
   obtain ⟨g, f7, d1, d0, a6⟩ := jB c4
   let a0 := (⟨c.Head, g⟩ : iV)
   rw [d1] at a
   refine bg (VQ (kk (enc := lE) (i := (e4 : Int)) (x0 := g) aT cx Q s a3 (ah _) d0) (fun g3 c7 => V (iW rfl (lC d.has (y := (.string g)) c7 aH)) (Wa (lr (V (iW D (jc d.has Mh (iX c) rfl aS ak)) (Wh K (Wh M (Wm (bS a fun g4 c8 a => ?_)))))))))
   refine VE (Eg d call190 (G6 c B f1 q d4 g _ _ (b0.mono (((c5.trans c6).trans a5).trans d.jf)) (b3.mono (Pl.mono _) (a5.trans d.jf)) c8) (fun f8 d => ln (CI a rfl (fun c0 a => ?_) (fun c0 a => ?_))))
   ·refine jj (Wh N (V (iY mY D) (VA d Mh (iT c.Head) an ag (Wm (V (kT (v := (.agg (je (a0)).toArray)) (nz rfl rfl) (ku bW bl (Be _ bl) kr)) (VE (jS (cs := (je (a0)).toArray) d (ma rfl) (lV bj bf bW) (fun f9 d8 d => ?_))))))))
    replace d := d.perm (Nr (Qb (Qb Qz)) Nz)
    refine bS a fun e5 c1 a => VE (kX (enc := je) (v := k) (vs := (.slice (some ⟨d8, 0, none⟩) 1 1)) (R := j) d lJ dc uW bj pt.1 pt.2.1 rfl pt.2.2.1 pt.2.2.2 rfl rfl z (Sl.lit (enc := je) (l := [a0]) lJ rfl nb rfl (d.at_ (Ma Mh))) c1 (fun g0 e6 d6 d b9 => Wa (jC (jI (jb ?_)))))
    replace d := d.iU (Kr (Db St))
    exact ⟨s, e6, e5, d6, _, ⟨rfl, eN⟩, (d.iU (Sb (Pr Pz) St)), K, M, D, rfl, Q, b9, (by rw [a6]; exact a)⟩
   exact jJ (jI (jb ⟨s, k, I, j, _, ⟨rfl, eN⟩, (d.iU St), K, M, D, N, Q, z, (by rw [a6]; exact a)⟩))
  rintro E W ⟨k, I, j, A, ⟨s, eN⟩, d, K, M, D, N, Q, z, a⟩
  rw [ai] at a
  refine jb ?_
  replace d := d.iU (Db St)
  refine sg (Wh N (Wa (lt ?_)))
  obtain rfl := sj a
  exact jR (v := k) rfl rfl ⟨_, j, rfl, d.ly (fun p o => (Ml o)) z.nd, z⟩
 refine bC u (fun G u => ?_) (fun G u => ?_)
 ·refine un G (un G (V (jq (cB G) rfl) ?_))
  obtain rfl := sj u
  exact U _ _ ⟨_, (d.iU St), rfl, rfl, rfl, rfl⟩
 refine ug G (jd rfl) (ug G (HE underlying104 b0 rfl rfl) (V (jn (cB G) rfl) ?_))
 obtain rfl := sj u
 exact U _ _ ⟨_, (d.iU St), rfl, rfl, rfl, rfl⟩
theorem Fh (a : iR) (g : ByteArray) (i : Nat) (c : Value) (u : List (iV × Bool)) (r : Bool) (w : World) (t : tX (fun (x : iV) => (.agg (je x).toArray)) (fun (x : Bool) => (Value.bool x)) (hp w) c u) (j : At (hp w) (.pointer (some ⟨i, 0, none⟩)) [c]) (hm : sA a g u = some r) :
  jv true pg0 133 [(.agg (iT a).toArray), (.string g), (.pointer (some ⟨i, 0, none⟩))] w (.bool r) := by
 refine cG 11 func133 rfl (fun d => sg (VE (jF d rfl (fun B D d => Wa (lr (V (iW rfl (lC d.has (y := c) j isAgg191)) (VA d Mh (iT a) an ag (Wm (V (kT (v := (.agg (je (⟨a, g⟩ : iV)).toArray)) (nz rfl rfl) (ku bW bl (Be _ bl) kr)) (V (uu (k := (⟨a, g⟩ : iV)) (z := false) (vf := (fun (x : Bool) => (Value.bool x))) IU fV eV rfl rfl (t.mono (fun b o h => d.has.1 b o h))) (Wa ?_)))))))))))
 refine ln ?_
 exact jz (rQ hm d)
end Go.Proofs.YtbnbdigcbldfhaaGreat
