/- a part of a proof of GateSafe -/
import Derived.Test.YtklbhegeiijbjaaGreatGSMg
import Derived.Test.YtklbhegeiijbjaaGreatProg
set_option linter.all false
namespace Go.Proofs.YtklbhegeiijbjaaGreat
open Go.IntKind renaming wrap → wi0
open Go.Proofs.Tryz renaming prog → pg0
open Go.RowKit
set_option maxRecDepth 10000
open Tryz
def aC := @sizeOf58
def aF := @underlying56
def aG := @underlying28
def aH := @sizeOf52
def aN := @sizeOf50
def bB := @isAgg58
def bI := @zeroValue58
def bK := @underlying34
def bO := @isAgg50
def bP := @isAgg52
def bR := @underlying53
def bY := @underlying9
def cK := @underlying58
def cL := @isAgg9
def cM := @zeroValue52
def cT := @sizeOf55
def cZ := @underlying23
def dD := @isAgg3
def dG := @zeroValue55
def dO := @underlying50
def dP := @underlying52
def dV := @underlying22
def dW := @sizeOf60
def eG := @zeroValue50
def eK := @sizeOf87
def eV := @underlying45
def eZ := @isAgg28
def fC := @underlying36
def fD := @sizeOf25
def fF := @underlying3
def fK := @underlying55
def fL := @underlying5
def fM := @sizeOf36
def fQ := @underlying189
def fR := @underlying184
def gx := @zeroValue60
def gA := @isAgg25
def gC := @eqGuardType52
def gD := @underlying232
def gM := @isAgg56
def gN := @zeroValue190
def gQ := @underlying111
def gS := @underlying190
def gZ := @isAgg53
def ib := @isAgg55
def ic := @isAgg36
def ir := @underlying60
def iC := @sizeOf28
def iD := @underlying239
def iE := @underlying237
def iF := @eqGuardType50
def iV := @sizeOf9
def iW := @underlying25
def je := @underlying118
def jf := @underlying187
def jg := @underlying191
def jj := @zeroValue87
def jk := @isAgg184
def jv := @sizeOf3
def jw := @sizeOf5
def jx := @underlying37
def jy := @sizeOf118
def jQ := @sizeOf53
def jR := @zeroValue5
def km := @call153
def ko := @isAgg22
def kp := @isAgg60
def kq := @zeroValue28
def kz := @underlying249
def kA := @underlying126
def kB := @underlying261
def kH := @sizeOf111
def kO := @zeroValue118
def kP := @zeroValue4
def kR := @zeroValue111
def kZ := @call57
def la := @zeroValue36
def lc := @isAgg87
abbrev K0 : lg := ⟨zS, zS⟩
abbrev K1 : ByteArray := ⟨#[120]⟩
abbrev K2 : ByteArray := ⟨#[122]⟩
abbrev K3 : ByteArray := ⟨#[109, 101]⟩
abbrev K4 : ByteArray := ⟨#[121]⟩
abbrev K5 : ByteArray := ⟨#[121, 111, 117]⟩
abbrev K6 : mu := ⟨0⟩
abbrev K7 : lg := ⟨K1, K2⟩
abbrev K9 : lg := ⟨K1, K4⟩
abbrev Ro : lf := ⟨0, K0, zS, K0, K0, zS⟩
abbrev tm : lf := ⟨1, K9, K3, K0, K0, zS⟩
abbrev zg : lf := ⟨1, K7, K5, K0, K0, zS⟩
abbrev C1 (a b : Int) (c d : ByteArray) (g : Option Addr) (h i : Nat) : List Value := [(.int .i64 a), (.int .i64 b), (.string c), (.string d), (.slice g h i)]
abbrev C2 (c : Int) (d g h i j k l n : ByteArray) (o : Option Addr) (a b : Nat) : List Value := [(.int .i64 c), (.string d), (.string g), (.string h), (.string i), (.string j), (.string k), (.string l), (.string n), (.slice o a b)]
abbrev C3 (l : Int) (n o q r s t u v : ByteArray) (w : Option Addr) (a b : Nat) (c d : Int) (g h : ByteArray) (i : Option Addr) (j k : Nat) : List Value := [(.int .i64 l), (.string n), (.string o), (.string q), (.string r), (.string s), (.string t), (.string u), (.string v), (.slice w a b), (.int .i64 c), (.int .i64 d), (.string g), (.string h), (.slice i j k)]
abbrev C4 (o : ByteArray) (q : Option Addr) (r s : Nat) (t : Option Addr) (u v : Nat) (w : ByteArray) (x : Int) (y : Option Addr) (a b : Nat) (c : Option Addr) (d g : Nat) (h : Option Addr) (i j : Nat) (k : Option Addr) (l n : Nat) : List Value := [(.string o), (.slice q r s), (.slice t u v), (.string w), (.int .i64 x), (.slice y a b), (.slice c d g), (.slice h i j), (.slice k l n)]
abbrev C5 (c d : ByteArray) (g h : Int) (i j : ByteArray) (k : Option Addr) (l n : Nat) (o : Option Addr) (a b : Nat) : List Value := [(.string c), (.string d), (.int .i64 g), (.int .i64 h), (.string i), (.string j), (.slice k l n), (.slice o a b)]
abbrev C6 : List Value := [(.int .i64 0), (.int .i64 0), (.string zS), (.string zS), (.slice none 0 0)]
abbrev C7 : List Value := [(.int .i64 0), (.string (K0.lh)), (.string (K0.lp)), (.string zS), (.string (K0.lh)), (.string (K0.lp)), (.string (K0.lh)), (.string (K0.lp)), (.string zS), (.slice none 0 0)]
abbrev C8 (a : ByteArray) (b : Option Addr) (c d : Nat) (g : Option Addr) (h i : Nat) : List Value := [(.string a), (.slice b c d), (.slice g h i)]
abbrev C9 : List Value := [(.int .i64 0), (.string (K0.lh)), (.string (K0.lp)), (.string zS), (.string (K0.lh)), (.string (K0.lp)), (.string (K0.lh)), (.string (K0.lp)), (.string zS), (.slice none 0 0), (.int .i64 0), (.int .i64 0), (.string zS), (.string zS), (.slice none 0 0)]
abbrev Kz : List Value := [(.string zS), (.slice none 0 0), (.slice none 0 0), (.string zS), (.int .i64 0), (.slice none 0 0), (.slice none 0 0), (.slice none 0 0), (.slice none 0 0)]
abbrev Ue (a : ByteArray) (b : Option Addr) (c d : Nat) (g : Option Addr) (h i : Nat) (j : ByteArray) (k : Int) : List Value := [(.string a), (.slice b c d), (.slice g h i), (.string j), (.int .i64 k), (.slice none 0 0), (.slice none 0 0), (.slice none 0 0), (.slice none 0 0)]
abbrev RC (a : Int) : List Value := [(.int .i64 a), (.int .i64 0), (.string zS), (.string zS), (.slice none 0 0)]
abbrev Ng : List Value := [(.int .i64 2), (.int .i64 0), (.string zS), (.string zS), (.slice none 0 0)]
abbrev NI : List Value := [(.int .i64 3), (.int .i64 0), (.string zS), (.string zS), (.slice none 0 0)]
abbrev Ls (a : Nat) : List Value := [(.string K1), (.slice (some ⟨a, 0, none⟩) 1 1)]
abbrev PC (a : Nat) : List Value := [(.string K3), (.slice (some ⟨a, 0, none⟩) 1 1), (.slice none 0 0)]
theorem lY : Tryz.prog.follows .mixedOrders = true := by rfl
theorem rV : Tryz.prog.info? 5 = some Tryz.t5 ∧ Tryz.t5.zero = some (.int .u8 0) ∧ Tryz.t5.size = 1 ∧ Tryz.t5.bytes = 1 := ⟨by kernel_rfl, by kernel_rfl, by kernel_rfl, by kernel_rfl⟩
theorem rM : Tryz.prog.info? 50 = some Tryz.t50 ∧ Tryz.t50.zero = some (.agg #[(.string ⟨#[]⟩), (.string ⟨#[]⟩)]) ∧ Tryz.t50.size = 2 ∧ Tryz.t50.bytes = 32 := ⟨by kernel_rfl, by kernel_rfl, by kernel_rfl, by kernel_rfl⟩
theorem nZ : Tryz.prog.info? 52 = some Tryz.t52 ∧ Tryz.t52.zero = some (.agg #[(.int .i64 0), (.string ⟨#[]⟩), (.string ⟨#[]⟩), (.string ⟨#[]⟩), (.string ⟨#[]⟩), (.string ⟨#[]⟩), (.string ⟨#[]⟩), (.string ⟨#[]⟩), (.string ⟨#[]⟩)]) ∧ Tryz.t52.size = 9 ∧ Tryz.t52.bytes = 136 := ⟨by kernel_rfl, by kernel_rfl, by kernel_rfl, by kernel_rfl⟩
theorem GP : Tryz.prog.info? 55 = some Tryz.t55 ∧ Tryz.t55.zero = some (.agg #[(.int .i64 0), (.string ⟨#[]⟩), (.string ⟨#[]⟩), (.string ⟨#[]⟩), (.string ⟨#[]⟩), (.string ⟨#[]⟩), (.string ⟨#[]⟩), (.string ⟨#[]⟩), (.string ⟨#[]⟩), (.slice none 0 0)]) ∧ Tryz.t55.size = 10 ∧ Tryz.t55.bytes = 160 := ⟨by kernel_rfl, by kernel_rfl, by kernel_rfl, by kernel_rfl⟩
theorem qi : Tryz.prog.info? 58 = some Tryz.t58 ∧ Tryz.t58.zero = some (.agg #[(.int .i64 0), (.int .i64 0), (.string ⟨#[]⟩), (.string ⟨#[]⟩), (.slice none 0 0)]) ∧ Tryz.t58.size = 5 ∧ Tryz.t58.bytes = 72 := ⟨by kernel_rfl, by kernel_rfl, by kernel_rfl, by kernel_rfl⟩
theorem He : Tryz.prog.info? 87 = some Tryz.t87 ∧ Tryz.t87.zero = some (.agg #[(.string ⟨#[]⟩), (.string ⟨#[]⟩), (.int .i64 0), (.int .i64 0), (.string ⟨#[]⟩), (.string ⟨#[]⟩), (.slice none 0 0), (.slice none 0 0)]) ∧ Tryz.t87.size = 8 ∧ Tryz.t87.bytes = 128 := ⟨by kernel_rfl, by kernel_rfl, by kernel_rfl, by kernel_rfl⟩
theorem Fx : Tryz.prog.info? 111 = some Tryz.t111 ∧ Tryz.t111.zero = some (.agg #[(.string ⟨#[]⟩), (.string ⟨#[]⟩), (.string ⟨#[]⟩)]) ∧ Tryz.t111.size = 3 ∧ Tryz.t111.bytes = 48 := ⟨by kernel_rfl, by kernel_rfl, by kernel_rfl, by kernel_rfl⟩
theorem vh : ni pg0 50 0 0 := my dO rfl iV (by decide) rfl
theorem xA : ni pg0 50 1 1 := my dO rfl iV (by decide) rfl
theorem O5 : (Tryz.prog.fieldsOf 50).toList = (match Tryz.prog.underlying 50 with | some (.struct a) => a.toList | _ => []) := by rw [dO]; simp [Program.fieldsOf, dO]
theorem vw (d : Nat) (x y : lg) (W : World) : (Op.equalIn (d + 2) 50 (.agg (lu x).toArray) (.agg (lu y).toArray)).run pg0 W = .ok (lQ x y) W := by
 rw [run_equalIn_struct W (d + 1) 50 _ _ (by kernel_rfl) Tryz.stoodInHeld50, O5, dO]
 exact (sJ (by decide) (ue cL rfl) (ue cL rfl) (Px bY _ _ _ _) (sJ (by decide) (ue cL rfl) (ue cL rfl) (Px bY _ _ _ _) (EE _ _ _)))
theorem Mu : ∀ a, Tryz.prog.underlying 50 = some (.struct a) → ∀ w, (a.mapM (fun (f : Field) => do pure (f.offset, ← sizeOf f.type)) : Sem (Array (Nat × Nat))).run pg0 w = .ok #[(0, 1), (1, 1)] w := by
 intro a h w
 rw [dO] at h
 cases h
 kernel_rfl
theorem zr : ni pg0 52 0 0 := my dP rfl jv (by decide) rfl
theorem uM : ni pg0 52 1 1 := my dP rfl aN (by decide) rfl
theorem Di : ni pg0 52 2 3 := my dP rfl iV (by decide) rfl
theorem rr : ni pg0 52 3 4 := my dP rfl aN (by decide) rfl
theorem zm : ni pg0 52 4 6 := my dP rfl aN (by decide) rfl
theorem AT : ni pg0 52 5 8 := my dP rfl iV (by decide) rfl
theorem Pf : (Tryz.prog.fieldsOf 52).toList = (match Tryz.prog.underlying 52 with | some (.struct a) => a.toList | _ => []) := by rw [dP]; simp [Program.fieldsOf, dP]
theorem xN (d : Nat) (x y : lf) (W : World) : (Op.equalIn (d + 3) 52 (.agg (li x).toArray) (.agg (li y).toArray)).run pg0 W = .ok (nw x y) W := by
 rw [run_equalIn_struct W (d + 2) 52 _ _ (by kernel_rfl) Tryz.stoodInHeld52, Pf, dP]
 exact (sJ (by decide) (ue dD rfl) (ue dD rfl) (Ud fF _ _ _ _) (sJ (by decide) (Al bO aN rfl) (Al bO aN rfl) (vw _ x.Head y.Head W) (sJ (by decide) (ue cL rfl) (ue cL rfl) (Px bY _ _ _ _) (sJ (by decide) (Al bO aN rfl) (Al bO aN rfl) (vw _ x.B y.B W) (sJ (by decide) (Al bO aN rfl) (Al bO aN rfl) (vw _ x.C y.C W) (sJ (by decide) (ue cL rfl) (ue cL rfl) (Px bY _ _ _ _) (EE _ _ _)))))))
theorem Pe : ∀ a, Tryz.prog.underlying 52 = some (.struct a) → ∀ w, (a.mapM (fun (f : Field) => do pure (f.offset, ← sizeOf f.type)) : Sem (Array (Nat × Nat))).run pg0 w = .ok #[(0, 1), (1, 2), (3, 1), (4, 2), (6, 2), (8, 1)] w := by
 intro a h w
 rw [dP] at h
 cases h
 kernel_rfl
theorem H8 : ni pg0 111 0 0 := my gQ rfl aN (by decide) rfl
theorem By : ni pg0 111 1 2 := my gQ rfl iV (by decide) rfl
theorem PM : ∀ a, Tryz.prog.underlying 111 = some (.struct a) → ∀ w, (a.mapM (fun (f : Field) => do pure (f.offset, ← sizeOf f.type)) : Sem (Array (Nat × Nat))).run pg0 w = .ok #[(0, 2), (2, 1)] w := by
 intro a h w
 rw [gQ] at h
 cases h
 kernel_rfl
theorem Lc : ni pg0 249 0 0 := my kz rfl sizeOf40 (by decide) rfl
theorem SF : ∀ a, Tryz.prog.underlying 249 = some (.struct a) → ∀ w, (a.mapM (fun (f : Field) => do pure (f.offset, ← sizeOf f.type)) : Sem (Array (Nat × Nat))).run pg0 w = .ok #[(0, 1)] w := by
 intro a h w
 rw [kz] at h
 cases h
 kernel_rfl
theorem tF : ni pg0 55 0 0 := my fK rfl aH (by decide) rfl
theorem Dg : ni pg0 55 1 9 := my fK rfl jQ (by decide) rfl
theorem MB : ∀ a, Tryz.prog.underlying 55 = some (.struct a) → ∀ w, (a.mapM (fun (f : Field) => do pure (f.offset, ← sizeOf f.type)) : Sem (Array (Nat × Nat))).run pg0 w = .ok #[(0, 9), (9, 1)] w := by
 intro a h w
 rw [fK] at h
 cases h
 kernel_rfl
theorem vk : ni pg0 58 0 0 := my cK rfl jv (by decide) rfl
theorem zB : ni pg0 58 1 1 := my cK rfl jv (by decide) rfl
theorem zN : ni pg0 58 2 2 := my cK rfl aN (by decide) rfl
theorem uh : ni pg0 58 3 4 := my cK rfl sizeOf56 (by decide) rfl
theorem BI : ∀ a, Tryz.prog.underlying 58 = some (.struct a) → ∀ w, (a.mapM (fun (f : Field) => do pure (f.offset, ← sizeOf f.type)) : Sem (Array (Nat × Nat))).run pg0 w = .ok #[(0, 1), (1, 1), (2, 2), (4, 1)] w := by
 intro a h w
 rw [cK] at h
 cases h
 kernel_rfl
theorem xF : ni pg0 60 0 0 := my ir rfl cT (by decide) rfl
theorem J0 : ni pg0 60 1 10 := my ir rfl aC (by decide) rfl
theorem RH : ∀ a, Tryz.prog.underlying 60 = some (.struct a) → ∀ w, (a.mapM (fun (f : Field) => do pure (f.offset, ← sizeOf f.type)) : Sem (Array (Nat × Nat))).run pg0 w = .ok #[(0, 10), (10, 5)] w := by
 intro a h w
 rw [ir] at h
 cases h
 kernel_rfl
theorem Ez : ni pg0 87 0 0 := my underlying87 rfl aN (by decide) rfl
theorem Ku : ni pg0 87 1 2 := my underlying87 rfl aC (by decide) rfl
theorem HE : ni pg0 87 2 7 := my underlying87 rfl iC (by decide) rfl
theorem NF : ni pg0 25 0 0 := my iW rfl iV (by decide) rfl
theorem zo : ni pg0 25 1 1 := my iW rfl sizeOf22 (by decide) rfl
theorem EP : ni pg0 25 2 2 := my iW rfl sizeOf23 (by decide) rfl
theorem TR : ∀ a, Tryz.prog.underlying 25 = some (.struct a) → ∀ w, (a.mapM (fun (f : Field) => do pure (f.offset, ← sizeOf f.type)) : Sem (Array (Nat × Nat))).run pg0 w = .ok #[(0, 1), (1, 1), (2, 1)] w := by
 intro a h w
 rw [iW] at h
 cases h
 kernel_rfl
theorem zK : ni pg0 36 0 0 := my fC rfl fD (by decide) rfl
theorem HB : ni pg0 36 1 3 := my fC rfl iV (by decide) rfl
theorem Ky : ni pg0 36 2 4 := my fC rfl jv (by decide) rfl
theorem zP : ni pg0 36 3 5 := my fC rfl iC (by decide) rfl
theorem AQ : ni pg0 36 4 6 := my fC rfl iC (by decide) rfl
theorem JZ : ni pg0 36 5 7 := my fC rfl sizeOf34 (by decide) rfl
theorem J8 : ni pg0 36 6 8 := my fC rfl sizeOf34 (by decide) rfl
theorem R0 : ∀ a, Tryz.prog.underlying 36 = some (.struct a) → ∀ w, (a.mapM (fun (f : Field) => do pure (f.offset, ← sizeOf f.type)) : Sem (Array (Nat × Nat))).run pg0 w = .ok #[(0, 3), (3, 1), (4, 1), (5, 1), (6, 1), (7, 1), (8, 1)] w := by
 intro a h w
 rw [fC] at h
 cases h
 kernel_rfl
theorem Fo : ni pg0 118 0 0 := my je rfl iV (by decide) rfl
theorem Fp : ni pg0 118 1 1 := my je rfl jQ (by decide) rfl
theorem SY : ∀ a, Tryz.prog.underlying 118 = some (.struct a) → ∀ w, (a.mapM (fun (f : Field) => do pure (f.offset, ← sizeOf f.type)) : Sem (Array (Nat × Nat))).run pg0 w = .ok #[(0, 1), (1, 1)] w := by
 intro a h w
 rw [je] at h
 cases h
 kernel_rfl
theorem Rk : ni pg0 47 0 0 := my underlying47 rfl jv (by decide) rfl
theorem N3 : ni pg0 47 1 1 := my underlying47 rfl sizeOf45 (by decide) rfl
theorem Nl : ni pg0 47 2 2 := my underlying47 rfl iC (by decide) rfl
theorem H5 : ni pg0 126 0 0 := my kA rfl sizeOf124 (by decide) rfl
theorem SH : ∀ a, Tryz.prog.underlying 126 = some (.struct a) → ∀ w, (a.mapM (fun (f : Field) => do pure (f.offset, ← sizeOf f.type)) : Sem (Array (Nat × Nat))).run pg0 w = .ok #[(0, 1)] w := by
 intro a h w
 rw [kA] at h
 cases h
 kernel_rfl
theorem xW : ni pg0 189 0 0 := my fQ rfl sizeOf184 (by decide) rfl
theorem H9 : ni pg0 189 1 1 := my fQ rfl iC (by decide) rfl
theorem Lt : ni pg0 189 2 2 := my fQ rfl sizeOf185 (by decide) rfl
theorem HK : ni pg0 189 3 3 := my fQ rfl sizeOf186 (by decide) rfl
theorem Bz : ni pg0 189 4 4 := my fQ rfl sizeOf187 (by decide) rfl
theorem Fj : ni pg0 189 5 5 := my fQ rfl jv (by decide) rfl
theorem SX : ∀ a, Tryz.prog.underlying 189 = some (.struct a) → ∀ w, (a.mapM (fun (f : Field) => do pure (f.offset, ← sizeOf f.type)) : Sem (Array (Nat × Nat))).run pg0 w = .ok #[(0, 1), (1, 1), (2, 1), (3, 1), (4, 1), (5, 1)] w := by
 intro a h w
 rw [fQ] at h
 cases h
 kernel_rfl
theorem Ae : ni pg0 239 0 0 := my iD rfl jQ (by decide) rfl
theorem Ps : ∀ a, Tryz.prog.underlying 239 = some (.struct a) → ∀ w, (a.mapM (fun (f : Field) => do pure (f.offset, ← sizeOf f.type)) : Sem (Array (Nat × Nat))).run pg0 w = .ok #[(0, 1)] w := by
 intro a h w
 rw [iD] at h
 cases h
 kernel_rfl
def oq : qp Signed := fun μ ys x => ∃ (v0 : Value), ys = [.int .i64 x.lf.Kind, .string x.lf.Head.lh, .string x.lf.Head.lp, .string x.lf.lM, .string x.lf.B.lh, .string x.lf.B.lp, .string x.lf.C.lh, .string x.lf.C.lp, .string x.lf.lN, v0] ∧ Sl (Pl (mj .u8)) 1 μ v0 x.Tag
theorem oq.out {μ : lZ} {ys : List Value} {x : Signed} (h : oq μ ys x) : ∃ (v0 : Value), ys = [.int .i64 x.lf.Kind, .string x.lf.Head.lh, .string x.lf.Head.lp, .string x.lf.lM, .string x.lf.B.lh, .string x.lf.B.lp, .string x.lf.C.lh, .string x.lf.C.lp, .string x.lf.lN, v0] ∧ Sl (Pl (mj .u8)) 1 μ v0 x.Tag := h
theorem oq.mk {μ : lZ} {ys : List Value} {x : Signed} (h : ∃ (v0 : Value), ys = [.int .i64 x.lf.Kind, .string x.lf.Head.lh, .string x.lf.Head.lp, .string x.lf.lM, .string x.lf.B.lh, .string x.lf.B.lp, .string x.lf.C.lh, .string x.lf.C.lp, .string x.lf.lN, v0] ∧ Sl (Pl (mj .u8)) 1 μ v0 x.Tag) : oq μ ys x := h
theorem qn : Deep oq 10 where
 mono := by rintro _ _ _ _ b ⟨v0, rfl, a⟩; exact ⟨v0, rfl, a.mono (Pl.mono _) b⟩
 len := by rintro _ _ _ ⟨v0, rfl, a⟩; rfl
 one := by
  rintro _ _ _ ⟨v0, rfl, a⟩
  intro u hu; simp only [aM, cH, eY] at hu; rcases hu with rfl | rfl | rfl | rfl | rfl | rfl | rfl | rfl | rfl | rfl
  ·rfl
  ·rfl
  ·rfl
  ·rfl
  ·rfl
  ·rfl
  ·rfl
  ·rfl
  ·rfl
  ·exact a.xZ
def yw : Nat → qp Formula
 | 0 => fun _ _ _ => False
 | n + 1 => fun μ ys x => ∃ (v0 : Value), ys = [.int .i64 x.Op, .int .i64 x.K, .string x.lg.lh, .string x.lg.lp, v0] ∧ Sl (yw n) 5 μ v0 x.Kids
def lj : qp Formula := fun μ ys x => ∃ n, yw n μ ys x
theorem Eo : ∀ n, G2 (yw n)
 | 0 => fun _ _ _ _ _ h => h
 | n + 1 => by rintro _ _ _ _ b ⟨v0, rfl, a⟩; exact ⟨v0, rfl, a.mono (Eo n) b⟩
theorem G8 : ∀ n m (μ : lZ) (ys : List Value) (x : Formula), n ≤ m → yw n μ ys x → yw m μ ys x
 | 0, _, _, _, _, _, h => h.elim
 | n + 1, 0, _, _, _, a, _ => absurd a (by omega)
 | n + 1, m + 1, μ, ys, x, a, h => by
  obtain ⟨v0, rfl, b⟩ := h
  exact ⟨v0, rfl, b.imp fun ys x h => G8 n m μ ys x (by omega) h⟩
theorem lj.out {μ : lZ} {ys : List Value} {x : Formula} (h : lj μ ys x) : ∃ (v0 : Value), ys = [.int .i64 x.Op, .int .i64 x.K, .string x.lg.lh, .string x.lg.lp, v0] ∧ Sl lj 5 μ v0 x.Kids := by
 obtain ⟨n, h⟩ := h
 cases n with
 | zero => exact h.elim
 | succ n =>
  obtain ⟨v0, rfl, a⟩ := h
  exact ⟨v0, rfl, a.imp fun ys x h => ⟨n, h⟩⟩
theorem lj.mk {μ : lZ} {ys : List Value} {x : Formula} (h : ∃ (v0 : Value), ys = [.int .i64 x.Op, .int .i64 x.K, .string x.lg.lh, .string x.lg.lp, v0] ∧ Sl lj 5 μ v0 x.Kids) : lj μ ys x := by
 obtain ⟨v0, rfl, c⟩ := h
 obtain ⟨n, g⟩ := c.Td (fun _ _ h => h) (fun a b ys x d h => G8 a b _ ys x d h)
 exact ⟨n + 1, v0, rfl, g⟩
theorem lI : Deep lj 5 where
 mono := fun _ _ _ _ b ⟨n, h⟩ => ⟨n, Eo n _ _ _ _ b h⟩
 len := by rintro _ _ _ h; obtain ⟨v0, rfl, a⟩ := h.out; rfl
 one := by
  rintro _ _ _ h
  obtain ⟨v0, rfl, a⟩ := h.out
  intro u hu; simp only [aM, cH, eY] at hu; rcases hu with rfl | rfl | rfl | rfl | rfl
  ·rfl
  ·rfl
  ·rfl
  ·rfl
  ·exact a.xZ
def mn : qp mg := fun μ ys x => ∃ (v0 : Value) (v1 : Value), ys = [.int .i64 x.Signed.lf.Kind, .string x.Signed.lf.Head.lh, .string x.Signed.lf.Head.lp, .string x.Signed.lf.lM, .string x.Signed.lf.B.lh, .string x.Signed.lf.B.lp, .string x.Signed.lf.C.lh, .string x.Signed.lf.C.lp, .string x.Signed.lf.lN, v0, .int .i64 x.ly.Op, .int .i64 x.ly.K, .string x.ly.lg.lh, .string x.ly.lg.lp, v1] ∧ Sl (Pl (mj .u8)) 1 μ v0 x.Signed.Tag ∧ Sl lj 5 μ v1 x.ly.Kids
theorem mn.out {μ : lZ} {ys : List Value} {x : mg} (h : mn μ ys x) : ∃ (v0 : Value) (v1 : Value), ys = [.int .i64 x.Signed.lf.Kind, .string x.Signed.lf.Head.lh, .string x.Signed.lf.Head.lp, .string x.Signed.lf.lM, .string x.Signed.lf.B.lh, .string x.Signed.lf.B.lp, .string x.Signed.lf.C.lh, .string x.Signed.lf.C.lp, .string x.Signed.lf.lN, v0, .int .i64 x.ly.Op, .int .i64 x.ly.K, .string x.ly.lg.lh, .string x.ly.lg.lp, v1] ∧ Sl (Pl (mj .u8)) 1 μ v0 x.Signed.Tag ∧ Sl lj 5 μ v1 x.ly.Kids := h
theorem mn.mk {μ : lZ} {ys : List Value} {x : mg} (h : ∃ (v0 : Value) (v1 : Value), ys = [.int .i64 x.Signed.lf.Kind, .string x.Signed.lf.Head.lh, .string x.Signed.lf.Head.lp, .string x.Signed.lf.lM, .string x.Signed.lf.B.lh, .string x.Signed.lf.B.lp, .string x.Signed.lf.C.lh, .string x.Signed.lf.C.lp, .string x.Signed.lf.lN, v0, .int .i64 x.ly.Op, .int .i64 x.ly.K, .string x.ly.lg.lh, .string x.ly.lg.lp, v1] ∧ Sl (Pl (mj .u8)) 1 μ v0 x.Signed.Tag ∧ Sl lj 5 μ v1 x.ly.Kids) : mn μ ys x := h
theorem mI : Deep mn 15 where
 mono := by rintro _ _ _ _ b ⟨v0, v1, rfl, a, h1⟩; exact ⟨v0, v1, rfl, a.mono (Pl.mono _) b, h1.mono lI.mono b⟩
 len := by rintro _ _ _ ⟨v0, v1, rfl, a, h1⟩; rfl
 one := by
  rintro _ _ _ ⟨v0, v1, rfl, a, h1⟩
  intro u hu; simp only [aM, cH, eY] at hu; rcases hu with rfl | rfl | rfl | rfl | rfl | rfl | rfl | rfl | rfl | rfl | rfl | rfl | rfl | rfl | rfl
  ·rfl
  ·rfl
  ·rfl
  ·rfl
  ·rfl
  ·rfl
  ·rfl
  ·rfl
  ·rfl
  ·exact a.xZ
  ·rfl
  ·rfl
  ·rfl
  ·rfl
  ·exact h1.xZ
def mW : qp nQ := fun μ ys x => ∃ (v0 : Value) (v1 : Value), ys = [.string x.lg.lh, .string x.lg.lp, .int .i64 x.ly.Op, .int .i64 x.ly.K, .string x.ly.lg.lh, .string x.ly.lg.lp, v0, v1] ∧ Sl lj 5 μ v0 x.ly.Kids ∧ Sl (Pl li) 9 μ v1 x.ns
theorem mW.out {μ : lZ} {ys : List Value} {x : nQ} (h : mW μ ys x) : ∃ (v0 : Value) (v1 : Value), ys = [.string x.lg.lh, .string x.lg.lp, .int .i64 x.ly.Op, .int .i64 x.ly.K, .string x.ly.lg.lh, .string x.ly.lg.lp, v0, v1] ∧ Sl lj 5 μ v0 x.ly.Kids ∧ Sl (Pl li) 9 μ v1 x.ns := h
theorem mW.mk {μ : lZ} {ys : List Value} {x : nQ} (h : ∃ (v0 : Value) (v1 : Value), ys = [.string x.lg.lh, .string x.lg.lp, .int .i64 x.ly.Op, .int .i64 x.ly.K, .string x.ly.lg.lh, .string x.ly.lg.lp, v0, v1] ∧ Sl lj 5 μ v0 x.ly.Kids ∧ Sl (Pl li) 9 μ v1 x.ns) : mW μ ys x := h
theorem nY : Deep mW 8 where
 mono := by rintro _ _ _ _ b ⟨v0, v1, rfl, a, h1⟩; exact ⟨v0, v1, rfl, a.mono lI.mono b, h1.mono (Pl.mono _) b⟩
 len := by rintro _ _ _ ⟨v0, v1, rfl, a, h1⟩; rfl
 one := by
  rintro _ _ _ ⟨v0, v1, rfl, a, h1⟩
  intro u hu; simp only [aM, cH, eY] at hu; rcases hu with rfl | rfl | rfl | rfl | rfl | rfl | rfl | rfl
  ·rfl
  ·rfl
  ·rfl
  ·rfl
  ·rfl
  ·rfl
  ·exact a.xZ
  ·exact h1.xZ
def vV : qp Key := fun μ ys x => ∃ (v0 : Value), ys = [.string x.lM, v0] ∧ Sl (Pl (mj .u8)) 1 μ v0 x.Key
theorem vV.out {μ : lZ} {ys : List Value} {x : Key} (h : vV μ ys x) : ∃ (v0 : Value), ys = [.string x.lM, v0] ∧ Sl (Pl (mj .u8)) 1 μ v0 x.Key := h
theorem vV.mk {μ : lZ} {ys : List Value} {x : Key} (h : ∃ (v0 : Value), ys = [.string x.lM, v0] ∧ Sl (Pl (mj .u8)) 1 μ v0 x.Key) : vV μ ys x := h
theorem H0 : Deep vV 2 where
 mono := by rintro _ _ _ _ b ⟨v0, rfl, a⟩; exact ⟨v0, rfl, a.mono (Pl.mono _) b⟩
 len := by rintro _ _ _ ⟨v0, rfl, a⟩; rfl
 one := by
  rintro _ _ _ ⟨v0, rfl, a⟩
  intro u hu; simp only [aM, cH, eY] at hu; rcases hu with rfl | rfl
  ·rfl
  ·exact a.xZ
def uv : qp uZ := fun μ ys x => ∃ (v0 : Value) (v1 : Value), ys = [.int .i64 x.Kind, v0, v1] ∧ Sl oq 10 μ v0 x.S ∧ Sl (Pl li) 9 μ v1 x.C
theorem uv.out {μ : lZ} {ys : List Value} {x : uZ} (h : uv μ ys x) : ∃ (v0 : Value) (v1 : Value), ys = [.int .i64 x.Kind, v0, v1] ∧ Sl oq 10 μ v0 x.S ∧ Sl (Pl li) 9 μ v1 x.C := h
theorem uv.mk {μ : lZ} {ys : List Value} {x : uZ} (h : ∃ (v0 : Value) (v1 : Value), ys = [.int .i64 x.Kind, v0, v1] ∧ Sl oq 10 μ v0 x.S ∧ Sl (Pl li) 9 μ v1 x.C) : uv μ ys x := h
theorem OI : Deep uv 3 where
 mono := by rintro _ _ _ _ b ⟨v0, v1, rfl, a, h1⟩; exact ⟨v0, v1, rfl, a.mono qn.mono b, h1.mono (Pl.mono _) b⟩
 len := by rintro _ _ _ ⟨v0, v1, rfl, a, h1⟩; rfl
 one := by
  rintro _ _ _ ⟨v0, v1, rfl, a, h1⟩
  intro u hu; simp only [aM, cH, eY] at hu; rcases hu with rfl | rfl | rfl
  ·rfl
  ·exact a.xZ
  ·exact h1.xZ
def oJ : qp oe := fun μ ys x => ∃ (v0 : Value), ys = [v0] ∧ rj Value.string (lR 5 (mj .u8) 1) μ v0 x.m
theorem oJ.out {μ : lZ} {ys : List Value} {x : oe} (h : oJ μ ys x) : ∃ (v0 : Value), ys = [v0] ∧ rj Value.string (lR 5 (mj .u8) 1) μ v0 x.m := h
theorem oJ.mk {μ : lZ} {ys : List Value} {x : oe} (h : ∃ (v0 : Value), ys = [v0] ∧ rj Value.string (lR 5 (mj .u8) 1) μ v0 x.m) : oJ μ ys x := h
theorem ub : Deep oJ 1 where
 mono := by rintro _ _ _ _ b ⟨v0, rfl, a⟩; exact ⟨v0, rfl, a.mono  b⟩
 len := by rintro _ _ _ ⟨v0, rfl, a⟩; rfl
 one := by
  rintro _ _ _ ⟨v0, rfl, a⟩
  intro u hu; simp only [aM, cH, eY] at hu; rcases hu with rfl
  ·exact a.xZ
theorem D9 : qf pg0 9 Value.string mK := qf.string bY
theorem A4 : qf pg0 50 (fun (x : lg) => (.agg (lu x).toArray)) lQ :=
 qf.struct dO (fun d x y W => vw (d + 8) x y W) (fun b k W => Hl dO rfl (ig.2 ⟨fun _ => ⟨.string k.lh, ue cL rfl, zy bY _ _ _ _⟩, (ig.2 ⟨fun _ => ⟨.string k.lp, ue cL rfl, zy bY _ _ _ _⟩, (fun _ h => by cases h)⟩)⟩))
  (fun k x h => (lO.1 h).symm) (fun k => by simp [Instr.sameBits, lu, Et, nD])
theorem RG (w : World) (s : ByteArray) (c : Int) : (callFunc 242 [Value.string s, .int .u8 c].toArray).run pg0 w = .ok (.value (.int .i64 (yi s c))) w := HJ func242 (by kernel_rfl) (by kernel_rfl) (by kernel_rfl) (by kernel_rfl) s c w
theorem yY (a : ByteArray) (c r : Int) (w : World) (hm : pL a c = some r) :
  lV true pg0 185 [(.string a), (.int .u8 c)] w (.int .i64 r) := by
 exact cG 8 func185 rfl (fun b => sg (Wa (lr (Wm (Wm (VE (MD (args := [(.string a), (.int .u8 c)]) (v := .int .i64 (yi a c)) rfl (by exact xv rfl rfl) (RG _ a c) (Wa (lt (rQ hm b))))))))))
theorem zW (a : ByteArray) (c r : Int) (w : World) (hm : sS a c = some r) :
  lV true pg0 121 [(.string a), (.int .u8 c)] w (.int .i64 r) := by
 refine cG 8 func121 rfl (fun b => sg (Wa (lr (Wm (Wm (bS hm fun j g hm => VE (Eg b call185 (yY a c _ _  g) (fun i b => Wa (ln ?_)))))))))
 exact mi (rQ hm b)
theorem KR (I : ByteArray) (r : Bool) (w : World) (hm : Cy I = some r) :
  lV true pg0 122 [(.string I)] w (.bool r) := by
 refine cG 16 func122 rfl (fun b => sg (Wa (lS (Wm (bS hm fun H J hm => VE (IF b bY bR fL rfl J (fun W3 N T b M o j Y => V (mS bR rfl j) (Wm (me ?_)))))))))
 refine lD (mQ (fun i E W => ∃ c, (E 8 = .int .i64 (i : Nat) ∧ E 7 = .int .i64 (H.length : Nat)) ∧ ST true mR w W T c ∧ E 6 = N ∧ vU (H.drop i) = some r) H.length j.len ⟨_, ⟨rfl, rfl⟩, (b.ll St), rfl, hm⟩ dc dc dc (fun _ _ _ h => by obtain ⟨_, l, _⟩ := h; exact l) ?_ ?_)
 ·rintro K E W u ⟨c, ⟨d, n⟩, b, g, a⟩
  obtain ⟨k, Q, D, B, G⟩ := mA u
  rw [D] at a
  refine bg (VQ (qb (enc := (mj .u8)) (i := (K : Int)) (x0 := k) bR jw g d j (aJ _) B) (fun Z x => V (lq rfl (qR b.has (y := (.int .u8 k)) x isAgg5)) (Wa (lr (Wm (bS a fun q z a => VE (Eg b call121 (zW (⟨#[97, 98, 99, 100, 101, 102, 103, 104, 105, 106, 107, 108, 109, 110, 111, 112, 113, 114, 115, 116, 117, 118, 119, 120, 121, 122, 48, 49, 50, 51, 52, 53, 54, 55, 56, 57, 45]⟩ : ByteArray) k _ _  z) (fun U b => Wi rfl (me ?_)))))))))
  refine lD (CI a rfl (fun t a => ?_) (fun t a => ?_))
  ·refine sg (Wa (lt (nE (mo (nE (mo ?_))))))
   obtain rfl := sj a
   exact rP b
  exact mX (ms (lD ⟨d, _, ⟨rfl, n⟩, (b.ll St), g, (by rw [G]; exact a)⟩))
 rintro E W ⟨c, ⟨d, n⟩, b, g, a⟩
 rw [aP] at a
 exact lD (sg (Wa (lt (rQ a b))))
theorem sc (z : ByteArray) (r : Bool) (w : World) (hm : pT z = some r) :
  lV true pg0 57 [(.string z)] w (.bool r) := by
 refine cG 21 func57 rfl (fun b => sg (Wa (lr (Wm (V (pK bY rfl) (Wi rfl (Wm (LJ hm (fun K E W => ∃ Y, ST true mR w W (hp w) Y ∧ E 0 = (.string z) ∧ E 2 = (.bool false) ∧ E 10 = (.bool K)) 4 ?_ (fun K t y => ?_)))))))))
 ·rintro x2 E W ⟨Y, b, M, d, l⟩ a5
  refine Wh l (LJ a5 (fun J E W => ∃ D, ST true mR w W (hp w) D ∧ E 0 = (.string z) ∧ E 2 = (.bool false) ∧ E 16 = (.bool J)) 5 ?_ (fun J a x => ?_))
  ·rintro v E W ⟨D, b, h, H, a2⟩ N
   refine Wh a2 (LJ N (fun I E W => ∃ G, ST true mR w W (hp w) G ∧ E 2 = (.bool false) ∧ E 20 = (.bool I)) 3 ?_ (fun I j u => ?_))
   ·rintro A E W ⟨G, b, a9, a3⟩ Q
    exact Wg a3 (lt (rQ Q b))
   refine bC j (fun g j => ?_) (fun g j => ?_)
   ·refine ug g (lz h) (bS j fun q T j => vC g (Eg b call122 (KR z _ _  T) (fun n b => V (lX (cB g) rfl) ?_)))
    obtain rfl := sj j
    exact u _ _ ⟨_, (b.ll St), H, rfl⟩
   refine un g (un g (V (lW (cB g) rfl) ?_))
   obtain rfl := sj j
   exact u _ _ ⟨_, (b.ll St), H, rfl⟩
  refine bC a (fun c a => ?_) (fun c a => ?_)
  ·refine ug c (lz M) (bS a fun Z B a => ug c (MX (i := 0) bY rfl rfl (KM B) (OM B)) (bS a fun s U a => vC c (Eg b call121 (zW (⟨#[97, 98, 99, 100, 101, 102, 103, 104, 105, 106, 107, 108, 109, 110, 111, 112, 113, 114, 115, 116, 117, 118, 119, 120, 121, 122]⟩ : ByteArray) (Z.toNat : Int) _ _  U) (fun o b => ug c (mz rfl rfl rfl) (V (lX (cB c) rfl) ?_)))))
   obtain rfl := sj a
   exact x _ _ ⟨_, (b.ll St), M, d, rfl⟩
  refine un c (un c (un c (un c (V (lW (cB c) rfl) ?_))))
  obtain rfl := sj a
  exact x _ _ ⟨_, (b.ll St), M, d, rfl⟩
 refine bC t (fun k t => ?_) (fun k t => ?_)
 ·refine ug k (lz rfl) (ug k (pK bY rfl) (ug k (mz rfl rfl rfl) (V (lX (cB k) rfl) ?_)))
  obtain rfl := sj t
  exact y _ _ ⟨_, (b.ll St), rfl, rfl, rfl⟩
 refine un k (un k (un k (V (lW (cB k) rfl) ?_)))
 obtain rfl := sj t
 exact y _ _ ⟨_, (b.ll St), rfl, rfl, rfl⟩
theorem D8 (g : Value) (i r : List Int) (w : World) (a : Sl (Pl (mj .u8)) 1 (hp w) g i) (hm : uf i = some r) :
  nR true pg0 58 [g] w 5 (mj .u8) 1 r := by
 unfold uf at hm
 refine zh 8 func58 rfl (fun b => sg (Wa (lS (Wm ?_))))
 obtain ⟨y, B, rfl⟩ := a.form
 refine V (zd bR rfl rfl) (ln ?_)
 rcases y with _ | z
 ·have u := a.isNil
  replace hm : some [] = some r := by rw [u] at hm; simpa [ol, maxLen] using hm
  refine wv (rfl) (sg (Wa (lt (mo ?_))))
  obtain rfl := sj hm
  exact na (v := (.slice none 0 0)) rfl rfl ⟨_, [], rfl, b.px (fun p d => by cases d) (by simp), lR.nil _ _ _⟩
 ·refine re (rfl) (kg (VE (mh (cs := #[]) b sC (tY [] bR jw jR dc rfl (by simp) rfl rfl) (fun G k b => Wm (bS hm fun H t hm => VE (pq (enc := (mj .u8)) (v := (.slice (some ⟨k, 0, none⟩) 0 0)) (vs := (.slice (some z) i.length B)) (R := [(k, Ob #[] 5)]) b (fun _ => rfl) dc (D5 _) bR rV.1 rV.2.1 rfl rV.2.2.1 rV.2.2.2 rfl rfl (lR.lit (l := []) (enc := (mj .u8)) rfl dc rfl rfl) (a.mono (Pl.mono _) b.lx) t (fun D x j b c => Wa (lt ?_))))))))
  obtain rfl := sj hm
  exact na (v := x) rfl rfl ⟨_, j, rfl, b.px (fun p d => (Ml d)) c.nd, c⟩
theorem HG (T : Value) (a0 : List Key) (r : ((Option oe) × Int)) (w : World) {μ0 : lZ} (h0 : oT μ0 [] w) (a3 : Sl vV 2 μ0 T a0) (hm : zp a0 = some r) :
  nm true pg0 15 [T] w μ0 [] (fun v L1 μ1 => ∃ y1, v = (.tuple #[y1, (.int .i64 (r.2))]) ∧ L1 = [] ∧ vX oJ μ1 y1 r.1) := by
 refine uW h0 57 func15 rfl (fun d => sg (Wa (Wa (lr (VE (Bk (P := pg0) Value.string (lR 5 (mj .u8) 1) d (fun W1 v4 R2 d d0 => ?_)))))))
 obtain ⟨Z, rfl⟩ := d0.form
 refine V (nT (v := (.agg #[(.map (some Z))])) (om rfl) (nq zeroValue126 kA (SH _ kA) kr)) (VE (mG d rfl (fun W7 s d => Wa (lS (Wm (V (mS jx rfl a3) (Wm (ln (mQ (fun i E W => ∃ I D y a1, (E 14 = .int .i64 (i : Nat) ∧ E 13 = .int .i64 (a0.length : Nat)) ∧ lP μ0 y ∧ Lo (keys []) w μ0 y ∧ ST true (keys []) w W y ((s, Ob #[(.map (some Z))] 126) :: (D ++ a1)) ∧ E 4 = (.pointer (some ⟨s, 0, none⟩)) ∧ E 12 = T ∧ nu Value.string (lR 5 (mj .u8) 1) (.map (some Z)) I D ∧ ve (a0.drop i) I = some r) a0.length a3.len ⟨([]), R2, μ0, _, ⟨rfl, rfl⟩, (lP.refl _), Lo.refl, (d.ll St), rfl, rfl, d0, hm⟩ dc dc dc (fun _ _ _ h => by obtain ⟨_, _, _, _, aa, _⟩ := h; exact aa) ?_ ?_)))))))))
 ·rintro b1 E W c0 ⟨I, D, y, a1, ⟨O, eN⟩, t, n, d, G, M, Q, a⟩
  obtain ⟨j, e4, c8, c7, c9⟩ := mA c0
  rw [c8] at a
  refine bg (VQ (nM (i := (b1 : Int)) (x0 := j) vV.out jx jy M O (a3.mono H0.mono t) (aJ _) c7) (fun f5 ⟨_, ⟨f7, rfl, B⟩, c1⟩ => V (lq rfl (ma d.has c1 isAgg118 jy)) (VE (ml d kO (fun e9 a7 d => ?_)))))
  obtain ⟨J, K, rfl⟩ := B.form
  let a2 : Value := (.slice J j.Key.length K)
  refine VO (lL (.agg #[(.string j.lM), a2]) (#[(.string j.lM), a2]) d rfl rfl jy oc nb rfl (fun f0 d => ln (lH ?_)))
  replace d := d.drew
  have l := d.has.ll (Kb (Kb (Kr Sn)))
  refine mw l lY (X 0 rfl l (lz G) (X 1 rfl l (nA rfl) (X 2 rfl l (lA H5 rfl) (XH 3 rfl l (fun _ q => lq rfl (lK q (Mt Mh) rfl isAgg124)) (X 4 rfl l (lA Fo rfl) (XH 5 rfl l (fun _ q => lq rfl (lK q Mh rfl cL)) ?_))))))
  obtain ⟨e3, N⟩ := Q
  obtain ⟨e7, e1, e2⟩ := nP.rowAt nD.1 N j.lM
  refine XH 6 rfl l (fun _ q => CV (k := j.lM) (z := (.slice none 0 0)) D9 underlying124 zeroValue53 rfl rfl N (fun b o hq => q.2 b o (Mt (Mt (Ml hq))))) (X 7 rfl l (lz rfl) (X 8 rfl l (og rfl rfl) (X 9 rfl l (og rfl rfl) (X 10 rfl l (ny rfl) (X 11 rfl l (ny rfl) (mM kr (lD (lH (bg (Wf Fo (VB d Mh rfl rfl cL (bS a fun f6 c4 a => ?_))))))))))))
  refine VE (Eg d kZ (sc j.lM _ _  c4) (fun f1 d => V (ot rfl) (Wa (ln (CI a rfl (fun b5 a => ?_) (fun b5 a => ?_))))))
  ·refine sg (Wa (Wa (ln ?_)))
   replace d := d.ll (Db (Db (Dr St)))
   refine mi (nE (mo (nE (mo (nE (mo ?_))))))
   obtain rfl := sj a
   exact ui (v := (.pointer none)) (u := (.int .i64 30)) rfl rfl rfl ⟨_, _, _, rfl, (d.nF Sn), t, n, (ST.mE d (nS.mem Sn)), (.pointer none), rfl, rfl, vX.nil⟩
  refine sg (Wf Fp (VB d Mh rfl rfl gZ (V (mS bR rfl B) (Wi rfl (Wm (LJ a (fun b2 E W => ∃ a6, ST true (keys []) w W y ((a7, Ob #[(.string j.lM), a2] 118) :: ((s, Ob #[(.map (some Z))] 126) :: (D ++ a6))) ∧ E 4 = (.pointer (some ⟨s, 0, none⟩)) ∧ E 6 = (.pointer (some ⟨a7, 0, none⟩)) ∧ E 8 = (.bool ((mL mK I j.lM).isSome)) ∧ E 12 = T ∧ E 13 = (.int .i64 (a0.length : Int)) ∧ E 14 = (.int .i64 (b1 : Int)) ∧ E 43 = (.bool b2)) 5 ?_ (fun b2 x Y => ?_)))))))
  ·rintro f9 E W ⟨a6, d, a8, a9, d2, d3, d4, d5, d6⟩ c
   refine Wg d6 (ln (CI c rfl (fun b7 c => ?_) (fun b7 c => ?_)))
   ·refine sg (Wa (Wa (ln ?_)))
    replace d := d.ll (Db (Db (Dr St)))
    refine mi (nE (mo (nE (mo (nE (mo ?_))))))
    obtain rfl := sj c
    exact ui (v := (.pointer none)) (u := (.int .i64 21)) rfl rfl rfl ⟨_, _, _, rfl, (d.nF Sn), t, n, (ST.mE d (nS.mem Sn)), (.pointer none), rfl, rfl, vX.nil⟩
   refine sg (Wh d2 (Wa (ln (CI c rfl (fun b9 c => ?_) (fun b9 c => ?_)))))
   ·refine sg (Wa (Wa (ln ?_)))
    replace d := d.ll (Db (Db (Dr St)))
    refine mi (nE (mo (nE (mo (nE (mo ?_))))))
    obtain rfl := sj c
    exact ui (v := (.pointer none)) (u := (.int .i64 41)) rfl rfl rfl ⟨_, _, _, rfl, (d.nF Sn), t, n, (ST.mE d (nS.mem Sn)), (.pointer none), rfl, rfl, vX.nil⟩
   refine mX (ms (lD ?_))
   replace d := d.drew
   have l := d.has.ll (Kb (Kb Sn))
   refine mw l lY (X 0 rfl l (lz a8) (X 1 rfl l (nA rfl) (X 2 rfl l (lA H5 rfl) (XH 3 rfl l (fun _ q => lq rfl (lK q (Mt Mh) rfl isAgg124)) (X 4 rfl l (lA Fo a9) (XH 5 rfl l (fun _ q => lq rfl (lK q Mh rfl cL)) (X 6 rfl l (lA Fp a9) (XH 7 rfl l (fun _ q => lq rfl (lK q Mh rfl gZ)) (bS c fun d8 c5 c => XE 8 rfl (tW d call58 (D8 a2 j.Key _ _ (B.mono (Pl.mono _) d.lx) c5) (fun f2 f8 d9 e8 d H A b3 => ?_)))))))))))
   have l := d.has.ox H (Dr (Kb (Kb Sn)))
   refine ⟨l, ?_⟩
   replace d := d.perm (Nr (Qr (Qb (Qb Qz))) Nz)
   refine bS c fun d7 c6 c => XO 9 rfl (IJ (k := j.lM) (z := d8)  D9 underlying124 d N rfl rfl rfl b3 c6 (fun f3 d1 d b4 => ?_))
   have l := d.has.ox H (Dr (Kb (Kb Sn)))
   refine ⟨l, (mM kr (ms (lD ?_)))⟩
   replace d := d.ll (Kr (Db St))
   exact ⟨d5, d7, d1, d9, _, ⟨rfl, d4⟩, (t.trans H), (n.trans A), (d.ll (Sb (Pr Pz) St)), a8, d3, b4.e, (by rw [c9]; exact c)⟩
  refine bC x (fun g x => ?_) (fun g x => ?_)
  ·refine un g (un g (un g (un g (V (lX (cB g) rfl) ?_))))
   obtain rfl := sj x
   exact Y _ _ ⟨_, (d.ll St), G, rfl, rfl, M, eN, O, rfl⟩
  refine ug g (lA Fp rfl) (ug g (lq rfl (lK d.has Mh rfl gZ)) (ug g (mS bR rfl B) (ug g (mz rfl rfl rfl) (V (lW (cB g) rfl) ?_))))
  obtain rfl := sj x
  exact Y _ _ ⟨_, (d.ll St), G, rfl, rfl, M, eN, O, rfl⟩
 rintro E W ⟨I, D, y, a1, ⟨O, eN⟩, t, n, d, G, M, Q, a⟩
 rw [aP] at a
 refine lD (sg (Wh G (Wa (Wa (lt ?_)))))
 obtain rfl := sj a
 refine ui (v := (.pointer (some ⟨s, 0, none⟩))) (u := (.int .i64 0)) rfl rfl rfl ?_
 replace d := d.perm (Nr (Qb Qz) Nz)
 obtain ⟨g1, d, b0, F, c2⟩ := ST.Es d
 obtain ⟨g2, d, U, L, c3⟩ := ST.Es (R := [(s, Ob #[(.map (some Z))] 126)]) d
 exact ⟨_, _, _, rfl, (d.nF Sn), ((t.trans b0).trans U), ((n.trans F).trans L), (ST.mE d (nS.mem Sn)), (.pointer (some ⟨s, 0, none⟩)), rfl, rfl, (vX.some (At.of (c3 _ _ (.head _)) _ rfl) (oJ.mk ⟨(.map (some Z)), rfl, ((Q.at c2).mono U)⟩))⟩
theorem sx (i : lg) (r : Bool) (w : World) (hm : pU i = some r) :
  lV true pg0 153 [(.agg (lu i).toArray)] w (.bool r) := by
 refine cG 11 func153 rfl (fun b => sg (VE (mG b rfl (fun H J b => Wa (lr (Wf vh (VB b Mh rfl rfl cL (bS hm fun K y hm => VE (Eg b kZ (sc i.lh _ _  y) (fun I b => Wm (LJ hm (fun k E W => ∃ j, ST true mR w W (hp w) j ∧ E 2 = (.bool false) ∧ E 10 = (.bool k)) 4 ?_ (fun k a g => ?_))))))))))))
 ·rintro G E W ⟨j, b, B, x⟩ t
  exact Wg x (lt (rQ t b))
 refine bC a (fun c a => ?_) (fun c a => ?_)
 ·refine ug c (lA xA rfl) (ug c (lq rfl (lK b.has Mh rfl cL)) (bS a fun D u a => vC c (Eg b kZ (sc i.lp _ _  u) (fun z b => V (lX (cB c) rfl) ?_))))
  obtain rfl := sj a
  exact g _ _ ⟨_, (b.ll (Db St)), rfl, rfl⟩
 refine un c (un c (un c (V (lW (cB c) rfl) ?_)))
 obtain rfl := sj a
 exact g _ _ ⟨_, (b.ll (Db St)), rfl, rfl⟩
theorem RT (w : World) (a b : ByteArray) : (callFunc 296 [Value.string a, .string b].toArray).run pg0 w = .ok (.value (.int .i64 (qx a b))) w := Oi func296 (by kernel_rfl) (by kernel_rfl) (by kernel_rfl) (by kernel_rfl) a b w
theorem yQ (a c : ByteArray) (r : Int) (w : World) (hm : oO a c = some r) :
  lV true pg0 260 [(.string a), (.string c)] w (.int .i64 r) := by
 exact cG 8 func260 rfl (fun b => sg (Wa (lr (Wm (Wm (VE (MD (args := [(.string a), (.string c)]) (v := .int .i64 (qx a c)) rfl (by exact xv rfl rfl) (RT _ a c) (Wa (lt (rQ hm b))))))))))
theorem Bh (a c : ByteArray) (r : Int) (w : World) (hm : qS a c = some r) :
  lV true pg0 210 [(.string a), (.string c)] w (.int .i64 r) := by
 refine cG 8 func210 rfl (fun b => sg (Wa (lr (Wm (Wm (bS hm fun j g hm => VE (Eg b call260 (yQ a c _ _  g) (fun i b => Wa (ln ?_)))))))))
 exact mi (rQ hm b)
theorem J9 (g : Value) (t : List Int) (r : Int) (w : World) (c : Sl (Pl (mj .i64)) 1 (hp w) g t) (hm : vN t = some r) :
  lV true pg0 209 [g] w (.int .i64 r) := by
 refine cG 18 func209 rfl (fun b => sg (Wa (lr (Wa (lS (Wm ?_))))))
 refine V (mS underlying162 rfl c) (Wm (ln (mQ (fun i E W => ∃ k, (E 8 = .int .i64 (i : Nat) ∧ E 7 = .int .i64 (t.length : Nat)) ∧ ST true mR w W (hp w) k ∧ E 3 = (.int .i64 0) ∧ E 6 = g ∧ tQ (t.drop i) = some r) t.length c.len ⟨_, ⟨rfl, rfl⟩, (b.ll St), rfl, rfl, hm⟩ dc dc dc (fun _ _ _ h => by obtain ⟨_, l, _⟩ := h; exact l) ?_ ?_)))
 ·rintro J E W B ⟨k, ⟨d, n⟩, b, j, u, a⟩
  obtain ⟨x, K, H, G, I⟩ := mA B
  rw [H] at a
  refine bg (VQ (qb (enc := (mj .i64)) (i := (J : Int)) (x0 := x) underlying162 jv u d c (aJ _) G) (fun M D => V (lq rfl (qR b.has (y := (.int .i64 x)) D dD)) (Wa (lr (Wm (Wh j (Wi rfl (ln ?_))))))))
  refine CI a rfl (fun z a => ?_) (fun z a => ?_)
  ·refine sg (Wm (Wa (lt (nE (mo (nE (mo ?_)))))))
   obtain rfl := sj a
   exact rP b
  exact mX (ms (lD ⟨d, _, ⟨rfl, n⟩, (b.ll St), j, u, (by rw [I]; exact a)⟩))
 rintro E W ⟨k, ⟨d, n⟩, b, j, u, a⟩
 rw [aP] at a
 exact lD (sg (Wh j (Wa (lt (rQ a b)))))
theorem Ad (g i : lg) (r : Int) (w : World) (hm : oV g i = some r) :
  lV true pg0 155 [(.agg (lu g).toArray), (.agg (lu i).toArray)] w (.int .i64 r) := by
 refine cG 17 func155 rfl (fun b => sg (VE (mG b rfl (fun G I b => VE (mG b rfl (fun H J b => Wa (ln (lH ?_))))))))
 replace b := b.drew
 have d := b.has.ll (Kb (Kb Sn))
 refine mw d lY (X 0 rfl d (lA vh rfl) (XH 1 rfl d (fun _ h => lq rfl (lK h (Mt Mh) rfl cL)) (X 2 rfl d (lA vh rfl) (XH 3 rfl d (fun _ h => lq rfl (lK h Mh rfl cL)) (X 5 rfl d (lA xA rfl) (XH 6 rfl d (fun _ h => lq rfl (lK h (Mt Mh) rfl cL)) (X 7 rfl d (lA xA rfl) (XH 8 rfl d (fun _ h => lq rfl (lK h Mh rfl cL)) (bS hm fun a j hm => XE 4 rfl (Eg b call210 (Bh g.lh i.lh _ _  j) (fun x b => ?_)))))))))))
 have d := b.has.ll (Kb (Kb Sn))
 refine ⟨d, (bS hm fun c k hm => XE 9 rfl (Eg b call210 (Bh g.lp i.lp _ _  k) (fun y b => ?_)))⟩
 have d := b.has.ll (Kb (Kb Sn))
 refine ⟨d, (XE 10 rfl (mh (cs := #[(.int .i64 a), (.int .i64 c)]) b (sQ rfl rfl) (oH underlying162 jv zeroValue3) (fun z u b => ?_)))⟩
 have d := b.has.ll (Db (Kb (Kb Sn)))
 refine ⟨d, (bS hm fun D t hm => XE 11 rfl (Eg b call209 (J9 (.slice (some ⟨u, 0, none⟩) 2 2) ([a, c]) _ _ (Sl.lit (enc := (mj .i64)) (l := [a, c]) (fun _ => rfl) rfl nb rfl (b.at_ Mh)) t) (fun B b => ?_)))⟩
 have d := b.has.ll (Db (Kb (Kb Sn)))
 refine ⟨d, (X 12 rfl d (ny rfl) (mM kr (lD ?_)))⟩
 exact mi (rQ hm b)
set_option maxHeartbeats 1000000 in
theorem xK (a : lf) (r : Bool) (w : World) (hm : tM a = some r) :
  lV true pg0 113 [(.agg (li a).toArray)] w (.bool r) := by
 let m9 := (⟨a.Kind, a.Head, zS, a.B, a.C, zS⟩ : lf)
 let j2 := (⟨a.Kind, a.Head, zS, a.B, K0, a.lN⟩ : lf)
 let j1 : Value := (.agg (lu a.B).toArray)
 let g6 := ((li (⟨a.Kind, a.Head, zS, a.B, K0, zS⟩ : lf)).toArray)
 let q := (⟨a.Kind, a.Head, zS, K0, K0, zS⟩ : lf)
 refine cG 98 func113 rfl (fun b => sg (VE (mG b rfl (fun W2 N b => Wa (lr (Wf zr (VB b Mh rfl rfl dD (Wf uM (VA b Mh (lu a.Head) bO aN (V (nT (v := (.agg (li q).toArray)) (sQ rfl rfl) (nq cM dP (Pe _ dP) kr)) (VE (ml b cM (fun W4 B b => ?_)))))))))))))
 refine VO (lL (.agg (li q).toArray) ((li q).toArray) b rfl rfl aH (oQ q) nb rfl (fun W5 b => lr (Wf uM (VA b (Mt Mh) (lu a.Head) bO aN (bS hm fun o j4 hm => VE (Eg b km (sx a.Head _ _  j4) (fun W8 b => Wa (ln (lH (NX hm (fun F E W => ∃ b6, ST true mR w W (hp w) ((B, Ol (li F.2) 52) :: ((N, Ol (li a) 52) :: b6)) ∧ E 1 = (.pointer (some ⟨N, 0, none⟩)) ∧ E 3 = (.pointer (some ⟨B, 0, none⟩)) ∧ E 4 = (.bool F.1)) (fun F g Z => ?_) ?_))))))))))
 ·let g5 := ((li m9).toArray : Array Value)
  let b8 := ((li j2).toArray : Array Value)
  let n : Value := (.pointer (some ⟨B, 0, none⟩))
  let l : Value := (.pointer (some ⟨N, 0, none⟩))
  let a0 := ((li a).toArray : Array Value)
  refine sg (Wf zr (VB b (Mt Mh) rfl rfl dD (ln (bg (Wi rfl (Wa (ln (CI g rfl (fun e5 g => ?_) (fun e5 g => ?_)))))))))
  ·replace b := b.drew
   have d := b.has.ll (Db (Kb Sn))
   refine mw d lY (X 0 rfl d (lA Di rfl) (XH 1 rfl d (fun _ h => lq rfl (lK h Mh rfl cL)) (X 2 rfl d (lz rfl) (X 3 rfl d (lz rfl) (X 8 rfl d (lA Di rfl) (PJ g (fun d6 E W => ∃ b9, ST true mR w W (hp w) ((B, Ol (li q) 52) :: ((N, Obj.cells a0 52 (0, 0)) :: b9)) ∧ E 1 = l ∧ E 3 = n ∧ E 4 = (.bool o) ∧ E 18 = (.string a.lM) ∧ E 24 = (.bool d6) ∧ E 25 = (.pointer (some ⟨B, 3, none⟩))) (bm 11 511) 2 ?_ (fun d6 D a2 => ?_)))))))
   ·rintro m1 E W ⟨b9, b, h2, h3, k8, h4, h5, h6⟩ f1
    refine XO 9 rfl (lL (.string a.lM) ((li (⟨a.Kind, a.Head, a.lM, K0, K0, zS⟩ : lf)).toArray) b h6 h4 iV (RY a.lM) nb rfl (fun j5 b => ?_))
    have d := b.has.ll (Db (Kb Sn))
    refine ⟨d, (X 10 rfl d (ny h5) (mM kr (ms (lD ?_))))⟩
    obtain rfl := sj f1
    exact ⟨_, rfl, _, (b.ll St), h2, h3, rfl⟩
   refine bC D (fun k D => ?_) (fun k D => ?_)
   ·refine Xg 4 rfl rfl (cB k) d (lA Di rfl) (rE 5 rfl rfl (cB k) d (fun _ h => lq rfl (lK h Mh rfl cL)) (bS D fun l2 f9 D => wo 6 rfl rfl (cB k) (Eg b kZ (sc a.lM _ _  f9) (fun j6 b => ?_))))
    have d := b.has.ll (Db (Kb Sn))
    refine ⟨d, (X 7 rfl d (lX (cB k) rfl) ?_)⟩
    obtain rfl := sj D
    refine nk kr (a2 _ _ ⟨_, (b.ll St), rfl, rfl, rfl, rfl, rfl, rfl⟩)
   refine Xn 4 rfl rfl (cB k) d (Xn 5 rfl rfl (cB k) d (Xn 6 rfl rfl (cB k) d (X 7 rfl d (lW (cB k) rfl) ?_)))
   obtain rfl := sj D
   refine nk kr (a2 _ _ ⟨_, (b.ll St), rfl, rfl, rfl, rfl, rfl, rfl⟩)
  refine sg (Wi rfl (Wa (ln (CI g rfl (fun e6 g => ?_) (fun e6 g => ?_)))))
  ·replace b := b.drew
   have d := b.has.ll (Db (Kb Sn))
   refine mw d lY (X 0 rfl d (lA rr rfl) (XH 1 rfl d (fun _ h => lq rfl (lB h Mh (lu a.B) rfl bO aN)) (X 2 rfl d (lz rfl) (X 3 rfl d (lz rfl) (X 8 rfl d (lA rr rfl) (PJ g (fun d7 E W => ∃ c0, ST true mR w W (hp w) ((B, Ol (li q) 52) :: ((N, Obj.cells a0 52 (0, 0)) :: c0)) ∧ E 1 = l ∧ E 3 = n ∧ E 4 = (.bool o) ∧ E 29 = j1 ∧ E 35 = (.bool d7) ∧ E 36 = (.pointer (some ⟨B, 4, none⟩))) (bm 11 511) 2 ?_ (fun d7 G a3 => ?_)))))))
   ·rintro m2 E W ⟨c0, b, h7, h8, k9, h9, i0, i1⟩ f2
    refine XO 9 rfl (lL j1 g6 b i1 h9 aN (ra a.B) nb rfl (fun j7 b => ?_))
    have d := b.has.ll (Db (Kb Sn))
    refine ⟨d, (X 10 rfl d (ny i0) (mM kr (ms (lD ?_))))⟩
    obtain rfl := sj f2
    exact ⟨_, rfl, _, (b.ll St), h7, h8, rfl⟩
   refine bC G (fun t G => ?_) (fun t G => ?_)
   ·refine Xg 4 rfl rfl (cB t) d (lA rr rfl) (rE 5 rfl rfl (cB t) d (fun _ h => lq rfl (lB h Mh (lu a.B) rfl bO aN)) (bS G fun l3 g0 G => wo 6 rfl rfl (cB t) (Eg b km (sx a.B _ _  g0) (fun j8 b => ?_))))
    have d := b.has.ll (Db (Kb Sn))
    refine ⟨d, (X 7 rfl d (lX (cB t) rfl) ?_)⟩
    obtain rfl := sj G
    refine nk kr (a3 _ _ ⟨_, (b.ll St), rfl, rfl, rfl, rfl, rfl, rfl⟩)
   refine Xn 4 rfl rfl (cB t) d (Xn 5 rfl rfl (cB t) d (Xn 6 rfl rfl (cB t) d (X 7 rfl d (lW (cB t) rfl) ?_)))
   obtain rfl := sj G
   refine nk kr (a3 _ _ ⟨_, (b.ll St), rfl, rfl, rfl, rfl, rfl, rfl⟩)
  refine sg (Wi rfl (Wa (ln (CI g rfl (fun e7 g => ?_) (fun e7 g => ?_)))))
  ·refine lH ?_
   replace b := b.drew
   have d := b.has.ll (Db (Kb Sn))
   refine mw d lY (X 0 rfl d (lA rr rfl) (XH 1 rfl d (fun _ h => lq rfl (lB h Mh (lu a.B) rfl bO aN)) (X 2 rfl d (lA AT rfl) (XH 3 rfl d (fun _ h => lq rfl (lK h Mh rfl cL)) (X 4 rfl d (lA rr rfl) (XO 5 rfl (lL j1 g6 b rfl rfl aN (ra a.B) nb rfl (fun j9 b => ?_))))))))
   have d := b.has.ll (Db (Kb Sn))
   refine ⟨d, (X 6 rfl d (lA AT rfl) (XO 7 rfl (lL (.string a.lN) ((li j2).toArray) b rfl rfl iV (RY a.lN) nb rfl (fun k0 b => ?_))))⟩
   have d := b.has.ll (Db (Kb Sn))
   refine ⟨d, (mM kr (lD (lG (Wm (Wm (LJ g (fun e0 E W => ∃ c1, ST true mR w W (hp w) ((B, Obj.cells b8 52 (0, 0)) :: ((N, Obj.cells a0 52 (0, 0)) :: c1)) ∧ E 1 = l ∧ E 3 = n ∧ E 4 = (.bool o) ∧ E 50 = (.bool e0)) 4 ?_ (fun e0 I O => ?_)))))))⟩
   ·rintro m3 E W ⟨c1, b, U, c7, c8, i2⟩ f3
    refine Wh i2 (LJ f3 (fun d9 E W => ∃ c2, ST true mR w W (hp w) ((B, Obj.cells b8 52 (0, 0)) :: ((N, Obj.cells a0 52 (0, 0)) :: c2)) ∧ E 1 = l ∧ E 3 = n ∧ E 4 = (.bool o) ∧ E 59 = (.bool d9)) 8 ?_ (fun d9 T a5 => ?_))
    ·rintro m4 E W ⟨c2, b, s, c9, d0, i3⟩ f4
     refine Wh i3 (LJ f4 (fun d8 E W => ∃ c3, ST true mR w W (hp w) ((B, Obj.cells b8 52 (0, 0)) :: ((N, Obj.cells a0 52 (0, 0)) :: c3)) ∧ E 1 = l ∧ E 3 = n ∧ E 4 = (.bool o) ∧ E 64 = (.bool d8)) 4 ?_ (fun d8 H a4 => ?_))
     ·rintro m5 E W ⟨c3, b, i4, i5, l0, i6⟩ f5
      refine Wg i6 (me (ms (lD ?_)))
      obtain rfl := sj f5
      exact ⟨_, rfl, _, (b.ll St), i4, i5, rfl⟩
     refine bC H (fun x H => ?_) (fun x H => ?_)
     ·refine ug x (lA AT s) (ug x (lq rfl (lK b.has (Mt Mh) rfl cL)) (bS H fun l4 g1 H => vC x (Eg b kZ (sc a.lN _ _  g1) (fun k1 b => V (lX (cB x) rfl) ?_))))
      obtain rfl := sj H
      exact a4 _ _ ⟨_, (b.ll St), s, c9, d0, rfl⟩
     refine un x (un x (un x (V (lW (cB x) rfl) ?_)))
     obtain rfl := sj H
     exact a4 _ _ ⟨_, (b.ll St), s, c9, d0, rfl⟩
    refine bC T (fun c T => ?_) (fun c T => ?_)
    ·refine ug c (lA rr U) (ug c (lA vh rfl) (ug c (lq rfl (lK b.has (Mt Mh) rfl cL)) (ug c (lA uM U) (ug c (lA vh rfl) (ug c (lq rfl (lK b.has (Mt Mh) rfl cL)) (ug c (MT rfl rfl rfl) (V (lX (cB c) rfl) ?_)))))))
     obtain rfl := sj T
     exact a5 _ _ ⟨_, (b.ll St), U, c7, c8, rfl⟩
    refine un c (un c (un c (un c (un c (un c (un c (V (lW (cB c) rfl) ?_)))))))
    obtain rfl := sj T
    exact a5 _ _ ⟨_, (b.ll St), U, c7, c8, rfl⟩
   refine bC I (fun u I => ?_) (fun u I => ?_)
   ·refine ug u (lA rr rfl) (ug u (lq rfl (lB b.has (Mt Mh) (lu a.B) rfl bO aN)) (bS I fun l5 g2 I => vC u (Eg b km (sx a.B _ _  g2) (fun k2 b => V (lX (cB u) rfl) ?_))))
    obtain rfl := sj I
    exact O _ _ ⟨_, (b.ll St), rfl, rfl, rfl, rfl⟩
   refine un u (un u (un u (V (lW (cB u) rfl) ?_)))
   obtain rfl := sj I
   exact O _ _ ⟨_, (b.ll St), rfl, rfl, rfl, rfl⟩
  refine sg (Wi rfl (Wa (ln (CI g rfl (fun e8 g => ?_) (fun e8 g => ?_)))))
  ·refine lH ?_
   replace b := b.drew
   have d := b.has.ll (Db (Kb Sn))
   refine mw d lY (X 0 rfl d (lA rr rfl) (XH 1 rfl d (fun _ h => lq rfl (lB h Mh (lu a.B) rfl bO aN)) (X 2 rfl d (lA zm rfl) (XH 3 rfl d (fun _ h => lq rfl (lB h Mh (lu a.C) rfl bO aN)) (X 4 rfl d (lA rr rfl) (XO 5 rfl (lL j1 g6 b rfl rfl aN (ra a.B) nb rfl (fun k3 b => ?_))))))))
   have d := b.has.ll (Db (Kb Sn))
   refine ⟨d, (X 6 rfl d (lA zm rfl) (XO 7 rfl (lL (.agg (lu a.C).toArray) ((li m9).toArray) b rfl rfl aN (ra a.C) nb rfl (fun k4 b => ?_))))⟩
   have d := b.has.ll (Db (Kb Sn))
   refine ⟨d, (mM kr (lD (lG (Wm (Wm (LJ g (fun e3 E W => ∃ c4, ST true mR w W (hp w) ((B, Obj.cells g5 52 (0, 0)) :: ((N, Obj.cells a0 52 (0, 0)) :: c4)) ∧ E 1 = l ∧ E 3 = n ∧ E 4 = (.bool o) ∧ E 78 = (.bool e3)) 4 ?_ (fun e3 M a9 => ?_)))))))⟩
   ·rintro m6 E W ⟨c4, b, A, d1, d2, i7⟩ f6
    refine Wh i7 (LJ f6 (fun e2 E W => ∃ c5, ST true mR w W (hp w) ((B, Obj.cells g5 52 (0, 0)) :: ((N, Obj.cells a0 52 (0, 0)) :: c5)) ∧ E 1 = l ∧ E 3 = n ∧ E 4 = (.bool o) ∧ E 83 = (.bool e2)) 4 ?_ (fun e2 K R => ?_))
    ·rintro m7 E W ⟨c5, b, Y, d3, d4, i8⟩ f7
     refine Wh i8 (LJ f7 (fun e1 E W => ∃ c6, ST true mR w W (hp w) ((B, Obj.cells g5 52 (0, 0)) :: ((N, Obj.cells a0 52 (0, 0)) :: c6)) ∧ E 1 = l ∧ E 3 = n ∧ E 4 = (.bool o) ∧ E 91 = (.bool e1)) 7 ?_ (fun e1 J P => ?_))
     ·rintro m8 E W ⟨c6, b, i9, j0, l1, j3⟩ f8
      refine Wg j3 (me (ms (lD ?_)))
      obtain rfl := sj f8
      exact ⟨_, rfl, _, (b.ll St), i9, j0, rfl⟩
     refine bC J (fun i J => ?_) (fun i J => ?_)
     ·refine ug i (lA rr Y) (ug i (lq rfl (lB b.has (Mt Mh) (lu a.B) rfl bO aN)) (ug i (lA zm Y) (ug i (lq rfl (lB b.has (Mt Mh) (lu a.C) rfl bO aN)) (bS J fun l6 g3 J => vC i (Eg b call155 (Ad a.B a.C _ _  g3) (fun k5 b => ug i (mz rfl rfl rfl) (V (lX (cB i) rfl) ?_)))))))
      obtain rfl := sj J
      exact P _ _ ⟨_, (b.ll St), Y, d3, d4, rfl⟩
     refine un i (un i (un i (un i (un i (un i (V (lW (cB i) rfl) ?_))))))
     obtain rfl := sj J
     exact P _ _ ⟨_, (b.ll St), Y, d3, d4, rfl⟩
    refine bC K (fun z K => ?_) (fun z K => ?_)
    ·refine ug z (lA zm A) (ug z (lq rfl (lB b.has (Mt Mh) (lu a.C) rfl bO aN)) (bS K fun l7 g4 K => vC z (Eg b km (sx a.C _ _  g4) (fun k6 b => V (lX (cB z) rfl) ?_))))
     obtain rfl := sj K
     exact R _ _ ⟨_, (b.ll St), A, d1, d2, rfl⟩
    refine un z (un z (un z (V (lW (cB z) rfl) ?_)))
    obtain rfl := sj K
    exact R _ _ ⟨_, (b.ll St), A, d1, d2, rfl⟩
   refine bC M (fun y M => ?_) (fun y M => ?_)
   ·refine ug y (lA rr rfl) (ug y (lq rfl (lB b.has (Mt Mh) (lu a.B) rfl bO aN)) (bS M fun l8 g7 M => vC y (Eg b km (sx a.B _ _  g7) (fun k7 b => V (lX (cB y) rfl) ?_))))
    obtain rfl := sj M
    exact a9 _ _ ⟨_, (b.ll St), rfl, rfl, rfl, rfl⟩
   refine un y (un y (un y (V (lW (cB y) rfl) ?_)))
   obtain rfl := sj M
   exact a9 _ _ ⟨_, (b.ll St), rfl, rfl, rfl, rfl⟩
  refine sg (Wa (ln ?_))
  replace b := b.ll (Db (Db St))
  refine mi (nE (mo ?_))
  obtain rfl := sj g
  replace Z : some false = some r := Z
  obtain rfl := sj Z
  exact rP b
 rintro ⟨l9, e4⟩ E W ⟨b6, b, g8, g9, h0⟩ e9
 refine sg (Wh h0 (Wm (LJ e9 (fun d5 E W => ∃ b7, ST true mR w W (hp w) b7 ∧ E 97 = (.bool d5)) 4 ?_ (fun d5 Q L => ?_))))
 ·rintro m0 E W ⟨b7, b, h1⟩ f0
  exact Wg h1 (lt (rQ f0 b))
 refine bC Q (fun j Q => ?_) (fun j Q => ?_)
 ·refine ug j (lq g9 (lB b.has Mh (li e4) rfl bP aH)) (ug j (lq g8 (lB b.has (Mt Mh) (li a) rfl bP aH)) (ug j (AD rfl rfl (qV gC) (xe (xN _ e4 a))) (V (lX (cB j) rfl) ?_)))
  obtain rfl := sj Q
  exact L _ _ ⟨_, (b.ll (Db (Db St))), rfl⟩
 refine un j (un j (un j (V (lW (cB j) rfl) ?_)))
 obtain rfl := sj Q
 exact L _ _ ⟨_, (b.ll (Db (Db St))), rfl⟩
theorem AJ (t : Value) (K : Option oe) (a : lf) (r : ((List Int) × Int)) (w : World) {J : lZ} (Y : oT J [] w) (c : vX oJ J t K) (hm : tG K a = some r) :
  nm true pg0 117 [t, (.agg (li a).toArray)] w J [] (fun v U Z => ∃ T, v = (.tuple #[T, (.int .i64 (r.2))]) ∧ U = [] ∧ Sl (Pl (mj .u8)) 1 Z T (r.1)) := by
 refine uW Y 29 func117 rfl (fun d => sg (VE (mG d rfl (fun W2 s d => Wa (Wa (ln (lH (bg (Wm (V (GY underlying39 c rfl rfl) (Wa ?_)))))))))))
 refine ln (CI hm rfl (fun M hm => ?_) (fun M hm => ?_))
 ·refine sg (Wa (Wa (ln ?_)))
  replace d := d.ll (Db St)
  refine mi (nE (mo ?_))
  obtain rfl := sj hm
  exact ui (v := (.slice none 0 0)) (u := (.int .i64 1)) rfl rfl rfl ⟨_, _, _, rfl, (d.nF Sn), (lP.refl _), Lo.refl, (ST.mE d (nS.mem Sn)), (.slice none 0 0), rfl, rfl, (Sl.nil _ _ _)⟩
 refine sg (VA d Mh (li a) bP aH (bS hm fun A Q hm => VE (Eg d call113 (xK a _ _  Q) (fun W6 d => V (ot rfl) (Wa (ln (CI hm rfl (fun N hm => ?_) (fun N hm => ?_))))))))
 ·refine sg (Wa (Wa (ln ?_)))
  replace d := d.ll (Db St)
  refine mi (nE (mo ?_))
  obtain rfl := sj hm
  exact ui (v := (.slice none 0 0)) (u := (.int .i64 11)) rfl rfl rfl ⟨_, _, _, rfl, (d.nF Sn), (lP.refl _), Lo.refl, (ST.mE d (nS.mem Sn)), (.slice none 0 0), rfl, rfl, (Sl.nil _ _ _)⟩
 refine mX (ms (lD (lH ?_)))
 replace d := d.drew
 have h := d.has.ll (Kb Sn)
 refine mw h lY (X 0 rfl h (lz rfl) (bS hm fun a5 I hm => XQ 1 rfl h (IQ oJ.out c I rfl) (fun a3 ⟨_, ⟨x, rfl, H⟩, D⟩ => XQ 2 rfl h (wq [x] H5 rfl D rfl) (fun a4 G => XH 3 rfl h (fun _ l => lq rfl (qR l (y := x) G isAgg124)) (X 4 rfl h (lA uM rfl) (X 5 rfl h (lA vh rfl) (XH 6 rfl h (fun _ l => lq rfl (lK l Mh rfl cL)) ?_)))))))
 obtain ⟨j, a2, g, i⟩ := H
 refine XH 7 rfl h (fun _ l => CV (k := a.Head.lh) (z := (.slice none 0 0)) D9 underlying124 zeroValue53 rfl rfl g (fun b o q => l.1 b o (i b o q))) (X 8 rfl h (lz rfl) (X 9 rfl h (og rfl rfl) (X 10 rfl h (og rfl rfl) (X 11 rfl h (ny rfl) (X 12 rfl h (ny rfl) (mM kr (lD ?_)))))))
 replace d := d.ll (Db St)
 refine lH (sg (Wm (V (ot rfl) (ln (CI hm rfl (fun B hm => ?_) (fun B hm => ?_))))))
 ·refine sg (Wa (Wa (lt (mo ?_))))
  obtain rfl := sj hm
  exact ui (v := (.slice none 0 0)) (u := (.int .i64 21)) rfl rfl rfl ⟨_, _, _, rfl, (d.nF Sn), (lP.refl _), Lo.refl, (ST.mE d (nS.mem Sn)), (.slice none 0 0), rfl, rfl, (Sl.nil _ _ _)⟩
 refine kg (Wm (Wa (Wa (lt ?_))))
 obtain rfl := sj hm
 exact ui (v := (qt mK j a.Head.lh (.slice none 0 0))) (u := (.int .i64 0)) rfl rfl rfl ⟨_, _, _, rfl, (d.nF Sn), (lP.refl _), Lo.refl, (ST.mE d (nS.mem Sn)), (qt mK j a.Head.lh (.slice none 0 0)), rfl, rfl, (nP.TD (enc := (mj .u8)) (n := 1) (fun _ => rfl) nD.1 g a.Head.lh i)⟩
theorem sO (t : Nat) (j : Value) (G : List Int) (i : LO) (h : Int) (r : (Bool × (List Int))) (w : World) {μ0 : lZ} (A : oT μ0 ((t, Ob #[j] 239) :: (i ++ [])) w) (y : lR 5 (mj .u8) 1 j G i) (hm : pn G h = some r) :
  nl true pg0 181 [(.pointer (some ⟨t, 0, none⟩)), (.int .i64 h)] w ((t, Ob #[j] 239) :: (i ++ [])) (fun v L1 W' => ∃ n S2, v = (.bool (r.1)) ∧ L1 = ((t, Ob #[n] 239) :: (S2 ++ [])) ∧ lR 5 (mj .u8) 1 n r.2 S2) := by
 refine AN A 38 func181 rfl (fun d => sg (Wa (lS (Wm (V (tE iE rfl rfl) (Wm (Vg rfl rfl (lz rfl) (Vg rfl rfl (mz rfl rfl rfl) (V (lW rfl rfl) ?_)))))))))
 refine ln (CI hm rfl (fun a9 hm => ?_) (fun a9 hm => ?_))
 ·refine sg (Wa (lt (mo ?_)))
  obtain rfl := sj hm
  exact na (v := (.bool false)) rfl rfl ⟨_, _, rfl, (d.nF (Kb (Kr Sn))), j, i, rfl, rfl, y⟩
 refine kn (lH (nz (ph (fun m E W => ∃ c z U u a0, ST true (keys ((t, Ob #[j] 239) :: (i ++ []))) w W μ0 ((t, Ob #[z] 239) :: (u ++ a0)) ∧ E 0 = (.pointer (some ⟨t, 0, none⟩)) ∧ E 1 = (.int .i64 c) ∧ lR 5 (mj .u8) 1 z U u ∧ rk m c U = some r) mq ⟨h, j, G, i, _, (d.ll St), rfl, rfl, y, hm⟩ ?_)))
 rintro m E W ⟨c, z, U, u, a0, d, x, K, T, g⟩
 cases m with
 | zero => rw [rk] at g; cases g
 | succ s =>
  refine lH (sg (Wh K (Wi rfl (ln (CI g rfl (fun o g => ?_) (fun o g => ?_))))))
  ·refine kn (lH (nz (lG (Wh x (Wh x (Wn (Wf Ae (VB d Mh rfl rfl gZ (Wh K (V (rT (k' := .i64) (a := c) fF fL rfl) (V (Mx (k := .u8) (a := (IntKind.u8.wrap c)) (b := 128) (v := (.int .u8 (IntKind.u8.wrap (BitVec.ofInt (IntKind.bits .u8) (IntKind.u8.wrap c) ||| BitVec.ofInt (IntKind.bits .u8) 128).toNat))) rfl rfl dc rfl) (VE (mh (cs := [(.int .u8 (IntKind.u8.wrap (BitVec.ofInt (IntKind.bits .u8) (IntKind.u8.wrap c) ||| BitVec.ofInt (IntKind.bits .u8) 128).toNat))].toArray) d (om rfl) (oH bR jw jR) (fun c3 q d => ?_))))))))))))))
   replace d := d.perm (Nr (Qb (Qb Qz)) Nz)
   refine bS g fun Q Y g => VE (pq (enc := (mj .u8)) (v := z) (vs := (.slice (some ⟨q, 0, none⟩) 1 1)) (R := u) d (fun _ => rfl) dc (D5 _) bR rV.1 rV.2.1 rfl rV.2.2.1 rV.2.2.2 rfl rfl T (Sl.lit (enc := (mj .u8)) (l := [(IntKind.u8.wrap (BitVec.ofInt (IntKind.bits .u8) (IntKind.u8.wrap c) ||| BitVec.ofInt (IntKind.bits .u8) 128).toNat)]) (fun _ => rfl) rfl nb rfl (d.at_ (Ma Mh))) Y (fun F c1 a2 d M => Wn (Wf Ae ?_)))
   obtain ⟨B, H, rfl⟩ := M.form
   replace d := d.perm (Nb (Pr (Pb Pz)) Nz)
   refine VO (lL (.slice B Q.length H) (#[(.slice B Q.length H)]) d rfl rfl jQ oc nb rfl (fun L d => me (ms (lD ?_))))
   replace d := d.ll (Kb (Kr (Db St)))
   exact lG (Wh K (V (Fz (a := c) (b := 7) rfl rfl dc) (Wa (ln ⟨s, bL _, (Int.fdiv c (2 ^ min (Int.toNat 7) (IntKind.bits .i64))), (.slice B Q.length H), Q, a2, _, (d.ll St), x, rfl, M, g⟩))))
  refine oI (ow (ow (sU (lD (sg (Wh x (Wh x (Wn (Wf Ae (VB d Mh rfl rfl gZ (Wh K (V (rT (k' := .i64) (a := c) fF fL rfl) (VE (mh (cs := [(.int .u8 (IntKind.u8.wrap c))].toArray) d (om rfl) (oH bR jw jR) (fun O a5 d => ?_)))))))))))))))
  replace d := d.perm (Nr (Qb (Qb Qz)) Nz)
  refine bS g fun J Z g => VE (pq (enc := (mj .u8)) (v := z) (vs := (.slice (some ⟨a5, 0, none⟩) 1 1)) (R := u) d (fun _ => rfl) dc (D5 _) bR rV.1 rV.2.1 rfl rV.2.2.1 rV.2.2.2 rfl rfl T (Sl.lit (enc := (mj .u8)) (l := [(IntKind.u8.wrap c)]) (fun _ => rfl) rfl nb rfl (d.at_ (Ma Mh))) Z (fun P c2 a3 d N => Wn (Wf Ae ?_)))
  obtain ⟨D, I, rfl⟩ := N.form
  replace d := d.perm (Nb (Pr (Pb Pz)) Nz)
  refine VO (lL (.slice D J.length I) (#[(.slice D J.length I)]) d rfl rfl jQ oc nb rfl (fun b9 d => ln ?_))
  replace d := d.ll (Kb (Kr (Db St)))
  refine sg (Wa (lt ?_))
  obtain rfl := sj g
  exact na (v := (.bool true)) rfl rfl ⟨_, _, rfl, (d.nF (Kb (Kr Sn))), (.slice D J.length I), a3, rfl, rfl, N⟩
theorem FF (g : Nat) (c : Value) (j : List Int) (a : LO) (u : Value) (D : List Int) (r : (Bool × (List Int))) (w : World) {Z : lZ} (h : oT Z ((g, Ob #[c] 239) :: (a ++ [])) w) (i : lR 5 (mj .u8) 1 c j a) (k : Sl (Pl (mj .u8)) 1 Z u D) (hm : yq j D = some r) :
  nl true pg0 241 [(.pointer (some ⟨g, 0, none⟩)), u] w ((g, Ob #[c] 239) :: (a ++ [])) (fun v L1 W' => ∃ U M, v = (.bool (r.1)) ∧ L1 = ((g, Ob #[U] 239) :: (M ++ [])) ∧ lR 5 (mj .u8) 1 U r.2 M) := by
 refine AN h 25 func241 rfl (fun b => sg (Wa (lS (Wm (V (tE iE rfl rfl) (Wm (Vg rfl rfl (lz rfl) (Vg rfl rfl (mS bR rfl k) (Vg rfl rfl (mz rfl rfl rfl) ?_)))))))))
 refine V (lW rfl rfl) (ln (CI hm rfl (fun Q hm => ?_) (fun Q hm => ?_)))
 ·refine sg (Wa (lt (mo ?_)))
  obtain rfl := sj hm
  exact na (v := (.bool false)) rfl rfl ⟨_, _, rfl, (b.nF (Kb (Kr Sn))), c, a, rfl, rfl, i⟩
 refine kg (Wm (Wm (V (mS bR rfl k) (bS hm fun s T hm => ?_))))
 refine VE (eM b (Cb Pz (Cr Qz Cn)) call181 (fun l _ => (sO g c j a (D.length : Int) _ _ l i T)) ?_)
 rintro _ v8 o a3 b H n d ⟨Y, K, t, rfl, I⟩
 obtain rfl := t.symm
 replace b := b.perm (Tb (Tr Tn))
 refine lr (Wm (Wm (Wn (Wf Ae (VB b Mh rfl rfl gZ (Wm ?_))))))
 replace b := b.perm (Nr (Qb Qz) Nz)
 refine bS hm fun B G hm => VE (pq (enc := (mj .u8)) (v := Y) (vs := u) (R := K) b (fun _ => rfl) dc (D5 _) bR rV.1 rV.2.1 rfl rV.2.2.1 rV.2.2.2 rfl rfl I (k.mono (Pl.mono _) (H.trans b.lx)) G (fun a4 q J b z => Wn (Wf Ae ?_)))
 obtain ⟨x, y, rfl⟩ := z.form
 replace b := b.perm (Nb (Pr Pz) Nz)
 refine VO (lL (.slice x B.length y) (#[(.slice x B.length y)]) b rfl rfl jQ oc nb rfl (fun a5 b => lr (Wa (lt ?_))))
 obtain rfl := sj hm
 exact na (v := (.bool true)) rfl rfl ⟨_, _, rfl, (b.nF (Kb (Kr Sn))), (.slice x B.length y), J, rfl, rfl, z⟩
theorem zt (j : Nat) (c : Value) (t : List Int) (a : LO) (J : ByteArray) (r : (Bool × (List Int))) (w : World) {Z : lZ} (F : oT Z ((j, Ob #[c] 239) :: (a ++ [])) w) (k : lR 5 (mj .u8) 1 c t a) (hm : uO t J = some r) :
  nl true pg0 183 [(.pointer (some ⟨j, 0, none⟩)), (.string J)] w ((j, Ob #[c] 239) :: (a ++ [])) (fun v L1 W' => ∃ o S2, v = (.bool (r.1)) ∧ L1 = ((j, Ob #[o] 239) :: (S2 ++ [])) ∧ lR 5 (mj .u8) 1 o r.2 S2) := by
 refine AN F 17 func183 rfl (fun b => sg (Wa (lr (Wm (V (DX iE rfl rfl) (Wm (Vg rfl rfl (lz rfl) (bS hm fun r1 a4 hm => N4 rfl rfl (Eg b kZ (sc J _ _  a4) (fun W3 b => V (lX rfl rfl) ?_))))))))))
 refine Wm (LJ hm (fun B E W => ∃ z x D I, lP Z D ∧ ST true (keys ((j, Ob #[c] 239) :: (a ++ []))) w W D ((j, Ob #[z] 239) :: (x ++ I)) ∧ E 4 = (.bool false) ∧ E 16 = (.bool B.1) ∧ lR 5 (mj .u8) 1 z B.2 x) 5 ?_ (fun B g y => ?_))
 ·rintro ⟨s, c0⟩ E W ⟨z, x, D, I, O, b, b9, a3, T⟩ M
  refine Wg a3 (lt ?_)
  obtain rfl := sj M
  exact na (v := (.bool s)) rfl rfl ⟨_, _, rfl, (b.nF (Kb (Kr Sn))), z, x, rfl, rfl, T⟩
 refine bC g (fun i g => ?_) (fun i g => ?_)
 ·refine ug i (lz rfl) (ug i (lz rfl) (bS g fun a5 N g => vC i (IF b bY bR fL rfl N (fun b6 q c3 b G l U P => bS g fun c1 Q g => ?_))))
  refine vC i (eM b (Cb Pz (Cr Qz Cn)) call241 (fun L h => (FF j c t a q a5 _ _ L k (U.mono (Pl.mono _) h) Q)) ?_)
  rintro _ c2 A R b H n d ⟨a9, a2, u, rfl, Y⟩
  obtain rfl := u.symm
  replace b := b.perm (Tb (Tr Tn))
  refine V (lX (cB i) rfl) ?_
  obtain rfl := sj g
  exact y _ _ ⟨a9, a2, A, _, (G.trans H), (b.ll St), rfl, rfl, Y⟩
 refine un i (un i (un i (un i (V (lW (cB i) rfl) ?_))))
 obtain rfl := sj g
 exact y _ _ ⟨c, a, Z, _, (lP.refl _), (b.ll St), rfl, rfl, k⟩
theorem wi (c : Nat) (i : Value) (D : List Int) (a : LO) (x : lg) (r : (Bool × (List Int))) (w : World) {μ0 : lZ} (h0 : oT μ0 ((c, Ob #[i] 239) :: (a ++ [])) w) (y : lR 5 (mj .u8) 1 i D a) (hm : rn D x = some r) :
  nl true pg0 182 [(.pointer (some ⟨c, 0, none⟩)), (.agg (lu x).toArray)] w ((c, Ob #[i] 239) :: (a ++ [])) (fun v L1 W' => ∃ s S2, v = (.bool (r.1)) ∧ L1 = ((c, Ob #[s] 239) :: (S2 ++ [])) ∧ lR 5 (mj .u8) 1 s r.2 S2) := by
 let l := ((c, Ob #[i] 239) :: (a ++ []))
 refine AN h0 23 func182 rfl (fun b => sg (VE (mG b rfl (fun W2 n b => Wa (lr (Wm (V (DX iE rfl rfl) (Wm (Vg rfl rfl (lq rfl (lB b.has Mh (lu x) rfl bO aN)) (bS hm fun r3 c4 hm => N4 rfl rfl (Eg b km (sx x _ _  c4) (fun W5 b => ?_))))))))))))
 refine V (lX rfl rfl) (Wm (LJ hm (fun T E W => ∃ z u B a0, lP μ0 B ∧ ST true (keys l) w W B ((n, Ol (lu x) 50) :: ((c, Ob #[z] 239) :: (u ++ a0))) ∧ E 0 = (.pointer (some ⟨c, 0, none⟩)) ∧ E 3 = (.pointer (some ⟨n, 0, none⟩)) ∧ E 4 = (.bool false) ∧ E 16 = (.bool T.1) ∧ lR 5 (mj .u8) 1 z T.2 u) 5 ?_ (fun T t K => ?_)))
 ·rintro ⟨e6, c5⟩ E W ⟨z, u, B, a0, d2, b, c0, c1, a3, c2, N⟩ A
  refine Wh c2 (LJ A (fun Q E W => ∃ M I U a2, lP B U ∧ ST true (keys l) w W U ((c, Ob #[M] 239) :: (I ++ a2)) ∧ E 4 = (.bool false) ∧ E 22 = (.bool Q.1) ∧ lR 5 (mj .u8) 1 M Q.2 I) 5 ?_ (fun Q k J => ?_))
  ·rintro ⟨c6, e1⟩ E W ⟨M, I, U, a2, d3, b, e0, c3, O⟩ F
   refine Wg c3 (lt ?_)
   obtain rfl := sj F
   exact na (v := (.bool c6)) rfl rfl ⟨_, _, rfl, (b.nF (Kb (Kr Sn))), M, I, rfl, rfl, O⟩
  refine bC k (fun g k => ?_) (fun g k => ?_)
  ·refine ug g (lz c0) (ug g (lA xA c1) (ug g (lq rfl (lK b.has Mh rfl cL)) (bS k fun e2 L k => ?_)))
   refine vC g (eM b (Cb (Pb Pz) (Cr (Qb Qz) Cn)) call183 (fun h _ => (zt c z c5 u x.lp _ _ h N L)) ?_)
   rintro _ e4 d0 d6 b Y o d ⟨c8, b6, G, rfl, P⟩
   obtain rfl := G.symm
   replace b := b.perm (Tb (Tr Tn))
   refine V (lX (cB g) rfl) ?_
   obtain rfl := sj k
   exact J _ _ ⟨c8, b6, d0, _, Y, (b.ll (Kb (Kr (Db St)))), a3, rfl, P⟩
  refine un g (un g (un g (un g (V (lW (cB g) rfl) ?_))))
  obtain rfl := sj k
  exact J _ _ ⟨z, u, B, _, (lP.refl _), (b.ll (Db St)), a3, rfl, N⟩
 refine bC t (fun j t => ?_) (fun j t => ?_)
 ·refine ug j (lz rfl) (ug j (lA vh rfl) (ug j (lq rfl (lK b.has Mh rfl cL)) (bS t fun e3 a9 t => ?_)))
  refine vC j (eM b (Cb (Pb Pz) (Cr (Qb Qz) Cn)) call183 (fun h _ => (zt c i D a x.lh _ _ h y a9)) ?_)
  rintro _ e5 d1 d7 b Z q d ⟨c9, b7, H, rfl, R⟩
  obtain rfl := H.symm
  replace b := b.perm (Tb (Tr Tn))
  refine V (lX (cB j) rfl) ?_
  obtain rfl := sj t
  exact K _ _ ⟨c9, b7, d1, _, Z, (b.ll (Sb (Pb (Pr Pz)) St)), rfl, rfl, rfl, rfl, R⟩
 refine un j (un j (un j (un j (V (lW (cB j) rfl) ?_))))
 obtain rfl := sj t
 exact K _ _ ⟨i, a, μ0, _, (lP.refl _), (b.ll St), rfl, rfl, rfl, rfl, y⟩
theorem BM (g : Nat) (a : Value) (c r : List Int) (w : World) (j : Sl (Pl (mj .u8)) 1 (hp w) a c) (k : At (hp w) (.pointer (some ⟨g, 0, none⟩)) [a]) (hm : uN c = some r) :
  nR true pg0 184 [(.pointer (some ⟨g, 0, none⟩))] w 5 (mj .u8) 1 r := by
 refine zh 10 func184 rfl (fun b => sg (Wa (lS (Wm (V (tE iE rfl rfl) (ln (re rfl (mX ?_))))))))
 refine lD (sg (Wm (Wn (VQ (wq [a] Ae rfl k rfl) (fun G u => V (lq rfl (qR b.has (y := a) u gZ)) (bS hm fun H x hm => VE (tW b call58 (D8 a c _ _ (j.mono (Pl.mono _) b.lx) x) (fun D z I t b B d i => Wa (lt ?_)))))))))
 obtain rfl := sj hm
 exact na (v := z) rfl rfl ⟨_, t, rfl, b.px (fun p h => (Ml h)) i.nd, i⟩
theorem zU (c : lf) (r : List Int) (w : World) (hm : tL c = some r) :
  nR true pg0 119 [(.agg (li c).toArray)] w 5 (mj .u8) 1 r := by
 refine zh 53 func119 rfl (fun d => sg (VE (mG d rfl (fun W2 b1 d => Wa (lS (VA d Mh (li c) bP aH (bS hm fun r3 g3 hm => VE (Eg d call113 (xK c _ _  g3) (fun W5 d => V (ot rfl) (me ?_))))))))))
 refine lD (CI hm rfl (fun g0 hm => ?_) (fun g0 hm => ?_))
 ·refine sg (Wa (ln ?_))
  replace d := d.ll (Db St)
  refine mi (mo ?_)
  obtain rfl := sj hm
  exact na (v := (.slice none 0 0)) rfl rfl ⟨_, [], rfl, d.px (fun p n => by cases n) (by simp), lR.nil _ _ _⟩
 refine kg (V (nT (v := (.agg #[(.slice none 0 0)])) sC (nq zeroValue239 iD (Ps _ iD) kr)) (VE (mG d rfl (fun W8 g d => Wa (lr (Wm (Wf zr (VB d (Mt Mh) rfl rfl dD (bS hm fun r9 e2 hm => ?_)))))))))
 refine VE (eM d (Cb Pz (C0 Cn)) call181 (fun l _ => (sO g (.slice none 0 0) ([]) [] c.Kind _ _ l (lR.nil _ _ _) e2)) ?_)
 rintro _ k3 k5 j9 d g7 R h ⟨g4, f9, I, rfl, e4⟩
 obtain rfl := I.symm
 replace d := d.perm (Tb (Tr Tn))
 refine lr (Wm (Wf uM (VA d (Mt (Ma Mh)) (lu c.Head) bO aN (bS hm fun N e3 hm => ?_))))
 refine VE (eM d (Cb Pz (Cr Qz Cn)) call182 (fun l _ => (wi g g4 r9.2 f9 c.Head _ _ l e4 e3)) ?_)
 rintro _ k4 d1 k0 d g8 a6 h ⟨G, D, J, rfl, i⟩
 obtain rfl := J.symm
 replace d := d.perm (Tb (Tr Tn))
 refine ln (lH (CJ hm (fun a3 E W => ∃ B H K Q, lP d1 K ∧ ST true mR w W K ((g, Ob #[B] 239) :: (H ++ Q)) ∧ E 3 = (.pointer (some ⟨g, 0, none⟩)) ∧ lR 5 (mj .u8) 1 B a3 H) (fun a3 a => ?_) ?_))
 ·refine sg (Wf zr (VB d (Mt (Ma Mh)) rfl rfl dD (ln (bg (Wi rfl (Wa (ln (CI a rfl (fun b0 a => ?_) (fun b0 a => ?_)))))))))
  ·refine lG (Wm (Wf Di (VB d (Mt (Ma Mh)) rfl rfl cL (bS a fun i3 b6 a => ?_))))
   refine VE (eM d (Cb Pz (Cr Qz Cn)) call183 (fun l _ => (zt g G N.2 D c.lM _ _ l i b6)) ?_)
   rintro _ i8 f5 g9 d T s h ⟨e9, d3, k, rfl, c5⟩
   obtain rfl := k.symm
   replace d := d.perm (Tb (Tr Tn))
   refine me (ms (lD ?_))
   obtain rfl := sj a
   exact ⟨e9, d3, f5, _, T, (d.ll (Kb (Kr (Db St)))), rfl, c5⟩
  refine sg (Wi rfl (Wa (ln (CI a rfl (fun b2 a => ?_) (fun b2 a => ?_)))))
  ·refine lG (Wm (Wf rr (VA d (Mt (Ma Mh)) (lu c.B) bO aN (bS a fun i4 b9 a => ?_))))
   refine VE (eM d (Cb Pz (Cr Qz Cn)) call182 (fun l _ => (wi g G N.2 D c.B _ _ l i b9)) ?_)
   rintro _ i9 f6 h0 d U A h ⟨f0, d4, t, rfl, c6⟩
   obtain rfl := t.symm
   replace d := d.perm (Tb (Tr Tn))
   refine me (ms (lD ?_))
   obtain rfl := sj a
   exact ⟨f0, d4, f6, _, U, (d.ll (Kb (Kr (Db St)))), rfl, c6⟩
  refine sg (Wi rfl (Wa (ln (CI a rfl (fun b3 a => ?_) (fun b3 a => ?_)))))
  ·refine sg (Wm (Wf rr (VA d (Mt (Ma Mh)) (lu c.B) bO aN (bS a fun e6 c0 a => ?_))))
   refine VE (eM d (Cb Pz (Cr Qz Cn)) call182 (fun l _ => (wi g G N.2 D c.B _ _ l i c0)) ?_)
   rintro _ j0 j7 h1 d Y F h ⟨f1, d5, u, rfl, c7⟩
   obtain rfl := u.symm
   replace d := d.perm (Tb (Tr Tn))
   refine ln (lG (Wm (Wf AT (VB d (Mt (Ma Mh)) rfl rfl cL (bS a fun i5 c1 a => ?_)))))
   refine VE (eM d (Cb Pz (Cr Qz Cn)) call183 (fun l _ => (zt g f1 e6.2 d5 c.lN _ _ l c7 c1)) ?_)
   rintro _ j3 f7 h2 d Z L h ⟨f2, d6, x, rfl, c8⟩
   obtain rfl := x.symm
   replace d := d.perm (Tb (Tr Tn))
   refine me (ms (lD ?_))
   obtain rfl := sj a
   exact ⟨f2, d6, f7, _, (Y.trans Z), (d.ll (Kb (Kr (Db St)))), rfl, c8⟩
  refine sg (Wi rfl (Wa (ln (CI a rfl (fun b4 a => ?_) (fun b4 a => ?_)))))
  ·refine sg (Wm (Wf rr (VA d (Mt (Ma Mh)) (lu c.B) bO aN (bS a fun e7 c2 a => ?_))))
   refine VE (eM d (Cb Pz (Cr Qz Cn)) call182 (fun l _ => (wi g G N.2 D c.B _ _ l i c2)) ?_)
   rintro _ j4 j8 h3 d a1 O h ⟨f3, d7, y, rfl, c9⟩
   obtain rfl := y.symm
   replace d := d.perm (Tb (Tr Tn))
   refine ln (lG (Wm (Wf zm (VA d (Mt (Ma Mh)) (lu c.C) bO aN (bS a fun i6 c3 a => ?_)))))
   refine VE (eM d (Cb Pz (Cr Qz Cn)) call182 (fun l _ => (wi g f3 e7.2 d7 c.C _ _ l c9 c3)) ?_)
   rintro _ j5 f8 h4 d a2 P h ⟨f4, d8, z, rfl, d0⟩
   obtain rfl := z.symm
   replace d := d.perm (Tb (Tr Tn))
   refine me (ms (lD ?_))
   obtain rfl := sj a
   exact ⟨f4, d8, f8, _, (a1.trans a2), (d.ll (Kb (Kr (Db St)))), rfl, d0⟩
  refine mX (ms (lD ?_))
  obtain rfl := sj a
  exact ⟨G, D, d1, _, (lP.refl _), (d.ll (Kb (Kr (Db St)))), rfl, i⟩
 rintro e5 E W ⟨B, H, K, Q, g1, d, d9, c4⟩ j
 refine sg (Wh d9 (bS j fun i2 b5 j => VE (tW d call184 (BM g B e5 _ _ (c4.sl (fun _ => rfl) (fun b o n => d.at_ (Mt (Ml n)))) (At.of (d.at_ Mh) _ rfl) b5) (fun h5 e8 j6 d2 d g2 q M => Wa (ln ?_)))))
 replace d := d.ll (Kr (Db (Dr St)))
 refine mi ?_
 obtain rfl := sj j
 exact na (v := e8) rfl rfl ⟨_, d2, rfl, d.px (fun p n => (Ml n)) M.nd, M⟩
theorem FZ (j : Value) (t : List Int) (r : Bool) (w : World) (i : Sl (Pl (mj .u8)) 1 (hp w) j t) (hm : tq t = some r) :
  lV true pg0 179 [j] w (.bool r) := by
 refine cG 11 func179 rfl (fun b => sg (Wa (lr (Wm (V (mS bR rfl i) (Wi rfl (Wm (LJ hm (fun x E W => ∃ k, ST true mR w W (hp w) k ∧ E 2 = (.bool false) ∧ E 10 = (.bool x)) 4 ?_ (fun x c g => ?_)))))))))
 ·rintro B E W ⟨k, b, z, y⟩ u
  exact Wg y (lt (rQ u b))
 refine bC c (fun a c => ?_) (fun a c => ?_)
 ·refine ug a (lz rfl) (ug a (mS bR rfl i) (ug a (mz rfl rfl rfl) (V (lX (cB a) rfl) ?_)))
  obtain rfl := sj c
  exact g _ _ ⟨_, (b.ll St), rfl, rfl⟩
 refine un a (un a (un a (V (lW (cB a) rfl) ?_)))
 obtain rfl := sj c
 exact g _ _ ⟨_, (b.ll St), rfl, rfl⟩
theorem Nd (u : Value) (H : List (List Int)) (r : Int) (w : World) (U : Sl (FR (mj .u8) 1) 1 (hp w) u H) (hm : ED H = some r) :
  lV true pg0 180 [u] w (.int .u64 r) := by
 refine cG 28 func180 rfl (fun d => sg (Wa (lr (Wa (lS (Wm ?_))))))
 refine V (mS underlying286 rfl U) (Wm (ln (mQ (fun i E W => ∃ x D, (E 10 = .int .i64 (i : Nat) ∧ E 9 = .int .i64 (H.length : Nat)) ∧ ST true mR w W (hp w) D ∧ E 3 = (.int .u64 x) ∧ E 8 = u ∧ xL (H.drop i) x = some r) H.length U.len ⟨14695981039346656037, _, ⟨rfl, rfl⟩, (d.ll St), rfl, rfl, hm⟩ dc dc dc (fun _ _ _ h => by obtain ⟨_, _, n, _⟩ := h; exact n) ?_ ?_)))
 ·rintro Y E W a3 ⟨x, D, ⟨l, o⟩, d, I, J, c⟩
  obtain ⟨B, c2, L, a9, O⟩ := mA a3
  rw [L] at c
  refine bg (VQ (Gm (enc := (mj .u8)) (k2 := 1) (i := (Y : Int)) (x0 := B) underlying286 jQ J l U (aJ _) a9) (fun c4 ⟨a2, A, z⟩ => V (lq rfl (qR d.has (y := a2) A gZ)) (Wa (lr (Wm (V (mS bR rfl z) (Wm (ln ?_))))))))
  refine vO (CJ c (fun Z E W => ∃ q, ST true mR w W (hp w) q ∧ E 3 = (.int .u64 Z) ∧ E 8 = u ∧ E 9 = (.int .i64 (H.length : Int)) ∧ E 10 = (.int .i64 (Y : Int))) (fun Z s => ?_) ?_)
  ·refine mQ (fun i E W => ∃ j G, (E 16 = .int .i64 (i : Nat) ∧ E 15 = .int .i64 (B.length : Nat)) ∧ ST true mR w W (hp w) G ∧ E 3 = (.int .u64 j) ∧ E 8 = u ∧ E 9 = (.int .i64 (H.length : Int)) ∧ E 10 = (.int .i64 (Y : Int)) ∧ E 14 = a2 ∧ xI (B.drop i) j = some Z) B.length z.len ⟨x, _, ⟨rfl, rfl⟩, (d.ll St), I, J, o, l, rfl, s⟩ dc dc dc (fun _ _ _ h => by obtain ⟨_, _, n, _⟩ := h; exact n) ?_ ?_
   ·rintro c0 E W a4 ⟨j, G, ⟨l, o⟩, d, K, M, N, Q, T, g⟩
    obtain ⟨t, c3, R, P, b4⟩ := mA a4
    rw [R] at g
    refine bg (VQ (qb (enc := (mj .u8)) (i := (c0 : Int)) (x0 := t) bR jw T l z (aJ _) P) (fun c5 F => V (lq rfl (qR d.has (y := (.int .u8 t)) F isAgg5)) (Wa (ln (lG (Wh K (Wm (V (rT (k' := .u8) (a := t) fL underlying235 rfl) (V (Sw (k := .u64) (a := j) (b := (IntKind.u64.wrap t)) (v := (.int .u64 (IntKind.u64.wrap (BitVec.ofInt (IntKind.bits .u64) j ^^^ BitVec.ofInt (IntKind.bits .u64) (IntKind.u64.wrap t)).toNat))) rfl rfl rfl) (Wi rfl (Wa ?_)))))))))))
    exact me (ms (lD ⟨l, (IntKind.u64.wrap ((IntKind.u64.wrap (BitVec.ofInt (IntKind.bits .u64) j ^^^ BitVec.ofInt (IntKind.bits .u64) (IntKind.u64.wrap t)).toNat) * 1099511628211)), _, ⟨rfl, o⟩, (d.ll St), rfl, M, N, Q, T, (by rw [b4]; exact g)⟩))
   rintro E W ⟨j, G, ⟨l, o⟩, d, K, M, N, Q, T, g⟩
   rw [aP] at g
   refine lD ?_
   obtain rfl := sj g
   exact ⟨_, (d.ll St), K, M, N, Q⟩
  rintro c1 E W ⟨q, d, b5, b6, b7, b9⟩ a5
  exact ms (lD ⟨b9, c1, _, ⟨rfl, b7⟩, (d.ll St), b5, b6, (by rw [O]; exact a5)⟩)
 rintro E W ⟨x, D, ⟨l, o⟩, d, I, J, c⟩
 rw [aP] at c
 exact lD (sg (Wh I (Wa (lt (rQ c d)))))
theorem GR (Q : Value) (g : List Int) (a2 : Value) (H r : List Int) (w : World) (j : Sl (Pl (mj .u8)) 1 (hp w) Q g) (Y : Sl (Pl (mj .u8)) 1 (hp w) a2 H) (hm : zL g H = some r) :
  nR true pg0 118 [Q, a2] w 5 (mj .u8) 1 r := by
 let a3 := (g.length : Int)
 refine zh 37 func118 rfl (fun d => sg (Wa (lS (Wm (bS hm fun r1 c0 hm => VE (Eg d call179 (FZ Q g _ _ (j.mono (Pl.mono _) d.lx) c0) (fun W3 d => V (ot rfl) (ln ?_))))))))
 refine CI hm rfl (fun b9 hm => ?_) (fun b9 hm => ?_)
 ·refine sg (Wa (lt (mo ?_)))
  obtain rfl := sj hm
  exact na (v := (.slice none 0 0)) rfl rfl ⟨_, [], rfl, d.px (fun p s => by cases s) (by simp), lR.nil _ _ _⟩
 refine kg (Wm (V (mS bR rfl j) (V (rT (k' := .i64) (a := (g.length : Int)) fF fL rfl) (VE (mh (cs := [(.int .u8 (IntKind.u8.wrap a3))].toArray) d (om rfl) (oH bR jw jR) (fun W6 A d => Wm (Wm (Wm ?_))))))))
 obtain ⟨D, I, rfl⟩ := j.form
 let n : Value := (.slice D g.length I)
 obtain ⟨A9, T, rfl⟩ := Y.form
 refine VE (mh (cs := #[(.slice (some ⟨A, 0, none⟩) 1 1), n, (.slice A9 H.length T), n]) d (RK rfl rfl rfl rfl) (oH underlying286 jQ zeroValue53) (fun c5 b7 d => bS hm fun x b1 hm => VE (Eg d call180 (Nd (.slice (some ⟨b7, 0, none⟩) 4 4) ([[(IntKind.u8.wrap a3)], g, H, g]) _ _ (FR.lit (l := [[(IntKind.u8.wrap a3)], g, H, g]) (vs := [(.slice (some ⟨A, 0, none⟩) 1 1), n, (.slice A9 H.length T), n]) rfl nb (d.at_ Mh) (.cons (Sl.lit (enc := (mj .u8)) (l := [(IntKind.u8.wrap a3)]) (fun _ => rfl) rfl nb rfl (d.at_ (Mt Mh))) (.cons (j.mono (Pl.mono _) d.lx) (.cons (Y.mono (Pl.mono _) d.lx) (.cons (j.mono (Pl.mono _) d.lx) .nil))))) b1) (fun c6 d => Wa (ln ?_)))))
 replace d := d.ll (Db (Db St))
 refine sg (bS hm fun U a9 hm => VE (KE (enc := (mj .u8)) (z := 0) d (fun _ => rfl) dc bR rV.1 rV.2.1 rV.2.2.1 rV.2.2.2 rfl rfl rfl a9 (fun c7 Z b6 d N => Wa (lS (Wm (V (sw bR rfl N) (Wm (ln ?_))))))))
 refine mQ (fun i E W => ∃ J G K, (E 23 = .int .i64 (i : Nat) ∧ E 22 = .int .i64 (U.length : Nat)) ∧ ST true mR w W (hp w) (G ++ K) ∧ E 5 = (.int .u64 x) ∧ E 6 = Z ∧ lR 5 (mj .u8) 1 Z J G ∧ ud x (U.drop i) i J = some r) U.length N.len ⟨U, b6, _, ⟨rfl, rfl⟩, (d.ll St), rfl, rfl, N, hm⟩ dc dc dc (fun _ _ _ h => by obtain ⟨_, _, _, q, _⟩ := h; exact q) ?_ ?_
 ·rintro t E W R ⟨J, G, K, ⟨o, F⟩, d, M, y, k, c⟩
  let a0 := (wi0 .i64 (8 * (wi0 .i64 (7 - (t : Int)))))
  obtain ⟨c9, c4, b2, c2, b3⟩ := mA R
  rw [b2] at c
  refine bg (Wh o (Wa (ln (lG (Wh y (Wm (Wh M (Wm (Wi rfl (Wi rfl (bS c fun _ L c => ?_)))))))))))
  exact V (Fz (a := x) (b := a0) rfl rfl (Tz L)) (V (rT (k' := .u64) (a := (Int.fdiv x (2 ^ min (Int.toNat a0) (IntKind.bits .u64)))) underlying235 fL rfl) (bS c fun b4 B c => VQ (oY (i := (t : Int)) (x0 := b4) bR jw rfl rfl k (mc B) (lU B)) (fun c3 O => VO (xQ (u := (.int .u8 (IntKind.u8.wrap (Int.fdiv x (2 ^ min (Int.toNat a0) (IntKind.bits .u64)))))) (x1 := (IntKind.u8.wrap (Int.fdiv x (2 ^ min (Int.toNat a0) (IntKind.bits .u64)))))  d k (fun _ => rfl) (D5 _) rfl rfl rfl O (lU B) jw (fun c1 P d a5 => me (ms (lD ⟨o, (J.set (Int.toNat (t : Int)) (IntKind.u8.wrap (Int.fdiv x (2 ^ min (Int.toNat a0) (IntKind.bits .u64))))), P, _, ⟨rfl, F⟩, (d.ll St), M, y, a5, (by rw [b3]; exact c)⟩)))))))
 rintro E W ⟨J, G, K, ⟨o, F⟩, d, M, y, k, c⟩
 rw [aP] at c
 refine lD (sg (Wh y (Wa (lt ?_))))
 obtain rfl := sj c
 exact na (v := Z) rfl rfl ⟨_, G, rfl, d.px (fun p s => (Ml s)) k.nd, k⟩
theorem zO (u : Value) (B : Option oe) (a : lf) (r : (Signed × Int)) (w : World) {Q : lZ} (F : oT Q [] w) (H : vX oJ Q u B) (hm : pO B a = some r) :
  nm true pg0 53 [u, (.agg (li a).toArray)] w Q [] (fun v L1 μ1 => ∃ E, v = (.tuple #[(.agg #[(.int .i64 (((r.1).lf).Kind)), (.string ((((r.1).lf).Head).lh)), (.string ((((r.1).lf).Head).lp)), (.string (((r.1).lf).lM)), (.string ((((r.1).lf).B).lh)), (.string ((((r.1).lf).B).lp)), (.string ((((r.1).lf).C).lh)), (.string ((((r.1).lf).C).lp)), (.string (((r.1).lf).lN)), E]), (.int .i64 (r.2))]) ∧ L1 = [] ∧ Sl (Pl (mj .u8)) 1 μ1 E ((r.1).Tag)) := by
 refine uW F 24 func53 rfl (fun d => sg (VE (mG d rfl (fun W2 W d => VE (ml d dG (fun W4 b3 d => Wa (lr (Wm (VA d (Mt Mh) (li a) bP aH (bS hm fun U T hm => ?_))))))))))
 refine VE (eD d (bH _) call117 (fun L => (AJ u B a _ _ L (H.mono ub (lP.refl _)) T)) ?_ (L0 := []))
 rintro _ b9 P a9 d y l ⟨a3, t, rfl, N⟩
 obtain rfl := t.symm
 refine Wm (Wx rfl (Wx rfl (Wa (Wa (lS (Wm (Wi rfl (ln (CI hm rfl (fun I hm => ?_) (fun I hm => ?_))))))))))
 ·refine sg (V (nT (v := (.agg C7.toArray)) sC (nq dG fK (MB _ fK) kr)) (Wm (VO (lL (.agg C7.toArray) (C7.toArray) d rfl rfl cT oc nb rfl (fun b4 d => Wa (ln ?_))))))
  replace d := d.ll (Kb (Db St))
  refine mi (mo ?_)
  obtain rfl := sj hm
  exact sF (v0 := (.agg C7.toArray)) (v1 := (.int .i64 U.2)) rfl rfl (lB d.has Mh C7 rfl ib cT) rfl ⟨_, _, _, rfl, (d.nF Sn), y, l, (ST.mE d (nS.mem Sn)), (.slice none 0 0), rfl, rfl, (Sl.nil _ _ _)⟩
 refine kn (lH ?_)
 replace d := d.drew
 have h := d.has.ll (Db (Kb Sn))
 refine mw h lY (XH 0 rfl h (fun _ A => lq rfl (lB A Mh (li a) rfl bP aH)) (X 1 rfl h (lz rfl) (XH 2 rfl h (fun _ A => lq rfl (lB A Mh (li a) rfl bP aH)) (bS hm fun Y J hm => XE 3 rfl (tW d call119 (zU a _ _  J) (fun b5 Z c1 R d c n G => ?_))))))
 have h := d.has.ox c (Dr (Db (Kb Sn)))
 refine ⟨h, (bS hm fun j K hm => XE 4 rfl (tW d call118 (GR a3 U.1 Z Y _ _ (N.mono (Pl.mono _) (c.trans d.lx)) (G.sl (fun _ => rfl) (fun b o O => d.at_ (Ml O))) K) (fun b6 c0 c2 b2 d k q x => ?_)))⟩
 have h := d.has.ox (c.trans k) (Dr (Dr (Db (Kb Sn))))
 refine ⟨h, ?_⟩
 obtain ⟨g, i, rfl⟩ := x.form
 let D := (C2 a.Kind a.Head.lh a.Head.lp a.lM a.B.lh a.B.lp a.C.lh a.C.lp a.lN g j.length i)
 refine X 5 rfl h (nT (v := (.agg D.toArray)) (sQ rfl rfl) (nq dG fK (MB _ fK) kr)) ?_
 replace d := d.perm (Nb (Pr (Pr Pz)) Nz)
 refine XO 6 rfl (lL (.agg D.toArray) (D.toArray) d rfl rfl cT oc nb rfl (fun b7 d => ?_))
 have h := d.has.ox (c.trans k) (Db (Dr (Dr (Kb Sn))))
 refine ⟨h, (X 7 rfl h (ny rfl) (mM kr (lD ?_)))⟩
 replace d := d.ll (Kb (Kr (Dr (Db St))))
 refine mi ?_
 obtain rfl := sj hm
 refine sF (v0 := (.agg D.toArray)) (v1 := (.int .i64 0)) rfl rfl (lB d.has Mh D rfl ib cT) rfl ?_
 replace d := d.perm (Nr (Qb Qz) Nz)
 obtain ⟨c3, d, z, s, M⟩ := ST.EJ d x (fun _ => rfl)
 exact ⟨_, _, _, rfl, (d.nF Sn), (((y.trans c).trans k).trans z), (((l.trans n).trans q).trans s), (ST.mE d (nS.mem Sn)), (.slice g j.length i), rfl, rfl, M⟩
theorem yt (g : Value) (t : List nQ) (j : Value) (z : nQ → Option Bool) (r : Int) (w : World) (c : Sl mW 8 (hp w) g t) (B : xE pg0 j (hp w) (Au mW) (fun (r : Bool) => (.bool r)) z) (hm : ry t z = some r) :
  lV false pg0 190 [g, j] w (.int .i64 r) := by
 refine cG 19 func190 rfl (fun b => sg (Wa (lS (Wm (V (mS cZ rfl c) (Wm (ln (mQ (fun i E W => ∃ k, (E 8 = .int .i64 (i : Nat) ∧ E 7 = .int .i64 (t.length : Nat)) ∧ ST false mR w W (hp w) k ∧ E 0 = g ∧ E 1 = j ∧ pg z (t.drop i) i = some r) t.length c.len ⟨_, ⟨rfl, rfl⟩, (b.ll St), rfl, rfl, hm⟩ dc dc dc (fun _ _ _ h => by obtain ⟨_, l, _⟩ := h; exact l) ?_ ?_))))))))
 ·rintro T E W G ⟨k, ⟨d, n⟩, b, u, x, a⟩
  obtain ⟨y, Z, N, M, Q⟩ := mA G
  rw [N] at a
  refine bg (Wh d (Wa (lr (Wh x (Wh u (Wm (VQ (nM (i := (T : Int)) (x0 := y) mW.out cZ eK rfl rfl c (aJ _) M) (fun a2 ⟨_, ⟨U, Y, rfl, J, K⟩, H⟩ => V (lq rfl (ma b.has H lc eK)) (bS a fun a3 I a => ?_)))))))))
  refine VE (zz y b B (lP.refl _) (Au.mk nY (mW.mk ⟨U, Y, rfl, J, K⟩) b.lx) rfl (uT rfl) I (fun o b => ln (CI a rfl (fun D a => ?_) (fun D a => ?_))))
  ·refine sg (Wm (Wa (lt (nE (mo (nE (mo ?_)))))))
   obtain rfl := sj a
   exact rP b
  exact mX (ms (lD ⟨d, _, ⟨rfl, n⟩, (b.ll St), u, x, (by rw [Q]; exact a)⟩))
 rintro E W ⟨k, ⟨d, n⟩, b, u, x, a⟩
 rw [aP] at a
 exact lD (sg (Wa (lt (rQ a b))))
theorem Bo (a : Value) (g : List nQ) (c : Value) (i : nQ → Option Bool) (r : Bool) (w : World) (j : Sl mW 8 (hp w) a g) (k : xE pg0 c (hp w) (Au mW) (fun (r : Bool) => (.bool r)) i) (hm : rX g i = some r) :
  lV false pg0 199 [a, c] w (.bool r) := by
 refine cG 9 func199 rfl (fun b => sg (Wa (lr (Wm (Wm (bS hm fun x t hm => VE (Eg b call190 (yt a g c i _ _ (j.mono nY.mono b.lx) (k.mono b.lx) t) (fun u b => Wi rfl (Wa (me ?_))))))))))
 exact lD (mi (rQ hm b))
theorem G4 (c : nQ) (a i : Value) (r : Bool) (w : World) (j : Sl lj 5 (hp w) a c.ly.Kids) (g : Sl (Pl li) 9 (hp w) i c.ns) (hm : xo c = some r) :
  lV true pg0 200 [(.agg #[(.string c.lg.lh), (.string c.lg.lp), (.int .i64 c.ly.Op), (.int .i64 c.ly.K), (.string c.ly.lg.lh), (.string c.ly.lg.lp), a, i])] w (.bool r) := by
 refine cG 7 func200 rfl (fun b => sg ?_)
 obtain ⟨k, u, rfl⟩ := j.form
 obtain ⟨t, x, rfl⟩ := g.form
 refine VE (mG b rfl (fun y z b => Wa (lr (Wf HE (VB b Mh rfl rfl eZ (V (mS aG rfl g) (Wi rfl (Wa (ln ?_)))))))))
 exact mi (rQ hm b)
theorem JH (u : lm) (k t : Value) (r : Bool) (w : World) (j : Sl mn 15 (hp w) k u.lJ) (c : Sl mW 8 (hp w) t u.mf) (hm : zQ u = some r) :
  lV false pg0 140 [(.agg #[(.string u.Name), k, t])] w (.bool r) := by
 refine cG 18 func140 rfl (fun b => sg ?_)
 obtain ⟨T, Z, rfl⟩ := j.form
 obtain ⟨J, K, rfl⟩ := c.form
 refine VE (mG b rfl (fun W6 Y b => Wa (lr (Wf zo (VB b Mh rfl rfl ko (V (mS dV rfl j) (Wi rfl (Wm (LJ hm (fun I E W => ∃ U, ST false mR w W (hp w) ((Y, Ol (C8 u.Name T u.lJ.length Z J u.mf.length K) 25) :: U) ∧ E 1 = (.pointer (some ⟨Y, 0, none⟩)) ∧ E 2 = (.bool false) ∧ E 12 = (.bool I)) 5 ?_ (fun I y B => ?_))))))))))
 ·rintro x8 E W ⟨U, b, d, G, a2⟩ M
  refine Wh a2 (LJ M (fun H E W => ∃ D, ST false mR w W (hp w) D ∧ E 2 = (.bool false) ∧ E 17 = (.bool H)) 4 ?_ (fun H i z => ?_))
  ·rintro A E W ⟨D, b, v, a3⟩ N
   exact Wg a3 (lt (rQ N b))
  refine bC i (fun a i => ?_) (fun a i => ?_)
  ·refine un a (un a (un a (V (lX (cB a) rfl) ?_)))
   obtain rfl := sj i
   exact z _ _ ⟨_, (b.ll (Db St)), G, rfl⟩
  refine ug a (lA EP d) (ug a (lq rfl (lK b.has Mh rfl isAgg23)) (bS i fun a9 Q i => vC a (Eg b call199 (Bo (.slice J u.mf.length K) u.mf (.func (.func 200) #[] #[]) (fun (x : nQ) => xo x) _ _ (c.mono nY.mono b.lx) ⟨200, #[], #[], rfl, call200, fun W x vs r F h hm => by obtain ⟨_, rfl, a4⟩ := h; obtain ⟨o, q, rfl, l, n⟩ := a4.out; exact (G4 x o q r W l n hm).ng⟩ Q) (fun s b => V (lW (cB a) rfl) ?_))))
  obtain rfl := sj i
  exact z _ _ ⟨_, (b.ll (Db St)), G, rfl⟩
 refine bC y (fun g y => ?_) (fun g y => ?_)
 ·refine un g (un g (un g (un g (V (lX (cB g) rfl) ?_))))
  obtain rfl := sj y
  exact B _ _ ⟨_, (b.ll St), rfl, rfl, rfl⟩
 refine ug g (lA EP rfl) (ug g (lq rfl (lK b.has Mh rfl isAgg23)) (ug g (mS cZ rfl c) (ug g (mz rfl rfl rfl) (V (lW (cB g) rfl) ?_))))
 obtain rfl := sj y
 exact B _ _ ⟨_, (b.ll St), rfl, rfl, rfl⟩
theorem D4 (T : Formula → Int → Option (Int × Int)) (o : ∀ (t : Formula) (j : Value) (I : Int) (r : (Int × Int)) (w : World) (g : Sl lj 5 (hp w) j t.Kids), T t I = some r → lV false pg0 192 [(.agg #[(.int .i64 t.Op), (.int .i64 t.K), (.string t.lg.lh), (.string t.lg.lp), j]), (.int .i64 I)] w (.tuple #[(.int .i64 r.1), (.int .i64 r.2)])) (t : Formula) (j : Value) (I : Int) (r : (Int × Int)) (w : World) (g : Sl lj 5 (hp w) j t.Kids) (hm : wy T t I = some r) :
  lV false pg0 192 [(.agg #[(.int .i64 t.Op), (.int .i64 t.K), (.string t.lg.lh), (.string t.lg.lp), j]), (.int .i64 I)] w (.tuple #[(.int .i64 r.1), (.int .i64 r.2)]) := by
 refine cG 40 func192 rfl (fun b => sg ?_)
 obtain ⟨A1, c2, rfl⟩ := g.form
 refine VE (mG b rfl (fun W4 R b => Wa (Wa (lr (Wa (Wa (lS (Wf uh ?_))))))))
 refine VB b Mh rfl rfl gM (V (mS aF rfl g) (Wm (ln ?_)))
 replace b := b.ll (Db St)
 refine CJ hm (fun Q E W => ∃ a2, ST false mR w W (hp w) a2 ∧ E 6 = (.int .i64 Q.1) ∧ E 7 = (.int .i64 Q.2)) (fun Q a5 => ?_) ?_
 ·refine mQ (fun i E W => ∃ y z J, (E 15 = .int .i64 (i : Nat) ∧ E 14 = .int .i64 (t.Kids.length : Nat)) ∧ ST false mR w W (hp w) J ∧ E 1 = (.int .i64 I) ∧ E 6 = (.int .i64 y) ∧ E 7 = (.int .i64 z) ∧ E 13 = (.slice A1 t.Kids.length c2) ∧ qE I T (t.Kids.drop i) y z = some Q) t.Kids.length g.len ⟨1, 0, _, ⟨rfl, rfl⟩, (b.ll St), rfl, rfl, rfl, rfl, a5⟩ dc dc dc (fun _ _ _ h => by obtain ⟨_, _, _, l, _⟩ := h; exact l) ?_ ?_
  ·rintro L E W a3 ⟨y, z, J, ⟨d, n⟩, b, G, x, H, K, a⟩
   obtain ⟨c, c6, s, q, a9⟩ := mA a3
   rw [s] at a
   refine bg (VQ (nM (i := (L : Int)) (x0 := c) lj.out aF aC K d g (aJ _) q) (fun c4 ⟨_, ⟨c5, rfl, N⟩, Y⟩ => V (lq rfl (ma b.has Y bB aC)) (VE (ml b bI (fun b9 c3 b => ?_)))))
   obtain ⟨B, D, rfl⟩ := N.form
   let a0 := (C1 c.Op c.K c.lg.lh c.lg.lp B c.Kids.length D)
   refine VO (lL (.agg a0.toArray) (a0.toArray) b rfl rfl aC oc nb rfl (fun c0 b => lS (Wh x (Wh G (Wi rfl (ln (CI a rfl (fun U a => ?_) (fun U a => ?_))))))))
   ·refine oI (ow (Sj (by simp) (ow (sU (lD ?_)))))
    obtain rfl := sj a
    exact ⟨_, (b.ll (Db St)), x, H⟩
   refine kg (VA b Mh a0 bB aC (Wh G (Wh x (Wi rfl (bS a fun M Z a => VE (Eg b call192 (o c (.slice B c.Kids.length D) (wi0 .i64 (I - y)) _ _ (N.mono lI.mono b.lx) Z) (fun c1 b => Wm (Wx rfl (Wx rfl (Wa (Wa ?_)))))))))))
   refine ln ?_
   replace b := b.ll (Db St)
   exact lG (Wh x (Wm (Wi rfl (Wh H (Wm (V (Sc (k := .i64) rfl rfl) (Wa (Wa (me (ms (lD ⟨d, (wi0 .i64 (y + M.1)), (if M.2 > z then M.2 else z), _, ⟨rfl, n⟩, (b.ll St), G, rfl, rfl, K, (by rw [a9]; exact a)⟩)))))))))))
  rintro E W ⟨y, z, J, ⟨d, n⟩, b, G, x, H, K, a⟩
  rw [aP] at a
  refine lD ?_
  obtain rfl := sj a
  exact ⟨_, (b.ll St), x, H⟩
 rintro ⟨O, P⟩ E W ⟨a2, b, A, F⟩ a4
 refine sg (Wh A (Wh F (Wi rfl (Wa (Wa (lt ?_))))))
 obtain rfl := sj a4
 exact ui (v := (.int .i64 O)) (u := (.int .i64 (wi0 .i64 (P + 1)))) rfl rfl rfl ⟨rfl, b.ex⟩
theorem Cd : ∀ (n : Nat) (c : Formula) (a : Value) (i : Int) (r : (Int × Int)) (w : World) (g : Sl lj 5 (hp w) a c.Kids) (_ : pC n c i = some r),
  lV false pg0 192 [(.agg #[(.int .i64 c.Op), (.int .i64 c.K), (.string c.lg.lh), (.string c.lg.lp), a]), (.int .i64 i)] w (.tuple #[(.int .i64 r.1), (.int .i64 r.2)])
 | 0 => by intros; rename_i h; simp only [pC] at h; cases h
 | n + 1 => D4 (pC n) (Cd n)
theorem HT (a : Formula) (g : Value) (r : (Int × Int)) (w : World) (c : Sl lj 5 (hp w) g a.Kids) (hm : ya a = some r) :
  lV false pg0 134 [(.agg #[(.int .i64 a.Op), (.int .i64 a.K), (.string a.lg.lh), (.string a.lg.lp), g])] w (.tuple #[(.int .i64 r.1), (.int .i64 r.2)]) := by
 refine cG 15 func134 rfl (fun b => sg ?_)
 obtain ⟨i, j, rfl⟩ := c.form
 refine VE (mG b rfl (fun y B b => Wa (Wa (lr (VA b Mh (C1 a.Op a.K a.lg.lh a.lg.lp i a.Kids.length j) bB aC (bS hm fun x t hm => VE (Eg b call192 ((Cd mq) a (.slice i a.Kids.length j) 4096 _ _ (c.mono lI.mono b.lx) t) (fun z b => Wm (Wx rfl (Wx rfl (Wa (Wa ?_))))))))))))
 refine ln ?_
 replace b := b.ll (Db St)
 refine lH (sg (Wm (Wi rfl (ln (CI hm rfl (fun k hm => ?_) (fun k hm => ?_))))))
 ·refine sg (Wa (Wa (lt (mo ?_))))
  obtain rfl := sj hm
  exact ui (v := (.int .i64 0)) (u := (.int .i64 0)) rfl rfl rfl ⟨rfl, b.ex⟩
 refine kg (Wm (Wm (Wa (Wa (lt ?_)))))
 obtain rfl := sj hm
 exact ui (v := (.int .i64 x.1)) (u := (.int .i64 x.2)) rfl rfl rfl ⟨rfl, b.ex⟩
theorem HO (a : Formula) (H : Value) (r : Bool) (w : World) (t : Sl lj 5 (hp w) H a.Kids) (hm : xY a = some r) :
  lV true pg0 193 [(.agg #[(.int .i64 a.Op), (.int .i64 a.K), (.string a.lg.lh), (.string a.lg.lp), H])] w (.bool r) := by
 refine cG 63 func193 rfl (fun b => sg ?_)
 obtain ⟨A1, c2, rfl⟩ := t.form
 let l := (C1 a.Op a.K a.lg.lh a.lg.lp A1 a.Kids.length c2)
 refine VE (mG b rfl (fun W4 N b => Wa (lr (V (nT (v := (.agg (lu K0).toArray)) sC (nq eG dO (Mu _ dO) kr)) (VE (ml b eG (fun W6 F b => VO (lL (.agg (lu K0).toArray) ((lu K0).toArray) b rfl rfl aN (ra K0) nb rfl (fun W7 b => lS (Wf vk ?_))))))))))
 refine VB b (Mt Mh) rfl rfl dD (ln (bg (Wi rfl (Wa (ln (CI hm rfl (fun d9 hm => ?_) (fun d9 hm => ?_)))))))
 ·refine sg (Wf zN (VA b (Mt Mh) (lu a.lg) bO aN (bS hm fun f7 e5 hm => VE (Eg b km (sx a.lg _ _  e5) (fun f5 b => Wm (LJ hm (fun d2 E W => ∃ P, ST true mR w W (hp w) ((N, Ol l 58) :: P) ∧ E 1 = (.pointer (some ⟨N, 0, none⟩)) ∧ E 2 = (.bool false) ∧ E 17 = (.bool d2)) 5 ?_ (fun d2 J a4 => ?_)))))))
  ·rintro f8 E W ⟨P, b, e7, c9, e8⟩ e1
   refine Wh e8 (LJ e1 (fun d1 E W => ∃ R, ST true mR w W (hp w) R ∧ E 2 = (.bool false) ∧ E 22 = (.bool d1)) 4 ?_ (fun d1 I a3 => ?_))
   ·rintro f9 E W ⟨R, b, f6, e9⟩ e2
    refine Wg e9 (lt (nE (mo ?_)))
    obtain rfl := sj e2
    exact rP b
   refine bC I (fun u I => ?_) (fun u I => ?_)
   ·refine ug u (lA zB e7) (ug u (lq rfl (lK b.has Mh rfl dD)) (ug u (mz rfl rfl rfl) (V (lX (cB u) rfl) ?_)))
    obtain rfl := sj I
    exact a3 _ _ ⟨_, (b.ll (Db St)), c9, rfl⟩
   refine un u (un u (un u (V (lW (cB u) rfl) ?_)))
   obtain rfl := sj I
   exact a3 _ _ ⟨_, (b.ll (Db St)), c9, rfl⟩
  refine bC J (fun j J => ?_) (fun j J => ?_)
  ·refine ug j (lA uh rfl) (ug j (lq rfl (lK b.has (Mt Mh) rfl gM)) (ug j (mS aF rfl t) (ug j (mz rfl rfl rfl) (V (lX (cB j) rfl) ?_))))
   obtain rfl := sj J
   exact a4 _ _ ⟨_, (b.ll (Db St)), rfl, rfl, rfl⟩
  refine un j (un j (un j (un j (V (lW (cB j) rfl) ?_))))
  obtain rfl := sj J
  exact a4 _ _ ⟨_, (b.ll (Db St)), rfl, rfl, rfl⟩
 let a0 := (l.toArray : Array Value)
 let d : Value := (.pointer (some ⟨N, 0, none⟩))
 refine lH (CJ hm (fun O E W => ∃ c6, ST true mR w W (hp w) ((F, Ol (lu K0) 50) :: ((N, Obj.cells a0 58 (0, 0)) :: c6)) ∧ E 1 = d ∧ E 3 = (.pointer (some ⟨F, 0, none⟩)) ∧ E 23 = (.bool O)) (fun O G => ?_) ?_)
 ·refine sg (Wi rfl (Wa (ln (CI G rfl (fun b9 G => ?_) (fun b9 G => ?_)))))
  ·refine kn ?_
   obtain rfl := sj G
   exact ⟨_, (b.ll St), rfl, rfl, rfl⟩
  refine lG (Wi rfl (Wa (ln ?_)))
  obtain rfl := sj G
  exact ⟨_, (b.ll St), rfl, rfl, rfl⟩
 rintro g0 E W ⟨c6, b, Q, d0, f0⟩ K
 refine CI K f0 (fun e0 K => ?_) (fun e0 K => ?_)
 ·refine sg (V (lA zN Q) (VA b (Mt Mh) (lu a.lg) bO aN (V (lq d0 (lB b.has Mh (lu K0) rfl bO aN)) (V (AD rfl rfl (qV iF) (xe (vw _ a.lg K0))) (Wm (LJ K (fun d3 E W => ∃ c7, ST true mR w W (hp w) c7 ∧ E 34 = (.bool d3)) 4 ?_ (fun d3 M a5 => ?_)))))))
  ·rintro g1 E W ⟨c7, b, f1⟩ e3
   refine Wg f1 (lt (nE (mo ?_)))
   obtain rfl := sj e3
   exact rP b
  refine bC M (fun x M => ?_) (fun x M => ?_)
  ·refine ug x (lA zB Q) (ug x (lq rfl (lK b.has (Mt Mh) rfl dD)) (ug x (mz rfl rfl rfl) (V (lX (cB x) rfl) ?_)))
   obtain rfl := sj M
   exact a5 _ _ ⟨_, (b.ll (Db (Db St))), rfl⟩
  refine un x (un x (un x (V (lW (cB x) rfl) ?_)))
  obtain rfl := sj M
  exact a5 _ _ ⟨_, (b.ll (Db (Db St))), rfl⟩
 refine mX (ms (lD (sg (V (lA vk Q) (VB b (Mt Mh) rfl rfl dD (Wi rfl (Wm (LJ K (fun L E W => ∃ c8, ST true mR w W (hp w) ((N, Obj.cells a0 58 (0, 0)) :: c8) ∧ E 1 = d ∧ E 43 = (.bool L)) 5 ?_ (fun L D h => ?_)))))))))
 ·rintro g2 E W ⟨c8, b, a2, d4⟩ e4
  refine Wh d4 (LJ e4 (fun A E W => ∃ n, ST true mR w W (hp w) ((N, Obj.cells a0 58 (0, 0)) :: n) ∧ E 1 = d ∧ E 48 = (.bool A)) 4 ?_ (fun A B Z => ?_))
  ·rintro f2 E W ⟨n, b, T, d5⟩ c0
   refine Wh d5 (LJ c0 (fun s E W => ∃ a9, ST true mR w W (hp w) ((N, Obj.cells a0 58 (0, 0)) :: a9) ∧ E 1 = d ∧ E 56 = (.bool s)) 7 ?_ (fun s z Y => ?_))
   ·rintro f3 E W ⟨a9, b, d6, d7⟩ c1
    refine Wh d7 (LJ c1 (fun q E W => ∃ o, ST true mR w W (hp w) o ∧ E 62 = (.bool q)) 5 ?_ (fun q y U => ?_))
    ·rintro f4 E W ⟨o, b, d8⟩ c3
     exact Wg d8 (lt (rQ c3 b))
    refine bC y (fun g y => ?_) (fun g y => ?_)
    ·refine ug g (lA uh d6) (ug g (lq rfl (lK b.has Mh rfl gM)) (ug g (mS aF rfl t) (ug g (mz rfl rfl rfl) (V (lX (cB g) rfl) ?_))))
     obtain rfl := sj y
     exact U _ _ ⟨_, (b.ll (Db St)), rfl⟩
    refine un g (un g (un g (un g (V (lW (cB g) rfl) ?_))))
    obtain rfl := sj y
    exact U _ _ ⟨_, (b.ll (Db St)), rfl⟩
   refine bC z (fun c z => ?_) (fun c z => ?_)
   ·refine ug c (lA zB T) (ug c (lq rfl (lK b.has Mh rfl dD)) (ug c (lA uh T) (ug c (lq rfl (lK b.has Mh rfl gM)) (ug c (mS aF rfl t) (ug c (mz rfl rfl rfl) (V (lX (cB c) rfl) ?_))))))
    obtain rfl := sj z
    exact Y _ _ ⟨_, (b.ll St), T, rfl⟩
   refine un c (un c (un c (un c (un c (un c (V (lW (cB c) rfl) ?_))))))
   obtain rfl := sj z
   exact Y _ _ ⟨_, (b.ll St), T, rfl⟩
  refine bC B (fun i B => ?_) (fun i B => ?_)
  ·refine ug i (lA zB a2) (ug i (lq rfl (lK b.has Mh rfl dD)) (ug i (mz rfl rfl rfl) (V (lX (cB i) rfl) ?_)))
   obtain rfl := sj B
   exact Z _ _ ⟨_, (b.ll St), a2, rfl⟩
  refine un i (un i (un i (V (lW (cB i) rfl) ?_)))
  obtain rfl := sj B
  exact Z _ _ ⟨_, (b.ll St), a2, rfl⟩
 refine bC D (fun k D => ?_) (fun k D => ?_)
 ·refine ug k (lA zN Q) (ug k (lq rfl (lB b.has (Mt Mh) (lu a.lg) rfl bO aN)) (ug k (lq d0 (lB b.has Mh (lu K0) rfl bO aN)) (ug k (AD rfl rfl (qV iF) (xe (vw _ a.lg K0))) (V (lX (cB k) rfl) ?_))))
  obtain rfl := sj D
  exact h _ _ ⟨_, (b.ll (Db St)), Q, rfl⟩
 refine un k (un k (un k (un k (V (lW (cB k) rfl) ?_))))
 obtain rfl := sj D
 exact h _ _ ⟨_, (b.ll (Db St)), Q, rfl⟩
theorem A6 (g : Value) (t : List Formula) (j : Value) (z : Formula → Option Bool) (r : Int) (w : World) (c : Sl lj 5 (hp w) g t) (B : xE pg0 j (hp w) (Au lj) (fun (r : Bool) => (.bool r)) z) (hm : ua t z = some r) :
  lV false pg0 249 [g, j] w (.int .i64 r) := by
 refine cG 19 func249 rfl (fun b => sg (Wa (lS (Wm (V (mS aF rfl c) (Wm (ln (mQ (fun i E W => ∃ k, (E 8 = .int .i64 (i : Nat) ∧ E 7 = .int .i64 (t.length : Nat)) ∧ ST false mR w W (hp w) k ∧ E 0 = g ∧ E 1 = j ∧ oF z (t.drop i) i = some r) t.length c.len ⟨_, ⟨rfl, rfl⟩, (b.ll St), rfl, rfl, hm⟩ dc dc dc (fun _ _ _ h => by obtain ⟨_, l, _⟩ := h; exact l) ?_ ?_))))))))
 ·rintro Q E W G ⟨k, ⟨d, n⟩, b, u, x, a⟩
  obtain ⟨y, U, M, K, N⟩ := mA G
  rw [M] at a
  refine bg (Wh d (Wa (lr (Wh x (Wh u (Wm (VQ (nM (i := (Q : Int)) (x0 := y) lj.out aF aC rfl rfl c (aJ _) K) (fun Z ⟨_, ⟨T, rfl, J⟩, H⟩ => V (lq rfl (ma b.has H bB aC)) (bS a fun o I a => ?_)))))))))
  refine VE (zz y b B (lP.refl _) (Au.mk lI (lj.mk ⟨T, rfl, J⟩) b.lx) rfl (uT rfl) I (fun Y b => ln (CI a rfl (fun D a => ?_) (fun D a => ?_))))
  ·refine sg (Wm (Wa (lt (nE (mo (nE (mo ?_)))))))
   obtain rfl := sj a
   exact rP b
  exact mX (ms (lD ⟨d, _, ⟨rfl, n⟩, (b.ll St), u, x, (by rw [N]; exact a)⟩))
 rintro E W ⟨k, ⟨d, n⟩, b, u, x, a⟩
 rw [aP] at a
 exact lD (sg (Wa (lt (rQ a b))))
theorem vE (a : Value) (g : List Formula) (c : Value) (i : Formula → Option Bool) (r : Bool) (w : World) (j : Sl lj 5 (hp w) a g) (k : xE pg0 c (hp w) (Au lj) (fun (r : Bool) => (.bool r)) i) (hm : pk g i = some r) :
  lV false pg0 194 [a, c] w (.bool r) := by
 refine cG 9 func194 rfl (fun b => sg (Wa (lr (Wm (Wm (bS hm fun x t hm => VE (Eg b call249 (A6 a g c i _ _ (j.mono lI.mono b.lx) (k.mono b.lx) t) (fun u b => Wi rfl (Wa (me ?_))))))))))
 exact lD (mi (rQ hm b))
theorem EC (i : Formula → Option Bool) (t : ∀ (c : Formula) (a : Value) (r : Bool) (w : World) (g : Sl lj 5 (hp w) a c.Kids), i c = some r → lV false pg0 135 [(.agg #[(.int .i64 c.Op), (.int .i64 c.K), (.string c.lg.lh), (.string c.lg.lp), a])] w (.bool r)) (c : Formula) (a : Value) (r : Bool) (w : World) (g : Sl lj 5 (hp w) a c.Kids) (hm : vi i c = some r) :
  lV false pg0 195 [(.agg #[(.int .i64 c.Op), (.int .i64 c.K), (.string c.lg.lh), (.string c.lg.lp), a])] w (.bool r) := by
 refine cG 6 func195 rfl (fun b => sg ?_)
 obtain ⟨j, k, rfl⟩ := g.form
 refine VE (mG b rfl (fun x z b => Wa (lr (VA b Mh (C1 c.Op c.K c.lg.lh c.lg.lp j c.Kids.length k) bB aC (bS hm fun B u hm => VE (Eg b call135 (t c (.slice j c.Kids.length k) _ _ (g.mono lI.mono b.lx) u) (fun y b => V (ot rfl) (Wa (ln ?_)))))))))
 exact mi (rQ hm b)
theorem DI (z : Formula → Option Bool) (T : ∀ (a : Formula) (g : Value) (r : Bool) (w : World) (c : Sl lj 5 (hp w) g a.Kids), z a = some r → lV false pg0 135 [(.agg #[(.int .i64 a.Op), (.int .i64 a.K), (.string a.lg.lh), (.string a.lg.lp), g])] w (.bool r)) (a : Formula) (g : Value) (r : Bool) (w : World) (c : Sl lj 5 (hp w) g a.Kids) (hm : wE z a = some r) :
  lV false pg0 135 [(.agg #[(.int .i64 a.Op), (.int .i64 a.K), (.string a.lg.lh), (.string a.lg.lp), g])] w (.bool r) := by
 refine cG 17 func135 rfl (fun b => sg ?_)
 obtain ⟨B, D, rfl⟩ := c.form
 let a0 := (C1 a.Op a.K a.lg.lh a.lg.lp B a.Kids.length D)
 refine VE (mG b rfl (fun W4 U b => Wa (lr (VA b Mh a0 bB aC (bS hm fun A a3 hm => VE (Eg b call193 (lV.ng (HO a (.slice B a.Kids.length D) _ _ (c.mono lI.mono b.lx) a3)) (fun W7 b => Wm (LJ hm (fun K E W => ∃ G, ST false mR w W (hp w) ((U, Ol a0 58) :: G) ∧ E 1 = (.pointer (some ⟨U, 0, none⟩)) ∧ E 2 = (.bool false) ∧ E 10 = (.bool K)) 5 ?_ (fun K t y => ?_)))))))))
 ·rintro F E W ⟨G, b, Y, I, Z⟩ M
  refine Wh Z (LJ M (fun J E W => ∃ H, ST false mR w W (hp w) H ∧ E 2 = (.bool false) ∧ E 16 = (.bool J)) 5 ?_ (fun J k u => ?_))
  ·rintro s E W ⟨H, b, o, d⟩ N
   exact Wg d (lt (rQ N b))
  refine bC k (fun i k => ?_) (fun i k => ?_)
  ·refine ug i (lA uh Y) (ug i (lq rfl (lK b.has Mh rfl gM)) (bS k fun q Q k => vC i (Eg b call194 (vE (.slice B a.Kids.length D) a.Kids (.func (.func 195) #[] #[]) (fun (x : Formula) => vi z x) _ _ (c.mono lI.mono b.lx) ⟨195, #[], #[], rfl, call195, fun W x vs r v h hm => by obtain ⟨_, rfl, a2⟩ := h; obtain ⟨n, rfl, l⟩ := a2.out; exact EC z T x n r W l hm⟩ Q) (fun a5 b => ug i (ot rfl) (V (lX (cB i) rfl) ?_)))))
   obtain rfl := sj k
   exact u _ _ ⟨_, (b.ll (Db St)), I, rfl⟩
  refine un i (un i (un i (un i (V (lW (cB i) rfl) ?_))))
  obtain rfl := sj k
  exact u _ _ ⟨_, (b.ll (Db St)), I, rfl⟩
 refine bC t (fun j t => ?_) (fun j t => ?_)
 ·refine ug j (lA uh rfl) (ug j (lq rfl (lK b.has Mh rfl gM)) (ug j (mS aF rfl c) (ug j (mz rfl rfl rfl) (V (lX (cB j) rfl) ?_))))
  obtain rfl := sj t
  exact y _ _ ⟨_, (b.ll St), rfl, rfl, rfl⟩
 refine un j (un j (un j (un j (V (lW (cB j) rfl) ?_))))
 obtain rfl := sj t
 exact y _ _ ⟨_, (b.ll St), rfl, rfl, rfl⟩
theorem Cm : ∀ (n : Nat) (c : Formula) (a : Value) (r : Bool) (w : World) (g : Sl lj 5 (hp w) a c.Kids) (_ : sD n c = some r),
  lV false pg0 135 [(.agg #[(.int .i64 c.Op), (.int .i64 c.K), (.string c.lg.lh), (.string c.lg.lp), a])] w (.bool r)
 | 0 => by intros; rename_i h; simp only [sD] at h; cases h
 | n + 1 => DI (sD n) (Cm n)
theorem tN (a : Formula) (k : Value) (r : Bool) (w : World) (c : Sl lj 5 (hp w) k a.Kids) (hm : qj a = some r) :
  lV false pg0 72 [(.agg #[(.int .i64 a.Op), (.int .i64 a.K), (.string a.lg.lh), (.string a.lg.lp), k])] w (.bool r) := by
 refine cG 24 func72 rfl (fun b => sg ?_)
 obtain ⟨y, z, rfl⟩ := c.form
 let a0 := (C1 a.Op a.K a.lg.lh a.lg.lp y a.Kids.length z)
 refine VE (mG b rfl (fun W4 H b => Wa (lr (VA b Mh a0 bB aC (bS hm fun o a9 hm => VE (Eg b call134 (HT a (.slice y a.Kids.length z) _ _ (c.mono lI.mono b.lx) a9) (fun W7 b => Wm (Wx rfl (Wx rfl (Wa (Wa (me ?_))))))))))))
 refine lD (sg (Wm (Wi rfl (Wm (LJ hm (fun Y E W => ∃ I, ST false mR w W (hp w) ((H, Ol a0 58) :: I) ∧ E 1 = (.pointer (some ⟨H, 0, none⟩)) ∧ E 2 = (.bool false) ∧ E 4 = (.int .i64 o.2) ∧ E 15 = (.bool Y)) 3 ?_ (fun Y x G => ?_))))))
 ·rintro L E W ⟨I, b, M, N, a4, a5⟩ Z
  refine Wh a5 (LJ Z (fun U E W => ∃ J, ST false mR w W (hp w) ((H, Ol a0 58) :: J) ∧ E 1 = (.pointer (some ⟨H, 0, none⟩)) ∧ E 2 = (.bool false) ∧ E 19 = (.bool U)) 3 ?_ (fun U u D => ?_))
  ·rintro A E W ⟨J, b, h, Q, l⟩ d
   refine Wh l (LJ d (fun T E W => ∃ K, ST false mR w W (hp w) K ∧ E 2 = (.bool false) ∧ E 23 = (.bool T)) 3 ?_ (fun T j B => ?_))
   ·rintro F E W ⟨K, b, s, n⟩ a2
    exact Wg n (lt (rQ a2 b))
   refine bC j (fun i j => ?_) (fun i j => ?_)
   ·refine ug i (lq h (lB b.has Mh a0 rfl bB aC)) (bS j fun v a3 j => vC i (Eg b call135 ((Cm mq) a (.slice y a.Kids.length z) _ _ (c.mono lI.mono b.lx) a3) (fun q b => V (lX (cB i) rfl) ?_)))
    obtain rfl := sj j
    exact B _ _ ⟨_, (b.ll (Db St)), Q, rfl⟩
   refine un i (un i (V (lW (cB i) rfl) ?_))
   obtain rfl := sj j
   exact B _ _ ⟨_, (b.ll (Db St)), Q, rfl⟩
  refine bC u (fun g u => ?_) (fun g u => ?_)
  ·refine ug g (lz a4) (ug g (mz rfl rfl rfl) (V (lX (cB g) rfl) ?_))
   obtain rfl := sj u
   exact D _ _ ⟨_, (b.ll St), M, N, rfl⟩
  refine un g (un g (V (lW (cB g) rfl) ?_))
  obtain rfl := sj u
  exact D _ _ ⟨_, (b.ll St), M, N, rfl⟩
 refine bC x (fun t x => ?_) (fun t x => ?_)
 ·refine ug t (lz rfl) (ug t (mz rfl rfl rfl) (V (lX (cB t) rfl) ?_))
  obtain rfl := sj x
  exact G _ _ ⟨_, (b.ll St), rfl, rfl, rfl, rfl⟩
 refine un t (un t (V (lW (cB t) rfl) ?_))
 obtain rfl := sj x
 exact G _ _ ⟨_, (b.ll St), rfl, rfl, rfl, rfl⟩
theorem xg (g : Value) (i r : List lf) (w : World) (a : Sl (Pl li) 9 (hp w) g i) (hm : qY i = some r) :
  nR true pg0 61 [g] w 52 li 9 r := by
 unfold qY at hm
 refine zh 8 func61 rfl (fun b => sg (Wa (lS (Wm ?_))))
 obtain ⟨y, B, rfl⟩ := a.form
 refine V (zd aG rfl rfl) (ln ?_)
 rcases y with _ | z
 ·have u := a.isNil
  replace hm : some [] = some r := by rw [u] at hm; simpa [ol, maxLen] using hm
  refine wv (rfl) (sg (Wa (lt (mo ?_))))
  obtain rfl := sj hm
  exact na (v := (.slice none 0 0)) rfl rfl ⟨_, [], rfl, b.px (fun p d => by cases d) (by simp), lR.nil _ _ _⟩
 ·refine re (rfl) (kg (VE (mh (cs := #[]) b sC (tY [] aG aH cM dc rfl (by simp) rfl rfl) (fun G k b => Wm (bS hm fun H t hm => VE (pq (enc := li) (v := (.slice (some ⟨k, 0, none⟩) 0 0)) (vs := (.slice (some z) i.length B)) (R := [(k, Ob #[] 52)]) b mN dc oQ aG nZ.1 nZ.2.1 rfl nZ.2.2.1 nZ.2.2.2 rfl rfl (lR.lit (l := []) (enc := li) rfl dc rfl rfl) (a.mono (Pl.mono _) b.lx) t (fun D x j b c => Wa (lt ?_))))))))
  obtain rfl := sj hm
  exact na (v := x) rfl rfl ⟨_, j, rfl, b.px (fun p d => (Ml d)) c.nd, c⟩
theorem yl (g : Value) (t : List lf) (j : Value) (B : lf → Option Bool) (r : Int) (w : World) (c : Sl (Pl li) 9 (hp w) g t) (D : yS pg0 j (hp w) (fun (x : lf) => [(.agg (li x).toArray)]) (fun (r : Bool) => (.bool r)) B) (hm : qN t B = some r) :
  lV false pg0 145 [g, j] w (.int .i64 r) := by
 refine cG 19 func145 rfl (fun b => sg (Wa (lS (Wm (V (mS aG rfl c) (Wm (ln (mQ (fun i E W => ∃ k, (E 8 = .int .i64 (i : Nat) ∧ E 7 = .int .i64 (t.length : Nat)) ∧ ST false mR w W (hp w) k ∧ E 0 = g ∧ E 1 = j ∧ pR B (t.drop i) i = some r) t.length c.len ⟨_, ⟨rfl, rfl⟩, (b.ll St), rfl, rfl, hm⟩ dc dc dc (fun _ _ _ h => by obtain ⟨_, l, _⟩ := h; exact l) ?_ ?_))))))))
 ·rintro Q E W H ⟨k, ⟨d, n⟩, b, u, y, a⟩
  obtain ⟨z, T, M, K, N⟩ := mA H
  rw [M] at a
  refine bg (Wh d (Wa (lr (Wh y (Wh u (Wm (VQ (qb (enc := li) (i := (Q : Int)) (x0 := z) aG aH rfl rfl c (aJ _) K) (fun Y I => V (lq rfl (ma b.has I bP aH)) (bS a fun Z J a => ?_)))))))))
  refine VE (Ks z b D (lP.refl _) rfl (uT rfl) J (fun U b => ln (CI a rfl (fun G a => ?_) (fun G a => ?_))))
  ·refine sg (Wm (Wa (lt (nE (mo (nE (mo ?_)))))))
   obtain rfl := sj a
   exact rP b
  exact mX (ms (lD ⟨d, _, ⟨rfl, n⟩, (b.ll St), u, y, (by rw [N]; exact a)⟩))
 rintro E W ⟨k, ⟨d, n⟩, b, u, y, a⟩
 rw [aP] at a
 exact lD (sg (Wa (lt (rQ a b))))
theorem xM (j : Value) (a0 : List lf) (t : LO) (H : Value) (f1 : lf → Option Bool) (r : List lf) (w : World) {μ0 : lZ} (h0 : oT μ0 (t ++ []) w) (T : lR 52 li 9 j a0 t) (a4 : yS pg0 H μ0 (fun (x : lf) => [(.agg (li x).toArray)]) (fun (r : Bool) => (.bool r)) f1) (hm : qy a0 f1 = some r) :
  nl false pg0 111 [j, H] w (t ++ []) (fun v L1 W' => ∃ q S2, v = q ∧ L1 = (S2 ++ []) ∧ lR 52 li 9 q r S2) := by
 refine AN h0 42 func111 rfl (fun d => sg (Wa (lr (Wm (Wm (bS hm fun n d3 hm => VE (Eg d call145 (yl j a0 H f1 _ _ (T.sl mN (fun b o h => d.at_ (Ml h))) (a4.mono d.lx) d3) (fun W3 d => Wa (ln ?_)))))))))
 refine lH (sg (Wm (Wi rfl (ln (CI hm rfl (fun d2 hm => ?_) (fun d2 hm => ?_))))))
 ·refine sg (Wm (Wa (lt (mo ?_))))
  obtain rfl := sj hm
  exact na (v := j) rfl rfl ⟨_, _, rfl, (d.nF (Kr Sn)), j, t, rfl, rfl, T⟩
 refine kS (Wm (Wi rfl (Wa (ln (nz (ph (fun m E W => ∃ U I B D a2, ST false (keys (t ++ [])) w W μ0 (I ++ a2) ∧ E 0 = j ∧ E 1 = H ∧ E 5 = (.int .i64 B) ∧ E 6 = (.int .i64 D) ∧ lR 52 li 9 j U I ∧ oR f1 m U B D = some r) mq ⟨a0, t, n, (wi0 .i64 (n + 1)), _, (d.ll St), rfl, rfl, rfl, rfl, T, hm⟩ ?_))))))
 rintro m E W ⟨U, I, B, D, a2, d, y, Q, G, K, g, a⟩
 cases m with
 | zero => rw [oR] at a; cases a
 | succ c8 =>
  refine lH (sg (Wh K (Wh y (V (sw aG rfl g) (Wi rfl (ln (CI a rfl (fun A a => ?_) (fun A a => ?_))))))))
  ·refine kn (lH (CJ a (fun Y E W => ∃ J a3, ST false (keys (t ++ [])) w W μ0 (J ++ a3) ∧ E 0 = j ∧ E 1 = H ∧ E 5 = (.int .i64 Y.2) ∧ E 6 = (.int .i64 D) ∧ lR 52 li 9 j Y.1 J) (fun Y c => ?_) ?_))
   ·refine bg (Wh y (Wh K (bS c fun k M c => VQ (oY (i := D) (x0 := k) aG aH rfl rfl g (mc M) (lU M)) (fun e4 O => V (lq rfl (rI d.has (fun p h => (Ml h)) g mN O (lU M) bP aH)) (VE (ml d cM (fun d7 e2 d => VO (lL (.agg (li k).toArray) ((li k).toArray) d rfl rfl aH (oQ k) nb rfl (fun d8 d => lr (Wh Q ?_))))))))))
    refine VA d Mh (li k) bP aH (bS c fun e6 R c => VE (Ks k d a4 (lP.refl _) rfl (uT rfl) R (fun d9 d => V (ot rfl) (ln (CI c rfl (fun F c => ?_) (fun F c => ?_))))))
    ·refine sg (Wh y (Wh G (VA d Mh (li k) bP aH (bS c fun d0 N c => VQ (oY (i := B) (x0 := d0) aG aH rfl rfl g (mc N) (lU N)) (fun e5 P => ?_)))))
     replace d := d.perm (Nr (Qb Qz) Nz)
     refine VO (xQ (u := (.agg (li k).toArray)) (x1 := k)  d g mN oQ rfl rfl rfl P (lU N) aH (fun e0 c1 d s => ln ?_))
     replace d := d.ll (Kr (Db St))
     refine lG (Wh G (Wi rfl (Wa (me (ms (lD ?_))))))
     obtain rfl := sj c
     exact ⟨c1, _, (d.ll St), y, Q, rfl, K, s⟩
    refine mX (ms (lD ?_))
    obtain rfl := sj c
    exact ⟨I, _, (d.ll (Db St)), y, Q, G, K, g⟩
   rintro ⟨c7, c9⟩ E W ⟨J, a3, d, c3, c4, c5, c6, b6⟩ L
   exact lG (Wh c6 (Wi rfl (Wa (ln ⟨c8, bL _, c7, J, c9, (wi0 .i64 (D + 1)), _, (d.ll St), c3, c4, c5, rfl, b6, L⟩))))
  refine oI (ow (ow (sU (lD (sg (Wh y (Wh G (bS a fun _ Z a => VQ (vz (i := B) aG aH rfl rfl g (uw Z) (um Z)) (fun e7 b7 => VO (yA (z := Ro)  d g mN oQ aG cM b7 rfl rfl (fun e1 c2 d a9 => lr (Wh y ?_))))))))))))
  refine Wh G (bS a fun _ l a => VQ (zf (i := B) aG aH rfl rfl a9 mN (uw l) (um l)) (fun a5 b9 => Wa (lt ?_)))
  obtain rfl := sj a
  exact na (v := a5) rfl rfl ⟨_, _, rfl, (d.nF (Kr Sn)), a5, c2, rfl, rfl, b9⟩
theorem IR (a : lf) (r : Bool) (w : World) (hm : yF a = some r) :
  lV true pg0 112 [(.agg (li a).toArray)] w (.bool r) := by
 refine cG 6 func112 rfl (fun b => sg (VE (mG b rfl (fun g j b => Wa (lr (VA b Mh (li a) bP aH (bS hm fun k c hm => VE (Eg b call113 (xK a _ _  c) (fun i b => V (ot rfl) (Wa (me ?_)))))))))))
 refine lD ?_
 exact mi (rQ hm b)
theorem MP (c : Value) (k : List lf) (a : LO) (g : Value) (t : (lf × lf) → Option Int) (r : List lf) (w : World) {y : lZ} (u : oT y (a ++ []) w) (i : lR 52 li 9 c k a) (j : RR pg0 g y (fun (x : (lf × lf)) => [(.agg (li x.1).toArray), (.agg (li x.2).toArray)]) (fun (r : Int) => (.int .i64 r)) t) (hm : yL t k = some r) :
  nl true pg0 114 [c, g] w (a ++ []) (fun v z W' => ∃ S, v = (.tuple #[]) ∧ z = (S ++ []) ∧ lR 52 li 9 c r S) := F5 (P := pg0) (ρ := No) QV 9 bP aH li mN oQ u.H u.S i j hm
theorem Q9 (w : World) {c d : Value} {a b : List Int} (h1 : Sl (Pl (mj .u8)) 1 (hp w) c a) (g : Sl (Pl (mj .u8)) 1 (hp w) d b) : (callFunc 240 [c, d].toArray).run pg0 w = .ok (.value (.int .i64 (zb a b))) w := OX func240 (by kernel_rfl) (by kernel_rfl) (by kernel_rfl) (by kernel_rfl) h1 g
theorem Cj (a : Value) (g : List Int) (c : Value) (i : List Int) (r : Int) (w : World) (j : Sl (Pl (mj .u8)) 1 (hp w) a g) (k : Sl (Pl (mj .u8)) 1 (hp w) c i) (hm : xw g i = some r) :
  lV true pg0 178 [a, c] w (.int .i64 r) := by
 exact cG 8 func178 rfl (fun b => sg (Wa (lr (Wm (Wm (VE (MD (args := [a, c]) (v := .int .i64 (zb g i)) rfl (by exact xv rfl rfl) (Q9 _ (j.mono (Pl.mono _) b.lx) (k.mono (Pl.mono _) b.lx)) (Wa (lt (rQ hm b))))))))))
theorem HQ (g i : lf) (r : Int) (w : World) (hm : uD g i = some r) :
  lV true pg0 115 [(.agg (li g).toArray), (.agg (li i).toArray)] w (.int .i64 r) := by
 refine cG 10 func115 rfl (fun d => sg (VE (mG d rfl (fun T Y d => VE (mG d rfl (fun U Z d => Wa (ln (lH ?_))))))))
 replace d := d.drew
 have h := d.has.ll (Kb (Kb Sn))
 refine mw h lY (XH 0 rfl h (fun _ l => lq rfl (lB l (Mt Mh) (li g) rfl bP aH)) (XH 2 rfl h (fun _ l => lq rfl (lB l Mh (li i) rfl bP aH)) (bS hm fun y t hm => XE 1 rfl (tW d call119 (zU g _ _  t) (fun I B N G d a q j => ?_)))))
 have h := d.has.ox a (Dr (Kb (Kb Sn)))
 refine ⟨h, (bS hm fun z u hm => XE 3 rfl (tW d call119 (zU i _ _  u) (fun J D Q H d c s k => ?_)))⟩
 have h := d.has.ox (a.trans c) (Dr (Dr (Kb (Kb Sn))))
 refine ⟨h, (bS hm fun M x hm => XE 4 rfl (Eg d call178 (Cj B y D z _ _ (j.sl (fun _ => rfl) (fun b o n => d.at_ (Ma (Ml n)))) (k.sl (fun _ => rfl) (fun b o n => d.at_ (Ml n))) x) (fun K d => ?_)))⟩
 have h := d.has.ox (a.trans c) (Dr (Dr (Kb (Kb Sn))))
 refine ⟨h, (X 5 rfl h (ny rfl) (mM kr (lD ?_)))⟩
 exact mi (rQ hm d)
theorem DB (j : Value) (a0 : List lf) (x : LO) (r : List lf) (w : World) {μ0 : lZ} (h0 : oT μ0 (x ++ []) w) (B : lR 52 li 9 j a0 x) (hm : tT a0 = some r) :
  nl true pg0 116 [j] w (x ++ []) (fun v L1 W' => ∃ y1 S2, v = y1 ∧ L1 = (S2 ++ []) ∧ lR 52 li 9 y1 r S2) := by
 refine AN h0 61 func116 rfl (fun b => sg (Wa (lS (Wm (V (sw aG rfl B) (Wi rfl (ln (CI hm rfl (fun g0 hm => ?_) (fun g0 hm => ?_)))))))))
 ·refine sg (Wm (Wa (lt (mo ?_))))
  obtain rfl := sj hm
  exact na (v := j) rfl rfl ⟨_, _, rfl, (b.nF (Kr Sn)), j, x, rfl, rfl, B⟩
 refine kS (Wa (ln (nz (ph (fun m E W => ∃ t P, ST true (keys (x ++ [])) w W μ0 (x ++ P) ∧ E 0 = j ∧ E 3 = (.int .i64 t) ∧ pB a0 m t = some r) mq ⟨1, _, (b.ll St), rfl, rfl, hm⟩ ?_))))
 rintro m E W ⟨t, P, b, D, H, a⟩
 cases m with
 | zero => rw [pB] at a; cases a
 | succ f5 =>
  refine lH (sg (Wh H (Wh D (V (sw aG rfl B) (Wi rfl (ln (CI a rfl (fun d0 a => ?_) (fun d0 a => ?_))))))))
  ·refine kn (lH (nz (lH ?_)))
   replace b := b.drew
   have d := b.has.ll (Kr Sn)
   refine mw d lY (X 0 rfl d (lz D) (X 1 rfl d (lz H) (bS a fun c3 Z a => XQ 2 rfl d (oY (i := t) (x0 := c3) aG aH rfl rfl B (mc Z) (lU Z)) (fun g7 d6 => XH 3 rfl d (fun _ l => lq rfl (rI l (fun p h => (Ml h)) B mN d6 (lU Z) bP aH)) (X 4 rfl d (lz D) (X 5 rfl d (lz H) (X 6 rfl d (mz rfl rfl rfl) (bS a fun c4 n a => XQ 7 rfl d (oY (i := (wi0 .i64 (t - 1))) (x0 := c4) aG aH rfl rfl B (mc n) (lU n)) (fun g8 d7 => XH 8 rfl d (fun _ l => lq rfl (rI l (fun p h => (Ml h)) B mN d7 (lU n) bP aH)) (X 9 rfl d (AD rfl rfl (qV gC) (xe (xN _ c3 c4))) (mM kr (lD ?_))))))))))))
   refine CI a rfl (fun d1 a => ?_) (fun d1 a => ?_)
   ·refine sg (Wh D (Wh H (bS a fun _ A a => VQ (vz (i := t) aG aH rfl rfl B (uw A) (um A)) (fun c1 M => Wa (lS (Wa (ln ?_)))))))
    refine CJ a (fun U E W => ∃ o R, ST true (keys (x ++ [])) w W μ0 (o ++ R) ∧ E 0 = j ∧ E 3 = (.int .i64 U.2) ∧ lR 52 li 9 j U.1 o) (fun U d4 => ?_) ?_
    ·refine nz (ph (fun m E W => ∃ q K Y y b6, ST true (keys (x ++ [])) w W μ0 (K ++ b6) ∧ E 0 = j ∧ E 3 = (.int .i64 Y) ∧ E 4 = c1 ∧ E 5 = (.int .i64 y) ∧ lR 52 li 9 j q K ∧ pv t m q Y y = some U) mq ⟨a0, x, t, 1, _, (b.ll St), D, H, rfl, rfl, B, d4⟩ ?_)
     rintro m E W ⟨q, K, Y, y, b6, b, Q, T, I, J, g, k⟩
     cases m with
     | zero => rw [pv] at k; cases k
     | succ f6 =>
      refine lH (sg (Wh J (Wh I (V (EA aG rfl M g) (Wi rfl (ln (CI k rfl (fun d2 k => ?_) (fun d2 k => ?_))))))))
      ·refine kn (lH (CJ k (fun s E W => ∃ N b7, ST true (keys (x ++ [])) w W μ0 (N ++ b7) ∧ E 0 = j ∧ E 3 = (.int .i64 s.2) ∧ E 4 = c1 ∧ E 5 = (.int .i64 y) ∧ lR 52 li 9 j s.1 N) (fun s c => ?_) ?_))
       ·refine nz (lH ?_)
        replace b := b.drew
        have d := b.has.ll (Kr Sn)
        refine mw d lY (X 0 rfl d (lz I) (X 1 rfl d (lz J) (bS c fun c6 a2 c => XQ 2 rfl d (vB (i := y) (x0 := c6) aG aH rfl rfl g M (mc a2) (lU a2)) (fun g9 d8 => XH 3 rfl d (fun _ l => lq rfl (rI l (fun p h => (Ml h)) g mN d8 (xJ (lU a2)) bP aH)) (X 4 rfl d (lz I) (X 5 rfl d (lz J) (X 6 rfl d (mz rfl rfl rfl) (bS c fun c7 a3 c => XQ 7 rfl d (vB (i := (wi0 .i64 (y - 1))) (x0 := c7) aG aH rfl rfl g M (mc a3) (lU a3)) (fun h1 d9 => XH 8 rfl d (fun _ l => lq rfl (rI l (fun p h => (Ml h)) g mN d9 (xJ (lU a3)) bP aH)) (X 9 rfl d (Jc rfl rfl (qV gC) (Fi (xN _ c6 c7))) (mM kr (lD ?_))))))))))))
        refine CI c rfl (fun d3 c => ?_) (fun d3 c => ?_)
        ·refine sg (Wh Q (Wh T (Wh I (Wh J (bS c fun a9 a4 c => VQ (vB (i := y) (x0 := a9) aG aH rfl rfl g M (mc a4) (lU a4)) (fun h2 e0 => V (lq rfl (rI b.has (fun p h => (Ml h)) g mN e0 (xJ (lU a4)) bP aH)) (bS c fun f8 a5 c => VQ (oY (i := Y) (x0 := f8) aG aH rfl rfl g (mc a5) (lU a5)) (fun h3 e1 => VO (xQ (u := (.agg (li a9).toArray)) (x1 := a9)  b g mN oQ rfl rfl rfl e1 (lU a5) aH (fun g3 e8 b c9 => ln (lG ?_)))))))))))
         refine Wh T (Wi rfl (Wa (me (ms (lD ?_)))))
         obtain rfl := sj c
         exact ⟨e8, _, (b.ll St), Q, rfl, I, J, c9⟩
        refine mX (ms (lD ?_))
        obtain rfl := sj c
        exact ⟨K, _, (b.ll St), Q, T, I, J, g⟩
       rintro ⟨f4, f7⟩ E W ⟨N, b7, b, f0, f1, f2, f3, e4⟩ d5
       exact lG (Wh f3 (Wi rfl (Wa (ln ⟨f6, bL _, f4, N, f7, (wi0 .i64 (y + 1)), _, (b.ll St), f0, f1, f2, rfl, e4, d5⟩))))
      refine oI (ow (ow (sU (lD ?_))))
      obtain rfl := sj k
      exact ⟨K, _, (b.ll St), Q, T, g⟩
    rintro ⟨g4, c5⟩ E W ⟨o, R, b, b9, c0, O⟩ G
    refine sg (Wh b9 (Wh c0 (bS G fun _ F G => VQ (vz (i := c5) aG aH rfl rfl O (uw F) (um F)) (fun h4 e2 => VO (yA (z := Ro)  b O mN oQ aG cM e2 rfl rfl (fun g2 e7 b c8 => lr (Wh b9 (Wh c0 (bS G fun _ L G => VQ (zf (i := c5) aG aH rfl rfl c8 mN (uw L) (um L)) (fun c2 e3 => ?_))))))))))
    refine Wa (lt (nE (mo (mo (nE (mo ?_))))))
    obtain rfl := sj G
    exact na (v := c2) rfl rfl ⟨_, _, rfl, (b.nF (Kr Sn)), c2, e7, rfl, rfl, e3⟩
   exact mX (ms (lD (lG (Wh H (Wi rfl (Wa (ln ⟨f5, bL _, (wi0 .i64 (t + 1)), _, (b.ll St), D, rfl, a⟩)))))))
  refine oI (ow (ow (sU (lD (sg (Wh D (Wa (lt ?_))))))))
  obtain rfl := sj a
  exact na (v := j) rfl rfl ⟨_, _, rfl, (b.nF (Kr Sn)), j, x, rfl, rfl, B⟩
theorem wD (i : Value) (t r : List lf) (w : World) (B : Sl (Pl li) 9 (hp w) i t) (hm : pM t = some r) :
  nR false pg0 52 [i] w 52 li 9 r := by
 refine zh 11 func52 rfl (fun b => sg (Wa (lr (Wm (bS hm fun y T hm => VE (tW b call61 (nR.ng (xg i t _ _ (B.mono (Pl.mono _) b.lx) T)) (fun W3 v7 z R8 b a5 q Q => bS hm fun U D hm => ?_)))))))
 refine VE (eM b (Cr Qz Cn) call111 (fun h _ => (xM v7 y R8 (.func (.func 112) #[] #[]) (fun (x : lf) => yF x) _ _ h Q ⟨112, #[], #[], rfl, call112, fun W x r u hm => (IR x r W  hm).ng⟩ D)) ?_)
 rintro _ O b9 E b A l d ⟨k, K, a, rfl, I⟩
 obtain rfl := a.symm
 replace b := b.perm (Tr Tn)
 refine Wa (lr (Wm (bS hm fun Y G hm => ?_)))
 refine VE (eM b (Cr Qz Cn) call114 (fun h _ => nl.ng (MP k U K (.func (.func 115) #[] #[]) (fun (x : (lf × lf)) => uD x.1 x.2) _ _ h I ⟨115, #[], rfl, call115, fun W x r u hm => HQ x.1 x.2 r W  hm⟩ G)) ?_)
 rintro _ P c0 a9 b a2 n d ⟨M, c, rfl, J⟩
 obtain rfl := c.symm
 replace b := b.perm (Tr Tn)
 refine lr (Wm (bS hm fun L H hm => ?_))
 refine VE (eM b (Cr Qz Cn) call116 (fun h _ => nl.ng (DB k Y M _ _ h J H)) ?_)
 rintro _ R c1 F b a3 o d ⟨Z, N, g, rfl, j⟩
 obtain rfl := g.symm
 replace b := b.perm (Tr Tn)
 refine Wa (lt ?_)
 obtain rfl := sj hm
 exact na (v := Z) rfl rfl ⟨_, N, rfl, b.px (fun p s => (Ml s)) j.nd, j⟩
theorem xh (t : Value) (y : List lf) (u : Value) (K : List lf) (r : Bool) (w : World) (c : Sl (Pl li) 9 (hp w) t y) (z : Sl (Pl li) 9 (hp w) u K) (hm : qe y K = some r) :
  lV true pg0 144 [t, u] w (.bool r) := by
 refine cG 26 func144 rfl (fun d => sg (Wa (lS (Wm (V (mS aG rfl c) (Wm (V (mS aG rfl z) (Wi rfl (me ?_)))))))))
 refine lD (CI hm rfl (fun U hm => ?_) (fun U hm => ?_))
 ·refine sg (Wa (lt (mo ?_)))
  obtain rfl := sj hm
  exact rP d
 refine kS (Wm (V (mS aG rfl c) (Wm (ln (mQ (fun i E W => ∃ g, (E 13 = .int .i64 (i : Nat) ∧ E 12 = .int .i64 (y.length : Nat)) ∧ ST true mR w W (hp w) g ∧ E 0 = t ∧ E 1 = u ∧ ri K (y.drop i) i = some r) y.length c.len ⟨_, ⟨rfl, rfl⟩, (d.ll St), rfl, rfl, hm⟩ dc dc dc (fun _ _ _ h => by obtain ⟨_, n, _⟩ := h; exact n) ?_ ?_)))))
 ·rintro I E W M ⟨g, ⟨l, q⟩, d, j, k, a⟩
  obtain ⟨J, a3, Q, N, T⟩ := mA M
  rw [Q] at a
  refine bg (Wh l (Wa (ln (lH ?_))))
  replace d := d.drew
  have b := d.has.ll Sn
  refine mw b lY (X 0 rfl b (lz j) (X 1 rfl b (lz rfl) (XQ 2 rfl b (qb (enc := li) (i := (I : Int)) (x0 := J) aG aH rfl rfl c (aJ _) N) (fun Y G => XH 3 rfl b (fun _ o => lq rfl (ma o G bP aH)) (X 4 rfl b (lz k) (X 5 rfl b (lz rfl) (bS a fun B x a => XQ 6 rfl b (qb (enc := li) (i := (I : Int)) (x0 := B) aG aH rfl rfl z (mc x) (lU x)) (fun Z H => XH 7 rfl b (fun _ o => lq rfl (ma o H bP aH)) (X 8 rfl b (Jc rfl rfl (qV gC) (Fi (xN _ J B))) (mM kr (lD (CI a rfl (fun D a => ?_) (fun D a => ?_)))))))))))))
  ·refine sg (Wa (lt (nE (mo (nE (mo ?_))))))
   obtain rfl := sj a
   exact rP d
  exact mX (ms (lD ⟨l, _, ⟨rfl, q⟩, (d.ll St), j, k, (by rw [T]; exact a)⟩))
 rintro E W ⟨g, ⟨l, q⟩, d, j, k, a⟩
 rw [aP] at a
 exact lD (sg (Wa (lt (rQ a d))))
theorem Dx (a : Value) (g : List lf) (r : Bool) (w : World) (c : Sl (Pl li) 9 (hp w) a g) (hm : vS g = some r) :
  lV false pg0 201 [a] w (.bool r) := by
 refine cG 7 func201 rfl (fun d => sg (Wa (lr (Wm (bS hm fun u t hm => VE (tW d call52 (wD a g _ _ (c.mono (Pl.mono _) d.lx) t) (fun D x G B d i h k => Wm (bS hm fun z j hm => VE (Eg d call144 (lV.ng (xh x u a g _ _ (k.sl mN (fun b o l => d.at_ (Ml l))) (c.mono (Pl.mono _) (i.trans d.lx)) j)) (fun y d => Wa ?_))))))))))
 refine ln ?_
 exact mi (rQ hm d)
theorem IM (z : lm) (x B : Value) (r : Bool) (w : World) (g : Sl mn 15 (hp w) x z.lJ) (M : Sl mW 8 (hp w) B z.mf) (hm : Bc z = some r) :
  lV false pg0 141 [(.agg #[(.string z.Name), x, B])] w (.bool r) := by
 refine cG 33 func141 rfl (fun d => sg ?_)
 obtain ⟨A1, c2, rfl⟩ := g.form
 obtain ⟨A3, c4, rfl⟩ := M.form
 refine VE (mG d rfl (fun W6 b5 d => Wa (lr (Wa (lS (Wf zo (VB d Mh rfl rfl ko (V (mS dV rfl g) ?_))))))))
 refine Wm (ln ?_)
 replace d := d.ll (Db St)
 refine mQ (fun i E W => ∃ u H y T, (E 9 = .int .i64 (i : Nat) ∧ E 8 = .int .i64 (z.lJ.length : Nat)) ∧ ST false mR w W (hp w) (y ++ T) ∧ E 3 = u ∧ E 7 = (.slice A1 z.lJ.length c2) ∧ lR 52 li 9 u H y ∧ sT (z.lJ.drop i) H = some r) z.lJ.length g.len ⟨(.slice none 0 0), ([]), [], _, ⟨rfl, rfl⟩, (d.ll St), rfl, rfl, (lR.nil _ _ _), hm⟩ dc dc dc (fun _ _ _ h => by obtain ⟨_, _, _, _, q, _⟩ := h; exact q) ?_ ?_
 ·rintro a3 E W O ⟨u, H, y, T, ⟨n, s⟩, d, I, J, K, j⟩
  obtain ⟨a, d1, b3, b2, b4⟩ := mA O
  rw [b3] at j
  refine bg (VQ (nM (i := (a3 : Int)) (x0 := a) mn.out dV dW J n g (aJ _) b2) (fun e0 ⟨_, ⟨e3, e4, rfl, Y, Z⟩, a9⟩ => V (lq rfl (ma d.has a9 kp dW)) (VE (ml d gx (fun d3 a2 d => ?_)))))
  obtain ⟨Q, U, rfl⟩ := Y.form
  obtain ⟨D, G, rfl⟩ := Z.form
  let a0 := (C3 a.Signed.lf.Kind a.Signed.lf.Head.lh a.Signed.lf.Head.lp a.Signed.lf.lM a.Signed.lf.B.lh a.Signed.lf.B.lp a.Signed.lf.C.lh a.Signed.lf.C.lp a.Signed.lf.lN Q a.Signed.Tag.length U a.ly.Op a.ly.K a.ly.lg.lh a.ly.lg.lp D a.ly.Kids.length G)
  refine VO (lL (.agg a0.toArray) (a0.toArray) d rfl rfl dW oc nb rfl (fun d4 d => lS (Wf xF (Wf Dg (VB d Mh rfl rfl gZ (V (mS bR rfl Y) (Wi rfl (Wm (LJ j (fun a4 E W => ∃ A, ST false mR w W (hp w) ((a2, Ol a0 60) :: (y ++ A)) ∧ E 3 = u ∧ E 5 = (.pointer (some ⟨a2, 0, none⟩)) ∧ E 7 = (.slice A1 z.lJ.length c2) ∧ E 8 = (.int .i64 (z.lJ.length : Int)) ∧ E 9 = (.int .i64 (a3 : Int)) ∧ E 23 = (.bool a4)) 5 ?_ (fun a4 t N => ?_))))))))))
  ·rintro e5 E W ⟨A, d, c1, c3, c5, c6, c7, c8⟩ k
   refine ln (CI k c8 (fun F k => ?_) (fun F k => ?_))
   ·refine sg (Wa (ln ?_))
    replace d := d.ll (Db (Dr St))
    refine mi (mo (nE (mo (nE (mo ?_)))))
    obtain rfl := sj k
    exact rP d
   refine kn (lG (Wh c1 (V (lA xF c3) (Wf tF (VA d Mh (li a.Signed.lf) bP aH (VE (mh (cs := (li a.Signed.lf).toArray) d (om rfl) (oH aG aH cM) (fun d5 b9 d => ?_))))))))
   replace d := d.perm (Nr (Qb (Qb Qz)) Nz)
   refine bS k fun c9 L k => VE (pq (enc := li) (v := u) (vs := (.slice (some ⟨b9, 0, none⟩) 1 1)) (R := y) d mN dc oQ aG nZ.1 nZ.2.1 rfl nZ.2.2.1 nZ.2.2.2 rfl rfl K (Sl.lit (enc := li) (l := [a.Signed.lf]) mN rfl nb rfl (d.at_ (Ma Mh))) L (fun d6 d0 b7 d a5 => Wa (me (ms (lD ?_)))))
   replace d := d.ll (Kr (Db (Db St)))
   exact ⟨c7, d0, c9, b7, _, ⟨rfl, c6⟩, (d.ll St), rfl, c5, a5, (by rw [b4]; exact k)⟩
  refine bC t (fun c t => ?_) (fun c t => ?_)
  ·refine un c (un c (un c (un c (V (lX (cB c) rfl) ?_))))
   obtain rfl := sj t
   exact N _ _ ⟨_, (d.ll St), I, rfl, J, s, n, rfl⟩
  refine ug c (lA J0 rfl) (ug c (lq rfl (lB d.has Mh (C1 a.ly.Op a.ly.K a.ly.lg.lh a.ly.lg.lp D a.ly.Kids.length G) rfl bB aC)) (bS t fun e1 P t => vC c (Eg d call72 (tN a.ly (.slice D a.ly.Kids.length G) _ _ (Z.mono lI.mono d.lx) P) (fun d7 d => ug c (ot rfl) (V (lW (cB c) rfl) ?_)))))
  obtain rfl := sj t
  exact N _ _ ⟨_, (d.ll St), I, rfl, J, s, n, rfl⟩
 rintro E W ⟨u, H, y, T, ⟨n, s⟩, d, I, J, K, j⟩
 rw [aP] at j
 refine lD (sg (Wh I (bS j fun e2 b1 j => VE (Eg d call201 (Dx u H _ _ (K.sl mN (fun b o hq => d.at_ (Ml hq))) b1) (fun d8 d => Wa (ln ?_))))))
 exact mi (rQ j d)
theorem KB (x : Value) (T : List nQ) (r : Bool) (w : World) (o : Sl mW 8 (hp w) x T) (hm : BD T = some r) :
  lV false pg0 142 [x] w (.bool r) := by
 refine cG 45 func142 rfl (fun d => sg (Wa (lS (Wm (V (mS cZ rfl o) (Wm (ln (mQ (fun i E W => ∃ a2, (E 7 = .int .i64 (i : Nat) ∧ E 6 = .int .i64 (T.length : Nat)) ∧ ST false mR w W (hp w) a2 ∧ E 0 = x ∧ E 5 = x ∧ tZ T (T.drop i) i = some r) T.length o.len ⟨_, ⟨rfl, rfl⟩, (d.ll St), rfl, rfl, hm⟩ dc dc dc (fun _ _ _ h => by obtain ⟨_, v, _⟩ := h; exact v) ?_ ?_))))))))
 ·rintro G E W c9 ⟨a2, ⟨n, A⟩, d, a3, N, t⟩
  obtain ⟨a, g0, e1, e0, e2⟩ := mA c9
  rw [e1] at t
  refine bg (Wh n (VQ (nM (i := (G : Int)) (x0 := a) mW.out cZ eK N n o (aJ _) e0) (fun g9 ⟨_, ⟨h6, h7, rfl, L, O⟩, d3⟩ => V (lq rfl (ma d.has d3 lc eK)) (VE (ml d jj (fun g1 M d => Wa ?_))))))
  let g5 : Value := (.int .i64 (T.length : Int))
  let b8 : Value := (.int .i64 (G : Int))
  obtain ⟨B, D, rfl⟩ := L.form
  obtain ⟨H, I, rfl⟩ := O.form
  let a0 := (C5 a.lg.lh a.lg.lp a.ly.Op a.ly.K a.ly.lg.lh a.ly.lg.lp B a.ly.Kids.length D H a.ns.length I)
  refine VO (lL (.agg a0.toArray) (a0.toArray) d rfl rfl eK oc nb rfl (fun g2 d => ln (lH ?_)))
  replace d := d.drew
  have b := d.has.ll (Kb Sn)
  refine mw b lY (X 0 rfl b (lA Ez rfl) (XH 1 rfl b (fun _ l => lq rfl (lB l Mh (lu a.lg) rfl bO aN)) (bS t fun h2 d6 t => XE 2 rfl (Eg d km (lV.ng (sx a.lg _ _  d6)) (fun g3 d => ?_)))))
  have b := d.has.ll (Kb Sn)
  refine ⟨b, (X 3 rfl b (ot rfl) (X 4 rfl b (lz rfl) (PJ t (fun c7 E W => ∃ R, ST false mR w W (hp w) ((M, Ol a0 87) :: R) ∧ E 0 = x ∧ E 3 = b8 ∧ E 4 = (.pointer (some ⟨M, 0, none⟩)) ∧ E 5 = x ∧ E 6 = g5 ∧ E 7 = b8 ∧ E 21 = (.bool c7)) (bm 32 1023) 22 ?_ (fun c7 z F => ?_))))⟩
  ·rintro i0 E W ⟨R, d, b7, b9, a4, c0, c1, c2, e3⟩ d0
   have b := d.has.ll (Kb Sn)
   refine X 10 rfl b (lz e3) (PJ d0 (fun c6 E W => ∃ b4, ST false mR w W (hp w) ((M, Ol a0 87) :: b4) ∧ E 0 = x ∧ E 3 = b8 ∧ E 4 = (.pointer (some ⟨M, 0, none⟩)) ∧ E 5 = x ∧ E 6 = g5 ∧ E 7 = b8 ∧ E 27 = (.bool c6)) (bm 32 65535) 16 ?_ (fun c6 y Z => ?_))
   ·rintro f7 E W ⟨b4, d, Q, c3, e4, a5, q, s, e5⟩ d1
    have b := d.has.ll (Kb Sn)
    refine X 16 rfl b (lz e5) (PJ d1 (fun c4 E W => ∃ b5, ST false mR w W (hp w) ((M, Ol a0 87) :: b5) ∧ E 0 = x ∧ E 5 = x ∧ E 6 = g5 ∧ E 7 = b8 ∧ E 43 = (.bool c4)) (bm 32 4294967295) 0 ?_ (fun c4 K U => ?_))
    ·rintro i1 E W ⟨b5, d, e6, e7, e8, e9, f0⟩ J
     refine mM kr (lD ?_)
     replace d := d.ll (Db St)
     refine CI J f0 (fun c8 J => ?_) (fun c8 J => ?_)
     ·refine sg (Wa (lt (nE (mo (nE (mo ?_))))))
      obtain rfl := sj J
      exact rP d
     exact mX (ms (lD ⟨e9, _, ⟨rfl, e8⟩, (d.ll St), e6, e7, (by rw [e2]; exact J)⟩))
    refine bC K (fun g K => ?_) (fun g K => ?_)
    ·refine Xn 17 rfl rfl (cB g) b (Xn 18 rfl rfl (cB g) b (Xn 19 rfl rfl (cB g) b (Xu 20 rfl rfl rfl b (Xu 21 rfl rfl rfl b (Xu 22 rfl rfl rfl b (Xu 23 rfl rfl rfl b (Xu 24 rfl rfl rfl b (Xu 25 rfl rfl rfl b (Xu 26 rfl rfl rfl b (Xu 27 rfl rfl rfl b (Xu 28 rfl rfl rfl b (Xu 29 rfl rfl rfl b (Xn 30 rfl rfl (cB g) b (X 31 rfl b (lX (cB g) rfl) ?_))))))))))))))
     obtain rfl := sj K
     refine nk kr (U _ _ ⟨_, (d.ll St), Q, a5, q, s, rfl⟩)
    refine Xg 17 rfl rfl (cB g) b (lz c3) (Xg 18 rfl rfl (cB g) b (mz rfl rfl rfl) (Xg 19 rfl rfl (cB g) b (lz rfl) (PJ K (fun c5 E W => ∃ b6, ST false mR w W (hp w) ((M, Ol a0 87) :: b6) ∧ E 0 = x ∧ E 5 = x ∧ E 6 = g5 ∧ E 7 = b8 ∧ E 28 = (.bool f7) ∧ E 42 = (.bool c5)) (bm 32 2147483647) 1 ?_ (fun c5 u Y => ?_))))
    ·rintro i2 E W ⟨b6, d, f1, f2, f3, f4, f5, f6⟩ d2
     have b := d.has.ll (Kb Sn)
     refine X 31 rfl b (lW (f5.trans (cB g)) f6) ?_
     obtain rfl := sj d2
     refine nk kr (U _ _ ⟨_, (d.ll St), f1, f2, f3, f4, rfl⟩)
    refine bC u (fun c u => ?_) (fun c u => ?_)
    ·refine Xg 20 rfl rfl (cB c) b (lz Q) (Xg 21 rfl rfl (cB c) b (lz c3) (Xg 22 rfl rfl (cB c) b (mz rfl rfl rfl) (bS u fun a9 P u => uI 23 rfl kr (.inr ⟨19, true, 31, rfl, rfl, by decide, (cB c)⟩) rfl dc (fun _ _ h => h) b (nM (i := (wi0 .i64 ((G : Int) - 1))) (x0 := a9) mW.out cZ eK rfl rfl o (mc P) (lU P)) (fun h0 ⟨_, ⟨h8, h9, rfl, f8, f9⟩, d4⟩ => uI 24 rfl kr (.inr ⟨19, true, 31, rfl, rfl, by decide, (cB c)⟩) rfl dc (fun _ _ h => h) b (wq (lu a9.lg) Ez rfl d4 rfl) (fun h1 d5 => rE 25 rfl rfl (cB c) b (fun _ l => lq rfl (ma l d5 bO aN)) (Xg 26 rfl rfl (cB c) b (lA Ez e4) (rE 27 rfl rfl (cB c) b (fun _ l => lq rfl (lB l Mh (lu a.lg) rfl bO aN)) (bS u fun h3 d7 u => wo 28 rfl rfl (cB c) (Eg d call155 (lV.ng (Ad a9.lg a.lg _ _  d7)) (fun g4 d => ?_))))))))))
     have b := d.has.ll (Kb Sn)
     refine ⟨b, (Xg 29 rfl rfl (cB c) b (mz rfl rfl rfl) (Xg 30 rfl rfl (cB g) b (lX (cB c) rfl) ?_))⟩
     obtain rfl := sj u
     refine nk kr (Y _ _ ⟨_, (d.ll St), Q, a5, q, s, rfl, rfl⟩)
    refine Xn 20 rfl rfl (cB c) b (Xn 21 rfl rfl (cB c) b (Xn 22 rfl rfl (cB c) b (Xn 23 rfl rfl (cB c) b (Xn 24 rfl rfl (cB c) b (Xn 25 rfl rfl (cB c) b (Xn 26 rfl rfl (cB c) b (Xn 27 rfl rfl (cB c) b (Xn 28 rfl rfl (cB c) b (Xn 29 rfl rfl (cB c) b (Xg 30 rfl rfl (cB g) b (lW (cB c) rfl) ?_))))))))))
    obtain rfl := sj u
    refine nk kr (Y _ _ ⟨_, (d.ll St), Q, a5, q, s, rfl, rfl⟩)
   refine bC y (fun k y => ?_) (fun k y => ?_)
   ·refine Xn 11 rfl rfl (cB k) b (Xn 12 rfl rfl (cB k) b (Xn 13 rfl rfl (cB k) b (Xn 14 rfl rfl (cB k) b (X 15 rfl b (lX (cB k) rfl) ?_))))
    obtain rfl := sj y
    refine nk kr (Z _ _ ⟨_, (d.ll St), b7, b9, a4, c0, c1, c2, rfl⟩)
   refine Xg 11 rfl rfl (cB k) b (lA HE a4) (rE 12 rfl rfl (cB k) b (fun _ l => lq rfl (lK l Mh rfl eZ)) (bS y fun h4 d8 y => wo 13 rfl rfl (cB k) (Eg d call201 (Dx (.slice H a.ns.length I) a.ns _ _ (O.mono (Pl.mono _) d.lx) d8) (fun g7 d => ?_))))
   have b := d.has.ll (Kb Sn)
   refine ⟨b, (Xg 14 rfl rfl (cB k) b (ot rfl) (X 15 rfl b (lW (cB k) rfl) ?_))⟩
   obtain rfl := sj y
   refine nk kr (Z _ _ ⟨_, (d.ll St), b7, b9, a4, c0, c1, c2, rfl⟩)
  refine bC z (fun j z => ?_) (fun j z => ?_)
  ·refine Xn 5 rfl rfl (cB j) b (Xn 6 rfl rfl (cB j) b (Xn 7 rfl rfl (cB j) b (Xn 8 rfl rfl (cB j) b (X 9 rfl b (lX (cB j) rfl) ?_))))
   obtain rfl := sj z
   refine nk kr (F _ _ ⟨_, (d.ll St), a3, rfl, rfl, N, A, n, rfl⟩)
  refine Xg 5 rfl rfl (cB j) b (lA Ku rfl) (rE 6 rfl rfl (cB j) b (fun _ l => lq rfl (lB l Mh (C1 a.ly.Op a.ly.K a.ly.lg.lh a.ly.lg.lp B a.ly.Kids.length D) rfl bB aC)) (bS z fun h5 d9 z => wo 7 rfl rfl (cB j) (Eg d call72 (tN a.ly (.slice B a.ly.Kids.length D) _ _ (L.mono lI.mono d.lx) d9) (fun g8 d => ?_))))
  have b := d.has.ll (Kb Sn)
  refine ⟨b, (Xg 8 rfl rfl (cB j) b (ot rfl) (X 9 rfl b (lW (cB j) rfl) ?_))⟩
  obtain rfl := sj z
  refine nk kr (F _ _ ⟨_, (d.ll St), a3, rfl, rfl, N, A, n, rfl⟩)
 rintro E W ⟨a2, ⟨n, A⟩, d, a3, N, t⟩
 rw [aP] at t
 exact lD (sg (Wa (lt (rQ t d))))
theorem wQ (g : Value) (t : List mg) (j : Value) (z : mg → Option Bool) (r : Int) (w : World) (c : Sl mn 15 (hp w) g t) (B : xE pg0 j (hp w) (Au mn) (fun (r : Bool) => (.bool r)) z) (hm : pW t z = some r) :
  lV false pg0 127 [g, j] w (.int .i64 r) := by
 refine cG 19 func127 rfl (fun b => sg (Wa (lS (Wm (V (mS dV rfl c) (Wm (ln (mQ (fun i E W => ∃ k, (E 8 = .int .i64 (i : Nat) ∧ E 7 = .int .i64 (t.length : Nat)) ∧ ST false mR w W (hp w) k ∧ E 0 = g ∧ E 1 = j ∧ oE z (t.drop i) i = some r) t.length c.len ⟨_, ⟨rfl, rfl⟩, (b.ll St), rfl, rfl, hm⟩ dc dc dc (fun _ _ _ h => by obtain ⟨_, l, _⟩ := h; exact l) ?_ ?_))))))))
 ·rintro T E W G ⟨k, ⟨d, n⟩, b, u, x, a⟩
  obtain ⟨y, Z, N, M, Q⟩ := mA G
  rw [N] at a
  refine bg (Wh d (Wa (lr (Wh x (Wh u (Wm (VQ (nM (i := (T : Int)) (x0 := y) mn.out dV dW rfl rfl c (aJ _) M) (fun a2 ⟨_, ⟨U, Y, rfl, J, K⟩, H⟩ => V (lq rfl (ma b.has H kp dW)) (bS a fun a3 I a => ?_)))))))))
  refine VE (zz y b B (lP.refl _) (Au.mk mI (mn.mk ⟨U, Y, rfl, J, K⟩) b.lx) rfl (uT rfl) I (fun o b => ln (CI a rfl (fun D a => ?_) (fun D a => ?_))))
  ·refine sg (Wm (Wa (lt (nE (mo (nE (mo ?_)))))))
   obtain rfl := sj a
   exact rP b
  exact mX (ms (lD ⟨d, _, ⟨rfl, n⟩, (b.ll St), u, x, (by rw [Q]; exact a)⟩))
 rintro E W ⟨k, ⟨d, n⟩, b, u, x, a⟩
 rw [aP] at a
 exact lD (sg (Wa (lt (rQ a b))))
theorem zV (a : Value) (g : List mg) (c : Value) (i : mg → Option Bool) (r : Bool) (w : World) (j : Sl mn 15 (hp w) a g) (k : xE pg0 c (hp w) (Au mn) (fun (r : Bool) => (.bool r)) i) (hm : qu g i = some r) :
  lV false pg0 202 [a, c] w (.bool r) := by
 refine cG 9 func202 rfl (fun b => sg (Wa (lr (Wm (Wm (bS hm fun x t hm => VE (Eg b call127 (wQ a g c i _ _ (j.mono mI.mono b.lx) (k.mono b.lx) t) (fun u b => Wi rfl (Wa (me ?_))))))))))
 exact lD (mi (rQ hm b))
theorem GZ (a : mg) (g c : Value) (k : Nat) (u : lf) (r : Bool) (w : World) (j : Sl (Pl (mj .u8)) 1 (hp w) g a.Signed.Tag) (i : Sl lj 5 (hp w) c a.ly.Kids) (t : At (hp w) (.pointer (some ⟨k, 0, none⟩)) (li u)) (hm : xq a u = some r) :
  lV true pg0 128 [(.agg #[(.int .i64 a.Signed.lf.Kind), (.string a.Signed.lf.Head.lh), (.string a.Signed.lf.Head.lp), (.string a.Signed.lf.lM), (.string a.Signed.lf.B.lh), (.string a.Signed.lf.B.lp), (.string a.Signed.lf.C.lh), (.string a.Signed.lf.C.lp), (.string a.Signed.lf.lN), g, (.int .i64 a.ly.Op), (.int .i64 a.ly.K), (.string a.ly.lg.lh), (.string a.ly.lg.lp), c]), (.pointer (some ⟨k, 0, none⟩))] w (.bool r) := by
 refine cG 9 func128 rfl (fun b => sg ?_)
 obtain ⟨x, z, rfl⟩ := j.form
 obtain ⟨y, B, rfl⟩ := i.form
 refine VE (mG b rfl (fun D G b => Wa (lr (Wf xF (Wf tF (VA b Mh (li a.Signed.lf) bP aH (V (lq rfl (ma b.has t bP aH)) (V (AD rfl rfl (qV gC) (xe (xN _ a.Signed.lf u))) (Wa (ln ?_))))))))))
 exact mi (rQ hm b)
theorem Kp (k : lm) (g j : Value) (D : lf) (r : (mg × Bool)) (w : World) {J : lZ} (l : oT J [] w) (c : Sl mn 15 J g k.lJ) (B : Sl mW 8 J j k.mf) (hm : zu k D = some r) :
  nm false pg0 69 [(.agg #[(.string k.Name), g, j]), (.agg (li D).toArray)] w J [] (fun v L1 μ1 => ∃ d h, v = (.tuple #[(.agg #[(.int .i64 ((((r.1).Signed).lf).Kind)), (.string (((((r.1).Signed).lf).Head).lh)), (.string (((((r.1).Signed).lf).Head).lp)), (.string ((((r.1).Signed).lf).lM)), (.string (((((r.1).Signed).lf).B).lh)), (.string (((((r.1).Signed).lf).B).lp)), (.string (((((r.1).Signed).lf).C).lh)), (.string (((((r.1).Signed).lf).C).lp)), (.string ((((r.1).Signed).lf).lN)), d, (.int .i64 (((r.1).ly).Op)), (.int .i64 (((r.1).ly).K)), (.string ((((r.1).ly).lg).lh)), (.string ((((r.1).ly).lg).lp)), h]), (.bool (r.2))]) ∧ L1 = [] ∧ Sl (Pl (mj .u8)) 1 μ1 d (((r.1).Signed).Tag) ∧ Sl lj 5 μ1 h (((r.1).ly).Kids)) := by
 refine uW l 19 func69 rfl (fun b => sg ?_)
 obtain ⟨T, U, rfl⟩ := c.form
 obtain ⟨A3, c4, rfl⟩ := B.form
 refine VE (mG b rfl (fun W6 O b => VE (mG b rfl (fun W8 K b => VE (ml b gx (fun F R b => Wa (lr (Wf zo (VB b (Mt (Mt Mh)) rfl rfl ko (V (tw (by exact uT rfl) rfl) (bS hm fun Z Q hm => VE (Eg b call127 (wQ (.slice T k.lJ.length U) k.lJ (.func (.func 128) #[] #[(.pointer (some ⟨K, 0, none⟩))]) (fun (x : mg) => xq x D) _ _ (c.mono mI.mono b.lx) ⟨128, #[], #[(.pointer (some ⟨K, 0, none⟩))], rfl, call128, fun W x vs r o n hm => by obtain ⟨_, rfl, Y⟩ := n; obtain ⟨A, E, rfl, q, s⟩ := Y.out; exact (GZ x A E K D r W q s (At.of (o _ _ (b.at_ (Mt Mh))) _ rfl) hm).ng⟩ Q) (fun L b => Wa (me ?_))))))))))))))
 refine lD ?_
 replace b := b.ll (Kb (Db St))
 refine lH (sg (Wm (Wi rfl (ln (CI hm rfl (fun M hm => ?_) (fun M hm => ?_))))))
 ·refine sg (V (nT (v := (.agg C9.toArray)) sC (nq gx ir (RH _ ir) kr)) (VO (lL (.agg C9.toArray) (C9.toArray) b rfl rfl dW oc nb rfl (fun P b => Wa (ln ?_)))))
  replace b := b.ll (Kb (Db St))
  refine mi (mo ?_)
  obtain rfl := sj hm
  exact sF (v0 := (.agg C9.toArray)) (v1 := (.bool false)) rfl rfl (lB b.has Mh C9 rfl kp dW) rfl ⟨_, _, _, rfl, (b.nF Sn), (lP.refl _), Lo.refl, (ST.mE b (nS.mem Sn)), (.slice none 0 0), (.slice none 0 0), rfl, rfl, (Sl.nil _ _ _), (Sl.nil _ _ _)⟩
 refine kg (Wf zo (VB b (Mt Mh) rfl rfl ko (Wm (bS hm fun a I hm => VQ (nM (i := Z) (x0 := a) mn.out dV dW rfl rfl c (mc I) (lU I)) (fun c1 ⟨_, ⟨c3, c5, rfl, G, H⟩, N⟩ => V (lq rfl (ma b.has N kp dW)) ?_)))))
 obtain ⟨t, y, rfl⟩ := G.form
 obtain ⟨u, z, rfl⟩ := H.form
 let a0 := (C3 a.Signed.lf.Kind a.Signed.lf.Head.lh a.Signed.lf.Head.lp a.Signed.lf.lM a.Signed.lf.B.lh a.Signed.lf.B.lp a.Signed.lf.C.lh a.Signed.lf.C.lp a.Signed.lf.lN t a.Signed.Tag.length y a.ly.Op a.ly.K a.ly.lg.lh a.ly.lg.lp u a.ly.Kids.length z)
 refine VO (lL (.agg a0.toArray) (a0.toArray) b rfl rfl dW oc nb rfl (fun c0 b => Wa (ln ?_)))
 replace b := b.ll (Kb (Db St))
 refine mi ?_
 obtain rfl := sj hm
 exact sF (v0 := (.agg a0.toArray)) (v1 := (.bool true)) rfl rfl (lB b.has Mh a0 rfl kp dW) rfl ⟨_, _, _, rfl, (b.nF Sn), (lP.refl _), Lo.refl, (ST.mE b (nS.mem Sn)), (.slice t a.Signed.Tag.length y), (.slice u a.ly.Kids.length z), rfl, rfl, G, H⟩
theorem ET (c : Value) (u r : List nQ) (w : World) {j : lZ} (I : oT j [] w) (a : Sl mW 8 j c u) (hm : vn u = some r) :
  nm true pg0 130 [c] w j [] (fun v G J => ∃ z t, v = z ∧ G = (t ++ []) ∧ mO 87 mW 8 J z r t) := by
 unfold vn at hm
 refine uW I 8 func130 rfl (fun b => sg (Wa (lS (Wm ?_))))
 obtain ⟨D, Q, rfl⟩ := a.form
 refine V (zd cZ rfl rfl) (ln ?_)
 rcases D with _ | M
 ·have y := a.isNil
  replace hm : some [] = some r := by rw [y] at hm; simpa [ol, maxLen] using hm
  refine wv (rfl) (sg (Wa (lt (mo ?_))))
  obtain rfl := sj hm
  refine na (v := (.slice none 0 0)) rfl rfl ?_
  replace b := b.RM
  exact ⟨_, _, _, rfl, (b.nF (Kr Sn)), (lP.refl _), Lo.refl, (ST.mE b (nS.mem (Kr Sn))), (.slice none 0 0), [], rfl, rfl, (mO.nil _ _ _ _)⟩
 ·refine re (rfl) (kg (VE (mh (cs := #[]) b sC (tY [] cZ eK jj dc rfl (by simp) rfl rfl) (fun N H b => Wm (bS hm fun T x hm => VE (wm (B := [(H, Ob #[] 87)]) nY b dc cZ He.1 He.2.1 rfl He.2.2.1 He.2.2.2 rfl rfl (mO.lit nY (l := []) .nil rfl nb rfl) (Dn.sl nY a b.lx) x (fun K g k b i => Wa (lt ?_))))))))
  obtain rfl := sj hm
  exact na (v := g) rfl rfl ⟨_, _, _, rfl, (b.nF (Kr Sn)), (lP.refl _), Lo.refl, (ST.mE b (nS.mem (Kr Sn))), g, k, rfl, rfl, i⟩
theorem Ca (k : Value) (a0 : List nQ) (y : LO) (J : Value) (f1 : nQ → Option Bool) (r : List nQ) (w : World) {Y : lZ} (h0 : oT Y (y ++ []) w) (n : mO 87 mW 8 Y k a0 y) (a9 : xE pg0 J Y (Au mW) (fun (r : Bool) => (.bool r)) f1) (hm : sL a0 f1 = some r) :
  nm false pg0 129 [k, J] w Y (y ++ []) (fun v L1 μ1 => ∃ R, v = R ∧ L1 = [] ∧ Sl mW 8 μ1 R (r)) := by
 refine uW h0 42 func129 rfl (fun d => sg (Wa (lr (Wm (Wm (bS hm fun P d7 hm => VE (Eg d call190 (yt k a0 J f1 _ _ (n.sl nY d.lx (fun b o s => d.at_ (Ml s))) (a9.mono d.lx) d7) (fun W3 d => Wa (ln ?_)))))))))
 refine lH (sg (Wm (Wi rfl (ln (CI hm rfl (fun d6 hm => ?_) (fun d6 hm => ?_))))))
 ·refine sg (Wm (Wa (lt (mo ?_))))
  obtain rfl := sj hm
  refine na (v := k) rfl rfl ?_
  obtain ⟨aa, d, d2, q, d8⟩ := ST.xi nY d n
  exact ⟨_, _, _, rfl, (d.nF Sn), d2, q, (ST.mE d (nS.mem Sn)), k, rfl, rfl, d8⟩
 refine kS (Wm (Wi rfl (Wa (ln (nz (ph (fun m E W => ∃ a2 K G H F, ST false (keys (y ++ [])) w W Y (K ++ F) ∧ E 0 = k ∧ E 1 = J ∧ E 5 = (.int .i64 G) ∧ E 6 = (.int .i64 H) ∧ mO 87 mW 8 Y k a2 K ∧ oW f1 m a2 G H = some r) mq ⟨a0, y, P, (wi0 .i64 (P + 1)), _, (d.ll St), rfl, rfl, rfl, rfl, n, hm⟩ ?_))))))
 rintro m E W ⟨a2, K, G, H, F, d, t, Z, I, N, j, c⟩
 cases m with
 | zero => rw [oW] at c; cases c
 | succ d4 =>
  refine lH (sg (Wh N (Wh t (V (zk cZ rfl j) (Wi rfl (ln (CI c rfl (fun b6 c => ?_) (fun b6 c => ?_))))))))
  ·refine kn (lH (CJ c (fun a3 E W => ∃ M L, ST false (keys (y ++ [])) w W Y (M ++ L) ∧ E 0 = k ∧ E 1 = J ∧ E 5 = (.int .i64 a3.2) ∧ E 6 = (.int .i64 H) ∧ mO 87 mW 8 Y k a3.1 M) (fun a3 g => ?_) ?_))
   ·refine bg (Wh t (Wh N (bS g fun a A g => VQ (nn (i := H) mW.out cZ eK rfl rfl j (mc A) (lU A)) (fun f5 ⟨_, ⟨f8, f9, rfl, Q, T⟩, c1, e1⟩ => V (lq rfl (ma (pj.hp _) (c1.mono (nG (fun b o s => d.has.2 b o (Ml s)))) lc eK)) (VE (ml d jj (fun e7 f3 d => ?_)))))))
    obtain ⟨u, B, rfl⟩ := Q.form
    obtain ⟨x, D, rfl⟩ := T.form
    let l := (C5 a.lg.lh a.lg.lp a.ly.Op a.ly.K a.ly.lg.lh a.ly.lg.lp u a.ly.Kids.length B x a.ns.length D)
    refine VO (lL (.agg l.toArray) (l.toArray) d rfl rfl eK oc nb rfl (fun e8 d => lr (Wh Z (VA d Mh l lc eK (bS g fun f7 c2 g => VE (zz a d a9 (lP.refl _) (Au.mk nY (mW.mk ⟨(.slice u a.ly.Kids.length B), (.slice x a.ns.length D), rfl, Q, T⟩) d.lx) rfl (uT rfl) c2 (fun e9 d => V (ot rfl) (ln (CI g rfl (fun b7 g => ?_) (fun b7 g => ?_))))))))))
    ·refine sg (Wh t (Wh I (VA d Mh l lc eK (bS g fun g3 U g => VQ (nn (i := G) mW.out cZ eK rfl rfl j (mc U) (lU U)) (fun f6 ⟨_, ⟨g0, g1, rfl, e3, e4⟩, e2, b9⟩ => ?_)))))
     replace d := d.perm (Nr (Qb Qz) Nz)
     refine VO (sb (x1 := a) nY d j rfl rfl (mW.mk ⟨(.slice u a.ly.Kids.length B), (.slice x a.ns.length D), rfl, Q, T⟩) b9 (lU U) eK (fun f0 c7 d b4 => ln ?_))
     replace d := d.ll (Kr (Db St))
     refine lG (Wh I (Wi rfl (Wa (me (ms (lD ?_))))))
     obtain rfl := sj g
     exact ⟨c7, _, (d.ll St), t, Z, rfl, N, b4⟩
    refine mX (ms (lD ?_))
    obtain rfl := sj g
    exact ⟨K, _, (d.ll (Db St)), t, Z, I, N, j⟩
   rintro ⟨d3, d5⟩ E W ⟨M, L, d, c8, c9, d0, d1, c3⟩ c0
   exact lG (Wh d1 (Wi rfl (Wa (ln ⟨d4, bL _, d3, M, d5, (wi0 .i64 (H + 1)), _, (d.ll St), c8, c9, d0, rfl, c3, c0⟩))))
  refine oI (ow (ow (sU (lD (sg (Wh t (Wh I (bS c fun _ a4 c => VQ (BL (i := G) cZ eK rfl rfl j (uw a4) (um a4)) (fun g2 c4 => VO (Em (z := (⟨K0, (⟨0, 0, K0, []⟩ : Formula), []⟩ : nQ)) (zs := [(.string zS), (.string zS), (.int .i64 0), (.int .i64 0), (.string zS), (.string zS), (.slice none 0 0), (.slice none 0 0)]) nY d j (mW.mk ⟨(.slice none 0 0), (.slice none 0 0), rfl, (Sl.nil _ _ _), (Sl.nil _ _ _)⟩) cZ jj c4 rfl rfl (fun f2 e6 d b5 => lr (Wh t ?_))))))))))))
  refine Wh I (bS c fun _ a5 c => VQ (G6 (i := G) cZ eK rfl rfl b5 (uw a5) (um a5)) (fun O c5 => Wa (lt ?_)))
  obtain rfl := sj c
  refine na (v := O) rfl rfl ?_
  obtain ⟨g7, d, b0, h, c6⟩ := ST.xi nY d c5
  exact ⟨_, _, _, rfl, (d.nF Sn), b0, h, (ST.mE d (nS.mem Sn)), O, rfl, rfl, c6⟩
theorem Ef (j : Value) (t : List lf) (c : lf) (r : Int) (w : World) (g : Sl (Pl li) 9 (hp w) j t) (hm : xl t c = some r) :
  lV true pg0 186 [j, (.agg (li c).toArray)] w (.int .i64 r) := by
 refine cG 19 func186 rfl (fun b => sg (VE (mG b rfl (fun Q J b => Wa (lS (Wm (V (mS aG rfl g) (Wm (ln ?_)))))))))
 refine mQ (fun i E W => ∃ k, (E 8 = .int .i64 (i : Nat) ∧ E 7 = .int .i64 (t.length : Nat)) ∧ ST true mR w W (hp w) ((J, Ol (li c) 52) :: k) ∧ E 0 = j ∧ E 3 = (.pointer (some ⟨J, 0, none⟩)) ∧ rf c (t.drop i) i = some r) t.length g.len ⟨_, ⟨rfl, rfl⟩, (b.ll St), rfl, rfl, hm⟩ dc dc dc (fun _ _ _ h => by obtain ⟨_, n, _⟩ := h; exact n) ?_ ?_
 ·rintro K E W B ⟨k, ⟨l, q⟩, b, u, x, a⟩
  obtain ⟨y, M, H, G, I⟩ := mA B
  rw [H] at a
  refine bg (Wh l (Wa (ln (lH ?_))))
  replace b := b.drew
  have d := b.has.ll (Kb Sn)
  refine mw d lY (XH 0 rfl d (fun _ o => lq x (lB o Mh (li c) rfl bP aH)) (X 1 rfl d (lz u) (X 2 rfl d (lz rfl) (XQ 3 rfl d (qb (enc := li) (i := (K : Int)) (x0 := y) aG aH rfl rfl g (aJ _) G) (fun N D => XH 4 rfl d (fun _ o => lq rfl (ma o D bP aH)) (X 5 rfl d (AD rfl rfl (qV gC) (xe (xN _ c y))) (mM kr (lD (CI a rfl (fun z a => ?_) (fun z a => ?_))))))))))
  ·refine sg (Wm (Wa (ln ?_)))
   replace b := b.ll (Db St)
   refine mi (nE (mo (nE (mo ?_))))
   obtain rfl := sj a
   exact rP b
  exact mX (ms (lD ⟨l, _, ⟨rfl, q⟩, (b.ll St), u, x, (by rw [I]; exact a)⟩))
 rintro E W ⟨k, ⟨l, q⟩, b, u, x, a⟩
 rw [aP] at a
 refine lD ?_
 replace b := b.ll (Db St)
 exact sg (Wa (lt (rQ a b)))
theorem Cx (a : Value) (g : List lf) (c : lf) (r : Bool) (w : World) (i : Sl (Pl li) 9 (hp w) a g) (hm : tC g c = some r) :
  lV true pg0 124 [a, (.agg (li c).toArray)] w (.bool r) := by
 refine cG 9 func124 rfl (fun b => sg (VE (mG b rfl (fun k u b => Wa (lr (Wm (VA b Mh (li c) bP aH (bS hm fun x j hm => VE (Eg b call186 (Ef a g c _ _ (i.mono (Pl.mono _) b.lx) j) (fun t b => Wi rfl (Wa ?_)))))))))))
 refine ln ?_
 exact mi (rQ hm b)
theorem Bn (a : Value) (g : List lf) (c : lf) (r : Bool) (w : World) (i : Sl (Pl li) 9 (hp w) a g) (hm : qM g c = some r) :
  lV true pg0 60 [a, (.agg (li c).toArray)] w (.bool r) := by
 refine cG 8 func60 rfl (fun b => sg (VE (mG b rfl (fun k u b => Wa (lr (Wm (VA b Mh (li c) bP aH (bS hm fun x j hm => VE (Eg b call124 (Cx a g c _ _ (i.mono (Pl.mono _) b.lx) j) (fun t b => Wa (me ?_)))))))))))
 refine lD ?_
 exact mi (rQ hm b)
theorem Gc (c : nQ) (a i : Value) (k : Nat) (u : lf) (r : Bool) (w : World) (j : Sl lj 5 (hp w) a c.ly.Kids) (g : Sl (Pl li) 9 (hp w) i c.ns) (t : At (hp w) (.pointer (some ⟨k, 0, none⟩)) (li u)) (hm : tk c u = some r) :
  lV true pg0 131 [(.agg #[(.string c.lg.lh), (.string c.lg.lp), (.int .i64 c.ly.Op), (.int .i64 c.ly.K), (.string c.ly.lg.lh), (.string c.ly.lg.lp), a, i]), (.pointer (some ⟨k, 0, none⟩))] w (.bool r) := by
 refine cG 9 func131 rfl (fun b => sg ?_)
 obtain ⟨B, D, rfl⟩ := j.form
 obtain ⟨x, y, rfl⟩ := g.form
 refine VE (mG b rfl (fun G I b => Wa (lr (Wf HE (VB b Mh rfl rfl eZ (V (lq rfl (ma b.has t bP aH)) (bS hm fun J z hm => VE (Eg b call60 (Bn (.slice x c.ns.length y) c.ns u _ _ (g.mono (Pl.mono _) b.lx) z) (fun H b => V (ot rfl) (Wa (ln ?_)))))))))))
 exact mi (rQ hm b)
theorem I3 (i : lm) (a g : Value) (y : lf) (r : List nQ) (w : World) {G : lZ} (s : oT G [] w) (j : Sl mn 15 G a i.lJ) (c : Sl mW 8 G g i.mf) (hm : yI i y = some r) :
  nm false pg0 70 [(.agg #[(.string i.Name), a, g]), (.agg (li y).toArray)] w G [] (fun v L1 μ1 => ∃ o, v = o ∧ L1 = [] ∧ Sl mW 8 μ1 o (r)) := by
 refine uW s 10 func70 rfl (fun b => sg ?_)
 obtain ⟨A1, c2, rfl⟩ := j.form
 obtain ⟨Y, q, rfl⟩ := c.form
 refine VE (mG b rfl (fun W6 b5 b => VE (mG b rfl (fun W8 z b => Wa (lr (Wf EP (VB b (Mt Mh) rfl rfl isAgg23 (bS hm fun J N hm => ?_))))))))
 refine VE (eD b (bH _) call130 (fun n => nm.ng (ET (.slice Y i.mf.length q) i.mf _ _ n (c.mono nY.mono (lP.refl _)) N)) ?_ (L0 := []))
 rintro _ c3 c6 P b B d ⟨a5, Z, k, rfl, T⟩
 obtain rfl := k.symm
 replace b := b.perm (Tr Tn)
 refine V (tw (by exact uT rfl) rfl) ?_
 replace b := b.perm (Nb (Pr Pz) Nz)
 obtain ⟨c7, b, u, h, M⟩ := ST.Es (R := [(z, Ol (li y) 52)]) b
 have K := At.of (M _ _ (.head _)) _ rfl
 refine bS hm fun c1 Q hm => ?_
 refine VE (eD b (Cr Qz Cn) call129 (fun n => (Ca a5 J Z (.func (.func 131) #[] #[(.pointer (some ⟨z, 0, none⟩))]) (fun (x : nQ) => tk x y) _ _ n (T.mono nY u) ⟨131, #[], #[(.pointer (some ⟨z, 0, none⟩))], rfl, call131, fun W x vs r E A hm => by obtain ⟨_, rfl, a3⟩ := A; obtain ⟨L, O, rfl, F, I⟩ := a3.out; exact (Gc x L O z y r W F I (K.mono ((lP.refl _).trans E)) hm).ng⟩ Q)) ?_)
 rintro _ c5 c8 b6 b D l ⟨H, t, rfl, U⟩
 obtain rfl := t.symm
 refine Wa (ln ?_)
 replace b := b.ll (Db St)
 refine mi ?_
 obtain rfl := sj hm
 exact na (v := H) rfl rfl ⟨_, _, _, rfl, (b.nF Sn), ((B.trans u).trans D), ((d.trans h).trans l), (ST.mE b (nS.mem Sn)), H, rfl, rfl, U⟩
theorem Aq (i : Formula) (g : Value) (x : Int) (r : Bool) (w : World) (c : Sl lj 5 (hp w) g i.Kids) (hm : uB i x = some r) :
  lV true pg0 285 [(.agg #[(.int .i64 i.Op), (.int .i64 i.K), (.string i.lg.lh), (.string i.lg.lp), g]), (.int .i64 x)] w (.bool r) := by
 refine cG 15 func285 rfl (fun b => sg ?_)
 obtain ⟨B, D, rfl⟩ := c.form
 refine VE (mG b rfl (fun G H b => Wa (lr (Wf vk (VB b Mh rfl rfl dD (Wm (Wi rfl (Wm (LJ hm (fun t E W => ∃ u, ST true mR w W (hp w) u ∧ E 4 = (.bool false) ∧ E 14 = (.bool t)) 5 ?_ (fun t j k => ?_))))))))))
 ·rintro J E W ⟨u, b, I, y⟩ z
  exact Wg y (lt (rQ z b))
 refine bC j (fun a j => ?_) (fun a j => ?_)
 ·refine ug a (lA uh rfl) (ug a (lq rfl (lK b.has Mh rfl gM)) (ug a (mS aF rfl c) (ug a (mz rfl rfl rfl) (V (lX (cB a) rfl) ?_))))
  obtain rfl := sj j
  exact k _ _ ⟨_, (b.ll (Db St)), rfl, rfl⟩
 refine un a (un a (un a (un a (V (lW (cB a) rfl) ?_))))
 obtain rfl := sj j
 exact k _ _ ⟨_, (b.ll (Db St)), rfl, rfl⟩
theorem GV (r : Formula) (w : World) {c : lZ} (i : oT c [] w) (hm : zH  = some r) :
  nm true pg0 286 [] w c [] (fun v g j => ∃ a, v = (.agg #[(.int .i64 ((r).Op)), (.int .i64 ((r).K)), (.string (((r).lg).lh)), (.string (((r).lg).lp)), a]) ∧ g = [] ∧ Sl lj 5 j a ((r).Kids)) := by
 refine uW i 2 func286 rfl (fun b => sg (VE (ml b bI (fun k u b => lr (V (nT (v := (.agg Ng.toArray)) (om rfl) (nq bI cK (BI _ cK) kr)) (VO (lL (.agg Ng.toArray) (Ng.toArray) b rfl rfl aC oc nb rfl (fun t b => lt ?_))))))))
 obtain rfl := sj hm
 exact rN (v := (.agg Ng.toArray)) rfl rfl (lB b.has Mh Ng rfl bB aC) ⟨_, _, _, rfl, (b.nF Sn), (lP.refl _), Lo.refl, (ST.mE b (nS.mem Sn)), (.slice none 0 0), rfl, rfl, (Sl.nil _ _ _)⟩
theorem HM (r : Formula) (w : World) {c : lZ} (i : oT c [] w) (hm : Ao  = some r) :
  nm true pg0 287 [] w c [] (fun v g j => ∃ a, v = (.agg #[(.int .i64 ((r).Op)), (.int .i64 ((r).K)), (.string (((r).lg).lh)), (.string (((r).lg).lp)), a]) ∧ g = [] ∧ Sl lj 5 j a ((r).Kids)) := by
 refine uW i 2 func287 rfl (fun b => sg (VE (ml b bI (fun k u b => lr (V (nT (v := (.agg NI.toArray)) (om rfl) (nq bI cK (BI _ cK) kr)) (VO (lL (.agg NI.toArray) (NI.toArray) b rfl rfl aC oc nb rfl (fun t b => lt ?_))))))))
 obtain rfl := sj hm
 exact rN (v := (.agg NI.toArray)) rfl rfl (lB b.has Mh NI rfl bB aC) ⟨_, _, _, rfl, (b.nF Sn), (lP.refl _), Lo.refl, (ST.mE b (nS.mem Sn)), (.slice none 0 0), rfl, rfl, (Sl.nil _ _ _)⟩
theorem I2 (T : Int) (J : Value) (M r : List Formula) (w : World) {Q : lZ} (h0 : oT Q [] w) (I : Sl lj 5 Q J M) (hm : Bd T M = some r) :
  nm true pg0 289 [(.int .i64 T), J] w Q [] (fun v L1 μ1 => ∃ s, v = s ∧ L1 = [] ∧ Sl lj 5 μ1 s (r)) := by
 refine uW h0 28 func289 rfl (fun b => sg (Wa (lr (Wa (lS (Wm ?_))))))
 refine V (mS aF rfl I) (Wm (ln (mQ (fun i E W => ∃ t G k H, (E 10 = .int .i64 (i : Nat) ∧ E 9 = .int .i64 (M.length : Nat)) ∧ ST true (keys []) w W Q (k ++ H) ∧ E 0 = (.int .i64 T) ∧ E 5 = t ∧ E 8 = J ∧ mO 58 lj 5 Q t G k ∧ rK T (M.drop i) G = some r) M.length I.len ⟨(.slice none 0 0), ([]), [], _, ⟨rfl, rfl⟩, (b.ll St), rfl, rfl, rfl, (mO.nil _ _ _ _), hm⟩ dc dc dc (fun _ _ _ h => by obtain ⟨_, _, _, _, o, _⟩ := h; exact o) ?_ ?_)))
 ·rintro b5 E W a4 ⟨t, G, k, H, ⟨n, q⟩, b, x, y, z, u, c⟩
  obtain ⟨a, b7, L, F, K⟩ := mA a4
  rw [L] at c
  refine bg (VQ (nM (i := (b5 : Int)) (x0 := a) lj.out aF aC z n I (aJ _) F) (fun c8 ⟨_, ⟨c9, rfl, D⟩, a5⟩ => V (lq rfl (ma b.has a5 bB aC)) (VE (ml b bI (fun c0 c5 b => ?_)))))
  obtain ⟨g, j, rfl⟩ := D.form
  let a0 := (C1 a.Op a.K a.lg.lh a.lg.lp g a.Kids.length j)
  refine VO (lL (.agg a0.toArray) (a0.toArray) b rfl rfl aC oc nb rfl (fun c1 b => lr (Wf vk (VB b Mh rfl rfl dD (Wh x (Wi rfl (ln (CI c rfl (fun Z c => ?_) (fun Z c => ?_)))))))))
  ·refine lG (Wh y (Wf uh (VB b Mh rfl rfl gM ?_)))
   replace b := b.perm (Nr (Qb Qz) Nz)
   refine bS c fun P a2 c => VE (wm (B := k) lI b dc aF qi.1 qi.2.1 rfl qi.2.2.1 qi.2.2.2 rfl rfl u (Dn.sl lI D b.lx) a2 (fun c2 b3 a9 b U => Wa (me (ms (lD ?_)))))
   replace b := b.ll (Kr (Db St))
   exact ⟨n, b3, P, a9, _, ⟨rfl, q⟩, (b.ll St), x, rfl, z, U, (by rw [K]; exact c)⟩
  refine lG (Wh y (VA b Mh a0 bB aC (VE (mh (cs := a0.toArray) b (om rfl) (oH aF aC bI) (fun c3 c6 b => ?_)))))
  replace b := b.perm (Nr (Qb (Qb Qz)) Nz)
  refine bS c fun R a3 c => VE (wm (B := k) lI b dc aF qi.1 qi.2.1 rfl qi.2.2.1 qi.2.2.2 rfl rfl u (Dn.lit lI (l := [a]) (.cons (ys := C1 a.Op a.K a.lg.lh a.lg.lp g a.Kids.length j) (lj.mk ⟨(.slice g a.Kids.length j), rfl, D⟩) .nil) rfl nb (b.at_ (Ma Mh))) a3 (fun c4 b4 O b Y => Wa (me (ms (lD ?_)))))
  replace b := b.ll (Kr (Db (Db St)))
  exact ⟨n, b4, R, O, _, ⟨rfl, q⟩, (b.ll St), x, rfl, z, Y, (by rw [K]; exact c)⟩
 rintro E W ⟨t, G, k, H, ⟨n, q⟩, b, x, y, z, u, c⟩
 rw [aP] at c
 refine lD (sg (Wh y (Wa (lt ?_))))
 obtain rfl := sj c
 refine na (v := t) rfl rfl ?_
 obtain ⟨d1, b, N, d, A⟩ := ST.xi lI b u
 exact ⟨_, _, _, rfl, (b.nF Sn), N, d, (ST.mE b (nS.mem Sn)), t, rfl, rfl, A⟩
theorem Bp (a : Formula) (g : Value) (i : Nat) (j : Int) (r : Bool) (w : World) (c : Sl lj 5 (hp w) g a.Kids) (k : At (hp w) (.pointer (some ⟨i, 0, none⟩)) [(.int .i64 j)]) (hm : rU a j = some r) :
  lV true pg0 290 [(.agg #[(.int .i64 a.Op), (.int .i64 a.K), (.string a.lg.lh), (.string a.lg.lp), g]), (.pointer (some ⟨i, 0, none⟩))] w (.bool r) := by
 refine cG 7 func290 rfl (fun b => sg ?_)
 obtain ⟨t, u, rfl⟩ := c.form
 refine VE (mG b rfl (fun z D b => Wa (lr (VA b Mh (C1 a.Op a.K a.lg.lh a.lg.lp t a.Kids.length u) bB aC (V (lq rfl (qR b.has (y := (.int .i64 j)) k dD)) (bS hm fun G x hm => VE (Eg b call285 (Aq a (.slice t a.Kids.length u) j _ _ (c.mono lI.mono b.lx) x) (fun B b => Wa (ln ?_)))))))))
 exact mi (rQ hm b)
theorem CD (c : Value) (u r : List Formula) (w : World) {j : lZ} (I : oT j [] w) (a : Sl lj 5 j c u) (hm : tz u = some r) :
  nm true pg0 320 [c] w j [] (fun v G J => ∃ z t, v = z ∧ G = (t ++ []) ∧ mO 58 lj 5 J z r t) := by
 unfold tz at hm
 refine uW I 8 func320 rfl (fun b => sg (Wa (lS (Wm ?_))))
 obtain ⟨D, Q, rfl⟩ := a.form
 refine V (zd aF rfl rfl) (ln ?_)
 rcases D with _ | M
 ·have y := a.isNil
  replace hm : some [] = some r := by rw [y] at hm; simpa [ol, maxLen] using hm
  refine wv (rfl) (sg (Wa (lt (mo ?_))))
  obtain rfl := sj hm
  refine na (v := (.slice none 0 0)) rfl rfl ?_
  replace b := b.RM
  exact ⟨_, _, _, rfl, (b.nF (Kr Sn)), (lP.refl _), Lo.refl, (ST.mE b (nS.mem (Kr Sn))), (.slice none 0 0), [], rfl, rfl, (mO.nil _ _ _ _)⟩
 ·refine re (rfl) (kg (VE (mh (cs := #[]) b sC (tY [] aF aC bI dc rfl (by simp) rfl rfl) (fun N H b => Wm (bS hm fun T x hm => VE (wm (B := [(H, Ob #[] 58)]) lI b dc aF qi.1 qi.2.1 rfl qi.2.2.1 qi.2.2.2 rfl rfl (mO.lit lI (l := []) .nil rfl nb rfl) (Dn.sl lI a b.lx) x (fun K g k b i => Wa (lt ?_))))))))
  obtain rfl := sj hm
  exact na (v := g) rfl rfl ⟨_, _, _, rfl, (b.nF (Kr Sn)), (lP.refl _), Lo.refl, (ST.mE b (nS.mem (Kr Sn))), g, k, rfl, rfl, i⟩
theorem tp (y : Value) (a0 : List Formula) (D : LO) (s a2 : Int) (T : Value) (f3 : (Formula × Formula) → Option Int) (r : List Formula) (w : World) {μ0 : lZ} (h0 : oT μ0 (D ++ []) w) (h4 : mO 58 lj 5 μ0 y a0 D) (h5 : xE pg0 T μ0 (wH lj lj) (fun (r : Int) => (.int .i64 r)) f3) (hm : ou a0 s a2 f3 = some r) :
  nm false pg0 356 [y, (.int .i64 s), (.int .i64 a2), T] w μ0 (D ++ []) (fun v L1 μ1 => ∃ S1, v = (.tuple #[]) ∧ L1 = (S1 ++ []) ∧ mO 58 lj 5 μ1 y r S1) := by
 refine uW h0 53 func356 rfl (fun n => sg (Wm (Wi rfl (Wa (ln (vO (nz (ph (fun m E W => ∃ Y J x c9, ST false (keys (D ++ [])) w W μ0 (J ++ c9) ∧ E 0 = y ∧ E 1 = (.int .i64 s) ∧ E 2 = (.int .i64 a2) ∧ E 3 = T ∧ E 8 = (.int .i64 x) ∧ mO 58 lj 5 μ0 y Y J ∧ nc a2 s f3 m Y x = some r) mq ⟨a0, D, (wi0 .i64 (s + 1)), _, (n.ll St), rfl, rfl, rfl, rfl, rfl, h4, hm⟩ ?_))))))))
 rintro m E W ⟨Y, J, x, c9, n, f9, g0, d1, g1, O, c6, u⟩
 cases m with
 | zero => rw [nc] at u; cases u
 | succ h2 =>
  refine lH (sg (Wh O (Wh d1 (Wi rfl (ln (CI u rfl (fun e9 u => ?_) (fun e9 u => ?_)))))))
  ·refine kn (lH (bg (Wh O (Wa (ln (vO (CJ u (fun P E W => ∃ U d0, ST false (keys (D ++ [])) w W μ0 (U ++ d0) ∧ E 0 = y ∧ E 1 = (.int .i64 s) ∧ E 2 = (.int .i64 a2) ∧ E 3 = T ∧ E 8 = (.int .i64 x) ∧ mO 58 lj 5 μ0 y P U) (fun P f1 => ?_) ?_)))))))
   ·refine nz (ph (fun m E W => ∃ M B j b7, ST false (keys (D ++ [])) w W μ0 (B ++ b7) ∧ E 0 = y ∧ E 1 = (.int .i64 s) ∧ E 2 = (.int .i64 a2) ∧ E 3 = T ∧ E 8 = (.int .i64 x) ∧ E 9 = (.int .i64 j) ∧ mO 58 lj 5 μ0 y M B ∧ nt s f3 m M j = some P) mq ⟨Y, J, x, _, (n.ll St), f9, g0, d1, g1, O, rfl, c6, f1⟩ ?_)
    rintro m E W ⟨M, B, j, b7, n, K, Z, c0, a3, c1, G, t, I⟩
    cases m with
    | zero => rw [nt] at I; cases I
    | succ f4 =>
     refine lH (lH ?_)
     replace n := n.drew
     have d := n.has.ll (Kr Sn)
     refine mw d lY (X 0 rfl d (lz G) (X 1 rfl d (lz Z) (X 2 rfl d (mz rfl rfl rfl) (X 3 rfl d (lz rfl) (PJ I (fun c7 E W => ∃ b9, ST false (keys (D ++ [])) w W μ0 (B ++ b9) ∧ E 0 = y ∧ E 1 = (.int .i64 s) ∧ E 2 = (.int .i64 a2) ∧ E 3 = T ∧ E 8 = (.int .i64 x) ∧ E 9 = (.int .i64 j) ∧ E 34 = (.bool c7)) (bm 17 131071) 0 ?_ (fun c7 g a4 => ?_))))))
     ·rintro k2 E W ⟨b9, n, z, c2, c3, c4, c5, H, e8⟩ c
      have d := n.has.ll (Kr Sn)
      refine mM kr (lD (CI c e8 (fun d3 c => ?_) (fun d3 c => ?_)))
      ·refine kn (lH (nz ?_))
       replace n := n.drew
       have d := n.has.ll Sn
       have q := n.has.ll (Kr Sn)
       refine vm 15 d q lY (mJ 0 rfl kr (.inl rfl) rfl dc (fun _ _ h => ⟨h.1, nf br h.2⟩) ⟨d, fun _ => q⟩ (fun _ _ _ _ => lz z) (mJ 1 rfl kr (.inl rfl) rfl dc (fun _ _ h => ⟨h.1, nf br h.2⟩) ⟨d, fun _ => q⟩ (fun _ _ _ _ => lz H) (mJ 2 rfl kr (.inl rfl) rfl dc (fun _ _ h => ⟨h.1, nf br h.2⟩) ⟨d, fun _ => q⟩ (fun _ _ _ _ => lz z) (mJ 3 rfl kr (.inl rfl) rfl dc (fun _ _ h => ⟨h.1, nf br h.2⟩) ⟨d, fun _ => q⟩ (fun _ _ _ _ => lz H) (mJ 4 rfl kr (.inl rfl) rfl dc (fun _ _ h => ⟨h.1, nf br h.2⟩) ⟨d, fun _ => q⟩ (fun _ _ _ _ => mz rfl rfl rfl) (mJ 5 rfl kr (.inl rfl) rfl dc (fun _ _ h => ⟨h.1, nf br h.2⟩) ⟨d, fun _ => q⟩ (fun _ _ _ _ => lz z) (mJ 6 rfl kr (.inl rfl) rfl dc (fun _ _ h => ⟨h.1, nf br h.2⟩) ⟨d, fun _ => q⟩ (fun _ _ _ _ => lz H) (mJ 7 rfl kr (.inl rfl) rfl dc (fun _ _ h => ⟨h.1, nf br h.2⟩) ⟨d, fun _ => q⟩ (fun _ _ _ _ => mz rfl rfl rfl) (bS c fun a5 b0 c => uI 8 rfl kr (.inl rfl) rfl dc (fun _ _ h => ⟨h.1, nf br h.2⟩) ⟨d, fun _ => q⟩ (nn (i := (wi0 .i64 (j - 1))) lj.out aF aC rfl rfl t (mc b0) (lU b0)) (fun i9 ⟨_, ⟨j8, rfl, a8⟩, d6, h6⟩ => mJ 9 rfl kr (.inl rfl) rfl dc (fun _ _ h => ⟨h.1, nf br h.2⟩) ⟨d, fun _ => q⟩ (fun l W F R => have A := (R.2 (F.Dp 15 [9] kr rfl)); lq rfl (ma (pj.hp _) (d6.mono (nG (fun b o L => A.2 b o (Ml L)))) bB aC)) (mJ 10 rfl kr (.inl rfl) rfl dc (fun _ _ h => ⟨h.1, nf br h.2⟩) ⟨d, fun _ => q⟩ (fun _ _ _ _ => lz z) (mJ 11 rfl kr (.inl rfl) rfl dc (fun _ _ h => ⟨h.1, nf br h.2⟩) ⟨d, fun _ => q⟩ (fun _ _ _ _ => lz H) (bS c fun k b1 c => ?_)))))))))))))
       refine uI 12 rfl kr (.inl rfl) rfl dc (fun _ _ h => ⟨h.1, nf br h.2⟩) ⟨d, fun _ => q⟩ (nn (i := j) lj.out aF aC rfl rfl t (mc b1) (lU b1)) (fun j0 ⟨_, ⟨j9, rfl, a9⟩, d7, h7⟩ => mJ 13 rfl kr (.inl rfl) rfl dc (fun _ _ h => ⟨h.1, nf br h.2⟩) ⟨d, fun _ => q⟩ (fun l W F R => have A := (R.2 (F.Dp 15 [13] kr rfl)); lq rfl (ma (pj.hp _) (d7.mono (nG (fun b o L => A.2 b o (Ml L)))) bB aC)) (bS c fun k3 N c => uI 14 rfl kr (.inl rfl) rfl dc (fun _ _ h => ⟨h.1, nf br h.2⟩) ⟨d, fun _ => q⟩ (nn (i := j) lj.out aF aC rfl rfl t (mc N) (lU N)) (fun j3 ⟨_, ⟨k0, rfl, i2⟩, i0, d4⟩ => ?_)))
       obtain ⟨e3, e6, rfl⟩ := a8.form
       refine XO 15 rfl (sb (x1 := a5) lI n t rfl rfl (lj.mk ⟨(.slice e3 a5.Kids.length e6), rfl, a8⟩) d4 (lU N) aC (fun i6 i4 n a7 => ?_))
       have d := n.has.ll Sn
       refine ⟨⟨d, fun h => zY kr h⟩, (bS c fun k4 Q c => uI 16 rfl kr (.inl rfl) rfl dc (fun _ _ h => ⟨h.1, nf br h.2⟩) ⟨d, fun h => zY kr h⟩ (nn (i := (wi0 .i64 (j - 1))) lj.out aF aC rfl rfl a7 (mc Q) (lU Q)) (fun j4 ⟨_, ⟨k1, rfl, i3⟩, i1, d5⟩ => ?_))⟩
       obtain ⟨e4, e7, rfl⟩ := a9.form
       refine XO 17 rfl (sb (x1 := (⟨k.Op, k.K, k.lg, k.Kids⟩ : Formula)) lI n a7 rfl rfl (lj.mk ⟨(.slice e4 k.Kids.length e7), rfl, a9⟩) d5 (lU Q) aC (fun i7 e5 n d2 => ?_))
       have d := n.has.ll Sn
       exact ⟨⟨d, fun h => zY kr h⟩, (mM kr (ms (lD (lG (Wh H (Wi rfl (Wa (ln ⟨f4, bL _, ((M.set (Int.toNat j) a5).set (Int.toNat (wi0 .i64 (j - 1))) (⟨k.Op, k.K, k.lg, k.Kids⟩ : Formula)), e5, (wi0 .i64 (j - 1)), _, (n.ll St), z, c2, c3, c4, c5, rfl, d2, c⟩))))))))⟩
      refine oI (ow (ow (sU (lD ?_))))
      obtain rfl := sj c
      exact ⟨B, _, (n.ll St), z, c2, c3, c4, c5, t⟩
     refine bC g (fun a g => ?_) (fun a g => ?_)
     ·refine Xg 4 rfl rfl (cB a) d (lz a3) (Xg 5 rfl rfl (cB a) d (lz K) (Xg 6 rfl rfl (cB a) d (lz G) (bS g fun f7 b2 g => uI 7 rfl kr (.inr ⟨3, true, 21, rfl, rfl, by decide, (cB a)⟩) rfl dc (fun _ _ h => h) d (nn (i := j) lj.out aF aC rfl rfl t (mc b2) (lU b2)) (fun j5 ⟨_, ⟨f5, rfl, e1⟩, d8, h8⟩ => rE 8 rfl rfl (cB a) d (fun _ A => lq rfl (ma (pj.hp _) (d8.mono (nG (fun b o L => A.2 b o (Ml L)))) bB aC)) (Xg 9 rfl rfl (cB a) d (lz K) (Xg 10 rfl rfl (cB a) d (lz G) (Xg 11 rfl rfl (cB a) d (mz rfl rfl rfl) (bS g fun f8 b3 g => uI 12 rfl kr (.inr ⟨3, true, 21, rfl, rfl, by decide, (cB a)⟩) rfl dc (fun _ _ h => h) d (nn (i := (wi0 .i64 (j - 1))) lj.out aF aC rfl rfl t (mc b3) (lU b3)) (fun j6 ⟨_, ⟨f6, rfl, e2⟩, d9, h9⟩ => rE 13 rfl rfl (cB a) d (fun _ A => lq rfl (ma (pj.hp _) (d9.mono (nG (fun b o L => A.2 b o (Ml L)))) bB aC)) (bS g fun j7 e0 g => wo 14 rfl rfl (cB a) (zz (f7, f8) n h5 (lP.refl _) (wH.mk lI lI (lj.mk ⟨f5, rfl, e1⟩) (lj.mk ⟨f6, rfl, e2⟩) n.lx) rfl (xv rfl rfl) e0 (fun i8 n => ?_))))))))))))
      have d := n.has.ll (Kr Sn)
      refine ⟨d, (Xg 15 rfl rfl (cB a) d (mz rfl rfl rfl) (X 16 rfl d (lX (cB a) rfl) ?_))⟩
      obtain rfl := sj g
      refine nk kr (a4 _ _ ⟨_, (n.ll St), K, Z, c0, a3, c1, G, rfl⟩)
     refine Xn 4 rfl rfl (cB a) d (Xn 5 rfl rfl (cB a) d (Xn 6 rfl rfl (cB a) d (Xn 7 rfl rfl (cB a) d (Xn 8 rfl rfl (cB a) d (Xn 9 rfl rfl (cB a) d (Xn 10 rfl rfl (cB a) d (Xn 11 rfl rfl (cB a) d (Xn 12 rfl rfl (cB a) d (Xn 13 rfl rfl (cB a) d (Xn 14 rfl rfl (cB a) d (Xn 15 rfl rfl (cB a) d (X 16 rfl d (lW (cB a) rfl) ?_))))))))))))
     obtain rfl := sj g
     refine nk kr (a4 _ _ ⟨_, (n.ll St), K, Z, c0, a3, c1, G, rfl⟩)
   rintro h1 E W ⟨U, d0, n, g2, g3, g4, g7, g8, f2⟩ f0
   exact ms (lD (lG (Wh g8 (Wi rfl (Wa (ln ⟨h2, bL _, h1, U, (wi0 .i64 (x + 1)), _, (n.ll St), g2, g3, g4, g7, rfl, f2, f0⟩))))))
  refine oI (ow (ow (sU (lD (rS ?_)))))
  obtain rfl := sj u
  exact qk rfl ⟨_, _, _, rfl, (n.nF (Kr Sn)), (lP.refl _), Lo.refl, (ST.mE n (nS.mem (Kr Sn))), J, rfl, rfl, c6⟩
theorem ru (x : Value) (a0 : List Formula) (t : LO) (G H a3 : Int) (a5 : Value) (f4 : (Formula × Formula) → Option Int) (r : List Formula) (w : World) {Y : lZ} (h0 : oT Y (t ++ []) w) (c0 : mO 58 lj 5 Y x a0 t) (d5 : xE pg0 a5 Y (wH lj lj) (fun (r : Int) => (.int .i64 r)) f4) (hm : oh a0 G H a3 f4 = some r) :
  nm true pg0 367 [x, (.int .i64 G), (.int .i64 H), (.int .i64 a3), a5] w Y (t ++ []) (fun v L1 μ1 => ∃ S1, v = (.tuple #[]) ∧ L1 = (S1 ++ []) ∧ mO 58 lj 5 μ1 x r S1) := by
 refine uW h0 38 func367 rfl (fun q => sg (Wa (ln (vO (nz (ph (fun m E W => ∃ D y c Z, ST true (keys (t ++ [])) w W Y (y ++ Z) ∧ E 0 = x ∧ E 1 = (.int .i64 G) ∧ E 2 = (.int .i64 H) ∧ E 3 = (.int .i64 a3) ∧ E 10 = (.int .i64 c) ∧ mO 58 lj 5 Y x D y ∧ nH a3 H G m D c = some r) mq ⟨a0, t, 0, _, (q.ll St), rfl, rfl, rfl, rfl, rfl, c0, hm⟩ ?_))))))
 rintro m E W ⟨D, y, c, Z, q, u, I, J, a4, k, j, a⟩
 cases m with
 | zero => rw [nH] at a; cases a
 | succ c1 =>
  refine lH (sg (Wh k (Wh a4 (Wi rfl (ln (CI a rfl (fun R a => ?_) (fun R a => ?_)))))))
  ·refine kn (lH (nz ?_))
   replace q := q.drew
   have d := q.has.ll Sn
   have n := q.has.ll (Kr Sn)
   refine vm 21 d n lY (mJ 0 rfl kr (.inl rfl) rfl dc (fun _ _ h => ⟨h.1, nf br h.2⟩) ⟨d, fun _ => n⟩ (fun _ _ _ _ => lz u) (mJ 1 rfl kr (.inl rfl) rfl dc (fun _ _ h => ⟨h.1, nf br h.2⟩) ⟨d, fun _ => n⟩ (fun _ _ _ _ => lz I) (mJ 2 rfl kr (.inl rfl) rfl dc (fun _ _ h => ⟨h.1, nf br h.2⟩) ⟨d, fun _ => n⟩ (fun _ _ _ _ => lz k) (mJ 3 rfl kr (.inl rfl) rfl dc (fun _ _ h => ⟨h.1, nf br h.2⟩) ⟨d, fun _ => n⟩ (fun _ _ _ _ => mz rfl rfl rfl) (mJ 4 rfl kr (.inl rfl) rfl dc (fun _ _ h => ⟨h.1, nf br h.2⟩) ⟨d, fun _ => n⟩ (fun _ _ _ _ => lz u) (mJ 5 rfl kr (.inl rfl) rfl dc (fun _ _ h => ⟨h.1, nf br h.2⟩) ⟨d, fun _ => n⟩ (fun _ _ _ _ => lz J) (mJ 6 rfl kr (.inl rfl) rfl dc (fun _ _ h => ⟨h.1, nf br h.2⟩) ⟨d, fun _ => n⟩ (fun _ _ _ _ => lz k) (mJ 7 rfl kr (.inl rfl) rfl dc (fun _ _ h => ⟨h.1, nf br h.2⟩) ⟨d, fun _ => n⟩ (fun _ _ _ _ => mz rfl rfl rfl) (mJ 8 rfl kr (.inl rfl) rfl dc (fun _ _ h => ⟨h.1, nf br h.2⟩) ⟨d, fun _ => n⟩ (fun _ _ _ _ => lz u) (mJ 9 rfl kr (.inl rfl) rfl dc (fun _ _ h => ⟨h.1, nf br h.2⟩) ⟨d, fun _ => n⟩ (fun _ _ _ _ => lz J) (mJ 10 rfl kr (.inl rfl) rfl dc (fun _ _ h => ⟨h.1, nf br h.2⟩) ⟨d, fun _ => n⟩ (fun _ _ _ _ => lz k) (mJ 11 rfl kr (.inl rfl) rfl dc (fun _ _ h => ⟨h.1, nf br h.2⟩) ⟨d, fun _ => n⟩ (fun _ _ _ _ => mz rfl rfl rfl) (bS a fun K T a => uI 12 rfl kr (.inl rfl) rfl dc (fun _ _ h => ⟨h.1, nf br h.2⟩) ⟨d, fun _ => n⟩ (nn (i := (wi0 .i64 (H + c))) lj.out aF aC rfl rfl j (mc T) (lU T)) (fun d6 ⟨_, ⟨e0, rfl, N⟩, b1, c4⟩ => ?_))))))))))))))
   refine mJ 13 rfl kr (.inl rfl) rfl dc (fun _ _ h => ⟨h.1, nf br h.2⟩) ⟨d, fun _ => n⟩ (fun l W s L => have A := (L.2 (s.Dp 21 [13] kr rfl)); lq rfl (ma (pj.hp _) (b1.mono (nG (fun b o F => A.2 b o (Ml F)))) bB aC)) (mJ 14 rfl kr (.inl rfl) rfl dc (fun _ _ h => ⟨h.1, nf br h.2⟩) ⟨d, fun _ => n⟩ (fun _ _ _ _ => lz u) (mJ 15 rfl kr (.inl rfl) rfl dc (fun _ _ h => ⟨h.1, nf br h.2⟩) ⟨d, fun _ => n⟩ (fun _ _ _ _ => lz I) (mJ 16 rfl kr (.inl rfl) rfl dc (fun _ _ h => ⟨h.1, nf br h.2⟩) ⟨d, fun _ => n⟩ (fun _ _ _ _ => lz k) (mJ 17 rfl kr (.inl rfl) rfl dc (fun _ _ h => ⟨h.1, nf br h.2⟩) ⟨d, fun _ => n⟩ (fun _ _ _ _ => mz rfl rfl rfl) (bS a fun g U a => uI 18 rfl kr (.inl rfl) rfl dc (fun _ _ h => ⟨h.1, nf br h.2⟩) ⟨d, fun _ => n⟩ (nn (i := (wi0 .i64 (G + c))) lj.out aF aC rfl rfl j (mc U) (lU U)) (fun d7 ⟨_, ⟨e1, rfl, Q⟩, b2, c5⟩ => mJ 19 rfl kr (.inl rfl) rfl dc (fun _ _ h => ⟨h.1, nf br h.2⟩) ⟨d, fun _ => n⟩ (fun l W s L => have A := (L.2 (s.Dp 21 [19] kr rfl)); lq rfl (ma (pj.hp _) (b2.mono (nG (fun b o F => A.2 b o (Ml F)))) bB aC)) (bS a fun e5 z a => uI 20 rfl kr (.inl rfl) rfl dc (fun _ _ h => ⟨h.1, nf br h.2⟩) ⟨d, fun _ => n⟩ (nn (i := (wi0 .i64 (G + c))) lj.out aF aC rfl rfl j (mc z) (lU z)) (fun d8 ⟨_, ⟨e2, rfl, c8⟩, c6, a9⟩ => ?_))))))))
   let O := (⟨g.Op, g.K, g.lg, g.Kids⟩ : Formula)
   obtain ⟨b3, b7, rfl⟩ := N.form
   refine XO 21 rfl (sb (x1 := K) lI q j rfl rfl (lj.mk ⟨(.slice b3 K.Kids.length b7), rfl, N⟩) a9 (lU z) aC (fun d2 d1 q M => ?_))
   have d := q.has.ll Sn
   refine ⟨⟨d, fun h => zY kr h⟩, (bS a fun e6 B a => uI 22 rfl kr (.inl rfl) rfl dc (fun _ _ h => ⟨h.1, nf br h.2⟩) ⟨d, fun h => zY kr h⟩ (nn (i := (wi0 .i64 (H + c))) lj.out aF aC rfl rfl M (mc B) (lU B)) (fun d9 ⟨_, ⟨e3, rfl, c9⟩, c7, b0⟩ => ?_))⟩
   obtain ⟨b4, b9, rfl⟩ := Q.form
   refine XO 23 rfl (sb (x1 := O) lI q M rfl rfl (lj.mk ⟨(.slice b4 g.Kids.length b9), rfl, Q⟩) b0 (lU B) aC (fun d3 b5 q P => ?_))
   have d := q.has.ll Sn
   exact ⟨⟨d, fun h => zY kr h⟩, (mM kr (ms (lD (lG (Wh k (Wi rfl (Wa (ln ⟨c1, bL _, ((D.set (Int.toNat (wi0 .i64 (G + c))) K).set (Int.toNat (wi0 .i64 (H + c))) O), b5, (wi0 .i64 (c + 1)), _, (q.ll St), u, I, J, a4, rfl, P, a⟩))))))))⟩
  refine oI (ow (ow (sU (lD (rS ?_)))))
  obtain rfl := sj a
  exact qk rfl ⟨_, _, _, rfl, (q.nF (Kr Sn)), (lP.refl _), Lo.refl, (ST.mE q (nS.mem (Kr Sn))), y, rfl, rfl, j⟩
theorem zq (k : Value) (a0 : List Formula) (y : LO) (q D a3 : Int) (B : Value) (U : (Formula × Formula) → Option Int) (r : List Formula) (w : World) {T : lZ} (h0 : oT T (y ++ []) w) (c5 : mO 58 lj 5 T k a0 y) (Q : xE pg0 B T (wH lj lj) (fun (r : Int) => (.int .i64 r)) U) (hm : od a0 q D a3 U = some r) :
  nm true pg0 364 [k, (.int .i64 q), (.int .i64 D), (.int .i64 a3), B] w T (y ++ []) (fun v L1 μ1 => ∃ S1, v = (.tuple #[]) ∧ L1 = (S1 ++ []) ∧ mO 58 lj 5 μ1 k r S1) := by
 refine uW h0 58 func364 rfl (fun b => sg (Wm (Wm (Wi rfl (Wa (lr (Wm (Wm (Wi rfl (Wa ?_))))))))))
 refine ln (lH (nz (ph (fun m E W => ∃ z x c t I Y, lP T I ∧ Lo (keys (y ++ [])) w T I ∧ ST true (keys (y ++ [])) w W I (x ++ Y) ∧ E 0 = k ∧ E 2 = (.int .i64 D) ∧ E 4 = B ∧ E 10 = (.int .i64 c) ∧ E 11 = (.int .i64 t) ∧ mO 58 lj 5 I k z x ∧ nN D U m z c t = some r) mq ⟨a0, y, (wi0 .i64 (D - q)), (wi0 .i64 (a3 - D)), T, _, (lP.refl _), Lo.refl, (b.ll St), rfl, rfl, rfl, rfl, rfl, c5, hm⟩ ?_)))
 rintro m E W ⟨z, x, c, t, I, Y, i, d, b, G, j, H, g, u, J, a⟩
 let a2 := (wi0 .i64 (D - c))
 cases m with
 | zero => rw [nN] at a; cases a
 | succ s =>
  refine lH (sg (Wh g (Wh u (Wi rfl (ln (CI a rfl (fun A a => ?_) (fun A a => ?_)))))))
  ·refine kn (bg (Wh g (Wh u (Wi rfl (ln (CI a rfl (fun F a => ?_) (fun F a => ?_)))))))
   ·refine sg (Wh G (Wh j (Wh g (Wi rfl (Wh j (Wh u (Wh H (bS a fun c6 L a => ?_))))))))
    refine VE (eD b (Cr Qz Cn) call367 (fun o => (ru k z x a2 D t B U _ _ o J (Q.mono i) L)) ?_)
    rintro _ e0 c8 d2 b Z h ⟨b9, K, rfl, R⟩
    obtain rfl := K.symm
    replace b := b.perm (Tr Tn)
    exact ln (lG (Wh g (Wh u (Wi rfl (Wa (me (ms (lD ⟨s, bL _, c6, b9, (wi0 .i64 (c - t)), t, c8, _, (i.trans Z), (d.trans h), (b.ll St), G, j, H, rfl, u, R, a⟩))))))))
   refine sg (Wh G (Wh j (Wh g (Wi rfl (Wh j (Wh u (Wi rfl (Wh g (Wi rfl (Wh g (Wh H (bS a fun c7 O a => ?_))))))))))))
   refine VE (eD b (Cr Qz Cn) call367 (fun o => (ru k z x a2 (wi0 .i64 ((wi0 .i64 (D + t)) - c)) c B U _ _ o J (Q.mono i) O)) ?_)
   rintro _ e1 c9 d3 b a4 l ⟨c0, M, rfl, b6⟩
   obtain rfl := M.symm
   replace b := b.perm (Tr Tn)
   exact ln (lG (Wh u (Wh g (Wi rfl (Wa (me (ms (lD ⟨s, bL _, c7, c0, c, (wi0 .i64 (t - c)), c9, _, (i.trans a4), (d.trans l), (b.ll St), G, j, H, g, rfl, b6, a⟩))))))))
  refine oI (ow (ow (sU (lD (lG (Wh G (Wh j (Wh g (Wi rfl (Wh j (Wh g (Wh H (bS a fun d9 P a => ?_)))))))))))))
  refine VE (eD b (Cr Qz Cn) call367 (fun o => (ru k z x a2 D c B U _ _ o J (Q.mono i) P)) ?_)
  rintro _ e2 e4 d4 b a5 n ⟨c1, N, rfl, b7⟩
  obtain rfl := N.symm
  replace b := b.perm (Tr Tn)
  refine me (rS ?_)
  obtain rfl := sj a
  exact qk rfl ⟨_, _, _, rfl, (b.nF (Kr Sn)), (i.trans a5), (d.trans n), (ST.mE b (nS.mem (Kr Sn))), c1, rfl, rfl, b7⟩
set_option maxHeartbeats 1000000 in
theorem xx (t6 : (List Formula) → Int → Int → Int → ((Formula × Formula) → Option Int) → Option (List Formula)) (s6 : ∀ (t : Value) (a0 : List Formula) (c : LO) (z : Int) (M : Int) (B : Int) (D : Value) (f4 : (Formula × Formula) → Option Int) (r : List Formula) (w : World) {U : lZ} (h0 : oT U (c ++ []) w) (a5 : mO 58 lj 5 U t a0 c) (c6 : xE pg0 D U (wH lj lj) (fun (r : Int) => (.int .i64 r)) f4), t6 a0 z M B f4 = some r → nm false pg0 357 [t, (.int .i64 z), (.int .i64 M), (.int .i64 B), D] w U (c ++ []) (fun v L1 μ1 => ∃ S1, v = (.tuple #[]) ∧ L1 = (S1 ++ []) ∧ mO 58 lj 5 μ1 t r S1)) (t : Value) (a0 : List Formula) (c : LO) (z M B : Int) (D : Value) (f4 : (Formula × Formula) → Option Int) (r : List Formula) (w : World) {U : lZ} (h0 : oT U (c ++ []) w) (a5 : mO 58 lj 5 U t a0 c) (c6 : xE pg0 D U (wH lj lj) (fun (r : Int) => (.int .i64 r)) f4) (hm : qm t6 a0 z M B f4 = some r) :
  nm false pg0 357 [t, (.int .i64 z), (.int .i64 M), (.int .i64 B), D] w U (c ++ []) (fun v L1 μ1 => ∃ S1, v = (.tuple #[]) ∧ L1 = (S1 ++ []) ∧ mO 58 lj 5 μ1 t r S1) := by
 refine uW h0 220 func357 rfl (fun d => lH (sg (Wm (Wm (Wi rfl (Wi rfl (ln (CI hm rfl (fun ae hm => ?_) (fun ae hm => ?_)))))))))
 ·refine sg (Wm (Wa (lr (Wm (Wa (ln (lH (nz (ph (fun m E W => ∃ T a9 o3, ST false (keys (c ++ [])) w W U (c ++ o3) ∧ E 0 = t ∧ E 1 = (.int .i64 z) ∧ E 4 = D ∧ E 10 = (.int .i64 T) ∧ E 11 = (.int .i64 a9) ∧ mU a0 z f4 m T a9 = some r) mq ⟨M, B, _, (d.ll St), rfl, rfl, rfl, rfl, rfl, hm⟩ ?_)))))))))
  rintro m E W ⟨T, a9, o3, d, e4, h8, k3, h9, k4, y⟩
  cases m with
  | zero => rw [mU] at y; cases y
  | succ t5 =>
   refine lH (sg (Wh h9 (Wh k4 (Wi rfl (ln (CI y rfl (fun w9 y => ?_) (fun w9 y => ?_)))))))
   ·refine kn (bg (Wh h9 (Wh k4 (Wi rfl (V (rT (k' := .i64) (a := (wi0 .i64 (T + a9))) fF gD rfl) (V (Fz (a := (IntKind.u64.wrap (wi0 .i64 (T + a9)))) (b := 1) rfl rfl dc) (V (rT (k' := .u64) (a := (Int.fdiv (IntKind.u64.wrap (wi0 .i64 (T + a9))) (2 ^ min (Int.toNat 1) (IntKind.bits .u64)))) gD fF rfl) (Wa (ln (lH ?_))))))))))
    let e3 := (Int.fdiv (IntKind.u64.wrap (wi0 .i64 (T + a9))) (2 ^ min (Int.toNat 1) (IntKind.bits .u64)))
    replace d := d.drew
    have n := d.has.ll (Kr Sn)
    refine mw n lY (X 0 rfl n (lz k3) (X 1 rfl n (lz e4) (X 2 rfl n (lz rfl) (bS y fun aa n1 y => XQ 3 rfl n (nn (i := (wi0 .i64 e3)) lj.out aF aC rfl rfl a5 (mc n1) (lU n1)) (fun di ⟨_, ⟨z7, rfl, x7⟩, x4, bp⟩ => XH 4 rfl n (fun _ A => lq rfl (ma (pj.hp _) (x4.mono (nG (fun b o F => A.2 b o (Ml F)))) bB aC)) (X 5 rfl n (lz e4) (X 6 rfl n (lz h8) (bS y fun ab n2 y => XQ 7 rfl n (nn (i := z) lj.out aF aC rfl rfl a5 (mc n2) (lU n2)) (fun dj ⟨_, ⟨z8, rfl, x8⟩, x5, bq⟩ => XH 8 rfl n (fun _ A => lq rfl (ma (pj.hp _) (x5.mono (nG (fun b o F => A.2 b o (Ml F)))) bB aC)) (bS y fun dk x6 y => XE 9 rfl (zz (aa, ab) d c6 (lP.refl _) (wH.mk lI lI (lj.mk ⟨z7, rfl, x7⟩) (lj.mk ⟨z8, rfl, x8⟩) d.lx) rfl (xv rfl rfl) x6 (fun dg d => ?_))))))))))))
    have n := d.has.ll (Kr Sn)
    refine ⟨n, (X 10 rfl n (mz rfl rfl rfl) (mM kr (lD (CI y rfl (fun x0 y => ?_) (fun x0 y => ?_)))))⟩
    ·exact lG (Wm (Wi rfl (Wa (me (ms (lD ⟨t5, bL _, (wi0 .i64 ((wi0 .i64 e3) + 1)), a9, _, (d.ll St), e4, h8, k3, rfl, k4, y⟩))))))
    exact lG (Wm (Wa (me (ms (lD ⟨t5, bL _, T, (wi0 .i64 e3), _, (d.ll St), e4, h8, k3, h9, rfl, y⟩)))))
   refine oI (ow (ow (sU (lD (lH (sg (Wh h8 (Wa (ln (CJ y (fun k5 E W => ∃ f7 o4, ST false (keys (c ++ [])) w W U (f7 ++ o4) ∧ mO 58 lj 5 U t k5 f7) (fun k5 x3 => ?_) ?_))))))))))
   ·refine nz (ph (fun m E W => ∃ i0 f8 b0 k6, ST false (keys (c ++ [])) w W U (f8 ++ k6) ∧ E 0 = t ∧ E 10 = (.int .i64 T) ∧ E 13 = (.int .i64 b0) ∧ mO 58 lj 5 U t i0 f8 ∧ nJ T m i0 b0 = some k5) mq ⟨a0, c, z, _, (d.ll St), e4, h9, rfl, a5, x3⟩ ?_)
    rintro m E W ⟨i0, f8, b0, k6, d, c7, l7, c0, d1, u⟩
    cases m with
    | zero => rw [nJ] at u; cases u
    | succ y2 =>
     refine lH (sg (Wh c0 (Wh l7 (Wi rfl (Wi rfl (ln (CI u rfl (fun p1 u => ?_) (fun p1 u => ?_))))))))
     ·refine kn (lH (nz ?_))
      replace d := d.drew
      have n := d.has.ll Sn
      have q := d.has.ll (Kr Sn)
      refine vm 15 n q lY (mJ 0 rfl kr (.inl rfl) rfl dc (fun _ _ h => ⟨h.1, nf (by rfl) h.2⟩) ⟨n, fun _ => q⟩ (fun _ _ _ _ => lz c7) (mJ 1 rfl kr (.inl rfl) rfl dc (fun _ _ h => ⟨h.1, nf (by rfl) h.2⟩) ⟨n, fun _ => q⟩ (fun _ _ _ _ => lz c0) (mJ 2 rfl kr (.inl rfl) rfl dc (fun _ _ h => ⟨h.1, nf (by rfl) h.2⟩) ⟨n, fun _ => q⟩ (fun _ _ _ _ => lz c7) (mJ 3 rfl kr (.inl rfl) rfl dc (fun _ _ h => ⟨h.1, nf (by rfl) h.2⟩) ⟨n, fun _ => q⟩ (fun _ _ _ _ => lz c0) (mJ 4 rfl kr (.inl rfl) rfl dc (fun _ _ h => ⟨h.1, nf (by rfl) h.2⟩) ⟨n, fun _ => q⟩ (fun _ _ _ _ => mz rfl rfl rfl) (mJ 5 rfl kr (.inl rfl) rfl dc (fun _ _ h => ⟨h.1, nf (by rfl) h.2⟩) ⟨n, fun _ => q⟩ (fun _ _ _ _ => lz c7) (mJ 6 rfl kr (.inl rfl) rfl dc (fun _ _ h => ⟨h.1, nf (by rfl) h.2⟩) ⟨n, fun _ => q⟩ (fun _ _ _ _ => lz c0) (mJ 7 rfl kr (.inl rfl) rfl dc (fun _ _ h => ⟨h.1, nf (by rfl) h.2⟩) ⟨n, fun _ => q⟩ (fun _ _ _ _ => mz rfl rfl rfl) (bS u fun i3 j5 u => uI 8 rfl kr (.inl rfl) rfl dc (fun _ _ h => ⟨h.1, nf (by rfl) h.2⟩) ⟨n, fun _ => q⟩ (nn (i := (wi0 .i64 (b0 + 1))) lj.out aF aC rfl rfl d1 (mc j5) (lU j5)) (fun bt ⟨_, ⟨cl, rfl, i7⟩, r3, af⟩ => mJ 9 rfl kr (.inl rfl) rfl dc (fun _ _ h => ⟨h.1, nf (by rfl) h.2⟩) ⟨n, fun _ => q⟩ (fun l W L hs => have A := (hs.2 (L.Dp 15 [9] kr rfl)); lq rfl (ma (pj.hp _) (r3.mono (nG (fun b o F => A.2 b o (Ml F)))) bB aC)) (mJ 10 rfl kr (.inl rfl) rfl dc (fun _ _ h => ⟨h.1, nf (by rfl) h.2⟩) ⟨n, fun _ => q⟩ (fun _ _ _ _ => lz c7) (mJ 11 rfl kr (.inl rfl) rfl dc (fun _ _ h => ⟨h.1, nf (by rfl) h.2⟩) ⟨n, fun _ => q⟩ (fun _ _ _ _ => lz c0) (bS u fun Y j6 u => ?_)))))))))))))
      refine uI 12 rfl kr (.inl rfl) rfl dc (fun _ _ h => ⟨h.1, nf (by rfl) h.2⟩) ⟨n, fun _ => q⟩ (nn (i := b0) lj.out aF aC rfl rfl d1 (mc j6) (lU j6)) (fun bu ⟨_, ⟨cm, rfl, i8⟩, r4, ag⟩ => mJ 13 rfl kr (.inl rfl) rfl dc (fun _ _ h => ⟨h.1, nf (by rfl) h.2⟩) ⟨n, fun _ => q⟩ (fun l W L hs => have A := (hs.2 (L.Dp 15 [13] kr rfl)); lq rfl (ma (pj.hp _) (r4.mono (nG (fun b o F => A.2 b o (Ml F)))) bB aC)) (bS u fun cw e9 u => uI 14 rfl kr (.inl rfl) rfl dc (fun _ _ h => ⟨h.1, nf (by rfl) h.2⟩) ⟨n, fun _ => q⟩ (nn (i := b0) lj.out aF aC rfl rfl d1 (mc e9) (lU e9)) (fun bv ⟨_, ⟨cn, rfl, ar⟩, an, q2⟩ => ?_)))
      obtain ⟨t7, u6, rfl⟩ := i7.form
      refine XO 15 rfl (sb (x1 := i3) lI d d1 rfl rfl (lj.mk ⟨(.slice t7 i3.Kids.length u6), rfl, i7⟩) q2 (lU e9) aC (fun be bc d i5 => ?_))
      have n := d.has.ll Sn
      refine ⟨⟨n, fun h => zY kr h⟩, (bS u fun cx f0 u => uI 16 rfl kr (.inl rfl) rfl dc (fun _ _ h => ⟨h.1, nf (by rfl) h.2⟩) ⟨n, fun h => zY kr h⟩ (nn (i := (wi0 .i64 (b0 + 1))) lj.out aF aC rfl rfl i5 (mc f0) (lU f0)) (fun bw ⟨_, ⟨co, rfl, au⟩, ao, q3⟩ => ?_))⟩
      obtain ⟨t8, u7, rfl⟩ := i8.form
      refine XO 17 rfl (sb (x1 := (⟨Y.Op, Y.K, Y.lg, Y.Kids⟩ : Formula)) lI d i5 rfl rfl (lj.mk ⟨(.slice t8 Y.Kids.length u7), rfl, i8⟩) q3 (lU f0) aC (fun bf u1 d o9 => ?_))
      have n := d.has.ll Sn
      exact ⟨⟨n, fun h => zY kr h⟩, (mM kr (ms (lD (lG (Wh c0 (Wi rfl (Wa (ln ⟨y2, bL _, ((i0.set (Int.toNat b0) i3).set (Int.toNat (wi0 .i64 (b0 + 1))) (⟨Y.Op, Y.K, Y.lg, Y.Kids⟩ : Formula)), u1, (wi0 .i64 (b0 + 1)), _, (d.ll St), c7, l7, rfl, o9, u⟩))))))))⟩
     refine oI (ow (ow (sU (lD ?_))))
     have s := sj u; subst s
     exact ⟨f8, _, (d.ll St), d1⟩
   rintro dh E W ⟨f7, o4, d, x9⟩ x2
   refine mi (mo ?_)
   have s := sj x2; subst s
   exact qk rfl ⟨_, _, _, rfl, (d.nF (Kr Sn)), (lP.refl _), Lo.refl, (ST.mE d (nS.mem (Kr Sn))), f7, rfl, rfl, x9⟩
 refine kS (Wm (Wm (Wi rfl (Wi rfl (ln (CI hm rfl (fun p2 hm => ?_) (fun p2 hm => ?_)))))))
 ·refine sg (Wm (Wa (lr (Wm (Wa (ln (lH (nz (ph (fun m E W => ∃ G N k7, ST false (keys (c ++ [])) w W U (c ++ k7) ∧ E 0 = t ∧ E 2 = (.int .i64 M) ∧ E 4 = D ∧ E 14 = (.int .i64 G) ∧ E 15 = (.int .i64 N) ∧ mV a0 M f4 m G N = some r) mq ⟨z, M, _, (d.ll St), rfl, rfl, rfl, rfl, rfl, hm⟩ ?_)))))))))
  rintro m E W ⟨G, N, k7, d, c8, d5, f9, d6, g0, j⟩
  let j1 := (IntKind.u64.wrap (wi0 .i64 (G + N)))
  let b8 := (Int.fdiv j1 (2 ^ min (Int.toNat 1) (IntKind.bits .u64)))
  cases m with
  | zero => rw [mV] at j; cases j
  | succ n3 =>
   refine lH (sg (Wh d6 (Wh g0 (Wi rfl (ln (CI j rfl (fun p3 j => ?_) (fun p3 j => ?_)))))))
   ·refine kn (bg (Wh d6 (Wh g0 (Wi rfl (V (rT (k' := .i64) (a := (wi0 .i64 (G + N))) fF gD rfl) (V (Fz (a := j1) (b := 1) rfl rfl dc) (V (rT (k' := .u64) (a := (Int.fdiv j1 (2 ^ min (Int.toNat 1) (IntKind.bits .u64)))) gD fF rfl) (Wa (ln (lH ?_))))))))))
    replace d := d.drew
    have n := d.has.ll (Kr Sn)
    refine mw n lY (X 0 rfl n (lz f9) (X 1 rfl n (lz c8) (X 2 rfl n (lz d5) (bS j fun y8 j7 j => XQ 3 rfl n (nn (i := M) lj.out aF aC rfl rfl a5 (mc j7) (lU j7)) (fun bx ⟨_, ⟨y4, rfl, s7⟩, r5, ah⟩ => XH 4 rfl n (fun _ A => lq rfl (ma (pj.hp _) (r5.mono (nG (fun b o F => A.2 b o (Ml F)))) bB aC)) (X 5 rfl n (lz c8) (X 6 rfl n (lz rfl) (bS j fun y9 j8 j => XQ 7 rfl n (nn (i := (wi0 .i64 b8)) lj.out aF aC rfl rfl a5 (mc j8) (lU j8)) (fun bz ⟨_, ⟨y5, rfl, s8⟩, r6, ai⟩ => XH 8 rfl n (fun _ A => lq rfl (ma (pj.hp _) (r6.mono (nG (fun b o F => A.2 b o (Ml F)))) bB aC)) (bS j fun cg s1 j => XE 9 rfl (zz (y8, y9) d c6 (lP.refl _) (wH.mk lI lI (lj.mk ⟨y4, rfl, s7⟩) (lj.mk ⟨y5, rfl, s8⟩) d.lx) rfl (xv rfl rfl) s1 (fun bh d => ?_))))))))))))
    have n := d.has.ll (Kr Sn)
    refine ⟨n, (X 10 rfl n (mz rfl rfl rfl) (X 11 rfl n (ot rfl) (mM kr (lD (CI j rfl (fun p4 j => ?_) (fun p4 j => ?_))))))⟩
    ·exact lG (Wm (Wi rfl (Wa (me (ms (lD ⟨n3, bL _, (wi0 .i64 ((wi0 .i64 b8) + 1)), N, _, (d.ll St), c8, d5, f9, rfl, g0, j⟩))))))
    exact lG (Wm (Wa (me (ms (lD ⟨n3, bL _, G, (wi0 .i64 b8), _, (d.ll St), c8, d5, f9, d6, rfl, j⟩)))))
   refine oI (ow (ow (sU (lD (lH (sg (Wh d5 (Wa (ln (CJ j (fun i1 E W => ∃ d3 k8, ST false (keys (c ++ [])) w W U (d3 ++ k8) ∧ mO 58 lj 5 U t i1 d3) (fun i1 q7 => ?_) ?_))))))))))
   ·refine nz (ph (fun m E W => ∃ e2 d4 Q k9, ST false (keys (c ++ [])) w W U (d4 ++ k9) ∧ E 0 = t ∧ E 14 = (.int .i64 G) ∧ E 17 = (.int .i64 Q) ∧ mO 58 lj 5 U t e2 d4 ∧ nI G m e2 Q = some i1) mq ⟨a0, c, M, _, (d.ll St), c8, d6, rfl, a5, q7⟩ ?_)
    rintro m E W ⟨e2, d4, Q, k9, d, c9, l8, c1, b6, x⟩
    cases m with
    | zero => rw [nI] at x; cases x
    | succ y3 =>
     refine lH (sg (Wh c1 (Wh l8 (Wi rfl (ln (CI x rfl (fun p5 x => ?_) (fun p5 x => ?_)))))))
     ·refine kn (lH (nz ?_))
      replace d := d.drew
      have n := d.has.ll Sn
      have q := d.has.ll (Kr Sn)
      refine vm 15 n q lY (mJ 0 rfl kr (.inl rfl) rfl dc (fun _ _ h => ⟨h.1, nf (by rfl) h.2⟩) ⟨n, fun _ => q⟩ (fun _ _ _ _ => lz c9) (mJ 1 rfl kr (.inl rfl) rfl dc (fun _ _ h => ⟨h.1, nf (by rfl) h.2⟩) ⟨n, fun _ => q⟩ (fun _ _ _ _ => lz c1) (mJ 2 rfl kr (.inl rfl) rfl dc (fun _ _ h => ⟨h.1, nf (by rfl) h.2⟩) ⟨n, fun _ => q⟩ (fun _ _ _ _ => lz c9) (mJ 3 rfl kr (.inl rfl) rfl dc (fun _ _ h => ⟨h.1, nf (by rfl) h.2⟩) ⟨n, fun _ => q⟩ (fun _ _ _ _ => lz c1) (mJ 4 rfl kr (.inl rfl) rfl dc (fun _ _ h => ⟨h.1, nf (by rfl) h.2⟩) ⟨n, fun _ => q⟩ (fun _ _ _ _ => mz rfl rfl rfl) (mJ 5 rfl kr (.inl rfl) rfl dc (fun _ _ h => ⟨h.1, nf (by rfl) h.2⟩) ⟨n, fun _ => q⟩ (fun _ _ _ _ => lz c9) (mJ 6 rfl kr (.inl rfl) rfl dc (fun _ _ h => ⟨h.1, nf (by rfl) h.2⟩) ⟨n, fun _ => q⟩ (fun _ _ _ _ => lz c1) (mJ 7 rfl kr (.inl rfl) rfl dc (fun _ _ h => ⟨h.1, nf (by rfl) h.2⟩) ⟨n, fun _ => q⟩ (fun _ _ _ _ => mz rfl rfl rfl) (bS x fun i4 j9 x => uI 8 rfl kr (.inl rfl) rfl dc (fun _ _ h => ⟨h.1, nf (by rfl) h.2⟩) ⟨n, fun _ => q⟩ (nn (i := (wi0 .i64 (Q - 1))) lj.out aF aC rfl rfl b6 (mc j9) (lU j9)) (fun ca ⟨_, ⟨cp, rfl, i9⟩, r7, aj⟩ => mJ 9 rfl kr (.inl rfl) rfl dc (fun _ _ h => ⟨h.1, nf (by rfl) h.2⟩) ⟨n, fun _ => q⟩ (fun l W L hs => have A := (hs.2 (L.Dp 15 [9] kr rfl)); lq rfl (ma (pj.hp _) (r7.mono (nG (fun b o F => A.2 b o (Ml F)))) bB aC)) (mJ 10 rfl kr (.inl rfl) rfl dc (fun _ _ h => ⟨h.1, nf (by rfl) h.2⟩) ⟨n, fun _ => q⟩ (fun _ _ _ _ => lz c9) (mJ 11 rfl kr (.inl rfl) rfl dc (fun _ _ h => ⟨h.1, nf (by rfl) h.2⟩) ⟨n, fun _ => q⟩ (fun _ _ _ _ => lz c1) (bS x fun Z k0 x => ?_)))))))))))))
      refine uI 12 rfl kr (.inl rfl) rfl dc (fun _ _ h => ⟨h.1, nf (by rfl) h.2⟩) ⟨n, fun _ => q⟩ (nn (i := Q) lj.out aF aC rfl rfl b6 (mc k0) (lU k0)) (fun cb ⟨_, ⟨cq, rfl, j0⟩, r8, ak⟩ => mJ 13 rfl kr (.inl rfl) rfl dc (fun _ _ h => ⟨h.1, nf (by rfl) h.2⟩) ⟨n, fun _ => q⟩ (fun l W L hs => have A := (hs.2 (L.Dp 15 [13] kr rfl)); lq rfl (ma (pj.hp _) (r8.mono (nG (fun b o F => A.2 b o (Ml F)))) bB aC)) (bS x fun cy f1 x => uI 14 rfl kr (.inl rfl) rfl dc (fun _ _ h => ⟨h.1, nf (by rfl) h.2⟩) ⟨n, fun _ => q⟩ (nn (i := Q) lj.out aF aC rfl rfl b6 (mc f1) (lU f1)) (fun cc ⟨_, ⟨cr, rfl, av⟩, ap, q4⟩ => ?_)))
      obtain ⟨t9, u8, rfl⟩ := i9.form
      refine XO 15 rfl (sb (x1 := i4) lI d b6 rfl rfl (lj.mk ⟨(.slice t9 i4.Kids.length u8), rfl, i9⟩) q4 (lU f1) aC (fun bi bd d i6 => ?_))
      have n := d.has.ll Sn
      refine ⟨⟨n, fun h => zY kr h⟩, (bS x fun cz f2 x => uI 16 rfl kr (.inl rfl) rfl dc (fun _ _ h => ⟨h.1, nf (by rfl) h.2⟩) ⟨n, fun h => zY kr h⟩ (nn (i := (wi0 .i64 (Q - 1))) lj.out aF aC rfl rfl i6 (mc f2) (lU f2)) (fun cd ⟨_, ⟨cs, rfl, aw⟩, aq, q5⟩ => ?_))⟩
      obtain ⟨u0, u9, rfl⟩ := j0.form
      refine XO 17 rfl (sb (x1 := (⟨Z.Op, Z.K, Z.lg, Z.Kids⟩ : Formula)) lI d i6 rfl rfl (lj.mk ⟨(.slice u0 Z.Kids.length u9), rfl, j0⟩) q5 (lU f2) aC (fun bj u2 d p0 => ?_))
      have n := d.has.ll Sn
      exact ⟨⟨n, fun h => zY kr h⟩, (mM kr (ms (lD (lG (Wh c1 (Wi rfl (Wa (ln ⟨y3, bL _, ((e2.set (Int.toNat Q) i4).set (Int.toNat (wi0 .i64 (Q - 1))) (⟨Z.Op, Z.K, Z.lg, Z.Kids⟩ : Formula)), u2, (wi0 .i64 (Q - 1)), _, (d.ll St), c9, l8, rfl, p0, x⟩))))))))⟩
     refine oI (ow (ow (sU (lD ?_))))
     have s := sj x; subst s
     exact ⟨d4, _, (d.ll St), b6⟩
   rintro bs E W ⟨d3, k8, d, s9⟩ q6
   refine mi (mo ?_)
   have s := sj q6; subst s
   exact qk rfl ⟨_, _, _, rfl, (d.nF (Kr Sn)), (lP.refl _), Lo.refl, (ST.mE d (nS.mem (Kr Sn))), d3, rfl, rfl, s9⟩
 let g5 := (IntKind.u64.wrap (wi0 .i64 (z + B)))
 refine kg (Wm (Wm (Wi rfl (V (rT (k' := .i64) (a := (wi0 .i64 (z + B))) fF gD rfl) (V (Fz (a := g5) (b := 1) rfl rfl dc) (V (rT (k' := .u64) (a := (Int.fdiv g5 (2 ^ min (Int.toNat 1) (IntKind.bits .u64)))) gD fF rfl) (Wa (lr ?_))))))))
 let R := (wi0 .i64 (Int.fdiv g5 (2 ^ min (Int.toNat 1) (IntKind.bits .u64))))
 let e5 := (wi0 .i64 (R + M))
 refine Wm (Wm (Wi rfl (Wa (lr (Wa (Wa (ln (lH (CJ hm (fun i2 E W => ∃ l0, ST false (keys (c ++ [])) w W U (c ++ l0) ∧ E 0 = t ∧ E 1 = (.int .i64 z) ∧ E 2 = (.int .i64 M) ∧ E 3 = (.int .i64 B) ∧ E 4 = D ∧ E 18 = (.int .i64 R) ∧ E 19 = (.int .i64 e5) ∧ E 20 = (.int .i64 i2.1) ∧ E 21 = (.int .i64 i2.2)) (fun i2 b5 => ?_) ?_)))))))))
 ·refine sg (Wm (Wm (Wi rfl (ln (CI b5 rfl (fun q1 b5 => ?_) (fun q1 b5 => ?_))))))
  ·refine sg (Wm (Wm (Wi rfl (Wa (ln (lG (Wm (Wa (ln ?_)))))))))
   have s := sj b5; subst s
   exact ⟨_, (d.ll St), rfl, rfl, rfl, rfl, rfl, rfl, rfl, rfl, rfl⟩
  refine sg (Wm (Wa (ln (lG (Wm (Wa (ln ?_)))))))
  have s := sj b5; subst s
  exact ⟨_, (d.ll St), rfl, rfl, rfl, rfl, rfl, rfl, rfl, rfl, rfl⟩
 rintro ⟨z0, z1⟩ E W ⟨l0, d, v0, v1, v2, v3, v4, v5, l9, v6, v7⟩ q8
 refine sg (Wh l9 (Wi rfl (Wa (ln (lH (nz (ph (fun m E W => ∃ g K l1, ST false (keys (c ++ [])) w W U (c ++ l1) ∧ E 0 = t ∧ E 1 = (.int .i64 z) ∧ E 2 = (.int .i64 M) ∧ E 3 = (.int .i64 B) ∧ E 4 = D ∧ E 18 = (.int .i64 R) ∧ E 19 = (.int .i64 e5) ∧ E 20 = (.int .i64 g) ∧ E 21 = (.int .i64 K) ∧ E 22 = (.int .i64 (wi0 .i64 (e5 - 1))) ∧ mF a0 z B M f4 t6 m g K = some r) mq ⟨z0, z1, _, (d.ll St), v0, v1, v2, v3, v4, v5, l9, v6, v7, rfl, q8⟩ ?_)))))))
 rintro m E W ⟨g, K, l1, d, c2, d7, c3, d8, d0, d9, g1, b1, g2, g3, k⟩
 let g6 := (IntKind.u64.wrap (wi0 .i64 (g + K)))
 let a3 := (Int.fdiv g6 (2 ^ min (Int.toNat 1) (IntKind.bits .u64)))
 let j2 := (wi0 .i64 a3)
 let a2 := (wi0 .i64 (e5 - g))
 cases m with
 | zero => rw [mF] at k; cases k
 | succ n4 =>
  refine lH (sg (Wh b1 (Wh g2 (Wi rfl (ln (CI k rfl (fun p6 k => ?_) (fun p6 k => ?_)))))))
  ·refine kn (bg (Wh b1 (Wh g2 (Wi rfl (V (rT (k' := .i64) (a := (wi0 .i64 (g + K))) fF gD rfl) (V (Fz (a := g6) (b := 1) rfl rfl dc) (V (rT (k' := .u64) (a := (Int.fdiv g6 (2 ^ min (Int.toNat 1) (IntKind.bits .u64)))) gD fF rfl) (Wa (ln (lH ?_))))))))))
   replace d := d.drew
   have n := d.has.ll (Kr Sn)
   refine mw n lY (X 0 rfl n (lz d0) (X 1 rfl n (lz c2) (X 2 rfl n (lz g3) (X 3 rfl n (lz rfl) (X 4 rfl n (mz rfl rfl rfl) (bS k fun z2 k1 k => XQ 5 rfl n (nn (i := (wi0 .i64 ((wi0 .i64 (e5 - 1)) - j2))) lj.out aF aC rfl rfl a5 (mc k1) (lU k1)) (fun ce ⟨_, ⟨y6, rfl, t0⟩, r9, al⟩ => XH 6 rfl n (fun _ A => lq rfl (ma (pj.hp _) (r9.mono (nG (fun b o F => A.2 b o (Ml F)))) bB aC)) (X 7 rfl n (lz c2) (X 8 rfl n (lz rfl) (bS k fun z3 k2 k => XQ 9 rfl n (nn (i := (wi0 .i64 a3)) lj.out aF aC rfl rfl a5 (mc k2) (lU k2)) (fun cf ⟨_, ⟨y7, rfl, t1⟩, s0, am⟩ => XH 10 rfl n (fun _ A => lq rfl (ma (pj.hp _) (s0.mono (nG (fun b o F => A.2 b o (Ml F)))) bB aC)) (bS k fun ch s2 k => ?_))))))))))))
   refine XE 11 rfl (zz (z2, z3) d c6 (lP.refl _) (wH.mk lI lI (lj.mk ⟨y6, rfl, t0⟩) (lj.mk ⟨y7, rfl, t1⟩) d.lx) rfl (xv rfl rfl) s2 (fun bk d => ?_))
   have n := d.has.ll (Kr Sn)
   refine ⟨n, (X 12 rfl n (mz rfl rfl rfl) (X 13 rfl n (ot rfl) (mM kr (lD (CI k rfl (fun p7 k => ?_) (fun p7 k => ?_))))))⟩
   ·exact lG (Wm (Wi rfl (Wa (me (ms (lD ⟨n4, bL _, (wi0 .i64 (j2 + 1)), K, _, (d.ll St), c2, d7, c3, d8, d0, d9, g1, rfl, g2, g3, k⟩))))))
   exact lG (Wm (Wa (me (ms (lD ⟨n4, bL _, g, j2, _, (d.ll St), c2, d7, c3, d8, d0, d9, g1, b1, rfl, g3, k⟩)))))
  refine oI (ow (ow (sU (lD (sg (Wh g1 (Wh b1 (Wi rfl (Wa (ln (lH (CJ k (fun n8 E W => ∃ b7 a4 l2, lP U a4 ∧ Lo (keys (c ++ [])) w U a4 ∧ ST false (keys (c ++ [])) w W a4 (b7 ++ l2) ∧ E 0 = t ∧ E 1 = (.int .i64 z) ∧ E 3 = (.int .i64 B) ∧ E 4 = D ∧ E 18 = (.int .i64 R) ∧ E 20 = (.int .i64 g) ∧ E 24 = (.int .i64 a2) ∧ mO 58 lj 5 a4 t n8 b7) (fun n8 r2 => ?_) ?_))))))))))))
  ·refine sg (Wh b1 (Wh c3 (Wi rfl (Wm (LJ r2 (fun n9 E W => ∃ l6, ST false (keys (c ++ [])) w W U (c ++ l6) ∧ E 0 = t ∧ E 1 = (.int .i64 z) ∧ E 2 = (.int .i64 M) ∧ E 3 = (.int .i64 B) ∧ E 4 = D ∧ E 18 = (.int .i64 R) ∧ E 20 = (.int .i64 g) ∧ E 24 = (.int .i64 a2) ∧ E 185 = (.bool n9)) 4 ?_ (fun n9 b4 f6 => ?_))))))
   ·rintro de E W ⟨l6, d, h4, m8, w7, m9, h5, n0, h6, h7, w8⟩ a8
    refine ln (CI a8 w8 (fun q0 a8 => ?_) (fun q0 a8 => ?_))
    ·refine lG (Wh h4 (Wh h6 (Wh w7 (Wh h7 (Wh h5 (bS a8 fun ck s5 a8 => ?_))))))
     refine VE (eD d (Cr Qz Cn) call364 (fun hh => nm.ng (zq t a0 c g M a2 D f4 _ _ hh a5 (c6.mono (lP.refl _)) s5)) ?_)
     rintro _ cv z5 ba d o2 bl ⟨u5, e8, rfl, t4⟩
     obtain rfl := e8.symm
     replace d := d.perm (Tr Tn)
     refine ln ?_
     have s := sj a8; subst s
     exact ⟨u5, z5, _, o2, bl, (d.ll St), h4, m8, m9, h5, n0, h6, h7, t4⟩
    refine kn ?_
    have s := sj a8; subst s
    exact ⟨c, U, _, (lP.refl _), Lo.refl, (d.ll St), h4, m8, m9, h5, n0, h6, h7, a5⟩
   refine bC b4 (fun J b4 => ?_) (fun J b4 => ?_)
   ·refine ug J (lz c3) (ug J (lz rfl) (ug J (mz rfl rfl rfl) (V (lX (cB J) rfl) ?_)))
    have s := sj b4; subst s
    exact f6 _ _ ⟨_, (d.ll St), c2, d7, c3, d8, d0, d9, b1, rfl, rfl⟩
   refine un J (un J (un J (V (lW (cB J) rfl) ?_)))
   have s := sj b4; subst s
   exact f6 _ _ ⟨_, (d.ll St), c2, d7, c3, d8, d0, d9, b1, rfl, rfl⟩
  rintro y0 E W ⟨b7, a4, l2, c4, O, d, m0, g4, m1, m2, g7, e0, m3, j3⟩ q9
  refine lH (CJ q9 (fun n6 E W => ∃ b9 c5 l3, lP a4 c5 ∧ Lo (keys (c ++ [])) w a4 c5 ∧ ST false (keys (c ++ [])) w W c5 (b9 ++ l3) ∧ E 0 = t ∧ E 3 = (.int .i64 B) ∧ E 4 = D ∧ E 18 = (.int .i64 R) ∧ E 24 = (.int .i64 a2) ∧ mO 58 lj 5 c5 t n6 b9) (fun n6 r1 => ?_) ?_)
  ·refine sg (Wh g4 (Wh e0 (Wi rfl (Wm (LJ r1 (fun n7 E W => ∃ l5, ST false (keys (c ++ [])) w W a4 (b7 ++ l5) ∧ E 0 = t ∧ E 1 = (.int .i64 z) ∧ E 3 = (.int .i64 B) ∧ E 4 = D ∧ E 18 = (.int .i64 R) ∧ E 20 = (.int .i64 g) ∧ E 24 = (.int .i64 a2) ∧ E 199 = (.bool n7)) 4 ?_ (fun n7 b3 f5 => ?_))))))
   ·rintro db E W ⟨l5, d, h1, w4, m6, h2, h3, w5, m7, w6⟩ a7
    refine ln (CI a7 w6 (fun p9 a7 => ?_) (fun p9 a7 => ?_))
    ·refine lG (Wh h1 (Wh w4 (Wh w5 (Wh h3 (Wh h2 (bS a7 fun cj s4 a7 => ?_))))))
     refine VE (eD d (Cr Qz Cn) call357 (fun hh => (s6 t y0 b7 z g R D f4 _ _ hh j3 (c6.mono c4) s4)) ?_)
     rintro _ cu z4 az d o1 aE ⟨u4, e7, rfl, t3⟩
     obtain rfl := e7.symm
     replace d := d.perm (Tr Tn)
     refine ln ?_
     have s := sj a7; subst s
     exact ⟨u4, z4, _, o1, aE, (d.ll St), h1, m6, h2, h3, m7, t3⟩
    refine kn ?_
    have s := sj a7; subst s
    exact ⟨b7, a4, _, (lP.refl _), Lo.refl, (d.ll St), h1, m6, h2, h3, m7, j3⟩
   refine bC b3 (fun I b3 => ?_) (fun I b3 => ?_)
   ·refine ug I (lz e0) (ug I (lz g7) (ug I (mz rfl rfl rfl) (V (lX (cB I) rfl) ?_)))
    have s := sj b3; subst s
    exact f5 _ _ ⟨_, (d.ll St), m0, g4, m1, m2, g7, e0, m3, rfl⟩
   refine un I (un I (un I (V (lW (cB I) rfl) ?_)))
   have s := sj b3; subst s
   exact f5 _ _ ⟨_, (d.ll St), m0, g4, m1, m2, g7, e0, m3, rfl⟩
  rintro y1 E W ⟨b9, c5, l3, d2, P, d, m4, g8, m5, g9, e1, j4⟩ r0
  refine sg (Wh g9 (Wh e1 (Wi rfl (Wm (LJ r0 (fun n5 E W => ∃ l4, ST false (keys (c ++ [])) w W c5 (b9 ++ l4) ∧ E 0 = t ∧ E 3 = (.int .i64 B) ∧ E 4 = D ∧ E 18 = (.int .i64 R) ∧ E 24 = (.int .i64 a2) ∧ E 213 = (.bool n5)) 4 ?_ (fun n5 b2 f3 => ?_))))))
  ·rintro da E W ⟨l4, d, v8, v9, w0, w1, w2, w3⟩ a6
   refine ln (CI a6 w3 (fun p8 a6 => ?_) (fun p8 a6 => ?_))
   ·refine lG (Wh v8 (Wh w1 (Wh w2 (Wh v9 (Wh w0 (bS a6 fun ci s3 a6 => ?_))))))
    refine VE (eD d (Cr Qz Cn) call357 (fun hh => (s6 t y1 b9 R a2 B D f4 _ _ hh j4 (c6.mono (c4.trans d2)) s3)) ?_)
    rintro _ ct df ay d o0 ad ⟨u3, e6, rfl, t2⟩
    obtain rfl := e6.symm
    replace d := d.perm (Tr Tn)
    refine me (rS ?_)
    have s := sj a6; subst s
    exact qk rfl ⟨_, _, _, rfl, (d.nF (Kr Sn)), ((c4.trans d2).trans o0), ((O.trans P).trans ad), (ST.mE d (nS.mem (Kr Sn))), u3, rfl, rfl, t2⟩
   refine mX (rS ?_)
   have s := sj a6; subst s
   exact qk rfl ⟨_, _, _, rfl, (d.nF (Kr Sn)), (c4.trans d2), (O.trans P), (ST.mE d (nS.mem (Kr Sn))), b9, rfl, rfl, j4⟩
  refine bC b2 (fun H b2 => ?_) (fun H b2 => ?_)
  ·refine ug H (lz e1) (ug H (lz g8) (ug H (mz rfl rfl rfl) (V (lX (cB H) rfl) ?_)))
   have s := sj b2; subst s
   exact f3 _ _ ⟨_, (d.ll St), m4, g8, m5, g9, e1, rfl⟩
  refine un H (un H (un H (V (lW (cB H) rfl) ?_)))
  have s := sj b2; subst s
  exact f3 _ _ ⟨_, (d.ll St), m4, g8, m5, g9, e1, rfl⟩
theorem rG : ∀ (n : Nat) (c : Value) (k : List Formula) (a : LO) (t : Int) (u : Int) (x : Int) (g : Value) (y : (Formula × Formula) → Option Int) (r : List Formula) (w : World) {i : lZ} (H : oT i (a ++ []) w) (B : mO 58 lj 5 i c k a) (D : xE pg0 g i (wH lj lj) (fun (r : Int) => (.int .i64 r)) y) (_ : nh n k t u x y = some r),
  nm false pg0 357 [c, (.int .i64 t), (.int .i64 u), (.int .i64 x), g] w i (a ++ []) (fun v z G => ∃ j, v = (.tuple #[]) ∧ z = (j ++ []) ∧ mO 58 lj 5 G c r j)
 | 0 => by intros; rename_i h; simp only [nh] at h; cases h
 | n + 1 => xx (nh n) (rG n)
theorem zM (a : Value) (a0 : List Formula) (c : LO) (Q : Int) (x : Value) (f2 : (Formula × Formula) → Option Int) (r : List Formula) (w : World) {μ0 : lZ} (h0 : oT μ0 (c ++ []) w) (k4 : mO 58 lj 5 μ0 a a0 c) (c7 : xE pg0 x μ0 (wH lj lj) (fun (r : Int) => (.int .i64 r)) f2) (hm : su a0 Q f2 = some r) :
  nm false pg0 338 [a, (.int .i64 Q), x] w μ0 (c ++ []) (fun v L1 μ1 => ∃ S1, v = (.tuple #[]) ∧ L1 = (S1 ++ []) ∧ mO 58 lj 5 μ1 a r S1) := by
 refine uW h0 63 func338 rfl (fun b => sg (Wa (lr (Wm (Wa (Wa (ln (lH (nz (ph (fun m E W => ∃ d4 d0 d5 P d6 f1, lP μ0 d6 ∧ Lo (keys (c ++ [])) w μ0 d6 ∧ ST false (keys (c ++ [])) w W d6 (d0 ++ f1) ∧ E 0 = a ∧ E 1 = (.int .i64 Q) ∧ E 2 = x ∧ E 6 = (.int .i64 20) ∧ E 7 = (.int .i64 d5) ∧ E 8 = (.int .i64 P) ∧ mO 58 lj 5 d6 a d4 d0 ∧ nC Q f2 m d4 d5 P = some r) mq ⟨a0, c, 0, 20, μ0, _, (lP.refl _), Lo.refl, (b.ll St), rfl, rfl, rfl, rfl, rfl, rfl, k4, hm⟩ ?_))))))))))
 rintro m E W ⟨d4, d0, d5, P, d6, f1, z, l, b, b4, b5, b6, d7, f4, b7, h1, i⟩
 cases m with
 | zero => rw [nC] at i; cases i
 | succ k5 =>
  refine lH (sg (Wh b7 (Wh b5 (Wi rfl (ln (CI i rfl (fun i4 i => ?_) (fun i4 i => ?_)))))))
  ·refine kn (bg (Wh b4 (Wh f4 (Wh b7 (Wh b6 (bS i fun k6 i7 i => ?_))))))
   refine VE (eD b (Cr Qz Cn) call356 (fun A => (tp a d4 d0 d5 P x f2 _ _ A h1 (c7.mono z) i7)) ?_)
   rintro _ m4 k8 l8 b g0 F ⟨k1, c8, rfl, j0⟩
   obtain rfl := c8.symm
   replace b := b.perm (Tr Tn)
   refine lr (Wh b7 (Wa (ln (lG (Wh b7 (Wh d7 (Wi rfl (Wa (me (ms ?_))))))))))
   exact lD ⟨k5, bL _, k6, k1, P, (wi0 .i64 (P + 20)), k8, _, (z.trans g0), (l.trans F), (b.ll St), b4, b5, b6, d7, rfl, rfl, j0, i⟩
  refine oI (ow (ow (sU (lD (sg (Wh b4 (Wh f4 (Wh b5 (Wh b6 (bS i fun k7 i8 i => ?_))))))))))
  refine VE (eD b (Cr Qz Cn) call356 (fun A => (tp a d4 d0 d5 Q x f2 _ _ A h1 (c7.mono z) i8)) ?_)
  rintro _ m5 R l9 b a5 L ⟨k2, c9, rfl, j3⟩
  obtain rfl := c9.symm
  replace b := b.perm (Tr Tn)
  refine ln (vO (CJ i (fun d8 E W => ∃ b2 a9 f3, lP R a9 ∧ Lo (keys (c ++ [])) w R a9 ∧ ST false (keys (c ++ [])) w W a9 (b2 ++ f3) ∧ mO 58 lj 5 a9 a d8 b2) (fun d8 i6 => ?_) ?_))
  ·refine nz (ph (fun m E W => ∃ a2 I j k e0, lP R k ∧ Lo (keys (c ++ [])) w R k ∧ ST false (keys (c ++ [])) w W k (I ++ e0) ∧ E 0 = a ∧ E 1 = (.int .i64 Q) ∧ E 2 = x ∧ E 6 = (.int .i64 j) ∧ mO 58 lj 5 k a a2 I ∧ nB Q f2 m a2 j = some d8) mq ⟨k7, k2, 20, R, _, (lP.refl _), Lo.refl, (b.ll St), b4, b5, b6, d7, j3, i6⟩ ?_)
   rintro m E W ⟨a2, I, j, k, e0, B, d, b, h6, e4, h7, b3, d1, t⟩
   cases m with
   | zero => rw [nB] at t; cases t
   | succ j6 =>
    refine lH (sg (Wh b3 (Wh e4 (Wi rfl (ln (CI t rfl (fun f7 t => ?_) (fun f7 t => ?_)))))))
    ·refine kn (bg (Wh b3 (Wi rfl (Wa (Wa (ln (lH (CJ t (fun a4 E W => ∃ J y e1, lP k y ∧ Lo (keys (c ++ [])) w k y ∧ ST false (keys (c ++ [])) w W y (J ++ e1) ∧ E 0 = a ∧ E 1 = (.int .i64 Q) ∧ E 2 = x ∧ E 6 = (.int .i64 j) ∧ E 7 = (.int .i64 a4.2) ∧ mO 58 lj 5 y a a4.1 J) (fun a4 g4 => ?_) ?_))))))))
     ·refine nz (ph (fun m E W => ∃ a3 K M D H e3, lP k H ∧ Lo (keys (c ++ [])) w k H ∧ ST false (keys (c ++ [])) w W H (K ++ e3) ∧ E 0 = a ∧ E 1 = (.int .i64 Q) ∧ E 2 = x ∧ E 6 = (.int .i64 j) ∧ E 7 = (.int .i64 M) ∧ E 8 = (.int .i64 D) ∧ mO 58 lj 5 H a a3 K ∧ nL Q j f2 m a3 M D = some a4) mq ⟨a2, I, 0, (wi0 .i64 (2 * j)), k, _, (lP.refl _), Lo.refl, (b.ll St), h6, e4, h7, b3, rfl, rfl, d1, g4⟩ ?_)
      rintro m E W ⟨a3, K, M, D, H, e3, N, h, b, c2, c3, c4, Y, c5, Z, d3, g⟩
      cases m with
      | zero => rw [nL] at g; cases g
      | succ j7 =>
       refine lH (sg (Wh Z (Wh c3 (Wi rfl (ln (CI g rfl (fun f9 g => ?_) (fun f9 g => ?_)))))))
       ·refine kn (bg (Wh c2 (Wh c5 (Wh c5 (Wh Y (Wi rfl (Wh Z (Wh c4 (bS g fun j8 g8 g => ?_)))))))))
        refine VE (eD b (Cr Qz Cn) call357 (fun A => ((rG mq) a a3 K M (wi0 .i64 (M + j)) D x f2 _ _ A d3 (c7.mono (((z.trans a5).trans B).trans N)) g8)) ?_)
        rintro _ l6 k0 l1 b f0 s ⟨h5, a7, rfl, h3⟩
        obtain rfl := a7.symm
        replace b := b.perm (Tr Tn)
        refine lr (Wh Z (Wa (ln (lG (Wh Z (Wh Y (Wi rfl (Wi rfl (Wa (me ?_))))))))))
        exact ms (lD ⟨j7, bL _, j8, h5, D, (wi0 .i64 (D + (wi0 .i64 (2 * j)))), k0, _, (N.trans f0), (h.trans s), (b.ll St), c2, c3, c4, Y, rfl, rfl, h3, g⟩)
       refine oI (ow (ow (sU (lD ?_))))
       obtain rfl := sj g
       exact ⟨K, H, _, N, h, (b.ll St), c2, c3, c4, Y, c5, d3⟩
     rintro ⟨j4, e7⟩ E W ⟨J, y, e1, b0, n, b, b9, U, c0, c1, e5, d2⟩ g2
     refine lH (CJ g2 (fun e6 E W => ∃ T G e2, lP y G ∧ Lo (keys (c ++ [])) w y G ∧ ST false (keys (c ++ [])) w W G (T ++ e2) ∧ E 0 = a ∧ E 1 = (.int .i64 Q) ∧ E 2 = x ∧ E 6 = (.int .i64 j) ∧ mO 58 lj 5 G a e6 T) (fun e6 u => ?_) ?_)
     ·refine sg (Wh e5 (Wh c1 (Wi rfl (Wa (lr (Wm (Wh U (Wi rfl (ln ?_)))))))))
      refine CI u rfl (fun f8 u => ?_) (fun f8 u => ?_)
      ·refine lG (Wh b9 (Wh e5 (Wm (Wh U (Wh c0 (bS u fun l4 g7 u => ?_))))))
       refine VE (eD b (Cr Qz Cn) call357 (fun A => ((rG mq) a j4 J e7 (wi0 .i64 (e7 + j)) Q x f2 _ _ A d2 (c7.mono (((z.trans a5).trans B).trans b0)) g7)) ?_)
       rintro _ l5 j9 l0 b e9 q ⟨h4, a6, rfl, h2⟩
       obtain rfl := a6.symm
       replace b := b.perm (Tr Tn)
       refine ln ?_
       obtain rfl := sj u
       exact ⟨h4, j9, _, e9, q, (b.ll St), b9, U, c0, c1, h2⟩
      refine kn ?_
      obtain rfl := sj u
      exact ⟨J, y, _, (lP.refl _), Lo.refl, (b.ll St), b9, U, c0, c1, d2⟩
     rintro j5 E W ⟨T, G, e2, e8, o, b, h8, h9, i0, i1, g9⟩ g3
     exact lG (Wh i1 (Wi rfl (Wa (me (ms (lD ⟨j6, bL _, j5, T, (wi0 .i64 (j * 2)), G, _, ((B.trans b0).trans e8), ((d.trans n).trans o), (b.ll St), h8, h9, i0, rfl, g9, g3⟩))))))
    refine oI (ow (ow (sU (lD ?_))))
    obtain rfl := sj t
    exact ⟨I, k, _, B, d, (b.ll St), d1⟩
  rintro m3 E W ⟨b2, a9, f3, g1, O, b, i9⟩ i5
  refine rS ?_
  obtain rfl := sj i5
  exact qk rfl ⟨_, _, _, rfl, (b.nF (Kr Sn)), ((z.trans a5).trans g1), ((l.trans L).trans O), (ST.mE b (nS.mem (Kr Sn))), b2, rfl, rfl, i9⟩
theorem zl (c : Value) (k : List Formula) (a : LO) (i : Value) (u : (Formula × Formula) → Option Int) (r : List Formula) (w : World) {t : lZ} (J : oT t (a ++ []) w) (j : mO 58 lj 5 t c k a) (x : xE pg0 i t (wH lj lj) (fun (r : Int) => (.int .i64 r)) u) (hm : pX k u = some r) :
  nm false pg0 321 [c, i] w t (a ++ []) (fun v I K => ∃ B, v = (.tuple #[]) ∧ I = (B ++ []) ∧ mO 58 lj 5 K c r B) := by
 refine uW J 9 func321 rfl (fun b => lG (Wm (Wm (V (zk aF rfl j) (Wm (bS hm fun Q H hm => ?_))))))
 refine VE (eD b (Cr Qz Cn) call338 (fun h => (zM c k a (k.length : Int) i u _ _ h j (x.mono (lP.refl _)) H)) ?_)
 rintro _ T U M b y d ⟨D, g, rfl, z⟩
 obtain rfl := g.symm
 replace b := b.perm (Tr Tn)
 refine me (rS ?_)
 obtain rfl := sj hm
 exact qk rfl ⟨_, _, _, rfl, (b.nF (Kr Sn)), y, d, (ST.mE b (nS.mem (Kr Sn))), D, rfl, rfl, z⟩
theorem DV (F : (List Int) → Formula → Option (List Int)) (f2 : ∀ (a : Nat) (k : Value) (B : List Int) (g : LO) (j : Formula) (u : Value) (r : List Int) (w : World) {μ0 : lZ} (h0 : oT μ0 ((a, Ob #[k] 239) :: (g ++ [])) w) (T : lR 5 (mj .u8) 1 k B g) (t : Sl lj 5 μ0 u j.Kids), F B j = some r → nl false pg0 365 [(.pointer (some ⟨a, 0, none⟩)), (.agg #[(.int .i64 j.Op), (.int .i64 j.K), (.string j.lg.lh), (.string j.lg.lp), u])] w ((a, Ob #[k] 239) :: (g ++ [])) (fun v L1 W' => ∃ n S2, v = (.tuple #[]) ∧ L1 = ((a, Ob #[n] 239) :: (S2 ++ [])) ∧ lR 5 (mj .u8) 1 n r S2)) (a : Nat) (k : Value) (B : List Int) (g : LO) (j : Formula) (u : Value) (r : List Int) (w : World) {μ0 : lZ} (h0 : oT μ0 ((a, Ob #[k] 239) :: (g ++ [])) w) (T : lR 5 (mj .u8) 1 k B g) (t : Sl lj 5 μ0 u j.Kids) (hm : wL F B j = some r) :
  nl false pg0 365 [(.pointer (some ⟨a, 0, none⟩)), (.agg #[(.int .i64 j.Op), (.int .i64 j.K), (.string j.lg.lh), (.string j.lg.lp), u])] w ((a, Ob #[k] 239) :: (g ++ [])) (fun v L1 W' => ∃ n S2, v = (.tuple #[]) ∧ L1 = ((a, Ob #[n] 239) :: (S2 ++ [])) ∧ lR 5 (mj .u8) 1 n r S2) := by
 let b0 := ((a, Ob #[k] 239) :: (g ++ []))
 refine AN h0 40 func365 rfl (fun b => sg ?_)
 obtain ⟨A1, c2, rfl⟩ := t.form
 refine VE (mG b rfl (fun W4 b3 b => lr (Wm (Wf vk (VB b Mh rfl rfl dD (bS hm fun r5 g8 hm => ?_))))))
 refine VE (eM b (Cb (Pb Pz) (Cr (Qb Qz) Cn)) call181 (fun l _ => nl.ng (sO a k B g j.Op _ _ l T g8)) ?_)
 rintro _ j8 o j0 b e9 ae d ⟨L, a9, a2, rfl, a5⟩
 obtain rfl := a2.symm
 replace b := b.perm (Tb (Tr Tn))
 refine lS (Wf vk (VB b (Mt (Ma Mh)) rfl rfl dD (Wi rfl (ln (CI hm rfl (fun e8 hm => ?_) (fun e8 hm => ?_))))))
 ·refine sg (Wm (Wf zN (VA b (Mt (Ma Mh)) (lu j.lg) bO aN (bS hm fun j7 f0 hm => ?_))))
  refine VE (eM b (Cb Pz (Cr Qz Cn)) call182 (fun l _ => nl.ng (wi a L r5.2 a9 j.lg _ _ l a5 f0)) ?_)
  rintro _ j9 k1 j3 b h6 af d ⟨h3, g2, a3, rfl, f4⟩
  obtain rfl := a3.symm
  replace b := b.perm (Tb (Tr Tn))
  refine ln ?_
  replace b := b.ll (Kb (Kr (Db St)))
  refine mi (mo ?_)
  obtain rfl := sj hm
  exact qk rfl ⟨_, _, rfl, (b.nF (Kb (Kr Sn))), h3, g2, rfl, rfl, f4⟩
 refine kn (lH (CJ hm (fun b5 E W => ∃ s q O d6, lP o O ∧ ST false (keys b0) w W O ((a, Ob #[s] 239) :: ((b3, Ol (C1 j.Op j.K j.lg.lh j.lg.lp A1 j.Kids.length c2) 58) :: (q ++ d6))) ∧ E 0 = (.pointer (some ⟨a, 0, none⟩)) ∧ E 3 = (.pointer (some ⟨b3, 0, none⟩)) ∧ lR 5 (mj .u8) 1 s b5 q) (fun b5 y => ?_) ?_))
 ·refine sg (Wf vk (VB b (Mt (Ma Mh)) rfl rfl dD (Wi rfl (ln (CI y rfl (fun c4 y => ?_) (fun c4 y => ?_))))))
  ·refine lG (Wm (Wf zB (VB b (Mt (Ma Mh)) rfl rfl dD (bS y fun i6 d0 y => ?_))))
   refine VE (eM b (Cb Pz (Cr Qz Cn)) call181 (fun l _ => nl.ng (sO a L r5.2 a9 j.K _ _ l a5 d0)) ?_)
   rintro _ i9 g1 h9 b b2 ab d ⟨f9, e3, N, rfl, d5⟩
   obtain rfl := N.symm
   replace b := b.perm (Tb (Tr Tn))
   refine ln ?_
   obtain rfl := sj y
   exact ⟨f9, e3, g1, _, b2, (b.ll (Kb (Sb (Pr Pz) St))), rfl, rfl, d5⟩
  refine kn ?_
  obtain rfl := sj y
  exact ⟨L, a9, o, _, (lP.refl _), (b.ll (Kb (Sb (Pr Pz) St))), rfl, rfl, a5⟩
 rintro g9 E W ⟨s, q, O, d6, c6, b, d7, d8, f3⟩ a0
 refine sg (Wh d7 (V (lA uh d8) (VB b (Mt Mh) rfl rfl gM (V (mS aF rfl t) (bS a0 fun h2 f1 a0 => ?_)))))
 refine VE (eM b (Cb Pz (Cr (Qb Qz) Cn)) call181 (fun l _ => nl.ng (sO a s g9 q (j.Kids.length : Int) _ _ l f3 f1)) ?_)
 rintro _ k0 d9 j4 b c7 ag d ⟨h4, g3, a4, rfl, f5⟩
 obtain rfl := a4.symm
 replace b := b.perm (Tb (Tr Tn))
 refine lr (V (lA uh d8) (VB b (Mt (Ma Mh)) rfl rfl gM (V (mS aF rfl t) (Wm (ln ?_)))))
 replace b := b.ll (Kb (Kr (Db St)))
 refine vO (mQ (fun i E W => ∃ D H z Q U, (E 32 = .int .i64 (i : Nat) ∧ E 31 = .int .i64 (j.Kids.length : Nat)) ∧ lP d9 Q ∧ ST false (keys b0) w W Q ((a, Ob #[D] 239) :: (z ++ U)) ∧ E 0 = (.pointer (some ⟨a, 0, none⟩)) ∧ E 30 = (.slice A1 j.Kids.length c2) ∧ lR 5 (mj .u8) 1 D H z ∧ rL F (j.Kids.drop i) H = some r) j.Kids.length t.len ⟨h4, h2.2, g3, d9, _, ⟨rfl, rfl⟩, (lP.refl _), (b.ll St), d7, rfl, f5, a0⟩ dc dc dc (fun _ _ _ h => by obtain ⟨_, _, _, _, _, R, _⟩ := h; exact R) ?_ ?_)
 ·rintro f6 E W c5 ⟨D, H, z, Q, U, ⟨P, eN⟩, G, b, Y, Z, K, x⟩
  obtain ⟨c, h7, d2, d1, d3⟩ := mA c5
  rw [d2] at x
  refine bg (VQ (nM (i := (f6 : Int)) (x0 := c) lj.out aF aC Z P (t.mono lI.mono (((e9.trans c6).trans c7).trans G)) (aJ _) d1) (fun i5 ⟨_, ⟨i7, rfl, a7⟩, c8⟩ => V (lq rfl (ma b.has c8 bB aC)) (VE (ml b bI (fun i0 i4 b => ?_)))))
  obtain ⟨I, J, rfl⟩ := a7.form
  let A := (C1 c.Op c.K c.lg.lh c.lg.lp I c.Kids.length J)
  refine VO (lL (.agg A.toArray) (A.toArray) b rfl rfl aC oc nb rfl (fun i1 b => ln (lG (Wh Y (VA b Mh A bB aC (bS x fun f7 c9 x => ?_))))))
  refine VE (eM b (Cb (Pb Pz) (Cr (Qb Qz) Cn)) call365 (fun l ad => (f2 a D H z c (.slice I c.Kids.length J) _ _ l K (a7.mono lI.mono ad) c9)) ?_)
  rintro _ i8 g0 h8 b b1 aa d ⟨f8, e2, M, rfl, d4⟩
  obtain rfl := M.symm
  replace b := b.perm (Tb (Tr Tn))
  refine me (ms (lD ?_))
  replace b := b.ll (Kb (Kr (Db St)))
  exact ⟨P, f8, f7, e2, g0, _, ⟨rfl, eN⟩, (G.trans b1), (b.ll St), Y, Z, d4, (by rw [d3]; exact x)⟩
 rintro E W ⟨D, H, z, Q, U, ⟨P, eN⟩, G, b, Y, Z, K, x⟩
 rw [aP] at x
 refine lD (rS ?_)
 obtain rfl := sj x
 exact qk rfl ⟨_, _, rfl, (b.nF (Kb (Kr Sn))), D, z, rfl, rfl, K⟩
theorem Cu : ∀ (n : Nat) (i : Nat) (g : Value) (k : List Int) (c : LO) (j : Formula) (a : Value) (r : List Int) (w : World) {z : lZ} (D : oT z ((i, Ob #[g] 239) :: (c ++ [])) w) (x : lR 5 (mj .u8) 1 g k c) (t : Sl lj 5 z a j.Kids) (_ : qU n k j = some r),
  nl false pg0 365 [(.pointer (some ⟨i, 0, none⟩)), (.agg #[(.int .i64 j.Op), (.int .i64 j.K), (.string j.lg.lh), (.string j.lg.lp), a])] w ((i, Ob #[g] 239) :: (c ++ [])) (fun v B W' => ∃ y u, v = (.tuple #[]) ∧ B = ((i, Ob #[y] 239) :: (u ++ [])) ∧ lR 5 (mj .u8) 1 y r u)
 | 0 => by intros; rename_i h; simp only [qU] at h; cases h
 | n + 1 => DV (qU n) (Cu n)
theorem Hb (k : Nat) (i : Value) (u : List Int) (c : LO) (a : Formula) (j : Value) (r : (Bool × (List Int))) (w : World) {Q : lZ} (Y : oT Q ((k, Ob #[i] 239) :: (c ++ [])) w) (t : lR 5 (mj .u8) 1 i u c) (g : Sl lj 5 Q j a.Kids) (hm : xu u a = some r) :
  nl false pg0 358 [(.pointer (some ⟨k, 0, none⟩)), (.agg #[(.int .i64 a.Op), (.int .i64 a.K), (.string a.lg.lh), (.string a.lg.lp), j])] w ((k, Ob #[i] 239) :: (c ++ [])) (fun v U W' => ∃ M I, v = (.bool (r.1)) ∧ U = ((k, Ob #[M] 239) :: (I ++ [])) ∧ lR 5 (mj .u8) 1 M r.2 I) := by
 refine AN Y 15 func358 rfl (fun b => sg ?_)
 obtain ⟨y, z, rfl⟩ := g.form
 let B := (C1 a.Op a.K a.lg.lh a.lg.lp y a.Kids.length z)
 refine VE (mG b rfl (fun W4 o b => Wa (lS (Wm (V (tE iE rfl rfl) (Wm (Vg rfl rfl (lq rfl (lB b.has Mh B rfl bB aC)) (bS hm fun q K hm => N4 rfl rfl (Eg b call72 (tN a (.slice y a.Kids.length z) _ _ (g.mono lI.mono b.lx) K) (fun W7 b => Vg rfl rfl (ot rfl) (V (lW rfl rfl) ?_)))))))))))
 refine ln (CI hm rfl (fun J hm => ?_) (fun J hm => ?_))
 ·refine sg (Wa (ln ?_))
  replace b := b.ll (Db St)
  refine mi (mo ?_)
  obtain rfl := sj hm
  exact na (v := (.bool false)) rfl rfl ⟨_, _, rfl, (b.nF (Kb (Kr Sn))), i, c, rfl, rfl, t⟩
 refine kg (Wm (VA b Mh B bB aC (bS hm fun s D hm => ?_)))
 refine VE (eM b (Cb (Pb Pz) (Cr (Qb Qz) Cn)) call365 (fun n h => ((Cu mq) k i u c a (.slice y a.Kids.length z) _ _ n t (g.mono lI.mono h) D)) ?_)
 rintro _ a2 a3 Z b T l d ⟨N, H, x, rfl, G⟩
 obtain rfl := x.symm
 replace b := b.perm (Tb (Tr Tn))
 refine ln ?_
 replace b := b.ll (Kb (Kr (Db St)))
 refine sg (Wa (lt ?_))
 obtain rfl := sj hm
 exact na (v := (.bool true)) rfl rfl ⟨_, _, rfl, (b.nF (Kb (Kr Sn))), N, H, rfl, rfl, G⟩
theorem Bg (a : Formula) (g : Value) (r : List Int) (w : World) (c : Sl lj 5 (hp w) g a.Kids) (hm : uk a = some r) :
  nR false pg0 339 [(.agg #[(.int .i64 a.Op), (.int .i64 a.K), (.string a.lg.lh), (.string a.lg.lp), g])] w 5 (mj .u8) 1 r := by
 refine zh 11 func339 rfl (fun d => sg ?_)
 obtain ⟨k, t, rfl⟩ := c.form
 refine VE (mG d rfl (fun W4 A d => Wa (lr (V (nT (v := (.agg #[(.slice none 0 0)])) sC (nq zeroValue239 iD (Ps _ iD) kr)) (VE (mG d rfl (fun W6 B d => Wa (lr (Wm (VA d (Mt Mh) (C1 a.Op a.K a.lg.lh a.lg.lp k a.Kids.length t) bB aC ?_))))))))))
 refine bS hm fun K D hm => ?_
 refine VE (eM d (Cb Pz (C0 Cn)) call358 (fun u n => (Hb B (.slice none 0 0) ([]) [] a (.slice k a.Kids.length t) _ _ u (lR.nil _ _ _) (c.mono lI.mono n) D)) ?_)
 rintro _ U Y M d I q h ⟨H, N, i, rfl, y⟩
 obtain rfl := i.symm
 replace d := d.perm (Tb (Tr Tn))
 refine ln ?_
 replace d := d.ll (Kb (Kr (Db St)))
 refine sg (Wm (bS hm fun T x hm => VE (tW d call184 (nR.ng (BM B H K.2 _ _ (y.sl (fun _ => rfl) (fun b o l => d.at_ (Mt (Ml l)))) (At.of (d.at_ Mh) _ rfl) x)) (fun Q G Z z d J s j => Wa (ln ?_)))))
 replace d := d.ll (Kr (Db (Dr St)))
 refine mi ?_
 obtain rfl := sj hm
 exact na (v := G) rfl rfl ⟨_, z, rfl, d.px (fun p l => (Ml l)) j.nd, j⟩
theorem FC (a : Formula) (j : Value) (c : Formula) (k : Value) (r : Int) (w : World) (g : Sl lj 5 (hp w) j a.Kids) (i : Sl lj 5 (hp w) k c.Kids) (hm : uj a c = some r) :
  lV false pg0 322 [(.agg #[(.int .i64 a.Op), (.int .i64 a.K), (.string a.lg.lh), (.string a.lg.lp), j]), (.agg #[(.int .i64 c.Op), (.int .i64 c.K), (.string c.lg.lh), (.string c.lg.lp), k])] w (.int .i64 r) := by
 refine cG 10 func322 rfl (fun d => sg ?_)
 obtain ⟨x, z, rfl⟩ := g.form
 refine VE (mG d rfl (fun W4 v d => ?_))
 obtain ⟨y, B, rfl⟩ := i.form
 refine VE (mG d rfl (fun W8 A d => Wa (ln (lH ?_))))
 replace d := d.drew
 have h := d.has.ll (Kb (Kb Sn))
 refine mw h lY (XH 0 rfl h (fun _ l => lq rfl (lB l (Mt Mh) (C1 a.Op a.K a.lg.lh a.lg.lp x a.Kids.length z) rfl bB aC)) (XH 2 rfl h (fun _ l => lq rfl (lB l Mh (C1 c.Op c.K c.lg.lh c.lg.lp y c.Kids.length B) rfl bB aC)) (bS hm fun K H hm => XE 1 rfl (tW d call339 (Bg a (.slice x a.Kids.length z) _ _ (g.mono lI.mono d.lx) H) (fun Y N a4 T d t q D => ?_)))))
 have h := d.has.ox t (Dr (Kb (Kb Sn)))
 refine ⟨h, (bS hm fun M I hm => XE 3 rfl (tW d call339 (Bg c (.slice y c.Kids.length B) _ _ (i.mono lI.mono (t.trans d.lx)) I) (fun Z Q a5 U d u s G => ?_)))⟩
 have h := d.has.ox (t.trans u) (Dr (Dr (Kb (Kb Sn))))
 refine ⟨h, (bS hm fun a3 J hm => XE 4 rfl (Eg d call178 (lV.ng (Cj N K Q M _ _ (D.sl (fun _ => rfl) (fun b o n => d.at_ (Ma (Ml n)))) (G.sl (fun _ => rfl) (fun b o n => d.at_ (Ml n))) J)) (fun a2 d => ?_)))⟩
 have h := d.has.ox (t.trans u) (Dr (Dr (Kb (Kb Sn))))
 refine ⟨h, (X 5 rfl h (ny rfl) (mM kr (lD ?_)))⟩
 exact mi (rQ hm d)
theorem Dc (g : Value) (k r : List Formula) (w : World) {G : lZ} (Y : oT G [] w) (u : Sl lj 5 G g k) (hm : vY k = some r) :
  nm false pg0 288 [g] w G [] (fun v U μ1 => ∃ T I, v = T ∧ U = (I ++ []) ∧ mO 58 lj 5 μ1 T r I) := by
 refine uW Y 9 func288 rfl (fun b => sg (Wa (lr (Wm (bS hm fun Z Q hm => ?_)))))
 refine VE (eD b (bH _) call320 (fun h => nm.ng (CD g k _ _ h (u.mono lI.mono (lP.refl _)) Q)) ?_ (L0 := []))
 rintro _ v7 t L9 b y l ⟨i, H, a, rfl, B⟩
 obtain rfl := a.symm
 replace b := b.perm (Tr Tn)
 refine Wa (lr (Wm (bS hm fun a5 z hm => ?_)))
 refine VE (eD b (Cr Qz Cn) call321 (fun h => (zl i Z H (.func (.func 322) #[] #[]) (fun (x : (Formula × Formula)) => uj x.1 x.2) _ _ h B ⟨322, #[], #[], rfl, call322, fun W x vs r F n hm => by obtain ⟨_, _, rfl, M, N⟩ := n; obtain ⟨s, rfl, q⟩ := M.out; obtain ⟨t0, rfl, o⟩ := N.out; exact FC x.1 s x.2 t0 r W q o hm⟩ z)) ?_)
 rintro _ A E a3 b j d ⟨J, c, rfl, D⟩
 obtain rfl := c.symm
 replace b := b.perm (Tr Tn)
 refine lr (Wm (Wa (lt ?_)))
 obtain rfl := sj hm
 exact na (v := i) rfl rfl ⟨_, _, _, rfl, (b.nF (Kr Sn)), (y.trans j), (l.trans d), (ST.mE b (nS.mem (Kr Sn))), i, J, rfl, rfl, D⟩
theorem Ap (g : Value) (a0 : List Formula) (x : LO) (Z : Value) (f1 : (Formula × Formula) → Option Bool) (r : List Formula) (w : World) {μ0 : lZ} (h0 : oT μ0 (x ++ []) w) (B : mO 58 lj 5 μ0 g a0 x) (d2 : xE pg0 Z μ0 (wH lj lj) (fun (r : Bool) => (.bool r)) f1) (hm : qJ a0 f1 = some r) :
  nm false pg0 291 [g, Z] w μ0 (x ++ []) (fun v L1 μ1 => ∃ y1, v = y1 ∧ L1 = [] ∧ Sl lj 5 μ1 y1 (r)) := by
 refine uW h0 66 func291 rfl (fun d => sg (Wa (lS (Wm (V (zk aF rfl B) (Wi rfl (ln (CI hm rfl (fun i3 hm => ?_) (fun i3 hm => ?_)))))))))
 ·refine sg (Wm (Wa (lt (mo ?_))))
  obtain rfl := sj hm
  refine na (v := g) rfl rfl ?_
  obtain ⟨a1, d, i2, F, j0⟩ := ST.xi lI d B
  exact ⟨_, _, _, rfl, (d.nF Sn), i2, F, (ST.mE d (nS.mem Sn)), g, rfl, rfl, j0⟩
 refine kS (Wa (ln (nz (ph (fun m E W => ∃ t b7, ST false (keys (x ++ [])) w W μ0 (x ++ b7) ∧ E 0 = g ∧ E 1 = Z ∧ E 5 = (.int .i64 t) ∧ nV a0 f1 m t = some r) mq ⟨1, _, (d.ll St), rfl, rfl, rfl, hm⟩ ?_))))
 rintro m E W ⟨t, b7, d, y, a3, G, a⟩
 cases m with
 | zero => rw [nV] at a; cases a
 | succ h1 =>
  refine lH (sg (Wh G (Wh y (V (zk aF rfl B) (Wi rfl (ln (CI a rfl (fun d3 a => ?_) (fun d3 a => ?_))))))))
  ·refine kn (lH (nz (lH ?_)))
   replace d := d.drew
   have h := d.has.ll (Kr Sn)
   refine mw h lY (X 0 rfl h (lz a3) (X 1 rfl h (lz y) (X 2 rfl h (lz G) (bS a fun h7 b2 a => XQ 3 rfl h (nn (i := t) lj.out aF aC rfl rfl B (mc b2) (lU b2)) (fun k1 ⟨_, ⟨h3, rfl, e7⟩, e0, i4⟩ => XH 4 rfl h (fun _ s => lq rfl (ma (pj.hp _) (e0.mono (nG (fun b o q => s.2 b o (Ml q)))) bB aC)) (X 5 rfl h (lz y) (X 6 rfl h (lz G) (X 7 rfl h (mz rfl rfl rfl) (bS a fun h8 b3 a => XQ 8 rfl h (nn (i := (wi0 .i64 (t - 1))) lj.out aF aC rfl rfl B (mc b3) (lU b3)) (fun k2 ⟨_, ⟨h4, rfl, e8⟩, e1, i5⟩ => XH 9 rfl h (fun _ s => lq rfl (ma (pj.hp _) (e1.mono (nG (fun b o q => s.2 b o (Ml q)))) bB aC)) (bS a fun k7 e5 a => XE 10 rfl (zz (h7, h8) d d2 (lP.refl _) (wH.mk lI lI (lj.mk ⟨h3, rfl, e7⟩) (lj.mk ⟨h4, rfl, e8⟩) d.lx) rfl (xv rfl rfl) e5 (fun j6 d => ?_)))))))))))))
   have h := d.has.ll (Kr Sn)
   refine ⟨h, (mM kr (lD (CI a rfl (fun d4 a => ?_) (fun d4 a => ?_))))⟩
   ·refine sg (Wh y (Wh G (bS a fun _ L a => VQ (BL (i := t) aF aC rfl rfl B (uw L) (um L)) (fun c4 K => Wa (lS (Wa (ln ?_)))))))
    refine CJ a (fun T E W => ∃ a2 b9, ST false (keys (x ++ [])) w W μ0 (a2 ++ b9) ∧ E 0 = g ∧ E 5 = (.int .i64 T.2) ∧ mO 58 lj 5 μ0 g T.1 a2) (fun T d8 => ?_) ?_
    ·refine nz (ph (fun m E W => ∃ a5 J U u c0, ST false (keys (x ++ [])) w W μ0 (J ++ c0) ∧ E 0 = g ∧ E 1 = Z ∧ E 5 = (.int .i64 U) ∧ E 6 = c4 ∧ E 7 = (.int .i64 u) ∧ mO 58 lj 5 μ0 g a5 J ∧ nX t f1 m a5 U u = some T) mq ⟨a0, x, t, 1, _, (d.ll St), y, a3, G, rfl, rfl, B, d8⟩ ?_)
     rintro m E W ⟨a5, J, U, u, c0, d, N, a4, Q, H, I, k, j⟩
     cases m with
     | zero => rw [nX] at j; cases j
     | succ h2 =>
      refine lH (sg (Wh I (Wh H (V (Mg aF rfl K k) (Wi rfl (ln (CI j rfl (fun d5 j => ?_) (fun d5 j => ?_))))))))
      ·refine kn (lH (CJ j (fun A E W => ∃ M c1, ST false (keys (x ++ [])) w W μ0 (M ++ c1) ∧ E 0 = g ∧ E 1 = Z ∧ E 5 = (.int .i64 A.2) ∧ E 6 = c4 ∧ E 7 = (.int .i64 u) ∧ mO 58 lj 5 μ0 g A.1 M) (fun A c => ?_) ?_))
       ·refine nz (lH ?_)
        replace d := d.drew
        have h := d.has.ll (Kr Sn)
        refine mw h lY (X 0 rfl h (lz a4) (X 1 rfl h (lz H) (X 2 rfl h (lz I) (bS c fun i0 b4 c => XQ 3 rfl h (BW (i := u) lj.out aF aC rfl rfl k K (mc b4) (lU b4)) (fun k3 ⟨_, ⟨h5, rfl, f4⟩, e2, i6⟩ => XH 4 rfl h (fun _ s => lq rfl (ma (pj.hp _) (e2.mono (nG (fun b o q => s.2 b o (Ml q)))) bB aC)) (X 5 rfl h (lz H) (X 6 rfl h (lz I) (X 7 rfl h (mz rfl rfl rfl) (bS c fun i1 b5 c => XQ 8 rfl h (BW (i := (wi0 .i64 (u - 1))) lj.out aF aC rfl rfl k K (mc b5) (lU b5)) (fun k4 ⟨_, ⟨h6, rfl, f5⟩, e3, i7⟩ => XH 9 rfl h (fun _ s => lq rfl (ma (pj.hp _) (e3.mono (nG (fun b o q => s.2 b o (Ml q)))) bB aC)) (bS c fun k8 e6 c => XE 10 rfl (zz (i0, i1) d d2 (lP.refl _) (wH.mk lI lI (lj.mk ⟨h5, rfl, f4⟩) (lj.mk ⟨h6, rfl, f5⟩) d.lx) rfl (xv rfl rfl) e6 (fun j8 d => ?_)))))))))))))
        have h := d.has.ll (Kr Sn)
        refine ⟨h, (X 11 rfl h (ot rfl) (mM kr (lD (CI c rfl (fun d6 c => ?_) (fun d6 c => ?_)))))⟩
        ·refine sg (Wh N (Wh Q (Wh H (Wh I (bS c fun c7 b6 c => VQ (BW (i := u) lj.out aF aC rfl rfl k K (mc b6) (lU b6)) (fun k5 ⟨_, ⟨l0, rfl, R⟩, e4, i8⟩ => V (lq rfl (ma (pj.hp _) (e4.mono (nG (fun b o q => d.has.2 b o (Ml q)))) bB aC)) (bS c fun l2 Y c => VQ (nn (i := U) lj.out aF aC rfl rfl k (mc Y) (lU Y)) (fun k6 ⟨_, ⟨l1, rfl, j3⟩, i9, d7⟩ => ?_))))))))
         obtain ⟨f7, g0, rfl⟩ := R.form
         refine VO (sb (x1 := c7) lI d k rfl rfl (lj.mk ⟨(.slice f7 c7.Kids.length g0), rfl, R⟩) d7 (lU Y) aC (fun j9 f8 d d1 => ln (lG (Wh Q (Wi rfl (Wa (me (ms (lD ?_)))))))))
         obtain rfl := sj c
         exact ⟨f8, _, (d.ll St), N, a4, rfl, H, I, d1⟩
        refine mX (ms (lD ?_))
        obtain rfl := sj c
        exact ⟨J, _, (d.ll St), N, a4, Q, H, I, k⟩
       rintro ⟨g9, h9⟩ E W ⟨M, c1, d, g1, g2, g3, g4, g7, f3⟩ d9
       exact lG (Wh g7 (Wi rfl (Wa (ln ⟨h2, bL _, g9, M, h9, (wi0 .i64 (u + 1)), _, (d.ll St), g1, g2, g3, g4, rfl, f3, d9⟩))))
      refine oI (ow (ow (sU (lD ?_))))
      obtain rfl := sj j
      exact ⟨J, _, (d.ll St), N, Q, k⟩
    rintro ⟨k0, c6⟩ E W ⟨a2, b9, d, c2, c3, P⟩ D
    refine sg (Wh c2 (Wh c3 (bS D fun _ O D => VQ (BL (i := c6) aF aC rfl rfl P (uw O) (um O)) (fun k9 e9 => VO (Em (z := (⟨0, 0, K0, []⟩ : Formula)) (zs := C6) lI d P (lj.mk ⟨(.slice none 0 0), rfl, (Sl.nil _ _ _)⟩) aF bI e9 rfl rfl (fun j7 j5 d d0 => lr (Wh c2 (Wh c3 (bS D fun _ a9 D => VQ (G6 (i := c6) aF aC rfl rfl d0 (uw a9) (um a9)) (fun c5 f0 => ?_))))))))))
    refine Wa (lt (nE (mo (mo (nE (mo ?_))))))
    obtain rfl := sj D
    refine na (v := c5) rfl rfl ?_
    obtain ⟨l3, d, c8, l, f2⟩ := ST.xi lI d f0
    exact ⟨_, _, _, rfl, (d.nF Sn), c8, l, (ST.mE d (nS.mem Sn)), c5, rfl, rfl, f2⟩
   exact mX (ms (lD (lG (Wh G (Wi rfl (Wa (ln ⟨h1, bL _, (wi0 .i64 (t + 1)), _, (d.ll St), y, a3, rfl, a⟩)))))))
  refine oI (ow (ow (sU (lD (sg (Wh y (Wa (lt ?_))))))))
  obtain rfl := sj a
  refine na (v := g) rfl rfl ?_
  obtain ⟨l4, d, c9, n, f6⟩ := ST.xi lI d B
  exact ⟨_, _, _, rfl, (d.nF Sn), c9, n, (ST.mE d (nS.mem Sn)), g, rfl, rfl, f6⟩
theorem rZ (G : Value) (N : List Formula) (H : Value) (l : List Formula) (I : Value) (f2 : (Formula × Formula) → Option Bool) (r : Bool) (w : World) (x : Sl lj 5 (hp w) G N) (Q : Sl lj 5 (hp w) H l) (q : xE pg0 I (hp w) (wH lj lj) (fun (r : Bool) => (.bool r)) f2) (hm : nW N l f2 = some r) :
  lV false pg0 323 [G, H, I] w (.bool r) := by
 refine cG 32 func323 rfl (fun b => sg (Wa (lS (Wm (V (mS aF rfl x) (Wm (V (mS aF rfl Q) (Wi rfl (me ?_)))))))))
 refine lD (CI hm rfl (fun v hm => ?_) (fun v hm => ?_))
 ·refine sg (Wa (lt (mo ?_)))
  obtain rfl := sj hm
  exact rP b
 refine kS (Wm (V (mS aF rfl x) (Wm (ln (mQ (fun i E W => ∃ y, (E 17 = .int .i64 (i : Nat) ∧ E 16 = .int .i64 (N.length : Nat)) ∧ ST false mR w W (hp w) y ∧ E 1 = H ∧ E 2 = I ∧ E 15 = G ∧ mT l f2 (N.drop i) i = some r) N.length x.len ⟨_, ⟨rfl, rfl⟩, (b.ll St), rfl, rfl, rfl, hm⟩ dc dc dc (fun _ _ _ h => by obtain ⟨_, n, _⟩ := h; exact n) ?_ ?_)))))
 ·rintro a4 E W U ⟨y, ⟨d, o⟩, b, z, B, D, a⟩
  obtain ⟨g, c5, a9, s, a3⟩ := mA U
  rw [a9] at a
  refine bg (Wh d (VQ (nM (i := (a4 : Int)) (x0 := g) lj.out aF aC D d x (aJ _) s) (fun b9 ⟨_, ⟨c2, rfl, J⟩, Y⟩ => V (lq rfl (ma b.has Y bB aC)) (VE (ml b bI (fun A R b => Wa ?_))))))
  obtain ⟨j, t, rfl⟩ := J.form
  let a0 := (C1 g.Op g.K g.lg.lh g.lg.lp j g.Kids.length t)
  refine VO (lL (.agg a0.toArray) (a0.toArray) b rfl rfl aC oc nb rfl (fun F b => lr (Wh z (Wm (bS a fun c M a => VQ (nM (i := (a4 : Int)) (x0 := c) lj.out aF aC rfl rfl Q (mc M) (lU M)) (fun c0 ⟨_, ⟨c3, rfl, K⟩, Z⟩ => V (lq rfl (ma b.has Z bB aC)) (VE (ml b bI (fun L b7 b => ?_)))))))))
  obtain ⟨k, u, rfl⟩ := K.form
  let a5 := (C1 c.Op c.K c.lg.lh c.lg.lp k c.Kids.length u)
  refine VO (lL (.agg a5.toArray) (a5.toArray) b rfl rfl aC oc nb rfl (fun O b => lr (Wh B (VA b (Mt Mh) a0 bB aC (VA b Mh a5 bB aC (bS a fun c1 a2 a => VE (zz (g, c) b q (lP.refl _) (wH.mk lI lI (lj.mk ⟨(.slice j g.Kids.length t), rfl, J⟩) (lj.mk ⟨(.slice k c.Kids.length u), rfl, K⟩) b.lx) rfl (xv rfl rfl) a2 (fun P b => V (ot rfl) (ln ?_)))))))))
  replace b := b.ll (Db (Db St))
  refine CI a rfl (fun T a => ?_) (fun T a => ?_)
  ·refine sg (Wa (lt (nE (mo (nE (mo ?_))))))
   obtain rfl := sj a
   exact rP b
  exact mX (ms (lD ⟨d, _, ⟨rfl, o⟩, (b.ll St), z, B, D, (by rw [a3]; exact a)⟩))
 rintro E W ⟨y, ⟨d, o⟩, b, z, B, D, a⟩
 rw [aP] at a
 exact lD (sg (Wa (lt (rQ a b))))
theorem Ee (M : Formula → Formula → Option Bool) (A : ∀ (a : Formula) (j : Value) (c : Formula) (k : Value) (r : Bool) (w : World) (u : Sl lj 5 (hp w) j a.Kids) (y : Sl lj 5 (hp w) k c.Kids), M a c = some r → lV false pg0 292 [(.agg #[(.int .i64 a.Op), (.int .i64 a.K), (.string a.lg.lh), (.string a.lg.lp), j]), (.agg #[(.int .i64 c.Op), (.int .i64 c.K), (.string c.lg.lh), (.string c.lg.lp), k])] w (.bool r)) (a : Formula) (j : Value) (c : Formula) (k : Value) (r : Bool) (w : World) (u : Sl lj 5 (hp w) j a.Kids) (y : Sl lj 5 (hp w) k c.Kids) (hm : xj M a c = some r) :
  lV false pg0 292 [(.agg #[(.int .i64 a.Op), (.int .i64 a.K), (.string a.lg.lh), (.string a.lg.lp), j]), (.agg #[(.int .i64 c.Op), (.int .i64 c.K), (.string c.lg.lh), (.string c.lg.lp), k])] w (.bool r) := by
 refine cG 31 func292 rfl (fun b => sg ?_)
 obtain ⟨N, Y, rfl⟩ := u.form
 let d := (C1 a.Op a.K a.lg.lh a.lg.lp N a.Kids.length Y)
 refine VE (mG b rfl (fun W4 T b => ?_))
 obtain ⟨Q, Z, rfl⟩ := y.form
 let a0 := (C1 c.Op c.K c.lg.lh c.lg.lp Q c.Kids.length Z)
 refine VE (mG b rfl (fun W8 U b => Wa (lr (Wf vk (VB b (Mt Mh) rfl rfl dD (Wf vk (VB b Mh rfl rfl dD (Wi rfl (Wm (LJ hm (fun a9 E W => ∃ a2, ST false mR w W (hp w) ((U, Ol a0 58) :: ((T, Ol d 58) :: a2)) ∧ E 2 = (.pointer (some ⟨T, 0, none⟩)) ∧ E 3 = (.pointer (some ⟨U, 0, none⟩)) ∧ E 4 = (.bool false) ∧ E 16 = (.bool a9)) 6 ?_ (fun a9 D I => ?_)))))))))))
 ·rintro d1 E W ⟨a2, b, J, K, a5, F⟩ o
  refine Wh F (LJ o (fun n E W => ∃ a3, ST false mR w W (hp w) ((U, Ol a0 58) :: ((T, Ol d 58) :: a3)) ∧ E 2 = (.pointer (some ⟨T, 0, none⟩)) ∧ E 3 = (.pointer (some ⟨U, 0, none⟩)) ∧ E 4 = (.bool false) ∧ E 23 = (.bool n)) 6 ?_ (fun n B H => ?_))
  ·rintro d2 E W ⟨a3, b, L, O, h, c1⟩ q
   refine Wh c1 (LJ q (fun l E W => ∃ a4, ST false mR w W (hp w) a4 ∧ E 4 = (.bool false) ∧ E 30 = (.bool l)) 6 ?_ (fun l z G => ?_))
   ·rintro d3 E W ⟨a4, b, c9, P⟩ s
    exact Wg P (lt (rQ s b))
   refine bC z (fun i z => ?_) (fun i z => ?_)
   ·refine ug i (lA uh L) (ug i (lq rfl (lK b.has (Mt Mh) rfl gM)) (ug i (lA uh O) (ug i (lq rfl (lK b.has Mh rfl gM)) (bS z fun d0 v z => vC i (Eg b call323 (rZ (.slice N a.Kids.length Y) a.Kids (.slice Q c.Kids.length Z) c.Kids (.func (.func 292) #[] #[]) (fun (x : (Formula × Formula)) => M x.1 x.2) _ _ (u.mono lI.mono b.lx) (y.mono lI.mono b.lx) ⟨292, #[], #[], rfl, call292, fun W x vs r hs hR hm => by obtain ⟨_, _, rfl, R, c5⟩ := hR; obtain ⟨u0, rfl, k0⟩ := R.out; obtain ⟨t0, rfl, j0⟩ := c5.out; exact A x.1 u0 x.2 t0 r W k0 j0 hm⟩ v) (fun c8 b => V (lX (cB i) rfl) ?_))))))
    obtain rfl := sj z
    exact G _ _ ⟨_, (b.ll (Db (Db St))), h, rfl⟩
   refine un i (un i (un i (un i (un i (V (lW (cB i) rfl) ?_)))))
   obtain rfl := sj z
   exact G _ _ ⟨_, (b.ll (Db (Db St))), h, rfl⟩
  refine bC B (fun g B => ?_) (fun g B => ?_)
  ·refine ug g (lA zN J) (ug g (lq rfl (lB b.has (Mt Mh) (lu a.lg) rfl bO aN)) (ug g (lA zN K) (ug g (lq rfl (lB b.has Mh (lu c.lg) rfl bO aN)) (ug g (AD rfl rfl (qV iF) (xe (vw _ a.lg c.lg))) (V (lX (cB g) rfl) ?_)))))
   obtain rfl := sj B
   exact H _ _ ⟨_, (b.ll St), J, K, a5, rfl⟩
  refine un g (un g (un g (un g (un g (V (lW (cB g) rfl) ?_)))))
  obtain rfl := sj B
  exact H _ _ ⟨_, (b.ll St), J, K, a5, rfl⟩
 refine bC D (fun t D => ?_) (fun t D => ?_)
 ·refine ug t (lA zB rfl) (ug t (lq rfl (lK b.has (Mt Mh) rfl dD)) (ug t (lA zB rfl) (ug t (lq rfl (lK b.has Mh rfl dD)) (ug t (mz rfl rfl rfl) (V (lX (cB t) rfl) ?_)))))
  obtain rfl := sj D
  exact I _ _ ⟨_, (b.ll St), rfl, rfl, rfl, rfl⟩
 refine un t (un t (un t (un t (un t (V (lW (cB t) rfl) ?_)))))
 obtain rfl := sj D
 exact I _ _ ⟨_, (b.ll St), rfl, rfl, rfl, rfl⟩
theorem Dk : ∀ (n : Nat) (g : Formula) (a : Value) (i : Formula) (c : Value) (r : Bool) (w : World) (j : Sl lj 5 (hp w) a g.Kids) (k : Sl lj 5 (hp w) c i.Kids) (_ : pu n g i = some r),
  lV false pg0 292 [(.agg #[(.int .i64 g.Op), (.int .i64 g.K), (.string g.lg.lh), (.string g.lg.lp), a]), (.agg #[(.int .i64 i.Op), (.int .i64 i.K), (.string i.lg.lh), (.string i.lg.lp), c])] w (.bool r)
 | 0 => by intros; rename_i h; simp only [pu] at h; cases h
 | n + 1 => Ee (pu n) (Dk n)
theorem uL (j : Nat) (a0 : mu) (c : Int) (K : Value) (a2 : List Formula) (r : (Formula × mu)) (w : World) {μ0 : lZ} (h0 : oT μ0 ((j, Ol (nj a0) 249) :: []) w) (b5 : Sl lj 5 μ0 K a2) (hm : py a0 c a2 = some r) :
  nm false pg0 248 [(.pointer (some ⟨j, 0, none⟩)), (.int .i64 c), K] w μ0 ((j, Ol (nj a0) 249) :: []) (fun v L1 μ1 => ∃ y1, v = (.agg #[(.int .i64 ((r.1).Op)), (.int .i64 ((r.1).K)), (.string (((r.1).lg).lh)), (.string (((r.1).lg).lp)), y1]) ∧ L1 = ((j, Ol (nj (r.2)) 249) :: []) ∧ Sl lj 5 μ1 y1 ((r.1).Kids)) := by
 refine uW h0 37 func248 rfl (fun b => sg (VE (ml b bI (fun W2 b1 b => lr (Wm (Wi rfl (VE (ml b zeroValue3 (fun W4 A b => VO (lL (.int .i64 (wi0 .i64 (5 - c))) (#[(.int .i64 (wi0 .i64 (5 - c)))]) b rfl rfl jv (D5 _ (wi0 .i64 (5 - c))) nb rfl (fun W5 b => ln (lH ?_))))))))))))
 let n := (wi0 .i64 (5 - c))
 let s : Value := (.agg (RC n).toArray)
 refine lG (Wm (Wm (bS hm fun r6 d1 hm => ?_)))
 refine VE (eD b (bH _) call289 (fun o => nm.ng (I2 c K a2 _ _ o (b5.mono lI.mono (lP.refl _)) d1)) ?_ (L0 := []))
 rintro _ f4 aa e2 b B d ⟨R, H, rfl, a3⟩
 obtain rfl := H.symm
 refine Wa (lS (Wm (V (tw (by exact uT rfl) rfl) (bS hm fun f3 c1 hm => VE (Eg b call194 (vE R r6 (.func (.func 290) #[] #[(.pointer (some ⟨A, 0, none⟩))]) (fun (x : Formula) => rU x n) _ _ (a3.mono lI.mono b.lx) ⟨290, #[], #[(.pointer (some ⟨A, 0, none⟩))], rfl, call290, fun W x vs r hs F hm => by obtain ⟨_, rfl, U⟩ := F; obtain ⟨O, rfl, L⟩ := U.out; exact (Bp x O A n r W L (At.of (hs _ _ (b.at_ Mh)) _ rfl) hm).ng⟩ c1) (fun e5 b => ln (CI hm rfl (fun b6 hm => ?_) (fun b6 hm => ?_))))))))
 ·refine sg (VB b Mh rfl rfl dD (V (nT (v := s) (om rfl) (nq bI cK (BI _ cK) kr)) ?_))
  replace b := b.perm (Nb (Pb Pz) Nz)
  refine VO (lL s ((RC n).toArray) b rfl rfl aC oc nb rfl (fun e6 b => ln ?_))
  replace b := b.ll (Kb (Db St))
  refine mi (mo ?_)
  obtain rfl := sj hm
  exact rN (v := s) rfl rfl (lB b.has Mh (RC n) rfl bB aC) ⟨_, _, _, rfl, (b.nF (Db (Kb Sn))), B, d, (ST.mE b (nS.mem (Db (Kb Sn)))), (.slice none 0 0), rfl, rfl, (Sl.nil _ _ _)⟩
 refine kn ?_
 replace b := b.ll (Db St)
 refine sg (Wm (bS hm fun d2 c2 hm => ?_))
 refine VE (eD b (bH _) call288 (fun o => (Dc R r6 _ _ o (a3.mono lI.mono (lP.refl _)) c2)) ?_ (L0 := []))
 rintro _ f5 f9 e3 b N h ⟨d5, c7, I, rfl, c4⟩
 obtain rfl := I.symm
 replace b := b.perm (Tr Tn)
 refine bS hm fun z c3 hm => ?_
 refine VE (eD b (Cr Qz Cn) call291 (fun o => (Ap d5 d2 c7 (.func (.func 292) #[] #[]) (fun (x : (Formula × Formula)) => pu mq x.1 x.2) _ _ o c4 ⟨292, #[], #[], rfl, call292, fun W x vs r hs F hm => by obtain ⟨_, _, rfl, U, d0⟩ := F; obtain ⟨O, rfl, L⟩ := U.out; obtain ⟨t0, rfl, j0⟩ := d0.out; exact (Dk mq) x.1 O x.2 t0 r W L j0 hm⟩ c3)) ?_)
 rintro _ f6 d7 e4 b Q l ⟨d6, J, rfl, y⟩
 obtain rfl := J.symm
 refine Wa (ln (lH (CJ hm (fun P E W => ∃ a5, ST false (keys ((j, Ol (nj a0) 249) :: [])) w W d7 ((b1, Ol C6 58) :: ((j, Ol (nj P) 249) :: a5)) ∧ E 1 = (.int .i64 c) ∧ E 6 = (.pointer (some ⟨b1, 0, none⟩)) ∧ E 8 = d6) (fun P u => ?_) ?_)))
 ·refine sg (Wm (V (mS aF rfl y) (Wi rfl (ln (CI u rfl (fun b9 u => ?_) (fun b9 u => ?_))))))
  ·refine lG (Wm (Wn (Wf Lc ?_)))
   replace b := b.perm (Nb (Pb Pz) Nz)
   refine VO (lL (.int .i64 12) ((nj (⟨12⟩ : mu)).toArray) b rfl rfl sizeOf40 (D5 _ 12) nb rfl (fun f1 b => ln ?_))
   obtain rfl := sj u
   exact ⟨_, (b.ll (Sb (Pb Pz) St)), rfl, rfl, rfl⟩
  refine kn ?_
  obtain rfl := sj u
  exact ⟨_, (b.ll St), rfl, rfl, rfl⟩
 rintro f8 E W ⟨a5, b, c9, M, T⟩ g
 refine lH (sg (Wh T (V (mS aF rfl y) (Wi rfl (ln (CI g rfl (fun b7 g => ?_) (fun b7 g => ?_)))))))
 ·refine sg (Wh T (bS g fun a Z g => VQ (nM (i := 0) (x0 := a) lj.out aF aC rfl rfl y (mc Z) (lU Z)) (fun f2 ⟨_, ⟨f7, rfl, Y⟩, c0⟩ => V (lq rfl (ma b.has c0 bB aC)) ?_)))
  obtain ⟨D, G, rfl⟩ := Y.form
  let a4 := (C1 a.Op a.K a.lg.lh a.lg.lp D a.Kids.length G)
  refine VO (lL (.agg a4.toArray) (a4.toArray) b M rfl aC oc nb rfl (fun e9 b => lt (mo ?_)))
  obtain rfl := sj g
  exact rN (v := (.agg a4.toArray)) rfl M (lB b.has Mh a4 rfl bB aC) ⟨_, _, _, rfl, (b.nF (Db (Kb Sn))), ((B.trans N).trans Q), ((d.trans h).trans l), (ST.mE b (nS.mem (Db (Kb Sn)))), (.slice D a.Kids.length G), rfl, rfl, Y⟩
 refine kg (Wh c9 (Wh T ?_))
 obtain ⟨k, t, rfl⟩ := y.form
 let a9 : Value := (.slice k z.length t)
 let q : Value := (.agg #[(.int .i64 c), (.int .i64 0), (.string zS), (.string zS), a9])
 refine V (nT (v := q) (sQ rfl rfl) (nq bI cK (BI _ cK) kr)) (VO (lL q (#[(.int .i64 c), (.int .i64 0), (.string zS), (.string zS), a9]) b M rfl aC oc nb rfl (fun f0 b => lt ?_)))
 obtain rfl := sj g
 exact rN (v := q) rfl M (lB b.has Mh [(.int .i64 c), (.int .i64 0), (.string zS), (.string zS), a9] rfl bB aC) ⟨_, _, _, rfl, (b.nF (Db (Kb Sn))), ((B.trans N).trans Q), ((d.trans h).trans l), (ST.mE b (nS.mem (Db (Kb Sn)))), a9, rfl, rfl, y⟩
end Go.Proofs.YtklbhegeiijbjaaGreat
