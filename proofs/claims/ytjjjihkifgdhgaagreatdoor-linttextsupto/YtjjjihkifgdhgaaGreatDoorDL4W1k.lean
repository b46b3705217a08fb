/- a part of a proof of LintTexts -/
import Derived.Test.YtjjjihkifgdhgaaGreatDoorDL4Mk
import Derived.Test.YtjjjihkifgdhgaaGreatDoorProg
set_option linter.all false
namespace Go.Proofs.YtjjjihkifgdhgaaGreatDoor
open Go.IntKind renaming wrap → wi0
open Go.Proofs.Tryz renaming prog → pg0
open Go.RowKit
set_option maxRecDepth 10000
open Tryz
def aD := @sizeOf30
def aG := @underlying28
def aZ := @isAgg30
def bn := @sizeOf52
def bo := @underlying45
def bB := @sizeOf27
def bL := @zeroValue30
def bT := @isAgg27
def bU := @underlying37
def cC := @underlying30
def cJ := @isAgg52
def cO := @isAgg3
def cY := @isAgg9
def dv := @underlying53
def dD := @underlying23
def dF := @sizeOf25
def dG := @underlying40
def dH := @underlying9
def dN := @zeroValue52
def dO := @sizeOf132
def dP := @zeroValue40
def dQ := @sizeOf40
def dU := @underlying27
def dV := @underlying52
def ed := @isAgg25
def ee := @underlying3
def ef := @sizeOf57
def er := @underlying246
def et := @underlying242
def eC := @underlying22
def eE := @underlying271
def eL := @underlying25
def eO := @underlying65
def eP := @zeroValue247
def eT := @underlying285
def eU := @underlying247
def fc := @isAgg28
def fC := @underlying215
def fD := @underlying213
def fP := @zeroValue27
def fZ := @sizeOf3
def ga := @underlying34
def gm := @eqGuardType52
def gn := @underlying226
def gp := @underlying165
def gw := @isAgg242
def gx := @zeroValue57
def gG := @sizeOf9
def gH := @underlying57
def gI := @zeroValue132
def gJ := @underlying91
def ij := @zeroValue45
def iu := @underlying224
def iv := @underlying152
def iD := @sizeOf285
def iH := @zeroValue4
def iI := @zeroValue285
def iP := @sizeOf53
def iQ := @underlying5
def iR := @isAgg132
def iU := @call206
def iV := @isAgg57
def iW := @isAgg53
abbrev K0 : iX := ⟨zS, zS⟩
abbrev K1 : ByteArray := ⟨#[111, 119, 110]⟩
abbrev K2 : ByteArray := ⟨#[99, 108, 105]⟩
abbrev K3 : ju := ⟨4, 0, 0⟩
abbrev K4 : ju := ⟨5, 0, 0⟩
abbrev K5 : jF := ⟨0⟩
abbrev K6 : iY := ⟨0, K0, zS, K0, K0, zS⟩
abbrev C1 (b c : Int) (d g : ByteArray) (h : Option Addr) (i j : Nat) : List Value := [(.int .i64 b), (.int .i64 c), (.string d), (.string g), (.slice h i j)]
abbrev C2 (n : Int) (o p q r s t u v : ByteArray) (w : Option Addr) (b c : Nat) (d g : Int) (h i : ByteArray) (j : Option Addr) (l m : Nat) : List Value := [(.int .i64 n), (.string o), (.string p), (.string q), (.string r), (.string s), (.string t), (.string u), (.string v), (.slice w b c), (.int .i64 d), (.int .i64 g), (.string h), (.string i), (.slice j l m)]
abbrev C3 (b : ByteArray) (c : Option Addr) (d g : Nat) (h : Option Addr) (i j : Nat) : List Value := [(.string b), (.slice c d g), (.slice h i j)]
abbrev C4 : List Value := [(.int .i64 0), (.int .i64 0), (.string zS), (.string zS), (.slice none 0 0)]
abbrev C5 : List Value := [(.int .i64 0), (.string (K0.ja)), (.string (K0.Word)), (.string zS), (.string (K0.ja)), (.string (K0.Word)), (.string (K0.ja)), (.string (K0.Word)), (.string zS), (.slice none 0 0), (.int .i64 0), (.int .i64 0), (.string zS), (.string zS), (.slice none 0 0)]
abbrev C6 (d g : ByteArray) (h i : Int) (j l : ByteArray) (m : Option Addr) (n o : Nat) (p : Option Addr) (b c : Nat) : List Value := [(.string d), (.string g), (.int .i64 h), (.int .i64 i), (.string j), (.string l), (.slice m n o), (.slice p b c)]
abbrev C7 : List Value := [(.string K1), (.slice none 0 0), (.slice none 0 0), (.string K2), (.slice none 0 0), (.slice none 0 0), (.int .i64 2), (.int .i64 0), (.string zS), (.string zS), (.slice none 0 0), (.int .i64 0), (.int .i64 0), (.int .i64 0), (.int .i64 0), (.int .i64 0), (.int .i64 0), (.slice none 0 0)]
abbrev C8 : List Value := [(.int .i64 2), (.int .i64 0), (.string zS), (.string zS), (.slice none 0 0)]
abbrev C9 (b : Int) : List Value := [(.int .i64 b), (.int .i64 0), (.string zS), (.string zS), (.slice none 0 0)]
abbrev KE : List Value := [(.int .i64 3), (.int .i64 0), (.string zS), (.string zS), (.slice none 0 0)]
theorem jK : Tryz.prog.follows .mixedOrders = true := by rfl
theorem se : Tryz.prog.info? 5 = some Tryz.t5 ∧ Tryz.t5.zero = some (.int .u8 0) ∧ Tryz.t5.size = 1 ∧ Tryz.t5.bytes = 1 := ⟨by kernel_rfl, by kernel_rfl, by kernel_rfl, by kernel_rfl⟩
theorem xw : Tryz.prog.info? 27 = some Tryz.t27 ∧ Tryz.t27.zero = some (.agg #[(.string ⟨#[]⟩), (.string ⟨#[]⟩)]) ∧ Tryz.t27.size = 2 ∧ Tryz.t27.bytes = 32 := ⟨by kernel_rfl, by kernel_rfl, by kernel_rfl, by kernel_rfl⟩
theorem nD : Tryz.prog.info? 30 = some Tryz.t30 ∧ Tryz.t30.zero = some (.agg #[(.int .i64 0), (.int .i64 0), (.string ⟨#[]⟩), (.string ⟨#[]⟩), (.slice none 0 0)]) ∧ Tryz.t30.size = 5 ∧ Tryz.t30.bytes = 72 := ⟨by kernel_rfl, by kernel_rfl, by kernel_rfl, by kernel_rfl⟩
theorem oS : Tryz.prog.info? 40 = some Tryz.t40 ∧ Tryz.t40.zero = some (.agg #[(.int .i64 0), (.int .i64 0), (.int .i64 0)]) ∧ Tryz.t40.size = 3 ∧ Tryz.t40.bytes = 24 := ⟨by kernel_rfl, by kernel_rfl, by kernel_rfl, by kernel_rfl⟩
theorem nH : Tryz.prog.info? 52 = some Tryz.t52 ∧ Tryz.t52.zero = some (.agg #[(.int .i64 0), (.string ⟨#[]⟩), (.string ⟨#[]⟩), (.string ⟨#[]⟩), (.string ⟨#[]⟩), (.string ⟨#[]⟩), (.string ⟨#[]⟩), (.string ⟨#[]⟩), (.string ⟨#[]⟩)]) ∧ Tryz.t52.size = 9 ∧ Tryz.t52.bytes = 136 := ⟨by kernel_rfl, by kernel_rfl, by kernel_rfl, by kernel_rfl⟩
theorem Cz : Tryz.prog.info? 132 = some Tryz.t132 ∧ Tryz.t132.zero = some (.agg #[(.string ⟨#[]⟩), (.string ⟨#[]⟩), (.int .i64 0), (.int .i64 0), (.string ⟨#[]⟩), (.string ⟨#[]⟩), (.slice none 0 0), (.slice none 0 0)]) ∧ Tryz.t132.size = 8 ∧ Tryz.t132.bytes = 128 := ⟨by kernel_rfl, by kernel_rfl, by kernel_rfl, by kernel_rfl⟩
theorem CF : Tryz.prog.info? 285 = some Tryz.t285 ∧ Tryz.t285.zero = some (.agg #[(.string ⟨#[]⟩), (.string ⟨#[]⟩), (.string ⟨#[]⟩)]) ∧ Tryz.t285.size = 3 ∧ Tryz.t285.bytes = 48 := ⟨by kernel_rfl, by kernel_rfl, by kernel_rfl, by kernel_rfl⟩
theorem yZ : kI pg0 27 0 0 := jT dU rfl gG (by decide) rfl
theorem BP : kI pg0 27 1 1 := jT dU rfl gG (by decide) rfl
theorem Lj : (Tryz.prog.fieldsOf 27).toList = (match Tryz.prog.underlying 27 with | some (.struct b) => b.toList | _ => []) := by rw [dU]; simp [Program.fieldsOf, dU]
theorem vn (d : Nat) (x y : iX) (W : World) : (Op.equalIn (d + 2) 27 (.agg (jf x).toArray) (.agg (jf y).toArray)).run pg0 W = .ok (jr x y) W := by
 rw [run_equalIn_struct W (d + 1) 27 _ _ (by kernel_rfl) Tryz.stoodInHeld27, Lj, dU]
 exact (pz (by decide) (qt cY rfl) (qt cY rfl) (Mv dH _ _ _ _) (pz (by decide) (qt cY rfl) (qt cY rfl) (Mv dH _ _ _ _) (Cg _ _ _)))
theorem N0 : ∀ b, Tryz.prog.underlying 27 = some (.struct b) → ∀ w, (b.mapM (fun (f : Field) => do pure (f.offset, ← sizeOf f.type)) : Sem (Array (Nat × Nat))).run pg0 w = .ok #[(0, 1), (1, 1)] w := by
 intro b h w
 rw [dU] at h
 cases h
 kernel_rfl
theorem vY : kI pg0 52 0 0 := jT dV rfl fZ (by decide) rfl
theorem uV : kI pg0 52 1 1 := jT dV rfl bB (by decide) rfl
theorem BF : kI pg0 52 2 3 := jT dV rfl gG (by decide) rfl
theorem pj : kI pg0 52 3 4 := jT dV rfl bB (by decide) rfl
theorem yw : kI pg0 52 4 6 := jT dV rfl bB (by decide) rfl
theorem yE : kI pg0 52 5 8 := jT dV rfl gG (by decide) rfl
theorem LX : (Tryz.prog.fieldsOf 52).toList = (match Tryz.prog.underlying 52 with | some (.struct b) => b.toList | _ => []) := by rw [dV]; simp [Program.fieldsOf, dV]
theorem yR (d : Nat) (x y : iY) (W : World) : (Op.equalIn (d + 3) 52 (.agg (jb x).toArray) (.agg (jb y).toArray)).run pg0 W = .ok (kh x y) W := by
 rw [run_equalIn_struct W (d + 2) 52 _ _ (by kernel_rfl) Tryz.stoodInHeld52, LX, dV]
 exact (pz (by decide) (qt cO rfl) (qt cO rfl) (P4 ee _ _ _ _) (pz (by decide) (xb bT bB rfl) (xb bT bB rfl) (vn _ x.Head y.Head W) (pz (by decide) (qt cY rfl) (qt cY rfl) (Mv dH _ _ _ _) (pz (by decide) (xb bT bB rfl) (xb bT bB rfl) (vn _ x.B y.B W) (pz (by decide) (xb bT bB rfl) (xb bT bB rfl) (vn _ x.C y.C W) (pz (by decide) (qt cY rfl) (qt cY rfl) (Mv dH _ _ _ _) (Cg _ _ _)))))))
theorem PT : ∀ b, Tryz.prog.underlying 52 = some (.struct b) → ∀ w, (b.mapM (fun (f : Field) => do pure (f.offset, ← sizeOf f.type)) : Sem (Array (Nat × Nat))).run pg0 w = .ok #[(0, 1), (1, 2), (3, 1), (4, 2), (6, 2), (8, 1)] w := by
 intro b h w
 rw [dV] at h
 cases h
 kernel_rfl
theorem AJ : kI pg0 40 0 0 := jT dG rfl fZ (by decide) rfl
theorem Kt : kI pg0 40 1 1 := jT dG rfl fZ (by decide) rfl
theorem Kc : kI pg0 40 2 2 := jT dG rfl fZ (by decide) rfl
theorem Hc : ∀ b, Tryz.prog.underlying 40 = some (.struct b) → ∀ w, (b.mapM (fun (f : Field) => do pure (f.offset, ← sizeOf f.type)) : Sem (Array (Nat × Nat))).run pg0 w = .ok #[(0, 1), (1, 1), (2, 1)] w := by
 intro b h w
 rw [dG] at h
 cases h
 kernel_rfl
theorem Ff : kI pg0 285 0 0 := jT eT rfl bB (by decide) rfl
theorem yo : kI pg0 285 1 2 := jT eT rfl gG (by decide) rfl
theorem L7 : ∀ b, Tryz.prog.underlying 285 = some (.struct b) → ∀ w, (b.mapM (fun (f : Field) => do pure (f.offset, ← sizeOf f.type)) : Sem (Array (Nat × Nat))).run pg0 w = .ok #[(0, 2), (2, 1)] w := by
 intro b h w
 rw [eT] at h
 cases h
 kernel_rfl
theorem H9 : kI pg0 224 0 0 := jT iu rfl sizeOf109 (by decide) rfl
theorem Pc : ∀ b, Tryz.prog.underlying 224 = some (.struct b) → ∀ w, (b.mapM (fun (f : Field) => do pure (f.offset, ← sizeOf f.type)) : Sem (Array (Nat × Nat))).run pg0 w = .ok #[(0, 1)] w := by
 intro b h w
 rw [iu] at h
 cases h
 kernel_rfl
theorem Al : kI pg0 55 0 0 := jT underlying55 rfl bn (by decide) rfl
theorem rb : kI pg0 30 0 0 := jT cC rfl fZ (by decide) rfl
theorem vS : kI pg0 30 1 1 := jT cC rfl fZ (by decide) rfl
theorem yQ : kI pg0 30 2 2 := jT cC rfl bB (by decide) rfl
theorem qS : kI pg0 30 3 4 := jT cC rfl sizeOf28 (by decide) rfl
theorem yJ : ∀ b, Tryz.prog.underlying 30 = some (.struct b) → ∀ w, (b.mapM (fun (f : Field) => do pure (f.offset, ← sizeOf f.type)) : Sem (Array (Nat × Nat))).run pg0 w = .ok #[(0, 1), (1, 1), (2, 2), (4, 1)] w := by
 intro b h w
 rw [cC] at h
 cases h
 kernel_rfl
theorem Ax : kI pg0 57 0 0 := jT gH rfl sizeOf55 (by decide) rfl
theorem NJ : kI pg0 57 1 10 := jT gH rfl aD (by decide) rfl
theorem PQ : ∀ b, Tryz.prog.underlying 57 = some (.struct b) → ∀ w, (b.mapM (fun (f : Field) => do pure (f.offset, ← sizeOf f.type)) : Sem (Array (Nat × Nat))).run pg0 w = .ok #[(0, 10), (10, 5)] w := by
 intro b h w
 rw [gH] at h
 cases h
 kernel_rfl
theorem MA : kI pg0 132 1 2 := jT underlying132 rfl aD (by decide) rfl
theorem IA : kI pg0 132 2 7 := jT underlying132 rfl sizeOf45 (by decide) rfl
theorem EL : kI pg0 25 0 0 := jT eL rfl gG (by decide) rfl
theorem BV : kI pg0 25 1 1 := jT eL rfl sizeOf22 (by decide) rfl
theorem KG : kI pg0 25 2 2 := jT eL rfl sizeOf23 (by decide) rfl
theorem N6 : ∀ b, Tryz.prog.underlying 25 = some (.struct b) → ∀ w, (b.mapM (fun (f : Field) => do pure (f.offset, ← sizeOf f.type)) : Sem (Array (Nat × Nat))).run pg0 w = .ok #[(0, 1), (1, 1), (2, 1)] w := by
 intro b h w
 rw [eL] at h
 cases h
 kernel_rfl
theorem Cs : kI pg0 34 0 0 := jT ga rfl dF (by decide) rfl
theorem B0 : kI pg0 34 1 3 := jT ga rfl dF (by decide) rfl
theorem GR : kI pg0 34 2 6 := jT ga rfl aD (by decide) rfl
theorem PO : ∀ b, Tryz.prog.underlying 34 = some (.struct b) → ∀ w, (b.mapM (fun (f : Field) => do pure (f.offset, ← sizeOf f.type)) : Sem (Array (Nat × Nat))).run pg0 w = .ok #[(0, 3), (3, 3), (6, 5), (11, 1), (12, 2), (14, 1), (15, 1), (16, 1), (17, 1)] w := by
 intro b h w
 rw [ga] at h
 cases h
 kernel_rfl
theorem uo : kI pg0 246 0 0 := jT er rfl sizeOf242 (by decide) rfl
theorem ES : kI pg0 246 1 1 := jT er rfl sizeOf45 (by decide) rfl
theorem Ii : kI pg0 246 2 2 := jT er rfl sizeOf243 (by decide) rfl
theorem EQ : kI pg0 246 3 3 := jT er rfl sizeOf244 (by decide) rfl
theorem yt : kI pg0 246 4 4 := jT er rfl sizeOf226 (by decide) rfl
theorem CC : kI pg0 246 5 5 := jT er rfl fZ (by decide) rfl
theorem O5 : ∀ b, Tryz.prog.underlying 246 = some (.struct b) → ∀ w, (b.mapM (fun (f : Field) => do pure (f.offset, ← sizeOf f.type)) : Sem (Array (Nat × Nat))).run pg0 w = .ok #[(0, 1), (1, 1), (2, 1), (3, 1), (4, 1), (5, 1)] w := by
 intro b h w
 rw [er] at h
 cases h
 kernel_rfl
theorem wX : kI pg0 215 0 0 := jT fC rfl iP (by decide) rfl
theorem Mr : ∀ b, Tryz.prog.underlying 215 = some (.struct b) → ∀ w, (b.mapM (fun (f : Field) => do pure (f.offset, ← sizeOf f.type)) : Sem (Array (Nat × Nat))).run pg0 w = .ok #[(0, 1)] w := by
 intro b h w
 rw [fC] at h
 cases h
 kernel_rfl
def uR : Nat → oF Formula
 | 0 => fun _ _ _ => False
 | n + 1 => fun μ ys x => ∃ (v0 : Value), ys = [.int .i64 x.Op, .int .i64 x.K, .string x.iX.ja, .string x.iX.Word, v0] ∧ Sl (uR n) 5 μ v0 x.Kids
def iZ : oF Formula := fun μ ys x => ∃ n, uR n μ ys x
theorem BK : ∀ n, Ea (uR n)
 | 0 => fun _ _ _ _ _ h => h
 | n + 1 => by rintro _ _ _ _ c ⟨v0, rfl, b⟩; exact ⟨v0, rfl, b.mono (BK n) c⟩
theorem Ey : ∀ n m (μ : jx) (ys : List Value) (x : Formula), n ≤ m → uR n μ ys x → uR m μ ys x
 | 0, _, _, _, _, _, h => h.elim
 | n + 1, 0, _, _, _, b, _ => absurd b (by omega)
 | n + 1, m + 1, μ, ys, x, b, h => by
  obtain ⟨v0, rfl, c⟩ := h
  exact ⟨v0, rfl, c.imp fun ys x h => Ey n m μ ys x (by omega) h⟩
theorem iZ.out {μ : jx} {ys : List Value} {x : Formula} (h : iZ μ ys x) : ∃ (v0 : Value), ys = [.int .i64 x.Op, .int .i64 x.K, .string x.iX.ja, .string x.iX.Word, v0] ∧ Sl iZ 5 μ v0 x.Kids := by
 obtain ⟨n, h⟩ := h
 cases n with
 | zero => exact h.elim
 | succ n =>
  obtain ⟨v0, rfl, b⟩ := h
  exact ⟨v0, rfl, b.imp fun ys x h => ⟨n, h⟩⟩
theorem iZ.mk {μ : jx} {ys : List Value} {x : Formula} (h : ∃ (v0 : Value), ys = [.int .i64 x.Op, .int .i64 x.K, .string x.iX.ja, .string x.iX.Word, v0] ∧ Sl iZ 5 μ v0 x.Kids) : iZ μ ys x := by
 obtain ⟨v0, rfl, c⟩ := h
 obtain ⟨n, g⟩ := c.O6 (fun _ _ h => h) (fun a b ys x d h => Ey a b _ ys x d h)
 exact ⟨n + 1, v0, rfl, g⟩
theorem jj : Deep iZ 5 where
 mono := fun _ _ _ _ c ⟨n, h⟩ => ⟨n, BK n _ _ _ _ c h⟩
 len := by rintro _ _ _ h; obtain ⟨v0, rfl, b⟩ := h.out; rfl
 one := by
  rintro _ _ _ h
  obtain ⟨v0, rfl, b⟩ := h.out
  intro u hu; simp only [aM, dm, fj] at hu; rcases hu with rfl | rfl | rfl | rfl | rfl
  ·rfl
  ·rfl
  ·rfl
  ·rfl
  ·exact b.zB
def ku : oF kP := fun μ ys x => ∃ (v0 : Value) (v1 : Value), ys = [.int .i64 x.Signed.iY.Kind, .string x.Signed.iY.Head.ja, .string x.Signed.iY.Head.Word, .string x.Signed.iY.jM, .string x.Signed.iY.B.ja, .string x.Signed.iY.B.Word, .string x.Signed.iY.C.ja, .string x.Signed.iY.C.Word, .string x.Signed.iY.ki, v0, .int .i64 x.ji.Op, .int .i64 x.ji.K, .string x.ji.iX.ja, .string x.ji.iX.Word, v1] ∧ Sl (Pl (jN .u8)) 1 μ v0 x.Signed.Tag ∧ Sl iZ 5 μ v1 x.ji.Kids
theorem ku.out {μ : jx} {ys : List Value} {x : kP} (h : ku μ ys x) : ∃ (v0 : Value) (v1 : Value), ys = [.int .i64 x.Signed.iY.Kind, .string x.Signed.iY.Head.ja, .string x.Signed.iY.Head.Word, .string x.Signed.iY.jM, .string x.Signed.iY.B.ja, .string x.Signed.iY.B.Word, .string x.Signed.iY.C.ja, .string x.Signed.iY.C.Word, .string x.Signed.iY.ki, v0, .int .i64 x.ji.Op, .int .i64 x.ji.K, .string x.ji.iX.ja, .string x.ji.iX.Word, v1] ∧ Sl (Pl (jN .u8)) 1 μ v0 x.Signed.Tag ∧ Sl iZ 5 μ v1 x.ji.Kids := h
theorem ku.mk {μ : jx} {ys : List Value} {x : kP} (h : ∃ (v0 : Value) (v1 : Value), ys = [.int .i64 x.Signed.iY.Kind, .string x.Signed.iY.Head.ja, .string x.Signed.iY.Head.Word, .string x.Signed.iY.jM, .string x.Signed.iY.B.ja, .string x.Signed.iY.B.Word, .string x.Signed.iY.C.ja, .string x.Signed.iY.C.Word, .string x.Signed.iY.ki, v0, .int .i64 x.ji.Op, .int .i64 x.ji.K, .string x.ji.iX.ja, .string x.ji.iX.Word, v1] ∧ Sl (Pl (jN .u8)) 1 μ v0 x.Signed.Tag ∧ Sl iZ 5 μ v1 x.ji.Kids) : ku μ ys x := h
theorem lK : Deep ku 15 where
 mono := by rintro _ _ _ _ c ⟨v0, v1, rfl, b, h1⟩; exact ⟨v0, v1, rfl, b.mono (Pl.mono _) c, h1.mono jj.mono c⟩
 len := by rintro _ _ _ ⟨v0, v1, rfl, b, h1⟩; rfl
 one := by
  rintro _ _ _ ⟨v0, v1, rfl, b, h1⟩
  intro u hu; simp only [aM, dm, fj] at hu; rcases hu with rfl | rfl | rfl | rfl | rfl | rfl | rfl | rfl | rfl | rfl | rfl | rfl | rfl | rfl | rfl
  ·rfl
  ·rfl
  ·rfl
  ·rfl
  ·rfl
  ·rfl
  ·rfl
  ·rfl
  ·rfl
  ·exact b.zB
  ·rfl
  ·rfl
  ·rfl
  ·rfl
  ·exact h1.zB
def lx : oF nA := fun μ ys x => ∃ (v0 : Value) (v1 : Value), ys = [.string x.iX.ja, .string x.iX.Word, .int .i64 x.ji.Op, .int .i64 x.ji.K, .string x.ji.iX.ja, .string x.ji.iX.Word, v0, v1] ∧ Sl iZ 5 μ v0 x.ji.Kids ∧ Sl (Pl jb) 9 μ v1 x.mn
theorem lx.out {μ : jx} {ys : List Value} {x : nA} (h : lx μ ys x) : ∃ (v0 : Value) (v1 : Value), ys = [.string x.iX.ja, .string x.iX.Word, .int .i64 x.ji.Op, .int .i64 x.ji.K, .string x.ji.iX.ja, .string x.ji.iX.Word, v0, v1] ∧ Sl iZ 5 μ v0 x.ji.Kids ∧ Sl (Pl jb) 9 μ v1 x.mn := h
theorem lx.mk {μ : jx} {ys : List Value} {x : nA} (h : ∃ (v0 : Value) (v1 : Value), ys = [.string x.iX.ja, .string x.iX.Word, .int .i64 x.ji.Op, .int .i64 x.ji.K, .string x.ji.iX.ja, .string x.ji.iX.Word, v0, v1] ∧ Sl iZ 5 μ v0 x.ji.Kids ∧ Sl (Pl jb) 9 μ v1 x.mn) : lx μ ys x := h
theorem nw : Deep lx 8 where
 mono := by rintro _ _ _ _ c ⟨v0, v1, rfl, b, h1⟩; exact ⟨v0, v1, rfl, b.mono jj.mono c, h1.mono (Pl.mono _) c⟩
 len := by rintro _ _ _ ⟨v0, v1, rfl, b, h1⟩; rfl
 one := by
  rintro _ _ _ ⟨v0, v1, rfl, b, h1⟩
  intro u hu; simp only [aM, dm, fj] at hu; rcases hu with rfl | rfl | rfl | rfl | rfl | rfl | rfl | rfl
  ·rfl
  ·rfl
  ·rfl
  ·rfl
  ·rfl
  ·rfl
  ·exact b.zB
  ·exact h1.zB
def yz : oF Key := fun μ ys x => ∃ (v0 : Value), ys = [.string x.jM, v0] ∧ Sl (Pl (jN .u8)) 1 μ v0 x.Key
theorem yz.out {μ : jx} {ys : List Value} {x : Key} (h : yz μ ys x) : ∃ (v0 : Value), ys = [.string x.jM, v0] ∧ Sl (Pl (jN .u8)) 1 μ v0 x.Key := h
theorem yz.mk {μ : jx} {ys : List Value} {x : Key} (h : ∃ (v0 : Value), ys = [.string x.jM, v0] ∧ Sl (Pl (jN .u8)) 1 μ v0 x.Key) : yz μ ys x := h
theorem PU : Deep yz 2 where
 mono := by rintro _ _ _ _ c ⟨v0, rfl, b⟩; exact ⟨v0, rfl, b.mono (Pl.mono _) c⟩
 len := by rintro _ _ _ ⟨v0, rfl, b⟩; rfl
 one := by
  rintro _ _ _ ⟨v0, rfl, b⟩
  intro u hu; simp only [aM, dm, fj] at hu; rcases hu with rfl | rfl
  ·rfl
  ·exact b.zB
theorem DW : nX pg0 9 Value.string jP := nX.string dH
theorem xR : nX pg0 27 (fun (x : iX) => (.agg (jf x).toArray)) jr :=
 nX.struct dU (fun d x y W => vn (d + 8) x y W) (fun b k W => D6 dU rfl (gv.2 ⟨fun _ => ⟨.string k.ja, qt cY rfl, wo dH _ _ _ _⟩, (gv.2 ⟨fun _ => ⟨.string k.Word, qt cY rfl, wo dH _ _ _ _⟩, (fun _ h => by cases h)⟩)⟩))
  (fun k x h => (js.1 h).symm) (fun k => by simp [Instr.sameBits, jf, BX, kU])
theorem OA (w : World) (s : ByteArray) (c : Int) : (callFunc 282 [Value.string s, .int .u8 c].toArray).run pg0 w = .ok (.value (.int .i64 (uF s c))) w := EP func282 (by kernel_rfl) (by kernel_rfl) (by kernel_rfl) (by kernel_rfl) s c w
theorem vv (a : ByteArray) (c r : Int) (w : World) (hm : nn a c = some r) :
  jO true pg0 220 [(.string a), (.int .u8 c)] w (.int .i64 r) := by
 exact cG 8 func220 rfl (fun b => sg (Wa (lr (Wm (Wm (VE (Ge (args := [(.string a), (.int .u8 c)]) (v := .int .i64 (uF a c)) rfl (by exact vk rfl rfl) (OA _ a c) (Wa (lt (rQ hm b))))))))))
theorem wG (a : ByteArray) (c r : Int) (w : World) (hm : pJ a c = some r) :
  jO true pg0 163 [(.string a), (.int .u8 c)] w (.int .i64 r) := by
 refine cG 8 func163 rfl (fun b => sg (Wa (lr (Wm (Wm (bS hm fun j g hm => VE (Eg b call220 (vv a c _ _  g) (fun i b => Wa (ln ?_)))))))))
 exact kl (rQ hm b)
theorem HO (I : ByteArray) (r : Bool) (w : World) (hm : zL I = some r) :
  jO true pg0 164 [(.string I)] w (.bool r) := by
 refine cG 16 func164 rfl (fun b => sg (Wa (lS (Wm (bS hm fun H J hm => VE (FN b dH dv iQ rfl J (fun W3 N T b M n j Y => V (lT dv rfl j) (Wm (jH ?_)))))))))
 refine jo (lu (fun i E W => ∃ c, (E 8 = .int .i64 (i : Nat) ∧ E 7 = .int .i64 (H.length : Nat)) ∧ ST true lG w W T c ∧ E 6 = N ∧ sk (H.drop i) = some r) H.length j.len ⟨_, ⟨rfl, rfl⟩, (b.jc St), rfl, hm⟩ dc dc dc (fun _ _ _ h => by obtain ⟨_, l, _⟩ := h; exact l) ?_ ?_)
 ·rintro K E W u ⟨c, ⟨d, m⟩, b, g, a⟩
  obtain ⟨k, Q, D, B, G⟩ := kL u
  rw [D] at a
  refine bg (VQ (pN (enc := (jN .u8)) (i := (K : Int)) (x0 := k) dv sizeOf5 g d j (aV _) B) (fun Z x => V (jd rfl (oL b.has (y := (.int .u8 k)) x isAgg5)) (Wa (lr (Wm (bS a fun o z a => VE (Eg b call163 (wG (⟨#[97, 98, 99, 100, 101, 102, 103, 104, 105, 106, 107, 108, 109, 110, 111, 112, 113, 114, 115, 116, 117, 118, 119, 120, 121, 122, 48, 49, 50, 51, 52, 53, 54, 55, 56, 57, 45]⟩ : ByteArray) k _ _  z) (fun U b => Wi rfl (jH ?_)))))))))
  refine jo (CI a rfl (fun t a => ?_) (fun t a => ?_))
  ·refine sg (Wa (lt (og (lc (og (lc ?_))))))
   obtain rfl := sj a
   exact rP b
  exact kX (jQ (jo ⟨d, _, ⟨rfl, m⟩, (b.jc St), g, (by rw [G]; exact a)⟩))
 rintro E W ⟨c, ⟨d, m⟩, b, g, a⟩
 rw [bE] at a
 exact jo (sg (Wa (lt (rQ a b))))
theorem tU (z : ByteArray) (r : Bool) (w : World) (hm : qc z = some r) :
  jO true pg0 93 [(.string z)] w (.bool r) := by
 refine cG 21 func93 rfl (fun b => sg (Wa (lr (Wm (V (Dt dH rfl) (Wi rfl (Wm (LJ hm (fun K E W => ∃ Y, ST true lG w W (hp w) Y ∧ E 0 = (.string z) ∧ E 2 = (.bool false) ∧ E 10 = (.bool K)) 4 ?_ (fun K t y => ?_)))))))))
 ·rintro x2 E W ⟨Y, b, M, d, l⟩ a5
  refine Wh l (LJ a5 (fun J E W => ∃ D, ST true lG w W (hp w) D ∧ E 0 = (.string z) ∧ E 2 = (.bool false) ∧ E 16 = (.bool J)) 5 ?_ (fun J a x => ?_))
  ·rintro q E W ⟨D, b, h, H, a2⟩ N
   refine Wh a2 (LJ N (fun I E W => ∃ G, ST true lG w W (hp w) G ∧ E 2 = (.bool false) ∧ E 20 = (.bool I)) 3 ?_ (fun I j u => ?_))
   ·rintro s E W ⟨G, b, a9, a3⟩ Q
    exact Wg a3 (lt (rQ Q b))
   refine bC j (fun g j => ?_) (fun g j => ?_)
   ·refine ug g (jh h) (bS j fun o T j => uG g (Eg b call164 (HO z _ _  T) (fun m b => V (jW (cB g) rfl) ?_)))
    obtain rfl := sj j
    exact u _ _ ⟨_, (b.jc St), H, rfl⟩
   refine un g (un g (V (jY (cB g) rfl) ?_))
   obtain rfl := sj j
   exact u _ _ ⟨_, (b.jc St), H, rfl⟩
  refine bC a (fun c a => ?_) (fun c a => ?_)
  ·refine ug c (jh M) (bS a fun Z B a => ug c (Jv (i := 0) dH rfl rfl (HZ B) (KS B)) (bS a fun p U a => uG c (Eg b call163 (wG (⟨#[97, 98, 99, 100, 101, 102, 103, 104, 105, 106, 107, 108, 109, 110, 111, 112, 113, 114, 115, 116, 117, 118, 119, 120, 121, 122]⟩ : ByteArray) (Z.toNat : Int) _ _  U) (fun n b => ug c (lA rfl rfl rfl) (V (jW (cB c) rfl) ?_)))))
   obtain rfl := sj a
   exact x _ _ ⟨_, (b.jc St), M, d, rfl⟩
  refine un c (un c (un c (un c (V (jY (cB c) rfl) ?_))))
  obtain rfl := sj a
  exact x _ _ ⟨_, (b.jc St), M, d, rfl⟩
 refine bC t (fun k t => ?_) (fun k t => ?_)
 ·refine ug k (jh rfl) (ug k (Dt dH rfl) (ug k (lA rfl rfl rfl) (V (jW (cB k) rfl) ?_)))
  obtain rfl := sj t
  exact y _ _ ⟨_, (b.jc St), rfl, rfl, rfl⟩
 refine un k (un k (un k (V (jY (cB k) rfl) ?_)))
 obtain rfl := sj t
 exact y _ _ ⟨_, (b.jc St), rfl, rfl, rfl⟩
theorem ra (i : iX) (r : Bool) (w : World) (hm : oz i = some r) :
  jO true pg0 206 [(.agg (jf i).toArray)] w (.bool r) := by
 refine cG 11 func206 rfl (fun b => sg (VE (jZ b rfl (fun H J b => Wa (lr (Wf yZ (VB b Mh rfl rfl cY (bS hm fun K y hm => VE (Eg b call93 (tU i.ja _ _  y) (fun I b => Wm (LJ hm (fun k E W => ∃ j, ST true lG w W (hp w) j ∧ E 2 = (.bool false) ∧ E 10 = (.bool k)) 4 ?_ (fun k a g => ?_))))))))))))
 ·rintro G E W ⟨j, b, B, x⟩ t
  exact Wg x (lt (rQ t b))
 refine bC a (fun c a => ?_) (fun c a => ?_)
 ·refine ug c (jm BP rfl) (ug c (jd rfl (jA b.has Mh rfl cY)) (bS a fun D u a => uG c (Eg b call93 (tU i.Word _ _  u) (fun z b => V (jW (cB c) rfl) ?_))))
  obtain rfl := sj a
  exact g _ _ ⟨_, (b.jc (Db St)), rfl, rfl⟩
 refine un c (un c (un c (V (jY (cB c) rfl) ?_)))
 obtain rfl := sj a
 exact g _ _ ⟨_, (b.jc (Db St)), rfl, rfl⟩
theorem NX (w : World) (a b : ByteArray) : (callFunc 273 [Value.string a, .string b].toArray).run pg0 w = .ok (.value (.int .i64 (nQ a b))) w := KM func273 (by kernel_rfl) (by kernel_rfl) (by kernel_rfl) (by kernel_rfl) a b w
theorem vo (a c : ByteArray) (r : Int) (w : World) (hm : my a c = some r) :
  jO true pg0 215 [(.string a), (.string c)] w (.int .i64 r) := by
 exact cG 8 func215 rfl (fun b => sg (Wa (lr (Wm (Wm (VE (Ge (args := [(.string a), (.string c)]) (v := .int .i64 (nQ a c)) rfl (by exact vk rfl rfl) (NX _ a c) (Wa (lt (rQ hm b))))))))))
theorem xZ (a c : ByteArray) (r : Int) (w : World) (hm : ob a c = some r) :
  jO true pg0 156 [(.string a), (.string c)] w (.int .i64 r) := by
 refine cG 8 func156 rfl (fun b => sg (Wa (lr (Wm (Wm (bS hm fun j g hm => VE (Eg b call215 (vo a c _ _  g) (fun i b => Wa (ln ?_)))))))))
 exact kl (rQ hm b)
theorem G9 (g : Value) (t : List Int) (r : Int) (w : World) (c : Sl (Pl (jN .i64)) 1 (hp w) g t) (hm : sC t = some r) :
  jO true pg0 155 [g] w (.int .i64 r) := by
 refine cG 18 func155 rfl (fun b => sg (Wa (lr (Wa (lS (Wm ?_))))))
 refine V (lT underlying257 rfl c) (Wm (ln (lu (fun i E W => ∃ k, (E 8 = .int .i64 (i : Nat) ∧ E 7 = .int .i64 (t.length : Nat)) ∧ ST true lG w W (hp w) k ∧ E 3 = (.int .i64 0) ∧ E 6 = g ∧ qi (t.drop i) = some r) t.length c.len ⟨_, ⟨rfl, rfl⟩, (b.jc St), rfl, rfl, hm⟩ dc dc dc (fun _ _ _ h => by obtain ⟨_, l, _⟩ := h; exact l) ?_ ?_)))
 ·rintro J E W B ⟨k, ⟨d, m⟩, b, j, u, a⟩
  obtain ⟨x, K, H, G, I⟩ := kL B
  rw [H] at a
  refine bg (VQ (pN (enc := (jN .i64)) (i := (J : Int)) (x0 := x) underlying257 fZ u d c (aV _) G) (fun M D => V (jd rfl (oL b.has (y := (.int .i64 x)) D cO)) (Wa (lr (Wm (Wh j (Wi rfl (ln ?_))))))))
  refine CI a rfl (fun z a => ?_) (fun z a => ?_)
  ·refine sg (Wm (Wa (lt (og (lc (og (lc ?_)))))))
   obtain rfl := sj a
   exact rP b
  exact kX (jQ (jo ⟨d, _, ⟨rfl, m⟩, (b.jc St), j, u, (by rw [I]; exact a)⟩))
 rintro E W ⟨k, ⟨d, m⟩, b, j, u, a⟩
 rw [bE] at a
 exact jo (sg (Wh j (Wa (lt (rQ a b)))))
theorem ET (g i : iX) (r : Int) (w : World) (hm : pL g i = some r) :
  jO true pg0 83 [(.agg (jf g).toArray), (.agg (jf i).toArray)] w (.int .i64 r) := by
 refine cG 17 func83 rfl (fun b => sg (VE (jZ b rfl (fun G I b => VE (jZ b rfl (fun H J b => Wa (ln (jt ?_))))))))
 replace b := b.drew
 have d := b.has.jc (Kb (Kb Sn))
 refine kC d jK (X 0 rfl d (jm yZ rfl) (XH 1 rfl d (fun _ h => jd rfl (jA h (Mt Mh) rfl cY)) (X 2 rfl d (jm yZ rfl) (XH 3 rfl d (fun _ h => jd rfl (jA h Mh rfl cY)) (X 5 rfl d (jm BP rfl) (XH 6 rfl d (fun _ h => jd rfl (jA h (Mt Mh) rfl cY)) (X 7 rfl d (jm BP rfl) (XH 8 rfl d (fun _ h => jd rfl (jA h Mh rfl cY)) (bS hm fun a j hm => XE 4 rfl (Eg b call156 (xZ g.ja i.ja _ _  j) (fun x b => ?_)))))))))))
 have d := b.has.jc (Kb (Kb Sn))
 refine ⟨d, (bS hm fun c k hm => XE 9 rfl (Eg b call156 (xZ g.Word i.Word _ _  k) (fun y b => ?_)))⟩
 have d := b.has.jc (Kb (Kb Sn))
 refine ⟨d, (XE 10 rfl (km (cs := #[(.int .i64 a), (.int .i64 c)]) b (xC rfl rfl) (nI underlying257 fZ zeroValue3) (fun z u b => ?_)))⟩
 have d := b.has.jc (Db (Kb (Kb Sn)))
 refine ⟨d, (bS hm fun D t hm => XE 11 rfl (Eg b call155 (G9 (.slice (some ⟨u, 0, none⟩) 2 2) ([a, c]) _ _ (Sl.lit (enc := (jN .i64)) (l := [a, c]) (fun _ => rfl) rfl nb rfl (b.at_ Mh)) t) (fun B b => ?_)))⟩
 have d := b.has.jc (Db (Kb (Kb Sn)))
 refine ⟨d, (X 12 rfl d (oa rfl) (kJ kr (jo ?_)))⟩
 exact kl (rQ hm b)
set_option maxHeartbeats 4000000 in
theorem wu (a : iY) (r : Bool) (w : World) (hm : qY a = some r) :
  jO true pg0 144 [(.agg (jb a).toArray)] w (.bool r) := by
 let m9 := (⟨a.Kind, a.Head, zS, a.B, a.C, zS⟩ : iY)
 let j2 := (⟨a.Kind, a.Head, zS, a.B, K0, a.ki⟩ : iY)
 let j1 : Value := (.agg (jf a.B).toArray)
 let g6 := ((jb (⟨a.Kind, a.Head, zS, a.B, K0, zS⟩ : iY)).toArray)
 let o := (⟨a.Kind, a.Head, zS, K0, K0, zS⟩ : iY)
 refine cG 98 func144 rfl (fun b => sg (VE (jZ b rfl (fun W2 N b => Wa (lr (Wf vY (VB b Mh rfl rfl cO (Wf uV (VA b Mh (jf a.Head) bT bB (V (lY (v := (.agg (jb o).toArray)) (xC rfl rfl) (li dN dV (PT _ dV) kr)) (VE (kq b dN (fun W4 B b => ?_)))))))))))))
 refine VO (jz (.agg (jb o).toArray) ((jb o).toArray) b rfl rfl bn (py o) nb rfl (fun W5 b => lr (Wf uV (VA b (Mt Mh) (jf a.Head) bT bB (bS hm fun n j4 hm => VE (Eg b iU (ra a.Head _ _  j4) (fun W8 b => Wa (ln (jt (P7 hm (fun s E W => ∃ R, ST true lG w W (hp w) ((B, Ol (jb s.2) 52) :: ((N, Ol (jb a) 52) :: R)) ∧ E 1 = (.pointer (some ⟨N, 0, none⟩)) ∧ E 3 = (.pointer (some ⟨B, 0, none⟩)) ∧ E 4 = (.bool s.1)) (fun s g Z => ?_) ?_))))))))))
 ·let g5 := ((jb m9).toArray : Array Value)
  let b8 := ((jb j2).toArray : Array Value)
  let m : Value := (.pointer (some ⟨B, 0, none⟩))
  let l : Value := (.pointer (some ⟨N, 0, none⟩))
  let a0 := ((jb a).toArray : Array Value)
  refine sg (Wf vY (VB b (Mt Mh) rfl rfl cO (ln (bg (Wi rfl (Wa (ln (CI g rfl (fun e5 g => ?_) (fun e5 g => ?_)))))))))
  ·replace b := b.drew
   have d := b.has.jc (Db (Kb Sn))
   refine kC d jK (X 0 rfl d (jm BF rfl) (XH 1 rfl d (fun _ h => jd rfl (jA h Mh rfl cY)) (X 2 rfl d (jh rfl) (X 3 rfl d (jh rfl) (X 8 rfl d (jm BF rfl) (PJ g (fun d6 E W => ∃ b9, ST true lG w W (hp w) ((B, Ol (jb o) 52) :: ((N, Obj.cells a0 52 (0, 0)) :: b9)) ∧ E 1 = l ∧ E 3 = m ∧ E 4 = (.bool n) ∧ E 18 = (.string a.jM) ∧ E 24 = (.bool d6) ∧ E 25 = (.pointer (some ⟨B, 3, none⟩))) (bm 11 511) 2 ?_ (fun d6 D a2 => ?_)))))))
   ·rintro m1 E W ⟨b9, b, h2, h3, k8, h4, h5, h6⟩ f1
    refine XO 9 rfl (jz (.string a.jM) ((jb (⟨a.Kind, a.Head, a.jM, K0, K0, zS⟩ : iY)).toArray) b h6 h4 gG (NK a.jM) nb rfl (fun j5 b => ?_))
    have d := b.has.jc (Db (Kb Sn))
    refine ⟨d, (X 10 rfl d (oa h5) (kJ kr (jQ (jo ?_))))⟩
    obtain rfl := sj f1
    exact ⟨_, rfl, _, (b.jc St), h2, h3, rfl⟩
   refine bC D (fun k D => ?_) (fun k D => ?_)
   ·refine Xg 4 rfl rfl (cB k) d (jm BF rfl) (xY 5 rfl rfl (cB k) d (fun _ h => jd rfl (jA h Mh rfl cY)) (bS D fun l2 f9 D => Ih 6 rfl rfl (cB k) (Eg b call93 (tU a.jM _ _  f9) (fun j6 b => ?_))))
    have d := b.has.jc (Db (Kb Sn))
    refine ⟨d, (X 7 rfl d (jW (cB k) rfl) ?_)⟩
    obtain rfl := sj D
    refine vm kr (a2 _ _ ⟨_, (b.jc St), rfl, rfl, rfl, rfl, rfl, rfl⟩)
   refine Xn 4 rfl rfl (cB k) d (Xn 5 rfl rfl (cB k) d (Xn 6 rfl rfl (cB k) d (X 7 rfl d (jY (cB k) rfl) ?_)))
   obtain rfl := sj D
   refine vm kr (a2 _ _ ⟨_, (b.jc St), rfl, rfl, rfl, rfl, rfl, rfl⟩)
  refine sg (Wi rfl (Wa (ln (CI g rfl (fun e6 g => ?_) (fun e6 g => ?_)))))
  ·replace b := b.drew
   have d := b.has.jc (Db (Kb Sn))
   refine kC d jK (X 0 rfl d (jm pj rfl) (XH 1 rfl d (fun _ h => jd rfl (jl h Mh (jf a.B) rfl bT bB)) (X 2 rfl d (jh rfl) (X 3 rfl d (jh rfl) (X 8 rfl d (jm pj rfl) (PJ g (fun d7 E W => ∃ c0, ST true lG w W (hp w) ((B, Ol (jb o) 52) :: ((N, Obj.cells a0 52 (0, 0)) :: c0)) ∧ E 1 = l ∧ E 3 = m ∧ E 4 = (.bool n) ∧ E 29 = j1 ∧ E 35 = (.bool d7) ∧ E 36 = (.pointer (some ⟨B, 4, none⟩))) (bm 11 511) 2 ?_ (fun d7 G a3 => ?_)))))))
   ·rintro m2 E W ⟨c0, b, h7, h8, k9, h9, i0, i1⟩ f2
    refine XO 9 rfl (jz j1 g6 b i1 h9 bB (vL a.B) nb rfl (fun j7 b => ?_))
    have d := b.has.jc (Db (Kb Sn))
    refine ⟨d, (X 10 rfl d (oa i0) (kJ kr (jQ (jo ?_))))⟩
    obtain rfl := sj f2
    exact ⟨_, rfl, _, (b.jc St), h7, h8, rfl⟩
   refine bC G (fun t G => ?_) (fun t G => ?_)
   ·refine Xg 4 rfl rfl (cB t) d (jm pj rfl) (xY 5 rfl rfl (cB t) d (fun _ h => jd rfl (jl h Mh (jf a.B) rfl bT bB)) (bS G fun l3 g0 G => Ih 6 rfl rfl (cB t) (Eg b iU (ra a.B _ _  g0) (fun j8 b => ?_))))
    have d := b.has.jc (Db (Kb Sn))
    refine ⟨d, (X 7 rfl d (jW (cB t) rfl) ?_)⟩
    obtain rfl := sj G
    refine vm kr (a3 _ _ ⟨_, (b.jc St), rfl, rfl, rfl, rfl, rfl, rfl⟩)
   refine Xn 4 rfl rfl (cB t) d (Xn 5 rfl rfl (cB t) d (Xn 6 rfl rfl (cB t) d (X 7 rfl d (jY (cB t) rfl) ?_)))
   obtain rfl := sj G
   refine vm kr (a3 _ _ ⟨_, (b.jc St), rfl, rfl, rfl, rfl, rfl, rfl⟩)
  refine sg (Wi rfl (Wa (ln (CI g rfl (fun e7 g => ?_) (fun e7 g => ?_)))))
  ·refine jt ?_
   replace b := b.drew
   have d := b.has.jc (Db (Kb Sn))
   refine kC d jK (X 0 rfl d (jm pj rfl) (XH 1 rfl d (fun _ h => jd rfl (jl h Mh (jf a.B) rfl bT bB)) (X 2 rfl d (jm yE rfl) (XH 3 rfl d (fun _ h => jd rfl (jA h Mh rfl cY)) (X 4 rfl d (jm pj rfl) (XO 5 rfl (jz j1 g6 b rfl rfl bB (vL a.B) nb rfl (fun j9 b => ?_))))))))
   have d := b.has.jc (Db (Kb Sn))
   refine ⟨d, (X 6 rfl d (jm yE rfl) (XO 7 rfl (jz (.string a.ki) ((jb j2).toArray) b rfl rfl gG (NK a.ki) nb rfl (fun k0 b => ?_))))⟩
   have d := b.has.jc (Db (Kb Sn))
   refine ⟨d, (kJ kr (jo (jq (Wm (Wm (LJ g (fun e0 E W => ∃ c1, ST true lG w W (hp w) ((B, Obj.cells b8 52 (0, 0)) :: ((N, Obj.cells a0 52 (0, 0)) :: c1)) ∧ E 1 = l ∧ E 3 = m ∧ E 4 = (.bool n) ∧ E 50 = (.bool e0)) 4 ?_ (fun e0 I L => ?_)))))))⟩
   ·rintro m3 E W ⟨c1, b, U, c7, c8, i2⟩ f3
    refine Wh i2 (LJ f3 (fun d9 E W => ∃ c2, ST true lG w W (hp w) ((B, Obj.cells b8 52 (0, 0)) :: ((N, Obj.cells a0 52 (0, 0)) :: c2)) ∧ E 1 = l ∧ E 3 = m ∧ E 4 = (.bool n) ∧ E 59 = (.bool d9)) 8 ?_ (fun d9 T a5 => ?_))
    ·rintro m4 E W ⟨c2, b, p, c9, d0, i3⟩ f4
     refine Wh i3 (LJ f4 (fun d8 E W => ∃ c3, ST true lG w W (hp w) ((B, Obj.cells b8 52 (0, 0)) :: ((N, Obj.cells a0 52 (0, 0)) :: c3)) ∧ E 1 = l ∧ E 3 = m ∧ E 4 = (.bool n) ∧ E 64 = (.bool d8)) 4 ?_ (fun d8 H a4 => ?_))
     ·rintro m5 E W ⟨c3, b, i4, i5, l0, i6⟩ f5
      refine Wg i6 (jH (jQ (jo ?_)))
      obtain rfl := sj f5
      exact ⟨_, rfl, _, (b.jc St), i4, i5, rfl⟩
     refine bC H (fun x H => ?_) (fun x H => ?_)
     ·refine ug x (jm yE p) (ug x (jd rfl (jA b.has (Mt Mh) rfl cY)) (bS H fun l4 g1 H => uG x (Eg b call93 (tU a.ki _ _  g1) (fun k1 b => V (jW (cB x) rfl) ?_))))
      obtain rfl := sj H
      exact a4 _ _ ⟨_, (b.jc St), p, c9, d0, rfl⟩
     refine un x (un x (un x (V (jY (cB x) rfl) ?_)))
     obtain rfl := sj H
     exact a4 _ _ ⟨_, (b.jc St), p, c9, d0, rfl⟩
    refine bC T (fun c T => ?_) (fun c T => ?_)
    ·refine ug c (jm pj U) (ug c (jm yZ rfl) (ug c (jd rfl (jA b.has (Mt Mh) rfl cY)) (ug c (jm uV U) (ug c (jm yZ rfl) (ug c (jd rfl (jA b.has (Mt Mh) rfl cY)) (ug c (Jj rfl rfl rfl) (V (jW (cB c) rfl) ?_)))))))
     obtain rfl := sj T
     exact a5 _ _ ⟨_, (b.jc St), U, c7, c8, rfl⟩
    refine un c (un c (un c (un c (un c (un c (un c (V (jY (cB c) rfl) ?_)))))))
    obtain rfl := sj T
    exact a5 _ _ ⟨_, (b.jc St), U, c7, c8, rfl⟩
   refine bC I (fun u I => ?_) (fun u I => ?_)
   ·refine ug u (jm pj rfl) (ug u (jd rfl (jl b.has (Mt Mh) (jf a.B) rfl bT bB)) (bS I fun l5 g2 I => uG u (Eg b iU (ra a.B _ _  g2) (fun k2 b => V (jW (cB u) rfl) ?_))))
    obtain rfl := sj I
    exact L _ _ ⟨_, (b.jc St), rfl, rfl, rfl, rfl⟩
   refine un u (un u (un u (V (jY (cB u) rfl) ?_)))
   obtain rfl := sj I
   exact L _ _ ⟨_, (b.jc St), rfl, rfl, rfl, rfl⟩
  refine sg (Wi rfl (Wa (ln (CI g rfl (fun e8 g => ?_) (fun e8 g => ?_)))))
  ·refine jt ?_
   replace b := b.drew
   have d := b.has.jc (Db (Kb Sn))
   refine kC d jK (X 0 rfl d (jm pj rfl) (XH 1 rfl d (fun _ h => jd rfl (jl h Mh (jf a.B) rfl bT bB)) (X 2 rfl d (jm yw rfl) (XH 3 rfl d (fun _ h => jd rfl (jl h Mh (jf a.C) rfl bT bB)) (X 4 rfl d (jm pj rfl) (XO 5 rfl (jz j1 g6 b rfl rfl bB (vL a.B) nb rfl (fun k3 b => ?_))))))))
   have d := b.has.jc (Db (Kb Sn))
   refine ⟨d, (X 6 rfl d (jm yw rfl) (XO 7 rfl (jz (.agg (jf a.C).toArray) ((jb m9).toArray) b rfl rfl bB (vL a.C) nb rfl (fun k4 b => ?_))))⟩
   have d := b.has.jc (Db (Kb Sn))
   refine ⟨d, (kJ kr (jo (jq (Wm (Wm (LJ g (fun e3 E W => ∃ c4, ST true lG w W (hp w) ((B, Obj.cells g5 52 (0, 0)) :: ((N, Obj.cells a0 52 (0, 0)) :: c4)) ∧ E 1 = l ∧ E 3 = m ∧ E 4 = (.bool n) ∧ E 78 = (.bool e3)) 4 ?_ (fun e3 M a9 => ?_)))))))⟩
   ·rintro m6 E W ⟨c4, b, q, d1, d2, i7⟩ f6
    refine Wh i7 (LJ f6 (fun e2 E W => ∃ c5, ST true lG w W (hp w) ((B, Obj.cells g5 52 (0, 0)) :: ((N, Obj.cells a0 52 (0, 0)) :: c5)) ∧ E 1 = l ∧ E 3 = m ∧ E 4 = (.bool n) ∧ E 83 = (.bool e2)) 4 ?_ (fun e2 K P => ?_))
    ·rintro m7 E W ⟨c5, b, Y, d3, d4, i8⟩ f7
     refine Wh i8 (LJ f7 (fun e1 E W => ∃ c6, ST true lG w W (hp w) ((B, Obj.cells g5 52 (0, 0)) :: ((N, Obj.cells a0 52 (0, 0)) :: c6)) ∧ E 1 = l ∧ E 3 = m ∧ E 4 = (.bool n) ∧ E 91 = (.bool e1)) 7 ?_ (fun e1 J O => ?_))
     ·rintro m8 E W ⟨c6, b, i9, j0, l1, j3⟩ f8
      refine Wg j3 (jH (jQ (jo ?_)))
      obtain rfl := sj f8
      exact ⟨_, rfl, _, (b.jc St), i9, j0, rfl⟩
     refine bC J (fun i J => ?_) (fun i J => ?_)
     ·refine ug i (jm pj Y) (ug i (jd rfl (jl b.has (Mt Mh) (jf a.B) rfl bT bB)) (ug i (jm yw Y) (ug i (jd rfl (jl b.has (Mt Mh) (jf a.C) rfl bT bB)) (bS J fun l6 g3 J => uG i (Eg b call83 (ET a.B a.C _ _  g3) (fun k5 b => ug i (lA rfl rfl rfl) (V (jW (cB i) rfl) ?_)))))))
      obtain rfl := sj J
      exact O _ _ ⟨_, (b.jc St), Y, d3, d4, rfl⟩
     refine un i (un i (un i (un i (un i (un i (V (jY (cB i) rfl) ?_))))))
     obtain rfl := sj J
     exact O _ _ ⟨_, (b.jc St), Y, d3, d4, rfl⟩
    refine bC K (fun z K => ?_) (fun z K => ?_)
    ·refine ug z (jm yw q) (ug z (jd rfl (jl b.has (Mt Mh) (jf a.C) rfl bT bB)) (bS K fun l7 g4 K => uG z (Eg b iU (ra a.C _ _  g4) (fun k6 b => V (jW (cB z) rfl) ?_))))
     obtain rfl := sj K
     exact P _ _ ⟨_, (b.jc St), q, d1, d2, rfl⟩
    refine un z (un z (un z (V (jY (cB z) rfl) ?_)))
    obtain rfl := sj K
    exact P _ _ ⟨_, (b.jc St), q, d1, d2, rfl⟩
   refine bC M (fun y M => ?_) (fun y M => ?_)
   ·refine ug y (jm pj rfl) (ug y (jd rfl (jl b.has (Mt Mh) (jf a.B) rfl bT bB)) (bS M fun l8 g7 M => uG y (Eg b iU (ra a.B _ _  g7) (fun k7 b => V (jW (cB y) rfl) ?_))))
    obtain rfl := sj M
    exact a9 _ _ ⟨_, (b.jc St), rfl, rfl, rfl, rfl⟩
   refine un y (un y (un y (V (jY (cB y) rfl) ?_)))
   obtain rfl := sj M
   exact a9 _ _ ⟨_, (b.jc St), rfl, rfl, rfl, rfl⟩
  refine sg (Wa (ln ?_))
  replace b := b.jc (Db (Db St))
  refine kl (og (lc ?_))
  obtain rfl := sj g
  replace Z : some false = some r := Z
  obtain rfl := sj Z
  exact rP b
 rintro ⟨l9, e4⟩ E W ⟨R, b, g8, g9, h0⟩ e9
 refine sg (Wh h0 (Wm (LJ e9 (fun d5 E W => ∃ b7, ST true lG w W (hp w) b7 ∧ E 97 = (.bool d5)) 4 ?_ (fun d5 Q A => ?_))))
 ·rintro m0 E W ⟨b7, b, h1⟩ f0
  exact Wg h1 (lt (rQ f0 b))
 refine bC Q (fun j Q => ?_) (fun j Q => ?_)
 ·refine ug j (jd g9 (jl b.has Mh (jb e4) rfl cJ bn)) (ug j (jd g8 (jl b.has (Mt Mh) (jb a) rfl cJ bn)) (ug j (Bc rfl rfl (sM gm) (wT (yR _ e4 a))) (V (jW (cB j) rfl) ?_)))
  obtain rfl := sj Q
  exact A _ _ ⟨_, (b.jc (Db (Db St))), rfl⟩
 refine un j (un j (un j (V (jY (cB j) rfl) ?_)))
 obtain rfl := sj Q
 exact A _ _ ⟨_, (b.jc (Db (Db St))), rfl⟩
theorem BE (j : Value) (t : List iY) (c : iY) (r : Int) (w : World) (g : Sl (Pl jb) 9 (hp w) j t) (hm : tF t c = some r) :
  jO true pg0 242 [j, (.agg (jb c).toArray)] w (.int .i64 r) := by
 refine cG 19 func242 rfl (fun b => sg (VE (jZ b rfl (fun Q J b => Wa (lS (Wm (V (lT bo rfl g) (Wm (ln ?_)))))))))
 refine lu (fun i E W => ∃ k, (E 8 = .int .i64 (i : Nat) ∧ E 7 = .int .i64 (t.length : Nat)) ∧ ST true lG w W (hp w) ((J, Ol (jb c) 52) :: k) ∧ E 0 = j ∧ E 3 = (.pointer (some ⟨J, 0, none⟩)) ∧ ow c (t.drop i) i = some r) t.length g.len ⟨_, ⟨rfl, rfl⟩, (b.jc St), rfl, rfl, hm⟩ dc dc dc (fun _ _ _ h => by obtain ⟨_, m, _⟩ := h; exact m) ?_ ?_
 ·rintro K E W B ⟨k, ⟨l, o⟩, b, u, x, a⟩
  obtain ⟨y, M, H, G, I⟩ := kL B
  rw [H] at a
  refine bg (Wh l (Wa (ln (jt ?_))))
  replace b := b.drew
  have d := b.has.jc (Kb Sn)
  refine kC d jK (XH 0 rfl d (fun _ n => jd x (jl n Mh (jb c) rfl cJ bn)) (X 1 rfl d (jh u) (X 2 rfl d (jh rfl) (XQ 3 rfl d (pN (enc := jb) (i := (K : Int)) (x0 := y) bo bn rfl rfl g (aV _) G) (fun N D => XH 4 rfl d (fun _ n => jd rfl (jJ n D cJ bn)) (X 5 rfl d (Bc rfl rfl (sM gm) (wT (yR _ c y))) (kJ kr (jo (CI a rfl (fun z a => ?_) (fun z a => ?_))))))))))
  ·refine sg (Wm (Wa (ln ?_)))
   replace b := b.jc (Db St)
   refine kl (og (lc (og (lc ?_))))
   obtain rfl := sj a
   exact rP b
  exact kX (jQ (jo ⟨l, _, ⟨rfl, o⟩, (b.jc St), u, x, (by rw [I]; exact a)⟩))
 rintro E W ⟨k, ⟨l, o⟩, b, u, x, a⟩
 rw [bE] at a
 refine jo ?_
 replace b := b.jc (Db St)
 exact sg (Wa (lt (rQ a b)))
theorem zJ (a : Value) (g : List iY) (c : iY) (r : Bool) (w : World) (i : Sl (Pl jb) 9 (hp w) a g) (hm : pW g c = some r) :
  jO true pg0 179 [a, (.agg (jb c).toArray)] w (.bool r) := by
 refine cG 9 func179 rfl (fun b => sg (VE (jZ b rfl (fun k u b => Wa (lr (Wm (VA b Mh (jb c) cJ bn (bS hm fun x j hm => VE (Eg b call242 (BE a g c _ _ (i.mono (Pl.mono _) b.jk) j) (fun t b => Wi rfl (Wa ?_)))))))))))
 refine ln ?_
 exact kl (rQ hm b)
theorem wi (a : Value) (g : List iY) (c : iY) (r : Bool) (w : World) (i : Sl (Pl jb) 9 (hp w) a g) (hm : oH g c = some r) :
  jO true pg0 111 [a, (.agg (jb c).toArray)] w (.bool r) := by
 refine cG 8 func111 rfl (fun b => sg (VE (jZ b rfl (fun k u b => Wa (lr (Wm (VA b Mh (jb c) cJ bn (bS hm fun x j hm => VE (Eg b call179 (zJ a g c _ _ (i.mono (Pl.mono _) b.jk) j) (fun t b => Wa (jH ?_)))))))))))
 refine jo ?_
 exact kl (rQ hm b)
theorem Hy (a : iY) (r : List iX) (w : World) (hm : wm a = some r) :
  lJ true pg0 320 [(.agg (jb a).toArray)] w 27 jf 2 r := by
 refine uU 27 func320 rfl (fun b => sg (VE (jZ b rfl (fun W2 h b => Wa (lS (VA b Mh (jb a) cJ bn (bS hm fun r3 o hm => VE (Eg b call144 (wu a _ _  o) (fun W5 b => V (px rfl) (jH ?_))))))))))
 refine jo (CI hm rfl (fun n hm => ?_) (fun n hm => ?_))
 ·refine sg (Wa (ln ?_))
  replace b := b.jc (Db St)
  refine kl (lc ?_)
  obtain rfl := sj hm
  exact kv (v := (.slice none 0 0)) rfl rfl ⟨_, [], rfl, b.nj (fun p d => by cases d) (by simp), jw.nil _ _ _⟩
 refine kg (Wf uV (VA b Mh (jf a.Head) bT bB (VE (km (cs := (jf a.Head).toArray) b (mH rfl) (nI eO bB fP) (fun W8 y b => Wa (ln (jt (CJ hm (fun I E W => ∃ j i z, ST true lG w W (hp w) ((h, Ol (jb a) 52) :: (i ++ z)) ∧ E 1 = (.pointer (some ⟨h, 0, none⟩)) ∧ E 3 = j ∧ jw 27 jf 2 j I i) (fun I g => ?_) ?_))))))))
 ·refine sg (Wf vY (VB b (Mt Mh) rfl rfl cO (Wi rfl (ln (CI g rfl (fun Q g => ?_) (fun Q g => ?_))))))
  ·refine jq (Wm (Wf pj (VA b (Mt Mh) (jf a.B) bT bB (VE (km (cs := (jf a.B).toArray) b (mH rfl) (nI eO bB fP) (fun L a4 b => ?_))))))
   replace b := b.perm (Nb (Pb Pz) Nz)
   refine bS g fun c0 T g => VE (nL (enc := jf) (v := (.slice (some ⟨y, 0, none⟩) 1 1)) (vs := (.slice (some ⟨a4, 0, none⟩) 1 1)) (R := [(y, Ol (jf a.Head) 27)]) b Am dc vL eO xw.1 xw.2.1 rfl xw.2.2.1 xw.2.2.2 rfl rfl (jw.lit (l := [a.Head]) (enc := jf) rfl dc rfl rfl) (Sl.lit (enc := jf) (l := [a.B]) Am rfl nb rfl (b.at_ (Mt Mh))) T (fun O a9 m b K => Wa (ln ?_)))
   obtain rfl := sj g
   exact ⟨a9, m, _, (b.jc (Sb (Pr (Pb Pz)) (Kr (Db St)))), rfl, rfl, K⟩
  refine kn ?_
  obtain rfl := sj g
  replace b := b.NE
  exact ⟨(.slice (some ⟨y, 0, none⟩) 1 1), [(y, Ol (jf a.Head) 27)], _, (b.jc (Sb (Pr Pz) St)), rfl, rfl, (jw.lit (l := [a.Head]) (enc := jf) rfl dc rfl rfl)⟩
 rintro P E W ⟨j, i, z, b, D, G, u⟩ U
 refine jt (CJ U (fun H E W => ∃ t k B, ST true lG w W (hp w) (k ++ B) ∧ E 3 = t ∧ jw 27 jf 2 t H k) (fun H c => ?_) ?_)
 ·refine sg (V (jm vY D) (VB b Mh rfl rfl cO (Wi rfl (ln (CI c rfl (fun M c => ?_) (fun M c => ?_))))))
  ·refine jq (Wh G (V (jm yw D) (VA b Mh (jf a.C) bT bB (VE (km (cs := (jf a.C).toArray) b (mH rfl) (nI eO bB fP) (fun s a3 b => ?_))))))
   replace b := b.perm (Nr (Qb (Qb Qz)) Nz)
   refine bS c fun b9 N c => VE (nL (enc := jf) (v := j) (vs := (.slice (some ⟨a3, 0, none⟩) 1 1)) (R := i) b Am dc vL eO xw.1 xw.2.1 rfl xw.2.2.1 xw.2.2.2 rfl rfl u (Sl.lit (enc := jf) (l := [a.C]) Am rfl nb rfl (b.at_ (Ma Mh))) N (fun A q Z b J => Wa (ln ?_)))
   obtain rfl := sj c
   exact ⟨q, Z, _, (b.jc (Kr (Db (Db St)))), rfl, J⟩
  refine kn ?_
  obtain rfl := sj c
  exact ⟨j, i, _, (b.jc (Db St)), G, u⟩
 rintro b6 E W ⟨t, k, B, b, a5, x⟩ Y
 refine sg (Wh a5 (Wa (lt ?_)))
 obtain rfl := sj Y
 exact kv (v := t) rfl rfl ⟨_, k, rfl, b.nj (fun p d => (Ml d)) x.nd, x⟩
theorem Bh (M : Nat) (u : Value) (a9 : List (iX × (List (ByteArray × Bool)))) (G : LO) (D : Value) (a0 : List iY) (B : LO) (a : Value) (Y : List (iX × (List iY))) (I : LO) (c : Value) (K : List (ByteArray × (List iY))) (t : LO) (j : Value) (a4 : List jg) (y : LO) (J : Int) (H : iY) (r : ((List iY) × (List (iX × (List iY))) × (List (ByteArray × (List iY))))) (w : World) {μ0 : jx} (h0 : nf μ0 ((M, Ob #[u, D, a, c, j, (.int .i64 J)] 246) :: (G ++ (B ++ (I ++ (t ++ (y ++ [])))))) w) (e9 : kE (fun (x : iX) => (.agg (jf x).toArray)) (kD Value.string (fun (x : Bool) => (Value.bool x))) u a9 G) (a6 : jw 52 jb 9 D a0 B) (b2 : kE (fun (x : iX) => (.agg (jf x).toArray)) (jw 52 jb 9) a Y I) (T : kE Value.string (jw 52 jb 9) c K t) (e1 : oI 285 kF 3 j a4 y) (hm : qC a9 a0 Y K a4 J H = some r) :
  kw true pg0 261 [(.pointer (some ⟨M, 0, none⟩)), (.agg (jb H).toArray)] w ((M, Ob #[u, D, a, c, j, (.int .i64 J)] 246) :: (G ++ (B ++ (I ++ (t ++ (y ++ [])))))) (fun v L1 W' => ∃ y1 S2 S4 S6, v = (.tuple #[]) ∧ L1 = ((M, Ob #[u, y1, a, c, j, (.int .i64 J)] 246) :: (G ++ (S2 ++ (S4 ++ (S6 ++ (y ++ [])))))) ∧ jw 52 jb 9 y1 r.1 S2 ∧ kE (fun (x : iX) => (.agg (jf x).toArray)) (jw 52 jb 9) a r.2.1 S4 ∧ kE Value.string (jw 52 jb 9) c r.2.2 S6) := by
 refine xW h0 55 func261 rfl (fun d => sg (VE (jZ d rfl (fun W2 b1 d => ln (jt ?_)))))
 replace d := d.drew
 have m := d.has.jc (Kb Sn)
 have n := d.has.jc (Db (Kb Sn))
 refine sR 10 m n jK (jR 0 rfl kr (.inl rfl) rfl dc (fun _ _ h => ⟨h.1, kx br h.2⟩) ⟨m, fun _ => n⟩ (fun _ _ _ _ => jh rfl) (jR 1 rfl kr (.inl rfl) rfl dc (fun _ _ h => ⟨h.1, kx br h.2⟩) ⟨m, fun _ => n⟩ (fun _ _ _ _ => jh rfl) (jR 2 rfl kr (.inl rfl) rfl dc (fun _ _ h => ⟨h.1, kx br h.2⟩) ⟨m, fun _ => n⟩ (fun _ _ _ _ => lR rfl) (jR 3 rfl kr (.inl rfl) rfl dc (fun _ _ h => ⟨h.1, kx br h.2⟩) ⟨m, fun _ => n⟩ (fun _ _ _ _ => jm ES rfl) (jR 4 rfl kr (.inl rfl) rfl dc (fun _ _ h => ⟨h.1, kx br h.2⟩) ⟨m, fun _ => n⟩ (fun l W q s => have p := (s.2 (q.Bv 10 [4] kr rfl)); jd rfl (jA p Mh rfl isAgg45)) (jR 5 rfl kr (.inl rfl) rfl dc (fun _ _ h => ⟨h.1, kx br h.2⟩) ⟨m, fun _ => n⟩ (fun l W q s => have p := s.1; jd rfl (jl p Mh (jb H) rfl cJ bn)) (XE 6 rfl (km (cs := (jb H).toArray) d (mH rfl) (nI bo bn dN) (fun k0 g0 d => ?_)))))))))
 have m := d.has.jc (Db (Kb Sn))
 have n := d.has.jc (Db (Db (Kb Sn)))
 refine ⟨⟨m, fun _ => n⟩, ?_⟩
 replace d := d.perm (Nr (Qb (Qb (Qb (Qr Qz)))) Nz)
 refine bS hm fun a5 f0 hm => XE 7 rfl (nL (enc := jb) (v := D) (vs := (.slice (some ⟨g0, 0, none⟩) 1 1)) (R := B) d kA dc py bo nH.1 nH.2.1 rfl nH.2.2.1 nH.2.2.2 rfl rfl a6 (Sl.lit (enc := jb) (l := [H]) kA rfl nb rfl (d.at_ (Ma Mh))) f0 (fun k1 k4 b7 d b5 => ?_))
 have m := d.has.jc (Dr (Db (Kb Sn)))
 have n := d.has.jc (Dr (Db (Db (Kb Sn))))
 refine ⟨⟨m, fun _ => n⟩, (jR 8 rfl kr (.inl rfl) rfl dc (fun _ _ h => ⟨h.1, kx br h.2⟩) ⟨m, fun _ => n⟩ (fun _ _ _ _ => lR rfl) (jR 9 rfl kr (.inl rfl) rfl dc (fun _ _ h => ⟨h.1, kx br h.2⟩) ⟨m, fun _ => n⟩ (fun _ _ _ _ => jm ES rfl) ?_))⟩
 obtain ⟨a8, b0, rfl⟩ := b5.form
 let A : Value := (.slice a8 a5.length b0)
 replace d := d.perm (Nb (Pr (Pb (Pb Pz))) Nz)
 refine XO 10 rfl (jz A (#[u, A, a, c, j, (.int .i64 J)]) d rfl rfl sizeOf45 oc nb rfl (fun k2 d => ?_))
 have m := d.has.jc (Db (Dr (Db (Kb Sn))))
 refine ⟨⟨m, fun h => xI kr h⟩, (kJ kr (jo ?_))⟩
 replace d := d.jc (Kb (Kr (Db St)))
 refine jt (sg (VA d (Mt (Ma Mh)) (jb H) cJ bn (bS hm fun c1 f1 hm => VE (sI d call320 (Hy H _ _  f1) (fun k3 k5 k6 j9 d g4 ab e8 => ?_)))))
 let b8 := (c1.drop (Int.toNat 1))
 obtain ⟨g3, d, g7, ad, f2⟩ := ST.Oj d e8 Am
 refine bS hm fun _ b9 hm => VQ (Di (i := 1) eO bB rfl rfl f2 (tR b9) (tO b9)) (fun g1 b6 => V (lT eO rfl b6.1) (Wm (ln (lu (fun i E W => ∃ a3 U O, (E 20 = .int .i64 (i : Nat) ∧ E 19 = .int .i64 (b8.length : Nat)) ∧ ST true (keys ((M, Ob #[u, D, a, c, j, (.int .i64 J)] 246) :: (G ++ (B ++ (I ++ (t ++ (y ++ []))))))) w W g3 ((M, Ob #[u, A, a, c, j, (.int .i64 J)] 246) :: ((b1, Ol (jb H) 52) :: (U ++ (b7 ++ (G ++ (t ++ (y ++ O))))))) ∧ E 0 = (.pointer (some ⟨M, 0, none⟩)) ∧ E 3 = (.pointer (some ⟨b1, 0, none⟩)) ∧ E 18 = g1 ∧ kE (fun (x : iX) => (.agg (jf x).toArray)) (jw 52 jb 9) a a3 U ∧ nl H K a5 (b8.drop i) a3 = some r) b8.length b6.1.len ⟨Y, I, _, ⟨rfl, rfl⟩, (d.jc (Kb (Sb (Pr Pz) (Sr (Qr (Qr Qz)) St)))), rfl, rfl, rfl, b2, hm⟩ dc dc dc (fun _ _ _ h => by obtain ⟨_, _, _, aa, _⟩ := h; exact aa) ?_ ?_))))
 ·rintro f3 E W d3 ⟨a3, U, O, ⟨eI, eN⟩, d, a2, N, P, Z, g⟩
  obtain ⟨Q, h4, d8, d7, d9⟩ := kL d3
  rw [d8] at g
  refine bg (VQ (pN (enc := jf) (i := (f3 : Int)) (x0 := Q) eO bB P eI b6.1 (aV _) d7) (fun j4 d4 => V (jd rfl (jJ d.has d4 bT bB)) (VE (kq d fP (fun i1 j0 d => VO (jz (.agg (jf Q).toArray) ((jf Q).toArray) d rfl rfl bB (vL Q) nb rfl (fun i2 d => ln ?_)))))))
  replace d := d.drew
  have m := d.has.jc (Kb (Kb (Kb Sn)))
  refine kC m jK (X 0 rfl m (jh a2) (X 1 rfl m (lR rfl) (X 2 rfl m (jm Ii rfl) (XH 3 rfl m (fun _ p => jd rfl (jA p (Mt Mh) rfl isAgg243)) (XH 4 rfl m (fun _ p => jd rfl (jl p Mh (jf Q) rfl bT bB)) (XH 5 rfl m (fun _ p => jd N (jl p (Mt (Mt Mh)) (jb H) rfl cJ bn)) (XE 6 rfl (km (cs := (jb H).toArray) d (mH rfl) (nI bo bn dN) (fun i3 e6 d => ?_)))))))))
  have m := d.has.jc (Db (Kb (Kb (Kb Sn))))
  refine ⟨m, ?_⟩
  obtain ⟨h1, d1⟩ := Z
  replace d := d.perm (Nr (Qb (Qb (Qb (Qb Qz)))) Nz)
  refine XE 7 rfl (Js (k := Q) (x0 := [])  js xR underlying243 ij (jw.nil _ _ _) d d1 rfl rfl (fun i4 f5 h3 h6 e2 d c3 c2 => ?_))
  have m := d.has.jc (Dr (Dr (Db (Kb (Kb (Kb Sn))))))
  refine ⟨m, (X 8 rfl m (Ca rfl rfl) (X 10 rfl m (Ca rfl rfl) ?_))⟩
  replace d := d.perm (Nr (Qr Qz) Nz)
  refine bS g fun c0 c8 g => XE 9 rfl (nL (enc := jb) (v := f5) (vs := (.slice (some ⟨e6, 0, none⟩) 1 1)) (R := e2) d kA dc py bo nH.1 nH.2.1 rfl nH.2.2.1 nH.2.2.2 rfl rfl c3 (Sl.lit (enc := jb) (l := [H]) kA rfl nb rfl (d.at_ (Ma (Ma Mh)))) c8 (fun i5 j5 h7 d c4 => ?_))
  have m := d.has.jc (Dr (Dr (Db (Kb (Kb (Kb Sn))))))
  refine ⟨m, ?_⟩
  replace d := d.perm (Nr (Qr Qz) Nz)
  refine XO 11 rfl (Hr (e := 0) (z := c0)  js xR d c2 rfl rfl rfl c4 (fun i6 h2 e3 d c5 => ?_))
  have m := d.has.jc (Dr (Db (Kb (Kb (Kb Sn)))))
  refine ⟨m, (kJ kr (jQ (jo ?_)))⟩
  replace d := d.jc (Kr (Db (Db St)))
  exact ⟨eI, (mS jr a3 Q c0), e3, _, ⟨rfl, eN⟩, (d.jc (Sb (Pr Pz) (Sb (Pr Pz) St))), a2, N, P, c5.e, (by rw [d9]; exact g)⟩
 rintro E W ⟨a3, U, O, ⟨eI, eN⟩, d, a2, N, P, Z, g⟩
 rw [bE] at g
 refine jo (sg (V (jm vY N) (VB d (Mt Mh) rfl rfl cO (Wi rfl (ln (CI g rfl (fun c9 g => ?_) (fun c9 g => ?_)))))))
 ·replace d := d.drew
  have m := d.has.jc (Kb (Kb Sn))
  have n := d.has.jc (Db (Db (Dr (Dr (Dr (Kr Sn))))))
  refine sR 15 m n jK (jR 0 rfl kr (.inl rfl) rfl dc (fun _ _ h => ⟨h.1, kx br h.2⟩) ⟨m, fun _ => n⟩ (fun _ _ _ _ => jh a2) (jR 1 rfl kr (.inl rfl) rfl dc (fun _ _ h => ⟨h.1, kx br h.2⟩) ⟨m, fun _ => n⟩ (fun _ _ _ _ => lR rfl) (jR 2 rfl kr (.inl rfl) rfl dc (fun _ _ h => ⟨h.1, kx br h.2⟩) ⟨m, fun _ => n⟩ (fun _ _ _ _ => jm EQ rfl) (jR 3 rfl kr (.inl rfl) rfl dc (fun _ _ h => ⟨h.1, kx br h.2⟩) ⟨m, fun _ => n⟩ (fun l W q s => have p := s.1; jd rfl (jA p Mh rfl isAgg244)) (jR 4 rfl kr (.inl rfl) rfl dc (fun _ _ h => ⟨h.1, kx br h.2⟩) ⟨m, fun _ => n⟩ (fun _ _ _ _ => jm yE N) (jR 5 rfl kr (.inl rfl) rfl dc (fun _ _ h => ⟨h.1, kx br h.2⟩) ⟨m, fun _ => n⟩ (fun l W q s => have p := s.1; jd rfl (jA p (Mt Mh) rfl cY)) (jR 6 rfl kr (.inl rfl) rfl dc (fun _ _ h => ⟨h.1, kx br h.2⟩) ⟨m, fun _ => n⟩ (fun _ _ _ _ => jh a2) (jR 7 rfl kr (.inl rfl) rfl dc (fun _ _ h => ⟨h.1, kx br h.2⟩) ⟨m, fun _ => n⟩ (fun _ _ _ _ => lR rfl) (jR 8 rfl kr (.inl rfl) rfl dc (fun _ _ h => ⟨h.1, kx br h.2⟩) ⟨m, fun _ => n⟩ (fun _ _ _ _ => jm EQ rfl) (jR 9 rfl kr (.inl rfl) rfl dc (fun _ _ h => ⟨h.1, kx br h.2⟩) ⟨m, fun _ => n⟩ (fun l W q s => have p := s.1; jd rfl (jA p Mh rfl isAgg244)) (jR 10 rfl kr (.inl rfl) rfl dc (fun _ _ h => ⟨h.1, kx br h.2⟩) ⟨m, fun _ => n⟩ (fun _ _ _ _ => jm yE N) (jR 11 rfl kr (.inl rfl) rfl dc (fun _ _ h => ⟨h.1, kx br h.2⟩) ⟨m, fun _ => n⟩ (fun l W q s => have p := s.1; jd rfl (jA p (Mt Mh) rfl cY)) ?_))))))))))))
  obtain ⟨e0, L⟩ := T
  obtain ⟨h8, g8, g9⟩ := lN.rowAt kU.1 L H.ki
  refine jR 12 rfl kr (.inl rfl) rfl dc (fun _ _ h => ⟨h.1, kx br h.2⟩) ⟨m, fun _ => n⟩ (fun l W q s => have p := (s.2 (q.Bv 15 [12] kr rfl)); nN (k := H.ki) (z := (.slice none 0 0)) DW underlying244 ij rfl rfl L (fun b o hq => p.2 b o (Ml hq))) (jR 13 rfl kr (.inl rfl) rfl dc (fun _ _ h => ⟨h.1, kx br h.2⟩) ⟨m, fun _ => n⟩ (fun l W q s => have p := s.1; jd N (jl p (Mt Mh) (jb H) rfl cJ bn)) (XE 14 rfl (km (cs := (jb H).toArray) d (mH rfl) (nI bo bn dN) (fun i7 e7 d => ?_))))
  have m := d.has.jc (Db (Kb (Kb Sn)))
  have n := d.has.jc (Db (Db (Db (Dr (Dr (Dr (Kr Sn)))))))
  refine ⟨⟨m, fun _ => n⟩, ?_⟩
  replace d := d.perm (Nr (Qb (Qb (Qb (Qr (Qr (Qr Qz)))))) Nz)
  obtain ⟨h9, e4, d5, d6, d2⟩ := lN.open kU.1 (jw.nil _ _ _) L H.ki
  replace d := d.perm (Qc d5)
  replace d := d.perm (Nr (Qr Qz) Nz)
  refine bS g fun f4 d0 g => XE 15 rfl (nL (enc := jb) (v := (pE jP e0 H.ki (.slice none 0 0))) (vs := (.slice (some ⟨e7, 0, none⟩) 1 1)) (R := e4) d kA dc py bo nH.1 nH.2.1 rfl nH.2.2.1 nH.2.2.2 rfl rfl d6 (Sl.lit (enc := jb) (l := [H]) kA rfl nb rfl (d.at_ (Ma (Ma Mh)))) d0 (fun i8 j6 i0 d c6 => ?_))
  have m := d.has.jc (Dr (Dr (Db (Kb (Kb Sn)))))
  refine ⟨⟨m, fun h => xI kr h⟩, ?_⟩
  replace d := d.perm (Nr (Qr Qz) Nz)
  refine XO 16 rfl (NP (k := H.ki) (z := f4)  DW underlying244 d d2 rfl rfl rfl c6 (fun i9 e5 d c7 => ?_))
  have m := d.has.jc (Dr (Db (Kb (Kb Sn))))
  refine ⟨⟨m, fun h => xI kr h⟩, (kJ kr (nY ?_))⟩
  obtain rfl := sj g
  exact nh rfl ⟨_, _, rfl, (d.lO (Sb (Pr (Pb Pz)) (Sr (Qr (Qb (Qb (Qr (Qr Qz))))) (Sr (Qr (Qb (Qb (Qr Qz)))) (Sr (Qr (Qb (Qb Qz))) (Kr (Db (Db (Kr Sn))))))))), A, b7, U, e5, rfl, rfl, b5, Z, c7.e⟩
 refine kX (nY ?_)
 obtain rfl := sj g
 exact nh rfl ⟨_, _, rfl, (d.lO (Kb (Db (Sr (Qr (Qr Qz)) (Sr (Qr Qz) (Kr (Kr (Kr Sn)))))))), A, b7, U, t, rfl, rfl, b5, Z, T⟩
theorem pv (J : Nat) (g : Value) (a0 : List (iX × (List (ByteArray × Bool)))) (D : LO) (a : Value) (M : List iY) (u : LO) (j : Value) (Z : List (iX × (List iY))) (B : LO) (c : Value) (N : List (ByteArray × (List iY))) (y : LO) (i : Value) (Y : List jg) (t : LO) (H : Int) (G : iX) (U : ByteArray) (r : ((List (iX × (List (ByteArray × Bool)))) × (List jg) × Int)) (w : World) {μ0 : jx} (h0 : nf μ0 ((J, Ob #[g, a, j, c, i, (.int .i64 H)] 246) :: (D ++ (u ++ (B ++ (y ++ (t ++ [])))))) w) (a5 : kE (fun (x : iX) => (.agg (jf x).toArray)) (kD Value.string (fun (x : Bool) => (Value.bool x))) g a0 D) (b5 : jw 52 jb 9 a M u) (c3 : kE (fun (x : iX) => (.agg (jf x).toArray)) (jw 52 jb 9) j Z B) (b6 : kE Value.string (jw 52 jb 9) c N y) (K : oI 285 kF 3 i Y t) (hm : mK a0 M Z N Y H G U = some r) :
  kw true pg0 321 [(.pointer (some ⟨J, 0, none⟩)), (.agg (jf G).toArray), (.string U)] w ((J, Ob #[g, a, j, c, i, (.int .i64 H)] 246) :: (D ++ (u ++ (B ++ (y ++ (t ++ [])))))) (fun v L1 W' => ∃ S1 y3 S4, v = (.tuple #[]) ∧ L1 = ((J, Ob #[g, a, j, c, y3, (.int .i64 (r.2.2))] 246) :: (S1 ++ (u ++ (B ++ (y ++ (S4 ++ [])))))) ∧ kE (fun (x : iX) => (.agg (jf x).toArray)) (kD Value.string (fun (x : Bool) => (Value.bool x))) g r.1 S1 ∧ oI 285 kF 3 y3 r.2.1 S4) := by
 let a1 := (#[g, a, j, c, i, (.int .i64 H)] : Array Value)
 refine xW h0 53 func321 rfl (fun m => sg (VE (jZ m rfl (fun W2 b1 m => ln (jt (jt ?_))))))
 replace m := m.drew
 have d := m.has.jc (Kb (Kb (Kr Sn)))
 refine kC d jK (X 0 rfl d (jh rfl) (X 1 rfl d (lR rfl) (X 2 rfl d (jm uo rfl) (XH 3 rfl d (fun _ p => jd rfl (jA p (Mt Mh) rfl gw)) (XH 4 rfl d (fun _ p => jd rfl (jl p Mh (jf G) rfl bT bB)) ?_)))))
 obtain ⟨f4, Q⟩ := a5
 refine XH 5 rfl d (fun _ p => nN (k := G) (z := (.map none)) xR et eP rfl rfl Q (fun b o A => p.2 b o (Mt (Mt (Ml A))))) (X 6 rfl d (jh rfl) (XH 7 rfl d (fun _ p => xy (k := U) (z := false) (vf := (fun (x : Bool) => (Value.bool x))) DW eU iH rfl rfl (lN.AU (μ := hp _) js.1 Q G (fun b o A => p.2 b o (Mt (Mt (Ml A)))))) (kJ kr (jo (CI hm rfl (fun d5 hm => ?_) (fun d5 hm => ?_))))))
 ·refine kl (lc ?_)
  obtain rfl := sj hm
  exact nh rfl ⟨_, _, rfl, (m.lO (Db (Kb (Kr (Kr (Kr (Kr (Kr Sn)))))))), D, i, t, rfl, rfl, Q.e, K⟩
 refine kn (jt (CJ hm (fun b2 E W => ∃ O c0, ST true (keys ((J, Obj.cells a1 246 (0, 0)) :: (D ++ (u ++ (B ++ (y ++ (t ++ []))))))) w W μ0 ((b1, Ol (jf G) 27) :: ((J, Obj.cells a1 246 (0, 0)) :: (O ++ (u ++ (B ++ (y ++ (t ++ c0))))))) ∧ E 0 = (.pointer (some ⟨J, 0, none⟩)) ∧ E 2 = (.string U) ∧ E 4 = (.pointer (some ⟨b1, 0, none⟩)) ∧ kE (fun (x : iX) => (.agg (jf x).toArray)) (kD Value.string (fun (x : Bool) => (Value.bool x))) g b2 O) (fun b2 I => ?_) ?_))
 ·refine jt ?_
  replace m := m.drew
  have d := m.has.jc (Kb (Kb (Kr Sn)))
  refine kC d jK (X 0 rfl d (jh rfl) (X 1 rfl d (lR rfl) (X 2 rfl d (jm uo rfl) (XH 3 rfl d (fun _ p => jd rfl (jA p (Mt Mh) rfl gw)) (XH 4 rfl d (fun _ p => jd rfl (jl p Mh (jf G) rfl bT bB)) (XH 5 rfl d (fun _ p => nN (k := G) (z := (.map none)) xR et eP rfl rfl Q (fun b o A => p.2 b o (Mt (Mt (Ml A))))) (X 6 rfl d (HV js.1 eU Q rfl rfl) (kJ kr (jo (CI I rfl (fun b7 I => ?_) (fun b7 I => ?_)))))))))))
  ·replace m := m.drew
   have d := m.has.jc (Kb (Kb Sn))
   refine kC d jK (X 0 rfl d (jh rfl) (X 1 rfl d (lR rfl) (X 2 rfl d (jm uo rfl) (XH 3 rfl d (fun _ p => jd rfl (jA p (Mt Mh) rfl gw)) (XH 4 rfl d (fun _ p => jd rfl (jl p Mh (jf G) rfl bT bB)) (XE 5 rfl (FG (P := pg0) Value.string (fun (x : Bool) => (Value.bool x)) m (fun e1 e7 d9 m b3 => ?_))))))))
   have d := m.has.jc (Dr (Kb (Kb Sn)))
   refine ⟨d, ?_⟩
   replace m := m.perm (Nr (Qr (Qb (Qb Qz))) Nz)
   refine bS I fun e4 b9 I => XO 6 rfl (KK (k := G) (z := ([]))  xR et m Q rfl rfl rfl b3 b9 (fun e2 c4 m b4 => ?_))
   have d := m.has.jc (Dr (Kb (Kb Sn)))
   refine ⟨d, (kJ kr (jo ?_))⟩
   obtain rfl := sj I
   exact ⟨c4, _, (m.jc (Sb (Pr Pz) (Sb (Pr Pz) St))), rfl, rfl, rfl, b4.e⟩
  refine kn ?_
  obtain rfl := sj I
  exact ⟨D, _, (m.jc St), rfl, rfl, rfl, Q.e⟩
 rintro f2 E W ⟨O, c0, m, L, c1, c2, c8⟩ T
 refine jt ?_
 replace m := m.drew
 have d := m.has.jc (Kb (Kb Sn))
 have n := m.has.jc (Db (Db (Kr Sn)))
 refine sR 7 d n jK (jR 0 rfl kr (.inl rfl) rfl dc (fun _ _ h => ⟨h.1, kx br h.2⟩) ⟨d, fun _ => n⟩ (fun _ _ _ _ => jh L) (jR 1 rfl kr (.inl rfl) rfl dc (fun _ _ h => ⟨h.1, kx br h.2⟩) ⟨d, fun _ => n⟩ (fun _ _ _ _ => lR rfl) (jR 2 rfl kr (.inl rfl) rfl dc (fun _ _ h => ⟨h.1, kx br h.2⟩) ⟨d, fun _ => n⟩ (fun _ _ _ _ => jm uo rfl) (jR 3 rfl kr (.inl rfl) rfl dc (fun _ _ h => ⟨h.1, kx br h.2⟩) ⟨d, fun _ => n⟩ (fun l W q s => have p := s.1; jd rfl (jA p (Mt Mh) rfl gw)) (jR 4 rfl kr (.inl rfl) rfl dc (fun _ _ h => ⟨h.1, kx br h.2⟩) ⟨d, fun _ => n⟩ (fun l W q s => have p := s.1; jd c2 (jl p Mh (jf G) rfl bT bB)) ?_)))))
 obtain ⟨e5, a9⟩ := c8
 refine jR 5 rfl kr (.inl rfl) rfl dc (fun _ _ h => ⟨h.1, kx br h.2⟩) ⟨d, fun _ => n⟩ (fun l W q s => have p := (s.2 (q.Bv 7 [5] kr rfl)); nN (k := G) (z := (.map none)) xR et eP rfl rfl a9 (fun b o A => p.2 b o (Ml A))) (jR 6 rfl kr (.inl rfl) rfl dc (fun _ _ h => ⟨h.1, kx br h.2⟩) ⟨d, fun _ => n⟩ (fun _ _ _ _ => jh c1) ?_)
 replace m := m.perm (Nr (Qb (Qb Qz)) Nz)
 refine bS T fun f3 c7 T => XO 7 rfl (Jz (k := G) (v := true) (vf := (fun (x : Bool) => (Value.bool x)))  js.1 DW eU m a9 rfl rfl rfl c7 (fun e8 c9 m c5 => ?_))
 have d := m.has.jc (Dr (Kb (Kb Sn)))
 refine ⟨⟨d, fun h => xI kr h⟩, (kJ kr (jo (sg (Wh L (Wn (Wf CC (VB m (Ma (Mt Mh)) rfl rfl cO (Wi rfl (Wn (Wf CC ?_))))))))))⟩
 replace m := m.perm (Nb (Pr (Pb Pz)) Nz)
 refine VO (jz (.int .i64 (wi0 .i64 (H + 1))) (#[g, a, j, c, i, (.int .i64 (wi0 .i64 (H + 1)))]) m rfl rfl fZ (Cw _ (wi0 .i64 (H + 1))) nb rfl (fun e9 m => ln ?_))
 replace m := m.drew
 have d := m.has.jc (Db (Dr (Kb Sn)))
 have n := m.has.jc (Kb Sn)
 refine sR 12 d n jK (jR 0 rfl kr (.inl rfl) rfl dc (fun _ _ h => ⟨h.1, kx br h.2⟩) ⟨d, fun _ => n⟩ (fun _ _ _ _ => jh L) (jR 1 rfl kr (.inl rfl) rfl dc (fun _ _ h => ⟨h.1, kx br h.2⟩) ⟨d, fun _ => n⟩ (fun _ _ _ _ => jh L) (jR 2 rfl kr (.inl rfl) rfl dc (fun _ _ h => ⟨h.1, kx br h.2⟩) ⟨d, fun _ => n⟩ (fun _ _ _ _ => lR rfl) (jR 3 rfl kr (.inl rfl) rfl dc (fun _ _ h => ⟨h.1, kx br h.2⟩) ⟨d, fun _ => n⟩ (fun _ _ _ _ => jm yt rfl) (jR 4 rfl kr (.inl rfl) rfl dc (fun _ _ h => ⟨h.1, kx br h.2⟩) ⟨d, fun _ => n⟩ (fun l W q s => have p := (s.2 (q.Bv 12 [4] kr rfl)); jd rfl (jA p Mh rfl isAgg226)) (jR 5 rfl kr (.inl rfl) rfl dc (fun _ _ h => ⟨h.1, kx br h.2⟩) ⟨d, fun _ => n⟩ (fun l W q s => have p := s.1; jd c2 (jl p Mh (jf G) rfl bT bB)) (jR 6 rfl kr (.inl rfl) rfl dc (fun _ _ h => ⟨h.1, kx br h.2⟩) ⟨d, fun _ => n⟩ (fun _ _ _ _ => jh c1) (jR 7 rfl kr (.inl rfl) rfl dc (fun _ _ h => ⟨h.1, kx br h.2⟩) ⟨d, fun _ => n⟩ (fun _ _ _ _ => lY (v := (.agg (kF (⟨G, U⟩ : jg)).toArray)) (xC rfl rfl) (li iI eT (L7 _ eT) kr)) (XE 8 rfl (km (cs := (kF (⟨G, U⟩ : jg)).toArray) m (mH rfl) (nI gn iD iI) (fun f0 d4 m => ?_)))))))))))
 have d := m.has.jc (Db (Db (Dr (Kb Sn))))
 have n := m.has.jc (Db (Kb Sn))
 refine ⟨⟨d, fun _ => n⟩, ?_⟩
 replace m := m.perm (Nr (Qb (Qb (Qr (Qb (Qr (Qr (Qr Qz))))))) Nz)
 refine bS T fun b0 c6 T => XE 9 rfl (HM (enc := kF) (v := i) (vs := (.slice (some ⟨d4, 0, none⟩) 1 1)) (R := t) m vA dc Ie gn CF.1 CF.2.1 rfl CF.2.2.1 CF.2.2.2 rfl rfl K (Sl.lit (enc := kF) (l := [(⟨G, U⟩ : jg)]) vA rfl nb rfl (m.at_ (Ma Mh))) c6 (fun f1 e6 d0 m a7 => ?_))
 have d := m.has.jc (Dr (Db (Db (Dr (Kb Sn)))))
 have n := m.has.jc (Dr (Db (Kb Sn)))
 refine ⟨⟨d, fun _ => n⟩, (jR 10 rfl kr (.inl rfl) rfl dc (fun _ _ h => ⟨h.1, kx br h.2⟩) ⟨d, fun _ => n⟩ (fun _ _ _ _ => lR rfl) (jR 11 rfl kr (.inl rfl) rfl dc (fun _ _ h => ⟨h.1, kx br h.2⟩) ⟨d, fun _ => n⟩ (fun _ _ _ _ => jm yt rfl) ?_))⟩
 obtain ⟨a3, a4, rfl⟩ := a7.form
 let a2 : Value := (.slice a3 b0.length a4)
 replace m := m.perm (Nb (Pr (Pb Pz)) Nz)
 refine XO 12 rfl (jz a2 (#[g, a, j, c, a2, (.int .i64 (wi0 .i64 (H + 1)))]) m rfl rfl sizeOf226 oc nb rfl (fun e0 m => ?_))
 have d := m.has.jc (Db (Dr (Db (Dr (Kb Sn)))))
 refine ⟨⟨d, fun h => xI kr h⟩, (kJ kr (nY ?_))⟩
 obtain rfl := sj T
 exact nh rfl ⟨_, _, rfl, (m.lO (Kb (Sr (Qr (Qb Qz)) (Sr (Qr (Qb (Qb Qz))) (Sr (Qr (Qb (Qb Qz))) (Sr (Qr (Qb (Qb Qz))) (Kr Sn))))))), c9, a2, d0, rfl, rfl, c5.e, a7⟩
theorem th (a : Value) (g : List (ByteArray × Bool)) (r : Unit) (w : World) (c : tN Value.string (fun (x : Bool) => (Value.bool x)) (hp w) a g) (hm : nu g = some r) :
  kw true pg0 362 [a] w [] (fun v k W' => ∃ i, v = (.func (.func 380) #[] #[(.pointer (some ⟨i, 0, none⟩))]) ∧ k = ((i, Ob #[a] 247) :: [])) := by
 refine uU 4 func362 rfl (fun b => sg ?_)
 obtain ⟨t, rfl⟩ := c.form
 refine VE (jZ b rfl (fun u j b => Wa (lr (V (sa (by exact uw rfl) rfl) (Wa (lt ?_))))))
 obtain rfl := sj hm
 exact kv (v := (.func (.func 380) #[] #[(.pointer (some ⟨j, 0, none⟩))])) rfl rfl ⟨_, _, rfl, (b.KH (Kb Sn)), j, rfl, rfl⟩
theorem Fe {β : Type} {vf : β → Value} {l : List (ByteArray × β)} {b : Nat} {c : Value} {W : World} {r : List ByteArray} (d : W.heap[b]? = some (.cells #[c] 247 (0, 0))) (hm : tN Value.string vf (hp W) c l) (hk : DZ l = some r) : lJ false pg0 361 [.func (.func 380) #[] #[.pointer (some ⟨b, 0, none⟩)]] W 9 Bb 1 r := HF (P := pg0) M8 MG Oi rfl dH call380 call379 d hm hk
theorem vB (T : Nat) (a : Value) (u : List (iX × (List (ByteArray × Bool)))) (c : Value) (t : List iY) (j : Value) (G : List (iX × (List iY))) (g : Value) (B : List (ByteArray × (List iY))) (i : Value) (D : List jg) (Q : Int) (H : iX) (r : List ByteArray) (w : World) (J : oV (fun (x : iX) => (.agg (jf x).toArray)) (kD Value.string (fun (x : Bool) => (Value.bool x))) (hp w) a u) (Z : Sl (Pl jb) 9 (hp w) c t) (a4 : oV (fun (x : iX) => (.agg (jf x).toArray)) (jw 52 jb 9) (hp w) j G) (a0 : oV Value.string (jw 52 jb 9) (hp w) g B) (a3 : Sl (Pl kF) 3 (hp w) i D) (Y : At (hp w) (.pointer (some ⟨T, 0, none⟩)) [a, c, j, g, i, (.int .i64 Q)]) (hm : oT u t G B D Q H = some r) :
  lJ false pg0 322 [(.pointer (some ⟨T, 0, none⟩)), (.agg (jf H).toArray)] w 9 Bb 1 r := by
 refine uU 15 func322 rfl (fun d => sg (VE (jZ d rfl (fun W2 R d => Wa (lS (Wm (V (rO underlying183 rfl rfl) (ln (pb rfl ?_)))))))))
 refine kn (jt ?_)
 replace d := d.drew
 have h := d.has.jc (Kb Sn)
 refine kC h jK (X 0 rfl h (jh rfl) (X 1 rfl h (lR rfl) (XQ 2 rfl h (vO [a] uo rfl Y rfl) (fun b9 A => XH 3 rfl h (fun _ l => jd rfl (oL l (y := a) A gw)) (XH 4 rfl h (fun _ l => jd rfl (jl l Mh (jf H) rfl bT bB)) ?_)))))
 obtain ⟨a9, b4, K, M⟩ := J
 refine XH 5 rfl h (fun _ l => nN (k := H) (z := (.map none)) xR et eP rfl rfl K (fun b o m => l.1 b o (M b o m))) (bS hm fun c0 E hm => ?_)
 refine XE 6 rfl (FX d (bX _) call362 (fun _ _ _ _ => kw.lI (th (pE jr a9 H (.map none)) ((jX jr u H).getD []) _ _ ((lN.AU js.1 K H M).mono d.jk) E)) (fun b5 c2 c3 W d I q n a5 => ?_) (L0 := []))
 obtain ⟨b7, N, rfl⟩ := a5
 replace N := N.symm; subst N
 replace d := d.perm (Tb Tn)
 have h := d.has.qZ I (Db (Kb Sn))
 refine ⟨h, (bS hm fun c1 L hm => XE 7 rfl (sI d call361 (Fe (vf := (fun (x : Bool) => (Value.bool x))) (d.has.2 _ _ Mh) ((lN.AU js.1 K H M).mono (fun b o m => d.has.1 b o (I b o m))) L) (fun b6 P c4 O d a2 s U => ?_)))⟩
 have h := d.has.qZ (I.trans a2) (Dr (Db (Kb Sn)))
 refine ⟨h, (X 8 rfl h (oa rfl) (kJ kr (jo ?_)))⟩
 replace d := d.jc (Kr (Db (Db St)))
 refine kl ?_
 obtain rfl := sj hm
 exact kv (v := P) rfl rfl ⟨_, O, rfl, d.nj (fun p m => (Ml m)) U.nd, U⟩
theorem BA (K : Nat) (g : Value) (N : List (iX × (List (ByteArray × Bool)))) (G : LO) (a : Value) (H : List iY) (k : LO) (j : Value) (J : List (iX × (List iY))) (u : LO) (c : Value) (I : List (ByteArray × (List iY))) (t : LO) (z : Value) (M : List jg) (B : LO) (Z : Int) (A a2 : iX) (r : ((List (iX × (List (ByteArray × Bool)))) × (List jg) × Int)) (w : World) {μ0 : jx} (h0 : nf μ0 ((K, Ob #[g, a, j, c, z, (.int .i64 Z)] 246) :: (G ++ (k ++ (u ++ (t ++ (B ++ [])))))) w) (a5 : kE (fun (x : iX) => (.agg (jf x).toArray)) (kD Value.string (fun (x : Bool) => (Value.bool x))) g N G) (Q : jw 52 jb 9 a H k) (a4 : kE (fun (x : iX) => (.agg (jf x).toArray)) (jw 52 jb 9) j J u) (T : kE Value.string (jw 52 jb 9) c I t) (a3 : oI 285 kF 3 z M B) (hm : rp N H J I M Z A a2 = some r) :
  kw false pg0 363 [(.pointer (some ⟨K, 0, none⟩)), (.agg (jf A).toArray), (.agg (jf a2).toArray)] w ((K, Ob #[g, a, j, c, z, (.int .i64 Z)] 246) :: (G ++ (k ++ (u ++ (t ++ (B ++ [])))))) (fun v L1 W' => ∃ S1 y3 S4, v = (.tuple #[]) ∧ L1 = ((K, Ob #[g, a, j, c, y3, (.int .i64 (r.2.2))] 246) :: (S1 ++ (k ++ (u ++ (t ++ (S4 ++ [])))))) ∧ kE (fun (x : iX) => (.agg (jf x).toArray)) (kD Value.string (fun (x : Bool) => (Value.bool x))) g r.1 S1 ∧ oI 285 kF 3 y3 r.2.1 S4) := by
 refine xW h0 21 func363 rfl (fun d => sg (VE (jZ d rfl (fun W2 b1 d => VE (jZ d rfl (fun W4 b3 d => lr (Wm (VA d (Mt Mh) (jf A) bT bB (bS hm fun r5 e6 hm => VE (sI d call322 (vB K g N a H j J c I z M Z A _ _ (a5.at (fun b o l => d.at_ (Mt (Mt (Mt (Ml l)))))) (Q.sl kA (fun b o l => d.at_ (Mt (Mt (Mt (Ma (Ml l))))))) (a4.at (fun b o l => d.at_ (Mt (Mt (Mt (Ma (Ma (Ml l)))))))) (T.at (fun b o l => d.at_ (Mt (Mt (Mt (Ma (Ma (Ma (Ml l))))))))) ((a3.By vA).mono (Pl.mono _) (kT (fun b o l => d.at_ (Mt (Mt (Mt (Ma (Ma (Ma (Ma (Ml l))))))))))) (At.of (d.at_ (Mt (Mt Mh))) _ rfl) e6) (fun W7 e7 s e2 d f5 ae a9 => V (ql iv rfl a9) (Wm ?_))))))))))))
 refine ln ?_
 replace d := d.jc (Kr (Kb (Db St)))
 refine tu (lu (fun i E W => ∃ m U a0 n Y q L R, (E 12 = .int .i64 (i : Nat) ∧ E 11 = .int .i64 (r5.length : Nat)) ∧ jC s L ∧ ST false (keys ((K, Ob #[g, a, j, c, z, (.int .i64 Z)] 246) :: (G ++ (k ++ (u ++ (t ++ (B ++ []))))))) w W L ((K, Ob #[g, a, j, c, a0, (.int .i64 q)] 246) :: ((b3, Ol (jf a2) 27) :: (U ++ (k ++ (u ++ (t ++ (Y ++ (e2 ++ R)))))))) ∧ E 0 = (.pointer (some ⟨K, 0, none⟩)) ∧ E 5 = (.pointer (some ⟨b3, 0, none⟩)) ∧ E 10 = e7 ∧ kE (fun (x : iX) => (.agg (jf x).toArray)) (kD Value.string (fun (x : Bool) => (Value.bool x))) g m U ∧ oI 285 kF 3 a0 n Y ∧ oB H J I a2 (r5.drop i) m n q = some r) r5.length a9.len ⟨N, G, z, M, B, Z, s, _, ⟨rfl, rfl⟩, (jC.refl _), (d.jc (Sb (Pr (Pb Pz)) (Sb (Pr Pz) (Sr (Qr Qz) (Sr (Qr Qz) (Sr (Qr Qz) (Sr (Qr Qz) (Sr (Qr Qz) St)))))))), rfl, rfl, rfl, a5, a3, hm⟩ dc dc dc (fun _ _ _ h => by obtain ⟨_, _, _, _, _, _, _, _, aa, _⟩ := h; exact aa) ?_ ?_)
 ·rintro d8 E W c9 ⟨m, U, a0, n, Y, q, L, R, ⟨eI, eN⟩, b6, d, c0, c1, c2, O, P, D⟩
  obtain ⟨c4, f0, d2, c5, d3⟩ := kL c9
  rw [d2] at D
  refine bg (VQ (pX (i := (d8 : Int)) (x0 := c4) iv gG c2 eI a9 (aV _) c5) (fun f6 d0 => V (jd rfl (Gy d.has (fun p l => (Mt (Mt (Ma (Ma (Ma (Ma (Ma (Ml l))))))))) a9 (fun _ => rfl) d0 c5 (y := (.string c4)) rfl cY)) (Wa (ln (jq (Wh c0 (V (jd c1 (jl d.has (Mt Mh) (jf a2) rfl bT bB)) (Wm (bS D fun c3 d1 D => ?_)))))))))
  refine VE (eM d (Cb Pz (Cr (Qb Qz) (Cr (Qb Qz) (Cr (Qb Qz) (Cr (Qb Qz) (Cr (Qb Qz) Cn)))))) call321 (fun hh _ => kw.lI (pv K g m U a H k j J u c I t a0 n Y q a2 c4 _ _ hh O Q a4 T P d1)) ?_)
  rintro _ f7 e1 f2 d c7 ab ad ⟨d6, e0, d7, b4, rfl, d4, d5⟩
  obtain rfl := b4.symm
  replace d := d.perm (Tb (Tr (Tr (Tr (Tr (Tr Tn))))))
  exact jH (jQ (jo ⟨eI, c3.1, d6, e0, c3.2.1, d7, c3.2.2, e1, _, ⟨rfl, eN⟩, (b6.trans c7), (d.jc (Kb (Sb (Pr (Pr (Pr (Pr (Pr Pz))))) St))), c0, c1, c2, d4, d5, (by rw [d3]; exact D)⟩))
 rintro E W ⟨m, U, a0, n, Y, q, L, R, ⟨eI, eN⟩, b6, d, c0, c1, c2, O, P, D⟩
 rw [bE] at D
 refine jo ?_
 replace d := d.jc (Kb (Db (Kr (Kr (Kr (Kr (Kr (Dr St))))))))
 refine nY ?_
 obtain rfl := sj D
 exact nh rfl ⟨_, _, rfl, (d.lO (Kb (Kr (Kr (Kr (Kr (Kr Sn))))))), U, a0, Y, rfl, rfl, O, P⟩
theorem wH (K : Nat) (G : Value) (Z : List (iX × (List (ByteArray × Bool)))) (D : LO) (g : Value) (I : List iY) (a : LO) (B : Value) (N : List (iX × (List iY))) (y : LO) (i : Value) (J : List (ByteArray × (List iY))) (c : LO) (t : Value) (M : List jg) (j : LO) (a0 : Int) (Q : iY) (a2 : jg) (r : ((List (iX × (List (ByteArray × Bool)))) × (List jg) × Int)) (w : World) {μ0 : jx} (h0 : nf μ0 ((K, Ob #[G, g, B, i, t, (.int .i64 a0)] 246) :: (D ++ (a ++ (y ++ (c ++ (j ++ [])))))) w) (U : kE (fun (x : iX) => (.agg (jf x).toArray)) (kD Value.string (fun (x : Bool) => (Value.bool x))) G Z D) (T : jw 52 jb 9 g I a) (a3 : kE (fun (x : iX) => (.agg (jf x).toArray)) (jw 52 jb 9) B N y) (Y : kE Value.string (jw 52 jb 9) i J c) (H : oI 285 kF 3 t M j) (hm : pI Z I N J M a0 Q a2 = some r) :
  kw false pg0 323 [(.pointer (some ⟨K, 0, none⟩)), (.agg (jb Q).toArray), (.agg (kF a2).toArray)] w ((K, Ob #[G, g, B, i, t, (.int .i64 a0)] 246) :: (D ++ (a ++ (y ++ (c ++ (j ++ [])))))) (fun v L1 W' => ∃ S1 y3 S4, v = (.tuple #[]) ∧ L1 = ((K, Ob #[G, g, B, i, y3, (.int .i64 (r.2.2))] 246) :: (S1 ++ (a ++ (y ++ (c ++ (S4 ++ [])))))) ∧ kE (fun (x : iX) => (.agg (jf x).toArray)) (kD Value.string (fun (x : Bool) => (Value.bool x))) G r.1 S1 ∧ oI 285 kF 3 y3 r.2.1 S4) := by
 let s := (#[G, g, B, i, t, (.int .i64 a0)] : Array Value)
 refine xW h0 57 func323 rfl (fun d => sg (VE (jZ d rfl (fun W2 A d => VE (jZ d rfl (fun W4 O d => lr (Wf vY (VB d (Mt Mh) rfl rfl cO (ln (kW (jt ?_)))))))))))
 refine jq (Wi rfl (Wa (ln (CI hm rfl (fun e5 hm => ?_) (fun e5 hm => ?_)))))
 ·refine jq (Wm (Wf uV (VA d (Mt Mh) (jf Q.Head) bT bB (Wf yo (VB d Mh rfl rfl cY (bS hm fun r6 e6 hm => ?_))))))
  refine VE (eM d (Cb (Pb (Pb Pz)) (Cr (Qb (Qb Qz)) (Cr (Qb (Qb Qz)) (Cr (Qb (Qb Qz)) (Cr (Qb (Qb Qz)) (Cr (Qb (Qb Qz)) Cn)))))) call321 (fun q _ => kw.lI (pv K G Z D g I a B N y i J c t M j a0 Q.Head a2.jM _ _ q U T a3 Y H e6)) ?_)
  rintro _ g7 ad f8 d f2 a6 m ⟨d2, e7, d3, a8, rfl, c5, c6⟩
  obtain rfl := a8.symm
  replace d := d.perm (Tb (Tr (Tr (Tr (Tr (Tr Tn))))))
  refine jH (jQ (nY ?_))
  obtain rfl := sj hm
  exact nh rfl ⟨_, _, rfl, (d.lO (Kb (Kr (Kr (Kr (Kr (Kr Sn))))))), d2, e7, d3, rfl, rfl, c5, c6⟩
 refine sg (Wi rfl (Wa (ln (CI hm rfl (fun c0 hm => ?_) (fun c0 hm => ?_)))))
 ·refine jq (Wm (Wf yo (VB d Mh rfl rfl cY (Wf yE (VB d (Mt Mh) rfl rfl cY (V (lY (v := (.agg (jf (⟨a2.jM, Q.ki⟩ : iX)).toArray)) (xC rfl rfl) (li fP dU (N0 _ dU) kr)) (Wf uV (VA d (Mt Mh) (jf Q.Head) bT bB (bS hm fun g3 c3 hm => ?_)))))))))
  refine VE (eM d (Cb (Pb (Pb Pz)) (Cr (Qb (Qb Qz)) (Cr (Qb (Qb Qz)) (Cr (Qb (Qb Qz)) (Cr (Qb (Qb Qz)) (Cr (Qb (Qb Qz)) Cn)))))) call363 (fun q _ => (BA K G Z D g I a B N y i J c t M j a0 (⟨a2.jM, Q.ki⟩ : iX) Q.Head _ _ q U T a3 Y H c3)) ?_)
  rintro _ g8 h2 f9 d f3 aa m ⟨d4, e9, d5, a9, rfl, c7, c8⟩
  obtain rfl := a9.symm
  replace d := d.perm (Tb (Tr (Tr (Tr (Tr (Tr Tn))))))
  refine jH (jQ (nY ?_))
  obtain rfl := sj hm
  exact nh rfl ⟨_, _, rfl, (d.lO (Kb (Kr (Kr (Kr (Kr (Kr Sn))))))), d4, e9, d5, rfl, rfl, c7, c8⟩
 refine sg (Wi rfl (Wa (ln (CI hm rfl (fun c1 hm => ?_) (fun c1 hm => ?_)))))
 ·refine jt ?_
  replace d := d.drew
  have h := d.has.jc (Kb (Kb (Kb (Kr Sn))))
  refine kC h jK (X 0 rfl h (jh rfl) (X 1 rfl h (lR rfl) (X 2 rfl h (jm uo rfl) (XH 3 rfl h (fun _ l => jd rfl (jA l (Mt (Mt Mh)) rfl gw)) (X 4 rfl h (jm pj rfl) (XH 5 rfl h (fun _ l => jd rfl (jl l (Mt Mh) (jf Q.B) rfl bT bB)) ?_))))))
  obtain ⟨f7, a5⟩ := U
  refine XH 6 rfl h (fun _ l => nN (k := Q.B) (z := (.map none)) xR et eP rfl rfl a5 (fun b o n => l.2 b o (Mt (Mt (Mt (Ml n)))))) (X 7 rfl h (jm yo rfl) (XH 8 rfl h (fun _ l => jd rfl (jA l Mh rfl cY)) (XH 9 rfl h (fun _ l => xy (k := a2.jM) (z := false) (vf := (fun (x : Bool) => (Value.bool x))) DW eU iH rfl rfl (lN.AU (μ := hp _) js.1 a5 Q.B (fun b o n => l.2 b o (Mt (Mt (Mt (Ml n))))))) (X 10 rfl h (jh rfl) (PJ hm (fun R E W => ∃ P, ST false (keys ((K, Obj.cells s 246 (0, 0)) :: (D ++ (a ++ (y ++ (c ++ (j ++ []))))))) w W μ0 ((O, Ol (kF a2) 285) :: ((A, Ol (jb Q) 52) :: ((K, Obj.cells s 246 (0, 0)) :: (D ++ (a ++ (y ++ (c ++ (j ++ P)))))))) ∧ E 0 = (.pointer (some ⟨K, 0, none⟩)) ∧ E 4 = (.pointer (some ⟨A, 0, none⟩)) ∧ E 5 = (.pointer (some ⟨O, 0, none⟩)) ∧ E 50 = (.bool R)) (bm 22 4194303) 0 ?_ (fun R p L => ?_))))))
  ·rintro h1 E W ⟨P, d, e1, e2, e3, e4⟩ a4
   refine kJ kr (jo (CI a4 e4 (fun c2 a4 => ?_) (fun c2 a4 => ?_)))
   ·refine jq (Wh e1 (V (jm uV e2) (VA d (Mt Mh) (jf Q.Head) bT bB (V (jm yo e3) (VB d Mh rfl rfl cY (bS a4 fun g4 c4 a4 => ?_))))))
    refine VE (eM d (Cb (Pb (Pb Pz)) (Cr (Qb (Qb Qz)) (Cr (Qb (Qb Qz)) (Cr (Qb (Qb Qz)) (Cr (Qb (Qb Qz)) (Cr (Qb (Qb Qz)) Cn)))))) call321 (fun q _ => kw.lI (pv K G Z D g I a B N y i J c t M j a0 Q.Head a2.jM _ _ q a5.e T a3 Y H c4)) ?_)
    rintro _ g9 h3 g0 d f4 ab m ⟨d7, f0, d8, b0, rfl, c9, d0⟩
    obtain rfl := b0.symm
    replace d := d.perm (Tb (Tr (Tr (Tr (Tr (Tr Tn))))))
    refine jH (jQ (nY ?_))
    obtain rfl := sj a4
    exact nh rfl ⟨_, _, rfl, (d.lO (Kb (Kr (Kr (Kr (Kr (Kr Sn))))))), d7, f0, d8, rfl, rfl, c9, d0⟩
   refine kX (jQ (nY ?_))
   obtain rfl := sj a4
   exact nh rfl ⟨_, _, rfl, (d.lO (Db (Db (Kb (Kr (Kr (Kr (Kr (Kr Sn))))))))), D, t, j, rfl, rfl, a5.e, H⟩
  refine bC p (fun u p => ?_) (fun u p => ?_)
  ·refine Xg 11 rfl rfl (cB u) h (jh rfl) (Xg 12 rfl rfl (cB u) h (lR rfl) (Xg 13 rfl rfl (cB u) h (jm uo rfl) (xY 14 rfl rfl (cB u) h (fun _ l => jd rfl (jA l (Mt (Mt Mh)) rfl gw)) (Xg 15 rfl rfl (cB u) h (jm yw rfl) (xY 16 rfl rfl (cB u) h (fun _ l => jd rfl (jl l (Mt Mh) (jf Q.C) rfl bT bB)) (xY 17 rfl rfl (cB u) h (fun _ l => nN (k := Q.C) (z := (.map none)) xR et eP rfl rfl a5 (fun b o n => l.2 b o (Mt (Mt (Mt (Ml n)))))) (Xg 18 rfl rfl (cB u) h (jm yo rfl) (xY 19 rfl rfl (cB u) h (fun _ l => jd rfl (jA l Mh rfl cY)) (xY 20 rfl rfl (cB u) h (fun _ l => xy (k := a2.jM) (z := false) (vf := (fun (x : Bool) => (Value.bool x))) DW eU iH rfl rfl (lN.AU (μ := hp _) js.1 a5 Q.C (fun b o n => l.2 b o (Mt (Mt (Mt (Ml n))))))) (X 21 rfl h (jW (cB u) rfl) ?_))))))))))
   obtain rfl := sj p
   refine vm kr (L _ _ ⟨_, (d.jc St), rfl, rfl, rfl, rfl⟩)
  refine Xn 11 rfl rfl (cB u) h (Xn 12 rfl rfl (cB u) h (Xn 13 rfl rfl (cB u) h (Xn 14 rfl rfl (cB u) h (Xn 15 rfl rfl (cB u) h (Xn 16 rfl rfl (cB u) h (Xn 17 rfl rfl (cB u) h (Xn 18 rfl rfl (cB u) h (Xn 19 rfl rfl (cB u) h (Xn 20 rfl rfl (cB u) h (X 21 rfl h (jY (cB u) rfl) ?_))))))))))
  obtain rfl := sj p
  refine vm kr (L _ _ ⟨_, (d.jc St), rfl, rfl, rfl, rfl⟩)
 refine kX (jQ (nY ?_))
 obtain rfl := sj hm
 exact nh rfl ⟨_, _, rfl, (d.lO (Db (Db (Kb (Kr (Kr (Kr (Kr (Kr Sn))))))))), D, t, j, rfl, rfl, U, H⟩
theorem Aw (K : Nat) (g : Value) (T : List (iX × (List (ByteArray × Bool)))) (D : LO) (a : Value) (G : List iY) (j : LO) (t : Value) (J : List (iX × (List iY))) (u : LO) (c : Value) (H : List (ByteArray × (List iY))) (k : LO) (z : Value) (M : List jg) (B : LO) (a0 : Int) (Z : iY) (r : ((List (iX × (List (ByteArray × Bool)))) × (List jg) × Int)) (w : World) {μ0 : jx} (h0 : nf μ0 ((K, Ob #[g, a, t, c, z, (.int .i64 a0)] 246) :: (D ++ (j ++ (u ++ (k ++ (B ++ [])))))) w) (a2 : kE (fun (x : iX) => (.agg (jf x).toArray)) (kD Value.string (fun (x : Bool) => (Value.bool x))) g T D) (N : jw 52 jb 9 a G j) (Y : kE (fun (x : iX) => (.agg (jf x).toArray)) (jw 52 jb 9) t J u) (Q : kE Value.string (jw 52 jb 9) c H k) (U : oI 285 kF 3 z M B) (hm : qj T G J H M a0 Z = some r) :
  kw false pg0 262 [(.pointer (some ⟨K, 0, none⟩)), (.agg (jb Z).toArray)] w ((K, Ob #[g, a, t, c, z, (.int .i64 a0)] 246) :: (D ++ (j ++ (u ++ (k ++ (B ++ [])))))) (fun v L1 W' => ∃ S1 y3 S4, v = (.tuple #[]) ∧ L1 = ((K, Ob #[g, a, t, c, y3, (.int .i64 (r.2.2))] 246) :: (S1 ++ (j ++ (u ++ (k ++ (S4 ++ [])))))) ∧ kE (fun (x : iX) => (.agg (jf x).toArray)) (kD Value.string (fun (x : Bool) => (Value.bool x))) g r.1 S1 ∧ oI 285 kF 3 y3 r.2.1 S4) := by
 refine xW h0 33 func262 rfl (fun d => sg (VE (jZ d rfl (fun W2 b1 d => lr (Wf vY (VB d Mh rfl rfl cO (ln (bg ?_))))))))
 refine Wi rfl (Wa (ln (CI hm rfl (fun f1 hm => ?_) (fun f1 hm => ?_))))
 ·refine jq (Wm (Wf uV (VA d Mh (jf Z.Head) bT bB (Wf BF (VB d Mh rfl rfl cY (bS hm fun r4 f2 hm => ?_))))))
  refine VE (eM d (Cb (Pb Pz) (Cr (Qb Qz) (Cr (Qb Qz) (Cr (Qb Qz) (Cr (Qb Qz) (Cr (Qb Qz) Cn)))))) call321 (fun hh _ => kw.lI (pv K g T D a G j t J u c H k z M B a0 Z.Head Z.jM _ _ hh a2 N Y Q U f2)) ?_)
  rintro _ h1 ae g8 d g2 ad m ⟨e7, f4, e8, c2, rfl, e0, e1⟩
  obtain rfl := c2.symm
  replace d := d.perm (Tb (Tr (Tr (Tr (Tr (Tr Tn))))))
  refine jH (jQ (nY ?_))
  obtain rfl := sj hm
  exact nh rfl ⟨_, _, rfl, (d.lO (Kb (Kr (Kr (Kr (Kr (Kr Sn))))))), e7, f4, e8, rfl, rfl, e0, e1⟩
 refine sg (Wm (Wf pj (VA d Mh (jf Z.B) bT bB (bS hm fun c6 d9 hm => VE (sI d call322 (vB K g T a G t J c H z M a0 Z.B _ _ (a2.at (fun b o l => d.at_ (Mt (Mt (Ml l))))) (N.sl kA (fun b o l => d.at_ (Mt (Mt (Ma (Ml l)))))) (Y.at (fun b o l => d.at_ (Mt (Mt (Ma (Ma (Ml l))))))) (Q.at (fun b o l => d.at_ (Mt (Mt (Ma (Ma (Ma (Ml l)))))))) ((U.By vA).mono (Pl.mono _) (kT (fun b o l => d.at_ (Mt (Mt (Ma (Ma (Ma (Ma (Ml l)))))))))) (At.of (d.at_ (Mt Mh)) _ rfl) d9) (fun g9 f3 d5 e5 d f6 ab L => V (ql iv rfl L) (Wm (ln (tu (lu (fun i E W => ∃ n a3 a5 q a4 a9 O b9, (E 13 = .int .i64 (i : Nat) ∧ E 12 = .int .i64 (c6.length : Nat)) ∧ jC d5 O ∧ ST false (keys ((K, Ob #[g, a, t, c, z, (.int .i64 a0)] 246) :: (D ++ (j ++ (u ++ (k ++ (B ++ []))))))) w W O ((K, Ob #[g, a, t, c, a5, (.int .i64 a9)] 246) :: ((b1, Ol (jb Z) 52) :: (a3 ++ (j ++ (u ++ (k ++ (a4 ++ (e5 ++ b9)))))))) ∧ E 0 = (.pointer (some ⟨K, 0, none⟩)) ∧ E 3 = (.pointer (some ⟨b1, 0, none⟩)) ∧ E 11 = f3 ∧ kE (fun (x : iX) => (.agg (jf x).toArray)) (kD Value.string (fun (x : Bool) => (Value.bool x))) g n a3 ∧ oI 285 kF 3 a5 q a4 ∧ nO G J H Z (c6.drop i) n q a9 = some r) c6.length L.len ⟨T, D, z, M, B, a0, d5, _, ⟨rfl, rfl⟩, (jC.refl _), (d.jc (Sb (Pr (Pb Pz)) (Sb (Pr Pz) (Sr (Qr Qz) (Sr (Qr Qz) (Sr (Qr Qz) (Sr (Qr Qz) (Sr (Qr Qz) St)))))))), rfl, rfl, rfl, a2, U, hm⟩ dc dc dc (fun _ _ _ h => by obtain ⟨_, _, _, _, _, _, _, _, a1, _⟩ := h; exact a1) ?_ ?_))))))))))
 ·rintro e2 E W c8 ⟨n, a3, a5, q, a4, a9, O, b9, ⟨eI, eN⟩, b7, d, c0, A, c1, P, R, I⟩
  obtain ⟨s, f7, d1, c4, d2⟩ := kL c8
  rw [d1] at I
  refine bg (VQ (pX (i := (e2 : Int)) (x0 := s) iv gG c1 eI L (aV _) c4) (fun g3 c9 => V (jd rfl (Gy d.has (fun p l => (Mt (Mt (Ma (Ma (Ma (Ma (Ma (Ml l))))))))) L (fun _ => rfl) c9 c4 (y := (.string s)) rfl cY)) (Wa (ln (jq (Wh c0 (V (jd A (jl d.has (Mt Mh) (jb Z) rfl cJ bn)) (V (jm pj A) (VA d (Mt Mh) (jf Z.B) bT bB (Wm (V (lY (v := (.agg (kF (⟨Z.B, s⟩ : jg)).toArray)) (xC rfl rfl) (li iI eT (L7 _ eT) kr)) ?_)))))))))))
  refine bS I fun c3 d0 I => ?_
  refine VE (eM d (Cb Pz (Cr (Qb Qz) (Cr (Qb Qz) (Cr (Qb Qz) (Cr (Qb Qz) (Cr (Qb Qz) Cn)))))) call323 (fun hh _ => (wH K g n a3 a G j t J u c H k a5 q a4 a9 Z (⟨Z.B, s⟩ : jg) _ _ hh P N Y Q R d0)) ?_)
  rintro _ g4 e4 f9 d c5 aa m ⟨d6, e3, d7, b5, rfl, d3, d4⟩
  obtain rfl := b5.symm
  replace d := d.perm (Tb (Tr (Tr (Tr (Tr (Tr Tn))))))
  exact jH (jQ (jo ⟨eI, c3.1, d6, e3, c3.2.1, d7, c3.2.2, e4, _, ⟨rfl, eN⟩, (b7.trans c5), (d.jc (Kb (Sb (Pr (Pr (Pr (Pr (Pr Pz))))) St))), c0, A, c1, d3, d4, (by rw [d2]; exact I)⟩))
 rintro E W ⟨n, a3, a5, q, a4, a9, O, b9, ⟨eI, eN⟩, b7, d, c0, A, c1, P, R, I⟩
 rw [bE] at I
 refine jo ?_
 replace d := d.jc (Kb (Db (Kr (Kr (Kr (Kr (Kr (Dr St))))))))
 refine jQ (nY ?_)
 obtain rfl := sj I
 exact nh rfl ⟨_, _, rfl, (d.lO (Kb (Kr (Kr (Kr (Kr (Kr Sn))))))), a3, a5, a4, rfl, rfl, P, R⟩
theorem Ah (I : Nat) (a : Value) (e8 : List (iX × (List (ByteArray × Bool)))) (K : LO) (c : Value) (Q : List iY) (j : LO) (u : Value) (N : List (iX × (List iY))) (y : LO) (g : Value) (H : List (ByteArray × (List iY))) (t : LO) (G : Value) (d4 : List jg) (D : LO) (a0 : Int) (r : ((List (iX × (List (ByteArray × Bool)))) × (List jg) × Int)) (w : World) {μ0 : jx} (h0 : nf μ0 ((I, Ob #[a, c, u, g, G, (.int .i64 a0)] 246) :: (K ++ (j ++ (y ++ (t ++ (D ++ [])))))) w) (h4 : kE (fun (x : iX) => (.agg (jf x).toArray)) (kD Value.string (fun (x : Bool) => (Value.bool x))) a e8 K) (c1 : jw 52 jb 9 c Q j) (g7 : kE (fun (x : iX) => (.agg (jf x).toArray)) (jw 52 jb 9) u N y) (c2 : kE Value.string (jw 52 jb 9) g H t) (g4 : oI 285 kF 3 G d4 D) (hm : rW e8 Q N H d4 a0 = some r) :
  kw false pg0 263 [(.pointer (some ⟨I, 0, none⟩))] w ((I, Ob #[a, c, u, g, G, (.int .i64 a0)] 246) :: (K ++ (j ++ (y ++ (t ++ (D ++ [])))))) (fun v L1 W' => ∃ S1 y3 S4, v = (.tuple #[]) ∧ L1 = ((I, Ob #[a, c, u, g, y3, (.int .i64 (r.2.2))] 246) :: (S1 ++ (j ++ (y ++ (t ++ (S4 ++ [])))))) ∧ kE (fun (x : iX) => (.agg (jf x).toArray)) (kD Value.string (fun (x : Bool) => (Value.bool x))) a r.1 S1 ∧ oI 285 kF 3 y3 r.2.1 S4) := by
 let g5 : Value := (.pointer (some ⟨I, 0, none⟩))
 let b8 := ((I, Ob #[a, c, u, g, G, (.int .i64 a0)] 246) :: (K ++ (j ++ (y ++ (t ++ (D ++ []))))))
 refine xW h0 75 func263 rfl (fun d => tu (kW (nm (fun m E W => ∃ e3 b7 e4 a1 b9 d1 b4 h5, jC μ0 b4 ∧ ST false (keys b8) w W b4 ((I, Ob #[a, c, u, g, e4, (.int .i64 d1)] 246) :: (b7 ++ (j ++ (y ++ (t ++ (b9 ++ h5)))))) ∧ E 0 = g5 ∧ kE (fun (x : iX) => (.agg (jf x).toArray)) (kD Value.string (fun (x : Bool) => (Value.bool x))) a e3 b7 ∧ oI 285 kF 3 e4 a1 b9 ∧ mj Q N H m e3 a1 d1 = some r) jB ⟨e8, K, G, d4, D, a0, μ0, _, (jC.refl _), (d.jc St), rfl, h4, g4, hm⟩ ?_)))
 rintro m E W ⟨e3, b7, e4, a1, b9, d1, b4, h5, i0, d, L, g9, c5, M⟩
 cases m with
 | zero => rw [mj] at M; cases M
 | succ n0 =>
  refine jt (sg (Wh L (Wn (Wf yt (VB d Mh rfl rfl isAgg226 (V (LU gn rfl c5) (Wi rfl (ln (CI M rfl (fun i7 M => ?_) (fun i7 M => ?_))))))))))
  ·refine kn (bg (Wh L (Wn (Wf yt (VB d Mh rfl rfl isAgg226 (bS M fun B h2 M => VQ (pN (enc := kF) (i := 0) (x0 := B) gn iD rfl rfl (c5.By vA) (jG h2) (jD h2)) (fun q0 j7 => V (jd rfl (jJ (mI.hp _) (j7.mono (kT (fun b o p => d.has.2 b o (Mt (Ma (Ma (Ma (Ma (Ml p))))))))) isAgg285 iD)) (VE (kq d iI (fun o9 a5 d => VO (jz (.agg (kF B).toArray) ((kF B).toArray) d rfl rfl iD (Ie B) nb rfl (fun p0 d => jH ?_))))))))))))
   let j2 := ((jX jr N B.iX).getD [])
   let j1 : Value := (.pointer (some ⟨a5, 0, none⟩))
   let i6 := ((kF B).toArray : Array Value)
   let i5 := ((jX jP H B.iX.Word).getD [])
   refine jo (sg (Wh L (Wh L (Wn (Wf yt (VB d (Mt Mh) rfl rfl isAgg226 (bS M fun _ g8 M => VQ (Jn (i := 1) gn iD rfl rfl vA c5 (tR g8) (tO g8)) (fun q3 h1 => Wn (Wf yt ?_)))))))))
   obtain ⟨f7, g0, rfl⟩ := h1.form
   let g6 : Value := (.slice f7 (a1.drop (Int.toNat 1)).length g0)
   replace d := d.perm (Nb (Pb Pz) Nz)
   refine VO (jz g6 (#[a, c, u, g, g6, (.int .i64 d1)]) d rfl rfl sizeOf226 oc nb rfl (fun p1 d => ln (jt (jt ?_))))
   replace d := d.drew
   have l := d.has.jc (Kb (Kb (Dr (Dr (Kr Sn)))))
   refine kC l jK (X 0 rfl l (jh L) (X 1 rfl l (lR rfl) (X 2 rfl l (jm Ii rfl) (XH 3 rfl l (fun _ n => jd rfl (jA n Mh rfl isAgg243)) (X 4 rfl l (jm Ff rfl) (XH 5 rfl l (fun _ n => jd rfl (jl n (Mt Mh) (jf B.iX) rfl bT bB)) ?_))))))
   obtain ⟨l7, c3⟩ := g7
   obtain ⟨o7, f0, k2⟩ := lN.rowAt js.1 c3 B.iX
   refine XH 6 rfl l (fun _ n => nN (k := B.iX) (z := (.slice none 0 0)) xR underlying243 ij rfl rfl c3 (fun b o p => n.2 b o (Mt (Mt (Ml p))))) (X 7 rfl l (lT bo rfl (f0.By kA)) (X 8 rfl l (jh rfl) (kJ kr (jo (CJ M (fun d0 E W => ∃ d6 e5 d7 b5 h6, jC b4 b5 ∧ ST false (keys b8) w W b5 ((I, Ob #[a, c, u, g, e5, (.int .i64 d0.2.2)] 246) :: ((a5, Obj.cells i6 285 (0, 0)) :: (d6 ++ (j ++ (y ++ (t ++ (d7 ++ h6))))))) ∧ E 0 = g5 ∧ E 2 = j1 ∧ kE (fun (x : iX) => (.agg (jf x).toArray)) (kD Value.string (fun (x : Bool) => (Value.bool x))) a d0.1 d6 ∧ oI 285 kF 3 e5 d0.2.1 d7) (fun d0 j6 => ?_) ?_)))))
   ·refine lu (fun i E W => ∃ c7 a3 R c8 a4 d2 d3 f9, (E 35 = .int .i64 (i : Nat) ∧ E 34 = .int .i64 (j2.length : Nat)) ∧ jC b4 d3 ∧ ST false (keys b8) w W d3 ((I, Ob #[a, c, u, g, R, (.int .i64 d2)] 246) :: ((a5, Obj.cells i6 285 (0, 0)) :: (a3 ++ (j ++ (y ++ (t ++ (a4 ++ f9))))))) ∧ E 0 = g5 ∧ E 2 = j1 ∧ E 33 = (pE jr l7 B.iX (.slice none 0 0)) ∧ kE (fun (x : iX) => (.agg (jf x).toArray)) (kD Value.string (fun (x : Bool) => (Value.bool x))) a c7 a3 ∧ oI 285 kF 3 R c8 a4 ∧ nF Q N H B (j2.drop i) c7 c8 d2 = some d0) j2.length (f0.By kA).len ⟨e3, b7, g6, (a1.drop (Int.toNat 1)), b9, d1, b4, _, ⟨rfl, rfl⟩, (jC.refl _), (d.jc St), L, rfl, rfl, g9, h1, j6⟩ dc dc dc (fun _ _ _ h => by obtain ⟨_, _, _, _, _, _, _, _, s, _⟩ := h; exact s) ?_ ?_
    ·rintro m5 E W j0 ⟨c7, a3, R, c8, a4, d2, d3, f9, ⟨q, eN⟩, d5, d, e1, e2, g1, f3, f4, T⟩
     obtain ⟨b3, o3, l1, l0, l2⟩ := kL j0
     rw [l1] at T
     refine bg (VQ (pN (enc := jb) (i := (m5 : Int)) (x0 := b3) bo bn g1 q (f0.By kA) (aV _) l0) (fun q2 j9 => V (jd rfl (jJ (mI.hp _) (j9.mono (kT (fun b o p => d.has.2 b o (Mt (Mt (Ma (Ma (Ml (k2 b o p))))))))) cJ bn)) (VE (kq d dN (fun p5 p9 d => VO (jz (.agg (jb b3).toArray) ((jb b3).toArray) d rfl rfl bn (py b3) nb rfl (fun p6 d => ln (jq (Wh e1 (VA d Mh (jb b3) cJ bn (V (jd e2 (jl d.has (Mt (Mt Mh)) (kF B) rfl isAgg285 iD)) (bS T fun g3 k1 T => ?_))))))))))))
     refine VE (eM d (Cb (Pb Pz) (Cr (Qb (Qb Qz)) (Cr (Qb (Qb Qz)) (Cr (Qb (Qb Qz)) (Cr (Qb (Qb Qz)) (Cr (Qb (Qb Qz)) Cn)))))) call323 (fun hh _ => (wH I a c7 a3 c Q j u N y g H t R c8 a4 d2 b3 B _ _ hh f3 c1 c3.e c2 f4 k1)) ?_)
     rintro _ q5 n6 o6 d i4 ab A ⟨m1, n4, m2, f6, rfl, l5, l6⟩
     obtain rfl := f6.symm
     replace d := d.perm (Tb (Tr (Tr (Tr (Tr (Tr Tn))))))
     refine jH (jQ (jo ?_))
     replace d := d.jc (Kb (Kr (Kr (Kr (Kr (Kr (Db St)))))))
     exact ⟨q, g3.1, m1, n4, g3.2.1, m2, g3.2.2, n6, _, ⟨rfl, eN⟩, (d5.trans i4), (d.jc (Kb (Sb (Pr (Pr (Pr (Pr (Pr Pz))))) St))), e1, e2, g1, l5, l6, (by rw [l2]; exact T)⟩
    rintro E W ⟨c7, a3, R, c8, a4, d2, d3, f9, ⟨q, eN⟩, d5, d, e1, e2, g1, f3, f4, T⟩
    rw [bE] at T
    refine jo ?_
    obtain rfl := sj T
    exact ⟨a3, R, a4, d3, _, d5, (d.jc St), e1, e2, f3, f4⟩
   rintro ⟨m6, m7, n1⟩ E W ⟨d6, e5, d7, b5, h6, i1, d, h8, h9, k3, k4⟩ j3
   refine jt ?_
   replace d := d.drew
   have l := d.has.jc (Kb (Kb (Dr (Dr (Dr (Kr Sn))))))
   refine kC l jK (X 0 rfl l (jh h8) (X 1 rfl l (lR rfl) (X 2 rfl l (jm EQ rfl) (XH 3 rfl l (fun _ n => jd rfl (jA n Mh rfl isAgg244)) (X 4 rfl l (jm Ff h9) (X 5 rfl l (jm BP rfl) (XH 6 rfl l (fun _ n => jd rfl (jA n (Mt Mh) rfl cY)) ?_)))))))
   obtain ⟨l8, e9⟩ := c2
   obtain ⟨o8, f1, k5⟩ := lN.rowAt kU.1 e9 B.iX.Word
   refine XH 7 rfl l (fun _ n => nN (k := B.iX.Word) (z := (.slice none 0 0)) DW underlying244 ij rfl rfl e9 (fun b o p => n.2 b o (Mt (Mt (Ml p))))) (X 8 rfl l (lT bo rfl (f1.By kA)) (X 9 rfl l (jh rfl) (kJ kr (jo (tu (CJ j3 (fun c9 E W => ∃ d8 e6 d9 e7 h7, jC b5 e7 ∧ ST false (keys b8) w W e7 ((I, Ob #[a, c, u, g, e6, (.int .i64 c9.2.2)] 246) :: (d8 ++ (j ++ (y ++ (t ++ (d9 ++ h7)))))) ∧ E 0 = g5 ∧ kE (fun (x : iX) => (.agg (jf x).toArray)) (kD Value.string (fun (x : Bool) => (Value.bool x))) a c9.1 d8 ∧ oI 285 kF 3 e6 c9.2.1 d9) (fun c9 j5 => ?_) ?_))))))
   ·refine lu (fun i E W => ∃ a9 Y a2 P Z b2 b6 f8, (E 53 = .int .i64 (i : Nat) ∧ E 52 = .int .i64 (i5.length : Nat)) ∧ jC b5 b6 ∧ ST false (keys b8) w W b6 ((I, Ob #[a, c, u, g, a2, (.int .i64 b2)] 246) :: ((a5, Obj.cells i6 285 (0, 0)) :: (Y ++ (j ++ (y ++ (t ++ (Z ++ f8))))))) ∧ E 0 = g5 ∧ E 2 = j1 ∧ E 51 = (pE jP l8 B.iX.Word (.slice none 0 0)) ∧ kE (fun (x : iX) => (.agg (jf x).toArray)) (kD Value.string (fun (x : Bool) => (Value.bool x))) a a9 Y ∧ oI 285 kF 3 a2 P Z ∧ mN B Q N H (i5.drop i) a9 P b2 = some c9) i5.length (f1.By kA).len ⟨m6, d6, e5, m7, d7, n1, b5, _, ⟨rfl, rfl⟩, (jC.refl _), (d.jc St), h8, h9, rfl, k3, k4, j5⟩ dc dc dc (fun _ _ _ h => by obtain ⟨_, _, _, _, _, _, _, _, s, _⟩ := h; exact s) ?_ ?_
    ·rintro m4 E W i9 ⟨a9, Y, a2, P, Z, b2, b6, f8, ⟨q, eN⟩, a8, d, O, c0, e0, f2, c6, J⟩
     obtain ⟨U, o2, k9, k8, h3⟩ := kL i9
     rw [k9] at J
     refine bg (VQ (pN (enc := jb) (i := (m4 : Int)) (x0 := U) bo bn e0 q (f1.By kA) (aV _) k8) (fun q1 j8 => V (jd rfl (jJ (mI.hp _) (j8.mono (kT (fun b o p => d.has.2 b o (Mt (Mt (Ma (Ma (Ma (Ml (k5 b o p)))))))))) cJ bn)) (VE (kq d dN (fun p2 p8 d => VO (jz (.agg (jb U).toArray) ((jb U).toArray) d rfl rfl bn (py U) nb rfl (fun p3 d => ln (jt ?_))))))))
     replace d := d.drew
     have l := d.has.jc (Kb (Kb (Kb (Kr Sn))))
     refine kC l jK (X 0 rfl l (jh O) (X 1 rfl l (lR rfl) (X 2 rfl l (jm uo rfl) (XH 3 rfl l (fun _ n => jd rfl (jA n (Mt Mh) rfl gw)) (X 4 rfl l (jm pj rfl) (XH 5 rfl l (fun _ n => jd rfl (jl n Mh (jf U.B) rfl bT bB)) ?_))))))
     obtain ⟨o0, c4⟩ := f2
     refine XH 6 rfl l (fun _ n => nN (k := U.B) (z := (.map none)) xR et eP rfl rfl c4 (fun b o p => n.2 b o (Mt (Mt (Mt (Ml p)))))) (X 7 rfl l (jm Ff c0) (X 8 rfl l (jm yZ rfl) (XH 9 rfl l (fun _ n => jd rfl (jA n (Mt (Mt Mh)) rfl cY)) (XH 10 rfl l (fun _ n => xy (k := B.iX.ja) (z := false) (vf := (fun (x : Bool) => (Value.bool x))) DW eU iH rfl rfl (lN.AU (μ := hp _) js.1 c4 U.B (fun b o p => n.2 b o (Mt (Mt (Mt (Ml p))))))) (kJ kr (jo (CI J rfl (fun i8 J => ?_) (fun i8 J => ?_))))))))
     ·refine jq (Wh O (Wf uV (VA d Mh (jf U.Head) bT bB (V (jm yo c0) (VB d (Mt (Mt Mh)) rfl rfl cY (bS J fun g2 k0 J => ?_))))))
      refine VE (eM d (Cb (Pb Pz) (Cr (Qb (Qb Qz)) (Cr (Qb (Qb Qz)) (Cr (Qb (Qb Qz)) (Cr (Qb (Qb Qz)) (Cr (Qb (Qb Qz)) Cn)))))) call321 (fun hh _ => kw.lI (pv I a a9 Y c Q j u N y g H t a2 P Z b2 U.Head B.jM _ _ hh c4.e c1 c3.e e9.e c6 k0)) ?_)
      rintro _ q4 n5 o5 d i3 aa A ⟨l9, n3, m0, f5, rfl, l3, l4⟩
      obtain rfl := f5.symm
      replace d := d.perm (Tb (Tr (Tr (Tr (Tr (Tr Tn))))))
      refine jH (jQ (jo ?_))
      replace d := d.jc (Kb (Kr (Kr (Kr (Kr (Kr (Db St)))))))
      exact ⟨q, g2.1, l9, n3, g2.2.1, m0, g2.2.2, n5, _, ⟨rfl, eN⟩, (a8.trans i3), (d.jc (Kb (Sb (Pr (Pr (Pr (Pr (Pr Pz))))) St))), O, c0, e0, l3, l4, (by rw [h3]; exact J)⟩
     refine kX (jQ (jo ?_))
     replace d := d.jc (Db St)
     exact ⟨q, a9, Y, a2, P, Z, b2, b6, _, ⟨rfl, eN⟩, a8, (d.jc St), O, c0, e0, c4.e, c6, (by rw [h3]; exact J)⟩
    rintro E W ⟨a9, Y, a2, P, Z, b2, b6, f8, ⟨q, eN⟩, a8, d, O, c0, e0, f2, c6, J⟩
    rw [bE] at J
    refine jo ?_
    obtain rfl := sj J
    exact ⟨Y, a2, Z, b6, _, a8, (d.jc (Kb (Db St))), O, f2, c6⟩
   rintro ⟨m8, m9, n2⟩ E W ⟨d8, e6, d9, e7, h7, i2, d, m3, k6, k7⟩ j4
   exact jQ (jo ⟨n0, bM _, m8, d8, e6, m9, d9, n2, e7, _, ((i0.trans i1).trans i2), (d.jc St), m3, k6, k7, j4⟩)
  refine mU (mA (mA (qX (jo (nY ?_)))))
  obtain rfl := sj M
  exact nh rfl ⟨_, _, rfl, (d.lO (Kb (Kr (Kr (Kr (Kr (Kr Sn))))))), b7, e4, b9, rfl, rfl, g9, c5⟩
theorem BB (H : Nat) (g : Value) (c2 : List (iX × (List (ByteArray × Bool)))) (G : LO) (u : Value) (a7 : List iY) (k : LO) (c : Value) (b7 : List (iX × (List iY))) (z : LO) (a : Value) (a8 : List (ByteArray × (List iY))) (t : LO) (B : Value) (b6 : List jg) (y : LO) (K : Int) (d1 : Value) (p : List iY) (r : (Int × (List (iX × (List (ByteArray × Bool)))) × (List iY) × (List (iX × (List iY))) × (List (ByteArray × (List iY))) × (List jg) × Int)) (w : World) {μ0 : jx} (h0 : nf μ0 ((H, Ob #[g, u, c, a, B, (.int .i64 K)] 246) :: (G ++ (k ++ (z ++ (t ++ (y ++ [])))))) w) (d6 : kE (fun (x : iX) => (.agg (jf x).toArray)) (kD Value.string (fun (x : Bool) => (Value.bool x))) g c2 G) (c6 : jw 52 jb 9 u a7 k) (d3 : kE (fun (x : iX) => (.agg (jf x).toArray)) (jw 52 jb 9) c b7 z) (c7 : kE Value.string (jw 52 jb 9) a a8 t) (d2 : oI 285 kF 3 B b6 y) (d7 : Sl (Pl jb) 9 μ0 d1 p) (hm : rn c2 a7 b7 a8 b6 K p = some r) :
  kw false pg0 200 [(.pointer (some ⟨H, 0, none⟩)), d1] w ((H, Ob #[g, u, c, a, B, (.int .i64 K)] 246) :: (G ++ (k ++ (z ++ (t ++ (y ++ [])))))) (fun v L1 W' => ∃ S1 y3 S4 S6 S8 i1 i0, v = (.int .i64 (r.1)) ∧ L1 = ((H, Ob #[g, y3, c, a, i1, (.int .i64 (r.2.2.2.2.2.2))] 246) :: (S1 ++ (S4 ++ (S6 ++ (S8 ++ (i0 ++ [])))))) ∧ kE (fun (x : iX) => (.agg (jf x).toArray)) (kD Value.string (fun (x : Bool) => (Value.bool x))) g r.2.1 S1 ∧ jw 52 jb 9 y3 r.2.2.1 S4 ∧ kE (fun (x : iX) => (.agg (jf x).toArray)) (jw 52 jb 9) c r.2.2.2.1 S6 ∧ kE Value.string (jw 52 jb 9) a r.2.2.2.2.1 S8 ∧ oI 285 kF 3 i1 r.2.2.2.2.2.1 i0) := by
 let b8 := ((H, Ob #[g, u, c, a, B, (.int .i64 K)] 246) :: (G ++ (k ++ (z ++ (t ++ (y ++ []))))))
 refine xW h0 46 func200 rfl (fun d => sg (Wa (lS (Wm (V (rO underlying183 rfl rfl) (ln (pb rfl (kX ?_))))))))
 refine jo (sg (Wm (Wn (Wf CC (VB d Mh rfl rfl cO (Wa (lS (Wm (V (lT bo rfl d7) ?_)))))))))
 refine Wm (ln (lu (fun i E W => ∃ a3 N M a4 Q a9 T n U a0 a5 Y a2 c1 d5, (E 16 = .int .i64 (i : Nat) ∧ E 15 = .int .i64 (p.length : Nat)) ∧ jC μ0 c1 ∧ ST false (keys b8) w W c1 ((H, Ob #[g, M, c, a, a0, (.int .i64 a2)] 246) :: (N ++ (Q ++ (T ++ (U ++ (Y ++ d5)))))) ∧ E 0 = (.pointer (some ⟨H, 0, none⟩)) ∧ E 5 = (.int .i64 K) ∧ E 14 = d1 ∧ kE (fun (x : iX) => (.agg (jf x).toArray)) (kD Value.string (fun (x : Bool) => (Value.bool x))) g a3 N ∧ jw 52 jb 9 M a4 Q ∧ kE (fun (x : iX) => (.agg (jf x).toArray)) (jw 52 jb 9) c a9 T ∧ kE Value.string (jw 52 jb 9) a n U ∧ oI 285 kF 3 a0 a5 Y ∧ mL K (p.drop i) a3 a4 a9 n a5 a2 = some r) p.length d7.len ⟨c2, G, u, a7, k, b7, z, a8, t, B, b6, y, K, μ0, _, ⟨rfl, rfl⟩, (jC.refl _), (d.jc St), rfl, rfl, rfl, d6, c6, d3, c7, d2, hm⟩ dc dc dc (fun _ _ _ h => by obtain ⟨_, _, _, _, _, _, _, _, _, _, _, _, _, _, _, aa, _⟩ := h; exact aa) ?_ ?_))
 ·rintro f6 E W g3 ⟨a3, N, M, a4, Q, a9, T, n, U, a0, a5, Y, a2, c1, d5, ⟨eI, eN⟩, b1, d, s, c3, c4, L, q, O, P, R, D⟩
  obtain ⟨I, j8, h4, h3, d9⟩ := kL g3
  rw [h4] at D
  refine bg (VQ (pN (enc := jb) (i := (f6 : Int)) (x0 := I) bo bn c4 eI (d7.mono (Pl.mono _) b1) (aV _) h3) (fun l1 g4 => V (jd rfl (jJ d.has g4 cJ bn)) (VE (kq d dN (fun k3 e8 d => VO (jz (.agg (jb I).toArray) ((jb I).toArray) d rfl rfl bn (py I) nb rfl (fun k4 d => ln (jt ?_))))))))
  replace d := d.drew
  have l := d.has.jc (Kb (Kb Sn))
  refine kC l jK (XH 0 rfl l (fun _ hS => jd rfl (jl hS Mh (jb I) rfl cJ bn)) (bS D fun l2 g7 D => XE 1 rfl (Eg d call144 (jO.lI (wu I _ _  g7)) (fun k5 d => ?_))))
  have l := d.has.jc (Kb (Kb Sn))
  refine ⟨l, (X 2 rfl l (jh rfl) (PJ D (fun f7 E W => ∃ e4, ST false (keys b8) w W c1 ((e8, Ol (jb I) 52) :: ((H, Ob #[g, M, c, a, a0, (.int .i64 a2)] 246) :: (N ++ (Q ++ (T ++ (U ++ (Y ++ e4))))))) ∧ E 0 = (.pointer (some ⟨H, 0, none⟩)) ∧ E 5 = (.int .i64 K) ∧ E 7 = (.pointer (some ⟨e8, 0, none⟩)) ∧ E 14 = d1 ∧ E 15 = (.int .i64 (p.length : Int)) ∧ E 16 = (.int .i64 (f6 : Int)) ∧ E 30 = (.bool f7)) (bm 11 2047) 0 ?_ (fun f7 Z d4 => ?_)))⟩
  ·rintro l7 E W ⟨e4, d, c5, e9, f0, f1, f2, f3, i6⟩ J
   refine kJ kr (jo (CI J i6 (fun g2 J => ?_) (fun g2 J => ?_)))
   ·refine sg (Wh c5 (V (jd f0 (jl d.has Mh (jb I) rfl cJ bn)) (bS J fun A g8 J => ?_)))
    refine VE (eM d (Cb (Pb Pz) (Cr (Qb Qz) (Cr (Qb Qz) (Cr (Qb Qz) (Cr (Qb Qz) (Cr (Qb Qz) Cn)))))) call261 (fun hh _ => kw.lI (Bh H g a3 N M a4 Q c a9 T a n U a0 a5 Y a2 I _ _ hh L q O P R g8)) ?_)
    rintro _ l4 l8 k0 d f4 ab m ⟨f8, e5, e6, e7, c8, rfl, e0, e1, e2⟩
    obtain rfl := c8.symm
    replace d := d.perm (Tb (Tr (Tr (Tr (Tr (Tr Tn))))))
    refine ln (jq (Wh c5 (V (jd f0 (jl d.has (Mt (Ma (Ma (Ma (Ma (Ma Mh)))))) (jb I) rfl cJ bn)) (bS J fun d8 g9 J => ?_))))
    refine VE (eM d (Cb Pz (Cr Qz (Cr Qz (Cr Qz (Cr Qz (Cr Qz Cn)))))) call262 (fun hh _ => (Aw H g a3 N f8 A.1 e5 c A.2.1 e6 a A.2.2 e7 a0 a5 Y a2 I _ _ hh L e0 e1 e2 R g9)) ?_)
    rintro _ l5 j0 k1 d f5 ad m ⟨i2, i8, i3, c9, rfl, h5, h6⟩
    obtain rfl := c9.symm
    replace d := d.perm (Tb (Tr (Tr (Tr (Tr (Tr Tn))))))
    refine jH (jQ (jo ?_))
    replace d := d.jc (Kb (Kr (Kr (Kr (Kr (Kr (Db St)))))))
    exact ⟨f3, d8.1, i2, f8, A.1, e5, A.2.1, e6, A.2.2, e7, i8, d8.2.1, i3, d8.2.2, j0, _, ⟨rfl, f2⟩, ((b1.trans f4).trans f5), (d.jc St), c5, e9, f1, h5, e0, e1, e2, h6, (by rw [d9]; exact J)⟩
   refine kX (jQ (jo ?_))
   replace d := d.jc (Db St)
   exact ⟨f3, a3, N, M, a4, Q, a9, T, n, U, a0, a5, Y, a2, c1, _, ⟨rfl, f2⟩, b1, (d.jc St), c5, e9, f1, L, q, O, P, R, (by rw [d9]; exact J)⟩
  refine bC Z (fun j Z => ?_) (fun j Z => ?_)
  ·refine Xg 3 rfl rfl (cB j) l (jh s) (Xg 4 rfl rfl (cB j) l (lR rfl) (Xg 5 rfl rfl (cB j) l (jm ES rfl) (xY 6 rfl rfl (cB j) l (fun _ hS => jd rfl (jA hS (Mt Mh) rfl isAgg45)) (xY 7 rfl rfl (cB j) l (fun _ hS => jd rfl (jl hS Mh (jb I) rfl cJ bn)) (bS Z fun l3 h1 Z => Ih 8 rfl rfl (cB j) (Eg d call111 (jO.lI (wi M a4 I _ _ (q.sl kA (fun b o hq => d.at_ (Mt (Mt (Ma (Ml hq)))))) h1)) (fun k8 d => ?_)))))))
   have l := d.has.jc (Kb (Kb Sn))
   refine ⟨l, (Xg 9 rfl rfl (cB j) l (px rfl) (X 10 rfl l (jW (cB j) rfl) ?_))⟩
   obtain rfl := sj Z
   refine vm kr (d4 _ _ ⟨_, (d.jc St), s, c3, rfl, c4, eN, eI, rfl⟩)
  refine Xn 3 rfl rfl (cB j) l (Xn 4 rfl rfl (cB j) l (Xn 5 rfl rfl (cB j) l (Xn 6 rfl rfl (cB j) l (Xn 7 rfl rfl (cB j) l (Xn 8 rfl rfl (cB j) l (Xn 9 rfl rfl (cB j) l (X 10 rfl l (jY (cB j) rfl) ?_)))))))
  obtain rfl := sj Z
  refine vm kr (d4 _ _ ⟨_, (d.jc St), s, c3, rfl, c4, eN, eI, rfl⟩)
 rintro E W ⟨a3, N, M, a4, Q, a9, T, n, U, a0, a5, Y, a2, c1, d5, ⟨eI, eN⟩, b1, d, s, c3, c4, L, q, O, P, R, D⟩
 rw [bE] at D
 refine jo (sg (Wh s (bS D fun i7 h2 D => ?_)))
 refine VE (eM d (Cb Pz (Cr Qz (Cr Qz (Cr Qz (Cr Qz (Cr Qz Cn)))))) call263 (fun hh _ => (Ah H g a3 N M a4 Q c a9 T a n U a0 a5 Y a2 _ _ hh L q O P R h2)) ?_)
 rintro _ l6 l9 k2 d j6 ae m ⟨i4, i9, i5, d0, rfl, h7, h8⟩
 obtain rfl := d0.symm
 replace d := d.perm (Tb (Tr (Tr (Tr (Tr (Tr Tn))))))
 refine lr (Wh s (Wn (Wf CC (VB d Mh rfl rfl cO (Wh c3 (Wi rfl (Wa (lt ?_))))))))
 obtain rfl := sj D
 exact kv (v := (.int .i64 (wi0 .i64 (i7.2.2 - K)))) rfl rfl ⟨_, _, rfl, (d.lO (Kb (Kr (Kr (Kr (Kr (Kr Sn))))))), i4, M, Q, T, U, i9, i5, rfl, rfl, h7, q, O, P, h8⟩
theorem Eu (j : Value) (H : List iY) (r : ((List (iX × (List (ByteArray × Bool)))) × (List iY) × (List (iX × (List iY))) × (List (ByteArray × (List iY))) × (List jg) × Int)) (w : World) (J : Sl (Pl jb) 9 (hp w) j H) (hm : uv H = some r) :
  kw false pg0 126 [j] w [] (fun v L1 W' => ∃ l n S3 o S6 p S9 D u G y, v = (.pointer (some ⟨l, 0, none⟩)) ∧ L1 = ((l, Ob #[n, o, p, D, G, (.int .i64 (r.2.2.2.2.2))] 246) :: (S3 ++ (S6 ++ (S9 ++ (u ++ (y ++ [])))))) ∧ kE (fun (x : iX) => (.agg (jf x).toArray)) (kD Value.string (fun (x : Bool) => (Value.bool x))) n r.1 S3 ∧ jw 52 jb 9 o r.2.1 S6 ∧ kE (fun (x : iX) => (.agg (jf x).toArray)) (jw 52 jb 9) p r.2.2.1 S9 ∧ kE Value.string (jw 52 jb 9) D r.2.2.2.1 u ∧ oI 285 kF 3 G r.2.2.2.2.1 y) := by
 refine uU 13 func126 rfl (fun b => sg (Wa (lr (VE (AS (P := pg0) (fun (x : iX) => (.agg (jf x).toArray)) (kD Value.string (fun (x : Bool) => (Value.bool x))) b (fun W1 v4 R2 b z => VE (AS (P := pg0) (fun (x : iX) => (.agg (jf x).toArray)) (jw 52 jb 9) b (fun W5 v8 R6 b B => VE (AS (P := pg0) Value.string (jw 52 jb 9) b (fun W9 O Y b t => ?_))))))))))
 obtain ⟨a, rfl⟩ := z.form
 obtain ⟨c, rfl⟩ := B.form
 obtain ⟨g, rfl⟩ := t.form
 refine V (lY (v := (.agg #[(.map (some a)), (.slice none 0 0), (.map (some c)), (.map (some g)), (.slice none 0 0), (.int .i64 0)])) (AL rfl rfl rfl) (li zeroValue246 er (O5 _ er) kr)) (VE (jZ b rfl (fun c1 k b => Wa (lr (Wm (Wm (bS hm fun L K hm => ?_)))))))
 refine VE (eM b (Cb Pz (Cr (Qr (Qr Qz)) (C0 (Cr (Qr Qz) (Cr Qz (C0 Cn)))))) call200 (fun A h => (BB k (.map (some a)) ([]) R2 (.slice none 0 0) ([]) [] (.map (some c)) ([]) R6 (.map (some g)) ([]) Y (.slice none 0 0) ([]) [] 0 j H _ _ A z (jw.nil _ _ _) B t (oI.nil _ _ _) (J.mono (Pl.mono _) h) K)) ?_)
 rintro _ R W I b E m d ⟨Z, q, a2, a3, a4, s, a5, i, rfl, M, N, Q, T, U⟩
 obtain rfl := i.symm
 replace b := b.perm (Tb (Tr (Tr (Tr (Tr (Tr Tn))))))
 refine lr (Wm (Wa (lt ?_)))
 obtain rfl := sj hm
 exact kv (v := (.pointer (some ⟨k, 0, none⟩))) rfl rfl ⟨_, _, rfl, (b.KH (Kb (Kr (Kr (Kr (Kr (Kr Sn))))))), k, (.map (some a)), Z, q, a2, (.map (some c)), a3, (.map (some g)), a4, s, a5, rfl, rfl, M, N, Q, T, U⟩
theorem G2 (c : Value) (D : List iY) (G : ByteArray) (r : ((List (iX × (List (ByteArray × Bool)))) × (List iY) × (List (iX × (List iY))) × (List (ByteArray × (List iY))) × (List jg) × Int × ByteArray)) (w : World) (I : Sl (Pl jb) 9 (hp w) c D) (hm : sL D G = some r) :
  kw false pg0 123 [c, (.string G)] w [] (fun v L1 W' => ∃ g h l S4 m S7 n j z k B t u, v = (.func (.func 191) #[] #[(.pointer (some ⟨g, 0, none⟩)), (.pointer (some ⟨u, 0, none⟩))]) ∧ L1 = ((g, Ob #[(.pointer (some ⟨h, 0, none⟩))] 183) :: ((h, Ob #[l, m, n, z, B, (.int .i64 (r.2.2.2.2.2.1))] 246) :: ((u, Ob #[(.string (r.2.2.2.2.2.2))] 9) :: (S4 ++ (S7 ++ (j ++ (k ++ (t ++ [])))))))) ∧ kE (fun (x : iX) => (.agg (jf x).toArray)) (kD Value.string (fun (x : Bool) => (Value.bool x))) l r.1 S4 ∧ jw 52 jb 9 m r.2.1 S7 ∧ kE (fun (x : iX) => (.agg (jf x).toArray)) (jw 52 jb 9) n r.2.2.1 j ∧ kE Value.string (jw 52 jb 9) z r.2.2.2.1 k ∧ oI 285 kF 3 B r.2.2.2.2.1 t) := by
 refine uU 9 func123 rfl (fun b => sg (VE (jZ b rfl (fun W2 g b => Wa (lr (Wm (bS hm fun R o hm => ?_)))))))
 refine VE (FX b (bX _) call126 (fun _ _ _ _ => (Eu c D _ _ (I.mono (Pl.mono _) b.jk) o)) (fun W5 v9 L P b O E d H => ?_) (L0 := []))
 obtain ⟨i, p, T, q, U, a9, Y, s, Z, A, a2, a, rfl, J, K, M, N, Q⟩ := H
 replace a := a.symm; subst a
 replace b := b.perm (Tb (Tr (Tr (Tr (Tr (Tr Tn))))))
 refine VE (kq b zeroValue183 (fun c1 y b => VO (jz (.pointer (some ⟨i, 0, none⟩)) (#[(.pointer (some ⟨i, 0, none⟩))]) b rfl rfl sizeOf183 oc nb rfl (fun c2 b => lr (V (sa (by exact vk rfl rfl) rfl) (Wa (lt ?_)))))))
 obtain rfl := sj hm
 exact kv (v := (.func (.func 191) #[] #[(.pointer (some ⟨y, 0, none⟩)), (.pointer (some ⟨g, 0, none⟩))])) rfl rfl ⟨_, _, rfl, (b.KH (Kb (Kb (Sb (Pr (Pr (Pr (Pr (Pr Pz))))) (Kr (Kr (Kr (Kr (Kr Sn))))))))), y, i, p, T, q, U, a9, Y, s, Z, A, a2, g, rfl, rfl, J, K, M, N, Q⟩
theorem xO (g : Value) (t : List kP) (j : Value) (z : kP → Option Bool) (r : Int) (w : World) (c : Sl ku 15 (hp w) g t) (B : uW pg0 j (hp w) (yW ku) (fun (r : Bool) => (.bool r)) z) (hm : qn t z = some r) :
  jO false pg0 142 [g, j] w (.int .i64 r) := by
 refine cG 19 func142 rfl (fun b => sg (Wa (lS (Wm (V (lT eC rfl c) (Wm (ln (lu (fun i E W => ∃ k, (E 8 = .int .i64 (i : Nat) ∧ E 7 = .int .i64 (t.length : Nat)) ∧ ST false lG w W (hp w) k ∧ E 0 = g ∧ E 1 = j ∧ mc z (t.drop i) i = some r) t.length c.len ⟨_, ⟨rfl, rfl⟩, (b.jc St), rfl, rfl, hm⟩ dc dc dc (fun _ _ _ h => by obtain ⟨_, l, _⟩ := h; exact l) ?_ ?_))))))))
 ·rintro T E W G ⟨k, ⟨d, m⟩, b, u, x, a⟩
  obtain ⟨y, Z, N, M, Q⟩ := kL G
  rw [N] at a
  refine bg (Wh d (Wa (lr (Wh x (Wh u (Wm (VQ (mW (i := (T : Int)) (x0 := y) ku.out eC ef rfl rfl c (aV _) M) (fun a2 ⟨_, ⟨U, Y, rfl, J, K⟩, H⟩ => V (jd rfl (jJ b.has H iV ef)) (bS a fun a3 I a => ?_)))))))))
  refine VE (wx y b B (jC.refl _) (yW.mk lK (ku.mk ⟨U, Y, rfl, J, K⟩) b.jk) rfl (uw rfl) I (fun n b => ln (CI a rfl (fun D a => ?_) (fun D a => ?_))))
  ·refine sg (Wm (Wa (lt (og (lc (og (lc ?_)))))))
   obtain rfl := sj a
   exact rP b
  exact kX (jQ (jo ⟨d, _, ⟨rfl, m⟩, (b.jc St), u, x, (by rw [Q]; exact a)⟩))
 rintro E W ⟨k, ⟨d, m⟩, b, u, x, a⟩
 rw [bE] at a
 exact jo (sg (Wa (lt (rQ a b))))
theorem D1 (a : kP) (g c : Value) (k : Nat) (u : iY) (r : Bool) (w : World) (j : Sl (Pl (jN .u8)) 1 (hp w) g a.Signed.Tag) (i : Sl iZ 5 (hp w) c a.ji.Kids) (t : At (hp w) (.pointer (some ⟨k, 0, none⟩)) (jb u)) (hm : tG a u = some r) :
  jO true pg0 254 [(.agg #[(.int .i64 a.Signed.iY.Kind), (.string a.Signed.iY.Head.ja), (.string a.Signed.iY.Head.Word), (.string a.Signed.iY.jM), (.string a.Signed.iY.B.ja), (.string a.Signed.iY.B.Word), (.string a.Signed.iY.C.ja), (.string a.Signed.iY.C.Word), (.string a.Signed.iY.ki), g, (.int .i64 a.ji.Op), (.int .i64 a.ji.K), (.string a.ji.iX.ja), (.string a.ji.iX.Word), c]), (.pointer (some ⟨k, 0, none⟩))] w (.bool r) := by
 refine cG 9 func254 rfl (fun b => sg ?_)
 obtain ⟨x, z, rfl⟩ := j.form
 obtain ⟨y, B, rfl⟩ := i.form
 refine VE (jZ b rfl (fun D G b => Wa (lr (Wf Ax (Wf Al (VA b Mh (jb a.Signed.iY) cJ bn (V (jd rfl (jJ b.has t cJ bn)) (V (Bc rfl rfl (sM gm) (wT (yR _ a.Signed.iY u))) (Wa (ln ?_))))))))))
 exact kl (rQ hm b)
theorem Hq (k : jL) (g j : Value) (D : iY) (r : (kP × Bool)) (w : World) {J : jx} (l : nf J [] w) (c : Sl ku 15 J g k.jv) (B : Sl lx 8 J j k.ke) (hm : wg k D = some r) :
  lj false pg0 192 [(.agg #[(.string k.Name), g, j]), (.agg (jb D).toArray)] w J [] (fun v L1 μ1 => ∃ d h, v = (.tuple #[(.agg #[(.int .i64 ((((r.1).Signed).iY).Kind)), (.string (((((r.1).Signed).iY).Head).ja)), (.string (((((r.1).Signed).iY).Head).Word)), (.string ((((r.1).Signed).iY).jM)), (.string (((((r.1).Signed).iY).B).ja)), (.string (((((r.1).Signed).iY).B).Word)), (.string (((((r.1).Signed).iY).C).ja)), (.string (((((r.1).Signed).iY).C).Word)), (.string ((((r.1).Signed).iY).ki)), d, (.int .i64 (((r.1).ji).Op)), (.int .i64 (((r.1).ji).K)), (.string ((((r.1).ji).iX).ja)), (.string ((((r.1).ji).iX).Word)), h]), (.bool (r.2))]) ∧ L1 = [] ∧ Sl (Pl (jN .u8)) 1 μ1 d (((r.1).Signed).Tag) ∧ Sl iZ 5 μ1 h (((r.1).ji).Kids)) := by
 refine ud l 19 func192 rfl (fun b => sg ?_)
 obtain ⟨T, U, rfl⟩ := c.form
 obtain ⟨A3, c4, rfl⟩ := B.form
 refine VE (jZ b rfl (fun W6 L b => VE (jZ b rfl (fun W8 K b => VE (kq b gx (fun A P b => Wa (lr (Wf BV (VB b (Mt (Mt Mh)) rfl rfl isAgg22 (V (sa (by exact uw rfl) rfl) (bS hm fun Z Q hm => VE (Eg b call142 (xO (.slice T k.jv.length U) k.jv (.func (.func 254) #[] #[(.pointer (some ⟨K, 0, none⟩))]) (fun (x : kP) => tG x D) _ _ (c.mono lK.mono b.jk) ⟨254, #[], #[(.pointer (some ⟨K, 0, none⟩))], rfl, call254, fun W x vs r n m hm => by obtain ⟨_, rfl, Y⟩ := m; obtain ⟨q, s, rfl, o, p⟩ := Y.out; exact (D1 x q s K D r W o p (At.of (n _ _ (b.at_ (Mt Mh))) _ rfl) hm).lI⟩ Q) (fun E b => Wa (jH ?_))))))))))))))
 refine jo ?_
 replace b := b.jc (Kb (Db St))
 refine jt (sg (Wm (Wi rfl (ln (CI hm rfl (fun M hm => ?_) (fun M hm => ?_))))))
 ·refine sg (V (lY (v := (.agg C5.toArray)) sF (li gx gH (PQ _ gH) kr)) (VO (jz (.agg C5.toArray) (C5.toArray) b rfl rfl ef oc nb rfl (fun O b => Wa (ln ?_)))))
  replace b := b.jc (Kb (Db St))
  refine kl (lc ?_)
  obtain rfl := sj hm
  exact tq (v0 := (.agg C5.toArray)) (v1 := (.bool false)) rfl rfl (jl b.has Mh C5 rfl iV ef) rfl ⟨_, _, _, rfl, (b.lO Sn), (jC.refl _), Lo.refl, (ST.kz b (mh.mem Sn)), (.slice none 0 0), (.slice none 0 0), rfl, rfl, (Sl.nil _ _ _), (Sl.nil _ _ _)⟩
 refine kg (Wf BV (VB b (Mt Mh) rfl rfl isAgg22 (Wm (bS hm fun a I hm => VQ (mW (i := Z) (x0 := a) ku.out eC ef rfl rfl c (jG I) (jD I)) (fun c1 ⟨_, ⟨c3, c5, rfl, G, H⟩, N⟩ => V (jd rfl (jJ b.has N iV ef)) ?_)))))
 obtain ⟨t, y, rfl⟩ := G.form
 obtain ⟨u, z, rfl⟩ := H.form
 let a0 := (C2 a.Signed.iY.Kind a.Signed.iY.Head.ja a.Signed.iY.Head.Word a.Signed.iY.jM a.Signed.iY.B.ja a.Signed.iY.B.Word a.Signed.iY.C.ja a.Signed.iY.C.Word a.Signed.iY.ki t a.Signed.Tag.length y a.ji.Op a.ji.K a.ji.iX.ja a.ji.iX.Word u a.ji.Kids.length z)
 refine VO (jz (.agg a0.toArray) (a0.toArray) b rfl rfl ef oc nb rfl (fun R b => Wa (ln ?_)))
 replace b := b.jc (Kb (Db St))
 refine kl ?_
 obtain rfl := sj hm
 exact tq (v0 := (.agg a0.toArray)) (v1 := (.bool true)) rfl rfl (jl b.has Mh a0 rfl iV ef) rfl ⟨_, _, _, rfl, (b.lO Sn), (jC.refl _), Lo.refl, (ST.kz b (mh.mem Sn)), (.slice t a.Signed.Tag.length y), (.slice u a.ji.Kids.length z), rfl, rfl, G, H⟩
theorem BO (c : Value) (u r : List nA) (w : World) {j : jx} (I : nf j [] w) (a : Sl lx 8 j c u) (hm : rE u = some r) :
  lj true pg0 256 [c] w j [] (fun v G J => ∃ z t, v = z ∧ G = (t ++ []) ∧ kd 132 lx 8 J z r t) := by
 unfold rE at hm
 refine ud I 8 func256 rfl (fun b => sg (Wa (lS (Wm ?_))))
 obtain ⟨D, Q, rfl⟩ := a.form
 refine V (zl dD rfl rfl) (ln ?_)
 rcases D with _ | M
 ·have y := a.isNil
  replace hm : some [] = some r := by rw [y] at hm; simpa [kN, maxLen] using hm
  refine uk (rfl) (sg (Wa (lt (lc ?_))))
  obtain rfl := sj hm
  refine kv (v := (.slice none 0 0)) rfl rfl ?_
  replace b := b.Nw
  exact ⟨_, _, _, rfl, (b.lO (Kr Sn)), (jC.refl _), Lo.refl, (ST.kz b (mh.mem (Kr Sn))), (.slice none 0 0), [], rfl, rfl, (kd.nil _ _ _ _)⟩
 ·refine pb (rfl) (kg (VE (km (cs := #[]) b sF (AK [] dD dO gI dc rfl (by simp) rfl rfl) (fun N H b => Wm (bS hm fun T x hm => VE (tZ (B := [(H, Ob #[] 132)]) nw b dc dD Cz.1 Cz.2.1 rfl Cz.2.2.1 Cz.2.2.2 rfl rfl (kd.lit nw (l := []) .nil rfl nb rfl) (zp.sl nw a b.jk) x (fun K g k b i => Wa (lt ?_))))))))
  obtain rfl := sj hm
  exact kv (v := g) rfl rfl ⟨_, _, _, rfl, (b.lO (Kr Sn)), (jC.refl _), Lo.refl, (ST.kz b (mh.mem (Kr Sn))), g, k, rfl, rfl, i⟩
theorem zW (g : Value) (t : List nA) (j : Value) (z : nA → Option Bool) (r : Int) (w : World) (c : Sl lx 8 (hp w) g t) (B : uW pg0 j (hp w) (yW lx) (fun (r : Bool) => (.bool r)) z) (hm : rZ t z = some r) :
  jO false pg0 147 [g, j] w (.int .i64 r) := by
 refine cG 19 func147 rfl (fun b => sg (Wa (lS (Wm (V (lT dD rfl c) (Wm (ln (lu (fun i E W => ∃ k, (E 8 = .int .i64 (i : Nat) ∧ E 7 = .int .i64 (t.length : Nat)) ∧ ST false lG w W (hp w) k ∧ E 0 = g ∧ E 1 = j ∧ mM z (t.drop i) i = some r) t.length c.len ⟨_, ⟨rfl, rfl⟩, (b.jc St), rfl, rfl, hm⟩ dc dc dc (fun _ _ _ h => by obtain ⟨_, l, _⟩ := h; exact l) ?_ ?_))))))))
 ·rintro T E W G ⟨k, ⟨d, m⟩, b, u, x, a⟩
  obtain ⟨y, Z, N, M, Q⟩ := kL G
  rw [N] at a
  refine bg (Wh d (Wa (lr (Wh x (Wh u (Wm (VQ (mW (i := (T : Int)) (x0 := y) lx.out dD dO rfl rfl c (aV _) M) (fun a2 ⟨_, ⟨U, Y, rfl, J, K⟩, H⟩ => V (jd rfl (jJ b.has H iR dO)) (bS a fun a3 I a => ?_)))))))))
  refine VE (wx y b B (jC.refl _) (yW.mk nw (lx.mk ⟨U, Y, rfl, J, K⟩) b.jk) rfl (uw rfl) I (fun n b => ln (CI a rfl (fun D a => ?_) (fun D a => ?_))))
  ·refine sg (Wm (Wa (lt (og (lc (og (lc ?_)))))))
   obtain rfl := sj a
   exact rP b
  exact kX (jQ (jo ⟨d, _, ⟨rfl, m⟩, (b.jc St), u, x, (by rw [Q]; exact a)⟩))
 rintro E W ⟨k, ⟨d, m⟩, b, u, x, a⟩
 rw [bE] at a
 exact jo (sg (Wa (lt (rQ a b))))
theorem zd (k : Value) (a0 : List nA) (y : LO) (J : Value) (f1 : nA → Option Bool) (r : List nA) (w : World) {Y : jx} (h0 : nf Y (y ++ []) w) (n : kd 132 lx 8 Y k a0 y) (a9 : uW pg0 J Y (yW lx) (fun (r : Bool) => (.bool r)) f1) (hm : pF a0 f1 = some r) :
  lj false pg0 255 [k, J] w Y (y ++ []) (fun v L1 μ1 => ∃ R, v = R ∧ L1 = [] ∧ Sl lx 8 μ1 R (r)) := by
 refine ud h0 42 func255 rfl (fun d => sg (Wa (lr (Wm (Wm (bS hm fun P d7 hm => VE (Eg d call147 (zW k a0 J f1 _ _ (n.sl nw d.jk (fun b o q => d.at_ (Ml q))) (a9.mono d.jk) d7) (fun W3 d => Wa (ln ?_)))))))))
 refine jt (sg (Wm (Wi rfl (ln (CI hm rfl (fun d6 hm => ?_) (fun d6 hm => ?_))))))
 ·refine sg (Wm (Wa (lt (lc ?_))))
  obtain rfl := sj hm
  refine kv (v := k) rfl rfl ?_
  obtain ⟨aa, d, d2, p, d8⟩ := ST.wB nw d n
  exact ⟨_, _, _, rfl, (d.lO Sn), d2, p, (ST.kz d (mh.mem Sn)), k, rfl, rfl, d8⟩
 refine kS (Wm (Wi rfl (Wa (ln (kW (nm (fun m E W => ∃ a2 K G H A, ST false (keys (y ++ [])) w W Y (K ++ A) ∧ E 0 = k ∧ E 1 = J ∧ E 5 = (.int .i64 G) ∧ E 6 = (.int .i64 H) ∧ kd 132 lx 8 Y k a2 K ∧ mC f1 m a2 G H = some r) jB ⟨a0, y, P, (wi0 .i64 (P + 1)), _, (d.jc St), rfl, rfl, rfl, rfl, n, hm⟩ ?_))))))
 rintro m E W ⟨a2, K, G, H, A, d, t, Z, I, N, j, c⟩
 cases m with
 | zero => rw [mC] at c; cases c
 | succ d4 =>
  refine jt (sg (Wh N (Wh t (V (vP dD rfl j) (Wi rfl (ln (CI c rfl (fun b6 c => ?_) (fun b6 c => ?_))))))))
  ·refine kn (jt (CJ c (fun a3 E W => ∃ M L, ST false (keys (y ++ [])) w W Y (M ++ L) ∧ E 0 = k ∧ E 1 = J ∧ E 5 = (.int .i64 a3.2) ∧ E 6 = (.int .i64 H) ∧ kd 132 lx 8 Y k a3.1 M) (fun a3 g => ?_) ?_))
   ·refine bg (Wh t (Wh N (bS g fun a s g => VQ (ky (i := H) lx.out dD dO rfl rfl j (jG s) (jD s)) (fun f5 ⟨_, ⟨f8, f9, rfl, Q, T⟩, c1, e1⟩ => V (jd rfl (jJ (mI.hp _) (c1.mono (kT (fun b o q => d.has.2 b o (Ml q)))) iR dO)) (VE (kq d gI (fun e7 f3 d => ?_)))))))
    obtain ⟨u, B, rfl⟩ := Q.form
    obtain ⟨x, D, rfl⟩ := T.form
    let l := (C6 a.iX.ja a.iX.Word a.ji.Op a.ji.K a.ji.iX.ja a.ji.iX.Word u a.ji.Kids.length B x a.mn.length D)
    refine VO (jz (.agg l.toArray) (l.toArray) d rfl rfl dO oc nb rfl (fun e8 d => lr (Wh Z (VA d Mh l iR dO (bS g fun f7 c2 g => VE (wx a d a9 (jC.refl _) (yW.mk nw (lx.mk ⟨(.slice u a.ji.Kids.length B), (.slice x a.mn.length D), rfl, Q, T⟩) d.jk) rfl (uw rfl) c2 (fun e9 d => V (px rfl) (ln (CI g rfl (fun b7 g => ?_) (fun b7 g => ?_))))))))))
    ·refine sg (Wh t (Wh I (VA d Mh l iR dO (bS g fun g3 U g => VQ (ky (i := G) lx.out dD dO rfl rfl j (jG U) (jD U)) (fun f6 ⟨_, ⟨g0, g1, rfl, e3, e4⟩, e2, b9⟩ => ?_)))))
     replace d := d.perm (Nr (Qb Qz) Nz)
     refine VO (pc (x1 := a) nw d j rfl rfl (lx.mk ⟨(.slice u a.ji.Kids.length B), (.slice x a.mn.length D), rfl, Q, T⟩) b9 (jD U) dO (fun f0 c7 d b4 => ln ?_))
     replace d := d.jc (Kr (Db St))
     refine jq (Wh I (Wi rfl (Wa (jH (jQ (jo ?_))))))
     obtain rfl := sj g
     exact ⟨c7, _, (d.jc St), t, Z, rfl, N, b4⟩
    refine kX (jQ (jo ?_))
    obtain rfl := sj g
    exact ⟨K, _, (d.jc (Db St)), t, Z, I, N, j⟩
   rintro ⟨d3, d5⟩ E W ⟨M, L, d, c8, c9, d0, d1, c3⟩ c0
   exact jq (Wh d1 (Wi rfl (Wa (ln ⟨d4, bM _, d3, M, d5, (wi0 .i64 (H + 1)), _, (d.jc St), c8, c9, d0, rfl, c3, c0⟩))))
  refine mU (mA (mA (qX (jo (sg (Wh t (Wh I (bS c fun _ a4 c => VQ (yN (i := G) dD dO rfl rfl j (tR a4) (tO a4)) (fun g2 c4 => VO (BH (z := (⟨K0, (⟨0, 0, K0, []⟩ : Formula), []⟩ : nA)) (zs := [(.string zS), (.string zS), (.int .i64 0), (.int .i64 0), (.string zS), (.string zS), (.slice none 0 0), (.slice none 0 0)]) nw d j (lx.mk ⟨(.slice none 0 0), (.slice none 0 0), rfl, (Sl.nil _ _ _), (Sl.nil _ _ _)⟩) dD gI c4 rfl rfl (fun f2 e6 d b5 => lr (Wh t ?_))))))))))))
  refine Wh I (bS c fun _ a5 c => VQ (Es (i := G) dD dO rfl rfl b5 (tR a5) (tO a5)) (fun O c5 => Wa (lt ?_)))
  obtain rfl := sj c
  refine kv (v := O) rfl rfl ?_
  obtain ⟨g7, d, b0, h, c6⟩ := ST.wB nw d c5
  exact ⟨_, _, _, rfl, (d.lO Sn), b0, h, (ST.kz d (mh.mem Sn)), O, rfl, rfl, c6⟩
theorem Dx (c : nA) (a i : Value) (k : Nat) (u : iY) (r : Bool) (w : World) (j : Sl iZ 5 (hp w) a c.ji.Kids) (g : Sl (Pl jb) 9 (hp w) i c.mn) (t : At (hp w) (.pointer (some ⟨k, 0, none⟩)) (jb u)) (hm : pR c u = some r) :
  jO true pg0 257 [(.agg #[(.string c.iX.ja), (.string c.iX.Word), (.int .i64 c.ji.Op), (.int .i64 c.ji.K), (.string c.ji.iX.ja), (.string c.ji.iX.Word), a, i]), (.pointer (some ⟨k, 0, none⟩))] w (.bool r) := by
 refine cG 9 func257 rfl (fun b => sg ?_)
 obtain ⟨B, D, rfl⟩ := j.form
 obtain ⟨x, y, rfl⟩ := g.form
 refine VE (jZ b rfl (fun G I b => Wa (lr (Wf IA (VB b Mh rfl rfl isAgg45 (V (jd rfl (jJ b.has t cJ bn)) (bS hm fun J z hm => VE (Eg b call111 (wi (.slice x c.mn.length y) c.mn u _ _ (g.mono (Pl.mono _) b.jk) z) (fun H b => V (px rfl) (Wa (ln ?_)))))))))))
 exact kl (rQ hm b)
theorem F9 (i : jL) (a g : Value) (y : iY) (r : List nA) (w : World) {G : jx} (p : nf G [] w) (j : Sl ku 15 G a i.jv) (c : Sl lx 8 G g i.ke) (hm : uY i y = some r) :
  lj false pg0 193 [(.agg #[(.string i.Name), a, g]), (.agg (jb y).toArray)] w G [] (fun v L1 μ1 => ∃ n, v = n ∧ L1 = [] ∧ Sl lx 8 μ1 n (r)) := by
 refine ud p 10 func193 rfl (fun b => sg ?_)
 obtain ⟨A1, c2, rfl⟩ := j.form
 obtain ⟨Y, o, rfl⟩ := c.form
 refine VE (jZ b rfl (fun W6 P b => VE (jZ b rfl (fun W8 z b => Wa (lr (Wf KG (VB b (Mt Mh) rfl rfl isAgg23 (bS hm fun I N hm => ?_))))))))
 refine VE (eD b (bX _) call256 (fun m => lj.lI (BO (.slice Y i.ke.length o) i.ke _ _ m (c.mono nw.mono (jC.refl _)) N)) ?_ (L0 := []))
 rintro _ c3 c6 O b B d ⟨a5, Z, k, rfl, T⟩
 obtain rfl := k.symm
 replace b := b.perm (Tr Tn)
 refine V (sa (by exact uw rfl) rfl) ?_
 replace b := b.perm (Nb (Pr Pz) Nz)
 obtain ⟨c7, b, u, h, M⟩ := ST.GI (R := [(z, Ol (jb y) 52)]) b
 have K := At.of (M _ _ (.head _)) _ rfl
 refine bS hm fun c1 Q hm => ?_
 refine VE (eD b (Cr Qz Cn) call255 (fun m => (zd a5 I Z (.func (.func 257) #[] #[(.pointer (some ⟨z, 0, none⟩))]) (fun (x : nA) => pR x y) _ _ m (T.mono nw u) ⟨257, #[], #[(.pointer (some ⟨z, 0, none⟩))], rfl, call257, fun W x vs r s q hm => by obtain ⟨_, rfl, a3⟩ := q; obtain ⟨J, L, rfl, A, E⟩ := a3.out; exact (Dx x J L z y r W A E (K.mono ((jC.refl _).trans s)) hm).lI⟩ Q)) ?_)
 rintro _ c5 c8 b6 b D l ⟨H, t, rfl, U⟩
 obtain rfl := t.symm
 refine Wa (ln ?_)
 replace b := b.jc (Db St)
 refine kl ?_
 obtain rfl := sj hm
 exact kv (v := H) rfl rfl ⟨_, _, _, rfl, (b.lO Sn), ((B.trans u).trans D), ((d.trans h).trans l), (ST.kz b (mh.mem Sn)), H, rfl, rfl, U⟩
theorem Bq (T : Formula → Int → Option (Int × Int)) (n : ∀ (t : Formula) (j : Value) (I : Int) (r : (Int × Int)) (w : World) (g : Sl iZ 5 (hp w) j t.Kids), T t I = some r → jO false pg0 264 [(.agg #[(.int .i64 t.Op), (.int .i64 t.K), (.string t.iX.ja), (.string t.iX.Word), j]), (.int .i64 I)] w (.tuple #[(.int .i64 r.1), (.int .i64 r.2)])) (t : Formula) (j : Value) (I : Int) (r : (Int × Int)) (w : World) (g : Sl iZ 5 (hp w) j t.Kids) (hm : sV T t I = some r) :
  jO false pg0 264 [(.agg #[(.int .i64 t.Op), (.int .i64 t.K), (.string t.iX.ja), (.string t.iX.Word), j]), (.int .i64 I)] w (.tuple #[(.int .i64 r.1), (.int .i64 r.2)]) := by
 refine cG 40 func264 rfl (fun b => sg ?_)
 obtain ⟨A1, c2, rfl⟩ := g.form
 refine VE (jZ b rfl (fun W4 P b => Wa (Wa (lr (Wa (Wa (lS (Wf qS ?_))))))))
 refine VB b Mh rfl rfl fc (V (lT aG rfl g) (Wm (ln ?_)))
 replace b := b.jc (Db St)
 refine CJ hm (fun Q E W => ∃ a2, ST false lG w W (hp w) a2 ∧ E 6 = (.int .i64 Q.1) ∧ E 7 = (.int .i64 Q.2)) (fun Q a5 => ?_) ?_
 ·refine lu (fun i E W => ∃ y z J, (E 15 = .int .i64 (i : Nat) ∧ E 14 = .int .i64 (t.Kids.length : Nat)) ∧ ST false lG w W (hp w) J ∧ E 1 = (.int .i64 I) ∧ E 6 = (.int .i64 y) ∧ E 7 = (.int .i64 z) ∧ E 13 = (.slice A1 t.Kids.length c2) ∧ nR I T (t.Kids.drop i) y z = some Q) t.Kids.length g.len ⟨1, 0, _, ⟨rfl, rfl⟩, (b.jc St), rfl, rfl, rfl, rfl, a5⟩ dc dc dc (fun _ _ _ h => by obtain ⟨_, _, _, l, _⟩ := h; exact l) ?_ ?_
  ·rintro A E W a3 ⟨y, z, J, ⟨d, m⟩, b, G, x, H, K, a⟩
   obtain ⟨c, c6, p, o, a9⟩ := kL a3
   rw [p] at a
   refine bg (VQ (mW (i := (A : Int)) (x0 := c) iZ.out aG aD K d g (aV _) o) (fun c4 ⟨_, ⟨c5, rfl, N⟩, Y⟩ => V (jd rfl (jJ b.has Y aZ aD)) (VE (kq b bL (fun R c3 b => ?_)))))
   obtain ⟨B, D, rfl⟩ := N.form
   let a0 := (C1 c.Op c.K c.iX.ja c.iX.Word B c.Kids.length D)
   refine VO (jz (.agg a0.toArray) (a0.toArray) b rfl rfl aD oc nb rfl (fun c0 b => lS (Wh x (Wh G (Wi rfl (ln (CI a rfl (fun U a => ?_) (fun U a => ?_))))))))
   ·refine mU (mA (Ot (by simp) (mA (qX (jo ?_)))))
    obtain rfl := sj a
    exact ⟨_, (b.jc (Db St)), x, H⟩
   refine kg (VA b Mh a0 aZ aD (Wh G (Wh x (Wi rfl (bS a fun M Z a => VE (Eg b call264 (n c (.slice B c.Kids.length D) (wi0 .i64 (I - y)) _ _ (N.mono jj.mono b.jk) Z) (fun c1 b => Wm (Wx rfl (Wx rfl (Wa (Wa ?_)))))))))))
   refine ln ?_
   replace b := b.jc (Db St)
   exact jq (Wh x (Wm (Wi rfl (Wh H (Wm (V (N8 (k := .i64) rfl rfl) (Wa (Wa (jH (jQ (jo ⟨d, (wi0 .i64 (y + M.1)), (if M.2 > z then M.2 else z), _, ⟨rfl, m⟩, (b.jc St), G, rfl, rfl, K, (by rw [a9]; exact a)⟩)))))))))))
  rintro E W ⟨y, z, J, ⟨d, m⟩, b, G, x, H, K, a⟩
  rw [bE] at a
  refine jo ?_
  obtain rfl := sj a
  exact ⟨_, (b.jc St), x, H⟩
 rintro ⟨L, O⟩ E W ⟨a2, b, q, s⟩ a4
 refine sg (Wh q (Wh s (Wi rfl (Wa (Wa (lt ?_))))))
 obtain rfl := sj a4
 exact B9 (v := (.int .i64 L)) (u := (.int .i64 (wi0 .i64 (O + 1)))) rfl rfl rfl ⟨rfl, b.ex⟩
theorem zj : ∀ (n : Nat) (c : Formula) (a : Value) (i : Int) (r : (Int × Int)) (w : World) (g : Sl iZ 5 (hp w) a c.Kids) (_ : na n c i = some r),
  jO false pg0 264 [(.agg #[(.int .i64 c.Op), (.int .i64 c.K), (.string c.iX.ja), (.string c.iX.Word), a]), (.int .i64 i)] w (.tuple #[(.int .i64 r.1), (.int .i64 r.2)])
 | 0 => by intros; rename_i h; simp only [na] at h; cases h
 | n + 1 => Bq (na n) (zj n)
theorem Fi (a : Formula) (g : Value) (r : (Int × Int)) (w : World) (c : Sl iZ 5 (hp w) g a.Kids) (hm : ul a = some r) :
  jO false pg0 201 [(.agg #[(.int .i64 a.Op), (.int .i64 a.K), (.string a.iX.ja), (.string a.iX.Word), g])] w (.tuple #[(.int .i64 r.1), (.int .i64 r.2)]) := by
 refine cG 15 func201 rfl (fun b => sg ?_)
 obtain ⟨i, j, rfl⟩ := c.form
 refine VE (jZ b rfl (fun y B b => Wa (Wa (lr (VA b Mh (C1 a.Op a.K a.iX.ja a.iX.Word i a.Kids.length j) aZ aD (bS hm fun x t hm => VE (Eg b call264 ((zj jB) a (.slice i a.Kids.length j) 4096 _ _ (c.mono jj.mono b.jk) t) (fun z b => Wm (Wx rfl (Wx rfl (Wa (Wa ?_))))))))))))
 refine ln ?_
 replace b := b.jc (Db St)
 refine jt (sg (Wm (Wi rfl (ln (CI hm rfl (fun k hm => ?_) (fun k hm => ?_))))))
 ·refine sg (Wa (Wa (lt (lc ?_))))
  obtain rfl := sj hm
  exact B9 (v := (.int .i64 0)) (u := (.int .i64 0)) rfl rfl rfl ⟨rfl, b.ex⟩
 refine kg (Wm (Wm (Wa (Wa (lt ?_)))))
 obtain rfl := sj hm
 exact B9 (v := (.int .i64 x.1)) (u := (.int .i64 x.2)) rfl rfl rfl ⟨rfl, b.ex⟩
theorem E3 (a : Formula) (H : Value) (r : Bool) (w : World) (t : Sl iZ 5 (hp w) H a.Kids) (hm : uD a = some r) :
  jO true pg0 265 [(.agg #[(.int .i64 a.Op), (.int .i64 a.K), (.string a.iX.ja), (.string a.iX.Word), H])] w (.bool r) := by
 refine cG 63 func265 rfl (fun b => sg ?_)
 obtain ⟨A1, c2, rfl⟩ := t.form
 let l := (C1 a.Op a.K a.iX.ja a.iX.Word A1 a.Kids.length c2)
 refine VE (jZ b rfl (fun W4 N b => Wa (lr (V (lY (v := (.agg (jf K0).toArray)) sF (li fP dU (N0 _ dU) kr)) (VE (kq b fP (fun W6 s b => VO (jz (.agg (jf K0).toArray) ((jf K0).toArray) b rfl rfl bB (vL K0) nb rfl (fun W7 b => lS (Wf rb ?_))))))))))
 refine VB b (Mt Mh) rfl rfl cO (ln (bg (Wi rfl (Wa (ln (CI hm rfl (fun d9 hm => ?_) (fun d9 hm => ?_)))))))
 ·refine sg (Wf yQ (VA b (Mt Mh) (jf a.iX) bT bB (bS hm fun f7 e5 hm => VE (Eg b iU (ra a.iX _ _  e5) (fun f5 b => Wm (LJ hm (fun d2 E W => ∃ O, ST true lG w W (hp w) ((N, Ol l 30) :: O) ∧ E 1 = (.pointer (some ⟨N, 0, none⟩)) ∧ E 2 = (.bool false) ∧ E 17 = (.bool d2)) 5 ?_ (fun d2 J a4 => ?_)))))))
  ·rintro f8 E W ⟨O, b, e7, c9, e8⟩ e1
   refine Wh e8 (LJ e1 (fun d1 E W => ∃ P, ST true lG w W (hp w) P ∧ E 2 = (.bool false) ∧ E 22 = (.bool d1)) 4 ?_ (fun d1 I a3 => ?_))
   ·rintro f9 E W ⟨P, b, f6, e9⟩ e2
    refine Wg e9 (lt (og (lc ?_)))
    obtain rfl := sj e2
    exact rP b
   refine bC I (fun u I => ?_) (fun u I => ?_)
   ·refine ug u (jm vS e7) (ug u (jd rfl (jA b.has Mh rfl cO)) (ug u (lA rfl rfl rfl) (V (jW (cB u) rfl) ?_)))
    obtain rfl := sj I
    exact a3 _ _ ⟨_, (b.jc (Db St)), c9, rfl⟩
   refine un u (un u (un u (V (jY (cB u) rfl) ?_)))
   obtain rfl := sj I
   exact a3 _ _ ⟨_, (b.jc (Db St)), c9, rfl⟩
  refine bC J (fun j J => ?_) (fun j J => ?_)
  ·refine ug j (jm qS rfl) (ug j (jd rfl (jA b.has (Mt Mh) rfl fc)) (ug j (lT aG rfl t) (ug j (lA rfl rfl rfl) (V (jW (cB j) rfl) ?_))))
   obtain rfl := sj J
   exact a4 _ _ ⟨_, (b.jc (Db St)), rfl, rfl, rfl⟩
  refine un j (un j (un j (un j (V (jY (cB j) rfl) ?_))))
  obtain rfl := sj J
  exact a4 _ _ ⟨_, (b.jc (Db St)), rfl, rfl, rfl⟩
 let a0 := (l.toArray : Array Value)
 let d : Value := (.pointer (some ⟨N, 0, none⟩))
 refine jt (CJ hm (fun L E W => ∃ R, ST true lG w W (hp w) ((s, Ol (jf K0) 27) :: ((N, Obj.cells a0 30 (0, 0)) :: R)) ∧ E 1 = d ∧ E 3 = (.pointer (some ⟨s, 0, none⟩)) ∧ E 23 = (.bool L)) (fun L G => ?_) ?_)
 ·refine sg (Wi rfl (Wa (ln (CI G rfl (fun b9 G => ?_) (fun b9 G => ?_)))))
  ·refine kn ?_
   obtain rfl := sj G
   exact ⟨_, (b.jc St), rfl, rfl, rfl⟩
  refine jq (Wi rfl (Wa (ln ?_)))
  obtain rfl := sj G
  exact ⟨_, (b.jc St), rfl, rfl, rfl⟩
 rintro g0 E W ⟨R, b, Q, d0, f0⟩ K
 refine CI K f0 (fun e0 K => ?_) (fun e0 K => ?_)
 ·refine sg (V (jm yQ Q) (VA b (Mt Mh) (jf a.iX) bT bB (V (jd d0 (jl b.has Mh (jf K0) rfl bT bB)) (V (Bc rfl rfl (sM eqGuardType27) (wT (vn _ a.iX K0))) (Wm (LJ K (fun d3 E W => ∃ c7, ST true lG w W (hp w) c7 ∧ E 34 = (.bool d3)) 4 ?_ (fun d3 M a5 => ?_)))))))
  ·rintro g1 E W ⟨c7, b, f1⟩ e3
   refine Wg f1 (lt (og (lc ?_)))
   obtain rfl := sj e3
   exact rP b
  refine bC M (fun x M => ?_) (fun x M => ?_)
  ·refine ug x (jm vS Q) (ug x (jd rfl (jA b.has (Mt Mh) rfl cO)) (ug x (lA rfl rfl rfl) (V (jW (cB x) rfl) ?_)))
   obtain rfl := sj M
   exact a5 _ _ ⟨_, (b.jc (Db (Db St))), rfl⟩
  refine un x (un x (un x (V (jY (cB x) rfl) ?_)))
  obtain rfl := sj M
  exact a5 _ _ ⟨_, (b.jc (Db (Db St))), rfl⟩
 refine kX (jQ (jo (sg (V (jm rb Q) (VB b (Mt Mh) rfl rfl cO (Wi rfl (Wm (LJ K (fun A E W => ∃ c8, ST true lG w W (hp w) ((N, Obj.cells a0 30 (0, 0)) :: c8) ∧ E 1 = d ∧ E 43 = (.bool A)) 5 ?_ (fun A D h => ?_)))))))))
 ·rintro g2 E W ⟨c8, b, a2, d4⟩ e4
  refine Wh d4 (LJ e4 (fun q E W => ∃ m, ST true lG w W (hp w) ((N, Obj.cells a0 30 (0, 0)) :: m) ∧ E 1 = d ∧ E 48 = (.bool q)) 4 ?_ (fun q B Z => ?_))
  ·rintro f2 E W ⟨m, b, T, d5⟩ c0
   refine Wh d5 (LJ c0 (fun p E W => ∃ a9, ST true lG w W (hp w) ((N, Obj.cells a0 30 (0, 0)) :: a9) ∧ E 1 = d ∧ E 56 = (.bool p)) 7 ?_ (fun p z Y => ?_))
   ·rintro f3 E W ⟨a9, b, d6, d7⟩ c1
    refine Wh d7 (LJ c1 (fun o E W => ∃ n, ST true lG w W (hp w) n ∧ E 62 = (.bool o)) 5 ?_ (fun o y U => ?_))
    ·rintro f4 E W ⟨n, b, d8⟩ c3
     exact Wg d8 (lt (rQ c3 b))
    refine bC y (fun g y => ?_) (fun g y => ?_)
    ·refine ug g (jm qS d6) (ug g (jd rfl (jA b.has Mh rfl fc)) (ug g (lT aG rfl t) (ug g (lA rfl rfl rfl) (V (jW (cB g) rfl) ?_))))
     obtain rfl := sj y
     exact U _ _ ⟨_, (b.jc (Db St)), rfl⟩
    refine un g (un g (un g (un g (V (jY (cB g) rfl) ?_))))
    obtain rfl := sj y
    exact U _ _ ⟨_, (b.jc (Db St)), rfl⟩
   refine bC z (fun c z => ?_) (fun c z => ?_)
   ·refine ug c (jm vS T) (ug c (jd rfl (jA b.has Mh rfl cO)) (ug c (jm qS T) (ug c (jd rfl (jA b.has Mh rfl fc)) (ug c (lT aG rfl t) (ug c (lA rfl rfl rfl) (V (jW (cB c) rfl) ?_))))))
    obtain rfl := sj z
    exact Y _ _ ⟨_, (b.jc St), T, rfl⟩
   refine un c (un c (un c (un c (un c (un c (V (jY (cB c) rfl) ?_))))))
   obtain rfl := sj z
   exact Y _ _ ⟨_, (b.jc St), T, rfl⟩
  refine bC B (fun i B => ?_) (fun i B => ?_)
  ·refine ug i (jm vS a2) (ug i (jd rfl (jA b.has Mh rfl cO)) (ug i (lA rfl rfl rfl) (V (jW (cB i) rfl) ?_)))
   obtain rfl := sj B
   exact Z _ _ ⟨_, (b.jc St), a2, rfl⟩
  refine un i (un i (un i (V (jY (cB i) rfl) ?_)))
  obtain rfl := sj B
  exact Z _ _ ⟨_, (b.jc St), a2, rfl⟩
 refine bC D (fun k D => ?_) (fun k D => ?_)
 ·refine ug k (jm yQ Q) (ug k (jd rfl (jl b.has (Mt Mh) (jf a.iX) rfl bT bB)) (ug k (jd d0 (jl b.has Mh (jf K0) rfl bT bB)) (ug k (Bc rfl rfl (sM eqGuardType27) (wT (vn _ a.iX K0))) (V (jW (cB k) rfl) ?_))))
  obtain rfl := sj D
  exact h _ _ ⟨_, (b.jc (Db St)), Q, rfl⟩
 refine un k (un k (un k (un k (V (jY (cB k) rfl) ?_))))
 obtain rfl := sj D
 exact h _ _ ⟨_, (b.jc (Db St)), Q, rfl⟩
theorem xP (g : Value) (t : List Formula) (j : Value) (z : Formula → Option Bool) (r : Int) (w : World) (c : Sl iZ 5 (hp w) g t) (B : uW pg0 j (hp w) (yW iZ) (fun (r : Bool) => (.bool r)) z) (hm : qo t z = some r) :
  jO false pg0 324 [g, j] w (.int .i64 r) := by
 refine cG 19 func324 rfl (fun b => sg (Wa (lS (Wm (V (lT aG rfl c) (Wm (ln (lu (fun i E W => ∃ k, (E 8 = .int .i64 (i : Nat) ∧ E 7 = .int .i64 (t.length : Nat)) ∧ ST false lG w W (hp w) k ∧ E 0 = g ∧ E 1 = j ∧ me z (t.drop i) i = some r) t.length c.len ⟨_, ⟨rfl, rfl⟩, (b.jc St), rfl, rfl, hm⟩ dc dc dc (fun _ _ _ h => by obtain ⟨_, l, _⟩ := h; exact l) ?_ ?_))))))))
 ·rintro Q E W G ⟨k, ⟨d, m⟩, b, u, x, a⟩
  obtain ⟨y, U, M, K, N⟩ := kL G
  rw [M] at a
  refine bg (Wh d (Wa (lr (Wh x (Wh u (Wm (VQ (mW (i := (Q : Int)) (x0 := y) iZ.out aG aD rfl rfl c (aV _) K) (fun Z ⟨_, ⟨T, rfl, J⟩, H⟩ => V (jd rfl (jJ b.has H aZ aD)) (bS a fun n I a => ?_)))))))))
  refine VE (wx y b B (jC.refl _) (yW.mk jj (iZ.mk ⟨T, rfl, J⟩) b.jk) rfl (uw rfl) I (fun Y b => ln (CI a rfl (fun D a => ?_) (fun D a => ?_))))
  ·refine sg (Wm (Wa (lt (og (lc (og (lc ?_)))))))
   obtain rfl := sj a
   exact rP b
  exact kX (jQ (jo ⟨d, _, ⟨rfl, m⟩, (b.jc St), u, x, (by rw [N]; exact a)⟩))
 rintro E W ⟨k, ⟨d, m⟩, b, u, x, a⟩
 rw [bE] at a
 exact jo (sg (Wa (lt (rQ a b))))
theorem sb (a : Value) (g : List Formula) (c : Value) (i : Formula → Option Bool) (r : Bool) (w : World) (j : Sl iZ 5 (hp w) a g) (k : uW pg0 c (hp w) (yW iZ) (fun (r : Bool) => (.bool r)) i) (hm : mP g i = some r) :
  jO false pg0 266 [a, c] w (.bool r) := by
 refine cG 9 func266 rfl (fun b => sg (Wa (lr (Wm (Wm (bS hm fun x t hm => VE (Eg b call324 (xP a g c i _ _ (j.mono jj.mono b.jk) (k.mono b.jk) t) (fun u b => Wi rfl (Wa (jH ?_))))))))))
 exact jo (kl (rQ hm b))
theorem Cf (i : Formula → Option Bool) (t : ∀ (c : Formula) (a : Value) (r : Bool) (w : World) (g : Sl iZ 5 (hp w) a c.Kids), i c = some r → jO false pg0 202 [(.agg #[(.int .i64 c.Op), (.int .i64 c.K), (.string c.iX.ja), (.string c.iX.Word), a])] w (.bool r)) (c : Formula) (a : Value) (r : Bool) (w : World) (g : Sl iZ 5 (hp w) a c.Kids) (hm : rK i c = some r) :
  jO false pg0 267 [(.agg #[(.int .i64 c.Op), (.int .i64 c.K), (.string c.iX.ja), (.string c.iX.Word), a])] w (.bool r) := by
 refine cG 6 func267 rfl (fun b => sg ?_)
 obtain ⟨j, k, rfl⟩ := g.form
 refine VE (jZ b rfl (fun x z b => Wa (lr (VA b Mh (C1 c.Op c.K c.iX.ja c.iX.Word j c.Kids.length k) aZ aD (bS hm fun B u hm => VE (Eg b call202 (t c (.slice j c.Kids.length k) _ _ (g.mono jj.mono b.jk) u) (fun y b => V (px rfl) (Wa (ln ?_)))))))))
 exact kl (rQ hm b)
theorem AX (z : Formula → Option Bool) (T : ∀ (a : Formula) (g : Value) (r : Bool) (w : World) (c : Sl iZ 5 (hp w) g a.Kids), z a = some r → jO false pg0 202 [(.agg #[(.int .i64 a.Op), (.int .i64 a.K), (.string a.iX.ja), (.string a.iX.Word), g])] w (.bool r)) (a : Formula) (g : Value) (r : Bool) (w : World) (c : Sl iZ 5 (hp w) g a.Kids) (hm : sY z a = some r) :
  jO false pg0 202 [(.agg #[(.int .i64 a.Op), (.int .i64 a.K), (.string a.iX.ja), (.string a.iX.Word), g])] w (.bool r) := by
 refine cG 17 func202 rfl (fun b => sg ?_)
 obtain ⟨B, D, rfl⟩ := c.form
 let a0 := (C1 a.Op a.K a.iX.ja a.iX.Word B a.Kids.length D)
 refine VE (jZ b rfl (fun W4 U b => Wa (lr (VA b Mh a0 aZ aD (bS hm fun s a3 hm => VE (Eg b call265 (jO.lI (E3 a (.slice B a.Kids.length D) _ _ (c.mono jj.mono b.jk) a3)) (fun W7 b => Wm (LJ hm (fun K E W => ∃ G, ST false lG w W (hp w) ((U, Ol a0 30) :: G) ∧ E 1 = (.pointer (some ⟨U, 0, none⟩)) ∧ E 2 = (.bool false) ∧ E 10 = (.bool K)) 5 ?_ (fun K t y => ?_)))))))))
 ·rintro v E W ⟨G, b, Y, I, Z⟩ M
  refine Wh Z (LJ M (fun J E W => ∃ H, ST false lG w W (hp w) H ∧ E 2 = (.bool false) ∧ E 16 = (.bool J)) 5 ?_ (fun J k u => ?_))
  ·rintro p E W ⟨H, b, n, d⟩ N
   exact Wg d (lt (rQ N b))
  refine bC k (fun i k => ?_) (fun i k => ?_)
  ·refine ug i (jm qS Y) (ug i (jd rfl (jA b.has Mh rfl fc)) (bS k fun o Q k => uG i (Eg b call266 (sb (.slice B a.Kids.length D) a.Kids (.func (.func 267) #[] #[]) (fun (x : Formula) => rK z x) _ _ (c.mono jj.mono b.jk) ⟨267, #[], #[], rfl, call267, fun W x vs r q h hm => by obtain ⟨_, rfl, a2⟩ := h; obtain ⟨m, rfl, l⟩ := a2.out; exact Cf z T x m r W l hm⟩ Q) (fun a5 b => ug i (px rfl) (V (jW (cB i) rfl) ?_)))))
   obtain rfl := sj k
   exact u _ _ ⟨_, (b.jc (Db St)), I, rfl⟩
  refine un i (un i (un i (un i (V (jY (cB i) rfl) ?_))))
  obtain rfl := sj k
  exact u _ _ ⟨_, (b.jc (Db St)), I, rfl⟩
 refine bC t (fun j t => ?_) (fun j t => ?_)
 ·refine ug j (jm qS rfl) (ug j (jd rfl (jA b.has Mh rfl fc)) (ug j (lT aG rfl c) (ug j (lA rfl rfl rfl) (V (jW (cB j) rfl) ?_))))
  obtain rfl := sj t
  exact y _ _ ⟨_, (b.jc St), rfl, rfl, rfl⟩
 refine un j (un j (un j (un j (V (jY (cB j) rfl) ?_))))
 obtain rfl := sj t
 exact y _ _ ⟨_, (b.jc St), rfl, rfl, rfl⟩
theorem zG : ∀ (n : Nat) (c : Formula) (a : Value) (r : Bool) (w : World) (g : Sl iZ 5 (hp w) a c.Kids) (_ : po n c = some r),
  jO false pg0 202 [(.agg #[(.int .i64 c.Op), (.int .i64 c.K), (.string c.iX.ja), (.string c.iX.Word), a])] w (.bool r)
 | 0 => by intros; rename_i h; simp only [po] at h; cases h
 | n + 1 => AX (po n) (zG n)
theorem tH (a : Formula) (k : Value) (r : Bool) (w : World) (c : Sl iZ 5 (hp w) k a.Kids) (hm : pn a = some r) :
  jO false pg0 129 [(.agg #[(.int .i64 a.Op), (.int .i64 a.K), (.string a.iX.ja), (.string a.iX.Word), k])] w (.bool r) := by
 refine cG 24 func129 rfl (fun b => sg ?_)
 obtain ⟨y, z, rfl⟩ := c.form
 let a0 := (C1 a.Op a.K a.iX.ja a.iX.Word y a.Kids.length z)
 refine VE (jZ b rfl (fun W4 H b => Wa (lr (VA b Mh a0 aZ aD (bS hm fun n a9 hm => VE (Eg b call201 (Fi a (.slice y a.Kids.length z) _ _ (c.mono jj.mono b.jk) a9) (fun W7 b => Wm (Wx rfl (Wx rfl (Wa (Wa (jH ?_))))))))))))
 refine jo (sg (Wm (Wi rfl (Wm (LJ hm (fun Y E W => ∃ I, ST false lG w W (hp w) ((H, Ol a0 30) :: I) ∧ E 1 = (.pointer (some ⟨H, 0, none⟩)) ∧ E 2 = (.bool false) ∧ E 4 = (.int .i64 n.2) ∧ E 15 = (.bool Y)) 3 ?_ (fun Y x G => ?_))))))
 ·rintro A E W ⟨I, b, M, N, a4, a5⟩ Z
  refine Wh a5 (LJ Z (fun U E W => ∃ J, ST false lG w W (hp w) ((H, Ol a0 30) :: J) ∧ E 1 = (.pointer (some ⟨H, 0, none⟩)) ∧ E 2 = (.bool false) ∧ E 19 = (.bool U)) 3 ?_ (fun U u D => ?_))
  ·rintro s E W ⟨J, b, h, Q, l⟩ d
   refine Wh l (LJ d (fun T E W => ∃ K, ST false lG w W (hp w) K ∧ E 2 = (.bool false) ∧ E 23 = (.bool T)) 3 ?_ (fun T j B => ?_))
   ·rintro v E W ⟨K, b, p, m⟩ a2
    exact Wg m (lt (rQ a2 b))
   refine bC j (fun i j => ?_) (fun i j => ?_)
   ·refine ug i (jd h (jl b.has Mh a0 rfl aZ aD)) (bS j fun q a3 j => uG i (Eg b call202 ((zG jB) a (.slice y a.Kids.length z) _ _ (c.mono jj.mono b.jk) a3) (fun o b => V (jW (cB i) rfl) ?_)))
    obtain rfl := sj j
    exact B _ _ ⟨_, (b.jc (Db St)), Q, rfl⟩
   refine un i (un i (V (jY (cB i) rfl) ?_))
   obtain rfl := sj j
   exact B _ _ ⟨_, (b.jc (Db St)), Q, rfl⟩
  refine bC u (fun g u => ?_) (fun g u => ?_)
  ·refine ug g (jh a4) (ug g (lA rfl rfl rfl) (V (jW (cB g) rfl) ?_))
   obtain rfl := sj u
   exact D _ _ ⟨_, (b.jc St), M, N, rfl⟩
  refine un g (un g (V (jY (cB g) rfl) ?_))
  obtain rfl := sj u
  exact D _ _ ⟨_, (b.jc St), M, N, rfl⟩
 refine bC x (fun t x => ?_) (fun t x => ?_)
 ·refine ug t (jh rfl) (ug t (lA rfl rfl rfl) (V (jW (cB t) rfl) ?_))
  obtain rfl := sj x
  exact G _ _ ⟨_, (b.jc St), rfl, rfl, rfl, rfl⟩
 refine un t (un t (V (jY (cB t) rfl) ?_))
 obtain rfl := sj x
 exact G _ _ ⟨_, (b.jc St), rfl, rfl, rfl, rfl⟩
theorem wU (i : Formula) (g : Value) (x : Int) (r : Bool) (w : World) (c : Sl iZ 5 (hp w) g i.Kids) (hm : qK i x = some r) :
  jO true pg0 297 [(.agg #[(.int .i64 i.Op), (.int .i64 i.K), (.string i.iX.ja), (.string i.iX.Word), g]), (.int .i64 x)] w (.bool r) := by
 refine cG 15 func297 rfl (fun b => sg ?_)
 obtain ⟨B, D, rfl⟩ := c.form
 refine VE (jZ b rfl (fun G H b => Wa (lr (Wf rb (VB b Mh rfl rfl cO (Wm (Wi rfl (Wm (LJ hm (fun t E W => ∃ u, ST true lG w W (hp w) u ∧ E 4 = (.bool false) ∧ E 14 = (.bool t)) 5 ?_ (fun t j k => ?_))))))))))
 ·rintro J E W ⟨u, b, I, y⟩ z
  exact Wg y (lt (rQ z b))
 refine bC j (fun a j => ?_) (fun a j => ?_)
 ·refine ug a (jm qS rfl) (ug a (jd rfl (jA b.has Mh rfl fc)) (ug a (lT aG rfl c) (ug a (lA rfl rfl rfl) (V (jW (cB a) rfl) ?_))))
  obtain rfl := sj j
  exact k _ _ ⟨_, (b.jc (Db St)), rfl, rfl⟩
 refine un a (un a (un a (un a (V (jY (cB a) rfl) ?_))))
 obtain rfl := sj j
 exact k _ _ ⟨_, (b.jc (Db St)), rfl, rfl⟩
theorem zi (r : Formula) (w : World) {c : jx} (i : nf c [] w) (hm : rT  = some r) :
  lj true pg0 115 [] w c [] (fun v g j => ∃ a, v = (.agg #[(.int .i64 ((r).Op)), (.int .i64 ((r).K)), (.string (((r).iX).ja)), (.string (((r).iX).Word)), a]) ∧ g = [] ∧ Sl iZ 5 j a ((r).Kids)) := by
 refine ud i 2 func115 rfl (fun b => sg (VE (kq b bL (fun k u b => lr (V (lY (v := (.agg C8.toArray)) (mH rfl) (li bL cC (yJ _ cC) kr)) (VO (jz (.agg C8.toArray) (C8.toArray) b rfl rfl aD oc nb rfl (fun t b => lt ?_))))))))
 obtain rfl := sj hm
 exact oU (v := (.agg C8.toArray)) rfl rfl (jl b.has Mh C8 rfl aZ aD) ⟨_, _, _, rfl, (b.lO Sn), (jC.refl _), Lo.refl, (ST.kz b (mh.mem Sn)), (.slice none 0 0), rfl, rfl, (Sl.nil _ _ _)⟩
theorem EZ (r : Formula) (w : World) {c : jx} (i : nf c [] w) (hm : wJ  = some r) :
  lj true pg0 298 [] w c [] (fun v g j => ∃ a, v = (.agg #[(.int .i64 ((r).Op)), (.int .i64 ((r).K)), (.string (((r).iX).ja)), (.string (((r).iX).Word)), a]) ∧ g = [] ∧ Sl iZ 5 j a ((r).Kids)) := by
 refine ud i 2 func298 rfl (fun b => sg (VE (kq b bL (fun k u b => lr (V (lY (v := (.agg KE.toArray)) (mH rfl) (li bL cC (yJ _ cC) kr)) (VO (jz (.agg KE.toArray) (KE.toArray) b rfl rfl aD oc nb rfl (fun t b => lt ?_))))))))
 obtain rfl := sj hm
 exact oU (v := (.agg KE.toArray)) rfl rfl (jl b.has Mh KE rfl aZ aD) ⟨_, _, _, rfl, (b.lO Sn), (jC.refl _), Lo.refl, (ST.kz b (mh.mem Sn)), (.slice none 0 0), rfl, rfl, (Sl.nil _ _ _)⟩
theorem F6 (T : Int) (J : Value) (M r : List Formula) (w : World) {Q : jx} (h0 : nf Q [] w) (I : Sl iZ 5 Q J M) (hm : xQ T M = some r) :
  lj true pg0 300 [(.int .i64 T), J] w Q [] (fun v L1 μ1 => ∃ p, v = p ∧ L1 = [] ∧ Sl iZ 5 μ1 p (r)) := by
 refine ud h0 28 func300 rfl (fun b => sg (Wa (lr (Wa (lS (Wm ?_))))))
 refine V (lT aG rfl I) (Wm (ln (lu (fun i E W => ∃ t G k H, (E 10 = .int .i64 (i : Nat) ∧ E 9 = .int .i64 (M.length : Nat)) ∧ ST true (keys []) w W Q (k ++ H) ∧ E 0 = (.int .i64 T) ∧ E 5 = t ∧ E 8 = J ∧ kd 30 iZ 5 Q t G k ∧ oO T (M.drop i) G = some r) M.length I.len ⟨(.slice none 0 0), ([]), [], _, ⟨rfl, rfl⟩, (b.jc St), rfl, rfl, rfl, (kd.nil _ _ _ _), hm⟩ dc dc dc (fun _ _ _ h => by obtain ⟨_, _, _, _, n, _⟩ := h; exact n) ?_ ?_)))
 ·rintro b5 E W a4 ⟨t, G, k, H, ⟨m, o⟩, b, x, y, z, u, c⟩
  obtain ⟨a, b7, A, s, K⟩ := kL a4
  rw [A] at c
  refine bg (VQ (mW (i := (b5 : Int)) (x0 := a) iZ.out aG aD z m I (aV _) s) (fun c8 ⟨_, ⟨c9, rfl, D⟩, a5⟩ => V (jd rfl (jJ b.has a5 aZ aD)) (VE (kq b bL (fun c0 c5 b => ?_)))))
  obtain ⟨g, j, rfl⟩ := D.form
  let a0 := (C1 a.Op a.K a.iX.ja a.iX.Word g a.Kids.length j)
  refine VO (jz (.agg a0.toArray) (a0.toArray) b rfl rfl aD oc nb rfl (fun c1 b => lr (Wf rb (VB b Mh rfl rfl cO (Wh x (Wi rfl (ln (CI c rfl (fun Z c => ?_) (fun Z c => ?_)))))))))
  ·refine jq (Wh y (Wf qS (VB b Mh rfl rfl fc ?_)))
   replace b := b.perm (Nr (Qb Qz) Nz)
   refine bS c fun O a2 c => VE (tZ (B := k) jj b dc aG nD.1 nD.2.1 rfl nD.2.2.1 nD.2.2.2 rfl rfl u (zp.sl jj D b.jk) a2 (fun c2 R a9 b U => Wa (jH (jQ (jo ?_)))))
   replace b := b.jc (Kr (Db St))
   exact ⟨m, R, O, a9, _, ⟨rfl, o⟩, (b.jc St), x, rfl, z, U, (by rw [K]; exact c)⟩
  refine jq (Wh y (VA b Mh a0 aZ aD (VE (km (cs := a0.toArray) b (mH rfl) (nI aG aD bL) (fun c3 c6 b => ?_)))))
  replace b := b.perm (Nr (Qb (Qb Qz)) Nz)
  refine bS c fun P a3 c => VE (tZ (B := k) jj b dc aG nD.1 nD.2.1 rfl nD.2.2.1 nD.2.2.2 rfl rfl u (zp.lit jj (l := [a]) (.cons (ys := C1 a.Op a.K a.iX.ja a.iX.Word g a.Kids.length j) (iZ.mk ⟨(.slice g a.Kids.length j), rfl, D⟩) .nil) rfl nb (b.at_ (Ma Mh))) a3 (fun c4 b4 L b Y => Wa (jH (jQ (jo ?_)))))
  replace b := b.jc (Kr (Db (Db St)))
  exact ⟨m, b4, P, L, _, ⟨rfl, o⟩, (b.jc St), x, rfl, z, Y, (by rw [K]; exact c)⟩
 rintro E W ⟨t, G, k, H, ⟨m, o⟩, b, x, y, z, u, c⟩
 rw [bE] at c
 refine jo (sg (Wh y (Wa (lt ?_))))
 obtain rfl := sj c
 refine kv (v := t) rfl rfl ?_
 obtain ⟨d1, b, N, d, q⟩ := ST.wB jj b u
 exact ⟨_, _, _, rfl, (b.lO Sn), N, d, (ST.kz b (mh.mem Sn)), t, rfl, rfl, q⟩
theorem yg (a : Formula) (g : Value) (i : Nat) (j : Int) (r : Bool) (w : World) (c : Sl iZ 5 (hp w) g a.Kids) (k : At (hp w) (.pointer (some ⟨i, 0, none⟩)) [(.int .i64 j)]) (hm : oX a j = some r) :
  jO true pg0 301 [(.agg #[(.int .i64 a.Op), (.int .i64 a.K), (.string a.iX.ja), (.string a.iX.Word), g]), (.pointer (some ⟨i, 0, none⟩))] w (.bool r) := by
 refine cG 7 func301 rfl (fun b => sg ?_)
 obtain ⟨t, u, rfl⟩ := c.form
 refine VE (jZ b rfl (fun z D b => Wa (lr (VA b Mh (C1 a.Op a.K a.iX.ja a.iX.Word t a.Kids.length u) aZ aD (V (jd rfl (oL b.has (y := (.int .i64 j)) k cO)) (bS hm fun G x hm => VE (Eg b call297 (wU a (.slice t a.Kids.length u) j _ _ (c.mono jj.mono b.jk) x) (fun B b => Wa (ln ?_)))))))))
 exact kl (rQ hm b)
theorem zT (c : Value) (u r : List Formula) (w : World) {j : jx} (I : nf j [] w) (a : Sl iZ 5 j c u) (hm : qb u = some r) :
  lj true pg0 351 [c] w j [] (fun v G J => ∃ z t, v = z ∧ G = (t ++ []) ∧ kd 30 iZ 5 J z r t) := by
 unfold qb at hm
 refine ud I 8 func351 rfl (fun b => sg (Wa (lS (Wm ?_))))
 obtain ⟨D, Q, rfl⟩ := a.form
 refine V (zl aG rfl rfl) (ln ?_)
 rcases D with _ | M
 ·have y := a.isNil
  replace hm : some [] = some r := by rw [y] at hm; simpa [kN, maxLen] using hm
  refine uk (rfl) (sg (Wa (lt (lc ?_))))
  obtain rfl := sj hm
  refine kv (v := (.slice none 0 0)) rfl rfl ?_
  replace b := b.Nw
  exact ⟨_, _, _, rfl, (b.lO (Kr Sn)), (jC.refl _), Lo.refl, (ST.kz b (mh.mem (Kr Sn))), (.slice none 0 0), [], rfl, rfl, (kd.nil _ _ _ _)⟩
 ·refine pb (rfl) (kg (VE (km (cs := #[]) b sF (AK [] aG aD bL dc rfl (by simp) rfl rfl) (fun N H b => Wm (bS hm fun T x hm => VE (tZ (B := [(H, Ob #[] 30)]) jj b dc aG nD.1 nD.2.1 rfl nD.2.2.1 nD.2.2.2 rfl rfl (kd.lit jj (l := []) .nil rfl nb rfl) (zp.sl jj a b.jk) x (fun K g k b i => Wa (lt ?_))))))))
  obtain rfl := sj hm
  exact kv (v := g) rfl rfl ⟨_, _, _, rfl, (b.lO (Kr Sn)), (jC.refl _), Lo.refl, (ST.kz b (mh.mem (Kr Sn))), g, k, rfl, rfl, i⟩
theorem pV (y : Value) (a0 : List Formula) (D : LO) (q a2 : Int) (T : Value) (f3 : (Formula × Formula) → Option Int) (r : List Formula) (w : World) {μ0 : jx} (h0 : nf μ0 (D ++ []) w) (h4 : kd 30 iZ 5 μ0 y a0 D) (h5 : uW pg0 T μ0 (sU iZ iZ) (fun (r : Int) => (.int .i64 r)) f3) (hm : lW a0 q a2 f3 = some r) :
  lj false pg0 383 [y, (.int .i64 q), (.int .i64 a2), T] w μ0 (D ++ []) (fun v L1 μ1 => ∃ S1, v = (.tuple #[]) ∧ L1 = (S1 ++ []) ∧ kd 30 iZ 5 μ1 y r S1) := by
 refine ud h0 53 func383 rfl (fun n => sg (Wm (Wi rfl (Wa (ln (tu (kW (nm (fun m E W => ∃ Y J x c9, ST false (keys (D ++ [])) w W μ0 (J ++ c9) ∧ E 0 = y ∧ E 1 = (.int .i64 q) ∧ E 2 = (.int .i64 a2) ∧ E 3 = T ∧ E 8 = (.int .i64 x) ∧ kd 30 iZ 5 μ0 y Y J ∧ kf a2 q f3 m Y x = some r) jB ⟨a0, D, (wi0 .i64 (q + 1)), _, (n.jc St), rfl, rfl, rfl, rfl, rfl, h4, hm⟩ ?_))))))))
 rintro m E W ⟨Y, J, x, c9, n, f9, g0, d1, g1, O, c6, u⟩
 cases m with
 | zero => rw [kf] at u; cases u
 | succ h2 =>
  refine jt (sg (Wh O (Wh d1 (Wi rfl (ln (CI u rfl (fun e9 u => ?_) (fun e9 u => ?_)))))))
  ·refine kn (jt (bg (Wh O (Wa (ln (tu (CJ u (fun P E W => ∃ U d0, ST false (keys (D ++ [])) w W μ0 (U ++ d0) ∧ E 0 = y ∧ E 1 = (.int .i64 q) ∧ E 2 = (.int .i64 a2) ∧ E 3 = T ∧ E 8 = (.int .i64 x) ∧ kd 30 iZ 5 μ0 y P U) (fun P f1 => ?_) ?_)))))))
   ·refine kW (nm (fun m E W => ∃ M B j b7, ST false (keys (D ++ [])) w W μ0 (B ++ b7) ∧ E 0 = y ∧ E 1 = (.int .i64 q) ∧ E 2 = (.int .i64 a2) ∧ E 3 = T ∧ E 8 = (.int .i64 x) ∧ E 9 = (.int .i64 j) ∧ kd 30 iZ 5 μ0 y M B ∧ kB q f3 m M j = some P) jB ⟨Y, J, x, _, (n.jc St), f9, g0, d1, g1, O, rfl, c6, f1⟩ ?_)
    rintro m E W ⟨M, B, j, b7, n, K, Z, c0, a3, c1, G, t, I⟩
    cases m with
    | zero => rw [kB] at I; cases I
    | succ f4 =>
     refine jt (jt ?_)
     replace n := n.drew
     have d := n.has.jc (Kr Sn)
     refine kC d jK (X 0 rfl d (jh G) (X 1 rfl d (jh Z) (X 2 rfl d (lA rfl rfl rfl) (X 3 rfl d (jh rfl) (PJ I (fun c7 E W => ∃ b9, ST false (keys (D ++ [])) w W μ0 (B ++ b9) ∧ E 0 = y ∧ E 1 = (.int .i64 q) ∧ E 2 = (.int .i64 a2) ∧ E 3 = T ∧ E 8 = (.int .i64 x) ∧ E 9 = (.int .i64 j) ∧ E 34 = (.bool c7)) (bm 17 131071) 0 ?_ (fun c7 g a4 => ?_))))))
     ·rintro k2 E W ⟨b9, n, z, c2, c3, c4, c5, H, e8⟩ c
      have d := n.has.jc (Kr Sn)
      refine kJ kr (jo (CI c e8 (fun d3 c => ?_) (fun d3 c => ?_)))
      ·refine kn (jt (kW ?_))
       replace n := n.drew
       have d := n.has.jc Sn
       have p := n.has.jc (Kr Sn)
       refine sR 15 d p jK (jR 0 rfl kr (.inl rfl) rfl dc (fun _ _ h => ⟨h.1, kx br h.2⟩) ⟨d, fun _ => p⟩ (fun _ _ _ _ => jh z) (jR 1 rfl kr (.inl rfl) rfl dc (fun _ _ h => ⟨h.1, kx br h.2⟩) ⟨d, fun _ => p⟩ (fun _ _ _ _ => jh H) (jR 2 rfl kr (.inl rfl) rfl dc (fun _ _ h => ⟨h.1, kx br h.2⟩) ⟨d, fun _ => p⟩ (fun _ _ _ _ => jh z) (jR 3 rfl kr (.inl rfl) rfl dc (fun _ _ h => ⟨h.1, kx br h.2⟩) ⟨d, fun _ => p⟩ (fun _ _ _ _ => jh H) (jR 4 rfl kr (.inl rfl) rfl dc (fun _ _ h => ⟨h.1, kx br h.2⟩) ⟨d, fun _ => p⟩ (fun _ _ _ _ => lA rfl rfl rfl) (jR 5 rfl kr (.inl rfl) rfl dc (fun _ _ h => ⟨h.1, kx br h.2⟩) ⟨d, fun _ => p⟩ (fun _ _ _ _ => jh z) (jR 6 rfl kr (.inl rfl) rfl dc (fun _ _ h => ⟨h.1, kx br h.2⟩) ⟨d, fun _ => p⟩ (fun _ _ _ _ => jh H) (jR 7 rfl kr (.inl rfl) rfl dc (fun _ _ h => ⟨h.1, kx br h.2⟩) ⟨d, fun _ => p⟩ (fun _ _ _ _ => lA rfl rfl rfl) (bS c fun a5 b0 c => sD 8 rfl kr (.inl rfl) rfl dc (fun _ _ h => ⟨h.1, kx br h.2⟩) ⟨d, fun _ => p⟩ (ky (i := (wi0 .i64 (j - 1))) iZ.out aG aD rfl rfl t (jG b0) (jD b0)) (fun i9 ⟨_, ⟨j8, rfl, a8⟩, d6, h6⟩ => jR 9 rfl kr (.inl rfl) rfl dc (fun _ _ h => ⟨h.1, kx br h.2⟩) ⟨d, fun _ => p⟩ (fun l W A R => have s := (R.2 (A.Bv 15 [9] kr rfl)); jd rfl (jJ (mI.hp _) (d6.mono (kT (fun b o L => s.2 b o (Ml L)))) aZ aD)) (jR 10 rfl kr (.inl rfl) rfl dc (fun _ _ h => ⟨h.1, kx br h.2⟩) ⟨d, fun _ => p⟩ (fun _ _ _ _ => jh z) (jR 11 rfl kr (.inl rfl) rfl dc (fun _ _ h => ⟨h.1, kx br h.2⟩) ⟨d, fun _ => p⟩ (fun _ _ _ _ => jh H) (bS c fun k b1 c => ?_)))))))))))))
       refine sD 12 rfl kr (.inl rfl) rfl dc (fun _ _ h => ⟨h.1, kx br h.2⟩) ⟨d, fun _ => p⟩ (ky (i := j) iZ.out aG aD rfl rfl t (jG b1) (jD b1)) (fun j0 ⟨_, ⟨j9, rfl, a9⟩, d7, h7⟩ => jR 13 rfl kr (.inl rfl) rfl dc (fun _ _ h => ⟨h.1, kx br h.2⟩) ⟨d, fun _ => p⟩ (fun l W A R => have s := (R.2 (A.Bv 15 [13] kr rfl)); jd rfl (jJ (mI.hp _) (d7.mono (kT (fun b o L => s.2 b o (Ml L)))) aZ aD)) (bS c fun k3 N c => sD 14 rfl kr (.inl rfl) rfl dc (fun _ _ h => ⟨h.1, kx br h.2⟩) ⟨d, fun _ => p⟩ (ky (i := j) iZ.out aG aD rfl rfl t (jG N) (jD N)) (fun j3 ⟨_, ⟨k0, rfl, i2⟩, i0, d4⟩ => ?_)))
       obtain ⟨e3, e6, rfl⟩ := a8.form
       refine XO 15 rfl (pc (x1 := a5) jj n t rfl rfl (iZ.mk ⟨(.slice e3 a5.Kids.length e6), rfl, a8⟩) d4 (jD N) aD (fun i6 i4 n a7 => ?_))
       have d := n.has.jc Sn
       refine ⟨⟨d, fun h => xI kr h⟩, (bS c fun k4 Q c => sD 16 rfl kr (.inl rfl) rfl dc (fun _ _ h => ⟨h.1, kx br h.2⟩) ⟨d, fun h => xI kr h⟩ (ky (i := (wi0 .i64 (j - 1))) iZ.out aG aD rfl rfl a7 (jG Q) (jD Q)) (fun j4 ⟨_, ⟨k1, rfl, i3⟩, i1, d5⟩ => ?_))⟩
       obtain ⟨e4, e7, rfl⟩ := a9.form
       refine XO 17 rfl (pc (x1 := (⟨k.Op, k.K, k.iX, k.Kids⟩ : Formula)) jj n a7 rfl rfl (iZ.mk ⟨(.slice e4 k.Kids.length e7), rfl, a9⟩) d5 (jD Q) aD (fun i7 e5 n d2 => ?_))
       have d := n.has.jc Sn
       exact ⟨⟨d, fun h => xI kr h⟩, (kJ kr (jQ (jo (jq (Wh H (Wi rfl (Wa (ln ⟨f4, bM _, ((M.set (Int.toNat j) a5).set (Int.toNat (wi0 .i64 (j - 1))) (⟨k.Op, k.K, k.iX, k.Kids⟩ : Formula)), e5, (wi0 .i64 (j - 1)), _, (n.jc St), z, c2, c3, c4, c5, rfl, d2, c⟩))))))))⟩
      refine mU (mA (mA (qX (jo ?_))))
      obtain rfl := sj c
      exact ⟨B, _, (n.jc St), z, c2, c3, c4, c5, t⟩
     refine bC g (fun a g => ?_) (fun a g => ?_)
     ·refine Xg 4 rfl rfl (cB a) d (jh a3) (Xg 5 rfl rfl (cB a) d (jh K) (Xg 6 rfl rfl (cB a) d (jh G) (bS g fun f7 b2 g => sD 7 rfl kr (.inr ⟨3, true, 21, rfl, rfl, by decide, (cB a)⟩) rfl dc (fun _ _ h => h) d (ky (i := j) iZ.out aG aD rfl rfl t (jG b2) (jD b2)) (fun j5 ⟨_, ⟨f5, rfl, e1⟩, d8, h8⟩ => xY 8 rfl rfl (cB a) d (fun _ s => jd rfl (jJ (mI.hp _) (d8.mono (kT (fun b o L => s.2 b o (Ml L)))) aZ aD)) (Xg 9 rfl rfl (cB a) d (jh K) (Xg 10 rfl rfl (cB a) d (jh G) (Xg 11 rfl rfl (cB a) d (lA rfl rfl rfl) (bS g fun f8 b3 g => sD 12 rfl kr (.inr ⟨3, true, 21, rfl, rfl, by decide, (cB a)⟩) rfl dc (fun _ _ h => h) d (ky (i := (wi0 .i64 (j - 1))) iZ.out aG aD rfl rfl t (jG b3) (jD b3)) (fun j6 ⟨_, ⟨f6, rfl, e2⟩, d9, h9⟩ => xY 13 rfl rfl (cB a) d (fun _ s => jd rfl (jJ (mI.hp _) (d9.mono (kT (fun b o L => s.2 b o (Ml L)))) aZ aD)) (bS g fun j7 e0 g => Ih 14 rfl rfl (cB a) (wx (f7, f8) n h5 (jC.refl _) (sU.mk jj jj (iZ.mk ⟨f5, rfl, e1⟩) (iZ.mk ⟨f6, rfl, e2⟩) n.jk) rfl (vk rfl rfl) e0 (fun i8 n => ?_))))))))))))
      have d := n.has.jc (Kr Sn)
      refine ⟨d, (Xg 15 rfl rfl (cB a) d (lA rfl rfl rfl) (X 16 rfl d (jW (cB a) rfl) ?_))⟩
      obtain rfl := sj g
      refine vm kr (a4 _ _ ⟨_, (n.jc St), K, Z, c0, a3, c1, G, rfl⟩)
     refine Xn 4 rfl rfl (cB a) d (Xn 5 rfl rfl (cB a) d (Xn 6 rfl rfl (cB a) d (Xn 7 rfl rfl (cB a) d (Xn 8 rfl rfl (cB a) d (Xn 9 rfl rfl (cB a) d (Xn 10 rfl rfl (cB a) d (Xn 11 rfl rfl (cB a) d (Xn 12 rfl rfl (cB a) d (Xn 13 rfl rfl (cB a) d (Xn 14 rfl rfl (cB a) d (Xn 15 rfl rfl (cB a) d (X 16 rfl d (jY (cB a) rfl) ?_))))))))))))
     obtain rfl := sj g
     refine vm kr (a4 _ _ ⟨_, (n.jc St), K, Z, c0, a3, c1, G, rfl⟩)
   rintro h1 E W ⟨U, d0, n, g2, g3, g4, g7, g8, f2⟩ f0
   exact jQ (jo (jq (Wh g8 (Wi rfl (Wa (ln ⟨h2, bM _, h1, U, (wi0 .i64 (x + 1)), _, (n.jc St), g2, g3, g4, g7, rfl, f2, f0⟩))))))
  refine mU (mA (mA (qX (jo (nY ?_)))))
  obtain rfl := sj u
  exact nh rfl ⟨_, _, _, rfl, (n.lO (Kr Sn)), (jC.refl _), Lo.refl, (ST.kz n (mh.mem (Kr Sn))), J, rfl, rfl, c6⟩
theorem oC (x : Value) (a0 : List Formula) (t : LO) (G H a3 : Int) (a5 : Value) (f4 : (Formula × Formula) → Option Int) (r : List Formula) (w : World) {Y : jx} (h0 : nf Y (t ++ []) w) (c0 : kd 30 iZ 5 Y x a0 t) (d5 : uW pg0 a5 Y (sU iZ iZ) (fun (r : Int) => (.int .i64 r)) f4) (hm : lP a0 G H a3 f4 = some r) :
  lj true pg0 400 [x, (.int .i64 G), (.int .i64 H), (.int .i64 a3), a5] w Y (t ++ []) (fun v L1 μ1 => ∃ S1, v = (.tuple #[]) ∧ L1 = (S1 ++ []) ∧ kd 30 iZ 5 μ1 x r S1) := by
 refine ud h0 38 func400 rfl (fun p => sg (Wa (ln (tu (kW (nm (fun m E W => ∃ D y c Z, ST true (keys (t ++ [])) w W Y (y ++ Z) ∧ E 0 = x ∧ E 1 = (.int .i64 G) ∧ E 2 = (.int .i64 H) ∧ E 3 = (.int .i64 a3) ∧ E 10 = (.int .i64 c) ∧ kd 30 iZ 5 Y x D y ∧ kV a3 H G m D c = some r) jB ⟨a0, t, 0, _, (p.jc St), rfl, rfl, rfl, rfl, rfl, c0, hm⟩ ?_))))))
 rintro m E W ⟨D, y, c, Z, p, u, I, J, a4, k, j, a⟩
 cases m with
 | zero => rw [kV] at a; cases a
 | succ c1 =>
  refine jt (sg (Wh k (Wh a4 (Wi rfl (ln (CI a rfl (fun R a => ?_) (fun R a => ?_)))))))
  ·refine kn (jt (kW ?_))
   replace p := p.drew
   have d := p.has.jc Sn
   have n := p.has.jc (Kr Sn)
   refine sR 21 d n jK (jR 0 rfl kr (.inl rfl) rfl dc (fun _ _ h => ⟨h.1, kx br h.2⟩) ⟨d, fun _ => n⟩ (fun _ _ _ _ => jh u) (jR 1 rfl kr (.inl rfl) rfl dc (fun _ _ h => ⟨h.1, kx br h.2⟩) ⟨d, fun _ => n⟩ (fun _ _ _ _ => jh I) (jR 2 rfl kr (.inl rfl) rfl dc (fun _ _ h => ⟨h.1, kx br h.2⟩) ⟨d, fun _ => n⟩ (fun _ _ _ _ => jh k) (jR 3 rfl kr (.inl rfl) rfl dc (fun _ _ h => ⟨h.1, kx br h.2⟩) ⟨d, fun _ => n⟩ (fun _ _ _ _ => lA rfl rfl rfl) (jR 4 rfl kr (.inl rfl) rfl dc (fun _ _ h => ⟨h.1, kx br h.2⟩) ⟨d, fun _ => n⟩ (fun _ _ _ _ => jh u) (jR 5 rfl kr (.inl rfl) rfl dc (fun _ _ h => ⟨h.1, kx br h.2⟩) ⟨d, fun _ => n⟩ (fun _ _ _ _ => jh J) (jR 6 rfl kr (.inl rfl) rfl dc (fun _ _ h => ⟨h.1, kx br h.2⟩) ⟨d, fun _ => n⟩ (fun _ _ _ _ => jh k) (jR 7 rfl kr (.inl rfl) rfl dc (fun _ _ h => ⟨h.1, kx br h.2⟩) ⟨d, fun _ => n⟩ (fun _ _ _ _ => lA rfl rfl rfl) (jR 8 rfl kr (.inl rfl) rfl dc (fun _ _ h => ⟨h.1, kx br h.2⟩) ⟨d, fun _ => n⟩ (fun _ _ _ _ => jh u) (jR 9 rfl kr (.inl rfl) rfl dc (fun _ _ h => ⟨h.1, kx br h.2⟩) ⟨d, fun _ => n⟩ (fun _ _ _ _ => jh J) (jR 10 rfl kr (.inl rfl) rfl dc (fun _ _ h => ⟨h.1, kx br h.2⟩) ⟨d, fun _ => n⟩ (fun _ _ _ _ => jh k) (jR 11 rfl kr (.inl rfl) rfl dc (fun _ _ h => ⟨h.1, kx br h.2⟩) ⟨d, fun _ => n⟩ (fun _ _ _ _ => lA rfl rfl rfl) (bS a fun K T a => sD 12 rfl kr (.inl rfl) rfl dc (fun _ _ h => ⟨h.1, kx br h.2⟩) ⟨d, fun _ => n⟩ (ky (i := (wi0 .i64 (H + c))) iZ.out aG aD rfl rfl j (jG T) (jD T)) (fun d6 ⟨_, ⟨e0, rfl, N⟩, b1, c4⟩ => ?_))))))))))))))
   refine jR 13 rfl kr (.inl rfl) rfl dc (fun _ _ h => ⟨h.1, kx br h.2⟩) ⟨d, fun _ => n⟩ (fun l W q L => have s := (L.2 (q.Bv 21 [13] kr rfl)); jd rfl (jJ (mI.hp _) (b1.mono (kT (fun b o A => s.2 b o (Ml A)))) aZ aD)) (jR 14 rfl kr (.inl rfl) rfl dc (fun _ _ h => ⟨h.1, kx br h.2⟩) ⟨d, fun _ => n⟩ (fun _ _ _ _ => jh u) (jR 15 rfl kr (.inl rfl) rfl dc (fun _ _ h => ⟨h.1, kx br h.2⟩) ⟨d, fun _ => n⟩ (fun _ _ _ _ => jh I) (jR 16 rfl kr (.inl rfl) rfl dc (fun _ _ h => ⟨h.1, kx br h.2⟩) ⟨d, fun _ => n⟩ (fun _ _ _ _ => jh k) (jR 17 rfl kr (.inl rfl) rfl dc (fun _ _ h => ⟨h.1, kx br h.2⟩) ⟨d, fun _ => n⟩ (fun _ _ _ _ => lA rfl rfl rfl) (bS a fun g U a => sD 18 rfl kr (.inl rfl) rfl dc (fun _ _ h => ⟨h.1, kx br h.2⟩) ⟨d, fun _ => n⟩ (ky (i := (wi0 .i64 (G + c))) iZ.out aG aD rfl rfl j (jG U) (jD U)) (fun d7 ⟨_, ⟨e1, rfl, Q⟩, b2, c5⟩ => jR 19 rfl kr (.inl rfl) rfl dc (fun _ _ h => ⟨h.1, kx br h.2⟩) ⟨d, fun _ => n⟩ (fun l W q L => have s := (L.2 (q.Bv 21 [19] kr rfl)); jd rfl (jJ (mI.hp _) (b2.mono (kT (fun b o A => s.2 b o (Ml A)))) aZ aD)) (bS a fun e5 z a => sD 20 rfl kr (.inl rfl) rfl dc (fun _ _ h => ⟨h.1, kx br h.2⟩) ⟨d, fun _ => n⟩ (ky (i := (wi0 .i64 (G + c))) iZ.out aG aD rfl rfl j (jG z) (jD z)) (fun d8 ⟨_, ⟨e2, rfl, c8⟩, c6, a9⟩ => ?_))))))))
   let O := (⟨g.Op, g.K, g.iX, g.Kids⟩ : Formula)
   obtain ⟨b3, b7, rfl⟩ := N.form
   refine XO 21 rfl (pc (x1 := K) jj p j rfl rfl (iZ.mk ⟨(.slice b3 K.Kids.length b7), rfl, N⟩) a9 (jD z) aD (fun d2 d1 p M => ?_))
   have d := p.has.jc Sn
   refine ⟨⟨d, fun h => xI kr h⟩, (bS a fun e6 B a => sD 22 rfl kr (.inl rfl) rfl dc (fun _ _ h => ⟨h.1, kx br h.2⟩) ⟨d, fun h => xI kr h⟩ (ky (i := (wi0 .i64 (H + c))) iZ.out aG aD rfl rfl M (jG B) (jD B)) (fun d9 ⟨_, ⟨e3, rfl, c9⟩, c7, b0⟩ => ?_))⟩
   obtain ⟨b4, b9, rfl⟩ := Q.form
   refine XO 23 rfl (pc (x1 := O) jj p M rfl rfl (iZ.mk ⟨(.slice b4 g.Kids.length b9), rfl, Q⟩) b0 (jD B) aD (fun d3 b5 p P => ?_))
   have d := p.has.jc Sn
   exact ⟨⟨d, fun h => xI kr h⟩, (kJ kr (jQ (jo (jq (Wh k (Wi rfl (Wa (ln ⟨c1, bM _, ((D.set (Int.toNat (wi0 .i64 (G + c))) K).set (Int.toNat (wi0 .i64 (H + c))) O), b5, (wi0 .i64 (c + 1)), _, (p.jc St), u, I, J, a4, rfl, P, a⟩))))))))⟩
  refine mU (mA (mA (qX (jo (nY ?_)))))
  obtain rfl := sj a
  exact nh rfl ⟨_, _, _, rfl, (p.lO (Kr Sn)), (jC.refl _), Lo.refl, (ST.kz p (mh.mem (Kr Sn))), y, rfl, rfl, j⟩
theorem vX (k : Value) (a0 : List Formula) (y : LO) (p D a3 : Int) (B : Value) (U : (Formula × Formula) → Option Int) (r : List Formula) (w : World) {T : jx} (h0 : nf T (y ++ []) w) (c5 : kd 30 iZ 5 T k a0 y) (Q : uW pg0 B T (sU iZ iZ) (fun (r : Int) => (.int .i64 r)) U) (hm : lH a0 p D a3 U = some r) :
  lj true pg0 389 [k, (.int .i64 p), (.int .i64 D), (.int .i64 a3), B] w T (y ++ []) (fun v L1 μ1 => ∃ S1, v = (.tuple #[]) ∧ L1 = (S1 ++ []) ∧ kd 30 iZ 5 μ1 k r S1) := by
 refine ud h0 58 func389 rfl (fun b => sg (Wm (Wm (Wi rfl (Wa (lr (Wm (Wm (Wi rfl (Wa ?_))))))))))
 refine ln (jt (kW (nm (fun m E W => ∃ z x c t I Y, jC T I ∧ Lo (keys (y ++ [])) w T I ∧ ST true (keys (y ++ [])) w W I (x ++ Y) ∧ E 0 = k ∧ E 2 = (.int .i64 D) ∧ E 4 = B ∧ E 10 = (.int .i64 c) ∧ E 11 = (.int .i64 t) ∧ kd 30 iZ 5 I k z x ∧ lm D U m z c t = some r) jB ⟨a0, y, (wi0 .i64 (D - p)), (wi0 .i64 (a3 - D)), T, _, (jC.refl _), Lo.refl, (b.jc St), rfl, rfl, rfl, rfl, rfl, c5, hm⟩ ?_)))
 rintro m E W ⟨z, x, c, t, I, Y, i, d, b, G, j, H, g, u, J, a⟩
 let a2 := (wi0 .i64 (D - c))
 cases m with
 | zero => rw [lm] at a; cases a
 | succ q =>
  refine jt (sg (Wh g (Wh u (Wi rfl (ln (CI a rfl (fun s a => ?_) (fun s a => ?_)))))))
  ·refine kn (bg (Wh g (Wh u (Wi rfl (ln (CI a rfl (fun A a => ?_) (fun A a => ?_)))))))
   ·refine sg (Wh G (Wh j (Wh g (Wi rfl (Wh j (Wh u (Wh H (bS a fun c6 L a => ?_))))))))
    refine VE (eD b (Cr Qz Cn) call400 (fun o => (oC k z x a2 D t B U _ _ o J (Q.mono i) L)) ?_)
    rintro _ e0 c8 d2 b Z h ⟨b9, K, rfl, R⟩
    obtain rfl := K.symm
    replace b := b.perm (Tr Tn)
    exact ln (jq (Wh g (Wh u (Wi rfl (Wa (jH (jQ (jo ⟨q, bM _, c6, b9, (wi0 .i64 (c - t)), t, c8, _, (i.trans Z), (d.trans h), (b.jc St), G, j, H, rfl, u, R, a⟩))))))))
   refine sg (Wh G (Wh j (Wh g (Wi rfl (Wh j (Wh u (Wi rfl (Wh g (Wi rfl (Wh g (Wh H (bS a fun c7 O a => ?_))))))))))))
   refine VE (eD b (Cr Qz Cn) call400 (fun o => (oC k z x a2 (wi0 .i64 ((wi0 .i64 (D + t)) - c)) c B U _ _ o J (Q.mono i) O)) ?_)
   rintro _ e1 c9 d3 b a4 l ⟨c0, M, rfl, b6⟩
   obtain rfl := M.symm
   replace b := b.perm (Tr Tn)
   exact ln (jq (Wh u (Wh g (Wi rfl (Wa (jH (jQ (jo ⟨q, bM _, c7, c0, c, (wi0 .i64 (t - c)), c9, _, (i.trans a4), (d.trans l), (b.jc St), G, j, H, g, rfl, b6, a⟩))))))))
  refine mU (mA (mA (qX (jo (jq (Wh G (Wh j (Wh g (Wi rfl (Wh j (Wh g (Wh H (bS a fun d9 P a => ?_)))))))))))))
  refine VE (eD b (Cr Qz Cn) call400 (fun o => (oC k z x a2 D c B U _ _ o J (Q.mono i) P)) ?_)
  rintro _ e2 e4 d4 b a5 n ⟨c1, N, rfl, b7⟩
  obtain rfl := N.symm
  replace b := b.perm (Tr Tn)
  refine jH (nY ?_)
  obtain rfl := sj a
  exact nh rfl ⟨_, _, _, rfl, (b.lO (Kr Sn)), (i.trans a5), (d.trans n), (ST.kz b (mh.mem (Kr Sn))), c1, rfl, rfl, b7⟩
set_option maxHeartbeats 4000000 in
theorem tS (t6 : (List Formula) → Int → Int → Int → ((Formula × Formula) → Option Int) → Option (List Formula)) (s6 : ∀ (t : Value) (a0 : List Formula) (c : LO) (z : Int) (M : Int) (B : Int) (D : Value) (f4 : (Formula × Formula) → Option Int) (r : List Formula) (w : World) {U : jx} (h0 : nf U (c ++ []) w) (a5 : kd 30 iZ 5 U t a0 c) (c6 : uW pg0 D U (sU iZ iZ) (fun (r : Int) => (.int .i64 r)) f4), t6 a0 z M B f4 = some r → lj false pg0 384 [t, (.int .i64 z), (.int .i64 M), (.int .i64 B), D] w U (c ++ []) (fun v L1 μ1 => ∃ S1, v = (.tuple #[]) ∧ L1 = (S1 ++ []) ∧ kd 30 iZ 5 μ1 t r S1)) (t : Value) (a0 : List Formula) (c : LO) (z M B : Int) (D : Value) (f4 : (Formula × Formula) → Option Int) (r : List Formula) (w : World) {U : jx} (h0 : nf U (c ++ []) w) (a5 : kd 30 iZ 5 U t a0 c) (c6 : uW pg0 D U (sU iZ iZ) (fun (r : Int) => (.int .i64 r)) f4) (hm : nJ t6 a0 z M B f4 = some r) :
  lj false pg0 384 [t, (.int .i64 z), (.int .i64 M), (.int .i64 B), D] w U (c ++ []) (fun v L1 μ1 => ∃ S1, v = (.tuple #[]) ∧ L1 = (S1 ++ []) ∧ kd 30 iZ 5 μ1 t r S1) := by
 refine ud h0 220 func384 rfl (fun d => jt (sg (Wm (Wm (Wi rfl (Wi rfl (ln (CI hm rfl (fun ae hm => ?_) (fun ae hm => ?_)))))))))
 ·refine sg (Wm (Wa (lr (Wm (Wa (ln (jt (kW (nm (fun m E W => ∃ T a9 o3, ST false (keys (c ++ [])) w W U (c ++ o3) ∧ E 0 = t ∧ E 1 = (.int .i64 z) ∧ E 4 = D ∧ E 10 = (.int .i64 T) ∧ E 11 = (.int .i64 a9) ∧ jU a0 z f4 m T a9 = some r) jB ⟨M, B, _, (d.jc St), rfl, rfl, rfl, rfl, rfl, hm⟩ ?_)))))))))
  rintro m E W ⟨T, a9, o3, d, e4, h8, k3, h9, k4, y⟩
  cases m with
  | zero => rw [jU] at y; cases y
  | succ t5 =>
   refine jt (sg (Wh h9 (Wh k4 (Wi rfl (ln (CI y rfl (fun w9 y => ?_) (fun w9 y => ?_)))))))
   ·refine kn (bg (Wh h9 (Wh k4 (Wi rfl (V (qJ (k' := .i64) (a := (wi0 .i64 (T + a9))) ee eE rfl) (V (EB (a := (IntKind.u64.wrap (wi0 .i64 (T + a9)))) (b := 1) rfl rfl dc) (V (qJ (k' := .u64) (a := (Int.fdiv (IntKind.u64.wrap (wi0 .i64 (T + a9))) (2 ^ min (Int.toNat 1) (IntKind.bits .u64)))) eE ee rfl) (Wa (ln (jt ?_))))))))))
    let e3 := (Int.fdiv (IntKind.u64.wrap (wi0 .i64 (T + a9))) (2 ^ min (Int.toNat 1) (IntKind.bits .u64)))
    replace d := d.drew
    have n := d.has.jc (Kr Sn)
    refine kC n jK (X 0 rfl n (jh k3) (X 1 rfl n (jh e4) (X 2 rfl n (jh rfl) (bS y fun aa n1 y => XQ 3 rfl n (ky (i := (wi0 .i64 e3)) iZ.out aG aD rfl rfl a5 (jG n1) (jD n1)) (fun di ⟨_, ⟨z7, rfl, x7⟩, x4, bp⟩ => XH 4 rfl n (fun _ s => jd rfl (jJ (mI.hp _) (x4.mono (kT (fun b o A => s.2 b o (Ml A)))) aZ aD)) (X 5 rfl n (jh e4) (X 6 rfl n (jh h8) (bS y fun ab n2 y => XQ 7 rfl n (ky (i := z) iZ.out aG aD rfl rfl a5 (jG n2) (jD n2)) (fun dj ⟨_, ⟨z8, rfl, x8⟩, x5, bq⟩ => XH 8 rfl n (fun _ s => jd rfl (jJ (mI.hp _) (x5.mono (kT (fun b o A => s.2 b o (Ml A)))) aZ aD)) (bS y fun dk x6 y => XE 9 rfl (wx (aa, ab) d c6 (jC.refl _) (sU.mk jj jj (iZ.mk ⟨z7, rfl, x7⟩) (iZ.mk ⟨z8, rfl, x8⟩) d.jk) rfl (vk rfl rfl) x6 (fun dg d => ?_))))))))))))
    have n := d.has.jc (Kr Sn)
    refine ⟨n, (X 10 rfl n (lA rfl rfl rfl) (kJ kr (jo (CI y rfl (fun x0 y => ?_) (fun x0 y => ?_)))))⟩
    ·exact jq (Wm (Wi rfl (Wa (jH (jQ (jo ⟨t5, bM _, (wi0 .i64 ((wi0 .i64 e3) + 1)), a9, _, (d.jc St), e4, h8, k3, rfl, k4, y⟩))))))
    exact jq (Wm (Wa (jH (jQ (jo ⟨t5, bM _, T, (wi0 .i64 e3), _, (d.jc St), e4, h8, k3, h9, rfl, y⟩)))))
   refine mU (mA (mA (qX (jo (jt (sg (Wh h8 (Wa (ln (CJ y (fun k5 E W => ∃ f7 o4, ST false (keys (c ++ [])) w W U (f7 ++ o4) ∧ kd 30 iZ 5 U t k5 f7) (fun k5 x3 => ?_) ?_))))))))))
   ·refine kW (nm (fun m E W => ∃ i0 f8 b0 k6, ST false (keys (c ++ [])) w W U (f8 ++ k6) ∧ E 0 = t ∧ E 10 = (.int .i64 T) ∧ E 13 = (.int .i64 b0) ∧ kd 30 iZ 5 U t i0 f8 ∧ kZ T m i0 b0 = some k5) jB ⟨a0, c, z, _, (d.jc St), e4, h9, rfl, a5, x3⟩ ?_)
    rintro m E W ⟨i0, f8, b0, k6, d, c7, l7, c0, d1, u⟩
    cases m with
    | zero => rw [kZ] at u; cases u
    | succ y2 =>
     refine jt (sg (Wh c0 (Wh l7 (Wi rfl (Wi rfl (ln (CI u rfl (fun p1 u => ?_) (fun p1 u => ?_))))))))
     ·refine kn (jt (kW ?_))
      replace d := d.drew
      have n := d.has.jc Sn
      have p := d.has.jc (Kr Sn)
      refine sR 15 n p jK (jR 0 rfl kr (.inl rfl) rfl dc (fun _ _ h => ⟨h.1, kx (by rfl) h.2⟩) ⟨n, fun _ => p⟩ (fun _ _ _ _ => jh c7) (jR 1 rfl kr (.inl rfl) rfl dc (fun _ _ h => ⟨h.1, kx (by rfl) h.2⟩) ⟨n, fun _ => p⟩ (fun _ _ _ _ => jh c0) (jR 2 rfl kr (.inl rfl) rfl dc (fun _ _ h => ⟨h.1, kx (by rfl) h.2⟩) ⟨n, fun _ => p⟩ (fun _ _ _ _ => jh c7) (jR 3 rfl kr (.inl rfl) rfl dc (fun _ _ h => ⟨h.1, kx (by rfl) h.2⟩) ⟨n, fun _ => p⟩ (fun _ _ _ _ => jh c0) (jR 4 rfl kr (.inl rfl) rfl dc (fun _ _ h => ⟨h.1, kx (by rfl) h.2⟩) ⟨n, fun _ => p⟩ (fun _ _ _ _ => lA rfl rfl rfl) (jR 5 rfl kr (.inl rfl) rfl dc (fun _ _ h => ⟨h.1, kx (by rfl) h.2⟩) ⟨n, fun _ => p⟩ (fun _ _ _ _ => jh c7) (jR 6 rfl kr (.inl rfl) rfl dc (fun _ _ h => ⟨h.1, kx (by rfl) h.2⟩) ⟨n, fun _ => p⟩ (fun _ _ _ _ => jh c0) (jR 7 rfl kr (.inl rfl) rfl dc (fun _ _ h => ⟨h.1, kx (by rfl) h.2⟩) ⟨n, fun _ => p⟩ (fun _ _ _ _ => lA rfl rfl rfl) (bS u fun i3 j5 u => sD 8 rfl kr (.inl rfl) rfl dc (fun _ _ h => ⟨h.1, kx (by rfl) h.2⟩) ⟨n, fun _ => p⟩ (ky (i := (wi0 .i64 (b0 + 1))) iZ.out aG aD rfl rfl d1 (jG j5) (jD j5)) (fun bt ⟨_, ⟨cl, rfl, i7⟩, r3, af⟩ => jR 9 rfl kr (.inl rfl) rfl dc (fun _ _ h => ⟨h.1, kx (by rfl) h.2⟩) ⟨n, fun _ => p⟩ (fun l W L hs => have s := (hs.2 (L.Bv 15 [9] kr rfl)); jd rfl (jJ (mI.hp _) (r3.mono (kT (fun b o A => s.2 b o (Ml A)))) aZ aD)) (jR 10 rfl kr (.inl rfl) rfl dc (fun _ _ h => ⟨h.1, kx (by rfl) h.2⟩) ⟨n, fun _ => p⟩ (fun _ _ _ _ => jh c7) (jR 11 rfl kr (.inl rfl) rfl dc (fun _ _ h => ⟨h.1, kx (by rfl) h.2⟩) ⟨n, fun _ => p⟩ (fun _ _ _ _ => jh c0) (bS u fun Y j6 u => ?_)))))))))))))
      refine sD 12 rfl kr (.inl rfl) rfl dc (fun _ _ h => ⟨h.1, kx (by rfl) h.2⟩) ⟨n, fun _ => p⟩ (ky (i := b0) iZ.out aG aD rfl rfl d1 (jG j6) (jD j6)) (fun bu ⟨_, ⟨cm, rfl, i8⟩, r4, ag⟩ => jR 13 rfl kr (.inl rfl) rfl dc (fun _ _ h => ⟨h.1, kx (by rfl) h.2⟩) ⟨n, fun _ => p⟩ (fun l W L hs => have s := (hs.2 (L.Bv 15 [13] kr rfl)); jd rfl (jJ (mI.hp _) (r4.mono (kT (fun b o A => s.2 b o (Ml A)))) aZ aD)) (bS u fun cw e9 u => sD 14 rfl kr (.inl rfl) rfl dc (fun _ _ h => ⟨h.1, kx (by rfl) h.2⟩) ⟨n, fun _ => p⟩ (ky (i := b0) iZ.out aG aD rfl rfl d1 (jG e9) (jD e9)) (fun bv ⟨_, ⟨cn, rfl, ar⟩, an, q2⟩ => ?_)))
      obtain ⟨t7, u6, rfl⟩ := i7.form
      refine XO 15 rfl (pc (x1 := i3) jj d d1 rfl rfl (iZ.mk ⟨(.slice t7 i3.Kids.length u6), rfl, i7⟩) q2 (jD e9) aD (fun be bc d i5 => ?_))
      have n := d.has.jc Sn
      refine ⟨⟨n, fun h => xI kr h⟩, (bS u fun cx f0 u => sD 16 rfl kr (.inl rfl) rfl dc (fun _ _ h => ⟨h.1, kx (by rfl) h.2⟩) ⟨n, fun h => xI kr h⟩ (ky (i := (wi0 .i64 (b0 + 1))) iZ.out aG aD rfl rfl i5 (jG f0) (jD f0)) (fun bw ⟨_, ⟨co, rfl, au⟩, ao, q3⟩ => ?_))⟩
      obtain ⟨t8, u7, rfl⟩ := i8.form
      refine XO 17 rfl (pc (x1 := (⟨Y.Op, Y.K, Y.iX, Y.Kids⟩ : Formula)) jj d i5 rfl rfl (iZ.mk ⟨(.slice t8 Y.Kids.length u7), rfl, i8⟩) q3 (jD f0) aD (fun bf u1 d o9 => ?_))
      have n := d.has.jc Sn
      exact ⟨⟨n, fun h => xI kr h⟩, (kJ kr (jQ (jo (jq (Wh c0 (Wi rfl (Wa (ln ⟨y2, bM _, ((i0.set (Int.toNat b0) i3).set (Int.toNat (wi0 .i64 (b0 + 1))) (⟨Y.Op, Y.K, Y.iX, Y.Kids⟩ : Formula)), u1, (wi0 .i64 (b0 + 1)), _, (d.jc St), c7, l7, rfl, o9, u⟩))))))))⟩
     refine mU (mA (mA (qX (jo ?_))))
     have q := sj u; subst q
     exact ⟨f8, _, (d.jc St), d1⟩
   rintro dh E W ⟨f7, o4, d, x9⟩ x2
   refine kl (lc ?_)
   have q := sj x2; subst q
   exact nh rfl ⟨_, _, _, rfl, (d.lO (Kr Sn)), (jC.refl _), Lo.refl, (ST.kz d (mh.mem (Kr Sn))), f7, rfl, rfl, x9⟩
 refine kS (Wm (Wm (Wi rfl (Wi rfl (ln (CI hm rfl (fun p2 hm => ?_) (fun p2 hm => ?_)))))))
 ·refine sg (Wm (Wa (lr (Wm (Wa (ln (jt (kW (nm (fun m E W => ∃ G N k7, ST false (keys (c ++ [])) w W U (c ++ k7) ∧ E 0 = t ∧ E 2 = (.int .i64 M) ∧ E 4 = D ∧ E 14 = (.int .i64 G) ∧ E 15 = (.int .i64 N) ∧ jV a0 M f4 m G N = some r) jB ⟨z, M, _, (d.jc St), rfl, rfl, rfl, rfl, rfl, hm⟩ ?_)))))))))
  rintro m E W ⟨G, N, k7, d, c8, d5, f9, d6, g0, j⟩
  let j1 := (IntKind.u64.wrap (wi0 .i64 (G + N)))
  let b8 := (Int.fdiv j1 (2 ^ min (Int.toNat 1) (IntKind.bits .u64)))
  cases m with
  | zero => rw [jV] at j; cases j
  | succ n3 =>
   refine jt (sg (Wh d6 (Wh g0 (Wi rfl (ln (CI j rfl (fun p3 j => ?_) (fun p3 j => ?_)))))))
   ·refine kn (bg (Wh d6 (Wh g0 (Wi rfl (V (qJ (k' := .i64) (a := (wi0 .i64 (G + N))) ee eE rfl) (V (EB (a := j1) (b := 1) rfl rfl dc) (V (qJ (k' := .u64) (a := (Int.fdiv j1 (2 ^ min (Int.toNat 1) (IntKind.bits .u64)))) eE ee rfl) (Wa (ln (jt ?_))))))))))
    replace d := d.drew
    have n := d.has.jc (Kr Sn)
    refine kC n jK (X 0 rfl n (jh f9) (X 1 rfl n (jh c8) (X 2 rfl n (jh d5) (bS j fun y8 j7 j => XQ 3 rfl n (ky (i := M) iZ.out aG aD rfl rfl a5 (jG j7) (jD j7)) (fun bx ⟨_, ⟨y4, rfl, s7⟩, r5, ah⟩ => XH 4 rfl n (fun _ s => jd rfl (jJ (mI.hp _) (r5.mono (kT (fun b o A => s.2 b o (Ml A)))) aZ aD)) (X 5 rfl n (jh c8) (X 6 rfl n (jh rfl) (bS j fun y9 j8 j => XQ 7 rfl n (ky (i := (wi0 .i64 b8)) iZ.out aG aD rfl rfl a5 (jG j8) (jD j8)) (fun bz ⟨_, ⟨y5, rfl, s8⟩, r6, ai⟩ => XH 8 rfl n (fun _ s => jd rfl (jJ (mI.hp _) (r6.mono (kT (fun b o A => s.2 b o (Ml A)))) aZ aD)) (bS j fun cg s1 j => XE 9 rfl (wx (y8, y9) d c6 (jC.refl _) (sU.mk jj jj (iZ.mk ⟨y4, rfl, s7⟩) (iZ.mk ⟨y5, rfl, s8⟩) d.jk) rfl (vk rfl rfl) s1 (fun bh d => ?_))))))))))))
    have n := d.has.jc (Kr Sn)
    refine ⟨n, (X 10 rfl n (lA rfl rfl rfl) (X 11 rfl n (px rfl) (kJ kr (jo (CI j rfl (fun p4 j => ?_) (fun p4 j => ?_))))))⟩
    ·exact jq (Wm (Wi rfl (Wa (jH (jQ (jo ⟨n3, bM _, (wi0 .i64 ((wi0 .i64 b8) + 1)), N, _, (d.jc St), c8, d5, f9, rfl, g0, j⟩))))))
    exact jq (Wm (Wa (jH (jQ (jo ⟨n3, bM _, G, (wi0 .i64 b8), _, (d.jc St), c8, d5, f9, d6, rfl, j⟩)))))
   refine mU (mA (mA (qX (jo (jt (sg (Wh d5 (Wa (ln (CJ j (fun i1 E W => ∃ d3 k8, ST false (keys (c ++ [])) w W U (d3 ++ k8) ∧ kd 30 iZ 5 U t i1 d3) (fun i1 q7 => ?_) ?_))))))))))
   ·refine kW (nm (fun m E W => ∃ e2 d4 Q k9, ST false (keys (c ++ [])) w W U (d4 ++ k9) ∧ E 0 = t ∧ E 14 = (.int .i64 G) ∧ E 17 = (.int .i64 Q) ∧ kd 30 iZ 5 U t e2 d4 ∧ kY G m e2 Q = some i1) jB ⟨a0, c, M, _, (d.jc St), c8, d6, rfl, a5, q7⟩ ?_)
    rintro m E W ⟨e2, d4, Q, k9, d, c9, l8, c1, b6, x⟩
    cases m with
    | zero => rw [kY] at x; cases x
    | succ y3 =>
     refine jt (sg (Wh c1 (Wh l8 (Wi rfl (ln (CI x rfl (fun p5 x => ?_) (fun p5 x => ?_)))))))
     ·refine kn (jt (kW ?_))
      replace d := d.drew
      have n := d.has.jc Sn
      have p := d.has.jc (Kr Sn)
      refine sR 15 n p jK (jR 0 rfl kr (.inl rfl) rfl dc (fun _ _ h => ⟨h.1, kx (by rfl) h.2⟩) ⟨n, fun _ => p⟩ (fun _ _ _ _ => jh c9) (jR 1 rfl kr (.inl rfl) rfl dc (fun _ _ h => ⟨h.1, kx (by rfl) h.2⟩) ⟨n, fun _ => p⟩ (fun _ _ _ _ => jh c1) (jR 2 rfl kr (.inl rfl) rfl dc (fun _ _ h => ⟨h.1, kx (by rfl) h.2⟩) ⟨n, fun _ => p⟩ (fun _ _ _ _ => jh c9) (jR 3 rfl kr (.inl rfl) rfl dc (fun _ _ h => ⟨h.1, kx (by rfl) h.2⟩) ⟨n, fun _ => p⟩ (fun _ _ _ _ => jh c1) (jR 4 rfl kr (.inl rfl) rfl dc (fun _ _ h => ⟨h.1, kx (by rfl) h.2⟩) ⟨n, fun _ => p⟩ (fun _ _ _ _ => lA rfl rfl rfl) (jR 5 rfl kr (.inl rfl) rfl dc (fun _ _ h => ⟨h.1, kx (by rfl) h.2⟩) ⟨n, fun _ => p⟩ (fun _ _ _ _ => jh c9) (jR 6 rfl kr (.inl rfl) rfl dc (fun _ _ h => ⟨h.1, kx (by rfl) h.2⟩) ⟨n, fun _ => p⟩ (fun _ _ _ _ => jh c1) (jR 7 rfl kr (.inl rfl) rfl dc (fun _ _ h => ⟨h.1, kx (by rfl) h.2⟩) ⟨n, fun _ => p⟩ (fun _ _ _ _ => lA rfl rfl rfl) (bS x fun i4 j9 x => sD 8 rfl kr (.inl rfl) rfl dc (fun _ _ h => ⟨h.1, kx (by rfl) h.2⟩) ⟨n, fun _ => p⟩ (ky (i := (wi0 .i64 (Q - 1))) iZ.out aG aD rfl rfl b6 (jG j9) (jD j9)) (fun ca ⟨_, ⟨cp, rfl, i9⟩, r7, aj⟩ => jR 9 rfl kr (.inl rfl) rfl dc (fun _ _ h => ⟨h.1, kx (by rfl) h.2⟩) ⟨n, fun _ => p⟩ (fun l W L hs => have s := (hs.2 (L.Bv 15 [9] kr rfl)); jd rfl (jJ (mI.hp _) (r7.mono (kT (fun b o A => s.2 b o (Ml A)))) aZ aD)) (jR 10 rfl kr (.inl rfl) rfl dc (fun _ _ h => ⟨h.1, kx (by rfl) h.2⟩) ⟨n, fun _ => p⟩ (fun _ _ _ _ => jh c9) (jR 11 rfl kr (.inl rfl) rfl dc (fun _ _ h => ⟨h.1, kx (by rfl) h.2⟩) ⟨n, fun _ => p⟩ (fun _ _ _ _ => jh c1) (bS x fun Z k0 x => ?_)))))))))))))
      refine sD 12 rfl kr (.inl rfl) rfl dc (fun _ _ h => ⟨h.1, kx (by rfl) h.2⟩) ⟨n, fun _ => p⟩ (ky (i := Q) iZ.out aG aD rfl rfl b6 (jG k0) (jD k0)) (fun cb ⟨_, ⟨cq, rfl, j0⟩, r8, ak⟩ => jR 13 rfl kr (.inl rfl) rfl dc (fun _ _ h => ⟨h.1, kx (by rfl) h.2⟩) ⟨n, fun _ => p⟩ (fun l W L hs => have s := (hs.2 (L.Bv 15 [13] kr rfl)); jd rfl (jJ (mI.hp _) (r8.mono (kT (fun b o A => s.2 b o (Ml A)))) aZ aD)) (bS x fun cy f1 x => sD 14 rfl kr (.inl rfl) rfl dc (fun _ _ h => ⟨h.1, kx (by rfl) h.2⟩) ⟨n, fun _ => p⟩ (ky (i := Q) iZ.out aG aD rfl rfl b6 (jG f1) (jD f1)) (fun cc ⟨_, ⟨cr, rfl, av⟩, ap, q4⟩ => ?_)))
      obtain ⟨t9, u8, rfl⟩ := i9.form
      refine XO 15 rfl (pc (x1 := i4) jj d b6 rfl rfl (iZ.mk ⟨(.slice t9 i4.Kids.length u8), rfl, i9⟩) q4 (jD f1) aD (fun bi bd d i6 => ?_))
      have n := d.has.jc Sn
      refine ⟨⟨n, fun h => xI kr h⟩, (bS x fun cz f2 x => sD 16 rfl kr (.inl rfl) rfl dc (fun _ _ h => ⟨h.1, kx (by rfl) h.2⟩) ⟨n, fun h => xI kr h⟩ (ky (i := (wi0 .i64 (Q - 1))) iZ.out aG aD rfl rfl i6 (jG f2) (jD f2)) (fun cd ⟨_, ⟨cs, rfl, aw⟩, aq, q5⟩ => ?_))⟩
      obtain ⟨u0, u9, rfl⟩ := j0.form
      refine XO 17 rfl (pc (x1 := (⟨Z.Op, Z.K, Z.iX, Z.Kids⟩ : Formula)) jj d i6 rfl rfl (iZ.mk ⟨(.slice u0 Z.Kids.length u9), rfl, j0⟩) q5 (jD f2) aD (fun bj u2 d p0 => ?_))
      have n := d.has.jc Sn
      exact ⟨⟨n, fun h => xI kr h⟩, (kJ kr (jQ (jo (jq (Wh c1 (Wi rfl (Wa (ln ⟨y3, bM _, ((e2.set (Int.toNat Q) i4).set (Int.toNat (wi0 .i64 (Q - 1))) (⟨Z.Op, Z.K, Z.iX, Z.Kids⟩ : Formula)), u2, (wi0 .i64 (Q - 1)), _, (d.jc St), c9, l8, rfl, p0, x⟩))))))))⟩
     refine mU (mA (mA (qX (jo ?_))))
     have q := sj x; subst q
     exact ⟨d4, _, (d.jc St), b6⟩
   rintro bs E W ⟨d3, k8, d, s9⟩ q6
   refine kl (lc ?_)
   have q := sj q6; subst q
   exact nh rfl ⟨_, _, _, rfl, (d.lO (Kr Sn)), (jC.refl _), Lo.refl, (ST.kz d (mh.mem (Kr Sn))), d3, rfl, rfl, s9⟩
 let g5 := (IntKind.u64.wrap (wi0 .i64 (z + B)))
 refine kg (Wm (Wm (Wi rfl (V (qJ (k' := .i64) (a := (wi0 .i64 (z + B))) ee eE rfl) (V (EB (a := g5) (b := 1) rfl rfl dc) (V (qJ (k' := .u64) (a := (Int.fdiv g5 (2 ^ min (Int.toNat 1) (IntKind.bits .u64)))) eE ee rfl) (Wa (lr ?_))))))))
 let R := (wi0 .i64 (Int.fdiv g5 (2 ^ min (Int.toNat 1) (IntKind.bits .u64))))
 let e5 := (wi0 .i64 (R + M))
 refine Wm (Wm (Wi rfl (Wa (lr (Wa (Wa (ln (jt (CJ hm (fun i2 E W => ∃ l0, ST false (keys (c ++ [])) w W U (c ++ l0) ∧ E 0 = t ∧ E 1 = (.int .i64 z) ∧ E 2 = (.int .i64 M) ∧ E 3 = (.int .i64 B) ∧ E 4 = D ∧ E 18 = (.int .i64 R) ∧ E 19 = (.int .i64 e5) ∧ E 20 = (.int .i64 i2.1) ∧ E 21 = (.int .i64 i2.2)) (fun i2 b5 => ?_) ?_)))))))))
 ·refine sg (Wm (Wm (Wi rfl (ln (CI b5 rfl (fun q1 b5 => ?_) (fun q1 b5 => ?_))))))
  ·refine sg (Wm (Wm (Wi rfl (Wa (ln (jq (Wm (Wa (ln ?_)))))))))
   have q := sj b5; subst q
   exact ⟨_, (d.jc St), rfl, rfl, rfl, rfl, rfl, rfl, rfl, rfl, rfl⟩
  refine sg (Wm (Wa (ln (jq (Wm (Wa (ln ?_)))))))
  have q := sj b5; subst q
  exact ⟨_, (d.jc St), rfl, rfl, rfl, rfl, rfl, rfl, rfl, rfl, rfl⟩
 rintro ⟨z0, z1⟩ E W ⟨l0, d, v0, v1, v2, v3, v4, v5, l9, v6, v7⟩ q8
 refine sg (Wh l9 (Wi rfl (Wa (ln (jt (kW (nm (fun m E W => ∃ g K l1, ST false (keys (c ++ [])) w W U (c ++ l1) ∧ E 0 = t ∧ E 1 = (.int .i64 z) ∧ E 2 = (.int .i64 M) ∧ E 3 = (.int .i64 B) ∧ E 4 = D ∧ E 18 = (.int .i64 R) ∧ E 19 = (.int .i64 e5) ∧ E 20 = (.int .i64 g) ∧ E 21 = (.int .i64 K) ∧ E 22 = (.int .i64 (wi0 .i64 (e5 - 1))) ∧ jI a0 z B M f4 t6 m g K = some r) jB ⟨z0, z1, _, (d.jc St), v0, v1, v2, v3, v4, v5, l9, v6, v7, rfl, q8⟩ ?_)))))))
 rintro m E W ⟨g, K, l1, d, c2, d7, c3, d8, d0, d9, g1, b1, g2, g3, k⟩
 let g6 := (IntKind.u64.wrap (wi0 .i64 (g + K)))
 let a3 := (Int.fdiv g6 (2 ^ min (Int.toNat 1) (IntKind.bits .u64)))
 let j2 := (wi0 .i64 a3)
 let a2 := (wi0 .i64 (e5 - g))
 cases m with
 | zero => rw [jI] at k; cases k
 | succ n4 =>
  refine jt (sg (Wh b1 (Wh g2 (Wi rfl (ln (CI k rfl (fun p6 k => ?_) (fun p6 k => ?_)))))))
  ·refine kn (bg (Wh b1 (Wh g2 (Wi rfl (V (qJ (k' := .i64) (a := (wi0 .i64 (g + K))) ee eE rfl) (V (EB (a := g6) (b := 1) rfl rfl dc) (V (qJ (k' := .u64) (a := (Int.fdiv g6 (2 ^ min (Int.toNat 1) (IntKind.bits .u64)))) eE ee rfl) (Wa (ln (jt ?_))))))))))
   replace d := d.drew
   have n := d.has.jc (Kr Sn)
   refine kC n jK (X 0 rfl n (jh d0) (X 1 rfl n (jh c2) (X 2 rfl n (jh g3) (X 3 rfl n (jh rfl) (X 4 rfl n (lA rfl rfl rfl) (bS k fun z2 k1 k => XQ 5 rfl n (ky (i := (wi0 .i64 ((wi0 .i64 (e5 - 1)) - j2))) iZ.out aG aD rfl rfl a5 (jG k1) (jD k1)) (fun ce ⟨_, ⟨y6, rfl, t0⟩, r9, al⟩ => XH 6 rfl n (fun _ s => jd rfl (jJ (mI.hp _) (r9.mono (kT (fun b o A => s.2 b o (Ml A)))) aZ aD)) (X 7 rfl n (jh c2) (X 8 rfl n (jh rfl) (bS k fun z3 k2 k => XQ 9 rfl n (ky (i := (wi0 .i64 a3)) iZ.out aG aD rfl rfl a5 (jG k2) (jD k2)) (fun cf ⟨_, ⟨y7, rfl, t1⟩, s0, am⟩ => XH 10 rfl n (fun _ s => jd rfl (jJ (mI.hp _) (s0.mono (kT (fun b o A => s.2 b o (Ml A)))) aZ aD)) (bS k fun ch s2 k => ?_))))))))))))
   refine XE 11 rfl (wx (z2, z3) d c6 (jC.refl _) (sU.mk jj jj (iZ.mk ⟨y6, rfl, t0⟩) (iZ.mk ⟨y7, rfl, t1⟩) d.jk) rfl (vk rfl rfl) s2 (fun bk d => ?_))
   have n := d.has.jc (Kr Sn)
   refine ⟨n, (X 12 rfl n (lA rfl rfl rfl) (X 13 rfl n (px rfl) (kJ kr (jo (CI k rfl (fun p7 k => ?_) (fun p7 k => ?_))))))⟩
   ·exact jq (Wm (Wi rfl (Wa (jH (jQ (jo ⟨n4, bM _, (wi0 .i64 (j2 + 1)), K, _, (d.jc St), c2, d7, c3, d8, d0, d9, g1, rfl, g2, g3, k⟩))))))
   exact jq (Wm (Wa (jH (jQ (jo ⟨n4, bM _, g, j2, _, (d.jc St), c2, d7, c3, d8, d0, d9, g1, b1, rfl, g3, k⟩)))))
  refine mU (mA (mA (qX (jo (sg (Wh g1 (Wh b1 (Wi rfl (Wa (ln (jt (CJ k (fun n8 E W => ∃ b7 a4 l2, jC U a4 ∧ Lo (keys (c ++ [])) w U a4 ∧ ST false (keys (c ++ [])) w W a4 (b7 ++ l2) ∧ E 0 = t ∧ E 1 = (.int .i64 z) ∧ E 3 = (.int .i64 B) ∧ E 4 = D ∧ E 18 = (.int .i64 R) ∧ E 20 = (.int .i64 g) ∧ E 24 = (.int .i64 a2) ∧ kd 30 iZ 5 a4 t n8 b7) (fun n8 r2 => ?_) ?_))))))))))))
  ·refine sg (Wh b1 (Wh c3 (Wi rfl (Wm (LJ r2 (fun n9 E W => ∃ l6, ST false (keys (c ++ [])) w W U (c ++ l6) ∧ E 0 = t ∧ E 1 = (.int .i64 z) ∧ E 2 = (.int .i64 M) ∧ E 3 = (.int .i64 B) ∧ E 4 = D ∧ E 18 = (.int .i64 R) ∧ E 20 = (.int .i64 g) ∧ E 24 = (.int .i64 a2) ∧ E 185 = (.bool n9)) 4 ?_ (fun n9 b4 f6 => ?_))))))
   ·rintro de E W ⟨l6, d, h4, m8, w7, m9, h5, n0, h6, h7, w8⟩ a8
    refine ln (CI a8 w8 (fun q0 a8 => ?_) (fun q0 a8 => ?_))
    ·refine jq (Wh h4 (Wh h6 (Wh w7 (Wh h7 (Wh h5 (bS a8 fun ck s5 a8 => ?_))))))
     refine VE (eD d (Cr Qz Cn) call389 (fun hh => lj.lI (vX t a0 c g M a2 D f4 _ _ hh a5 (c6.mono (jC.refl _)) s5)) ?_)
     rintro _ cv z5 ba d o2 bl ⟨u5, e8, rfl, t4⟩
     obtain rfl := e8.symm
     replace d := d.perm (Tr Tn)
     refine ln ?_
     have q := sj a8; subst q
     exact ⟨u5, z5, _, o2, bl, (d.jc St), h4, m8, m9, h5, n0, h6, h7, t4⟩
    refine kn ?_
    have q := sj a8; subst q
    exact ⟨c, U, _, (jC.refl _), Lo.refl, (d.jc St), h4, m8, m9, h5, n0, h6, h7, a5⟩
   refine bC b4 (fun J b4 => ?_) (fun J b4 => ?_)
   ·refine ug J (jh c3) (ug J (jh rfl) (ug J (lA rfl rfl rfl) (V (jW (cB J) rfl) ?_)))
    have q := sj b4; subst q
    exact f6 _ _ ⟨_, (d.jc St), c2, d7, c3, d8, d0, d9, b1, rfl, rfl⟩
   refine un J (un J (un J (V (jY (cB J) rfl) ?_)))
   have q := sj b4; subst q
   exact f6 _ _ ⟨_, (d.jc St), c2, d7, c3, d8, d0, d9, b1, rfl, rfl⟩
  rintro y0 E W ⟨b7, a4, l2, c4, O, d, m0, g4, m1, m2, g7, e0, m3, j3⟩ q9
  refine jt (CJ q9 (fun n6 E W => ∃ b9 c5 l3, jC a4 c5 ∧ Lo (keys (c ++ [])) w a4 c5 ∧ ST false (keys (c ++ [])) w W c5 (b9 ++ l3) ∧ E 0 = t ∧ E 3 = (.int .i64 B) ∧ E 4 = D ∧ E 18 = (.int .i64 R) ∧ E 24 = (.int .i64 a2) ∧ kd 30 iZ 5 c5 t n6 b9) (fun n6 r1 => ?_) ?_)
  ·refine sg (Wh g4 (Wh e0 (Wi rfl (Wm (LJ r1 (fun n7 E W => ∃ l5, ST false (keys (c ++ [])) w W a4 (b7 ++ l5) ∧ E 0 = t ∧ E 1 = (.int .i64 z) ∧ E 3 = (.int .i64 B) ∧ E 4 = D ∧ E 18 = (.int .i64 R) ∧ E 20 = (.int .i64 g) ∧ E 24 = (.int .i64 a2) ∧ E 199 = (.bool n7)) 4 ?_ (fun n7 b3 f5 => ?_))))))
   ·rintro db E W ⟨l5, d, h1, w4, m6, h2, h3, w5, m7, w6⟩ a7
    refine ln (CI a7 w6 (fun p9 a7 => ?_) (fun p9 a7 => ?_))
    ·refine jq (Wh h1 (Wh w4 (Wh w5 (Wh h3 (Wh h2 (bS a7 fun cj s4 a7 => ?_))))))
     refine VE (eD d (Cr Qz Cn) call384 (fun hh => (s6 t y0 b7 z g R D f4 _ _ hh j3 (c6.mono c4) s4)) ?_)
     rintro _ cu z4 az d o1 aE ⟨u4, e7, rfl, t3⟩
     obtain rfl := e7.symm
     replace d := d.perm (Tr Tn)
     refine ln ?_
     have q := sj a7; subst q
     exact ⟨u4, z4, _, o1, aE, (d.jc St), h1, m6, h2, h3, m7, t3⟩
    refine kn ?_
    have q := sj a7; subst q
    exact ⟨b7, a4, _, (jC.refl _), Lo.refl, (d.jc St), h1, m6, h2, h3, m7, j3⟩
   refine bC b3 (fun I b3 => ?_) (fun I b3 => ?_)
   ·refine ug I (jh e0) (ug I (jh g7) (ug I (lA rfl rfl rfl) (V (jW (cB I) rfl) ?_)))
    have q := sj b3; subst q
    exact f5 _ _ ⟨_, (d.jc St), m0, g4, m1, m2, g7, e0, m3, rfl⟩
   refine un I (un I (un I (V (jY (cB I) rfl) ?_)))
   have q := sj b3; subst q
   exact f5 _ _ ⟨_, (d.jc St), m0, g4, m1, m2, g7, e0, m3, rfl⟩
  rintro y1 E W ⟨b9, c5, l3, d2, P, d, m4, g8, m5, g9, e1, j4⟩ r0
  refine sg (Wh g9 (Wh e1 (Wi rfl (Wm (LJ r0 (fun n5 E W => ∃ l4, ST false (keys (c ++ [])) w W c5 (b9 ++ l4) ∧ E 0 = t ∧ E 3 = (.int .i64 B) ∧ E 4 = D ∧ E 18 = (.int .i64 R) ∧ E 24 = (.int .i64 a2) ∧ E 213 = (.bool n5)) 4 ?_ (fun n5 b2 f3 => ?_))))))
  ·rintro da E W ⟨l4, d, v8, v9, w0, w1, w2, w3⟩ a6
   refine ln (CI a6 w3 (fun p8 a6 => ?_) (fun p8 a6 => ?_))
   ·refine jq (Wh v8 (Wh w1 (Wh w2 (Wh v9 (Wh w0 (bS a6 fun ci s3 a6 => ?_))))))
    refine VE (eD d (Cr Qz Cn) call384 (fun hh => (s6 t y1 b9 R a2 B D f4 _ _ hh j4 (c6.mono (c4.trans d2)) s3)) ?_)
    rintro _ ct df ay d o0 ad ⟨u3, e6, rfl, t2⟩
    obtain rfl := e6.symm
    replace d := d.perm (Tr Tn)
    refine jH (nY ?_)
    have q := sj a6; subst q
    exact nh rfl ⟨_, _, _, rfl, (d.lO (Kr Sn)), ((c4.trans d2).trans o0), ((O.trans P).trans ad), (ST.kz d (mh.mem (Kr Sn))), u3, rfl, rfl, t2⟩
   refine kX (nY ?_)
   have q := sj a6; subst q
   exact nh rfl ⟨_, _, _, rfl, (d.lO (Kr Sn)), (c4.trans d2), (O.trans P), (ST.kz d (mh.mem (Kr Sn))), b9, rfl, rfl, j4⟩
  refine bC b2 (fun H b2 => ?_) (fun H b2 => ?_)
  ·refine ug H (jh e1) (ug H (jh g8) (ug H (lA rfl rfl rfl) (V (jW (cB H) rfl) ?_)))
   have q := sj b2; subst q
   exact f3 _ _ ⟨_, (d.jc St), m4, g8, m5, g9, e1, rfl⟩
  refine un H (un H (un H (V (jY (cB H) rfl) ?_)))
  have q := sj b2; subst q
  exact f3 _ _ ⟨_, (d.jc St), m4, g8, m5, g9, e1, rfl⟩
theorem oK : ∀ (n : Nat) (c : Value) (k : List Formula) (a : LO) (t : Int) (u : Int) (x : Int) (g : Value) (y : (Formula × Formula) → Option Int) (r : List Formula) (w : World) {i : jx} (H : nf i (a ++ []) w) (B : kd 30 iZ 5 i c k a) (D : uW pg0 g i (sU iZ iZ) (fun (r : Int) => (.int .i64 r)) y) (_ : kj n k t u x y = some r),
  lj false pg0 384 [c, (.int .i64 t), (.int .i64 u), (.int .i64 x), g] w i (a ++ []) (fun v z G => ∃ j, v = (.tuple #[]) ∧ z = (j ++ []) ∧ kd 30 iZ 5 G c r j)
 | 0 => by intros; rename_i h; simp only [kj] at h; cases h
 | n + 1 => tS (kj n) (oK n)
theorem vV (a : Value) (a0 : List Formula) (c : LO) (Q : Int) (x : Value) (f2 : (Formula × Formula) → Option Int) (r : List Formula) (w : World) {μ0 : jx} (h0 : nf μ0 (c ++ []) w) (k4 : kd 30 iZ 5 μ0 a a0 c) (c7 : uW pg0 x μ0 (sU iZ iZ) (fun (r : Int) => (.int .i64 r)) f2) (hm : pe a0 Q f2 = some r) :
  lj false pg0 375 [a, (.int .i64 Q), x] w μ0 (c ++ []) (fun v L1 μ1 => ∃ S1, v = (.tuple #[]) ∧ L1 = (S1 ++ []) ∧ kd 30 iZ 5 μ1 a r S1) := by
 refine ud h0 63 func375 rfl (fun b => sg (Wa (lr (Wm (Wa (Wa (ln (jt (kW (nm (fun m E W => ∃ d4 d0 d5 P d6 f1, jC μ0 d6 ∧ Lo (keys (c ++ [])) w μ0 d6 ∧ ST false (keys (c ++ [])) w W d6 (d0 ++ f1) ∧ E 0 = a ∧ E 1 = (.int .i64 Q) ∧ E 2 = x ∧ E 6 = (.int .i64 20) ∧ E 7 = (.int .i64 d5) ∧ E 8 = (.int .i64 P) ∧ kd 30 iZ 5 d6 a d4 d0 ∧ kK Q f2 m d4 d5 P = some r) jB ⟨a0, c, 0, 20, μ0, _, (jC.refl _), Lo.refl, (b.jc St), rfl, rfl, rfl, rfl, rfl, rfl, k4, hm⟩ ?_))))))))))
 rintro m E W ⟨d4, d0, d5, P, d6, f1, z, l, b, b4, b5, b6, d7, f4, b7, h1, i⟩
 cases m with
 | zero => rw [kK] at i; cases i
 | succ k5 =>
  refine jt (sg (Wh b7 (Wh b5 (Wi rfl (ln (CI i rfl (fun i4 i => ?_) (fun i4 i => ?_)))))))
  ·refine kn (bg (Wh b4 (Wh f4 (Wh b7 (Wh b6 (bS i fun k6 i7 i => ?_))))))
   refine VE (eD b (Cr Qz Cn) call383 (fun s => (pV a d4 d0 d5 P x f2 _ _ s h1 (c7.mono z) i7)) ?_)
   rintro _ m4 k8 l8 b g0 A ⟨k1, c8, rfl, j0⟩
   obtain rfl := c8.symm
   replace b := b.perm (Tr Tn)
   refine lr (Wh b7 (Wa (ln (jq (Wh b7 (Wh d7 (Wi rfl (Wa (jH (jQ ?_))))))))))
   exact jo ⟨k5, bM _, k6, k1, P, (wi0 .i64 (P + 20)), k8, _, (z.trans g0), (l.trans A), (b.jc St), b4, b5, b6, d7, rfl, rfl, j0, i⟩
  refine mU (mA (mA (qX (jo (sg (Wh b4 (Wh f4 (Wh b5 (Wh b6 (bS i fun k7 i8 i => ?_))))))))))
  refine VE (eD b (Cr Qz Cn) call383 (fun s => (pV a d4 d0 d5 Q x f2 _ _ s h1 (c7.mono z) i8)) ?_)
  rintro _ m5 R l9 b a5 L ⟨k2, c9, rfl, j3⟩
  obtain rfl := c9.symm
  replace b := b.perm (Tr Tn)
  refine ln (tu (CJ i (fun d8 E W => ∃ b2 a9 f3, jC R a9 ∧ Lo (keys (c ++ [])) w R a9 ∧ ST false (keys (c ++ [])) w W a9 (b2 ++ f3) ∧ kd 30 iZ 5 a9 a d8 b2) (fun d8 i6 => ?_) ?_))
  ·refine kW (nm (fun m E W => ∃ a2 I j k e0, jC R k ∧ Lo (keys (c ++ [])) w R k ∧ ST false (keys (c ++ [])) w W k (I ++ e0) ∧ E 0 = a ∧ E 1 = (.int .i64 Q) ∧ E 2 = x ∧ E 6 = (.int .i64 j) ∧ kd 30 iZ 5 k a a2 I ∧ kM Q f2 m a2 j = some d8) jB ⟨k7, k2, 20, R, _, (jC.refl _), Lo.refl, (b.jc St), b4, b5, b6, d7, j3, i6⟩ ?_)
   rintro m E W ⟨a2, I, j, k, e0, B, d, b, h6, e4, h7, b3, d1, t⟩
   cases m with
   | zero => rw [kM] at t; cases t
   | succ j6 =>
    refine jt (sg (Wh b3 (Wh e4 (Wi rfl (ln (CI t rfl (fun f7 t => ?_) (fun f7 t => ?_)))))))
    ·refine kn (bg (Wh b3 (Wi rfl (Wa (Wa (ln (jt (CJ t (fun a4 E W => ∃ J y e1, jC k y ∧ Lo (keys (c ++ [])) w k y ∧ ST false (keys (c ++ [])) w W y (J ++ e1) ∧ E 0 = a ∧ E 1 = (.int .i64 Q) ∧ E 2 = x ∧ E 6 = (.int .i64 j) ∧ E 7 = (.int .i64 a4.2) ∧ kd 30 iZ 5 y a a4.1 J) (fun a4 g4 => ?_) ?_))))))))
     ·refine kW (nm (fun m E W => ∃ a3 K M D H e3, jC k H ∧ Lo (keys (c ++ [])) w k H ∧ ST false (keys (c ++ [])) w W H (K ++ e3) ∧ E 0 = a ∧ E 1 = (.int .i64 Q) ∧ E 2 = x ∧ E 6 = (.int .i64 j) ∧ E 7 = (.int .i64 M) ∧ E 8 = (.int .i64 D) ∧ kd 30 iZ 5 H a a3 K ∧ lz Q j f2 m a3 M D = some a4) jB ⟨a2, I, 0, (wi0 .i64 (2 * j)), k, _, (jC.refl _), Lo.refl, (b.jc St), h6, e4, h7, b3, rfl, rfl, d1, g4⟩ ?_)
      rintro m E W ⟨a3, K, M, D, H, e3, N, h, b, c2, c3, c4, Y, c5, Z, d3, g⟩
      cases m with
      | zero => rw [lz] at g; cases g
      | succ j7 =>
       refine jt (sg (Wh Z (Wh c3 (Wi rfl (ln (CI g rfl (fun f9 g => ?_) (fun f9 g => ?_)))))))
       ·refine kn (bg (Wh c2 (Wh c5 (Wh c5 (Wh Y (Wi rfl (Wh Z (Wh c4 (bS g fun j8 g8 g => ?_)))))))))
        refine VE (eD b (Cr Qz Cn) call384 (fun s => ((oK jB) a a3 K M (wi0 .i64 (M + j)) D x f2 _ _ s d3 (c7.mono (((z.trans a5).trans B).trans N)) g8)) ?_)
        rintro _ l6 k0 l1 b f0 q ⟨h5, a7, rfl, h3⟩
        obtain rfl := a7.symm
        replace b := b.perm (Tr Tn)
        refine lr (Wh Z (Wa (ln (jq (Wh Z (Wh Y (Wi rfl (Wi rfl (Wa (jH ?_))))))))))
        exact jQ (jo ⟨j7, bM _, j8, h5, D, (wi0 .i64 (D + (wi0 .i64 (2 * j)))), k0, _, (N.trans f0), (h.trans q), (b.jc St), c2, c3, c4, Y, rfl, rfl, h3, g⟩)
       refine mU (mA (mA (qX (jo ?_))))
       obtain rfl := sj g
       exact ⟨K, H, _, N, h, (b.jc St), c2, c3, c4, Y, c5, d3⟩
     rintro ⟨j4, e7⟩ E W ⟨J, y, e1, b0, n, b, b9, U, c0, c1, e5, d2⟩ g2
     refine jt (CJ g2 (fun e6 E W => ∃ T G e2, jC y G ∧ Lo (keys (c ++ [])) w y G ∧ ST false (keys (c ++ [])) w W G (T ++ e2) ∧ E 0 = a ∧ E 1 = (.int .i64 Q) ∧ E 2 = x ∧ E 6 = (.int .i64 j) ∧ kd 30 iZ 5 G a e6 T) (fun e6 u => ?_) ?_)
     ·refine sg (Wh e5 (Wh c1 (Wi rfl (Wa (lr (Wm (Wh U (Wi rfl (ln ?_)))))))))
      refine CI u rfl (fun f8 u => ?_) (fun f8 u => ?_)
      ·refine jq (Wh b9 (Wh e5 (Wm (Wh U (Wh c0 (bS u fun l4 g7 u => ?_))))))
       refine VE (eD b (Cr Qz Cn) call384 (fun s => ((oK jB) a j4 J e7 (wi0 .i64 (e7 + j)) Q x f2 _ _ s d2 (c7.mono (((z.trans a5).trans B).trans b0)) g7)) ?_)
       rintro _ l5 j9 l0 b e9 p ⟨h4, a6, rfl, h2⟩
       obtain rfl := a6.symm
       replace b := b.perm (Tr Tn)
       refine ln ?_
       obtain rfl := sj u
       exact ⟨h4, j9, _, e9, p, (b.jc St), b9, U, c0, c1, h2⟩
      refine kn ?_
      obtain rfl := sj u
      exact ⟨J, y, _, (jC.refl _), Lo.refl, (b.jc St), b9, U, c0, c1, d2⟩
     rintro j5 E W ⟨T, G, e2, e8, o, b, h8, h9, i0, i1, g9⟩ g3
     exact jq (Wh i1 (Wi rfl (Wa (jH (jQ (jo ⟨j6, bM _, j5, T, (wi0 .i64 (j * 2)), G, _, ((B.trans b0).trans e8), ((d.trans n).trans o), (b.jc St), h8, h9, i0, rfl, g9, g3⟩))))))
    refine mU (mA (mA (qX (jo ?_))))
    obtain rfl := sj t
    exact ⟨I, k, _, B, d, (b.jc St), d1⟩
  rintro m3 E W ⟨b2, a9, f3, g1, O, b, i9⟩ i5
  refine nY ?_
  obtain rfl := sj i5
  exact nh rfl ⟨_, _, _, rfl, (b.lO (Kr Sn)), ((z.trans a5).trans g1), ((l.trans L).trans O), (ST.kz b (mh.mem (Kr Sn))), b2, rfl, rfl, i9⟩
theorem vQ (c : Value) (k : List Formula) (a : LO) (i : Value) (u : (Formula × Formula) → Option Int) (r : List Formula) (w : World) {t : jx} (J : nf t (a ++ []) w) (j : kd 30 iZ 5 t c k a) (x : uW pg0 i t (sU iZ iZ) (fun (r : Int) => (.int .i64 r)) u) (hm : nx k u = some r) :
  lj false pg0 352 [c, i] w t (a ++ []) (fun v I K => ∃ B, v = (.tuple #[]) ∧ I = (B ++ []) ∧ kd 30 iZ 5 K c r B) := by
 refine ud J 9 func352 rfl (fun b => jq (Wm (Wm (V (vP aG rfl j) (Wm (bS hm fun Q H hm => ?_))))))
 refine VE (eD b (Cr Qz Cn) call375 (fun h => (vV c k a (k.length : Int) i u _ _ h j (x.mono (jC.refl _)) H)) ?_)
 rintro _ T U M b y d ⟨D, g, rfl, z⟩
 obtain rfl := g.symm
 replace b := b.perm (Tr Tn)
 refine jH (nY ?_)
 obtain rfl := sj hm
 exact nh rfl ⟨_, _, _, rfl, (b.lO (Kr Sn)), y, d, (ST.kz b (mh.mem (Kr Sn))), D, rfl, rfl, z⟩
theorem pK (t : Nat) (j : Value) (G : List Int) (i : LO) (h : Int) (r : (Bool × (List Int))) (w : World) {μ0 : jx} (s : nf μ0 ((t, Ob #[j] 215) :: (i ++ [])) w) (y : jw 5 (jN .u8) 1 j G i) (hm : mQ G h = some r) :
  kw true pg0 170 [(.pointer (some ⟨t, 0, none⟩)), (.int .i64 h)] w ((t, Ob #[j] 215) :: (i ++ [])) (fun v L1 W' => ∃ n S2, v = (.bool (r.1)) ∧ L1 = ((t, Ob #[n] 215) :: (S2 ++ [])) ∧ jw 5 (jN .u8) 1 n r.2 S2) := by
 refine xW s 38 func170 rfl (fun d => sg (Wa (lS (Wm (V (rO fD rfl rfl) (Wm (Vg rfl rfl (jh rfl) (Vg rfl rfl (lA rfl rfl rfl) (V (jY rfl rfl) ?_)))))))))
 refine ln (CI hm rfl (fun a9 hm => ?_) (fun a9 hm => ?_))
 ·refine sg (Wa (lt (lc ?_)))
  obtain rfl := sj hm
  exact kv (v := (.bool false)) rfl rfl ⟨_, _, rfl, (d.lO (Kb (Kr Sn))), j, i, rfl, rfl, y⟩
 refine kn (jt (kW (nm (fun m E W => ∃ c z U u a0, ST true (keys ((t, Ob #[j] 215) :: (i ++ []))) w W μ0 ((t, Ob #[z] 215) :: (u ++ a0)) ∧ E 0 = (.pointer (some ⟨t, 0, none⟩)) ∧ E 1 = (.int .i64 c) ∧ jw 5 (jN .u8) 1 z U u ∧ ov m c U = some r) jB ⟨h, j, G, i, _, (d.jc St), rfl, rfl, y, hm⟩ ?_)))
 rintro m E W ⟨c, z, U, u, a0, d, x, K, T, g⟩
 cases m with
 | zero => rw [ov] at g; cases g
 | succ q =>
  refine jt (sg (Wh K (Wi rfl (ln (CI g rfl (fun o g => ?_) (fun o g => ?_))))))
  ·refine kn (jt (kW (jq (Wh x (Wh x (Wn (Wf wX (VB d Mh rfl rfl iW (Wh K (V (qJ (k' := .i64) (a := c) ee iQ rfl) (V (Pj (k := .u8) (a := (IntKind.u8.wrap c)) (b := 128) (v := (.int .u8 (IntKind.u8.wrap (BitVec.ofInt (IntKind.bits .u8) (IntKind.u8.wrap c) ||| BitVec.ofInt (IntKind.bits .u8) 128).toNat))) rfl rfl dc rfl) (VE (km (cs := [(.int .u8 (IntKind.u8.wrap (BitVec.ofInt (IntKind.bits .u8) (IntKind.u8.wrap c) ||| BitVec.ofInt (IntKind.bits .u8) 128).toNat))].toArray) d (mH rfl) (nI dv sizeOf5 zeroValue5) (fun c3 p d => ?_))))))))))))))
   replace d := d.perm (Nr (Qb (Qb Qz)) Nz)
   refine bS g fun Q Y g => VE (nL (enc := (jN .u8)) (v := z) (vs := (.slice (some ⟨p, 0, none⟩) 1 1)) (R := u) d (fun _ => rfl) dc (Cw _) dv se.1 se.2.1 rfl se.2.2.1 se.2.2.2 rfl rfl T (Sl.lit (enc := (jN .u8)) (l := [(IntKind.u8.wrap (BitVec.ofInt (IntKind.bits .u8) (IntKind.u8.wrap c) ||| BitVec.ofInt (IntKind.bits .u8) 128).toNat)]) (fun _ => rfl) rfl nb rfl (d.at_ (Ma Mh))) Y (fun A c1 a2 d M => Wn (Wf wX ?_)))
   obtain ⟨B, H, rfl⟩ := M.form
   replace d := d.perm (Nb (Pr (Pb Pz)) Nz)
   refine VO (jz (.slice B Q.length H) (#[(.slice B Q.length H)]) d rfl rfl iP oc nb rfl (fun L d => jH (jQ (jo ?_))))
   replace d := d.jc (Kb (Kr (Db St)))
   exact jq (Wh K (V (EB (a := c) (b := 7) rfl rfl dc) (Wa (ln ⟨q, bM _, (Int.fdiv c (2 ^ min (Int.toNat 7) (IntKind.bits .i64))), (.slice B Q.length H), Q, a2, _, (d.jc St), x, rfl, M, g⟩))))
  refine mU (mA (mA (qX (jo (sg (Wh x (Wh x (Wn (Wf wX (VB d Mh rfl rfl iW (Wh K (V (qJ (k' := .i64) (a := c) ee iQ rfl) (VE (km (cs := [(.int .u8 (IntKind.u8.wrap c))].toArray) d (mH rfl) (nI dv sizeOf5 zeroValue5) (fun O a5 d => ?_)))))))))))))))
  replace d := d.perm (Nr (Qb (Qb Qz)) Nz)
  refine bS g fun J Z g => VE (nL (enc := (jN .u8)) (v := z) (vs := (.slice (some ⟨a5, 0, none⟩) 1 1)) (R := u) d (fun _ => rfl) dc (Cw _) dv se.1 se.2.1 rfl se.2.2.1 se.2.2.2 rfl rfl T (Sl.lit (enc := (jN .u8)) (l := [(IntKind.u8.wrap c)]) (fun _ => rfl) rfl nb rfl (d.at_ (Ma Mh))) Z (fun P c2 a3 d N => Wn (Wf wX ?_)))
  obtain ⟨D, I, rfl⟩ := N.form
  replace d := d.perm (Nb (Pr (Pb Pz)) Nz)
  refine VO (jz (.slice D J.length I) (#[(.slice D J.length I)]) d rfl rfl iP oc nb rfl (fun b9 d => ln ?_))
  replace d := d.jc (Kb (Kr (Db St)))
  refine sg (Wa (lt ?_))
  obtain rfl := sj g
  exact kv (v := (.bool true)) rfl rfl ⟨_, _, rfl, (d.lO (Kb (Kr Sn))), (.slice D J.length I), a3, rfl, rfl, N⟩
theorem CR (g : Nat) (c : Value) (j : List Int) (a : LO) (u : Value) (D : List Int) (r : (Bool × (List Int))) (w : World) {Z : jx} (h : nf Z ((g, Ob #[c] 215) :: (a ++ [])) w) (i : jw 5 (jN .u8) 1 c j a) (k : Sl (Pl (jN .u8)) 1 Z u D) (hm : uN j D = some r) :
  kw true pg0 171 [(.pointer (some ⟨g, 0, none⟩)), u] w ((g, Ob #[c] 215) :: (a ++ [])) (fun v L1 W' => ∃ U M, v = (.bool (r.1)) ∧ L1 = ((g, Ob #[U] 215) :: (M ++ [])) ∧ jw 5 (jN .u8) 1 U r.2 M) := by
 refine xW h 25 func171 rfl (fun b => sg (Wa (lS (Wm (V (rO fD rfl rfl) (Wm (Vg rfl rfl (jh rfl) (Vg rfl rfl (lT dv rfl k) (Vg rfl rfl (lA rfl rfl rfl) ?_)))))))))
 refine V (jY rfl rfl) (ln (CI hm rfl (fun Q hm => ?_) (fun Q hm => ?_)))
 ·refine sg (Wa (lt (lc ?_)))
  obtain rfl := sj hm
  exact kv (v := (.bool false)) rfl rfl ⟨_, _, rfl, (b.lO (Kb (Kr Sn))), c, a, rfl, rfl, i⟩
 refine kg (Wm (Wm (V (lT dv rfl k) (bS hm fun p T hm => ?_))))
 refine VE (eM b (Cb Pz (Cr Qz Cn)) call170 (fun l _ => (pK g c j a (D.length : Int) _ _ l i T)) ?_)
 rintro _ v8 n a3 b H m d ⟨Y, K, t, rfl, I⟩
 obtain rfl := t.symm
 replace b := b.perm (Tb (Tr Tn))
 refine lr (Wm (Wm (Wn (Wf wX (VB b Mh rfl rfl iW (Wm ?_))))))
 replace b := b.perm (Nr (Qb Qz) Nz)
 refine bS hm fun B G hm => VE (nL (enc := (jN .u8)) (v := Y) (vs := u) (R := K) b (fun _ => rfl) dc (Cw _) dv se.1 se.2.1 rfl se.2.2.1 se.2.2.2 rfl rfl I (k.mono (Pl.mono _) (H.trans b.jk)) G (fun a4 o J b z => Wn (Wf wX ?_)))
 obtain ⟨x, y, rfl⟩ := z.form
 replace b := b.perm (Nb (Pr Pz) Nz)
 refine VO (jz (.slice x B.length y) (#[(.slice x B.length y)]) b rfl rfl iP oc nb rfl (fun a5 b => lr (Wa (lt ?_))))
 obtain rfl := sj hm
 exact kv (v := (.bool true)) rfl rfl ⟨_, _, rfl, (b.lO (Kb (Kr Sn))), (.slice x B.length y), J, rfl, rfl, z⟩
theorem we (j : Nat) (c : Value) (t : List Int) (a : LO) (J : ByteArray) (r : (Bool × (List Int))) (w : World) {Z : jx} (s : nf Z ((j, Ob #[c] 215) :: (a ++ [])) w) (k : jw 5 (jN .u8) 1 c t a) (hm : qV t J = some r) :
  kw true pg0 213 [(.pointer (some ⟨j, 0, none⟩)), (.string J)] w ((j, Ob #[c] 215) :: (a ++ [])) (fun v L1 W' => ∃ n S2, v = (.bool (r.1)) ∧ L1 = ((j, Ob #[n] 215) :: (S2 ++ [])) ∧ jw 5 (jN .u8) 1 n r.2 S2) := by
 refine xW s 17 func213 rfl (fun b => sg (Wa (lr (Wm (V (Bg fD rfl rfl) (Wm (Vg rfl rfl (jh rfl) (bS hm fun r1 a4 hm => Kh rfl rfl (Eg b call93 (tU J _ _  a4) (fun W3 b => V (jW rfl rfl) ?_))))))))))
 refine Wm (LJ hm (fun B E W => ∃ z x D I, jC Z D ∧ ST true (keys ((j, Ob #[c] 215) :: (a ++ []))) w W D ((j, Ob #[z] 215) :: (x ++ I)) ∧ E 4 = (.bool false) ∧ E 16 = (.bool B.1) ∧ jw 5 (jN .u8) 1 z B.2 x) 5 ?_ (fun B g y => ?_))
 ·rintro ⟨p, c0⟩ E W ⟨z, x, D, I, L, b, b9, a3, T⟩ M
  refine Wg a3 (lt ?_)
  obtain rfl := sj M
  exact kv (v := (.bool p)) rfl rfl ⟨_, _, rfl, (b.lO (Kb (Kr Sn))), z, x, rfl, rfl, T⟩
 refine bC g (fun i g => ?_) (fun i g => ?_)
 ·refine ug i (jh rfl) (ug i (jh rfl) (bS g fun a5 N g => uG i (FN b dH dv iQ rfl N (fun R o c3 b G l U O => bS g fun c1 Q g => ?_))))
  refine uG i (eM b (Cb Pz (Cr Qz Cn)) call171 (fun A h => (CR j c t a o a5 _ _ A k (U.mono (Pl.mono _) h) Q)) ?_)
  rintro _ c2 q P b H m d ⟨a9, a2, u, rfl, Y⟩
  obtain rfl := u.symm
  replace b := b.perm (Tb (Tr Tn))
  refine V (jW (cB i) rfl) ?_
  obtain rfl := sj g
  exact y _ _ ⟨a9, a2, q, _, (G.trans H), (b.jc St), rfl, rfl, Y⟩
 refine un i (un i (un i (un i (V (jY (cB i) rfl) ?_))))
 obtain rfl := sj g
 exact y _ _ ⟨c, a, Z, _, (jC.refl _), (b.jc St), rfl, rfl, k⟩
theorem sG (c : Nat) (i : Value) (D : List Int) (a : LO) (x : iX) (r : (Bool × (List Int))) (w : World) {μ0 : jx} (h0 : nf μ0 ((c, Ob #[i] 215) :: (a ++ [])) w) (y : jw 5 (jN .u8) 1 i D a) (hm : ox D x = some r) :
  kw true pg0 212 [(.pointer (some ⟨c, 0, none⟩)), (.agg (jf x).toArray)] w ((c, Ob #[i] 215) :: (a ++ [])) (fun v L1 W' => ∃ p S2, v = (.bool (r.1)) ∧ L1 = ((c, Ob #[p] 215) :: (S2 ++ [])) ∧ jw 5 (jN .u8) 1 p r.2 S2) := by
 let l := ((c, Ob #[i] 215) :: (a ++ []))
 refine xW h0 23 func212 rfl (fun b => sg (VE (jZ b rfl (fun W2 m b => Wa (lr (Wm (V (Bg fD rfl rfl) (Wm (Vg rfl rfl (jd rfl (jl b.has Mh (jf x) rfl bT bB)) (bS hm fun r3 c4 hm => Kh rfl rfl (Eg b iU (ra x _ _  c4) (fun W5 b => ?_))))))))))))
 refine V (jW rfl rfl) (Wm (LJ hm (fun T E W => ∃ z u B a0, jC μ0 B ∧ ST true (keys l) w W B ((m, Ol (jf x) 27) :: ((c, Ob #[z] 215) :: (u ++ a0))) ∧ E 0 = (.pointer (some ⟨c, 0, none⟩)) ∧ E 3 = (.pointer (some ⟨m, 0, none⟩)) ∧ E 4 = (.bool false) ∧ E 16 = (.bool T.1) ∧ jw 5 (jN .u8) 1 z T.2 u) 5 ?_ (fun T t K => ?_)))
 ·rintro ⟨e6, c5⟩ E W ⟨z, u, B, a0, d2, b, c0, c1, a3, c2, N⟩ q
  refine Wh c2 (LJ q (fun Q E W => ∃ M I U a2, jC B U ∧ ST true (keys l) w W U ((c, Ob #[M] 215) :: (I ++ a2)) ∧ E 4 = (.bool false) ∧ E 22 = (.bool Q.1) ∧ jw 5 (jN .u8) 1 M Q.2 I) 5 ?_ (fun Q k J => ?_))
  ·rintro ⟨c6, e1⟩ E W ⟨M, I, U, a2, d3, b, e0, c3, L⟩ s
   refine Wg c3 (lt ?_)
   obtain rfl := sj s
   exact kv (v := (.bool c6)) rfl rfl ⟨_, _, rfl, (b.lO (Kb (Kr Sn))), M, I, rfl, rfl, L⟩
  refine bC k (fun g k => ?_) (fun g k => ?_)
  ·refine ug g (jh c0) (ug g (jm BP c1) (ug g (jd rfl (jA b.has Mh rfl cY)) (bS k fun e2 A k => ?_)))
   refine uG g (eM b (Cb (Pb Pz) (Cr (Qb Qz) Cn)) call213 (fun h _ => (we c z c5 u x.Word _ _ h N A)) ?_)
   rintro _ e4 d0 d6 b Y n d ⟨c8, R, G, rfl, O⟩
   obtain rfl := G.symm
   replace b := b.perm (Tb (Tr Tn))
   refine V (jW (cB g) rfl) ?_
   obtain rfl := sj k
   exact J _ _ ⟨c8, R, d0, _, Y, (b.jc (Kb (Kr (Db St)))), a3, rfl, O⟩
  refine un g (un g (un g (un g (V (jY (cB g) rfl) ?_))))
  obtain rfl := sj k
  exact J _ _ ⟨z, u, B, _, (jC.refl _), (b.jc (Db St)), a3, rfl, N⟩
 refine bC t (fun j t => ?_) (fun j t => ?_)
 ·refine ug j (jh rfl) (ug j (jm yZ rfl) (ug j (jd rfl (jA b.has Mh rfl cY)) (bS t fun e3 a9 t => ?_)))
  refine uG j (eM b (Cb (Pb Pz) (Cr (Qb Qz) Cn)) call213 (fun h _ => (we c i D a x.ja _ _ h y a9)) ?_)
  rintro _ e5 d1 d7 b Z o d ⟨c9, b7, H, rfl, P⟩
  obtain rfl := H.symm
  replace b := b.perm (Tb (Tr Tn))
  refine V (jW (cB j) rfl) ?_
  obtain rfl := sj t
  exact K _ _ ⟨c9, b7, d1, _, Z, (b.jc (Sb (Pb (Pr Pz)) St)), rfl, rfl, rfl, rfl, P⟩
 refine un j (un j (un j (un j (V (jY (cB j) rfl) ?_))))
 obtain rfl := sj t
 exact K _ _ ⟨i, a, μ0, _, (jC.refl _), (b.jc St), rfl, rfl, rfl, rfl, y⟩
theorem Ba (s : (List Int) → Formula → Option (List Int)) (f2 : ∀ (a : Nat) (k : Value) (B : List Int) (g : LO) (j : Formula) (u : Value) (r : List Int) (w : World) {μ0 : jx} (h0 : nf μ0 ((a, Ob #[k] 215) :: (g ++ [])) w) (T : jw 5 (jN .u8) 1 k B g) (t : Sl iZ 5 μ0 u j.Kids), s B j = some r → kw false pg0 390 [(.pointer (some ⟨a, 0, none⟩)), (.agg #[(.int .i64 j.Op), (.int .i64 j.K), (.string j.iX.ja), (.string j.iX.Word), u])] w ((a, Ob #[k] 215) :: (g ++ [])) (fun v L1 W' => ∃ m S2, v = (.tuple #[]) ∧ L1 = ((a, Ob #[m] 215) :: (S2 ++ [])) ∧ jw 5 (jN .u8) 1 m r S2)) (a : Nat) (k : Value) (B : List Int) (g : LO) (j : Formula) (u : Value) (r : List Int) (w : World) {μ0 : jx} (h0 : nf μ0 ((a, Ob #[k] 215) :: (g ++ [])) w) (T : jw 5 (jN .u8) 1 k B g) (t : Sl iZ 5 μ0 u j.Kids) (hm : sW s B j = some r) :
  kw false pg0 390 [(.pointer (some ⟨a, 0, none⟩)), (.agg #[(.int .i64 j.Op), (.int .i64 j.K), (.string j.iX.ja), (.string j.iX.Word), u])] w ((a, Ob #[k] 215) :: (g ++ [])) (fun v L1 W' => ∃ m S2, v = (.tuple #[]) ∧ L1 = ((a, Ob #[m] 215) :: (S2 ++ [])) ∧ jw 5 (jN .u8) 1 m r S2) := by
 let b0 := ((a, Ob #[k] 215) :: (g ++ []))
 refine xW h0 40 func390 rfl (fun b => sg ?_)
 obtain ⟨A1, c2, rfl⟩ := t.form
 refine VE (jZ b rfl (fun W4 b3 b => lr (Wm (Wf rb (VB b Mh rfl rfl cO (bS hm fun r5 g8 hm => ?_))))))
 refine VE (eM b (Cb (Pb Pz) (Cr (Qb Qz) Cn)) call170 (fun l _ => kw.lI (pK a k B g j.Op _ _ l T g8)) ?_)
 rintro _ j8 n j0 b e9 ad d ⟨A, a9, a2, rfl, a5⟩
 obtain rfl := a2.symm
 replace b := b.perm (Tb (Tr Tn))
 refine lS (Wf rb (VB b (Mt (Ma Mh)) rfl rfl cO (Wi rfl (ln (CI hm rfl (fun e8 hm => ?_) (fun e8 hm => ?_))))))
 ·refine sg (Wm (Wf yQ (VA b (Mt (Ma Mh)) (jf j.iX) bT bB (bS hm fun j7 f0 hm => ?_))))
  refine VE (eM b (Cb Pz (Cr Qz Cn)) call212 (fun l _ => kw.lI (sG a A r5.2 a9 j.iX _ _ l a5 f0)) ?_)
  rintro _ j9 k1 j3 b h6 ae d ⟨h3, g2, a3, rfl, f4⟩
  obtain rfl := a3.symm
  replace b := b.perm (Tb (Tr Tn))
  refine ln ?_
  replace b := b.jc (Kb (Kr (Db St)))
  refine kl (lc ?_)
  obtain rfl := sj hm
  exact nh rfl ⟨_, _, rfl, (b.lO (Kb (Kr Sn))), h3, g2, rfl, rfl, f4⟩
 refine kn (jt (CJ hm (fun b5 E W => ∃ p o L d6, jC n L ∧ ST false (keys b0) w W L ((a, Ob #[p] 215) :: ((b3, Ol (C1 j.Op j.K j.iX.ja j.iX.Word A1 j.Kids.length c2) 30) :: (o ++ d6))) ∧ E 0 = (.pointer (some ⟨a, 0, none⟩)) ∧ E 3 = (.pointer (some ⟨b3, 0, none⟩)) ∧ jw 5 (jN .u8) 1 p b5 o) (fun b5 y => ?_) ?_))
 ·refine sg (Wf rb (VB b (Mt (Ma Mh)) rfl rfl cO (Wi rfl (ln (CI y rfl (fun c4 y => ?_) (fun c4 y => ?_))))))
  ·refine jq (Wm (Wf vS (VB b (Mt (Ma Mh)) rfl rfl cO (bS y fun i6 d0 y => ?_))))
   refine VE (eM b (Cb Pz (Cr Qz Cn)) call170 (fun l _ => kw.lI (pK a A r5.2 a9 j.K _ _ l a5 d0)) ?_)
   rintro _ i9 g1 h9 b b2 aa d ⟨f9, e3, N, rfl, d5⟩
   obtain rfl := N.symm
   replace b := b.perm (Tb (Tr Tn))
   refine ln ?_
   obtain rfl := sj y
   exact ⟨f9, e3, g1, _, b2, (b.jc (Kb (Sb (Pr Pz) St))), rfl, rfl, d5⟩
  refine kn ?_
  obtain rfl := sj y
  exact ⟨A, a9, n, _, (jC.refl _), (b.jc (Kb (Sb (Pr Pz) St))), rfl, rfl, a5⟩
 rintro g9 E W ⟨p, o, L, d6, c6, b, d7, d8, f3⟩ a0
 refine sg (Wh d7 (V (jm qS d8) (VB b (Mt Mh) rfl rfl fc (V (lT aG rfl t) (bS a0 fun h2 f1 a0 => ?_)))))
 refine VE (eM b (Cb Pz (Cr (Qb Qz) Cn)) call170 (fun l _ => kw.lI (pK a p g9 o (j.Kids.length : Int) _ _ l f3 f1)) ?_)
 rintro _ k0 d9 j4 b c7 af d ⟨h4, g3, a4, rfl, f5⟩
 obtain rfl := a4.symm
 replace b := b.perm (Tb (Tr Tn))
 refine lr (V (jm qS d8) (VB b (Mt (Ma Mh)) rfl rfl fc (V (lT aG rfl t) (Wm (ln ?_)))))
 replace b := b.jc (Kb (Kr (Db St)))
 refine tu (lu (fun i E W => ∃ D H z Q U, (E 32 = .int .i64 (i : Nat) ∧ E 31 = .int .i64 (j.Kids.length : Nat)) ∧ jC d9 Q ∧ ST false (keys b0) w W Q ((a, Ob #[D] 215) :: (z ++ U)) ∧ E 0 = (.pointer (some ⟨a, 0, none⟩)) ∧ E 30 = (.slice A1 j.Kids.length c2) ∧ jw 5 (jN .u8) 1 D H z ∧ oQ s (j.Kids.drop i) H = some r) j.Kids.length t.len ⟨h4, h2.2, g3, d9, _, ⟨rfl, rfl⟩, (jC.refl _), (b.jc St), d7, rfl, f5, a0⟩ dc dc dc (fun _ _ _ h => by obtain ⟨_, _, _, _, _, P, _⟩ := h; exact P) ?_ ?_)
 ·rintro f6 E W c5 ⟨D, H, z, Q, U, ⟨O, eN⟩, G, b, Y, Z, K, x⟩
  obtain ⟨c, h7, d2, d1, d3⟩ := kL c5
  rw [d2] at x
  refine bg (VQ (mW (i := (f6 : Int)) (x0 := c) iZ.out aG aD Z O (t.mono jj.mono (((e9.trans c6).trans c7).trans G)) (aV _) d1) (fun i5 ⟨_, ⟨i7, rfl, a7⟩, c8⟩ => V (jd rfl (jJ b.has c8 aZ aD)) (VE (kq b bL (fun i0 i4 b => ?_)))))
  obtain ⟨I, J, rfl⟩ := a7.form
  let q := (C1 c.Op c.K c.iX.ja c.iX.Word I c.Kids.length J)
  refine VO (jz (.agg q.toArray) (q.toArray) b rfl rfl aD oc nb rfl (fun i1 b => ln (jq (Wh Y (VA b Mh q aZ aD (bS x fun f7 c9 x => ?_))))))
  refine VE (eM b (Cb (Pb Pz) (Cr (Qb Qz) Cn)) call390 (fun l ab => (f2 a D H z c (.slice I c.Kids.length J) _ _ l K (a7.mono jj.mono ab) c9)) ?_)
  rintro _ i8 g0 h8 b b1 R d ⟨f8, e2, M, rfl, d4⟩
  obtain rfl := M.symm
  replace b := b.perm (Tb (Tr Tn))
  refine jH (jQ (jo ?_))
  replace b := b.jc (Kb (Kr (Db St)))
  exact ⟨O, f8, f7, e2, g0, _, ⟨rfl, eN⟩, (G.trans b1), (b.jc St), Y, Z, d4, (by rw [d3]; exact x)⟩
 rintro E W ⟨D, H, z, Q, U, ⟨O, eN⟩, G, b, Y, Z, K, x⟩
 rw [bE] at x
 refine jo (nY ?_)
 obtain rfl := sj x
 exact nh rfl ⟨_, _, rfl, (b.lO (Kb (Kr Sn))), D, z, rfl, rfl, K⟩
theorem zk : ∀ (n : Nat) (i : Nat) (g : Value) (k : List Int) (c : LO) (j : Formula) (a : Value) (r : List Int) (w : World) {z : jx} (D : nf z ((i, Ob #[g] 215) :: (c ++ [])) w) (x : jw 5 (jN .u8) 1 g k c) (t : Sl iZ 5 z a j.Kids) (_ : ot n k j = some r),
  kw false pg0 390 [(.pointer (some ⟨i, 0, none⟩)), (.agg #[(.int .i64 j.Op), (.int .i64 j.K), (.string j.iX.ja), (.string j.iX.Word), a])] w ((i, Ob #[g] 215) :: (c ++ [])) (fun v B W' => ∃ y u, v = (.tuple #[]) ∧ B = ((i, Ob #[y] 215) :: (u ++ [])) ∧ jw 5 (jN .u8) 1 y r u)
 | 0 => by intros; rename_i h; simp only [ot] at h; cases h
 | n + 1 => Ba (ot n) (zk n)
theorem EG (k : Nat) (i : Value) (u : List Int) (c : LO) (a : Formula) (j : Value) (r : (Bool × (List Int))) (w : World) {Q : jx} (Y : nf Q ((k, Ob #[i] 215) :: (c ++ [])) w) (t : jw 5 (jN .u8) 1 i u c) (g : Sl iZ 5 Q j a.Kids) (hm : tJ u a = some r) :
  kw false pg0 385 [(.pointer (some ⟨k, 0, none⟩)), (.agg #[(.int .i64 a.Op), (.int .i64 a.K), (.string a.iX.ja), (.string a.iX.Word), j])] w ((k, Ob #[i] 215) :: (c ++ [])) (fun v U W' => ∃ M I, v = (.bool (r.1)) ∧ U = ((k, Ob #[M] 215) :: (I ++ [])) ∧ jw 5 (jN .u8) 1 M r.2 I) := by
 refine xW Y 15 func385 rfl (fun b => sg ?_)
 obtain ⟨y, z, rfl⟩ := g.form
 let B := (C1 a.Op a.K a.iX.ja a.iX.Word y a.Kids.length z)
 refine VE (jZ b rfl (fun W4 n b => Wa (lS (Wm (V (rO fD rfl rfl) (Wm (Vg rfl rfl (jd rfl (jl b.has Mh B rfl aZ aD)) (bS hm fun o K hm => Kh rfl rfl (Eg b call129 (tH a (.slice y a.Kids.length z) _ _ (g.mono jj.mono b.jk) K) (fun W7 b => Vg rfl rfl (px rfl) (V (jY rfl rfl) ?_)))))))))))
 refine ln (CI hm rfl (fun J hm => ?_) (fun J hm => ?_))
 ·refine sg (Wa (ln ?_))
  replace b := b.jc (Db St)
  refine kl (lc ?_)
  obtain rfl := sj hm
  exact kv (v := (.bool false)) rfl rfl ⟨_, _, rfl, (b.lO (Kb (Kr Sn))), i, c, rfl, rfl, t⟩
 refine kg (Wm (VA b Mh B aZ aD (bS hm fun p D hm => ?_)))
 refine VE (eM b (Cb (Pb Pz) (Cr (Qb Qz) Cn)) call390 (fun m h => ((zk jB) k i u c a (.slice y a.Kids.length z) _ _ m t (g.mono jj.mono h) D)) ?_)
 rintro _ a2 a3 Z b T l d ⟨N, H, x, rfl, G⟩
 obtain rfl := x.symm
 replace b := b.perm (Tb (Tr Tn))
 refine ln ?_
 replace b := b.jc (Kb (Kr (Db St)))
 refine sg (Wa (lt ?_))
 obtain rfl := sj hm
 exact kv (v := (.bool true)) rfl rfl ⟨_, _, rfl, (b.lO (Kb (Kr Sn))), N, H, rfl, rfl, G⟩
theorem FZ (g : Value) (i r : List Int) (w : World) (a : Sl (Pl (jN .u8)) 1 (hp w) g i) (hm : rD i = some r) :
  lJ true pg0 234 [g] w 5 (jN .u8) 1 r := by
 unfold rD at hm
 refine uU 8 func234 rfl (fun b => sg (Wa (lS (Wm ?_))))
 obtain ⟨y, B, rfl⟩ := a.form
 refine V (zl dv rfl rfl) (ln ?_)
 rcases y with _ | z
 ·have u := a.isNil
  replace hm : some [] = some r := by rw [u] at hm; simpa [kN, maxLen] using hm
  refine uk (rfl) (sg (Wa (lt (lc ?_))))
  obtain rfl := sj hm
  exact kv (v := (.slice none 0 0)) rfl rfl ⟨_, [], rfl, b.nj (fun p d => by cases d) (by simp), jw.nil _ _ _⟩
 ·refine pb (rfl) (kg (VE (km (cs := #[]) b sF (AK [] dv sizeOf5 zeroValue5 dc rfl (by simp) rfl rfl) (fun G k b => Wm (bS hm fun H t hm => VE (nL (enc := (jN .u8)) (v := (.slice (some ⟨k, 0, none⟩) 0 0)) (vs := (.slice (some z) i.length B)) (R := [(k, Ob #[] 5)]) b (fun _ => rfl) dc (Cw _) dv se.1 se.2.1 rfl se.2.2.1 se.2.2.2 rfl rfl (jw.lit (l := []) (enc := (jN .u8)) rfl dc rfl rfl) (a.mono (Pl.mono _) b.jk) t (fun D x j b c => Wa (lt ?_))))))))
  obtain rfl := sj hm
  exact kv (v := x) rfl rfl ⟨_, j, rfl, b.nj (fun p d => (Ml d)) c.nd, c⟩
theorem yV (g : Nat) (a : Value) (c r : List Int) (w : World) (j : Sl (Pl (jN .u8)) 1 (hp w) a c) (k : At (hp w) (.pointer (some ⟨g, 0, none⟩)) [a]) (hm : qU c = some r) :
  lJ true pg0 173 [(.pointer (some ⟨g, 0, none⟩))] w 5 (jN .u8) 1 r := by
 refine uU 10 func173 rfl (fun b => sg (Wa (lS (Wm (V (rO fD rfl rfl) (ln (pb rfl (kX ?_))))))))
 refine jo (sg (Wm (Wn (VQ (vO [a] wX rfl k rfl) (fun G u => V (jd rfl (oL b.has (y := a) u iW)) (bS hm fun H x hm => VE (sI b call234 (FZ a c _ _ (j.mono (Pl.mono _) b.jk) x) (fun D z I t b B d i => Wa (lt ?_)))))))))
 obtain rfl := sj hm
 exact kv (v := z) rfl rfl ⟨_, t, rfl, b.nj (fun p h => (Ml h)) i.nd, i⟩
theorem xX (a : Formula) (g : Value) (r : List Int) (w : World) (c : Sl iZ 5 (hp w) g a.Kids) (hm : qw a = some r) :
  lJ false pg0 376 [(.agg #[(.int .i64 a.Op), (.int .i64 a.K), (.string a.iX.ja), (.string a.iX.Word), g])] w 5 (jN .u8) 1 r := by
 refine uU 11 func376 rfl (fun d => sg ?_)
 obtain ⟨k, t, rfl⟩ := c.form
 refine VE (jZ d rfl (fun W4 u d => Wa (lr (V (lY (v := (.agg #[(.slice none 0 0)])) sF (li zeroValue215 fC (Mr _ fC) kr)) (VE (jZ d rfl (fun W6 B d => Wa (lr (Wm (VA d (Mt Mh) (C1 a.Op a.K a.iX.ja a.iX.Word k a.Kids.length t) aZ aD ?_))))))))))
 refine bS hm fun K D hm => ?_
 refine VE (eM d (Cb Pz (C0 Cn)) call385 (fun s m => (EG B (.slice none 0 0) ([]) [] a (.slice k a.Kids.length t) _ _ s (jw.nil _ _ _) (c.mono jj.mono m) D)) ?_)
 rintro _ U Y M d I n h ⟨H, N, i, rfl, y⟩
 obtain rfl := i.symm
 replace d := d.perm (Tb (Tr Tn))
 refine ln ?_
 replace d := d.jc (Kb (Kr (Db St)))
 refine sg (Wm (bS hm fun T x hm => VE (sI d call173 (lJ.lI (yV B H K.2 _ _ (y.sl (fun _ => rfl) (fun b o l => d.at_ (Mt (Ml l)))) (At.of (d.at_ Mh) _ rfl) x)) (fun Q G Z z d J q j => Wa (ln ?_)))))
 replace d := d.jc (Kr (Db (Dr St)))
 refine kl ?_
 obtain rfl := sj hm
 exact kv (v := G) rfl rfl ⟨_, z, rfl, d.nj (fun p l => (Ml l)) j.nd, j⟩
theorem N2 (w : World) {c d : Value} {a b : List Int} (h1 : Sl (Pl (jN .u8)) 1 (hp w) c a) (g : Sl (Pl (jN .u8)) 1 (hp w) d b) : (callFunc 211 [c, d].toArray).run pg0 w = .ok (.value (.int .i64 (vC a b))) w := Lq func211 (by kernel_rfl) (by kernel_rfl) (by kernel_rfl) (by kernel_rfl) h1 g
theorem zy (a : Value) (g : List Int) (c : Value) (i : List Int) (r : Int) (w : World) (j : Sl (Pl (jN .u8)) 1 (hp w) a g) (k : Sl (Pl (jN .u8)) 1 (hp w) c i) (hm : tQ g i = some r) :
  jO true pg0 151 [a, c] w (.int .i64 r) := by
 exact cG 8 func151 rfl (fun b => sg (Wa (lr (Wm (Wm (VE (Ge (args := [a, c]) (v := .int .i64 (vC g i)) rfl (by exact vk rfl rfl) (N2 _ (j.mono (Pl.mono _) b.jk) (k.mono (Pl.mono _) b.jk)) (Wa (lt (rQ hm b))))))))))
theorem CP (a : Formula) (j : Value) (c : Formula) (k : Value) (r : Int) (w : World) (g : Sl iZ 5 (hp w) j a.Kids) (i : Sl iZ 5 (hp w) k c.Kids) (hm : qv a c = some r) :
  jO false pg0 353 [(.agg #[(.int .i64 a.Op), (.int .i64 a.K), (.string a.iX.ja), (.string a.iX.Word), j]), (.agg #[(.int .i64 c.Op), (.int .i64 c.K), (.string c.iX.ja), (.string c.iX.Word), k])] w (.int .i64 r) := by
 refine cG 10 func353 rfl (fun d => sg ?_)
 obtain ⟨x, z, rfl⟩ := g.form
 refine VE (jZ d rfl (fun W4 q d => ?_))
 obtain ⟨y, B, rfl⟩ := i.form
 refine VE (jZ d rfl (fun W8 s d => Wa (ln (jt ?_))))
 replace d := d.drew
 have h := d.has.jc (Kb (Kb Sn))
 refine kC h jK (XH 0 rfl h (fun _ l => jd rfl (jl l (Mt Mh) (C1 a.Op a.K a.iX.ja a.iX.Word x a.Kids.length z) rfl aZ aD)) (XH 2 rfl h (fun _ l => jd rfl (jl l Mh (C1 c.Op c.K c.iX.ja c.iX.Word y c.Kids.length B) rfl aZ aD)) (bS hm fun K H hm => XE 1 rfl (sI d call376 (xX a (.slice x a.Kids.length z) _ _ (g.mono jj.mono d.jk) H) (fun Y N a4 T d t n D => ?_)))))
 have h := d.has.qZ t (Dr (Kb (Kb Sn)))
 refine ⟨h, (bS hm fun M I hm => XE 3 rfl (sI d call376 (xX c (.slice y c.Kids.length B) _ _ (i.mono jj.mono (t.trans d.jk)) I) (fun Z Q a5 U d u p G => ?_)))⟩
 have h := d.has.qZ (t.trans u) (Dr (Dr (Kb (Kb Sn))))
 refine ⟨h, (bS hm fun a3 J hm => XE 4 rfl (Eg d call151 (jO.lI (zy N K Q M _ _ (D.sl (fun _ => rfl) (fun b o m => d.at_ (Ma (Ml m)))) (G.sl (fun _ => rfl) (fun b o m => d.at_ (Ml m))) J)) (fun a2 d => ?_)))⟩
 have h := d.has.qZ (t.trans u) (Dr (Dr (Kb (Kb Sn))))
 refine ⟨h, (X 5 rfl h (oa rfl) (kJ kr (jo ?_)))⟩
 exact kl (rQ hm d)
theorem AE (g : Value) (k r : List Formula) (w : World) {G : jx} (Y : nf G [] w) (u : Sl iZ 5 G g k) (hm : sr k = some r) :
  lj false pg0 299 [g] w G [] (fun v U μ1 => ∃ T I, v = T ∧ U = (I ++ []) ∧ kd 30 iZ 5 μ1 T r I) := by
 refine ud Y 9 func299 rfl (fun b => sg (Wa (lr (Wm (bS hm fun Z Q hm => ?_)))))
 refine VE (eD b (bX _) call351 (fun h => lj.lI (zT g k _ _ h (u.mono jj.mono (jC.refl _)) Q)) ?_ (L0 := []))
 rintro _ v7 q L9 b y l ⟨i, H, a, rfl, B⟩
 obtain rfl := a.symm
 replace b := b.perm (Tr Tn)
 refine Wa (lr (Wm (bS hm fun a5 z hm => ?_)))
 refine VE (eD b (Cr Qz Cn) call352 (fun h => (vQ i Z H (.func (.func 353) #[] #[]) (fun (x : (Formula × Formula)) => qv x.1 x.2) _ _ h B ⟨353, #[], #[], rfl, call353, fun W x vs r A m hm => by obtain ⟨_, _, rfl, M, N⟩ := m; obtain ⟨p, rfl, o⟩ := M.out; obtain ⟨t0, rfl, n⟩ := N.out; exact CP x.1 p x.2 t0 r W o n hm⟩ z)) ?_)
 rintro _ s t a3 b j d ⟨J, c, rfl, D⟩
 obtain rfl := c.symm
 replace b := b.perm (Tr Tn)
 refine lr (Wm (Wa (lt ?_)))
 obtain rfl := sj hm
 exact kv (v := i) rfl rfl ⟨_, _, _, rfl, (b.lO (Kr Sn)), (y.trans j), (l.trans d), (ST.kz b (mh.mem (Kr Sn))), i, J, rfl, rfl, D⟩
theorem wR (g : Value) (a0 : List Formula) (x : LO) (Z : Value) (f1 : (Formula × Formula) → Option Bool) (r : List Formula) (w : World) {μ0 : jx} (h0 : nf μ0 (x ++ []) w) (B : kd 30 iZ 5 μ0 g a0 x) (d2 : uW pg0 Z μ0 (sU iZ iZ) (fun (r : Bool) => (.bool r)) f1) (hm : nT a0 f1 = some r) :
  lj false pg0 302 [g, Z] w μ0 (x ++ []) (fun v L1 μ1 => ∃ y1, v = y1 ∧ L1 = [] ∧ Sl iZ 5 μ1 y1 (r)) := by
 refine ud h0 66 func302 rfl (fun d => sg (Wa (lS (Wm (V (vP aG rfl B) (Wi rfl (ln (CI hm rfl (fun i3 hm => ?_) (fun i3 hm => ?_)))))))))
 ·refine sg (Wm (Wa (lt (lc ?_))))
  obtain rfl := sj hm
  refine kv (v := g) rfl rfl ?_
  obtain ⟨a1, d, i2, A, j0⟩ := ST.wB jj d B
  exact ⟨_, _, _, rfl, (d.lO Sn), i2, A, (ST.kz d (mh.mem Sn)), g, rfl, rfl, j0⟩
 refine kS (Wa (ln (kW (nm (fun m E W => ∃ t b7, ST false (keys (x ++ [])) w W μ0 (x ++ b7) ∧ E 0 = g ∧ E 1 = Z ∧ E 5 = (.int .i64 t) ∧ lD a0 f1 m t = some r) jB ⟨1, _, (d.jc St), rfl, rfl, rfl, hm⟩ ?_))))
 rintro m E W ⟨t, b7, d, y, a3, G, a⟩
 cases m with
 | zero => rw [lD] at a; cases a
 | succ h1 =>
  refine jt (sg (Wh G (Wh y (V (vP aG rfl B) (Wi rfl (ln (CI a rfl (fun d3 a => ?_) (fun d3 a => ?_))))))))
  ·refine kn (jt (kW (jt ?_)))
   replace d := d.drew
   have h := d.has.jc (Kr Sn)
   refine kC h jK (X 0 rfl h (jh a3) (X 1 rfl h (jh y) (X 2 rfl h (jh G) (bS a fun h7 b2 a => XQ 3 rfl h (ky (i := t) iZ.out aG aD rfl rfl B (jG b2) (jD b2)) (fun k1 ⟨_, ⟨h3, rfl, e7⟩, e0, i4⟩ => XH 4 rfl h (fun _ q => jd rfl (jJ (mI.hp _) (e0.mono (kT (fun b o p => q.2 b o (Ml p)))) aZ aD)) (X 5 rfl h (jh y) (X 6 rfl h (jh G) (X 7 rfl h (lA rfl rfl rfl) (bS a fun h8 b3 a => XQ 8 rfl h (ky (i := (wi0 .i64 (t - 1))) iZ.out aG aD rfl rfl B (jG b3) (jD b3)) (fun k2 ⟨_, ⟨h4, rfl, e8⟩, e1, i5⟩ => XH 9 rfl h (fun _ q => jd rfl (jJ (mI.hp _) (e1.mono (kT (fun b o p => q.2 b o (Ml p)))) aZ aD)) (bS a fun k7 e5 a => XE 10 rfl (wx (h7, h8) d d2 (jC.refl _) (sU.mk jj jj (iZ.mk ⟨h3, rfl, e7⟩) (iZ.mk ⟨h4, rfl, e8⟩) d.jk) rfl (vk rfl rfl) e5 (fun j6 d => ?_)))))))))))))
   have h := d.has.jc (Kr Sn)
   refine ⟨h, (kJ kr (jo (CI a rfl (fun d4 a => ?_) (fun d4 a => ?_))))⟩
   ·refine sg (Wh y (Wh G (bS a fun _ L a => VQ (yN (i := t) aG aD rfl rfl B (tR L) (tO L)) (fun c4 K => Wa (lS (Wa (ln ?_)))))))
    refine CJ a (fun T E W => ∃ a2 b9, ST false (keys (x ++ [])) w W μ0 (a2 ++ b9) ∧ E 0 = g ∧ E 5 = (.int .i64 T.2) ∧ kd 30 iZ 5 μ0 g T.1 a2) (fun T d8 => ?_) ?_
    ·refine kW (nm (fun m E W => ∃ a5 J U u c0, ST false (keys (x ++ [])) w W μ0 (J ++ c0) ∧ E 0 = g ∧ E 1 = Z ∧ E 5 = (.int .i64 U) ∧ E 6 = c4 ∧ E 7 = (.int .i64 u) ∧ kd 30 iZ 5 μ0 g a5 J ∧ lF t f1 m a5 U u = some T) jB ⟨a0, x, t, 1, _, (d.jc St), y, a3, G, rfl, rfl, B, d8⟩ ?_)
     rintro m E W ⟨a5, J, U, u, c0, d, N, a4, Q, H, I, k, j⟩
     cases m with
     | zero => rw [lF] at j; cases j
     | succ h2 =>
      refine jt (sg (Wh I (Wh H (V (I3 aG rfl K k) (Wi rfl (ln (CI j rfl (fun d5 j => ?_) (fun d5 j => ?_))))))))
      ·refine kn (jt (CJ j (fun s E W => ∃ M c1, ST false (keys (x ++ [])) w W μ0 (M ++ c1) ∧ E 0 = g ∧ E 1 = Z ∧ E 5 = (.int .i64 s.2) ∧ E 6 = c4 ∧ E 7 = (.int .i64 u) ∧ kd 30 iZ 5 μ0 g s.1 M) (fun s c => ?_) ?_))
       ·refine kW (jt ?_)
        replace d := d.drew
        have h := d.has.jc (Kr Sn)
        refine kC h jK (X 0 rfl h (jh a4) (X 1 rfl h (jh H) (X 2 rfl h (jh I) (bS c fun i0 b4 c => XQ 3 rfl h (yF (i := u) iZ.out aG aD rfl rfl k K (jG b4) (jD b4)) (fun k3 ⟨_, ⟨h5, rfl, f4⟩, e2, i6⟩ => XH 4 rfl h (fun _ q => jd rfl (jJ (mI.hp _) (e2.mono (kT (fun b o p => q.2 b o (Ml p)))) aZ aD)) (X 5 rfl h (jh H) (X 6 rfl h (jh I) (X 7 rfl h (lA rfl rfl rfl) (bS c fun i1 b5 c => XQ 8 rfl h (yF (i := (wi0 .i64 (u - 1))) iZ.out aG aD rfl rfl k K (jG b5) (jD b5)) (fun k4 ⟨_, ⟨h6, rfl, f5⟩, e3, i7⟩ => XH 9 rfl h (fun _ q => jd rfl (jJ (mI.hp _) (e3.mono (kT (fun b o p => q.2 b o (Ml p)))) aZ aD)) (bS c fun k8 e6 c => XE 10 rfl (wx (i0, i1) d d2 (jC.refl _) (sU.mk jj jj (iZ.mk ⟨h5, rfl, f4⟩) (iZ.mk ⟨h6, rfl, f5⟩) d.jk) rfl (vk rfl rfl) e6 (fun j8 d => ?_)))))))))))))
        have h := d.has.jc (Kr Sn)
        refine ⟨h, (X 11 rfl h (px rfl) (kJ kr (jo (CI c rfl (fun d6 c => ?_) (fun d6 c => ?_)))))⟩
        ·refine sg (Wh N (Wh Q (Wh H (Wh I (bS c fun c7 b6 c => VQ (yF (i := u) iZ.out aG aD rfl rfl k K (jG b6) (jD b6)) (fun k5 ⟨_, ⟨l0, rfl, R⟩, e4, i8⟩ => V (jd rfl (jJ (mI.hp _) (e4.mono (kT (fun b o p => d.has.2 b o (Ml p)))) aZ aD)) (bS c fun l2 Y c => VQ (ky (i := U) iZ.out aG aD rfl rfl k (jG Y) (jD Y)) (fun k6 ⟨_, ⟨l1, rfl, j3⟩, i9, d7⟩ => ?_))))))))
         obtain ⟨f7, g0, rfl⟩ := R.form
         refine VO (pc (x1 := c7) jj d k rfl rfl (iZ.mk ⟨(.slice f7 c7.Kids.length g0), rfl, R⟩) d7 (jD Y) aD (fun j9 f8 d d1 => ln (jq (Wh Q (Wi rfl (Wa (jH (jQ (jo ?_)))))))))
         obtain rfl := sj c
         exact ⟨f8, _, (d.jc St), N, a4, rfl, H, I, d1⟩
        refine kX (jQ (jo ?_))
        obtain rfl := sj c
        exact ⟨J, _, (d.jc St), N, a4, Q, H, I, k⟩
       rintro ⟨g9, h9⟩ E W ⟨M, c1, d, g1, g2, g3, g4, g7, f3⟩ d9
       exact jq (Wh g7 (Wi rfl (Wa (ln ⟨h2, bM _, g9, M, h9, (wi0 .i64 (u + 1)), _, (d.jc St), g1, g2, g3, g4, rfl, f3, d9⟩))))
      refine mU (mA (mA (qX (jo ?_))))
      obtain rfl := sj j
      exact ⟨J, _, (d.jc St), N, Q, k⟩
    rintro ⟨k0, c6⟩ E W ⟨a2, b9, d, c2, c3, P⟩ D
    refine sg (Wh c2 (Wh c3 (bS D fun _ O D => VQ (yN (i := c6) aG aD rfl rfl P (tR O) (tO O)) (fun k9 e9 => VO (BH (z := (⟨0, 0, K0, []⟩ : Formula)) (zs := C4) jj d P (iZ.mk ⟨(.slice none 0 0), rfl, (Sl.nil _ _ _)⟩) aG bL e9 rfl rfl (fun j7 j5 d d0 => lr (Wh c2 (Wh c3 (bS D fun _ a9 D => VQ (Es (i := c6) aG aD rfl rfl d0 (tR a9) (tO a9)) (fun c5 f0 => ?_))))))))))
    refine Wa (lt (og (lc (lc (og (lc ?_))))))
    obtain rfl := sj D
    refine kv (v := c5) rfl rfl ?_
    obtain ⟨l3, d, c8, l, f2⟩ := ST.wB jj d f0
    exact ⟨_, _, _, rfl, (d.lO Sn), c8, l, (ST.kz d (mh.mem Sn)), c5, rfl, rfl, f2⟩
   exact kX (jQ (jo (jq (Wh G (Wi rfl (Wa (ln ⟨h1, bM _, (wi0 .i64 (t + 1)), _, (d.jc St), y, a3, rfl, a⟩)))))))
  refine mU (mA (mA (qX (jo (sg (Wh y (Wa (lt ?_))))))))
  obtain rfl := sj a
  refine kv (v := g) rfl rfl ?_
  obtain ⟨l4, d, c9, n, f6⟩ := ST.wB jj d B
  exact ⟨_, _, _, rfl, (d.lO Sn), c9, n, (ST.kz d (mh.mem Sn)), g, rfl, rfl, f6⟩
theorem pa (G : Value) (N : List Formula) (H : Value) (l : List Formula) (I : Value) (f2 : (Formula × Formula) → Option Bool) (r : Bool) (w : World) (x : Sl iZ 5 (hp w) G N) (Q : Sl iZ 5 (hp w) H l) (o : uW pg0 I (hp w) (sU iZ iZ) (fun (r : Bool) => (.bool r)) f2) (hm : lE N l f2 = some r) :
  jO false pg0 136 [G, H, I] w (.bool r) := by
 refine cG 32 func136 rfl (fun b => sg (Wa (lS (Wm (V (lT aG rfl x) (Wm (V (lT aG rfl Q) (Wi rfl (jH ?_)))))))))
 refine jo (CI hm rfl (fun q hm => ?_) (fun q hm => ?_))
 ·refine sg (Wa (lt (lc ?_)))
  obtain rfl := sj hm
  exact rP b
 refine kS (Wm (V (lT aG rfl x) (Wm (ln (lu (fun i E W => ∃ y, (E 17 = .int .i64 (i : Nat) ∧ E 16 = .int .i64 (N.length : Nat)) ∧ ST false lG w W (hp w) y ∧ E 1 = H ∧ E 2 = I ∧ E 15 = G ∧ jS l f2 (N.drop i) i = some r) N.length x.len ⟨_, ⟨rfl, rfl⟩, (b.jc St), rfl, rfl, rfl, hm⟩ dc dc dc (fun _ _ _ h => by obtain ⟨_, m, _⟩ := h; exact m) ?_ ?_)))))
 ·rintro a4 E W U ⟨y, ⟨d, n⟩, b, z, B, D, a⟩
  obtain ⟨g, c5, a9, p, a3⟩ := kL U
  rw [a9] at a
  refine bg (Wh d (VQ (mW (i := (a4 : Int)) (x0 := g) iZ.out aG aD D d x (aV _) p) (fun b9 ⟨_, ⟨c2, rfl, J⟩, Y⟩ => V (jd rfl (jJ b.has Y aZ aD)) (VE (kq b bL (fun s P b => Wa ?_))))))
  obtain ⟨j, t, rfl⟩ := J.form
  let a0 := (C1 g.Op g.K g.iX.ja g.iX.Word j g.Kids.length t)
  refine VO (jz (.agg a0.toArray) (a0.toArray) b rfl rfl aD oc nb rfl (fun v b => lr (Wh z (Wm (bS a fun c M a => VQ (mW (i := (a4 : Int)) (x0 := c) iZ.out aG aD rfl rfl Q (jG M) (jD M)) (fun c0 ⟨_, ⟨c3, rfl, K⟩, Z⟩ => V (jd rfl (jJ b.has Z aZ aD)) (VE (kq b bL (fun A R b => ?_)))))))))
  obtain ⟨k, u, rfl⟩ := K.form
  let a5 := (C1 c.Op c.K c.iX.ja c.iX.Word k c.Kids.length u)
  refine VO (jz (.agg a5.toArray) (a5.toArray) b rfl rfl aD oc nb rfl (fun L b => lr (Wh B (VA b (Mt Mh) a0 aZ aD (VA b Mh a5 aZ aD (bS a fun c1 a2 a => VE (wx (g, c) b o (jC.refl _) (sU.mk jj jj (iZ.mk ⟨(.slice j g.Kids.length t), rfl, J⟩) (iZ.mk ⟨(.slice k c.Kids.length u), rfl, K⟩) b.jk) rfl (vk rfl rfl) a2 (fun O b => V (px rfl) (ln ?_)))))))))
  replace b := b.jc (Db (Db St))
  refine CI a rfl (fun T a => ?_) (fun T a => ?_)
  ·refine sg (Wa (lt (og (lc (og (lc ?_))))))
   obtain rfl := sj a
   exact rP b
  exact kX (jQ (jo ⟨d, _, ⟨rfl, n⟩, (b.jc St), z, B, D, (by rw [a3]; exact a)⟩))
 rintro E W ⟨y, ⟨d, n⟩, b, z, B, D, a⟩
 rw [bE] at a
 exact jo (sg (Wa (lt (rQ a b))))
theorem BC (M : Formula → Formula → Option Bool) (s : ∀ (a : Formula) (j : Value) (c : Formula) (k : Value) (r : Bool) (w : World) (u : Sl iZ 5 (hp w) j a.Kids) (y : Sl iZ 5 (hp w) k c.Kids), M a c = some r → jO false pg0 61 [(.agg #[(.int .i64 a.Op), (.int .i64 a.K), (.string a.iX.ja), (.string a.iX.Word), j]), (.agg #[(.int .i64 c.Op), (.int .i64 c.K), (.string c.iX.ja), (.string c.iX.Word), k])] w (.bool r)) (a : Formula) (j : Value) (c : Formula) (k : Value) (r : Bool) (w : World) (u : Sl iZ 5 (hp w) j a.Kids) (y : Sl iZ 5 (hp w) k c.Kids) (hm : tD M a c = some r) :
  jO false pg0 61 [(.agg #[(.int .i64 a.Op), (.int .i64 a.K), (.string a.iX.ja), (.string a.iX.Word), j]), (.agg #[(.int .i64 c.Op), (.int .i64 c.K), (.string c.iX.ja), (.string c.iX.Word), k])] w (.bool r) := by
 refine cG 31 func61 rfl (fun b => sg ?_)
 obtain ⟨N, Y, rfl⟩ := u.form
 let d := (C1 a.Op a.K a.iX.ja a.iX.Word N a.Kids.length Y)
 refine VE (jZ b rfl (fun W4 T b => ?_))
 obtain ⟨Q, Z, rfl⟩ := y.form
 let a0 := (C1 c.Op c.K c.iX.ja c.iX.Word Q c.Kids.length Z)
 refine VE (jZ b rfl (fun W8 U b => Wa (lr (Wf rb (VB b (Mt Mh) rfl rfl cO (Wf rb (VB b Mh rfl rfl cO (Wi rfl (Wm (LJ hm (fun a9 E W => ∃ a2, ST false lG w W (hp w) ((U, Ol a0 30) :: ((T, Ol d 30) :: a2)) ∧ E 2 = (.pointer (some ⟨T, 0, none⟩)) ∧ E 3 = (.pointer (some ⟨U, 0, none⟩)) ∧ E 4 = (.bool false) ∧ E 16 = (.bool a9)) 6 ?_ (fun a9 D I => ?_)))))))))))
 ·rintro d1 E W ⟨a2, b, J, K, a5, v⟩ n
  refine Wh v (LJ n (fun m E W => ∃ a3, ST false lG w W (hp w) ((U, Ol a0 30) :: ((T, Ol d 30) :: a3)) ∧ E 2 = (.pointer (some ⟨T, 0, none⟩)) ∧ E 3 = (.pointer (some ⟨U, 0, none⟩)) ∧ E 4 = (.bool false) ∧ E 23 = (.bool m)) 6 ?_ (fun m B H => ?_))
  ·rintro d2 E W ⟨a3, b, A, L, h, c1⟩ o
   refine Wh c1 (LJ o (fun l E W => ∃ a4, ST false lG w W (hp w) a4 ∧ E 4 = (.bool false) ∧ E 30 = (.bool l)) 6 ?_ (fun l z G => ?_))
   ·rintro d3 E W ⟨a4, b, c9, O⟩ p
    exact Wg O (lt (rQ p b))
   refine bC z (fun i z => ?_) (fun i z => ?_)
   ·refine ug i (jm qS A) (ug i (jd rfl (jA b.has (Mt Mh) rfl fc)) (ug i (jm qS L) (ug i (jd rfl (jA b.has Mh rfl fc)) (bS z fun d0 q z => uG i (Eg b call136 (pa (.slice N a.Kids.length Y) a.Kids (.slice Q c.Kids.length Z) c.Kids (.func (.func 61) #[] #[]) (fun (x : (Formula × Formula)) => M x.1 x.2) _ _ (u.mono jj.mono b.jk) (y.mono jj.mono b.jk) ⟨61, #[], #[], rfl, call61, fun W x vs r hs hR hm => by obtain ⟨_, _, rfl, P, R⟩ := hR; obtain ⟨u0, rfl, k0⟩ := P.out; obtain ⟨t0, rfl, j0⟩ := R.out; exact s x.1 u0 x.2 t0 r W k0 j0 hm⟩ q) (fun c8 b => V (jW (cB i) rfl) ?_))))))
    obtain rfl := sj z
    exact G _ _ ⟨_, (b.jc (Db (Db St))), h, rfl⟩
   refine un i (un i (un i (un i (un i (V (jY (cB i) rfl) ?_)))))
   obtain rfl := sj z
   exact G _ _ ⟨_, (b.jc (Db (Db St))), h, rfl⟩
  refine bC B (fun g B => ?_) (fun g B => ?_)
  ·refine ug g (jm yQ J) (ug g (jd rfl (jl b.has (Mt Mh) (jf a.iX) rfl bT bB)) (ug g (jm yQ K) (ug g (jd rfl (jl b.has Mh (jf c.iX) rfl bT bB)) (ug g (Bc rfl rfl (sM eqGuardType27) (wT (vn _ a.iX c.iX))) (V (jW (cB g) rfl) ?_)))))
   obtain rfl := sj B
   exact H _ _ ⟨_, (b.jc St), J, K, a5, rfl⟩
  refine un g (un g (un g (un g (un g (V (jY (cB g) rfl) ?_)))))
  obtain rfl := sj B
  exact H _ _ ⟨_, (b.jc St), J, K, a5, rfl⟩
 refine bC D (fun t D => ?_) (fun t D => ?_)
 ·refine ug t (jm vS rfl) (ug t (jd rfl (jA b.has (Mt Mh) rfl cO)) (ug t (jm vS rfl) (ug t (jd rfl (jA b.has Mh rfl cO)) (ug t (lA rfl rfl rfl) (V (jW (cB t) rfl) ?_)))))
  obtain rfl := sj D
  exact I _ _ ⟨_, (b.jc St), rfl, rfl, rfl, rfl⟩
 refine un t (un t (un t (un t (un t (V (jY (cB t) rfl) ?_)))))
 obtain rfl := sj D
 exact I _ _ ⟨_, (b.jc St), rfl, rfl, rfl, rfl⟩
theorem wM : ∀ (n : Nat) (g : Formula) (a : Value) (i : Formula) (c : Value) (r : Bool) (w : World) (j : Sl iZ 5 (hp w) a g.Kids) (k : Sl iZ 5 (hp w) c i.Kids) (_ : mE n g i = some r),
  jO false pg0 61 [(.agg #[(.int .i64 g.Op), (.int .i64 g.K), (.string g.iX.ja), (.string g.iX.Word), a]), (.agg #[(.int .i64 i.Op), (.int .i64 i.K), (.string i.iX.ja), (.string i.iX.Word), c])] w (.bool r)
 | 0 => by intros; rename_i h; simp only [mE] at h; cases h
 | n + 1 => BC (mE n) (wM n)
theorem rh (j : Nat) (a0 : jF) (c : Int) (K : Value) (a2 : List Formula) (r : (Formula × jF)) (w : World) {μ0 : jx} (h0 : nf μ0 ((j, Ol (ko a0) 224) :: []) w) (b5 : Sl iZ 5 μ0 K a2) (hm : mT a0 c a2 = some r) :
  lj false pg0 244 [(.pointer (some ⟨j, 0, none⟩)), (.int .i64 c), K] w μ0 ((j, Ol (ko a0) 224) :: []) (fun v L1 μ1 => ∃ y1, v = (.agg #[(.int .i64 ((r.1).Op)), (.int .i64 ((r.1).K)), (.string (((r.1).iX).ja)), (.string (((r.1).iX).Word)), y1]) ∧ L1 = ((j, Ol (ko (r.2)) 224) :: []) ∧ Sl iZ 5 μ1 y1 ((r.1).Kids)) := by
 refine ud h0 37 func244 rfl (fun b => sg (VE (kq b bL (fun W2 R b => lr (Wm (Wi rfl (VE (kq b zeroValue3 (fun W4 q b => VO (jz (.int .i64 (wi0 .i64 (5 - c))) (#[(.int .i64 (wi0 .i64 (5 - c)))]) b rfl rfl fZ (Cw _ (wi0 .i64 (5 - c))) nb rfl (fun W5 b => ln (jt ?_))))))))))))
 let m := (wi0 .i64 (5 - c))
 let p : Value := (.agg (C9 m).toArray)
 refine jq (Wm (Wm (bS hm fun r6 d1 hm => ?_)))
 refine VE (eD b (bX _) call300 (fun n => lj.lI (F6 c K a2 _ _ n (b5.mono jj.mono (jC.refl _)) d1)) ?_ (L0 := []))
 rintro _ f4 aa e2 b B d ⟨P, H, rfl, a3⟩
 obtain rfl := H.symm
 refine Wa (lS (Wm (V (sa (by exact uw rfl) rfl) (bS hm fun f3 c1 hm => VE (Eg b call266 (sb P r6 (.func (.func 301) #[] #[(.pointer (some ⟨q, 0, none⟩))]) (fun (x : Formula) => oX x m) _ _ (a3.mono jj.mono b.jk) ⟨301, #[], #[(.pointer (some ⟨q, 0, none⟩))], rfl, call301, fun W x vs r hs s hm => by obtain ⟨_, rfl, U⟩ := s; obtain ⟨L, rfl, A⟩ := U.out; exact (yg x L q m r W A (At.of (hs _ _ (b.at_ Mh)) _ rfl) hm).lI⟩ c1) (fun e5 b => ln (CI hm rfl (fun b6 hm => ?_) (fun b6 hm => ?_))))))))
 ·refine sg (VB b Mh rfl rfl cO (V (lY (v := p) (mH rfl) (li bL cC (yJ _ cC) kr)) ?_))
  replace b := b.perm (Nb (Pb Pz) Nz)
  refine VO (jz p ((C9 m).toArray) b rfl rfl aD oc nb rfl (fun e6 b => ln ?_))
  replace b := b.jc (Kb (Db St))
  refine kl (lc ?_)
  obtain rfl := sj hm
  exact oU (v := p) rfl rfl (jl b.has Mh (C9 m) rfl aZ aD) ⟨_, _, _, rfl, (b.lO (Db (Kb Sn))), B, d, (ST.kz b (mh.mem (Db (Kb Sn)))), (.slice none 0 0), rfl, rfl, (Sl.nil _ _ _)⟩
 refine kn ?_
 replace b := b.jc (Db St)
 refine sg (Wm (bS hm fun d2 c2 hm => ?_))
 refine VE (eD b (bX _) call299 (fun n => (AE P r6 _ _ n (a3.mono jj.mono (jC.refl _)) c2)) ?_ (L0 := []))
 rintro _ f5 f9 e3 b N h ⟨d5, c7, I, rfl, c4⟩
 obtain rfl := I.symm
 replace b := b.perm (Tr Tn)
 refine bS hm fun z c3 hm => ?_
 refine VE (eD b (Cr Qz Cn) call302 (fun n => (wR d5 d2 c7 (.func (.func 61) #[] #[]) (fun (x : (Formula × Formula)) => mE jB x.1 x.2) _ _ n c4 ⟨61, #[], #[], rfl, call61, fun W x vs r hs s hm => by obtain ⟨_, _, rfl, U, d0⟩ := s; obtain ⟨L, rfl, A⟩ := U.out; obtain ⟨t0, rfl, j0⟩ := d0.out; exact (wM jB) x.1 L x.2 t0 r W A j0 hm⟩ c3)) ?_)
 rintro _ f6 d7 e4 b Q l ⟨d6, J, rfl, y⟩
 obtain rfl := J.symm
 refine Wa (ln (jt (CJ hm (fun O E W => ∃ a5, ST false (keys ((j, Ol (ko a0) 224) :: [])) w W d7 ((R, Ol C4 30) :: ((j, Ol (ko O) 224) :: a5)) ∧ E 1 = (.int .i64 c) ∧ E 6 = (.pointer (some ⟨R, 0, none⟩)) ∧ E 8 = d6) (fun O u => ?_) ?_)))
 ·refine sg (Wm (V (lT aG rfl y) (Wi rfl (ln (CI u rfl (fun b9 u => ?_) (fun b9 u => ?_))))))
  ·refine jq (Wm (Wn (Wf H9 ?_)))
   replace b := b.perm (Nb (Pb Pz) Nz)
   refine VO (jz (.int .i64 12) ((ko (⟨12⟩ : jF)).toArray) b rfl rfl sizeOf109 (Cw _ 12) nb rfl (fun f1 b => ln ?_))
   obtain rfl := sj u
   exact ⟨_, (b.jc (Sb (Pb Pz) St)), rfl, rfl, rfl⟩
  refine kn ?_
  obtain rfl := sj u
  exact ⟨_, (b.jc St), rfl, rfl, rfl⟩
 rintro f8 E W ⟨a5, b, c9, M, T⟩ g
 refine jt (sg (Wh T (V (lT aG rfl y) (Wi rfl (ln (CI g rfl (fun b7 g => ?_) (fun b7 g => ?_)))))))
 ·refine sg (Wh T (bS g fun a Z g => VQ (mW (i := 0) (x0 := a) iZ.out aG aD rfl rfl y (jG Z) (jD Z)) (fun f2 ⟨_, ⟨f7, rfl, Y⟩, c0⟩ => V (jd rfl (jJ b.has c0 aZ aD)) ?_)))
  obtain ⟨D, G, rfl⟩ := Y.form
  let a4 := (C1 a.Op a.K a.iX.ja a.iX.Word D a.Kids.length G)
  refine VO (jz (.agg a4.toArray) (a4.toArray) b M rfl aD oc nb rfl (fun e9 b => lt (lc ?_)))
  obtain rfl := sj g
  exact oU (v := (.agg a4.toArray)) rfl M (jl b.has Mh a4 rfl aZ aD) ⟨_, _, _, rfl, (b.lO (Db (Kb Sn))), ((B.trans N).trans Q), ((d.trans h).trans l), (ST.kz b (mh.mem (Db (Kb Sn)))), (.slice D a.Kids.length G), rfl, rfl, Y⟩
 refine kg (Wh c9 (Wh T ?_))
 obtain ⟨k, t, rfl⟩ := y.form
 let a9 : Value := (.slice k z.length t)
 let o : Value := (.agg #[(.int .i64 c), (.int .i64 0), (.string zS), (.string zS), a9])
 refine V (lY (v := o) (xC rfl rfl) (li bL cC (yJ _ cC) kr)) (VO (jz o (#[(.int .i64 c), (.int .i64 0), (.string zS), (.string zS), a9]) b M rfl aD oc nb rfl (fun f0 b => lt ?_)))
 obtain rfl := sj g
 exact oU (v := o) rfl M (jl b.has Mh [(.int .i64 c), (.int .i64 0), (.string zS), (.string zS), a9] rfl aZ aD) ⟨_, _, _, rfl, (b.lO (Db (Kb Sn))), ((B.trans N).trans Q), ((d.trans h).trans l), (ST.kz b (mh.mem (Db (Kb Sn)))), a9, rfl, rfl, y⟩
end Go.Proofs.YtjjjihkifgdhgaaGreatDoor
