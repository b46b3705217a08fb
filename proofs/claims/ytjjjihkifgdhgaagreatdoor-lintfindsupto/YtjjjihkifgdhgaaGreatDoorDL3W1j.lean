/- a part of a proof of LintFinds -/
import Derived.Test.YtjjjihkifgdhgaaGreatDoorDL3Mj
import Derived.Test.YtjjjihkifgdhgaaGreatDoorProg
set_option linter.all false
namespace Go.Proofs.YtjjjihkifgdhgaaGreatDoor
open Go.IntKind renaming wrap → wi0
open Go.Proofs.Tryz renaming prog → pg0
open Go.RowKit
set_option maxRecDepth 10000
open Tryz
def aC := @sizeOf30
def aD := @underlying28
def aK := @isAgg30
def aM := @sizeOf52
def aP := @zeroValue30
def aR := @underlying45
def aS := @sizeOf27
def bF := @isAgg27
def bG := @underlying30
def bN := @underlying37
def bT := @isAgg9
def bU := @isAgg52
def bX := @isAgg3
def bZ := @underlying9
def cL := @underlying40
def cM := @sizeOf25
def cR := @underlying226
def cT := @zeroValue52
def cU := @underlying53
def cX := @underlying23
def cY := @isAgg25
def dl := @zeroValue40
def dn := @sizeOf57
def dt := @underlying22
def dv := @sizeOf132
def dw := @underlying152
def dB := @sizeOf285
def dG := @sizeOf40
def dI := @isAgg28
def dN := @underlying27
def dR := @underlying3
def eb := @eqGuardType27
def ep := @underlying52
def er := @underlying65
def eA := @zeroValue27
def eH := @zeroValue285
def eJ := @underlying285
def eK := @underlying246
def eL := @underlying242
def eO := @zeroValue57
def eY := @eqGuardType52
def eZ := @underlying271
def fb := @sizeOf9
def fk := @underlying25
def fl := @zeroValue247
def fp := @zeroValue132
def fu := @underlying247
def fG := @underlying5
def fK := @underlying34
def fS := @underlying215
def fT := @underlying213
def gu := @sizeOf3
def gv := @isAgg285
def gw := @isAgg57
def gE := @underlying165
def gJ := @isAgg242
def gK := @isAgg132
def gU := @underlying57
def gV := @isAgg22
def gW := @underlying91
def iv := @sizeOf53
def iI := @zeroValue45
def iJ := @isAgg53
def iN := @underlying175
def iO := @underlying224
def iU := @sizeOf55
def iV := @sizeOf34
def iZ := @isAgg45
def ja := @zeroValue4
def jb := @zeroValue5
def jc := @underlying66
def jo := @call206
abbrev K0 : jq := ⟨zS, zS⟩
abbrev K1 : jV := ⟨4, 0, 0⟩
abbrev K2 : jV := ⟨5, 0, 0⟩
abbrev K3 : ByteArray := ⟨#[111, 119, 110]⟩
abbrev K4 : ByteArray := ⟨#[99, 108, 105]⟩
abbrev K5 : kD := ⟨0⟩
abbrev K6 : jr := ⟨0, K0, zS, K0, K0, zS⟩
abbrev C1 (b d : Int) (g h : ByteArray) (i : Option Addr) (j l : Nat) : List Value := [(.int .i64 b), (.int .i64 d), (.string g), (.string h), (.slice i j l)]
abbrev C2 (p : Int) (q r s t u v w x : ByteArray) (y : Option Addr) (b d : Nat) (g h : Int) (i j : ByteArray) (l : Option Addr) (m n : Nat) : List Value := [(.int .i64 p), (.string q), (.string r), (.string s), (.string t), (.string u), (.string v), (.string w), (.string x), (.slice y b d), (.int .i64 g), (.int .i64 h), (.string i), (.string j), (.slice l m n)]
abbrev C3 (b : ByteArray) (d : Option Addr) (g h : Nat) (i : Option Addr) (j l : Nat) : List Value := [(.string b), (.slice d g h), (.slice i j l)]
abbrev C4 : List Value := [(.int .i64 0), (.int .i64 0), (.string zS), (.string zS), (.slice none 0 0)]
abbrev C5 (A : ByteArray) (E : Option Addr) (G I : Nat) (J : Option Addr) (L M : Nat) (O : ByteArray) (P : Option Addr) (Q b : Nat) (d : Option Addr) (g h : Nat) (i j : Int) (l m : ByteArray) (n : Option Addr) (p q : Nat) (r s t u v w : Int) (x : Option Addr) (y z : Nat) : List Value := [(.string A), (.slice E G I), (.slice J L M), (.string O), (.slice P Q b), (.slice d g h), (.int .i64 i), (.int .i64 j), (.string l), (.string m), (.slice n p q), (.int .i64 r), (.int .i64 s), (.int .i64 t), (.int .i64 u), (.int .i64 v), (.int .i64 w), (.slice x y z)]
abbrev C6 (g h : ByteArray) (i j : Int) (l m : ByteArray) (n : Option Addr) (p q : Nat) (r : Option Addr) (b d : Nat) : List Value := [(.string g), (.string h), (.int .i64 i), (.int .i64 j), (.string l), (.string m), (.slice n p q), (.slice r b d)]
abbrev C7 (g : Int) (h i j l m n p q : ByteArray) (r : Option Addr) (b d : Nat) : List Value := [(.int .i64 g), (.string h), (.string i), (.string j), (.string l), (.string m), (.string n), (.string p), (.string q), (.slice r b d)]
abbrev C8 : List Value := [(.int .i64 0), (.string (K0.js)), (.string (K0.Word)), (.string zS), (.string (K0.js)), (.string (K0.Word)), (.string (K0.js)), (.string (K0.Word)), (.string zS), (.slice none 0 0), (.int .i64 0), (.int .i64 0), (.string zS), (.string zS), (.slice none 0 0)]
abbrev C9 (b : Int) : List Value := [(.int .i64 b), (.int .i64 0), (.string zS), (.string zS), (.slice none 0 0)]
abbrev Pw : List Value := [(.string K3), (.slice none 0 0), (.slice none 0 0), (.string K4), (.slice none 0 0), (.slice none 0 0), (.int .i64 2), (.int .i64 0), (.string zS), (.string zS), (.slice none 0 0), (.int .i64 0), (.int .i64 0), (.int .i64 0), (.int .i64 0), (.int .i64 0), (.int .i64 0), (.slice none 0 0)]
abbrev Ez : List Value := [(.int .i64 2), (.int .i64 0), (.string zS), (.string zS), (.slice none 0 0)]
abbrev SU (b : Int) (d : Option Addr) (g h : Nat) : List Value := [(.int .i64 b), (.int .i64 0), (.string zS), (.string zS), (.slice d g h)]
abbrev SO (b : Int) (d : Option Addr) (g h : Nat) : List Value := [(.int .i64 4), (.int .i64 b), (.string zS), (.string zS), (.slice d g h)]
abbrev Fq : List Value := [(.int .i64 3), (.int .i64 0), (.string zS), (.string zS), (.slice none 0 0)]
theorem kd : Tryz.prog.follows .mixedOrders = true := by rfl
theorem uv : Tryz.prog.info? 5 = some Tryz.t5 ∧ Tryz.t5.zero = some (.int .u8 0) ∧ Tryz.t5.size = 1 ∧ Tryz.t5.bytes = 1 := ⟨by kernel_rfl, by kernel_rfl, by kernel_rfl, by kernel_rfl⟩
theorem BG : Tryz.prog.info? 9 = some Tryz.t9 ∧ Tryz.t9.zero = some (.string ⟨#[]⟩) ∧ Tryz.t9.size = 1 ∧ Tryz.t9.bytes = 16 := ⟨by kernel_rfl, by kernel_rfl, by kernel_rfl, by kernel_rfl⟩
theorem vp : Tryz.prog.info? 27 = some Tryz.t27 ∧ Tryz.t27.zero = some (.agg #[(.string ⟨#[]⟩), (.string ⟨#[]⟩)]) ∧ Tryz.t27.size = 2 ∧ Tryz.t27.bytes = 32 := ⟨by kernel_rfl, by kernel_rfl, by kernel_rfl, by kernel_rfl⟩
theorem lL : Tryz.prog.info? 30 = some Tryz.t30 ∧ Tryz.t30.zero = some (.agg #[(.int .i64 0), (.int .i64 0), (.string ⟨#[]⟩), (.string ⟨#[]⟩), (.slice none 0 0)]) ∧ Tryz.t30.size = 5 ∧ Tryz.t30.bytes = 72 := ⟨by kernel_rfl, by kernel_rfl, by kernel_rfl, by kernel_rfl⟩
theorem mr : Tryz.prog.info? 40 = some Tryz.t40 ∧ Tryz.t40.zero = some (.agg #[(.int .i64 0), (.int .i64 0), (.int .i64 0)]) ∧ Tryz.t40.size = 3 ∧ Tryz.t40.bytes = 24 := ⟨by kernel_rfl, by kernel_rfl, by kernel_rfl, by kernel_rfl⟩
theorem mT : Tryz.prog.info? 52 = some Tryz.t52 ∧ Tryz.t52.zero = some (.agg #[(.int .i64 0), (.string ⟨#[]⟩), (.string ⟨#[]⟩), (.string ⟨#[]⟩), (.string ⟨#[]⟩), (.string ⟨#[]⟩), (.string ⟨#[]⟩), (.string ⟨#[]⟩), (.string ⟨#[]⟩)]) ∧ Tryz.t52.size = 9 ∧ Tryz.t52.bytes = 136 := ⟨by kernel_rfl, by kernel_rfl, by kernel_rfl, by kernel_rfl⟩
theorem ET : Tryz.prog.info? 132 = some Tryz.t132 ∧ Tryz.t132.zero = some (.agg #[(.string ⟨#[]⟩), (.string ⟨#[]⟩), (.int .i64 0), (.int .i64 0), (.string ⟨#[]⟩), (.string ⟨#[]⟩), (.slice none 0 0), (.slice none 0 0)]) ∧ Tryz.t132.size = 8 ∧ Tryz.t132.bytes = 128 := ⟨by kernel_rfl, by kernel_rfl, by kernel_rfl, by kernel_rfl⟩
theorem tG : Tryz.prog.info? 285 = some Tryz.t285 ∧ Tryz.t285.zero = some (.agg #[(.string ⟨#[]⟩), (.string ⟨#[]⟩), (.string ⟨#[]⟩)]) ∧ Tryz.t285.size = 3 ∧ Tryz.t285.bytes = 48 := ⟨by kernel_rfl, by kernel_rfl, by kernel_rfl, by kernel_rfl⟩
theorem oR : lG pg0 27 0 0 := kH dN rfl fb (by decide) rfl
theorem tO : lG pg0 27 1 1 := kH dN rfl fb (by decide) rfl
theorem OG : (Tryz.prog.fieldsOf 27).toList = (match Tryz.prog.underlying 27 with | some (.struct fs) => fs.toList | _ => []) := by rw [dN]; simp [Program.fieldsOf, dN]
theorem pe (d : Nat) (x y : jq) (W : World) : (Op.equalIn (d + 2) 27 (.agg (jA x).toArray) (.agg (jA y).toArray)).run pg0 W = .ok (jR x y) W := by
 rw [iu W (d + 1) 27 _ _ (by kernel_rfl) Tryz.stoodInHeld27, OG, dN]
 exact (ov (by decide) (oF bT rfl) (oF bT rfl) (Ph bZ _ _ _ _) (ov (by decide) (oF bT rfl) (oF bT rfl) (Ph bZ _ _ _ _) (AK _ _ _)))
theorem LX : ∀ fs, Tryz.prog.underlying 27 = some (.struct fs) → ∀ w, (fs.mapM (fun (f : Field) => do pure (f.offset, ← sizeOf f.type)) : Sem (Array (Nat × Nat))).run pg0 w = .ok #[(0, 1), (1, 1)] w := by
 intro fs h w
 rw [dN] at h
 cases h
 kernel_rfl
theorem pY : lG pg0 52 0 0 := kH ep rfl gu (by decide) rfl
theorem qT : lG pg0 52 1 1 := kH ep rfl aS (by decide) rfl
theorem wg : lG pg0 52 2 3 := kH ep rfl fb (by decide) rfl
theorem ny : lG pg0 52 3 4 := kH ep rfl aS (by decide) rfl
theorem rI : lG pg0 52 4 6 := kH ep rfl aS (by decide) rfl
theorem tX : lG pg0 52 5 8 := kH ep rfl fb (by decide) rfl
theorem O3 : (Tryz.prog.fieldsOf 52).toList = (match Tryz.prog.underlying 52 with | some (.struct fs) => fs.toList | _ => []) := by rw [ep]; simp [Program.fieldsOf, ep]
theorem wo (d : Nat) (x y : jr) (W : World) : (Op.equalIn (d + 3) 52 (.agg (jw x).toArray) (.agg (jw y).toArray)).run pg0 W = .ok (lu x y) W := by
 rw [iu W (d + 2) 52 _ _ (by kernel_rfl) Tryz.stoodInHeld52, O3, ep]
 exact (ov (by decide) (oF bX rfl) (oF bX rfl) (Pj dR _ _ _ _) (ov (by decide) (yV bF aS rfl) (yV bF aS rfl) (pe _ x.Head y.Head W) (ov (by decide) (oF bT rfl) (oF bT rfl) (Ph bZ _ _ _ _) (ov (by decide) (yV bF aS rfl) (yV bF aS rfl) (pe _ x.B y.B W) (ov (by decide) (yV bF aS rfl) (yV bF aS rfl) (pe _ x.C y.C W) (ov (by decide) (oF bT rfl) (oF bT rfl) (Ph bZ _ _ _ _) (AK _ _ _)))))))
theorem TF : ∀ fs, Tryz.prog.underlying 52 = some (.struct fs) → ∀ w, (fs.mapM (fun (f : Field) => do pure (f.offset, ← sizeOf f.type)) : Sem (Array (Nat × Nat))).run pg0 w = .ok #[(0, 1), (1, 2), (3, 1), (4, 2), (6, 2), (8, 1)] w := by
 intro fs h w
 rw [ep] at h
 cases h
 kernel_rfl
theorem CG : lG pg0 40 0 0 := kH cL rfl gu (by decide) rfl
theorem Nc : lG pg0 40 1 1 := kH cL rfl gu (by decide) rfl
theorem NI : lG pg0 40 2 2 := kH cL rfl gu (by decide) rfl
theorem Ox : (Tryz.prog.fieldsOf 40).toList = (match Tryz.prog.underlying 40 with | some (.struct fs) => fs.toList | _ => []) := by rw [cL]; simp [Program.fieldsOf, cL]
theorem Kw (d : Nat) (x y : jV) (W : World) : (Op.equalIn (d + 2) 40 (.agg (jN x).toArray) (.agg (jN y).toArray)).run pg0 W = .ok (yy x y) W := by
 rw [iu W (d + 1) 40 _ _ (by kernel_rfl) Tryz.stoodInHeld40, Ox, cL]
 exact (ov (by decide) (oF bX rfl) (oF bX rfl) (Pj dR _ _ _ _) (ov (by decide) (oF bX rfl) (oF bX rfl) (Pj dR _ _ _ _) (ov (by decide) (oF bX rfl) (oF bX rfl) (Pj dR _ _ _ _) (AK _ _ _))))
theorem BT : ∀ fs, Tryz.prog.underlying 40 = some (.struct fs) → ∀ w, (fs.mapM (fun (f : Field) => do pure (f.offset, ← sizeOf f.type)) : Sem (Array (Nat × Nat))).run pg0 w = .ok #[(0, 1), (1, 1), (2, 1)] w := by
 intro fs h w
 rw [cL] at h
 cases h
 kernel_rfl
theorem Hp : lG pg0 175 0 0 := kH iN rfl sizeOf4 (by decide) rfl
theorem Sd : ∀ fs, Tryz.prog.underlying 175 = some (.struct fs) → ∀ w, (fs.mapM (fun (f : Field) => do pure (f.offset, ← sizeOf f.type)) : Sem (Array (Nat × Nat))).run pg0 w = .ok #[(0, 1)] w := by
 intro fs h w
 rw [iN] at h
 cases h
 kernel_rfl
theorem wN : lG pg0 285 0 0 := kH eJ rfl aS (by decide) rfl
theorem vy : lG pg0 285 1 2 := kH eJ rfl fb (by decide) rfl
theorem LB : ∀ fs, Tryz.prog.underlying 285 = some (.struct fs) → ∀ w, (fs.mapM (fun (f : Field) => do pure (f.offset, ← sizeOf f.type)) : Sem (Array (Nat × Nat))).run pg0 w = .ok #[(0, 2), (2, 1)] w := by
 intro fs h w
 rw [eJ] at h
 cases h
 kernel_rfl
theorem KJ : lG pg0 224 0 0 := kH iO rfl sizeOf109 (by decide) rfl
theorem Si : ∀ fs, Tryz.prog.underlying 224 = some (.struct fs) → ∀ w, (fs.mapM (fun (f : Field) => do pure (f.offset, ← sizeOf f.type)) : Sem (Array (Nat × Nat))).run pg0 w = .ok #[(0, 1)] w := by
 intro fs h w
 rw [iO] at h
 cases h
 kernel_rfl
theorem ux : lG pg0 55 0 0 := kH underlying55 rfl aM (by decide) rfl
theorem Q3 : lG pg0 55 1 9 := kH underlying55 rfl iv (by decide) rfl
theorem mZ : lG pg0 30 0 0 := kH bG rfl gu (by decide) rfl
theorem qX : lG pg0 30 1 1 := kH bG rfl gu (by decide) rfl
theorem tb : lG pg0 30 2 2 := kH bG rfl aS (by decide) rfl
theorem ng : lG pg0 30 3 4 := kH bG rfl sizeOf28 (by decide) rfl
theorem tE : ∀ fs, Tryz.prog.underlying 30 = some (.struct fs) → ∀ w, (fs.mapM (fun (f : Field) => do pure (f.offset, ← sizeOf f.type)) : Sem (Array (Nat × Nat))).run pg0 w = .ok #[(0, 1), (1, 1), (2, 2), (4, 1)] w := by
 intro fs h w
 rw [bG] at h
 cases h
 kernel_rfl
theorem uL : lG pg0 57 0 0 := kH gU rfl iU (by decide) rfl
theorem JQ : lG pg0 57 1 10 := kH gU rfl aC (by decide) rfl
theorem Tp : ∀ fs, Tryz.prog.underlying 57 = some (.struct fs) → ∀ w, (fs.mapM (fun (f : Field) => do pure (f.offset, ← sizeOf f.type)) : Sem (Array (Nat × Nat))).run pg0 w = .ok #[(0, 10), (10, 5)] w := by
 intro fs h w
 rw [gU] at h
 cases h
 kernel_rfl
theorem KN : lG pg0 132 0 0 := kH underlying132 rfl aS (by decide) rfl
theorem Hh : lG pg0 132 1 2 := kH underlying132 rfl aC (by decide) rfl
theorem Cq : lG pg0 132 2 7 := kH underlying132 rfl sizeOf45 (by decide) rfl
theorem yu : lG pg0 25 0 0 := kH fk rfl fb (by decide) rfl
theorem xd : lG pg0 25 1 1 := kH fk rfl sizeOf22 (by decide) rfl
theorem Ef : lG pg0 25 2 2 := kH fk rfl sizeOf23 (by decide) rfl
theorem RI : ∀ fs, Tryz.prog.underlying 25 = some (.struct fs) → ∀ w, (fs.mapM (fun (f : Field) => do pure (f.offset, ← sizeOf f.type)) : Sem (Array (Nat × Nat))).run pg0 w = .ok #[(0, 1), (1, 1), (2, 1)] w := by
 intro fs h w
 rw [fk] at h
 cases h
 kernel_rfl
theorem QD : lG pg0 119 0 0 := kH underlying119 rfl fb (by decide) rfl
theorem Qm : lG pg0 119 1 1 := kH underlying119 rfl iv (by decide) rfl
theorem xi : lG pg0 34 0 0 := kH fK rfl cM (by decide) rfl
theorem xg : lG pg0 34 1 3 := kH fK rfl cM (by decide) rfl
theorem Cx : lG pg0 34 2 6 := kH fK rfl aC (by decide) rfl
theorem Ry : lG pg0 34 8 17 := kH fK rfl sizeOf32 (by decide) rfl
theorem TB : ∀ fs, Tryz.prog.underlying 34 = some (.struct fs) → ∀ w, (fs.mapM (fun (f : Field) => do pure (f.offset, ← sizeOf f.type)) : Sem (Array (Nat × Nat))).run pg0 w = .ok #[(0, 3), (3, 3), (6, 5), (11, 1), (12, 2), (14, 1), (15, 1), (16, 1), (17, 1)] w := by
 intro fs h w
 rw [fK] at h
 cases h
 kernel_rfl
theorem wL : lG pg0 246 0 0 := kH eK rfl sizeOf242 (by decide) rfl
theorem He : lG pg0 246 1 1 := kH eK rfl sizeOf45 (by decide) rfl
theorem KM : lG pg0 246 2 2 := kH eK rfl sizeOf243 (by decide) rfl
theorem Hd : lG pg0 246 3 3 := kH eK rfl sizeOf244 (by decide) rfl
theorem AA : lG pg0 246 4 4 := kH eK rfl sizeOf226 (by decide) rfl
theorem EV : lG pg0 246 5 5 := kH eK rfl gu (by decide) rfl
theorem SH : ∀ fs, Tryz.prog.underlying 246 = some (.struct fs) → ∀ w, (fs.mapM (fun (f : Field) => do pure (f.offset, ← sizeOf f.type)) : Sem (Array (Nat × Nat))).run pg0 w = .ok #[(0, 1), (1, 1), (2, 1), (3, 1), (4, 1), (5, 1)] w := by
 intro fs h w
 rw [eK] at h
 cases h
 kernel_rfl
theorem yT : lG pg0 215 0 0 := kH fS rfl iv (by decide) rfl
theorem Pg : ∀ fs, Tryz.prog.underlying 215 = some (.struct fs) → ∀ w, (fs.mapM (fun (f : Field) => do pure (f.offset, ← sizeOf f.type)) : Sem (Array (Nat × Nat))).run pg0 w = .ok #[(0, 1)] w := by
 intro fs h w
 rw [fS] at h
 cases h
 kernel_rfl
def sL : pI Signed := fun μ ys x => ∃ (v0 : Value), ys = [.int .i64 x.jr.Kind, .string x.jr.Head.js, .string x.jr.Head.Word, .string x.jr.kz, .string x.jr.B.js, .string x.jr.B.Word, .string x.jr.C.js, .string x.jr.C.Word, .string x.jr.kK, v0] ∧ Sl (Pl (kN .u8)) 1 μ v0 x.Tag
theorem sL.out {μ : kk} {ys : List Value} {x : Signed} (h : sL μ ys x) : ∃ (v0 : Value), ys = [.int .i64 x.jr.Kind, .string x.jr.Head.js, .string x.jr.Head.Word, .string x.jr.kz, .string x.jr.B.js, .string x.jr.B.Word, .string x.jr.C.js, .string x.jr.C.Word, .string x.jr.kK, v0] ∧ Sl (Pl (kN .u8)) 1 μ v0 x.Tag := h
theorem sL.mk {μ : kk} {ys : List Value} {x : Signed} (h : ∃ (v0 : Value), ys = [.int .i64 x.jr.Kind, .string x.jr.Head.js, .string x.jr.Head.Word, .string x.jr.kz, .string x.jr.B.js, .string x.jr.B.Word, .string x.jr.C.js, .string x.jr.C.Word, .string x.jr.kK, v0] ∧ Sl (Pl (kN .u8)) 1 μ v0 x.Tag) : sL μ ys x := h
theorem Aw : Deep sL 10 where
 mono := by rintro _ _ _ _ d ⟨v0, rfl, b⟩; exact ⟨v0, rfl, b.mono (Pl.mono _) d⟩
 len := by rintro _ _ _ ⟨v0, rfl, b⟩; rfl
 one := by
  rintro _ _ _ ⟨v0, rfl, b⟩
  intro u hu; simp only [aQ, cW, eX] at hu; rcases hu with rfl | rfl | rfl | rfl | rfl | rfl | rfl | rfl | rfl | rfl
  ·rfl
  ·rfl
  ·rfl
  ·rfl
  ·rfl
  ·rfl
  ·rfl
  ·rfl
  ·rfl
  ·exact b.Aj
def xq : Nat → pI Formula
 | 0 => fun _ _ _ => False
 | n + 1 => fun μ ys x => ∃ (v0 : Value), ys = [.int .i64 x.Op, .int .i64 x.K, .string x.jq.js, .string x.jq.Word, v0] ∧ Sl (xq n) 5 μ v0 x.Kids
def jt : pI Formula := fun μ ys x => ∃ n, xq n μ ys x
theorem DT : ∀ n, Gl (xq n)
 | 0 => fun _ _ _ _ _ h => h
 | n + 1 => by rintro _ _ _ _ d ⟨v0, rfl, b⟩; exact ⟨v0, rfl, b.mono (DT n) d⟩
theorem Gr : ∀ n m (μ : kk) (ys : List Value) (x : Formula), n ≤ m → xq n μ ys x → xq m μ ys x
 | 0, _, _, _, _, _, h => h.elim
 | n + 1, 0, _, _, _, b, _ => absurd b (by omega)
 | n + 1, m + 1, μ, ys, x, b, h => by
  obtain ⟨v0, rfl, d⟩ := h
  exact ⟨v0, rfl, d.imp fun ys x h => Gr n m μ ys x (by omega) h⟩
theorem jt.out {μ : kk} {ys : List Value} {x : Formula} (h : jt μ ys x) : ∃ (v0 : Value), ys = [.int .i64 x.Op, .int .i64 x.K, .string x.jq.js, .string x.jq.Word, v0] ∧ Sl jt 5 μ v0 x.Kids := by
 obtain ⟨n, h⟩ := h
 cases n with
 | zero => exact h.elim
 | succ n =>
  obtain ⟨v0, rfl, b⟩ := h
  exact ⟨v0, rfl, b.imp fun ys x h => ⟨n, h⟩⟩
theorem jt.mk {μ : kk} {ys : List Value} {x : Formula} (h : ∃ (v0 : Value), ys = [.int .i64 x.Op, .int .i64 x.K, .string x.jq.js, .string x.jq.Word, v0] ∧ Sl jt 5 μ v0 x.Kids) : jt μ ys x := by
 obtain ⟨v0, rfl, d⟩ := h
 obtain ⟨n, i⟩ := d.SI (fun _ _ h => h) (fun a b ys x g h => Gr a b _ ys x g h)
 exact ⟨n + 1, v0, rfl, i⟩
theorem jD : Deep jt 5 where
 mono := fun _ _ _ _ d ⟨n, h⟩ => ⟨n, DT n _ _ _ _ d h⟩
 len := by rintro _ _ _ h; obtain ⟨v0, rfl, b⟩ := h.out; rfl
 one := by
  rintro _ _ _ h
  obtain ⟨v0, rfl, b⟩ := h.out
  intro u hu; simp only [aQ, cW, eX] at hu; rcases hu with rfl | rfl | rfl | rfl | rfl
  ·rfl
  ·rfl
  ·rfl
  ·rfl
  ·exact b.Aj
def ko : pI lD := fun μ ys x => ∃ (v0 : Value) (v1 : Value), ys = [.int .i64 x.Signed.jr.Kind, .string x.Signed.jr.Head.js, .string x.Signed.jr.Head.Word, .string x.Signed.jr.kz, .string x.Signed.jr.B.js, .string x.Signed.jr.B.Word, .string x.Signed.jr.C.js, .string x.Signed.jr.C.Word, .string x.Signed.jr.kK, v0, .int .i64 x.jx.Op, .int .i64 x.jx.K, .string x.jx.jq.js, .string x.jx.jq.Word, v1] ∧ Sl (Pl (kN .u8)) 1 μ v0 x.Signed.Tag ∧ Sl jt 5 μ v1 x.jx.Kids
theorem ko.out {μ : kk} {ys : List Value} {x : lD} (h : ko μ ys x) : ∃ (v0 : Value) (v1 : Value), ys = [.int .i64 x.Signed.jr.Kind, .string x.Signed.jr.Head.js, .string x.Signed.jr.Head.Word, .string x.Signed.jr.kz, .string x.Signed.jr.B.js, .string x.Signed.jr.B.Word, .string x.Signed.jr.C.js, .string x.Signed.jr.C.Word, .string x.Signed.jr.kK, v0, .int .i64 x.jx.Op, .int .i64 x.jx.K, .string x.jx.jq.js, .string x.jx.jq.Word, v1] ∧ Sl (Pl (kN .u8)) 1 μ v0 x.Signed.Tag ∧ Sl jt 5 μ v1 x.jx.Kids := h
theorem ko.mk {μ : kk} {ys : List Value} {x : lD} (h : ∃ (v0 : Value) (v1 : Value), ys = [.int .i64 x.Signed.jr.Kind, .string x.Signed.jr.Head.js, .string x.Signed.jr.Head.Word, .string x.Signed.jr.kz, .string x.Signed.jr.B.js, .string x.Signed.jr.B.Word, .string x.Signed.jr.C.js, .string x.Signed.jr.C.Word, .string x.Signed.jr.kK, v0, .int .i64 x.jx.Op, .int .i64 x.jx.K, .string x.jx.jq.js, .string x.jx.jq.Word, v1] ∧ Sl (Pl (kN .u8)) 1 μ v0 x.Signed.Tag ∧ Sl jt 5 μ v1 x.jx.Kids) : ko μ ys x := h
theorem kB : Deep ko 15 where
 mono := by rintro _ _ _ _ d ⟨v0, v1, rfl, b, h1⟩; exact ⟨v0, v1, rfl, b.mono (Pl.mono _) d, h1.mono jD.mono d⟩
 len := by rintro _ _ _ ⟨v0, v1, rfl, b, h1⟩; rfl
 one := by
  rintro _ _ _ ⟨v0, v1, rfl, b, h1⟩
  intro u hu; simp only [aQ, cW, eX] at hu; rcases hu with rfl | rfl | rfl | rfl | rfl | rfl | rfl | rfl | rfl | rfl | rfl | rfl | rfl | rfl | rfl
  ·rfl
  ·rfl
  ·rfl
  ·rfl
  ·rfl
  ·rfl
  ·rfl
  ·rfl
  ·rfl
  ·exact b.Aj
  ·rfl
  ·rfl
  ·rfl
  ·rfl
  ·exact h1.Aj
def kQ : pI nI := fun μ ys x => ∃ (v0 : Value) (v1 : Value), ys = [.string x.jq.js, .string x.jq.Word, .int .i64 x.jx.Op, .int .i64 x.jx.K, .string x.jx.jq.js, .string x.jx.jq.Word, v0, v1] ∧ Sl jt 5 μ v0 x.jx.Kids ∧ Sl (Pl jw) 9 μ v1 x.lj
theorem kQ.out {μ : kk} {ys : List Value} {x : nI} (h : kQ μ ys x) : ∃ (v0 : Value) (v1 : Value), ys = [.string x.jq.js, .string x.jq.Word, .int .i64 x.jx.Op, .int .i64 x.jx.K, .string x.jx.jq.js, .string x.jx.jq.Word, v0, v1] ∧ Sl jt 5 μ v0 x.jx.Kids ∧ Sl (Pl jw) 9 μ v1 x.lj := h
theorem kQ.mk {μ : kk} {ys : List Value} {x : nI} (h : ∃ (v0 : Value) (v1 : Value), ys = [.string x.jq.js, .string x.jq.Word, .int .i64 x.jx.Op, .int .i64 x.jx.K, .string x.jx.jq.js, .string x.jx.jq.Word, v0, v1] ∧ Sl jt 5 μ v0 x.jx.Kids ∧ Sl (Pl jw) 9 μ v1 x.lj) : kQ μ ys x := h
theorem mi : Deep kQ 8 where
 mono := by rintro _ _ _ _ d ⟨v0, v1, rfl, b, h1⟩; exact ⟨v0, v1, rfl, b.mono jD.mono d, h1.mono (Pl.mono _) d⟩
 len := by rintro _ _ _ ⟨v0, v1, rfl, b, h1⟩; rfl
 one := by
  rintro _ _ _ ⟨v0, v1, rfl, b, h1⟩
  intro u hu; simp only [aQ, cW, eX] at hu; rcases hu with rfl | rfl | rfl | rfl | rfl | rfl | rfl | rfl
  ·rfl
  ·rfl
  ·rfl
  ·rfl
  ·rfl
  ·rfl
  ·exact b.Aj
  ·exact h1.Aj
def tW : pI Key := fun μ ys x => ∃ (v0 : Value), ys = [.string x.kz, v0] ∧ Sl (Pl (kN .u8)) 1 μ v0 x.Key
theorem tW.out {μ : kk} {ys : List Value} {x : Key} (h : tW μ ys x) : ∃ (v0 : Value), ys = [.string x.kz, v0] ∧ Sl (Pl (kN .u8)) 1 μ v0 x.Key := h
theorem tW.mk {μ : kk} {ys : List Value} {x : Key} (h : ∃ (v0 : Value), ys = [.string x.kz, v0] ∧ Sl (Pl (kN .u8)) 1 μ v0 x.Key) : tW μ ys x := h
theorem Jz : Deep tW 2 where
 mono := by rintro _ _ _ _ d ⟨v0, rfl, b⟩; exact ⟨v0, rfl, b.mono (Pl.mono _) d⟩
 len := by rintro _ _ _ ⟨v0, rfl, b⟩; rfl
 one := by
  rintro _ _ _ ⟨v0, rfl, b⟩
  intro u hu; simp only [aQ, cW, eX] at hu; rcases hu with rfl | rfl
  ·rfl
  ·exact b.Aj
theorem GA : pc pg0 9 Value.string kP := pc.string bZ
theorem z6 : pc pg0 27 (fun (x : jq) => (.agg (jA x).toArray)) jR :=
 pc.struct dN (fun d x y W => pe (d + 8) x y W) (fun b k W => GH dN rfl (gI.2 ⟨fun _ => ⟨.string k.js, oF bT rfl, yp bZ _ _ _ _⟩, (gI.2 ⟨fun _ => ⟨.string k.Word, oF bT rfl, yp bZ _ _ _ _⟩, (fun _ h => by cases h)⟩)⟩))
  (fun k x h => (jS.1 h).symm) (fun k => by simp [Instr.sameBits, jA, DY, lW])
theorem RV (w : World) (s : ByteArray) (c : Int) : (callFunc 282 [Value.string s, .int .u8 c].toArray).run pg0 w = .ok (.value (.int .i64 (wQ s c))) w := Hc func282 (by kernel_rfl) (by kernel_rfl) (by kernel_rfl) (by kernel_rfl) s c w
theorem xR (a : ByteArray) (c r : Int) (w : World) (hm : og a c = some r) :
  jT true pg0 220 [(.string a), (.int .u8 c)] w (.int .i64 r) := by
 exact cG 8 func220 rfl (fun b => sg (Wa (lr (Wm (Wm (VE (IK (args := [(.string a), (.int .u8 c)]) (v := .int .i64 (wQ a c)) rfl (by exact wP rfl rfl) (RV _ a c) (Wa (lt (rQ hm b))))))))))
theorem yI (a : ByteArray) (c r : Int) (w : World) (hm : qY a c = some r) :
  jT true pg0 163 [(.string a), (.int .u8 c)] w (.int .i64 r) := by
 refine cG 8 func163 rfl (fun b => sg (Wa (lr (Wm (Wm (bS hm fun j g hm => VE (Eg b call220 (xR a c _ _  g) (fun i b => Wa (ln ?_)))))))))
 exact jZ (rQ hm b)
theorem KB (I : ByteArray) (r : Bool) (w : World) (hm : BK I = some r) :
  jT true pg0 164 [(.string I)] w (.bool r) := by
 refine cG 16 func164 rfl (fun b => sg (Wa (lS (Wm (bS hm fun H J hm => VE (Il b bZ cU fG rfl J (fun W3 N T b M n j Y => V (kJ cU rfl j) (Wm (jU ?_)))))))))
 refine jE (ku (fun i E W => ∃ c, (E 8 = .int .i64 (i : Nat) ∧ E 7 = .int .i64 (H.length : Nat)) ∧ ST true kp w W T c ∧ E 6 = N ∧ uF (H.drop i) = some r) H.length j.len ⟨_, ⟨rfl, rfl⟩, (b.ju St), rfl, hm⟩ dc dc dc (fun _ _ _ h => by obtain ⟨_, l, _⟩ := h; exact l) ?_ ?_)
 ·rintro K E W u ⟨c, ⟨d, m⟩, b, g, a⟩
  obtain ⟨k, Q, D, B, G⟩ := kc u
  rw [D] at a
  refine bg (VQ (mQ (enc := (kN .u8)) (i := (K : Int)) (x0 := k) cU sizeOf5 g d j (aG _) B) (fun Z x => V (jv rfl (oE b.has (y := (.int .u8 k)) x isAgg5)) (Wa (lr (Wm (bS a fun p z a => VE (Eg b call163 (yI (⟨#[97, 98, 99, 100, 101, 102, 103, 104, 105, 106, 107, 108, 109, 110, 111, 112, 113, 114, 115, 116, 117, 118, 119, 120, 121, 122, 48, 49, 50, 51, 52, 53, 54, 55, 56, 57, 45]⟩ : ByteArray) k _ _  z) (fun U b => Wi rfl (jU ?_)))))))))
  refine jE (CI a rfl (fun t a => ?_) (fun t a => ?_))
  ·refine sg (Wa (lt (mn (km (mn (km ?_))))))
   obtain rfl := sj a
   exact rP b
  exact kG (ke (jE ⟨d, _, ⟨rfl, m⟩, (b.ju St), g, (by rw [G]; exact a)⟩))
 rintro E W ⟨c, ⟨d, m⟩, b, g, a⟩
 rw [aH] at a
 exact jE (sg (Wa (lt (rQ a b))))
theorem vV (z : ByteArray) (r : Bool) (w : World) (hm : rO z = some r) :
  jT true pg0 93 [(.string z)] w (.bool r) := by
 refine cG 21 func93 rfl (fun b => sg (Wa (lr (Wm (V (nR bZ rfl) (Wi rfl (Wm (LJ hm (fun K E W => ∃ Y, ST true kp w W (hp w) Y ∧ E 0 = (.string z) ∧ E 2 = (.bool false) ∧ E 10 = (.bool K)) 4 ?_ (fun K t y => ?_)))))))))
 ·rintro x2 E W ⟨Y, b, M, d, l⟩ a5
  refine Wh l (LJ a5 (fun J E W => ∃ D, ST true kp w W (hp w) D ∧ E 0 = (.string z) ∧ E 2 = (.bool false) ∧ E 16 = (.bool J)) 5 ?_ (fun J a x => ?_))
  ·rintro s E W ⟨D, b, h, H, a2⟩ N
   refine Wh a2 (LJ N (fun I E W => ∃ G, ST true kp w W (hp w) G ∧ E 2 = (.bool false) ∧ E 20 = (.bool I)) 3 ?_ (fun I j u => ?_))
   ·rintro v E W ⟨G, b, a9, a3⟩ Q
    exact Wg a3 (lt (rQ Q b))
   refine bC j (fun g j => ?_) (fun g j => ?_)
   ·refine ug g (jC h) (bS j fun p T j => rB g (Eg b call164 (KB z _ _  T) (fun m b => V (jM (cB g) rfl) ?_)))
    obtain rfl := sj j
    exact u _ _ ⟨_, (b.ju St), H, rfl⟩
   refine un g (un g (V (jO (cB g) rfl) ?_))
   obtain rfl := sj j
   exact u _ _ ⟨_, (b.ju St), H, rfl⟩
  refine bC a (fun c a => ?_) (fun c a => ?_)
  ·refine ug c (jC M) (bS a fun Z B a => ug c (As (i := 0) bZ rfl rfl (zq B) (Df B)) (bS a fun q U a => rB c (Eg b call163 (yI (⟨#[97, 98, 99, 100, 101, 102, 103, 104, 105, 106, 107, 108, 109, 110, 111, 112, 113, 114, 115, 116, 117, 118, 119, 120, 121, 122]⟩ : ByteArray) (Z.toNat : Int) _ _  U) (fun n b => ug c (kv rfl rfl rfl) (V (jM (cB c) rfl) ?_)))))
   obtain rfl := sj a
   exact x _ _ ⟨_, (b.ju St), M, d, rfl⟩
  refine un c (un c (un c (un c (V (jO (cB c) rfl) ?_))))
  obtain rfl := sj a
  exact x _ _ ⟨_, (b.ju St), M, d, rfl⟩
 refine bC t (fun k t => ?_) (fun k t => ?_)
 ·refine ug k (jC rfl) (ug k (nR bZ rfl) (ug k (kv rfl rfl rfl) (V (jM (cB k) rfl) ?_)))
  obtain rfl := sj t
  exact y _ _ ⟨_, (b.ju St), rfl, rfl, rfl⟩
 refine un k (un k (un k (V (jO (cB k) rfl) ?_)))
 obtain rfl := sj t
 exact y _ _ ⟨_, (b.ju St), rfl, rfl, rfl⟩
theorem tm (i : jq) (r : Bool) (w : World) (hm : pC i = some r) :
  jT true pg0 206 [(.agg (jA i).toArray)] w (.bool r) := by
 refine cG 11 func206 rfl (fun b => sg (VE (kj b rfl (fun H J b => Wa (lr (Wf oR (VB b Mh rfl rfl bT (bS hm fun K y hm => VE (Eg b call93 (vV i.js _ _  y) (fun I b => Wm (LJ hm (fun k E W => ∃ j, ST true kp w W (hp w) j ∧ E 2 = (.bool false) ∧ E 10 = (.bool k)) 4 ?_ (fun k a g => ?_))))))))))))
 ·rintro G E W ⟨j, b, B, x⟩ t
  exact Wg x (lt (rQ t b))
 refine bC a (fun c a => ?_) (fun c a => ?_)
 ·refine ug c (jz tO rfl) (ug c (jv rfl (jK b.has Mh rfl bT)) (bS a fun D u a => rB c (Eg b call93 (vV i.Word _ _  u) (fun z b => V (jM (cB c) rfl) ?_))))
  obtain rfl := sj a
  exact g _ _ ⟨_, (b.ju (Db St)), rfl, rfl⟩
 refine un c (un c (un c (V (jO (cB c) rfl) ?_)))
 obtain rfl := sj a
 exact g _ _ ⟨_, (b.ju (Db St)), rfl, rfl⟩
theorem RC (w : World) (a b : ByteArray) : (callFunc 273 [Value.string a, .string b].toArray).run pg0 w = .ok (.value (.int .i64 (oQ a b))) w := N0 func273 (by kernel_rfl) (by kernel_rfl) (by kernel_rfl) (by kernel_rfl) a b w
theorem xJ (a c : ByteArray) (r : Int) (w : World) (hm : nu a c = some r) :
  jT true pg0 215 [(.string a), (.string c)] w (.int .i64 r) := by
 exact cG 8 func215 rfl (fun b => sg (Wa (lr (Wm (Wm (VE (IK (args := [(.string a), (.string c)]) (v := .int .i64 (oQ a c)) rfl (by exact wP rfl rfl) (RC _ a c) (Wa (lt (rQ hm b))))))))))
theorem Ae (a c : ByteArray) (r : Int) (w : World) (hm : pf a c = some r) :
  jT true pg0 156 [(.string a), (.string c)] w (.int .i64 r) := by
 refine cG 8 func156 rfl (fun b => sg (Wa (lr (Wm (Wm (bS hm fun j g hm => VE (Eg b call215 (xJ a c _ _  g) (fun i b => Wa (ln ?_)))))))))
 exact jZ (rQ hm b)
theorem JZ (g : Value) (t : List Int) (r : Int) (w : World) (c : Sl (Pl (kN .i64)) 1 (hp w) g t) (hm : uy t = some r) :
  jT true pg0 155 [g] w (.int .i64 r) := by
 refine cG 18 func155 rfl (fun b => sg (Wa (lr (Wa (lS (Wm ?_))))))
 refine V (kJ underlying257 rfl c) (Wm (ln (ku (fun i E W => ∃ k, (E 8 = .int .i64 (i : Nat) ∧ E 7 = .int .i64 (t.length : Nat)) ∧ ST true kp w W (hp w) k ∧ E 3 = (.int .i64 0) ∧ E 6 = g ∧ rV (t.drop i) = some r) t.length c.len ⟨_, ⟨rfl, rfl⟩, (b.ju St), rfl, rfl, hm⟩ dc dc dc (fun _ _ _ h => by obtain ⟨_, l, _⟩ := h; exact l) ?_ ?_)))
 ·rintro J E W B ⟨k, ⟨d, m⟩, b, j, u, a⟩
  obtain ⟨x, K, H, G, I⟩ := kc B
  rw [H] at a
  refine bg (VQ (mQ (enc := (kN .i64)) (i := (J : Int)) (x0 := x) underlying257 gu u d c (aG _) G) (fun M D => V (jv rfl (oE b.has (y := (.int .i64 x)) D bX)) (Wa (lr (Wm (Wh j (Wi rfl (ln ?_))))))))
  refine CI a rfl (fun z a => ?_) (fun z a => ?_)
  ·refine sg (Wm (Wa (lt (mn (km (mn (km ?_)))))))
   obtain rfl := sj a
   exact rP b
  exact kG (ke (jE ⟨d, _, ⟨rfl, m⟩, (b.ju St), j, u, (by rw [I]; exact a)⟩))
 rintro E W ⟨k, ⟨d, m⟩, b, j, u, a⟩
 rw [aH] at a
 exact jE (sg (Wh j (Wa (lt (rQ a b)))))
theorem Hf (g i : jq) (r : Int) (w : World) (hm : rp g i = some r) :
  jT true pg0 83 [(.agg (jA g).toArray), (.agg (jA i).toArray)] w (.int .i64 r) := by
 refine cG 17 func83 rfl (fun b => sg (VE (kj b rfl (fun G I b => VE (kj b rfl (fun H J b => Wa (ln (jI ?_))))))))
 replace b := b.drew
 have d := b.has.ju (Kb (Kb Sn))
 refine ky d kd (X 0 rfl d (jz oR rfl) (XH 1 rfl d (fun _ h => jv rfl (jK h (Mt Mh) rfl bT)) (X 2 rfl d (jz oR rfl) (XH 3 rfl d (fun _ h => jv rfl (jK h Mh rfl bT)) (X 5 rfl d (jz tO rfl) (XH 6 rfl d (fun _ h => jv rfl (jK h (Mt Mh) rfl bT)) (X 7 rfl d (jz tO rfl) (XH 8 rfl d (fun _ h => jv rfl (jK h Mh rfl bT)) (bS hm fun a j hm => XE 4 rfl (Eg b call156 (Ae g.js i.js _ _  j) (fun x b => ?_)))))))))))
 have d := b.has.ju (Kb (Kb Sn))
 refine ⟨d, (bS hm fun c k hm => XE 9 rfl (Eg b call156 (Ae g.Word i.Word _ _  k) (fun y b => ?_)))⟩
 have d := b.has.ju (Kb (Kb Sn))
 refine ⟨d, (XE 10 rfl (jW (cs := #[(.int .i64 a), (.int .i64 c)]) b (uJ rfl rfl) (lM underlying257 gu zeroValue3) (fun z u b => ?_)))⟩
 have d := b.has.ju (Db (Kb (Kb Sn)))
 refine ⟨d, (bS hm fun D t hm => XE 11 rfl (Eg b call155 (JZ (.slice (some ⟨u, 0, none⟩) 2 2) ([a, c]) _ _ (Sl.lit (enc := (kN .i64)) (l := [a, c]) (fun _ => rfl) rfl nb rfl (b.at_ Mh)) t) (fun B b => ?_)))⟩
 have d := b.has.ju (Db (Kb (Kb Sn)))
 refine ⟨d, (X 12 rfl d (lO rfl) (kM kr (jE ?_)))⟩
 exact jZ (rQ hm b)
set_option maxHeartbeats 4000000 in
theorem yB (a : jr) (r : Bool) (w : World) (hm : tk a = some r) :
  jT true pg0 144 [(.agg (jw a).toArray)] w (.bool r) := by
 let m9 := (⟨a.Kind, a.Head, zS, a.B, a.C, zS⟩ : jr)
 let j2 := (⟨a.Kind, a.Head, zS, a.B, K0, a.kK⟩ : jr)
 let j1 : Value := (.agg (jA a.B).toArray)
 let g6 := ((jw (⟨a.Kind, a.Head, zS, a.B, K0, zS⟩ : jr)).toArray)
 let p := (⟨a.Kind, a.Head, zS, K0, K0, zS⟩ : jr)
 refine cG 98 func144 rfl (fun b => sg (VE (kj b rfl (fun W2 N b => Wa (lr (Wf pY (VB b Mh rfl rfl bX (Wf qT (VA b Mh (jA a.Head) bF aS (V (lC (v := (.agg (jw p).toArray)) (uJ rfl rfl) (kI cT ep (TF _ ep) kr)) (VE (kh b cT (fun W4 B b => ?_)))))))))))))
 refine VO (jL (.agg (jw p).toArray) ((jw p).toArray) b rfl rfl aM (nw p) nb rfl (fun W5 b => lr (Wf qT (VA b (Mt Mh) (jA a.Head) bF aS (bS hm fun n j4 hm => VE (Eg b jo (tm a.Head _ _  j4) (fun W8 b => Wa (ln (jI (Tc hm (fun A E W => ∃ b6, ST true kp w W (hp w) ((B, Ol (jw A.2) 52) :: ((N, Ol (jw a) 52) :: b6)) ∧ E 1 = (.pointer (some ⟨N, 0, none⟩)) ∧ E 3 = (.pointer (some ⟨B, 0, none⟩)) ∧ E 4 = (.bool A.1)) (fun A g Z => ?_) ?_))))))))))
 ·let g5 := ((jw m9).toArray : Array Value)
  let b8 := ((jw j2).toArray : Array Value)
  let m : Value := (.pointer (some ⟨B, 0, none⟩))
  let l : Value := (.pointer (some ⟨N, 0, none⟩))
  let a0 := ((jw a).toArray : Array Value)
  refine sg (Wf pY (VB b (Mt Mh) rfl rfl bX (ln (bg (Wi rfl (Wa (ln (CI g rfl (fun e5 g => ?_) (fun e5 g => ?_)))))))))
  ·replace b := b.drew
   have d := b.has.ju (Db (Kb Sn))
   refine ky d kd (X 0 rfl d (jz wg rfl) (XH 1 rfl d (fun _ h => jv rfl (jK h Mh rfl bT)) (X 2 rfl d (jC rfl) (X 3 rfl d (jC rfl) (X 8 rfl d (jz wg rfl) (PJ g (fun d6 E W => ∃ b9, ST true kp w W (hp w) ((B, Ol (jw p) 52) :: ((N, Obj.cells a0 52 (0, 0)) :: b9)) ∧ E 1 = l ∧ E 3 = m ∧ E 4 = (.bool n) ∧ E 18 = (.string a.kz) ∧ E 24 = (.bool d6) ∧ E 25 = (.pointer (some ⟨B, 3, none⟩))) (bm 11 511) 2 ?_ (fun d6 D a2 => ?_)))))))
   ·rintro m1 E W ⟨b9, b, h2, h3, k8, h4, h5, h6⟩ f1
    refine XO 9 rfl (jL (.string a.kz) ((jw (⟨a.Kind, a.Head, a.kz, K0, K0, zS⟩ : jr)).toArray) b h6 h4 fb (Ms a.kz) nb rfl (fun j5 b => ?_))
    have d := b.has.ju (Db (Kb Sn))
    refine ⟨d, (X 10 rfl d (lO h5) (kM kr (ke (jE ?_))))⟩
    obtain rfl := sj f1
    exact ⟨_, rfl, _, (b.ju St), h2, h3, rfl⟩
   refine bC D (fun k D => ?_) (fun k D => ?_)
   ·refine Xg 4 rfl rfl (cB k) d (jz wg rfl) (su 5 rfl rfl (cB k) d (fun _ h => jv rfl (jK h Mh rfl bT)) (bS D fun l2 f9 D => Ac 6 rfl rfl (cB k) (Eg b call93 (vV a.kz _ _  f9) (fun j6 b => ?_))))
    have d := b.has.ju (Db (Kb Sn))
    refine ⟨d, (X 7 rfl d (jM (cB k) rfl) ?_)⟩
    obtain rfl := sj D
    refine mX kr (a2 _ _ ⟨_, (b.ju St), rfl, rfl, rfl, rfl, rfl, rfl⟩)
   refine Xn 4 rfl rfl (cB k) d (Xn 5 rfl rfl (cB k) d (Xn 6 rfl rfl (cB k) d (X 7 rfl d (jO (cB k) rfl) ?_)))
   obtain rfl := sj D
   refine mX kr (a2 _ _ ⟨_, (b.ju St), rfl, rfl, rfl, rfl, rfl, rfl⟩)
  refine sg (Wi rfl (Wa (ln (CI g rfl (fun e6 g => ?_) (fun e6 g => ?_)))))
  ·replace b := b.drew
   have d := b.has.ju (Db (Kb Sn))
   refine ky d kd (X 0 rfl d (jz ny rfl) (XH 1 rfl d (fun _ h => jv rfl (jy h Mh (jA a.B) rfl bF aS)) (X 2 rfl d (jC rfl) (X 3 rfl d (jC rfl) (X 8 rfl d (jz ny rfl) (PJ g (fun d7 E W => ∃ c0, ST true kp w W (hp w) ((B, Ol (jw p) 52) :: ((N, Obj.cells a0 52 (0, 0)) :: c0)) ∧ E 1 = l ∧ E 3 = m ∧ E 4 = (.bool n) ∧ E 29 = j1 ∧ E 35 = (.bool d7) ∧ E 36 = (.pointer (some ⟨B, 4, none⟩))) (bm 11 511) 2 ?_ (fun d7 G a3 => ?_)))))))
   ·rintro m2 E W ⟨c0, b, h7, h8, k9, h9, i0, i1⟩ f2
    refine XO 9 rfl (jL j1 g6 b i1 h9 aS (vB a.B) nb rfl (fun j7 b => ?_))
    have d := b.has.ju (Db (Kb Sn))
    refine ⟨d, (X 10 rfl d (lO i0) (kM kr (ke (jE ?_))))⟩
    obtain rfl := sj f2
    exact ⟨_, rfl, _, (b.ju St), h7, h8, rfl⟩
   refine bC G (fun t G => ?_) (fun t G => ?_)
   ·refine Xg 4 rfl rfl (cB t) d (jz ny rfl) (su 5 rfl rfl (cB t) d (fun _ h => jv rfl (jy h Mh (jA a.B) rfl bF aS)) (bS G fun l3 g0 G => Ac 6 rfl rfl (cB t) (Eg b jo (tm a.B _ _  g0) (fun j8 b => ?_))))
    have d := b.has.ju (Db (Kb Sn))
    refine ⟨d, (X 7 rfl d (jM (cB t) rfl) ?_)⟩
    obtain rfl := sj G
    refine mX kr (a3 _ _ ⟨_, (b.ju St), rfl, rfl, rfl, rfl, rfl, rfl⟩)
   refine Xn 4 rfl rfl (cB t) d (Xn 5 rfl rfl (cB t) d (Xn 6 rfl rfl (cB t) d (X 7 rfl d (jO (cB t) rfl) ?_)))
   obtain rfl := sj G
   refine mX kr (a3 _ _ ⟨_, (b.ju St), rfl, rfl, rfl, rfl, rfl, rfl⟩)
  refine sg (Wi rfl (Wa (ln (CI g rfl (fun e7 g => ?_) (fun e7 g => ?_)))))
  ·refine jI ?_
   replace b := b.drew
   have d := b.has.ju (Db (Kb Sn))
   refine ky d kd (X 0 rfl d (jz ny rfl) (XH 1 rfl d (fun _ h => jv rfl (jy h Mh (jA a.B) rfl bF aS)) (X 2 rfl d (jz tX rfl) (XH 3 rfl d (fun _ h => jv rfl (jK h Mh rfl bT)) (X 4 rfl d (jz ny rfl) (XO 5 rfl (jL j1 g6 b rfl rfl aS (vB a.B) nb rfl (fun j9 b => ?_))))))))
   have d := b.has.ju (Db (Kb Sn))
   refine ⟨d, (X 6 rfl d (jz tX rfl) (XO 7 rfl (jL (.string a.kK) ((jw j2).toArray) b rfl rfl fb (Ms a.kK) nb rfl (fun k0 b => ?_))))⟩
   have d := b.has.ju (Db (Kb Sn))
   refine ⟨d, (kM kr (jE (jG (Wm (Wm (LJ g (fun e0 E W => ∃ c1, ST true kp w W (hp w) ((B, Obj.cells b8 52 (0, 0)) :: ((N, Obj.cells a0 52 (0, 0)) :: c1)) ∧ E 1 = l ∧ E 3 = m ∧ E 4 = (.bool n) ∧ E 50 = (.bool e0)) 4 ?_ (fun e0 I O => ?_)))))))⟩
   ·rintro m3 E W ⟨c1, b, U, c7, c8, i2⟩ f3
    refine Wh i2 (LJ f3 (fun d9 E W => ∃ c2, ST true kp w W (hp w) ((B, Obj.cells b8 52 (0, 0)) :: ((N, Obj.cells a0 52 (0, 0)) :: c2)) ∧ E 1 = l ∧ E 3 = m ∧ E 4 = (.bool n) ∧ E 59 = (.bool d9)) 8 ?_ (fun d9 T a5 => ?_))
    ·rintro m4 E W ⟨c2, b, q, c9, d0, i3⟩ f4
     refine Wh i3 (LJ f4 (fun d8 E W => ∃ c3, ST true kp w W (hp w) ((B, Obj.cells b8 52 (0, 0)) :: ((N, Obj.cells a0 52 (0, 0)) :: c3)) ∧ E 1 = l ∧ E 3 = m ∧ E 4 = (.bool n) ∧ E 64 = (.bool d8)) 4 ?_ (fun d8 H a4 => ?_))
     ·rintro m5 E W ⟨c3, b, i4, i5, l0, i6⟩ f5
      refine Wg i6 (jU (ke (jE ?_)))
      obtain rfl := sj f5
      exact ⟨_, rfl, _, (b.ju St), i4, i5, rfl⟩
     refine bC H (fun x H => ?_) (fun x H => ?_)
     ·refine ug x (jz tX q) (ug x (jv rfl (jK b.has (Mt Mh) rfl bT)) (bS H fun l4 g1 H => rB x (Eg b call93 (vV a.kK _ _  g1) (fun k1 b => V (jM (cB x) rfl) ?_))))
      obtain rfl := sj H
      exact a4 _ _ ⟨_, (b.ju St), q, c9, d0, rfl⟩
     refine un x (un x (un x (V (jO (cB x) rfl) ?_)))
     obtain rfl := sj H
     exact a4 _ _ ⟨_, (b.ju St), q, c9, d0, rfl⟩
    refine bC T (fun c T => ?_) (fun c T => ?_)
    ·refine ug c (jz ny U) (ug c (jz oR rfl) (ug c (jv rfl (jK b.has (Mt Mh) rfl bT)) (ug c (jz qT U) (ug c (jz oR rfl) (ug c (jv rfl (jK b.has (Mt Mh) rfl bT)) (ug c (qh rfl rfl rfl) (V (jM (cB c) rfl) ?_)))))))
     obtain rfl := sj T
     exact a5 _ _ ⟨_, (b.ju St), U, c7, c8, rfl⟩
    refine un c (un c (un c (un c (un c (un c (un c (V (jO (cB c) rfl) ?_)))))))
    obtain rfl := sj T
    exact a5 _ _ ⟨_, (b.ju St), U, c7, c8, rfl⟩
   refine bC I (fun u I => ?_) (fun u I => ?_)
   ·refine ug u (jz ny rfl) (ug u (jv rfl (jy b.has (Mt Mh) (jA a.B) rfl bF aS)) (bS I fun l5 g2 I => rB u (Eg b jo (tm a.B _ _  g2) (fun k2 b => V (jM (cB u) rfl) ?_))))
    obtain rfl := sj I
    exact O _ _ ⟨_, (b.ju St), rfl, rfl, rfl, rfl⟩
   refine un u (un u (un u (V (jO (cB u) rfl) ?_)))
   obtain rfl := sj I
   exact O _ _ ⟨_, (b.ju St), rfl, rfl, rfl, rfl⟩
  refine sg (Wi rfl (Wa (ln (CI g rfl (fun e8 g => ?_) (fun e8 g => ?_)))))
  ·refine jI ?_
   replace b := b.drew
   have d := b.has.ju (Db (Kb Sn))
   refine ky d kd (X 0 rfl d (jz ny rfl) (XH 1 rfl d (fun _ h => jv rfl (jy h Mh (jA a.B) rfl bF aS)) (X 2 rfl d (jz rI rfl) (XH 3 rfl d (fun _ h => jv rfl (jy h Mh (jA a.C) rfl bF aS)) (X 4 rfl d (jz ny rfl) (XO 5 rfl (jL j1 g6 b rfl rfl aS (vB a.B) nb rfl (fun k3 b => ?_))))))))
   have d := b.has.ju (Db (Kb Sn))
   refine ⟨d, (X 6 rfl d (jz rI rfl) (XO 7 rfl (jL (.agg (jA a.C).toArray) ((jw m9).toArray) b rfl rfl aS (vB a.C) nb rfl (fun k4 b => ?_))))⟩
   have d := b.has.ju (Db (Kb Sn))
   refine ⟨d, (kM kr (jE (jG (Wm (Wm (LJ g (fun e3 E W => ∃ c4, ST true kp w W (hp w) ((B, Obj.cells g5 52 (0, 0)) :: ((N, Obj.cells a0 52 (0, 0)) :: c4)) ∧ E 1 = l ∧ E 3 = m ∧ E 4 = (.bool n) ∧ E 78 = (.bool e3)) 4 ?_ (fun e3 M a9 => ?_)))))))⟩
   ·rintro m6 E W ⟨c4, b, s, d1, d2, i7⟩ f6
    refine Wh i7 (LJ f6 (fun e2 E W => ∃ c5, ST true kp w W (hp w) ((B, Obj.cells g5 52 (0, 0)) :: ((N, Obj.cells a0 52 (0, 0)) :: c5)) ∧ E 1 = l ∧ E 3 = m ∧ E 4 = (.bool n) ∧ E 83 = (.bool e2)) 4 ?_ (fun e2 K R => ?_))
    ·rintro m7 E W ⟨c5, b, Y, d3, d4, i8⟩ f7
     refine Wh i8 (LJ f7 (fun e1 E W => ∃ c6, ST true kp w W (hp w) ((B, Obj.cells g5 52 (0, 0)) :: ((N, Obj.cells a0 52 (0, 0)) :: c6)) ∧ E 1 = l ∧ E 3 = m ∧ E 4 = (.bool n) ∧ E 91 = (.bool e1)) 7 ?_ (fun e1 J P => ?_))
     ·rintro m8 E W ⟨c6, b, i9, j0, l1, j3⟩ f8
      refine Wg j3 (jU (ke (jE ?_)))
      obtain rfl := sj f8
      exact ⟨_, rfl, _, (b.ju St), i9, j0, rfl⟩
     refine bC J (fun i J => ?_) (fun i J => ?_)
     ·refine ug i (jz ny Y) (ug i (jv rfl (jy b.has (Mt Mh) (jA a.B) rfl bF aS)) (ug i (jz rI Y) (ug i (jv rfl (jy b.has (Mt Mh) (jA a.C) rfl bF aS)) (bS J fun l6 g3 J => rB i (Eg b call83 (Hf a.B a.C _ _  g3) (fun k5 b => ug i (kv rfl rfl rfl) (V (jM (cB i) rfl) ?_)))))))
      obtain rfl := sj J
      exact P _ _ ⟨_, (b.ju St), Y, d3, d4, rfl⟩
     refine un i (un i (un i (un i (un i (un i (V (jO (cB i) rfl) ?_))))))
     obtain rfl := sj J
     exact P _ _ ⟨_, (b.ju St), Y, d3, d4, rfl⟩
    refine bC K (fun z K => ?_) (fun z K => ?_)
    ·refine ug z (jz rI s) (ug z (jv rfl (jy b.has (Mt Mh) (jA a.C) rfl bF aS)) (bS K fun l7 g4 K => rB z (Eg b jo (tm a.C _ _  g4) (fun k6 b => V (jM (cB z) rfl) ?_))))
     obtain rfl := sj K
     exact R _ _ ⟨_, (b.ju St), s, d1, d2, rfl⟩
    refine un z (un z (un z (V (jO (cB z) rfl) ?_)))
    obtain rfl := sj K
    exact R _ _ ⟨_, (b.ju St), s, d1, d2, rfl⟩
   refine bC M (fun y M => ?_) (fun y M => ?_)
   ·refine ug y (jz ny rfl) (ug y (jv rfl (jy b.has (Mt Mh) (jA a.B) rfl bF aS)) (bS M fun l8 g7 M => rB y (Eg b jo (tm a.B _ _  g7) (fun k7 b => V (jM (cB y) rfl) ?_))))
    obtain rfl := sj M
    exact a9 _ _ ⟨_, (b.ju St), rfl, rfl, rfl, rfl⟩
   refine un y (un y (un y (V (jO (cB y) rfl) ?_)))
   obtain rfl := sj M
   exact a9 _ _ ⟨_, (b.ju St), rfl, rfl, rfl, rfl⟩
  refine sg (Wa (ln ?_))
  replace b := b.ju (Db (Db St))
  refine jZ (mn (km ?_))
  obtain rfl := sj g
  replace Z : some false = some r := Z
  obtain rfl := sj Z
  exact rP b
 rintro ⟨l9, e4⟩ E W ⟨b6, b, g8, g9, h0⟩ e9
 refine sg (Wh h0 (Wm (LJ e9 (fun d5 E W => ∃ b7, ST true kp w W (hp w) b7 ∧ E 97 = (.bool d5)) 4 ?_ (fun d5 Q L => ?_))))
 ·rintro m0 E W ⟨b7, b, h1⟩ f0
  exact Wg h1 (lt (rQ f0 b))
 refine bC Q (fun j Q => ?_) (fun j Q => ?_)
 ·refine ug j (jv g9 (jy b.has Mh (jw e4) rfl bU aM)) (ug j (jv g8 (jy b.has (Mt Mh) (jw a) rfl bU aM)) (ug j (uY rfl rfl (nm eY) (ru (wo _ e4 a))) (V (jM (cB j) rfl) ?_)))
  obtain rfl := sj Q
  exact L _ _ ⟨_, (b.ju (Db (Db St))), rfl⟩
 refine un j (un j (un j (V (jO (cB j) rfl) ?_)))
 obtain rfl := sj Q
 exact L _ _ ⟨_, (b.ju (Db (Db St))), rfl⟩
theorem DM (j : Value) (t : List jr) (c : jr) (r : Int) (w : World) (g : Sl (Pl jw) 9 (hp w) j t) (hm : vJ t c = some r) :
  jT true pg0 242 [j, (.agg (jw c).toArray)] w (.int .i64 r) := by
 refine cG 19 func242 rfl (fun b => sg (VE (kj b rfl (fun Q J b => Wa (lS (Wm (V (kJ aR rfl g) (Wm (ln ?_)))))))))
 refine ku (fun i E W => ∃ k, (E 8 = .int .i64 (i : Nat) ∧ E 7 = .int .i64 (t.length : Nat)) ∧ ST true kp w W (hp w) ((J, Ol (jw c) 52) :: k) ∧ E 0 = j ∧ E 3 = (.pointer (some ⟨J, 0, none⟩)) ∧ pw c (t.drop i) i = some r) t.length g.len ⟨_, ⟨rfl, rfl⟩, (b.ju St), rfl, rfl, hm⟩ dc dc dc (fun _ _ _ h => by obtain ⟨_, m, _⟩ := h; exact m) ?_ ?_
 ·rintro K E W B ⟨k, ⟨l, p⟩, b, u, x, a⟩
  obtain ⟨y, M, H, G, I⟩ := kc B
  rw [H] at a
  refine bg (Wh l (Wa (ln (jI ?_))))
  replace b := b.drew
  have d := b.has.ju (Kb Sn)
  refine ky d kd (XH 0 rfl d (fun _ n => jv x (jy n Mh (jw c) rfl bU aM)) (X 1 rfl d (jC u) (X 2 rfl d (jC rfl) (XQ 3 rfl d (mQ (enc := jw) (i := (K : Int)) (x0 := y) aR aM rfl rfl g (aG _) G) (fun N D => XH 4 rfl d (fun _ n => jv rfl (jQ n D bU aM)) (X 5 rfl d (uY rfl rfl (nm eY) (ru (wo _ c y))) (kM kr (jE (CI a rfl (fun z a => ?_) (fun z a => ?_))))))))))
  ·refine sg (Wm (Wa (ln ?_)))
   replace b := b.ju (Db St)
   refine jZ (mn (km (mn (km ?_))))
   obtain rfl := sj a
   exact rP b
  exact kG (ke (jE ⟨l, _, ⟨rfl, p⟩, (b.ju St), u, x, (by rw [I]; exact a)⟩))
 rintro E W ⟨k, ⟨l, p⟩, b, u, x, a⟩
 rw [aH] at a
 refine jE ?_
 replace b := b.ju (Db St)
 exact sg (Wa (lt (rQ a b)))
theorem BI (a : Value) (g : List jr) (c : jr) (r : Bool) (w : World) (i : Sl (Pl jw) 9 (hp w) a g) (hm : rE g c = some r) :
  jT true pg0 179 [a, (.agg (jw c).toArray)] w (.bool r) := by
 refine cG 9 func179 rfl (fun b => sg (VE (kj b rfl (fun k u b => Wa (lr (Wm (VA b Mh (jw c) bU aM (bS hm fun x j hm => VE (Eg b call242 (DM a g c _ _ (i.mono (Pl.mono _) b.jB) j) (fun t b => Wi rfl (Wa ?_)))))))))))
 refine ln ?_
 exact jZ (rQ hm b)
theorem ym (a : Value) (g : List jr) (c : jr) (r : Bool) (w : World) (i : Sl (Pl jw) 9 (hp w) a g) (hm : pM g c = some r) :
  jT true pg0 111 [a, (.agg (jw c).toArray)] w (.bool r) := by
 refine cG 8 func111 rfl (fun b => sg (VE (kj b rfl (fun k u b => Wa (lr (Wm (VA b Mh (jw c) bU aM (bS hm fun x j hm => VE (Eg b call179 (BI a g c _ _ (i.mono (Pl.mono _) b.jB) j) (fun t b => Wa (jU ?_)))))))))))
 refine jE ?_
 exact jZ (rQ hm b)
theorem Ke (a : jr) (r : List jq) (w : World) (hm : yo a = some r) :
  kY true pg0 320 [(.agg (jw a).toArray)] w 27 jA 2 r := by
 refine sP 27 func320 rfl (fun b => sg (VE (kj b rfl (fun W2 h b => Wa (lS (VA b Mh (jw a) bU aM (bS hm fun r3 q hm => VE (Eg b call144 (yB a _ _  q) (fun W5 b => V (nj rfl) (jU ?_))))))))))
 refine jE (CI hm rfl (fun n hm => ?_) (fun n hm => ?_))
 ·refine sg (Wa (ln ?_))
  replace b := b.ju (Db St)
  refine jZ (km ?_)
  obtain rfl := sj hm
  exact kO (v := (.slice none 0 0)) rfl rfl ⟨_, [], rfl, b.mC (fun p d => by cases d) (by simp), jX.nil _ _ _⟩
 refine kg (Wf qT (VA b Mh (jA a.Head) bF aS (VE (jW (cs := (jA a.Head).toArray) b (kX rfl) (lM er aS eA) (fun W8 y b => Wa (ln (jI (CJ hm (fun I E W => ∃ j i z, ST true kp w W (hp w) ((h, Ol (jw a) 52) :: (i ++ z)) ∧ E 1 = (.pointer (some ⟨h, 0, none⟩)) ∧ E 3 = j ∧ jX 27 jA 2 j I i) (fun I g => ?_) ?_))))))))
 ·refine sg (Wf pY (VB b (Mt Mh) rfl rfl bX (Wi rfl (ln (CI g rfl (fun Q g => ?_) (fun Q g => ?_))))))
  ·refine jG (Wm (Wf ny (VA b (Mt Mh) (jA a.B) bF aS (VE (jW (cs := (jA a.B).toArray) b (kX rfl) (lM er aS eA) (fun O a4 b => ?_))))))
   replace b := b.perm (Nb (Pb Pz) Nz)
   refine bS g fun c0 T g => VE (mz (enc := jA) (v := (.slice (some ⟨y, 0, none⟩) 1 1)) (vs := (.slice (some ⟨a4, 0, none⟩) 1 1)) (R := [(y, Ol (jA a.Head) 27)]) b wJ dc vB er vp.1 vp.2.1 rfl vp.2.2.1 vp.2.2.2 rfl rfl (jX.lit (l := [a.Head]) (enc := jA) rfl dc rfl rfl) (Sl.lit (enc := jA) (l := [a.B]) wJ rfl nb rfl (b.at_ (Mt Mh))) T (fun P a9 m b K => Wa (ln ?_)))
   obtain rfl := sj g
   exact ⟨a9, m, _, (b.ju (Sb (Pr (Pb Pz)) (Kr (Db St)))), rfl, rfl, K⟩
  refine kn ?_
  obtain rfl := sj g
  replace b := b.Ep
  exact ⟨(.slice (some ⟨y, 0, none⟩) 1 1), [(y, Ol (jA a.Head) 27)], _, (b.ju (Sb (Pr Pz) St)), rfl, rfl, (jX.lit (l := [a.Head]) (enc := jA) rfl dc rfl rfl)⟩
 rintro b5 E W ⟨j, i, z, b, D, G, u⟩ U
 refine jI (CJ U (fun H E W => ∃ t k B, ST true kp w W (hp w) (k ++ B) ∧ E 3 = t ∧ jX 27 jA 2 t H k) (fun H c => ?_) ?_)
 ·refine sg (V (jz pY D) (VB b Mh rfl rfl bX (Wi rfl (ln (CI c rfl (fun M c => ?_) (fun M c => ?_))))))
  ·refine jG (Wh G (V (jz rI D) (VA b Mh (jA a.C) bF aS (VE (jW (cs := (jA a.C).toArray) b (kX rfl) (lM er aS eA) (fun A a3 b => ?_))))))
   replace b := b.perm (Nr (Qb (Qb Qz)) Nz)
   refine bS c fun b9 N c => VE (mz (enc := jA) (v := j) (vs := (.slice (some ⟨a3, 0, none⟩) 1 1)) (R := i) b wJ dc vB er vp.1 vp.2.1 rfl vp.2.2.1 vp.2.2.2 rfl rfl u (Sl.lit (enc := jA) (l := [a.C]) wJ rfl nb rfl (b.at_ (Ma Mh))) N (fun L s Z b J => Wa (ln ?_)))
   obtain rfl := sj c
   exact ⟨s, Z, _, (b.ju (Kr (Db (Db St)))), rfl, J⟩
  refine kn ?_
  obtain rfl := sj c
  exact ⟨j, i, _, (b.ju (Db St)), G, u⟩
 rintro b6 E W ⟨t, k, B, b, a5, x⟩ Y
 refine sg (Wh a5 (Wa (lt ?_)))
 obtain rfl := sj Y
 exact kO (v := t) rfl rfl ⟨_, k, rfl, b.mC (fun p d => (Ml d)) x.nd, x⟩
theorem Du (M : Nat) (u : Value) (a9 : List (jq × (List (ByteArray × Bool)))) (G : LO) (D : Value) (a0 : List jr) (B : LO) (a : Value) (Y : List (jq × (List jr))) (I : LO) (c : Value) (K : List (ByteArray × (List jr))) (t : LO) (j : Value) (a4 : List jJ) (y : LO) (J : Int) (H : jr) (r : ((List jr) × (List (jq × (List jr))) × (List (ByteArray × (List jr))))) (w : World) {μ0 : kk} (h0 : nz μ0 ((M, Ob #[u, D, a, c, j, (.int .i64 J)] 246) :: (G ++ (B ++ (I ++ (t ++ (y ++ [])))))) w) (e9 : lQ (fun (x : jq) => (.agg (jA x).toArray)) (lN Value.string (fun (x : Bool) => (Value.bool x))) u a9 G) (a6 : jX 52 jw 9 D a0 B) (b2 : lQ (fun (x : jq) => (.agg (jA x).toArray)) (jX 52 jw 9) a Y I) (T : lQ Value.string (jX 52 jw 9) c K t) (e1 : pN 285 kq 3 j a4 y) (hm : sK a9 a0 Y K a4 J H = some r) :
  lH true pg0 261 [(.pointer (some ⟨M, 0, none⟩)), (.agg (jw H).toArray)] w ((M, Ob #[u, D, a, c, j, (.int .i64 J)] 246) :: (G ++ (B ++ (I ++ (t ++ (y ++ [])))))) (fun v L1 W' => ∃ y1 S2 S4 S6, v = (.tuple #[]) ∧ L1 = ((M, Ob #[u, y1, a, c, j, (.int .i64 J)] 246) :: (G ++ (S2 ++ (S4 ++ (S6 ++ (y ++ [])))))) ∧ jX 52 jw 9 y1 r.1 S2 ∧ lQ (fun (x : jq) => (.agg (jA x).toArray)) (jX 52 jw 9) a r.2.1 S4 ∧ lQ Value.string (jX 52 jw 9) c r.2.2 S6) := by
 refine Ab h0 55 func261 rfl (fun d => sg (VE (kj d rfl (fun W2 b1 d => ln (jI ?_)))))
 replace d := d.drew
 have m := d.has.ju (Kb Sn)
 have n := d.has.ju (Db (Kb Sn))
 refine uR 10 m n kd (kR 0 rfl kr (.inl rfl) rfl dc (fun _ _ h => ⟨h.1, lJ br h.2⟩) ⟨m, fun _ => n⟩ (fun _ _ _ _ => jC rfl) (kR 1 rfl kr (.inl rfl) rfl dc (fun _ _ h => ⟨h.1, lJ br h.2⟩) ⟨m, fun _ => n⟩ (fun _ _ _ _ => jC rfl) (kR 2 rfl kr (.inl rfl) rfl dc (fun _ _ h => ⟨h.1, lJ br h.2⟩) ⟨m, fun _ => n⟩ (fun _ _ _ _ => mJ rfl) (kR 3 rfl kr (.inl rfl) rfl dc (fun _ _ h => ⟨h.1, lJ br h.2⟩) ⟨m, fun _ => n⟩ (fun _ _ _ _ => jz He rfl) (kR 4 rfl kr (.inl rfl) rfl dc (fun _ _ h => ⟨h.1, lJ br h.2⟩) ⟨m, fun _ => n⟩ (fun l W q s => have p := (s.2 (q.DF 10 [4] kr rfl)); jv rfl (jK p Mh rfl iZ)) (kR 5 rfl kr (.inl rfl) rfl dc (fun _ _ h => ⟨h.1, lJ br h.2⟩) ⟨m, fun _ => n⟩ (fun l W q s => have p := s.1; jv rfl (jy p Mh (jw H) rfl bU aM)) (XE 6 rfl (jW (cs := (jw H).toArray) d (kX rfl) (lM aR aM cT) (fun k0 g0 d => ?_)))))))))
 have m := d.has.ju (Db (Kb Sn))
 have n := d.has.ju (Db (Db (Kb Sn)))
 refine ⟨⟨m, fun _ => n⟩, ?_⟩
 replace d := d.perm (Nr (Qb (Qb (Qb (Qr Qz)))) Nz)
 refine bS hm fun a5 f0 hm => XE 7 rfl (mz (enc := jw) (v := D) (vs := (.slice (some ⟨g0, 0, none⟩) 1 1)) (R := B) d kC dc nw aR mT.1 mT.2.1 rfl mT.2.2.1 mT.2.2.2 rfl rfl a6 (Sl.lit (enc := jw) (l := [H]) kC rfl nb rfl (d.at_ (Ma Mh))) f0 (fun k1 k4 b7 d b5 => ?_))
 have m := d.has.ju (Dr (Db (Kb Sn)))
 have n := d.has.ju (Dr (Db (Db (Kb Sn))))
 refine ⟨⟨m, fun _ => n⟩, (kR 8 rfl kr (.inl rfl) rfl dc (fun _ _ h => ⟨h.1, lJ br h.2⟩) ⟨m, fun _ => n⟩ (fun _ _ _ _ => mJ rfl) (kR 9 rfl kr (.inl rfl) rfl dc (fun _ _ h => ⟨h.1, lJ br h.2⟩) ⟨m, fun _ => n⟩ (fun _ _ _ _ => jz He rfl) ?_))⟩
 obtain ⟨a8, b0, rfl⟩ := b5.form
 let A : Value := (.slice a8 a5.length b0)
 replace d := d.perm (Nb (Pr (Pb (Pb Pz))) Nz)
 refine XO 10 rfl (jL A (#[u, A, a, c, j, (.int .i64 J)]) d rfl rfl sizeOf45 oc nb rfl (fun k2 d => ?_))
 have m := d.has.ju (Db (Dr (Db (Kb Sn))))
 refine ⟨⟨m, fun h => zI kr h⟩, (kM kr (jE ?_))⟩
 replace d := d.ju (Kb (Kr (Db St)))
 refine jI (sg (VA d (Mt (Ma Mh)) (jw H) bU aM (bS hm fun c1 f1 hm => VE (oW d call320 (Ke H _ _  f1) (fun k3 k5 k6 j9 d g4 ab e8 => ?_)))))
 let b8 := (c1.drop (Int.toNat 1))
 obtain ⟨g3, d, g7, ad, f2⟩ := ST.QW d e8 wJ
 refine bS hm fun _ b9 hm => VQ (BY (i := 1) er aS rfl rfl f2 (uw b9) (uu b9)) (fun g1 b6 => V (kJ er rfl b6.1) (Wm (ln (ku (fun i E W => ∃ a3 U O, (E 20 = .int .i64 (i : Nat) ∧ E 19 = .int .i64 (b8.length : Nat)) ∧ ST true (keys ((M, Ob #[u, D, a, c, j, (.int .i64 J)] 246) :: (G ++ (B ++ (I ++ (t ++ (y ++ []))))))) w W g3 ((M, Ob #[u, A, a, c, j, (.int .i64 J)] 246) :: ((b1, Ol (jw H) 52) :: (U ++ (b7 ++ (G ++ (t ++ (y ++ O))))))) ∧ E 0 = (.pointer (some ⟨M, 0, none⟩)) ∧ E 3 = (.pointer (some ⟨b1, 0, none⟩)) ∧ E 18 = g1 ∧ lQ (fun (x : jq) => (.agg (jA x).toArray)) (jX 52 jw 9) a a3 U ∧ oe H K a5 (b8.drop i) a3 = some r) b8.length b6.1.len ⟨Y, I, _, ⟨rfl, rfl⟩, (d.ju (Kb (Sb (Pr Pz) (Sr (Qr (Qr Qz)) St)))), rfl, rfl, rfl, b2, hm⟩ dc dc dc (fun _ _ _ h => by obtain ⟨_, _, _, aa, _⟩ := h; exact aa) ?_ ?_))))
 ·rintro f3 E W d3 ⟨a3, U, O, ⟨eI, eN⟩, d, a2, N, P, Z, g⟩
  obtain ⟨Q, h4, d8, d7, d9⟩ := kc d3
  rw [d8] at g
  refine bg (VQ (mQ (enc := jA) (i := (f3 : Int)) (x0 := Q) er aS P eI b6.1 (aG _) d7) (fun j4 d4 => V (jv rfl (jQ d.has d4 bF aS)) (VE (kh d eA (fun i1 j0 d => VO (jL (.agg (jA Q).toArray) ((jA Q).toArray) d rfl rfl aS (vB Q) nb rfl (fun i2 d => ln ?_)))))))
  replace d := d.drew
  have m := d.has.ju (Kb (Kb (Kb Sn)))
  refine ky m kd (X 0 rfl m (jC a2) (X 1 rfl m (mJ rfl) (X 2 rfl m (jz KM rfl) (XH 3 rfl m (fun _ p => jv rfl (jK p (Mt Mh) rfl isAgg243)) (XH 4 rfl m (fun _ p => jv rfl (jy p Mh (jA Q) rfl bF aS)) (XH 5 rfl m (fun _ p => jv N (jy p (Mt (Mt Mh)) (jw H) rfl bU aM)) (XE 6 rfl (jW (cs := (jw H).toArray) d (kX rfl) (lM aR aM cT) (fun i3 e6 d => ?_)))))))))
  have m := d.has.ju (Db (Kb (Kb (Kb Sn))))
  refine ⟨m, ?_⟩
  obtain ⟨h1, d1⟩ := Z
  replace d := d.perm (Nr (Qb (Qb (Qb (Qb Qz)))) Nz)
  refine XE 7 rfl (Me (k := Q) (x0 := [])  jS z6 underlying243 iI (jX.nil _ _ _) d d1 rfl rfl (fun i4 f5 h3 h6 e2 d c3 c2 => ?_))
  have m := d.has.ju (Dr (Dr (Db (Kb (Kb (Kb Sn))))))
  refine ⟨m, (X 8 rfl m (uU rfl rfl) (X 10 rfl m (uU rfl rfl) ?_))⟩
  replace d := d.perm (Nr (Qr Qz) Nz)
  refine bS g fun c0 c8 g => XE 9 rfl (mz (enc := jw) (v := f5) (vs := (.slice (some ⟨e6, 0, none⟩) 1 1)) (R := e2) d kC dc nw aR mT.1 mT.2.1 rfl mT.2.2.1 mT.2.2.2 rfl rfl c3 (Sl.lit (enc := jw) (l := [H]) kC rfl nb rfl (d.at_ (Ma (Ma Mh)))) c8 (fun i5 j5 h7 d c4 => ?_))
  have m := d.has.ju (Dr (Dr (Db (Kb (Kb (Kb Sn))))))
  refine ⟨m, ?_⟩
  replace d := d.perm (Nr (Qr Qz) Nz)
  refine XO 11 rfl (Ka (e := 0) (z := c0)  jS z6 d c2 rfl rfl rfl c4 (fun i6 h2 e3 d c5 => ?_))
  have m := d.has.ju (Dr (Db (Kb (Kb (Kb Sn)))))
  refine ⟨m, (kM kr (ke (jE ?_)))⟩
  replace d := d.ju (Kr (Db (Db St)))
  exact ⟨eI, (nT jR a3 Q c0), e3, _, ⟨rfl, eN⟩, (d.ju (Sb (Pr Pz) (Sb (Pr Pz) St))), a2, N, P, c5.e, (by rw [d9]; exact g)⟩
 rintro E W ⟨a3, U, O, ⟨eI, eN⟩, d, a2, N, P, Z, g⟩
 rw [aH] at g
 refine jE (sg (V (jz pY N) (VB d (Mt Mh) rfl rfl bX (Wi rfl (ln (CI g rfl (fun c9 g => ?_) (fun c9 g => ?_)))))))
 ·replace d := d.drew
  have m := d.has.ju (Kb (Kb Sn))
  have n := d.has.ju (Db (Db (Dr (Dr (Dr (Kr Sn))))))
  refine uR 15 m n kd (kR 0 rfl kr (.inl rfl) rfl dc (fun _ _ h => ⟨h.1, lJ br h.2⟩) ⟨m, fun _ => n⟩ (fun _ _ _ _ => jC a2) (kR 1 rfl kr (.inl rfl) rfl dc (fun _ _ h => ⟨h.1, lJ br h.2⟩) ⟨m, fun _ => n⟩ (fun _ _ _ _ => mJ rfl) (kR 2 rfl kr (.inl rfl) rfl dc (fun _ _ h => ⟨h.1, lJ br h.2⟩) ⟨m, fun _ => n⟩ (fun _ _ _ _ => jz Hd rfl) (kR 3 rfl kr (.inl rfl) rfl dc (fun _ _ h => ⟨h.1, lJ br h.2⟩) ⟨m, fun _ => n⟩ (fun l W q s => have p := s.1; jv rfl (jK p Mh rfl isAgg244)) (kR 4 rfl kr (.inl rfl) rfl dc (fun _ _ h => ⟨h.1, lJ br h.2⟩) ⟨m, fun _ => n⟩ (fun _ _ _ _ => jz tX N) (kR 5 rfl kr (.inl rfl) rfl dc (fun _ _ h => ⟨h.1, lJ br h.2⟩) ⟨m, fun _ => n⟩ (fun l W q s => have p := s.1; jv rfl (jK p (Mt Mh) rfl bT)) (kR 6 rfl kr (.inl rfl) rfl dc (fun _ _ h => ⟨h.1, lJ br h.2⟩) ⟨m, fun _ => n⟩ (fun _ _ _ _ => jC a2) (kR 7 rfl kr (.inl rfl) rfl dc (fun _ _ h => ⟨h.1, lJ br h.2⟩) ⟨m, fun _ => n⟩ (fun _ _ _ _ => mJ rfl) (kR 8 rfl kr (.inl rfl) rfl dc (fun _ _ h => ⟨h.1, lJ br h.2⟩) ⟨m, fun _ => n⟩ (fun _ _ _ _ => jz Hd rfl) (kR 9 rfl kr (.inl rfl) rfl dc (fun _ _ h => ⟨h.1, lJ br h.2⟩) ⟨m, fun _ => n⟩ (fun l W q s => have p := s.1; jv rfl (jK p Mh rfl isAgg244)) (kR 10 rfl kr (.inl rfl) rfl dc (fun _ _ h => ⟨h.1, lJ br h.2⟩) ⟨m, fun _ => n⟩ (fun _ _ _ _ => jz tX N) (kR 11 rfl kr (.inl rfl) rfl dc (fun _ _ h => ⟨h.1, lJ br h.2⟩) ⟨m, fun _ => n⟩ (fun l W q s => have p := s.1; jv rfl (jK p (Mt Mh) rfl bT)) ?_))))))))))))
  obtain ⟨e0, L⟩ := T
  obtain ⟨h8, g8, g9⟩ := mK.rowAt lW.1 L H.kK
  refine kR 12 rfl kr (.inl rfl) rfl dc (fun _ _ h => ⟨h.1, lJ br h.2⟩) ⟨m, fun _ => n⟩ (fun l W q s => have p := (s.2 (q.DF 15 [12] kr rfl)); oN (k := H.kK) (z := (.slice none 0 0)) GA underlying244 iI rfl rfl L (fun b o hq => p.2 b o (Ml hq))) (kR 13 rfl kr (.inl rfl) rfl dc (fun _ _ h => ⟨h.1, lJ br h.2⟩) ⟨m, fun _ => n⟩ (fun l W q s => have p := s.1; jv N (jy p (Mt Mh) (jw H) rfl bU aM)) (XE 14 rfl (jW (cs := (jw H).toArray) d (kX rfl) (lM aR aM cT) (fun i7 e7 d => ?_))))
  have m := d.has.ju (Db (Kb (Kb Sn)))
  have n := d.has.ju (Db (Db (Db (Dr (Dr (Dr (Kr Sn)))))))
  refine ⟨⟨m, fun _ => n⟩, ?_⟩
  replace d := d.perm (Nr (Qb (Qb (Qb (Qr (Qr (Qr Qz)))))) Nz)
  obtain ⟨h9, e4, d5, d6, d2⟩ := mK.open lW.1 (jX.nil _ _ _) L H.kK
  replace d := d.perm (TL d5)
  replace d := d.perm (Nr (Qr Qz) Nz)
  refine bS g fun f4 d0 g => XE 15 rfl (mz (enc := jw) (v := (qP kP e0 H.kK (.slice none 0 0))) (vs := (.slice (some ⟨e7, 0, none⟩) 1 1)) (R := e4) d kC dc nw aR mT.1 mT.2.1 rfl mT.2.2.1 mT.2.2.2 rfl rfl d6 (Sl.lit (enc := jw) (l := [H]) kC rfl nb rfl (d.at_ (Ma (Ma Mh)))) d0 (fun i8 j6 i0 d c6 => ?_))
  have m := d.has.ju (Dr (Dr (Db (Kb (Kb Sn)))))
  refine ⟨⟨m, fun h => zI kr h⟩, ?_⟩
  replace d := d.perm (Nr (Qr Qz) Nz)
  refine XO 16 rfl (QO (k := H.kK) (z := f4)  GA underlying244 d d2 rfl rfl rfl c6 (fun i9 e5 d c7 => ?_))
  have m := d.has.ju (Dr (Db (Kb (Kb Sn))))
  refine ⟨⟨m, fun h => zI kr h⟩, (kM kr (pd ?_))⟩
  obtain rfl := sj g
  exact ob rfl ⟨_, _, rfl, (d.mc (Sb (Pr (Pb Pz)) (Sr (Qr (Qb (Qb (Qr (Qr Qz))))) (Sr (Qr (Qb (Qb (Qr Qz)))) (Sr (Qr (Qb (Qb Qz))) (Kr (Db (Db (Kr Sn))))))))), A, b7, U, e5, rfl, rfl, b5, Z, c7.e⟩
 refine kG (pd ?_)
 obtain rfl := sj g
 exact ob rfl ⟨_, _, rfl, (d.mc (Kb (Db (Sr (Qr (Qr Qz)) (Sr (Qr Qz) (Kr (Kr (Kr Sn)))))))), A, b7, U, t, rfl, rfl, b5, Z, T⟩
theorem qy (J : Nat) (g : Value) (a0 : List (jq × (List (ByteArray × Bool)))) (D : LO) (a : Value) (M : List jr) (u : LO) (j : Value) (Z : List (jq × (List jr))) (B : LO) (c : Value) (N : List (ByteArray × (List jr))) (y : LO) (i : Value) (Y : List jJ) (t : LO) (H : Int) (G : jq) (U : ByteArray) (r : ((List (jq × (List (ByteArray × Bool)))) × (List jJ) × Int)) (w : World) {μ0 : kk} (h0 : nz μ0 ((J, Ob #[g, a, j, c, i, (.int .i64 H)] 246) :: (D ++ (u ++ (B ++ (y ++ (t ++ [])))))) w) (a5 : lQ (fun (x : jq) => (.agg (jA x).toArray)) (lN Value.string (fun (x : Bool) => (Value.bool x))) g a0 D) (b5 : jX 52 jw 9 a M u) (c3 : lQ (fun (x : jq) => (.agg (jA x).toArray)) (jX 52 jw 9) j Z B) (b6 : lQ Value.string (jX 52 jw 9) c N y) (K : pN 285 kq 3 i Y t) (hm : nG a0 M Z N Y H G U = some r) :
  lH true pg0 321 [(.pointer (some ⟨J, 0, none⟩)), (.agg (jA G).toArray), (.string U)] w ((J, Ob #[g, a, j, c, i, (.int .i64 H)] 246) :: (D ++ (u ++ (B ++ (y ++ (t ++ [])))))) (fun v L1 W' => ∃ S1 y3 S4, v = (.tuple #[]) ∧ L1 = ((J, Ob #[g, a, j, c, y3, (.int .i64 (r.2.2))] 246) :: (S1 ++ (u ++ (B ++ (y ++ (S4 ++ [])))))) ∧ lQ (fun (x : jq) => (.agg (jA x).toArray)) (lN Value.string (fun (x : Bool) => (Value.bool x))) g r.1 S1 ∧ pN 285 kq 3 y3 r.2.1 S4) := by
 let a1 := (#[g, a, j, c, i, (.int .i64 H)] : Array Value)
 refine Ab h0 53 func321 rfl (fun m => sg (VE (kj m rfl (fun W2 b1 m => ln (jI (jI ?_))))))
 replace m := m.drew
 have d := m.has.ju (Kb (Kb (Kr Sn)))
 refine ky d kd (X 0 rfl d (jC rfl) (X 1 rfl d (mJ rfl) (X 2 rfl d (jz wL rfl) (XH 3 rfl d (fun _ p => jv rfl (jK p (Mt Mh) rfl gJ)) (XH 4 rfl d (fun _ p => jv rfl (jy p Mh (jA G) rfl bF aS)) ?_)))))
 obtain ⟨f4, Q⟩ := a5
 refine XH 5 rfl d (fun _ p => oN (k := G) (z := (.map none)) z6 eL fl rfl rfl Q (fun b o A => p.2 b o (Mt (Mt (Ml A))))) (X 6 rfl d (jC rfl) (XH 7 rfl d (fun _ p => zz (k := U) (z := false) (vf := (fun (x : Bool) => (Value.bool x))) GA fu ja rfl rfl (mK.Di (μ := hp _) jS.1 Q G (fun b o A => p.2 b o (Mt (Mt (Ml A)))))) (kM kr (jE (CI hm rfl (fun d5 hm => ?_) (fun d5 hm => ?_))))))
 ·refine jZ (km ?_)
  obtain rfl := sj hm
  exact ob rfl ⟨_, _, rfl, (m.mc (Db (Kb (Kr (Kr (Kr (Kr (Kr Sn)))))))), D, i, t, rfl, rfl, Q.e, K⟩
 refine kn (jI (CJ hm (fun b2 E W => ∃ O c0, ST true (keys ((J, Obj.cells a1 246 (0, 0)) :: (D ++ (u ++ (B ++ (y ++ (t ++ []))))))) w W μ0 ((b1, Ol (jA G) 27) :: ((J, Obj.cells a1 246 (0, 0)) :: (O ++ (u ++ (B ++ (y ++ (t ++ c0))))))) ∧ E 0 = (.pointer (some ⟨J, 0, none⟩)) ∧ E 2 = (.string U) ∧ E 4 = (.pointer (some ⟨b1, 0, none⟩)) ∧ lQ (fun (x : jq) => (.agg (jA x).toArray)) (lN Value.string (fun (x : Bool) => (Value.bool x))) g b2 O) (fun b2 I => ?_) ?_))
 ·refine jI ?_
  replace m := m.drew
  have d := m.has.ju (Kb (Kb (Kr Sn)))
  refine ky d kd (X 0 rfl d (jC rfl) (X 1 rfl d (mJ rfl) (X 2 rfl d (jz wL rfl) (XH 3 rfl d (fun _ p => jv rfl (jK p (Mt Mh) rfl gJ)) (XH 4 rfl d (fun _ p => jv rfl (jy p Mh (jA G) rfl bF aS)) (XH 5 rfl d (fun _ p => oN (k := G) (z := (.map none)) z6 eL fl rfl rfl Q (fun b o A => p.2 b o (Mt (Mt (Ml A))))) (X 6 rfl d (Kt jS.1 fu Q rfl rfl) (kM kr (jE (CI I rfl (fun b7 I => ?_) (fun b7 I => ?_)))))))))))
  ·replace m := m.drew
   have d := m.has.ju (Kb (Kb Sn))
   refine ky d kd (X 0 rfl d (jC rfl) (X 1 rfl d (mJ rfl) (X 2 rfl d (jz wL rfl) (XH 3 rfl d (fun _ p => jv rfl (jK p (Mt Mh) rfl gJ)) (XH 4 rfl d (fun _ p => jv rfl (jy p Mh (jA G) rfl bF aS)) (XE 5 rfl (HZ (P := pg0) Value.string (fun (x : Bool) => (Value.bool x)) m (fun e1 e7 d9 m b3 => ?_))))))))
   have d := m.has.ju (Dr (Kb (Kb Sn)))
   refine ⟨d, ?_⟩
   replace m := m.perm (Nr (Qr (Qb (Qb Qz))) Nz)
   refine bS I fun e4 b9 I => XO 6 rfl (NZ (k := G) (z := ([]))  z6 eL m Q rfl rfl rfl b3 b9 (fun e2 c4 m b4 => ?_))
   have d := m.has.ju (Dr (Kb (Kb Sn)))
   refine ⟨d, (kM kr (jE ?_))⟩
   obtain rfl := sj I
   exact ⟨c4, _, (m.ju (Sb (Pr Pz) (Sb (Pr Pz) St))), rfl, rfl, rfl, b4.e⟩
  refine kn ?_
  obtain rfl := sj I
  exact ⟨D, _, (m.ju St), rfl, rfl, rfl, Q.e⟩
 rintro f2 E W ⟨O, c0, m, L, c1, c2, c8⟩ T
 refine jI ?_
 replace m := m.drew
 have d := m.has.ju (Kb (Kb Sn))
 have n := m.has.ju (Db (Db (Kr Sn)))
 refine uR 7 d n kd (kR 0 rfl kr (.inl rfl) rfl dc (fun _ _ h => ⟨h.1, lJ br h.2⟩) ⟨d, fun _ => n⟩ (fun _ _ _ _ => jC L) (kR 1 rfl kr (.inl rfl) rfl dc (fun _ _ h => ⟨h.1, lJ br h.2⟩) ⟨d, fun _ => n⟩ (fun _ _ _ _ => mJ rfl) (kR 2 rfl kr (.inl rfl) rfl dc (fun _ _ h => ⟨h.1, lJ br h.2⟩) ⟨d, fun _ => n⟩ (fun _ _ _ _ => jz wL rfl) (kR 3 rfl kr (.inl rfl) rfl dc (fun _ _ h => ⟨h.1, lJ br h.2⟩) ⟨d, fun _ => n⟩ (fun l W q s => have p := s.1; jv rfl (jK p (Mt Mh) rfl gJ)) (kR 4 rfl kr (.inl rfl) rfl dc (fun _ _ h => ⟨h.1, lJ br h.2⟩) ⟨d, fun _ => n⟩ (fun l W q s => have p := s.1; jv c2 (jy p Mh (jA G) rfl bF aS)) ?_)))))
 obtain ⟨e5, a9⟩ := c8
 refine kR 5 rfl kr (.inl rfl) rfl dc (fun _ _ h => ⟨h.1, lJ br h.2⟩) ⟨d, fun _ => n⟩ (fun l W q s => have p := (s.2 (q.DF 7 [5] kr rfl)); oN (k := G) (z := (.map none)) z6 eL fl rfl rfl a9 (fun b o A => p.2 b o (Ml A))) (kR 6 rfl kr (.inl rfl) rfl dc (fun _ _ h => ⟨h.1, lJ br h.2⟩) ⟨d, fun _ => n⟩ (fun _ _ _ _ => jC c1) ?_)
 replace m := m.perm (Nr (Qb (Qb Qz)) Nz)
 refine bS T fun f3 c7 T => XO 7 rfl (ML (k := G) (v := true) (vf := (fun (x : Bool) => (Value.bool x)))  jS.1 GA fu m a9 rfl rfl rfl c7 (fun e8 c9 m c5 => ?_))
 have d := m.has.ju (Dr (Kb (Kb Sn)))
 refine ⟨⟨d, fun h => zI kr h⟩, (kM kr (jE (sg (Wh L (Wn (Wf EV (VB m (Ma (Mt Mh)) rfl rfl bX (Wi rfl (Wn (Wf EV ?_))))))))))⟩
 replace m := m.perm (Nb (Pr (Pb Pz)) Nz)
 refine VO (jL (.int .i64 (wi0 .i64 (H + 1))) (#[g, a, j, c, i, (.int .i64 (wi0 .i64 (H + 1)))]) m rfl rfl gu (EK _ (wi0 .i64 (H + 1))) nb rfl (fun e9 m => ln ?_))
 replace m := m.drew
 have d := m.has.ju (Db (Dr (Kb Sn)))
 have n := m.has.ju (Kb Sn)
 refine uR 12 d n kd (kR 0 rfl kr (.inl rfl) rfl dc (fun _ _ h => ⟨h.1, lJ br h.2⟩) ⟨d, fun _ => n⟩ (fun _ _ _ _ => jC L) (kR 1 rfl kr (.inl rfl) rfl dc (fun _ _ h => ⟨h.1, lJ br h.2⟩) ⟨d, fun _ => n⟩ (fun _ _ _ _ => jC L) (kR 2 rfl kr (.inl rfl) rfl dc (fun _ _ h => ⟨h.1, lJ br h.2⟩) ⟨d, fun _ => n⟩ (fun _ _ _ _ => mJ rfl) (kR 3 rfl kr (.inl rfl) rfl dc (fun _ _ h => ⟨h.1, lJ br h.2⟩) ⟨d, fun _ => n⟩ (fun _ _ _ _ => jz AA rfl) (kR 4 rfl kr (.inl rfl) rfl dc (fun _ _ h => ⟨h.1, lJ br h.2⟩) ⟨d, fun _ => n⟩ (fun l W q s => have p := (s.2 (q.DF 12 [4] kr rfl)); jv rfl (jK p Mh rfl isAgg226)) (kR 5 rfl kr (.inl rfl) rfl dc (fun _ _ h => ⟨h.1, lJ br h.2⟩) ⟨d, fun _ => n⟩ (fun l W q s => have p := s.1; jv c2 (jy p Mh (jA G) rfl bF aS)) (kR 6 rfl kr (.inl rfl) rfl dc (fun _ _ h => ⟨h.1, lJ br h.2⟩) ⟨d, fun _ => n⟩ (fun _ _ _ _ => jC c1) (kR 7 rfl kr (.inl rfl) rfl dc (fun _ _ h => ⟨h.1, lJ br h.2⟩) ⟨d, fun _ => n⟩ (fun _ _ _ _ => lC (v := (.agg (kq (⟨G, U⟩ : jJ)).toArray)) (uJ rfl rfl) (kI eH eJ (LB _ eJ) kr)) (XE 8 rfl (jW (cs := (kq (⟨G, U⟩ : jJ)).toArray) m (kX rfl) (lM cR dB eH) (fun f0 d4 m => ?_)))))))))))
 have d := m.has.ju (Db (Db (Dr (Kb Sn))))
 have n := m.has.ju (Db (Kb Sn))
 refine ⟨⟨d, fun _ => n⟩, ?_⟩
 replace m := m.perm (Nr (Qb (Qb (Qr (Qb (Qr (Qr (Qr Qz))))))) Nz)
 refine bS T fun b0 c6 T => XE 9 rfl (KA (enc := kq) (v := i) (vs := (.slice (some ⟨d4, 0, none⟩) 1 1)) (R := t) m pv dc yR cR tG.1 tG.2.1 rfl tG.2.2.1 tG.2.2.2 rfl rfl K (Sl.lit (enc := kq) (l := [(⟨G, U⟩ : jJ)]) pv rfl nb rfl (m.at_ (Ma Mh))) c6 (fun f1 e6 d0 m a7 => ?_))
 have d := m.has.ju (Dr (Db (Db (Dr (Kb Sn)))))
 have n := m.has.ju (Dr (Db (Kb Sn)))
 refine ⟨⟨d, fun _ => n⟩, (kR 10 rfl kr (.inl rfl) rfl dc (fun _ _ h => ⟨h.1, lJ br h.2⟩) ⟨d, fun _ => n⟩ (fun _ _ _ _ => mJ rfl) (kR 11 rfl kr (.inl rfl) rfl dc (fun _ _ h => ⟨h.1, lJ br h.2⟩) ⟨d, fun _ => n⟩ (fun _ _ _ _ => jz AA rfl) ?_))⟩
 obtain ⟨a3, a4, rfl⟩ := a7.form
 let a2 : Value := (.slice a3 b0.length a4)
 replace m := m.perm (Nb (Pr (Pb Pz)) Nz)
 refine XO 12 rfl (jL a2 (#[g, a, j, c, a2, (.int .i64 (wi0 .i64 (H + 1)))]) m rfl rfl sizeOf226 oc nb rfl (fun e0 m => ?_))
 have d := m.has.ju (Db (Dr (Db (Dr (Kb Sn)))))
 refine ⟨⟨d, fun h => zI kr h⟩, (kM kr (pd ?_))⟩
 obtain rfl := sj T
 exact ob rfl ⟨_, _, rfl, (m.mc (Kb (Sr (Qr (Qb Qz)) (Sr (Qr (Qb (Qb Qz))) (Sr (Qr (Qb (Qb Qz))) (Sr (Qr (Qb (Qb Qz))) (Kr Sn))))))), c9, a2, d0, rfl, rfl, c5.e, a7⟩
theorem vm (a : Value) (g : List (ByteArray × Bool)) (r : Unit) (w : World) (c : vR Value.string (fun (x : Bool) => (Value.bool x)) (hp w) a g) (hm : ow g = some r) :
  lH true pg0 362 [a] w [] (fun v k W' => ∃ i, v = (.func (.func 380) #[] #[(.pointer (some ⟨i, 0, none⟩))]) ∧ k = ((i, Ob #[a] 247) :: [])) := by
 refine sP 4 func362 rfl (fun b => sg ?_)
 obtain ⟨t, rfl⟩ := c.form
 refine VE (kj b rfl (fun u j b => Wa (lr (V (uf (by exact vg rfl) rfl) (Wa (lt ?_))))))
 obtain rfl := sj hm
 exact kO (v := (.func (.func 380) #[] #[(.pointer (some ⟨j, 0, none⟩))])) rfl rfl ⟨_, _, rfl, (b.K7 (Kb Sn)), j, rfl, rfl⟩
theorem HK {β : Type} {vf : β → Value} {l : List (ByteArray × β)} {b : Nat} {d : Value} {W : World} {r : List ByteArray} (g : W.heap[b]? = some (.cells #[d] 247 (0, 0))) (hm : vR Value.string vf (hp W) d l) (hk : Gc l = some r) : kY false pg0 361 [.func (.func 380) #[] #[.pointer (some ⟨b, 0, none⟩)]] W 9 sH 1 r := Ki (P := pg0) Qt PF QV rfl bZ call380 call379 g hm hk
theorem xT (T : Nat) (a : Value) (u : List (jq × (List (ByteArray × Bool)))) (c : Value) (t : List jr) (j : Value) (G : List (jq × (List jr))) (g : Value) (B : List (ByteArray × (List jr))) (i : Value) (D : List jJ) (Q : Int) (H : jq) (r : List ByteArray) (w : World) (J : pZ (fun (x : jq) => (.agg (jA x).toArray)) (lN Value.string (fun (x : Bool) => (Value.bool x))) (hp w) a u) (Z : Sl (Pl jw) 9 (hp w) c t) (a4 : pZ (fun (x : jq) => (.agg (jA x).toArray)) (jX 52 jw 9) (hp w) j G) (a0 : pZ Value.string (jX 52 jw 9) (hp w) g B) (a3 : Sl (Pl kq) 3 (hp w) i D) (Y : At (hp w) (.pointer (some ⟨T, 0, none⟩)) [a, c, j, g, i, (.int .i64 Q)]) (hm : qb u t G B D Q H = some r) :
  kY false pg0 322 [(.pointer (some ⟨T, 0, none⟩)), (.agg (jA H).toArray)] w 9 sH 1 r := by
 refine sP 15 func322 rfl (fun d => sg (VE (kj d rfl (fun W2 R d => Wa (lS (Wm (V (ua underlying183 rfl rfl) (ln (ql rfl ?_)))))))))
 refine kn (jI ?_)
 replace d := d.drew
 have h := d.has.ju (Kb Sn)
 refine ky h kd (X 0 rfl h (jC rfl) (X 1 rfl h (mJ rfl) (XQ 2 rfl h (wu [a] wL rfl Y rfl) (fun b9 A => XH 3 rfl h (fun _ l => jv rfl (oE l (y := a) A gJ)) (XH 4 rfl h (fun _ l => jv rfl (jy l Mh (jA H) rfl bF aS)) ?_)))))
 obtain ⟨a9, b4, K, M⟩ := J
 refine XH 5 rfl h (fun _ l => oN (k := H) (z := (.map none)) z6 eL fl rfl rfl K (fun b o m => l.1 b o (M b o m))) (bS hm fun c0 E hm => ?_)
 refine XE 6 rfl (Fo d (bW _) call362 (fun _ _ _ _ => lH.lz (vm (qP jR a9 H (.map none)) ((kZ jR u H).getD []) _ _ ((mK.Di jS.1 K H M).mono d.jB) E)) (fun b5 c2 c3 W d I q n a5 => ?_) (L0 := []))
 obtain ⟨b7, N, rfl⟩ := a5
 replace N := N.symm; subst N
 replace d := d.perm (Tb Tn)
 have h := d.has.ox I (Db (Kb Sn))
 refine ⟨h, (bS hm fun c1 L hm => XE 7 rfl (oW d call361 (HK (vf := (fun (x : Bool) => (Value.bool x))) (d.has.2 _ _ Mh) ((mK.Di jS.1 K H M).mono (fun b o m => d.has.1 b o (I b o m))) L) (fun b6 P c4 O d a2 s U => ?_)))⟩
 have h := d.has.ox (I.trans a2) (Dr (Db (Kb Sn)))
 refine ⟨h, (X 8 rfl h (lO rfl) (kM kr (jE ?_)))⟩
 replace d := d.ju (Kr (Db (Db St)))
 refine jZ ?_
 obtain rfl := sj hm
 exact kO (v := P) rfl rfl ⟨_, O, rfl, d.mC (fun p m => (Ml m)) U.nd, U⟩
theorem DJ (K : Nat) (g : Value) (N : List (jq × (List (ByteArray × Bool)))) (G : LO) (a : Value) (H : List jr) (k : LO) (j : Value) (J : List (jq × (List jr))) (u : LO) (c : Value) (I : List (ByteArray × (List jr))) (t : LO) (z : Value) (M : List jJ) (B : LO) (Z : Int) (A a2 : jq) (r : ((List (jq × (List (ByteArray × Bool)))) × (List jJ) × Int)) (w : World) {μ0 : kk} (h0 : nz μ0 ((K, Ob #[g, a, j, c, z, (.int .i64 Z)] 246) :: (G ++ (k ++ (u ++ (t ++ (B ++ [])))))) w) (a5 : lQ (fun (x : jq) => (.agg (jA x).toArray)) (lN Value.string (fun (x : Bool) => (Value.bool x))) g N G) (Q : jX 52 jw 9 a H k) (a4 : lQ (fun (x : jq) => (.agg (jA x).toArray)) (jX 52 jw 9) j J u) (T : lQ Value.string (jX 52 jw 9) c I t) (a3 : pN 285 kq 3 z M B) (hm : tz N H J I M Z A a2 = some r) :
  lH false pg0 363 [(.pointer (some ⟨K, 0, none⟩)), (.agg (jA A).toArray), (.agg (jA a2).toArray)] w ((K, Ob #[g, a, j, c, z, (.int .i64 Z)] 246) :: (G ++ (k ++ (u ++ (t ++ (B ++ [])))))) (fun v L1 W' => ∃ S1 y3 S4, v = (.tuple #[]) ∧ L1 = ((K, Ob #[g, a, j, c, y3, (.int .i64 (r.2.2))] 246) :: (S1 ++ (k ++ (u ++ (t ++ (S4 ++ [])))))) ∧ lQ (fun (x : jq) => (.agg (jA x).toArray)) (lN Value.string (fun (x : Bool) => (Value.bool x))) g r.1 S1 ∧ pN 285 kq 3 y3 r.2.1 S4) := by
 refine Ab h0 21 func363 rfl (fun d => sg (VE (kj d rfl (fun W2 b1 d => VE (kj d rfl (fun W4 b3 d => lr (Wm (VA d (Mt Mh) (jA A) bF aS (bS hm fun r5 e6 hm => VE (oW d call322 (xT K g N a H j J c I z M Z A _ _ (a5.at (fun b o l => d.at_ (Mt (Mt (Mt (Ml l)))))) (Q.sl kC (fun b o l => d.at_ (Mt (Mt (Mt (Ma (Ml l))))))) (a4.at (fun b o l => d.at_ (Mt (Mt (Mt (Ma (Ma (Ml l)))))))) (T.at (fun b o l => d.at_ (Mt (Mt (Mt (Ma (Ma (Ma (Ml l))))))))) ((a3.DD pv).mono (Pl.mono _) (lI (fun b o l => d.at_ (Mt (Mt (Mt (Ma (Ma (Ma (Ma (Ml l))))))))))) (At.of (d.at_ (Mt (Mt Mh))) _ rfl) e6) (fun W7 e7 s e2 d f5 ae a9 => V (ns dw rfl a9) (Wm ?_))))))))))))
 refine ln ?_
 replace d := d.ju (Kr (Kb (Db St)))
 refine rb (ku (fun i E W => ∃ m U a0 n Y q L R, (E 12 = .int .i64 (i : Nat) ∧ E 11 = .int .i64 (r5.length : Nat)) ∧ kf s L ∧ ST false (keys ((K, Ob #[g, a, j, c, z, (.int .i64 Z)] 246) :: (G ++ (k ++ (u ++ (t ++ (B ++ []))))))) w W L ((K, Ob #[g, a, j, c, a0, (.int .i64 q)] 246) :: ((b3, Ol (jA a2) 27) :: (U ++ (k ++ (u ++ (t ++ (Y ++ (e2 ++ R)))))))) ∧ E 0 = (.pointer (some ⟨K, 0, none⟩)) ∧ E 5 = (.pointer (some ⟨b3, 0, none⟩)) ∧ E 10 = e7 ∧ lQ (fun (x : jq) => (.agg (jA x).toArray)) (lN Value.string (fun (x : Bool) => (Value.bool x))) g m U ∧ pN 285 kq 3 a0 n Y ∧ px H J I a2 (r5.drop i) m n q = some r) r5.length a9.len ⟨N, G, z, M, B, Z, s, _, ⟨rfl, rfl⟩, (kf.refl _), (d.ju (Sb (Pr (Pb Pz)) (Sb (Pr Pz) (Sr (Qr Qz) (Sr (Qr Qz) (Sr (Qr Qz) (Sr (Qr Qz) (Sr (Qr Qz) St)))))))), rfl, rfl, rfl, a5, a3, hm⟩ dc dc dc (fun _ _ _ h => by obtain ⟨_, _, _, _, _, _, _, _, aa, _⟩ := h; exact aa) ?_ ?_)
 ·rintro d8 E W c9 ⟨m, U, a0, n, Y, q, L, R, ⟨eI, eN⟩, b6, d, c0, c1, c2, O, P, D⟩
  obtain ⟨c4, f0, d2, c5, d3⟩ := kc c9
  rw [d2] at D
  refine bg (VQ (nv (i := (d8 : Int)) (x0 := c4) dw fb c2 eI a9 (aG _) c5) (fun f6 d0 => V (jv rfl (CN d.has (fun p l => (Mt (Mt (Ma (Ma (Ma (Ma (Ma (Ml l))))))))) a9 (fun _ => rfl) d0 c5 (y := (.string c4)) rfl bT)) (Wa (ln (jG (Wh c0 (V (jv c1 (jy d.has (Mt Mh) (jA a2) rfl bF aS)) (Wm (bS D fun c3 d1 D => ?_)))))))))
  refine VE (eM d (Cb Pz (Cr (Qb Qz) (Cr (Qb Qz) (Cr (Qb Qz) (Cr (Qb Qz) (Cr (Qb Qz) Cn)))))) call321 (fun hh _ => lH.lz (qy K g m U a H k j J u c I t a0 n Y q a2 c4 _ _ hh O Q a4 T P d1)) ?_)
  rintro _ f7 e1 f2 d c7 ab ad ⟨d6, e0, d7, b4, rfl, d4, d5⟩
  obtain rfl := b4.symm
  replace d := d.perm (Tb (Tr (Tr (Tr (Tr (Tr Tn))))))
  exact jU (ke (jE ⟨eI, c3.1, d6, e0, c3.2.1, d7, c3.2.2, e1, _, ⟨rfl, eN⟩, (b6.trans c7), (d.ju (Kb (Sb (Pr (Pr (Pr (Pr (Pr Pz))))) St))), c0, c1, c2, d4, d5, (by rw [d3]; exact D)⟩))
 rintro E W ⟨m, U, a0, n, Y, q, L, R, ⟨eI, eN⟩, b6, d, c0, c1, c2, O, P, D⟩
 rw [aH] at D
 refine jE ?_
 replace d := d.ju (Kb (Db (Kr (Kr (Kr (Kr (Kr (Dr St))))))))
 refine pd ?_
 obtain rfl := sj D
 exact ob rfl ⟨_, _, rfl, (d.mc (Kb (Kr (Kr (Kr (Kr (Kr Sn))))))), U, a0, Y, rfl, rfl, O, P⟩
theorem yL (K : Nat) (G : Value) (Z : List (jq × (List (ByteArray × Bool)))) (D : LO) (g : Value) (I : List jr) (a : LO) (B : Value) (N : List (jq × (List jr))) (y : LO) (i : Value) (J : List (ByteArray × (List jr))) (c : LO) (t : Value) (M : List jJ) (j : LO) (a0 : Int) (Q : jr) (a2 : jJ) (r : ((List (jq × (List (ByteArray × Bool)))) × (List jJ) × Int)) (w : World) {μ0 : kk} (h0 : nz μ0 ((K, Ob #[G, g, B, i, t, (.int .i64 a0)] 246) :: (D ++ (a ++ (y ++ (c ++ (j ++ [])))))) w) (U : lQ (fun (x : jq) => (.agg (jA x).toArray)) (lN Value.string (fun (x : Bool) => (Value.bool x))) G Z D) (T : jX 52 jw 9 g I a) (a3 : lQ (fun (x : jq) => (.agg (jA x).toArray)) (jX 52 jw 9) B N y) (Y : lQ Value.string (jX 52 jw 9) i J c) (H : pN 285 kq 3 t M j) (hm : qS Z I N J M a0 Q a2 = some r) :
  lH false pg0 323 [(.pointer (some ⟨K, 0, none⟩)), (.agg (jw Q).toArray), (.agg (kq a2).toArray)] w ((K, Ob #[G, g, B, i, t, (.int .i64 a0)] 246) :: (D ++ (a ++ (y ++ (c ++ (j ++ [])))))) (fun v L1 W' => ∃ S1 y3 S4, v = (.tuple #[]) ∧ L1 = ((K, Ob #[G, g, B, i, y3, (.int .i64 (r.2.2))] 246) :: (S1 ++ (a ++ (y ++ (c ++ (S4 ++ [])))))) ∧ lQ (fun (x : jq) => (.agg (jA x).toArray)) (lN Value.string (fun (x : Bool) => (Value.bool x))) G r.1 S1 ∧ pN 285 kq 3 y3 r.2.1 S4) := by
 let s := (#[G, g, B, i, t, (.int .i64 a0)] : Array Value)
 refine Ab h0 57 func323 rfl (fun d => sg (VE (kj d rfl (fun W2 A d => VE (kj d rfl (fun W4 O d => lr (Wf pY (VB d (Mt Mh) rfl rfl bX (ln (lA (jI ?_)))))))))))
 refine jG (Wi rfl (Wa (ln (CI hm rfl (fun e5 hm => ?_) (fun e5 hm => ?_)))))
 ·refine jG (Wm (Wf qT (VA d (Mt Mh) (jA Q.Head) bF aS (Wf vy (VB d Mh rfl rfl bT (bS hm fun r6 e6 hm => ?_))))))
  refine VE (eM d (Cb (Pb (Pb Pz)) (Cr (Qb (Qb Qz)) (Cr (Qb (Qb Qz)) (Cr (Qb (Qb Qz)) (Cr (Qb (Qb Qz)) (Cr (Qb (Qb Qz)) Cn)))))) call321 (fun q _ => lH.lz (qy K G Z D g I a B N y i J c t M j a0 Q.Head a2.kz _ _ q U T a3 Y H e6)) ?_)
  rintro _ g7 ad f8 d f2 a6 m ⟨d2, e7, d3, a8, rfl, c5, c6⟩
  obtain rfl := a8.symm
  replace d := d.perm (Tb (Tr (Tr (Tr (Tr (Tr Tn))))))
  refine jU (ke (pd ?_))
  obtain rfl := sj hm
  exact ob rfl ⟨_, _, rfl, (d.mc (Kb (Kr (Kr (Kr (Kr (Kr Sn))))))), d2, e7, d3, rfl, rfl, c5, c6⟩
 refine sg (Wi rfl (Wa (ln (CI hm rfl (fun c0 hm => ?_) (fun c0 hm => ?_)))))
 ·refine jG (Wm (Wf vy (VB d Mh rfl rfl bT (Wf tX (VB d (Mt Mh) rfl rfl bT (V (lC (v := (.agg (jA (⟨a2.kz, Q.kK⟩ : jq)).toArray)) (uJ rfl rfl) (kI eA dN (LX _ dN) kr)) (Wf qT (VA d (Mt Mh) (jA Q.Head) bF aS (bS hm fun g3 c3 hm => ?_)))))))))
  refine VE (eM d (Cb (Pb (Pb Pz)) (Cr (Qb (Qb Qz)) (Cr (Qb (Qb Qz)) (Cr (Qb (Qb Qz)) (Cr (Qb (Qb Qz)) (Cr (Qb (Qb Qz)) Cn)))))) call363 (fun q _ => (DJ K G Z D g I a B N y i J c t M j a0 (⟨a2.kz, Q.kK⟩ : jq) Q.Head _ _ q U T a3 Y H c3)) ?_)
  rintro _ g8 h2 f9 d f3 aa m ⟨d4, e9, d5, a9, rfl, c7, c8⟩
  obtain rfl := a9.symm
  replace d := d.perm (Tb (Tr (Tr (Tr (Tr (Tr Tn))))))
  refine jU (ke (pd ?_))
  obtain rfl := sj hm
  exact ob rfl ⟨_, _, rfl, (d.mc (Kb (Kr (Kr (Kr (Kr (Kr Sn))))))), d4, e9, d5, rfl, rfl, c7, c8⟩
 refine sg (Wi rfl (Wa (ln (CI hm rfl (fun c1 hm => ?_) (fun c1 hm => ?_)))))
 ·refine jI ?_
  replace d := d.drew
  have h := d.has.ju (Kb (Kb (Kb (Kr Sn))))
  refine ky h kd (X 0 rfl h (jC rfl) (X 1 rfl h (mJ rfl) (X 2 rfl h (jz wL rfl) (XH 3 rfl h (fun _ l => jv rfl (jK l (Mt (Mt Mh)) rfl gJ)) (X 4 rfl h (jz ny rfl) (XH 5 rfl h (fun _ l => jv rfl (jy l (Mt Mh) (jA Q.B) rfl bF aS)) ?_))))))
  obtain ⟨f7, a5⟩ := U
  refine XH 6 rfl h (fun _ l => oN (k := Q.B) (z := (.map none)) z6 eL fl rfl rfl a5 (fun b o n => l.2 b o (Mt (Mt (Mt (Ml n)))))) (X 7 rfl h (jz vy rfl) (XH 8 rfl h (fun _ l => jv rfl (jK l Mh rfl bT)) (XH 9 rfl h (fun _ l => zz (k := a2.kz) (z := false) (vf := (fun (x : Bool) => (Value.bool x))) GA fu ja rfl rfl (mK.Di (μ := hp _) jS.1 a5 Q.B (fun b o n => l.2 b o (Mt (Mt (Mt (Ml n))))))) (X 10 rfl h (jC rfl) (PJ hm (fun R E W => ∃ P, ST false (keys ((K, Obj.cells s 246 (0, 0)) :: (D ++ (a ++ (y ++ (c ++ (j ++ []))))))) w W μ0 ((O, Ol (kq a2) 285) :: ((A, Ol (jw Q) 52) :: ((K, Obj.cells s 246 (0, 0)) :: (D ++ (a ++ (y ++ (c ++ (j ++ P)))))))) ∧ E 0 = (.pointer (some ⟨K, 0, none⟩)) ∧ E 4 = (.pointer (some ⟨A, 0, none⟩)) ∧ E 5 = (.pointer (some ⟨O, 0, none⟩)) ∧ E 50 = (.bool R)) (bm 22 4194303) 0 ?_ (fun R p L => ?_))))))
  ·rintro h1 E W ⟨P, d, e1, e2, e3, e4⟩ a4
   refine kM kr (jE (CI a4 e4 (fun c2 a4 => ?_) (fun c2 a4 => ?_)))
   ·refine jG (Wh e1 (V (jz qT e2) (VA d (Mt Mh) (jA Q.Head) bF aS (V (jz vy e3) (VB d Mh rfl rfl bT (bS a4 fun g4 c4 a4 => ?_))))))
    refine VE (eM d (Cb (Pb (Pb Pz)) (Cr (Qb (Qb Qz)) (Cr (Qb (Qb Qz)) (Cr (Qb (Qb Qz)) (Cr (Qb (Qb Qz)) (Cr (Qb (Qb Qz)) Cn)))))) call321 (fun q _ => lH.lz (qy K G Z D g I a B N y i J c t M j a0 Q.Head a2.kz _ _ q a5.e T a3 Y H c4)) ?_)
    rintro _ g9 h3 g0 d f4 ab m ⟨d7, f0, d8, b0, rfl, c9, d0⟩
    obtain rfl := b0.symm
    replace d := d.perm (Tb (Tr (Tr (Tr (Tr (Tr Tn))))))
    refine jU (ke (pd ?_))
    obtain rfl := sj a4
    exact ob rfl ⟨_, _, rfl, (d.mc (Kb (Kr (Kr (Kr (Kr (Kr Sn))))))), d7, f0, d8, rfl, rfl, c9, d0⟩
   refine kG (ke (pd ?_))
   obtain rfl := sj a4
   exact ob rfl ⟨_, _, rfl, (d.mc (Db (Db (Kb (Kr (Kr (Kr (Kr (Kr Sn))))))))), D, t, j, rfl, rfl, a5.e, H⟩
  refine bC p (fun u p => ?_) (fun u p => ?_)
  ·refine Xg 11 rfl rfl (cB u) h (jC rfl) (Xg 12 rfl rfl (cB u) h (mJ rfl) (Xg 13 rfl rfl (cB u) h (jz wL rfl) (su 14 rfl rfl (cB u) h (fun _ l => jv rfl (jK l (Mt (Mt Mh)) rfl gJ)) (Xg 15 rfl rfl (cB u) h (jz rI rfl) (su 16 rfl rfl (cB u) h (fun _ l => jv rfl (jy l (Mt Mh) (jA Q.C) rfl bF aS)) (su 17 rfl rfl (cB u) h (fun _ l => oN (k := Q.C) (z := (.map none)) z6 eL fl rfl rfl a5 (fun b o n => l.2 b o (Mt (Mt (Mt (Ml n)))))) (Xg 18 rfl rfl (cB u) h (jz vy rfl) (su 19 rfl rfl (cB u) h (fun _ l => jv rfl (jK l Mh rfl bT)) (su 20 rfl rfl (cB u) h (fun _ l => zz (k := a2.kz) (z := false) (vf := (fun (x : Bool) => (Value.bool x))) GA fu ja rfl rfl (mK.Di (μ := hp _) jS.1 a5 Q.C (fun b o n => l.2 b o (Mt (Mt (Mt (Ml n))))))) (X 21 rfl h (jM (cB u) rfl) ?_))))))))))
   obtain rfl := sj p
   refine mX kr (L _ _ ⟨_, (d.ju St), rfl, rfl, rfl, rfl⟩)
  refine Xn 11 rfl rfl (cB u) h (Xn 12 rfl rfl (cB u) h (Xn 13 rfl rfl (cB u) h (Xn 14 rfl rfl (cB u) h (Xn 15 rfl rfl (cB u) h (Xn 16 rfl rfl (cB u) h (Xn 17 rfl rfl (cB u) h (Xn 18 rfl rfl (cB u) h (Xn 19 rfl rfl (cB u) h (Xn 20 rfl rfl (cB u) h (X 21 rfl h (jO (cB u) rfl) ?_))))))))))
  obtain rfl := sj p
  refine mX kr (L _ _ ⟨_, (d.ju St), rfl, rfl, rfl, rfl⟩)
 refine kG (ke (pd ?_))
 obtain rfl := sj hm
 exact ob rfl ⟨_, _, rfl, (d.mc (Db (Db (Kb (Kr (Kr (Kr (Kr (Kr Sn))))))))), D, t, j, rfl, rfl, U, H⟩
theorem CA (K : Nat) (g : Value) (T : List (jq × (List (ByteArray × Bool)))) (D : LO) (a : Value) (G : List jr) (j : LO) (t : Value) (J : List (jq × (List jr))) (u : LO) (c : Value) (H : List (ByteArray × (List jr))) (k : LO) (z : Value) (M : List jJ) (B : LO) (a0 : Int) (Z : jr) (r : ((List (jq × (List (ByteArray × Bool)))) × (List jJ) × Int)) (w : World) {μ0 : kk} (h0 : nz μ0 ((K, Ob #[g, a, t, c, z, (.int .i64 a0)] 246) :: (D ++ (j ++ (u ++ (k ++ (B ++ [])))))) w) (a2 : lQ (fun (x : jq) => (.agg (jA x).toArray)) (lN Value.string (fun (x : Bool) => (Value.bool x))) g T D) (N : jX 52 jw 9 a G j) (Y : lQ (fun (x : jq) => (.agg (jA x).toArray)) (jX 52 jw 9) t J u) (Q : lQ Value.string (jX 52 jw 9) c H k) (U : pN 285 kq 3 z M B) (hm : rW T G J H M a0 Z = some r) :
  lH false pg0 262 [(.pointer (some ⟨K, 0, none⟩)), (.agg (jw Z).toArray)] w ((K, Ob #[g, a, t, c, z, (.int .i64 a0)] 246) :: (D ++ (j ++ (u ++ (k ++ (B ++ [])))))) (fun v L1 W' => ∃ S1 y3 S4, v = (.tuple #[]) ∧ L1 = ((K, Ob #[g, a, t, c, y3, (.int .i64 (r.2.2))] 246) :: (S1 ++ (j ++ (u ++ (k ++ (S4 ++ [])))))) ∧ lQ (fun (x : jq) => (.agg (jA x).toArray)) (lN Value.string (fun (x : Bool) => (Value.bool x))) g r.1 S1 ∧ pN 285 kq 3 y3 r.2.1 S4) := by
 refine Ab h0 33 func262 rfl (fun d => sg (VE (kj d rfl (fun W2 b1 d => lr (Wf pY (VB d Mh rfl rfl bX (ln (bg ?_))))))))
 refine Wi rfl (Wa (ln (CI hm rfl (fun f1 hm => ?_) (fun f1 hm => ?_))))
 ·refine jG (Wm (Wf qT (VA d Mh (jA Z.Head) bF aS (Wf wg (VB d Mh rfl rfl bT (bS hm fun r4 f2 hm => ?_))))))
  refine VE (eM d (Cb (Pb Pz) (Cr (Qb Qz) (Cr (Qb Qz) (Cr (Qb Qz) (Cr (Qb Qz) (Cr (Qb Qz) Cn)))))) call321 (fun hh _ => lH.lz (qy K g T D a G j t J u c H k z M B a0 Z.Head Z.kz _ _ hh a2 N Y Q U f2)) ?_)
  rintro _ h1 ae g8 d g2 ad m ⟨e7, f4, e8, c2, rfl, e0, e1⟩
  obtain rfl := c2.symm
  replace d := d.perm (Tb (Tr (Tr (Tr (Tr (Tr Tn))))))
  refine jU (ke (pd ?_))
  obtain rfl := sj hm
  exact ob rfl ⟨_, _, rfl, (d.mc (Kb (Kr (Kr (Kr (Kr (Kr Sn))))))), e7, f4, e8, rfl, rfl, e0, e1⟩
 refine sg (Wm (Wf ny (VA d Mh (jA Z.B) bF aS (bS hm fun c6 d9 hm => VE (oW d call322 (xT K g T a G t J c H z M a0 Z.B _ _ (a2.at (fun b o l => d.at_ (Mt (Mt (Ml l))))) (N.sl kC (fun b o l => d.at_ (Mt (Mt (Ma (Ml l)))))) (Y.at (fun b o l => d.at_ (Mt (Mt (Ma (Ma (Ml l))))))) (Q.at (fun b o l => d.at_ (Mt (Mt (Ma (Ma (Ma (Ml l)))))))) ((U.DD pv).mono (Pl.mono _) (lI (fun b o l => d.at_ (Mt (Mt (Ma (Ma (Ma (Ma (Ml l)))))))))) (At.of (d.at_ (Mt Mh)) _ rfl) d9) (fun g9 f3 d5 e5 d f6 ab L => V (ns dw rfl L) (Wm (ln (rb (ku (fun i E W => ∃ n a3 a5 q a4 a9 O b9, (E 13 = .int .i64 (i : Nat) ∧ E 12 = .int .i64 (c6.length : Nat)) ∧ kf d5 O ∧ ST false (keys ((K, Ob #[g, a, t, c, z, (.int .i64 a0)] 246) :: (D ++ (j ++ (u ++ (k ++ (B ++ []))))))) w W O ((K, Ob #[g, a, t, c, a5, (.int .i64 a9)] 246) :: ((b1, Ol (jw Z) 52) :: (a3 ++ (j ++ (u ++ (k ++ (a4 ++ (e5 ++ b9)))))))) ∧ E 0 = (.pointer (some ⟨K, 0, none⟩)) ∧ E 3 = (.pointer (some ⟨b1, 0, none⟩)) ∧ E 11 = f3 ∧ lQ (fun (x : jq) => (.agg (jA x).toArray)) (lN Value.string (fun (x : Bool) => (Value.bool x))) g n a3 ∧ pN 285 kq 3 a5 q a4 ∧ oO G J H Z (c6.drop i) n q a9 = some r) c6.length L.len ⟨T, D, z, M, B, a0, d5, _, ⟨rfl, rfl⟩, (kf.refl _), (d.ju (Sb (Pr (Pb Pz)) (Sb (Pr Pz) (Sr (Qr Qz) (Sr (Qr Qz) (Sr (Qr Qz) (Sr (Qr Qz) (Sr (Qr Qz) St)))))))), rfl, rfl, rfl, a2, U, hm⟩ dc dc dc (fun _ _ _ h => by obtain ⟨_, _, _, _, _, _, _, _, a1, _⟩ := h; exact a1) ?_ ?_))))))))))
 ·rintro e2 E W c8 ⟨n, a3, a5, q, a4, a9, O, b9, ⟨eI, eN⟩, b7, d, c0, A, c1, P, R, I⟩
  obtain ⟨s, f7, d1, c4, d2⟩ := kc c8
  rw [d1] at I
  refine bg (VQ (nv (i := (e2 : Int)) (x0 := s) dw fb c1 eI L (aG _) c4) (fun g3 c9 => V (jv rfl (CN d.has (fun p l => (Mt (Mt (Ma (Ma (Ma (Ma (Ma (Ml l))))))))) L (fun _ => rfl) c9 c4 (y := (.string s)) rfl bT)) (Wa (ln (jG (Wh c0 (V (jv A (jy d.has (Mt Mh) (jw Z) rfl bU aM)) (V (jz ny A) (VA d (Mt Mh) (jA Z.B) bF aS (Wm (V (lC (v := (.agg (kq (⟨Z.B, s⟩ : jJ)).toArray)) (uJ rfl rfl) (kI eH eJ (LB _ eJ) kr)) ?_)))))))))))
  refine bS I fun c3 d0 I => ?_
  refine VE (eM d (Cb Pz (Cr (Qb Qz) (Cr (Qb Qz) (Cr (Qb Qz) (Cr (Qb Qz) (Cr (Qb Qz) Cn)))))) call323 (fun hh _ => (yL K g n a3 a G j t J u c H k a5 q a4 a9 Z (⟨Z.B, s⟩ : jJ) _ _ hh P N Y Q R d0)) ?_)
  rintro _ g4 e4 f9 d c5 aa m ⟨d6, e3, d7, b5, rfl, d3, d4⟩
  obtain rfl := b5.symm
  replace d := d.perm (Tb (Tr (Tr (Tr (Tr (Tr Tn))))))
  exact jU (ke (jE ⟨eI, c3.1, d6, e3, c3.2.1, d7, c3.2.2, e4, _, ⟨rfl, eN⟩, (b7.trans c5), (d.ju (Kb (Sb (Pr (Pr (Pr (Pr (Pr Pz))))) St))), c0, A, c1, d3, d4, (by rw [d2]; exact I)⟩))
 rintro E W ⟨n, a3, a5, q, a4, a9, O, b9, ⟨eI, eN⟩, b7, d, c0, A, c1, P, R, I⟩
 rw [aH] at I
 refine jE ?_
 replace d := d.ju (Kb (Db (Kr (Kr (Kr (Kr (Kr (Dr St))))))))
 refine ke (pd ?_)
 obtain rfl := sj I
 exact ob rfl ⟨_, _, rfl, (d.mc (Kb (Kr (Kr (Kr (Kr (Kr Sn))))))), a3, a5, a4, rfl, rfl, P, R⟩
theorem B0 (I : Nat) (a : Value) (e8 : List (jq × (List (ByteArray × Bool)))) (K : LO) (c : Value) (Q : List jr) (j : LO) (u : Value) (N : List (jq × (List jr))) (y : LO) (g : Value) (H : List (ByteArray × (List jr))) (t : LO) (G : Value) (d4 : List jJ) (D : LO) (a0 : Int) (r : ((List (jq × (List (ByteArray × Bool)))) × (List jJ) × Int)) (w : World) {μ0 : kk} (h0 : nz μ0 ((I, Ob #[a, c, u, g, G, (.int .i64 a0)] 246) :: (K ++ (j ++ (y ++ (t ++ (D ++ [])))))) w) (h4 : lQ (fun (x : jq) => (.agg (jA x).toArray)) (lN Value.string (fun (x : Bool) => (Value.bool x))) a e8 K) (c1 : jX 52 jw 9 c Q j) (g7 : lQ (fun (x : jq) => (.agg (jA x).toArray)) (jX 52 jw 9) u N y) (c2 : lQ Value.string (jX 52 jw 9) g H t) (g4 : pN 285 kq 3 G d4 D) (hm : ud e8 Q N H d4 a0 = some r) :
  lH false pg0 263 [(.pointer (some ⟨I, 0, none⟩))] w ((I, Ob #[a, c, u, g, G, (.int .i64 a0)] 246) :: (K ++ (j ++ (y ++ (t ++ (D ++ [])))))) (fun v L1 W' => ∃ S1 y3 S4, v = (.tuple #[]) ∧ L1 = ((I, Ob #[a, c, u, g, y3, (.int .i64 (r.2.2))] 246) :: (S1 ++ (j ++ (y ++ (t ++ (S4 ++ [])))))) ∧ lQ (fun (x : jq) => (.agg (jA x).toArray)) (lN Value.string (fun (x : Bool) => (Value.bool x))) a r.1 S1 ∧ pN 285 kq 3 y3 r.2.1 S4) := by
 let g5 : Value := (.pointer (some ⟨I, 0, none⟩))
 let b8 := ((I, Ob #[a, c, u, g, G, (.int .i64 a0)] 246) :: (K ++ (j ++ (y ++ (t ++ (D ++ []))))))
 refine Ab h0 75 func263 rfl (fun d => rb (lA (nc (fun m E W => ∃ e3 b7 e4 a1 b9 d1 b4 h5, kf μ0 b4 ∧ ST false (keys b8) w W b4 ((I, Ob #[a, c, u, g, e4, (.int .i64 d1)] 246) :: (b7 ++ (j ++ (y ++ (t ++ (b9 ++ h5)))))) ∧ E 0 = g5 ∧ lQ (fun (x : jq) => (.agg (jA x).toArray)) (lN Value.string (fun (x : Bool) => (Value.bool x))) a e3 b7 ∧ pN 285 kq 3 e4 a1 b9 ∧ nk Q N H m e3 a1 d1 = some r) jY ⟨e8, K, G, d4, D, a0, μ0, _, (kf.refl _), (d.ju St), rfl, h4, g4, hm⟩ ?_)))
 rintro m E W ⟨e3, b7, e4, a1, b9, d1, b4, h5, i0, d, L, g9, c5, M⟩
 cases m with
 | zero => rw [nk] at M; cases M
 | succ n0 =>
  refine jI (sg (Wh L (Wn (Wf AA (VB d Mh rfl rfl isAgg226 (V (O2 cR rfl c5) (Wi rfl (ln (CI M rfl (fun i7 M => ?_) (fun i7 M => ?_))))))))))
  ·refine kn (bg (Wh L (Wn (Wf AA (VB d Mh rfl rfl isAgg226 (bS M fun B h2 M => VQ (mQ (enc := kq) (i := 0) (x0 := B) cR dB rfl rfl (c5.DD pv) (kl h2) (ki h2)) (fun q0 j7 => V (jv rfl (jQ (nn.hp _) (j7.mono (lI (fun b o p => d.has.2 b o (Mt (Ma (Ma (Ma (Ma (Ml p))))))))) gv dB)) (VE (kh d eH (fun o9 a5 d => VO (jL (.agg (kq B).toArray) ((kq B).toArray) d rfl rfl dB (yR B) nb rfl (fun p0 d => jU ?_))))))))))))
   let j2 := ((kZ jR N B.jq).getD [])
   let j1 : Value := (.pointer (some ⟨a5, 0, none⟩))
   let i6 := ((kq B).toArray : Array Value)
   let i5 := ((kZ kP H B.jq.Word).getD [])
   refine jE (sg (Wh L (Wh L (Wn (Wf AA (VB d (Mt Mh) rfl rfl isAgg226 (bS M fun _ g8 M => VQ (L8 (i := 1) cR dB rfl rfl pv c5 (uw g8) (uu g8)) (fun q3 h1 => Wn (Wf AA ?_)))))))))
   obtain ⟨f7, g0, rfl⟩ := h1.form
   let g6 : Value := (.slice f7 (a1.drop (Int.toNat 1)).length g0)
   replace d := d.perm (Nb (Pb Pz) Nz)
   refine VO (jL g6 (#[a, c, u, g, g6, (.int .i64 d1)]) d rfl rfl sizeOf226 oc nb rfl (fun p1 d => ln (jI (jI ?_))))
   replace d := d.drew
   have l := d.has.ju (Kb (Kb (Dr (Dr (Kr Sn)))))
   refine ky l kd (X 0 rfl l (jC L) (X 1 rfl l (mJ rfl) (X 2 rfl l (jz KM rfl) (XH 3 rfl l (fun _ n => jv rfl (jK n Mh rfl isAgg243)) (X 4 rfl l (jz wN rfl) (XH 5 rfl l (fun _ n => jv rfl (jy n (Mt Mh) (jA B.jq) rfl bF aS)) ?_))))))
   obtain ⟨l7, c3⟩ := g7
   obtain ⟨o7, f0, k2⟩ := mK.rowAt jS.1 c3 B.jq
   refine XH 6 rfl l (fun _ n => oN (k := B.jq) (z := (.slice none 0 0)) z6 underlying243 iI rfl rfl c3 (fun b o p => n.2 b o (Mt (Mt (Ml p))))) (X 7 rfl l (kJ aR rfl (f0.DD kC)) (X 8 rfl l (jC rfl) (kM kr (jE (CJ M (fun d0 E W => ∃ d6 e5 d7 b5 h6, kf b4 b5 ∧ ST false (keys b8) w W b5 ((I, Ob #[a, c, u, g, e5, (.int .i64 d0.2.2)] 246) :: ((a5, Obj.cells i6 285 (0, 0)) :: (d6 ++ (j ++ (y ++ (t ++ (d7 ++ h6))))))) ∧ E 0 = g5 ∧ E 2 = j1 ∧ lQ (fun (x : jq) => (.agg (jA x).toArray)) (lN Value.string (fun (x : Bool) => (Value.bool x))) a d0.1 d6 ∧ pN 285 kq 3 e5 d0.2.1 d7) (fun d0 j6 => ?_) ?_)))))
   ·refine ku (fun i E W => ∃ c7 a3 R c8 a4 d2 d3 f9, (E 35 = .int .i64 (i : Nat) ∧ E 34 = .int .i64 (j2.length : Nat)) ∧ kf b4 d3 ∧ ST false (keys b8) w W d3 ((I, Ob #[a, c, u, g, R, (.int .i64 d2)] 246) :: ((a5, Obj.cells i6 285 (0, 0)) :: (a3 ++ (j ++ (y ++ (t ++ (a4 ++ f9))))))) ∧ E 0 = g5 ∧ E 2 = j1 ∧ E 33 = (qP jR l7 B.jq (.slice none 0 0)) ∧ lQ (fun (x : jq) => (.agg (jA x).toArray)) (lN Value.string (fun (x : Bool) => (Value.bool x))) a c7 a3 ∧ pN 285 kq 3 R c8 a4 ∧ oG Q N H B (j2.drop i) c7 c8 d2 = some d0) j2.length (f0.DD kC).len ⟨e3, b7, g6, (a1.drop (Int.toNat 1)), b9, d1, b4, _, ⟨rfl, rfl⟩, (kf.refl _), (d.ju St), L, rfl, rfl, g9, h1, j6⟩ dc dc dc (fun _ _ _ h => by obtain ⟨_, _, _, _, _, _, _, _, s, _⟩ := h; exact s) ?_ ?_
    ·rintro m5 E W j0 ⟨c7, a3, R, c8, a4, d2, d3, f9, ⟨q, eN⟩, d5, d, e1, e2, g1, f3, f4, T⟩
     obtain ⟨b3, o3, l1, l0, l2⟩ := kc j0
     rw [l1] at T
     refine bg (VQ (mQ (enc := jw) (i := (m5 : Int)) (x0 := b3) aR aM g1 q (f0.DD kC) (aG _) l0) (fun q2 j9 => V (jv rfl (jQ (nn.hp _) (j9.mono (lI (fun b o p => d.has.2 b o (Mt (Mt (Ma (Ma (Ml (k2 b o p))))))))) bU aM)) (VE (kh d cT (fun p5 p9 d => VO (jL (.agg (jw b3).toArray) ((jw b3).toArray) d rfl rfl aM (nw b3) nb rfl (fun p6 d => ln (jG (Wh e1 (VA d Mh (jw b3) bU aM (V (jv e2 (jy d.has (Mt (Mt Mh)) (kq B) rfl gv dB)) (bS T fun g3 k1 T => ?_))))))))))))
     refine VE (eM d (Cb (Pb Pz) (Cr (Qb (Qb Qz)) (Cr (Qb (Qb Qz)) (Cr (Qb (Qb Qz)) (Cr (Qb (Qb Qz)) (Cr (Qb (Qb Qz)) Cn)))))) call323 (fun hh _ => (yL I a c7 a3 c Q j u N y g H t R c8 a4 d2 b3 B _ _ hh f3 c1 c3.e c2 f4 k1)) ?_)
     rintro _ q5 n6 o6 d i4 ab A ⟨m1, n4, m2, f6, rfl, l5, l6⟩
     obtain rfl := f6.symm
     replace d := d.perm (Tb (Tr (Tr (Tr (Tr (Tr Tn))))))
     refine jU (ke (jE ?_))
     replace d := d.ju (Kb (Kr (Kr (Kr (Kr (Kr (Db St)))))))
     exact ⟨q, g3.1, m1, n4, g3.2.1, m2, g3.2.2, n6, _, ⟨rfl, eN⟩, (d5.trans i4), (d.ju (Kb (Sb (Pr (Pr (Pr (Pr (Pr Pz))))) St))), e1, e2, g1, l5, l6, (by rw [l2]; exact T)⟩
    rintro E W ⟨c7, a3, R, c8, a4, d2, d3, f9, ⟨q, eN⟩, d5, d, e1, e2, g1, f3, f4, T⟩
    rw [aH] at T
    refine jE ?_
    obtain rfl := sj T
    exact ⟨a3, R, a4, d3, _, d5, (d.ju St), e1, e2, f3, f4⟩
   rintro ⟨m6, m7, n1⟩ E W ⟨d6, e5, d7, b5, h6, i1, d, h8, h9, k3, k4⟩ j3
   refine jI ?_
   replace d := d.drew
   have l := d.has.ju (Kb (Kb (Dr (Dr (Dr (Kr Sn))))))
   refine ky l kd (X 0 rfl l (jC h8) (X 1 rfl l (mJ rfl) (X 2 rfl l (jz Hd rfl) (XH 3 rfl l (fun _ n => jv rfl (jK n Mh rfl isAgg244)) (X 4 rfl l (jz wN h9) (X 5 rfl l (jz tO rfl) (XH 6 rfl l (fun _ n => jv rfl (jK n (Mt Mh) rfl bT)) ?_)))))))
   obtain ⟨l8, e9⟩ := c2
   obtain ⟨o8, f1, k5⟩ := mK.rowAt lW.1 e9 B.jq.Word
   refine XH 7 rfl l (fun _ n => oN (k := B.jq.Word) (z := (.slice none 0 0)) GA underlying244 iI rfl rfl e9 (fun b o p => n.2 b o (Mt (Mt (Ml p))))) (X 8 rfl l (kJ aR rfl (f1.DD kC)) (X 9 rfl l (jC rfl) (kM kr (jE (rb (CJ j3 (fun c9 E W => ∃ d8 e6 d9 e7 h7, kf b5 e7 ∧ ST false (keys b8) w W e7 ((I, Ob #[a, c, u, g, e6, (.int .i64 c9.2.2)] 246) :: (d8 ++ (j ++ (y ++ (t ++ (d9 ++ h7)))))) ∧ E 0 = g5 ∧ lQ (fun (x : jq) => (.agg (jA x).toArray)) (lN Value.string (fun (x : Bool) => (Value.bool x))) a c9.1 d8 ∧ pN 285 kq 3 e6 c9.2.1 d9) (fun c9 j5 => ?_) ?_))))))
   ·refine ku (fun i E W => ∃ a9 Y a2 P Z b2 b6 f8, (E 53 = .int .i64 (i : Nat) ∧ E 52 = .int .i64 (i5.length : Nat)) ∧ kf b5 b6 ∧ ST false (keys b8) w W b6 ((I, Ob #[a, c, u, g, a2, (.int .i64 b2)] 246) :: ((a5, Obj.cells i6 285 (0, 0)) :: (Y ++ (j ++ (y ++ (t ++ (Z ++ f8))))))) ∧ E 0 = g5 ∧ E 2 = j1 ∧ E 51 = (qP kP l8 B.jq.Word (.slice none 0 0)) ∧ lQ (fun (x : jq) => (.agg (jA x).toArray)) (lN Value.string (fun (x : Bool) => (Value.bool x))) a a9 Y ∧ pN 285 kq 3 a2 P Z ∧ nK B Q N H (i5.drop i) a9 P b2 = some c9) i5.length (f1.DD kC).len ⟨m6, d6, e5, m7, d7, n1, b5, _, ⟨rfl, rfl⟩, (kf.refl _), (d.ju St), h8, h9, rfl, k3, k4, j5⟩ dc dc dc (fun _ _ _ h => by obtain ⟨_, _, _, _, _, _, _, _, s, _⟩ := h; exact s) ?_ ?_
    ·rintro m4 E W i9 ⟨a9, Y, a2, P, Z, b2, b6, f8, ⟨q, eN⟩, a8, d, O, c0, e0, f2, c6, J⟩
     obtain ⟨U, o2, k9, k8, h3⟩ := kc i9
     rw [k9] at J
     refine bg (VQ (mQ (enc := jw) (i := (m4 : Int)) (x0 := U) aR aM e0 q (f1.DD kC) (aG _) k8) (fun q1 j8 => V (jv rfl (jQ (nn.hp _) (j8.mono (lI (fun b o p => d.has.2 b o (Mt (Mt (Ma (Ma (Ma (Ml (k5 b o p)))))))))) bU aM)) (VE (kh d cT (fun p2 p8 d => VO (jL (.agg (jw U).toArray) ((jw U).toArray) d rfl rfl aM (nw U) nb rfl (fun p3 d => ln (jI ?_))))))))
     replace d := d.drew
     have l := d.has.ju (Kb (Kb (Kb (Kr Sn))))
     refine ky l kd (X 0 rfl l (jC O) (X 1 rfl l (mJ rfl) (X 2 rfl l (jz wL rfl) (XH 3 rfl l (fun _ n => jv rfl (jK n (Mt Mh) rfl gJ)) (X 4 rfl l (jz ny rfl) (XH 5 rfl l (fun _ n => jv rfl (jy n Mh (jA U.B) rfl bF aS)) ?_))))))
     obtain ⟨o0, c4⟩ := f2
     refine XH 6 rfl l (fun _ n => oN (k := U.B) (z := (.map none)) z6 eL fl rfl rfl c4 (fun b o p => n.2 b o (Mt (Mt (Mt (Ml p)))))) (X 7 rfl l (jz wN c0) (X 8 rfl l (jz oR rfl) (XH 9 rfl l (fun _ n => jv rfl (jK n (Mt (Mt Mh)) rfl bT)) (XH 10 rfl l (fun _ n => zz (k := B.jq.js) (z := false) (vf := (fun (x : Bool) => (Value.bool x))) GA fu ja rfl rfl (mK.Di (μ := hp _) jS.1 c4 U.B (fun b o p => n.2 b o (Mt (Mt (Mt (Ml p))))))) (kM kr (jE (CI J rfl (fun i8 J => ?_) (fun i8 J => ?_))))))))
     ·refine jG (Wh O (Wf qT (VA d Mh (jA U.Head) bF aS (V (jz vy c0) (VB d (Mt (Mt Mh)) rfl rfl bT (bS J fun g2 k0 J => ?_))))))
      refine VE (eM d (Cb (Pb Pz) (Cr (Qb (Qb Qz)) (Cr (Qb (Qb Qz)) (Cr (Qb (Qb Qz)) (Cr (Qb (Qb Qz)) (Cr (Qb (Qb Qz)) Cn)))))) call321 (fun hh _ => lH.lz (qy I a a9 Y c Q j u N y g H t a2 P Z b2 U.Head B.kz _ _ hh c4.e c1 c3.e e9.e c6 k0)) ?_)
      rintro _ q4 n5 o5 d i3 aa A ⟨l9, n3, m0, f5, rfl, l3, l4⟩
      obtain rfl := f5.symm
      replace d := d.perm (Tb (Tr (Tr (Tr (Tr (Tr Tn))))))
      refine jU (ke (jE ?_))
      replace d := d.ju (Kb (Kr (Kr (Kr (Kr (Kr (Db St)))))))
      exact ⟨q, g2.1, l9, n3, g2.2.1, m0, g2.2.2, n5, _, ⟨rfl, eN⟩, (a8.trans i3), (d.ju (Kb (Sb (Pr (Pr (Pr (Pr (Pr Pz))))) St))), O, c0, e0, l3, l4, (by rw [h3]; exact J)⟩
     refine kG (ke (jE ?_))
     replace d := d.ju (Db St)
     exact ⟨q, a9, Y, a2, P, Z, b2, b6, _, ⟨rfl, eN⟩, a8, (d.ju St), O, c0, e0, c4.e, c6, (by rw [h3]; exact J)⟩
    rintro E W ⟨a9, Y, a2, P, Z, b2, b6, f8, ⟨q, eN⟩, a8, d, O, c0, e0, f2, c6, J⟩
    rw [aH] at J
    refine jE ?_
    obtain rfl := sj J
    exact ⟨Y, a2, Z, b6, _, a8, (d.ju (Kb (Db St))), O, f2, c6⟩
   rintro ⟨m8, m9, n2⟩ E W ⟨d8, e6, d9, e7, h7, i2, d, m3, k6, k7⟩ j4
   exact ke (jE ⟨n0, bI _, m8, d8, e6, m9, d9, n2, e7, _, ((i0.trans i1).trans i2), (d.ju St), m3, k6, k7, j4⟩)
  refine na (mR (mR (qp (jE (pd ?_)))))
  obtain rfl := sj M
  exact ob rfl ⟨_, _, rfl, (d.mc (Kb (Kr (Kr (Kr (Kr (Kr Sn))))))), b7, e4, b9, rfl, rfl, g9, c5⟩
theorem DN (H : Nat) (g : Value) (c2 : List (jq × (List (ByteArray × Bool)))) (G : LO) (u : Value) (a7 : List jr) (k : LO) (c : Value) (b7 : List (jq × (List jr))) (z : LO) (a : Value) (a8 : List (ByteArray × (List jr))) (t : LO) (B : Value) (b6 : List jJ) (y : LO) (K : Int) (d1 : Value) (p : List jr) (r : (Int × (List (jq × (List (ByteArray × Bool)))) × (List jr) × (List (jq × (List jr))) × (List (ByteArray × (List jr))) × (List jJ) × Int)) (w : World) {μ0 : kk} (h0 : nz μ0 ((H, Ob #[g, u, c, a, B, (.int .i64 K)] 246) :: (G ++ (k ++ (z ++ (t ++ (y ++ [])))))) w) (d6 : lQ (fun (x : jq) => (.agg (jA x).toArray)) (lN Value.string (fun (x : Bool) => (Value.bool x))) g c2 G) (c6 : jX 52 jw 9 u a7 k) (d3 : lQ (fun (x : jq) => (.agg (jA x).toArray)) (jX 52 jw 9) c b7 z) (c7 : lQ Value.string (jX 52 jw 9) a a8 t) (d2 : pN 285 kq 3 B b6 y) (d7 : Sl (Pl jw) 9 μ0 d1 p) (hm : tw c2 a7 b7 a8 b6 K p = some r) :
  lH false pg0 200 [(.pointer (some ⟨H, 0, none⟩)), d1] w ((H, Ob #[g, u, c, a, B, (.int .i64 K)] 246) :: (G ++ (k ++ (z ++ (t ++ (y ++ [])))))) (fun v L1 W' => ∃ S1 y3 S4 S6 S8 i1 i0, v = (.int .i64 (r.1)) ∧ L1 = ((H, Ob #[g, y3, c, a, i1, (.int .i64 (r.2.2.2.2.2.2))] 246) :: (S1 ++ (S4 ++ (S6 ++ (S8 ++ (i0 ++ [])))))) ∧ lQ (fun (x : jq) => (.agg (jA x).toArray)) (lN Value.string (fun (x : Bool) => (Value.bool x))) g r.2.1 S1 ∧ jX 52 jw 9 y3 r.2.2.1 S4 ∧ lQ (fun (x : jq) => (.agg (jA x).toArray)) (jX 52 jw 9) c r.2.2.2.1 S6 ∧ lQ Value.string (jX 52 jw 9) a r.2.2.2.2.1 S8 ∧ pN 285 kq 3 i1 r.2.2.2.2.2.1 i0) := by
 let b8 := ((H, Ob #[g, u, c, a, B, (.int .i64 K)] 246) :: (G ++ (k ++ (z ++ (t ++ (y ++ []))))))
 refine Ab h0 46 func200 rfl (fun d => sg (Wa (lS (Wm (V (ua underlying183 rfl rfl) (ln (ql rfl (kG ?_))))))))
 refine jE (sg (Wm (Wn (Wf EV (VB d Mh rfl rfl bX (Wa (lS (Wm (V (kJ aR rfl d7) ?_)))))))))
 refine Wm (ln (ku (fun i E W => ∃ a3 N M a4 Q a9 T n U a0 a5 Y a2 c1 d5, (E 16 = .int .i64 (i : Nat) ∧ E 15 = .int .i64 (p.length : Nat)) ∧ kf μ0 c1 ∧ ST false (keys b8) w W c1 ((H, Ob #[g, M, c, a, a0, (.int .i64 a2)] 246) :: (N ++ (Q ++ (T ++ (U ++ (Y ++ d5)))))) ∧ E 0 = (.pointer (some ⟨H, 0, none⟩)) ∧ E 5 = (.int .i64 K) ∧ E 14 = d1 ∧ lQ (fun (x : jq) => (.agg (jA x).toArray)) (lN Value.string (fun (x : Bool) => (Value.bool x))) g a3 N ∧ jX 52 jw 9 M a4 Q ∧ lQ (fun (x : jq) => (.agg (jA x).toArray)) (jX 52 jw 9) c a9 T ∧ lQ Value.string (jX 52 jw 9) a n U ∧ pN 285 kq 3 a0 a5 Y ∧ nJ K (p.drop i) a3 a4 a9 n a5 a2 = some r) p.length d7.len ⟨c2, G, u, a7, k, b7, z, a8, t, B, b6, y, K, μ0, _, ⟨rfl, rfl⟩, (kf.refl _), (d.ju St), rfl, rfl, rfl, d6, c6, d3, c7, d2, hm⟩ dc dc dc (fun _ _ _ h => by obtain ⟨_, _, _, _, _, _, _, _, _, _, _, _, _, _, _, aa, _⟩ := h; exact aa) ?_ ?_))
 ·rintro f6 E W g3 ⟨a3, N, M, a4, Q, a9, T, n, U, a0, a5, Y, a2, c1, d5, ⟨eI, eN⟩, b1, d, s, c3, c4, L, q, O, P, R, D⟩
  obtain ⟨I, j8, h4, h3, d9⟩ := kc g3
  rw [h4] at D
  refine bg (VQ (mQ (enc := jw) (i := (f6 : Int)) (x0 := I) aR aM c4 eI (d7.mono (Pl.mono _) b1) (aG _) h3) (fun l1 g4 => V (jv rfl (jQ d.has g4 bU aM)) (VE (kh d cT (fun k3 e8 d => VO (jL (.agg (jw I).toArray) ((jw I).toArray) d rfl rfl aM (nw I) nb rfl (fun k4 d => ln (jI ?_))))))))
  replace d := d.drew
  have l := d.has.ju (Kb (Kb Sn))
  refine ky l kd (XH 0 rfl l (fun _ hS => jv rfl (jy hS Mh (jw I) rfl bU aM)) (bS D fun l2 g7 D => XE 1 rfl (Eg d call144 (jT.lz (yB I _ _  g7)) (fun k5 d => ?_))))
  have l := d.has.ju (Kb (Kb Sn))
  refine ⟨l, (X 2 rfl l (jC rfl) (PJ D (fun f7 E W => ∃ e4, ST false (keys b8) w W c1 ((e8, Ol (jw I) 52) :: ((H, Ob #[g, M, c, a, a0, (.int .i64 a2)] 246) :: (N ++ (Q ++ (T ++ (U ++ (Y ++ e4))))))) ∧ E 0 = (.pointer (some ⟨H, 0, none⟩)) ∧ E 5 = (.int .i64 K) ∧ E 7 = (.pointer (some ⟨e8, 0, none⟩)) ∧ E 14 = d1 ∧ E 15 = (.int .i64 (p.length : Int)) ∧ E 16 = (.int .i64 (f6 : Int)) ∧ E 30 = (.bool f7)) (bm 11 2047) 0 ?_ (fun f7 Z d4 => ?_)))⟩
  ·rintro l7 E W ⟨e4, d, c5, e9, f0, f1, f2, f3, i6⟩ J
   refine kM kr (jE (CI J i6 (fun g2 J => ?_) (fun g2 J => ?_)))
   ·refine sg (Wh c5 (V (jv f0 (jy d.has Mh (jw I) rfl bU aM)) (bS J fun A g8 J => ?_)))
    refine VE (eM d (Cb (Pb Pz) (Cr (Qb Qz) (Cr (Qb Qz) (Cr (Qb Qz) (Cr (Qb Qz) (Cr (Qb Qz) Cn)))))) call261 (fun hh _ => lH.lz (Du H g a3 N M a4 Q c a9 T a n U a0 a5 Y a2 I _ _ hh L q O P R g8)) ?_)
    rintro _ l4 l8 k0 d f4 ab m ⟨f8, e5, e6, e7, c8, rfl, e0, e1, e2⟩
    obtain rfl := c8.symm
    replace d := d.perm (Tb (Tr (Tr (Tr (Tr (Tr Tn))))))
    refine ln (jG (Wh c5 (V (jv f0 (jy d.has (Mt (Ma (Ma (Ma (Ma (Ma Mh)))))) (jw I) rfl bU aM)) (bS J fun d8 g9 J => ?_))))
    refine VE (eM d (Cb Pz (Cr Qz (Cr Qz (Cr Qz (Cr Qz (Cr Qz Cn)))))) call262 (fun hh _ => (CA H g a3 N f8 A.1 e5 c A.2.1 e6 a A.2.2 e7 a0 a5 Y a2 I _ _ hh L e0 e1 e2 R g9)) ?_)
    rintro _ l5 j0 k1 d f5 ad m ⟨i2, i8, i3, c9, rfl, h5, h6⟩
    obtain rfl := c9.symm
    replace d := d.perm (Tb (Tr (Tr (Tr (Tr (Tr Tn))))))
    refine jU (ke (jE ?_))
    replace d := d.ju (Kb (Kr (Kr (Kr (Kr (Kr (Db St)))))))
    exact ⟨f3, d8.1, i2, f8, A.1, e5, A.2.1, e6, A.2.2, e7, i8, d8.2.1, i3, d8.2.2, j0, _, ⟨rfl, f2⟩, ((b1.trans f4).trans f5), (d.ju St), c5, e9, f1, h5, e0, e1, e2, h6, (by rw [d9]; exact J)⟩
   refine kG (ke (jE ?_))
   replace d := d.ju (Db St)
   exact ⟨f3, a3, N, M, a4, Q, a9, T, n, U, a0, a5, Y, a2, c1, _, ⟨rfl, f2⟩, b1, (d.ju St), c5, e9, f1, L, q, O, P, R, (by rw [d9]; exact J)⟩
  refine bC Z (fun j Z => ?_) (fun j Z => ?_)
  ·refine Xg 3 rfl rfl (cB j) l (jC s) (Xg 4 rfl rfl (cB j) l (mJ rfl) (Xg 5 rfl rfl (cB j) l (jz He rfl) (su 6 rfl rfl (cB j) l (fun _ hS => jv rfl (jK hS (Mt Mh) rfl iZ)) (su 7 rfl rfl (cB j) l (fun _ hS => jv rfl (jy hS Mh (jw I) rfl bU aM)) (bS Z fun l3 h1 Z => Ac 8 rfl rfl (cB j) (Eg d call111 (jT.lz (ym M a4 I _ _ (q.sl kC (fun b o hq => d.at_ (Mt (Mt (Ma (Ml hq)))))) h1)) (fun k8 d => ?_)))))))
   have l := d.has.ju (Kb (Kb Sn))
   refine ⟨l, (Xg 9 rfl rfl (cB j) l (nj rfl) (X 10 rfl l (jM (cB j) rfl) ?_))⟩
   obtain rfl := sj Z
   refine mX kr (d4 _ _ ⟨_, (d.ju St), s, c3, rfl, c4, eN, eI, rfl⟩)
  refine Xn 3 rfl rfl (cB j) l (Xn 4 rfl rfl (cB j) l (Xn 5 rfl rfl (cB j) l (Xn 6 rfl rfl (cB j) l (Xn 7 rfl rfl (cB j) l (Xn 8 rfl rfl (cB j) l (Xn 9 rfl rfl (cB j) l (X 10 rfl l (jO (cB j) rfl) ?_)))))))
  obtain rfl := sj Z
  refine mX kr (d4 _ _ ⟨_, (d.ju St), s, c3, rfl, c4, eN, eI, rfl⟩)
 rintro E W ⟨a3, N, M, a4, Q, a9, T, n, U, a0, a5, Y, a2, c1, d5, ⟨eI, eN⟩, b1, d, s, c3, c4, L, q, O, P, R, D⟩
 rw [aH] at D
 refine jE (sg (Wh s (bS D fun i7 h2 D => ?_)))
 refine VE (eM d (Cb Pz (Cr Qz (Cr Qz (Cr Qz (Cr Qz (Cr Qz Cn)))))) call263 (fun hh _ => (B0 H g a3 N M a4 Q c a9 T a n U a0 a5 Y a2 _ _ hh L q O P R h2)) ?_)
 rintro _ l6 l9 k2 d j6 ae m ⟨i4, i9, i5, d0, rfl, h7, h8⟩
 obtain rfl := d0.symm
 replace d := d.perm (Tb (Tr (Tr (Tr (Tr (Tr Tn))))))
 refine lr (Wh s (Wn (Wf EV (VB d Mh rfl rfl bX (Wh c3 (Wi rfl (Wa (lt ?_))))))))
 obtain rfl := sj D
 exact kO (v := (.int .i64 (wi0 .i64 (i7.2.2 - K)))) rfl rfl ⟨_, _, rfl, (d.mc (Kb (Kr (Kr (Kr (Kr (Kr Sn))))))), i4, M, Q, T, U, i9, i5, rfl, rfl, h7, q, O, P, h8⟩
theorem GY (j : Value) (H : List jr) (r : ((List (jq × (List (ByteArray × Bool)))) × (List jr) × (List (jq × (List jr))) × (List (ByteArray × (List jr))) × (List jJ) × Int)) (w : World) (J : Sl (Pl jw) 9 (hp w) j H) (hm : wB H = some r) :
  lH false pg0 126 [j] w [] (fun v L1 W' => ∃ l n S3 p S6 q S9 D u G y, v = (.pointer (some ⟨l, 0, none⟩)) ∧ L1 = ((l, Ob #[n, p, q, D, G, (.int .i64 (r.2.2.2.2.2))] 246) :: (S3 ++ (S6 ++ (S9 ++ (u ++ (y ++ [])))))) ∧ lQ (fun (x : jq) => (.agg (jA x).toArray)) (lN Value.string (fun (x : Bool) => (Value.bool x))) n r.1 S3 ∧ jX 52 jw 9 p r.2.1 S6 ∧ lQ (fun (x : jq) => (.agg (jA x).toArray)) (jX 52 jw 9) q r.2.2.1 S9 ∧ lQ Value.string (jX 52 jw 9) D r.2.2.2.1 u ∧ pN 285 kq 3 G r.2.2.2.2.1 y) := by
 refine sP 13 func126 rfl (fun b => sg (Wa (lr (VE (CQ (P := pg0) (fun (x : jq) => (.agg (jA x).toArray)) (lN Value.string (fun (x : Bool) => (Value.bool x))) b (fun W1 v4 R2 b z => VE (CQ (P := pg0) (fun (x : jq) => (.agg (jA x).toArray)) (jX 52 jw 9) b (fun W5 v8 R6 b B => VE (CQ (P := pg0) Value.string (jX 52 jw 9) b (fun W9 R Y b t => ?_))))))))))
 obtain ⟨a, rfl⟩ := z.form
 obtain ⟨c, rfl⟩ := B.form
 obtain ⟨g, rfl⟩ := t.form
 refine V (lC (v := (.agg #[(.map (some a)), (.slice none 0 0), (.map (some c)), (.map (some g)), (.slice none 0 0), (.int .i64 0)])) (xv rfl rfl rfl) (kI zeroValue246 eK (SH _ eK) kr)) (VE (kj b rfl (fun c1 k b => Wa (lr (Wm (Wm (bS hm fun O K hm => ?_)))))))
 refine VE (eM b (Cb Pz (Cr (Qr (Qr Qz)) (C0 (Cr (Qr Qz) (Cr Qz (C0 Cn)))))) call200 (fun E h => (DN k (.map (some a)) ([]) R2 (.slice none 0 0) ([]) [] (.map (some c)) ([]) R6 (.map (some g)) ([]) Y (.slice none 0 0) ([]) [] 0 j H _ _ E z (jX.nil _ _ _) B t (pN.nil _ _ _) (J.mono (Pl.mono _) h) K)) ?_)
 rintro _ W c6 L b I m d ⟨Z, s, a2, a3, a4, A, a5, i, rfl, M, N, Q, T, U⟩
 obtain rfl := i.symm
 replace b := b.perm (Tb (Tr (Tr (Tr (Tr (Tr Tn))))))
 refine lr (Wm (Wa (lt ?_)))
 obtain rfl := sj hm
 exact kO (v := (.pointer (some ⟨k, 0, none⟩))) rfl rfl ⟨_, _, rfl, (b.K7 (Kb (Kr (Kr (Kr (Kr (Kr Sn))))))), k, (.map (some a)), Z, s, a2, (.map (some c)), a3, (.map (some g)), a4, A, a5, rfl, rfl, M, N, Q, T, U⟩
theorem JV (c : Value) (D : List jr) (G : ByteArray) (r : ((List (jq × (List (ByteArray × Bool)))) × (List jr) × (List (jq × (List jr))) × (List (ByteArray × (List jr))) × (List jJ) × Int × ByteArray)) (w : World) (I : Sl (Pl jw) 9 (hp w) c D) (hm : uE D G = some r) :
  lH false pg0 123 [c, (.string G)] w [] (fun v L1 W' => ∃ g h l S4 m S7 n j z k B t u, v = (.func (.func 191) #[] #[(.pointer (some ⟨g, 0, none⟩)), (.pointer (some ⟨u, 0, none⟩))]) ∧ L1 = ((g, Ob #[(.pointer (some ⟨h, 0, none⟩))] 183) :: ((h, Ob #[l, m, n, z, B, (.int .i64 (r.2.2.2.2.2.1))] 246) :: ((u, Ob #[(.string (r.2.2.2.2.2.2))] 9) :: (S4 ++ (S7 ++ (j ++ (k ++ (t ++ [])))))))) ∧ lQ (fun (x : jq) => (.agg (jA x).toArray)) (lN Value.string (fun (x : Bool) => (Value.bool x))) l r.1 S4 ∧ jX 52 jw 9 m r.2.1 S7 ∧ lQ (fun (x : jq) => (.agg (jA x).toArray)) (jX 52 jw 9) n r.2.2.1 j ∧ lQ Value.string (jX 52 jw 9) z r.2.2.2.1 k ∧ pN 285 kq 3 B r.2.2.2.2.1 t) := by
 refine sP 9 func123 rfl (fun b => sg (VE (kj b rfl (fun W2 g b => Wa (lr (Wm (bS hm fun W p hm => ?_)))))))
 refine VE (Fo b (bW _) call126 (fun _ _ _ _ => (GY c D _ _ (I.mono (Pl.mono _) b.jB) p)) (fun W5 v9 O R b P L d H => ?_) (L0 := []))
 obtain ⟨i, q, T, s, U, a9, Y, A, Z, E, a2, a, rfl, J, K, M, N, Q⟩ := H
 replace a := a.symm; subst a
 replace b := b.perm (Tb (Tr (Tr (Tr (Tr (Tr Tn))))))
 refine VE (kh b zeroValue183 (fun c1 y b => VO (jL (.pointer (some ⟨i, 0, none⟩)) (#[(.pointer (some ⟨i, 0, none⟩))]) b rfl rfl sizeOf183 oc nb rfl (fun c2 b => lr (V (uf (by exact wP rfl rfl) rfl) (Wa (lt ?_)))))))
 obtain rfl := sj hm
 exact kO (v := (.func (.func 191) #[] #[(.pointer (some ⟨y, 0, none⟩)), (.pointer (some ⟨g, 0, none⟩))])) rfl rfl ⟨_, _, rfl, (b.K7 (Kb (Kb (Sb (Pr (Pr (Pr (Pr (Pr Pz))))) (Kr (Kr (Kr (Kr (Kr Sn))))))))), y, i, q, T, s, U, a9, Y, A, Z, E, a2, g, rfl, rfl, J, K, M, N, Q⟩
theorem zQ (g : Value) (t : List lD) (j : Value) (z : lD → Option Bool) (r : Int) (w : World) (c : Sl ko 15 (hp w) g t) (B : xj pg0 j (hp w) (Bd ko) (fun (r : Bool) => (.bool r)) z) (hm : sn t z = some r) :
  jT false pg0 142 [g, j] w (.int .i64 r) := by
 refine cG 19 func142 rfl (fun b => sg (Wa (lS (Wm (V (kJ dt rfl c) (Wm (ln (ku (fun i E W => ∃ k, (E 8 = .int .i64 (i : Nat) ∧ E 7 = .int .i64 (t.length : Nat)) ∧ ST false kp w W (hp w) k ∧ E 0 = g ∧ E 1 = j ∧ nh z (t.drop i) i = some r) t.length c.len ⟨_, ⟨rfl, rfl⟩, (b.ju St), rfl, rfl, hm⟩ dc dc dc (fun _ _ _ h => by obtain ⟨_, l, _⟩ := h; exact l) ?_ ?_))))))))
 ·rintro T E W G ⟨k, ⟨d, m⟩, b, u, x, a⟩
  obtain ⟨y, Z, N, M, Q⟩ := kc G
  rw [N] at a
  refine bg (Wh d (Wa (lr (Wh x (Wh u (Wm (VQ (lF (i := (T : Int)) (x0 := y) ko.out dt dn rfl rfl c (aG _) M) (fun a2 ⟨_, ⟨U, Y, rfl, J, K⟩, H⟩ => V (jv rfl (jQ b.has H gw dn)) (bS a fun a3 I a => ?_)))))))))
  refine VE (yr y b B (kf.refl _) (Bd.mk kB (ko.mk ⟨U, Y, rfl, J, K⟩) b.jB) rfl (vg rfl) I (fun n b => ln (CI a rfl (fun D a => ?_) (fun D a => ?_))))
  ·refine sg (Wm (Wa (lt (mn (km (mn (km ?_)))))))
   obtain rfl := sj a
   exact rP b
  exact kG (ke (jE ⟨d, _, ⟨rfl, m⟩, (b.ju St), u, x, (by rw [Q]; exact a)⟩))
 rintro E W ⟨k, ⟨d, m⟩, b, u, x, a⟩
 rw [aH] at a
 exact jE (sg (Wa (lt (rQ a b))))
theorem Gg (a : lD) (g c : Value) (k : Nat) (u : jr) (r : Bool) (w : World) (j : Sl (Pl (kN .u8)) 1 (hp w) g a.Signed.Tag) (i : Sl jt 5 (hp w) c a.jx.Kids) (t : At (hp w) (.pointer (some ⟨k, 0, none⟩)) (jw u)) (hm : vN a u = some r) :
  jT true pg0 254 [(.agg #[(.int .i64 a.Signed.jr.Kind), (.string a.Signed.jr.Head.js), (.string a.Signed.jr.Head.Word), (.string a.Signed.jr.kz), (.string a.Signed.jr.B.js), (.string a.Signed.jr.B.Word), (.string a.Signed.jr.C.js), (.string a.Signed.jr.C.Word), (.string a.Signed.jr.kK), g, (.int .i64 a.jx.Op), (.int .i64 a.jx.K), (.string a.jx.jq.js), (.string a.jx.jq.Word), c]), (.pointer (some ⟨k, 0, none⟩))] w (.bool r) := by
 refine cG 9 func254 rfl (fun b => sg ?_)
 obtain ⟨x, z, rfl⟩ := j.form
 obtain ⟨y, B, rfl⟩ := i.form
 refine VE (kj b rfl (fun D G b => Wa (lr (Wf uL (Wf ux (VA b Mh (jw a.Signed.jr) bU aM (V (jv rfl (jQ b.has t bU aM)) (V (uY rfl rfl (nm eY) (ru (wo _ a.Signed.jr u))) (Wa (ln ?_))))))))))
 exact jZ (rQ hm b)
theorem J9 (k : kx) (g j : Value) (D : jr) (r : (lD × Bool)) (w : World) {J : kk} (l : nz J [] w) (c : Sl ko 15 J g k.jF) (B : Sl kQ 8 J j k.jP) (hm : yk k D = some r) :
  lP false pg0 192 [(.agg #[(.string k.Name), g, j]), (.agg (jw D).toArray)] w J [] (fun v L1 μ1 => ∃ d h, v = (.tuple #[(.agg #[(.int .i64 ((((r.1).Signed).jr).Kind)), (.string (((((r.1).Signed).jr).Head).js)), (.string (((((r.1).Signed).jr).Head).Word)), (.string ((((r.1).Signed).jr).kz)), (.string (((((r.1).Signed).jr).B).js)), (.string (((((r.1).Signed).jr).B).Word)), (.string (((((r.1).Signed).jr).C).js)), (.string (((((r.1).Signed).jr).C).Word)), (.string ((((r.1).Signed).jr).kK)), d, (.int .i64 (((r.1).jx).Op)), (.int .i64 (((r.1).jx).K)), (.string ((((r.1).jx).jq).js)), (.string ((((r.1).jx).jq).Word)), h]), (.bool (r.2))]) ∧ L1 = [] ∧ Sl (Pl (kN .u8)) 1 μ1 d (((r.1).Signed).Tag) ∧ Sl jt 5 μ1 h (((r.1).jx).Kids)) := by
 refine uo l 19 func192 rfl (fun b => sg ?_)
 obtain ⟨T, U, rfl⟩ := c.form
 obtain ⟨A3, c4, rfl⟩ := B.form
 refine VE (kj b rfl (fun W6 O b => VE (kj b rfl (fun W8 K b => VE (kh b eO (fun E R b => Wa (lr (Wf xd (VB b (Mt (Mt Mh)) rfl rfl gV (V (uf (by exact vg rfl) rfl) (bS hm fun Z Q hm => VE (Eg b call142 (zQ (.slice T k.jF.length U) k.jF (.func (.func 254) #[] #[(.pointer (some ⟨K, 0, none⟩))]) (fun (x : lD) => vN x D) _ _ (c.mono kB.mono b.jB) ⟨254, #[], #[(.pointer (some ⟨K, 0, none⟩))], rfl, call254, fun W x vs r n m hm => by obtain ⟨_, rfl, Y⟩ := m; obtain ⟨s, A, rfl, p, q⟩ := Y.out; exact (Gg x s A K D r W p q (At.of (n _ _ (b.at_ (Mt Mh))) _ rfl) hm).lz⟩ Q) (fun L b => Wa (jU ?_))))))))))))))
 refine jE ?_
 replace b := b.ju (Kb (Db St))
 refine jI (sg (Wm (Wi rfl (ln (CI hm rfl (fun M hm => ?_) (fun M hm => ?_))))))
 ·refine sg (V (lC (v := (.agg C8.toArray)) qa (kI eO gU (Tp _ gU) kr)) (VO (jL (.agg C8.toArray) (C8.toArray) b rfl rfl dn oc nb rfl (fun P b => Wa (ln ?_)))))
  replace b := b.ju (Kb (Db St))
  refine jZ (km ?_)
  obtain rfl := sj hm
  exact qJ (v0 := (.agg C8.toArray)) (v1 := (.bool false)) rfl rfl (jy b.has Mh C8 rfl gw dn) rfl ⟨_, _, _, rfl, (b.mc Sn), (kf.refl _), Lo.refl, (ST.kL b (mA.mem Sn)), (.slice none 0 0), (.slice none 0 0), rfl, rfl, (Sl.nil _ _ _), (Sl.nil _ _ _)⟩
 refine kg (Wf xd (VB b (Mt Mh) rfl rfl gV (Wm (bS hm fun a I hm => VQ (lF (i := Z) (x0 := a) ko.out dt dn rfl rfl c (kl I) (ki I)) (fun c1 ⟨_, ⟨c3, c5, rfl, G, H⟩, N⟩ => V (jv rfl (jQ b.has N gw dn)) ?_)))))
 obtain ⟨t, y, rfl⟩ := G.form
 obtain ⟨u, z, rfl⟩ := H.form
 let a0 := (C2 a.Signed.jr.Kind a.Signed.jr.Head.js a.Signed.jr.Head.Word a.Signed.jr.kz a.Signed.jr.B.js a.Signed.jr.B.Word a.Signed.jr.C.js a.Signed.jr.C.Word a.Signed.jr.kK t a.Signed.Tag.length y a.jx.Op a.jx.K a.jx.jq.js a.jx.jq.Word u a.jx.Kids.length z)
 refine VO (jL (.agg a0.toArray) (a0.toArray) b rfl rfl dn oc nb rfl (fun c0 b => Wa (ln ?_)))
 replace b := b.ju (Kb (Db St))
 refine jZ ?_
 obtain rfl := sj hm
 exact qJ (v0 := (.agg a0.toArray)) (v1 := (.bool true)) rfl rfl (jy b.has Mh a0 rfl gw dn) rfl ⟨_, _, _, rfl, (b.mc Sn), (kf.refl _), Lo.refl, (ST.kL b (mA.mem Sn)), (.slice t a.Signed.Tag.length y), (.slice u a.jx.Kids.length z), rfl, rfl, G, H⟩
theorem El (c : Value) (u r : List nI) (w : World) {j : kk} (I : nz j [] w) (a : Sl kQ 8 j c u) (hm : tV u = some r) :
  lP true pg0 256 [c] w j [] (fun v G J => ∃ z t, v = z ∧ G = (t ++ []) ∧ kE 132 kQ 8 J z r t) := by
 unfold tV at hm
 refine uo I 8 func256 rfl (fun b => sg (Wa (lS (Wm ?_))))
 obtain ⟨D, Q, rfl⟩ := a.form
 refine V (Bk cX rfl rfl) (ln ?_)
 rcases D with _ | M
 ·have y := a.isNil
  replace hm : some [] = some r := by rw [y] at hm; simpa [lX, maxLen] using hm
  refine wy (rfl) (sg (Wa (lt (km ?_))))
  obtain rfl := sj hm
  refine kO (v := (.slice none 0 0)) rfl rfl ?_
  replace b := b.Rc
  exact ⟨_, _, _, rfl, (b.mc (Kr Sn)), (kf.refl _), Lo.refl, (ST.kL b (mA.mem (Kr Sn))), (.slice none 0 0), [], rfl, rfl, (kE.nil _ _ _ _)⟩
 ·refine ql (rfl) (kg (VE (jW (cs := #[]) b qa (ye [] cX dv fp dc rfl (by simp) rfl rfl) (fun N H b => Wm (bS hm fun T x hm => VE (po (B := [(H, Ob #[] 132)]) mi b dc cX ET.1 ET.2.1 rfl ET.2.2.1 ET.2.2.2 rfl rfl (kE.lit mi (l := []) .nil rfl nb rfl) (xo.sl mi a b.jB) x (fun K g k b i => Wa (lt ?_))))))))
  obtain rfl := sj hm
  exact kO (v := g) rfl rfl ⟨_, _, _, rfl, (b.mc (Kr Sn)), (kf.refl _), Lo.refl, (ST.kL b (mA.mem (Kr Sn))), g, k, rfl, rfl, i⟩
theorem BR (g : Value) (t : List nI) (j : Value) (z : nI → Option Bool) (r : Int) (w : World) (c : Sl kQ 8 (hp w) g t) (B : xj pg0 j (hp w) (Bd kQ) (fun (r : Bool) => (.bool r)) z) (hm : ul t z = some r) :
  jT false pg0 147 [g, j] w (.int .i64 r) := by
 refine cG 19 func147 rfl (fun b => sg (Wa (lS (Wm (V (kJ cX rfl c) (Wm (ln (ku (fun i E W => ∃ k, (E 8 = .int .i64 (i : Nat) ∧ E 7 = .int .i64 (t.length : Nat)) ∧ ST false kp w W (hp w) k ∧ E 0 = g ∧ E 1 = j ∧ nL z (t.drop i) i = some r) t.length c.len ⟨_, ⟨rfl, rfl⟩, (b.ju St), rfl, rfl, hm⟩ dc dc dc (fun _ _ _ h => by obtain ⟨_, l, _⟩ := h; exact l) ?_ ?_))))))))
 ·rintro T E W G ⟨k, ⟨d, m⟩, b, u, x, a⟩
  obtain ⟨y, Z, N, M, Q⟩ := kc G
  rw [N] at a
  refine bg (Wh d (Wa (lr (Wh x (Wh u (Wm (VQ (lF (i := (T : Int)) (x0 := y) kQ.out cX dv rfl rfl c (aG _) M) (fun a2 ⟨_, ⟨U, Y, rfl, J, K⟩, H⟩ => V (jv rfl (jQ b.has H gK dv)) (bS a fun a3 I a => ?_)))))))))
  refine VE (yr y b B (kf.refl _) (Bd.mk mi (kQ.mk ⟨U, Y, rfl, J, K⟩) b.jB) rfl (vg rfl) I (fun n b => ln (CI a rfl (fun D a => ?_) (fun D a => ?_))))
  ·refine sg (Wm (Wa (lt (mn (km (mn (km ?_)))))))
   obtain rfl := sj a
   exact rP b
  exact kG (ke (jE ⟨d, _, ⟨rfl, m⟩, (b.ju St), u, x, (by rw [Q]; exact a)⟩))
 rintro E W ⟨k, ⟨d, m⟩, b, u, x, a⟩
 rw [aH] at a
 exact jE (sg (Wa (lt (rQ a b))))
theorem Bg (k : Value) (a0 : List nI) (y : LO) (J : Value) (f1 : nI → Option Bool) (r : List nI) (w : World) {Y : kk} (h0 : nz Y (y ++ []) w) (n : kE 132 kQ 8 Y k a0 y) (a9 : xj pg0 J Y (Bd kQ) (fun (r : Bool) => (.bool r)) f1) (hm : qR a0 f1 = some r) :
  lP false pg0 255 [k, J] w Y (y ++ []) (fun v L1 μ1 => ∃ R, v = R ∧ L1 = [] ∧ Sl kQ 8 μ1 R (r)) := by
 refine uo h0 42 func255 rfl (fun d => sg (Wa (lr (Wm (Wm (bS hm fun P d7 hm => VE (Eg d call147 (BR k a0 J f1 _ _ (n.sl mi d.jB (fun b o q => d.at_ (Ml q))) (a9.mono d.jB) d7) (fun W3 d => Wa (ln ?_)))))))))
 refine jI (sg (Wm (Wi rfl (ln (CI hm rfl (fun d6 hm => ?_) (fun d6 hm => ?_))))))
 ·refine sg (Wm (Wa (lt (km ?_))))
  obtain rfl := sj hm
  refine kO (v := k) rfl rfl ?_
  obtain ⟨aa, d, d2, p, d8⟩ := ST.tD mi d n
  exact ⟨_, _, _, rfl, (d.mc Sn), d2, p, (ST.kL d (mA.mem Sn)), k, rfl, rfl, d8⟩
 refine kS (Wm (Wi rfl (Wa (ln (lA (nc (fun m E W => ∃ a2 K G H A, ST false (keys (y ++ [])) w W Y (K ++ A) ∧ E 0 = k ∧ E 1 = J ∧ E 5 = (.int .i64 G) ∧ E 6 = (.int .i64 H) ∧ kE 132 kQ 8 Y k a2 K ∧ nD f1 m a2 G H = some r) jY ⟨a0, y, P, (wi0 .i64 (P + 1)), _, (d.ju St), rfl, rfl, rfl, rfl, n, hm⟩ ?_))))))
 rintro m E W ⟨a2, K, G, H, A, d, t, Z, I, N, j, c⟩
 cases m with
 | zero => rw [nD] at c; cases c
 | succ d4 =>
  refine jI (sg (Wh N (Wh t (V (rS cX rfl j) (Wi rfl (ln (CI c rfl (fun b6 c => ?_) (fun b6 c => ?_))))))))
  ·refine kn (jI (CJ c (fun a3 E W => ∃ M L, ST false (keys (y ++ [])) w W Y (M ++ L) ∧ E 0 = k ∧ E 1 = J ∧ E 5 = (.int .i64 a3.2) ∧ E 6 = (.int .i64 H) ∧ kE 132 kQ 8 Y k a3.1 M) (fun a3 g => ?_) ?_))
   ·refine bg (Wh t (Wh N (bS g fun a s g => VQ (li (i := H) kQ.out cX dv rfl rfl j (kl s) (ki s)) (fun f5 ⟨_, ⟨f8, f9, rfl, Q, T⟩, c1, e1⟩ => V (jv rfl (jQ (nn.hp _) (c1.mono (lI (fun b o q => d.has.2 b o (Ml q)))) gK dv)) (VE (kh d fp (fun e7 f3 d => ?_)))))))
    obtain ⟨u, B, rfl⟩ := Q.form
    obtain ⟨x, D, rfl⟩ := T.form
    let l := (C6 a.jq.js a.jq.Word a.jx.Op a.jx.K a.jx.jq.js a.jx.jq.Word u a.jx.Kids.length B x a.lj.length D)
    refine VO (jL (.agg l.toArray) (l.toArray) d rfl rfl dv oc nb rfl (fun e8 d => lr (Wh Z (VA d Mh l gK dv (bS g fun f7 c2 g => VE (yr a d a9 (kf.refl _) (Bd.mk mi (kQ.mk ⟨(.slice u a.jx.Kids.length B), (.slice x a.lj.length D), rfl, Q, T⟩) d.jB) rfl (vg rfl) c2 (fun e9 d => V (nj rfl) (ln (CI g rfl (fun b7 g => ?_) (fun b7 g => ?_))))))))))
    ·refine sg (Wh t (Wh I (VA d Mh l gK dv (bS g fun g3 U g => VQ (li (i := G) kQ.out cX dv rfl rfl j (kl U) (ki U)) (fun f6 ⟨_, ⟨g0, g1, rfl, e3, e4⟩, e2, b9⟩ => ?_)))))
     replace d := d.perm (Nr (Qb Qz) Nz)
     refine VO (qm (x1 := a) mi d j rfl rfl (kQ.mk ⟨(.slice u a.jx.Kids.length B), (.slice x a.lj.length D), rfl, Q, T⟩) b9 (ki U) dv (fun f0 c7 d b4 => ln ?_))
     replace d := d.ju (Kr (Db St))
     refine jG (Wh I (Wi rfl (Wa (jU (ke (jE ?_))))))
     obtain rfl := sj g
     exact ⟨c7, _, (d.ju St), t, Z, rfl, N, b4⟩
    refine kG (ke (jE ?_))
    obtain rfl := sj g
    exact ⟨K, _, (d.ju (Db St)), t, Z, I, N, j⟩
   rintro ⟨d3, d5⟩ E W ⟨M, L, d, c8, c9, d0, d1, c3⟩ c0
   exact jG (Wh d1 (Wi rfl (Wa (ln ⟨d4, bI _, d3, M, d5, (wi0 .i64 (H + 1)), _, (d.ju St), c8, c9, d0, rfl, c3, c0⟩))))
  refine na (mR (mR (qp (jE (sg (Wh t (Wh I (bS c fun _ a4 c => VQ (AN (i := G) cX dv rfl rfl j (uw a4) (uu a4)) (fun g2 c4 => VO (DQ (z := (⟨K0, (⟨0, 0, K0, []⟩ : Formula), []⟩ : nI)) (zs := [(.string zS), (.string zS), (.int .i64 0), (.int .i64 0), (.string zS), (.string zS), (.slice none 0 0), (.slice none 0 0)]) mi d j (kQ.mk ⟨(.slice none 0 0), (.slice none 0 0), rfl, (Sl.nil _ _ _), (Sl.nil _ _ _)⟩) cX fp c4 rfl rfl (fun f2 e6 d b5 => lr (Wh t ?_))))))))))))
  refine Wh I (bS c fun _ a5 c => VQ (CY (i := G) cX dv rfl rfl b5 (uw a5) (uu a5)) (fun O c5 => Wa (lt ?_)))
  obtain rfl := sj c
  refine kO (v := O) rfl rfl ?_
  obtain ⟨g7, d, b0, h, c6⟩ := ST.tD mi d c5
  exact ⟨_, _, _, rfl, (d.mc Sn), b0, h, (ST.kL d (mA.mem Sn)), O, rfl, rfl, c6⟩
theorem FG (c : nI) (a i : Value) (k : Nat) (u : jr) (r : Bool) (w : World) (j : Sl jt 5 (hp w) a c.jx.Kids) (g : Sl (Pl jw) 9 (hp w) i c.lj) (t : At (hp w) (.pointer (some ⟨k, 0, none⟩)) (jw u)) (hm : rA c u = some r) :
  jT true pg0 257 [(.agg #[(.string c.jq.js), (.string c.jq.Word), (.int .i64 c.jx.Op), (.int .i64 c.jx.K), (.string c.jx.jq.js), (.string c.jx.jq.Word), a, i]), (.pointer (some ⟨k, 0, none⟩))] w (.bool r) := by
 refine cG 9 func257 rfl (fun b => sg ?_)
 obtain ⟨B, D, rfl⟩ := j.form
 obtain ⟨x, y, rfl⟩ := g.form
 refine VE (kj b rfl (fun G I b => Wa (lr (Wf Cq (VB b Mh rfl rfl iZ (V (jv rfl (jQ b.has t bU aM)) (bS hm fun J z hm => VE (Eg b call111 (ym (.slice x c.lj.length y) c.lj u _ _ (g.mono (Pl.mono _) b.jB) z) (fun H b => V (nj rfl) (Wa (ln ?_)))))))))))
 exact jZ (rQ hm b)
theorem IB (i : kx) (a g : Value) (y : jr) (r : List nI) (w : World) {G : kk} (q : nz G [] w) (j : Sl ko 15 G a i.jF) (c : Sl kQ 8 G g i.jP) (hm : xE i y = some r) :
  lP false pg0 193 [(.agg #[(.string i.Name), a, g]), (.agg (jw y).toArray)] w G [] (fun v L1 μ1 => ∃ n, v = n ∧ L1 = [] ∧ Sl kQ 8 μ1 n (r)) := by
 refine uo q 10 func193 rfl (fun b => sg ?_)
 obtain ⟨A1, c2, rfl⟩ := j.form
 obtain ⟨Y, p, rfl⟩ := c.form
 refine VE (kj b rfl (fun W6 b5 b => VE (kj b rfl (fun W8 z b => Wa (lr (Wf Ef (VB b (Mt Mh) rfl rfl isAgg23 (bS hm fun J N hm => ?_))))))))
 refine VE (eD b (bW _) call256 (fun m => lP.lz (El (.slice Y i.jP.length p) i.jP _ _ m (c.mono mi.mono (kf.refl _)) N)) ?_ (L0 := []))
 rintro _ c3 c6 P b B d ⟨a5, Z, k, rfl, T⟩
 obtain rfl := k.symm
 replace b := b.perm (Tr Tn)
 refine V (uf (by exact vg rfl) rfl) ?_
 replace b := b.perm (Nb (Pr Pz) Nz)
 obtain ⟨c7, b, u, h, M⟩ := ST.I1 (R := [(z, Ol (jw y) 52)]) b
 have K := At.of (M _ _ (.head _)) _ rfl
 refine bS hm fun c1 Q hm => ?_
 refine VE (eD b (Cr Qz Cn) call255 (fun m => (Bg a5 J Z (.func (.func 257) #[] #[(.pointer (some ⟨z, 0, none⟩))]) (fun (x : nI) => rA x y) _ _ m (T.mono mi u) ⟨257, #[], #[(.pointer (some ⟨z, 0, none⟩))], rfl, call257, fun W x vs r A s hm => by obtain ⟨_, rfl, a3⟩ := s; obtain ⟨L, O, rfl, E, I⟩ := a3.out; exact (FG x L O z y r W E I (K.mono ((kf.refl _).trans A)) hm).lz⟩ Q)) ?_)
 rintro _ c5 c8 b6 b D l ⟨H, t, rfl, U⟩
 obtain rfl := t.symm
 refine Wa (ln ?_)
 replace b := b.ju (Db St)
 refine jZ ?_
 obtain rfl := sj hm
 exact kO (v := H) rfl rfl ⟨_, _, _, rfl, (b.mc Sn), ((B.trans u).trans D), ((d.trans h).trans l), (ST.kL b (mA.mem Sn)), H, rfl, rfl, U⟩
theorem Dz (T : Formula → Int → Option (Int × Int)) (n : ∀ (t : Formula) (j : Value) (I : Int) (r : (Int × Int)) (w : World) (g : Sl jt 5 (hp w) j t.Kids), T t I = some r → jT false pg0 264 [(.agg #[(.int .i64 t.Op), (.int .i64 t.K), (.string t.jq.js), (.string t.jq.Word), j]), (.int .i64 I)] w (.tuple #[(.int .i64 r.1), (.int .i64 r.2)])) (t : Formula) (j : Value) (I : Int) (r : (Int × Int)) (w : World) (g : Sl jt 5 (hp w) j t.Kids) (hm : uX T t I = some r) :
  jT false pg0 264 [(.agg #[(.int .i64 t.Op), (.int .i64 t.K), (.string t.jq.js), (.string t.jq.Word), j]), (.int .i64 I)] w (.tuple #[(.int .i64 r.1), (.int .i64 r.2)]) := by
 refine cG 40 func264 rfl (fun b => sg ?_)
 obtain ⟨A1, c2, rfl⟩ := g.form
 refine VE (kj b rfl (fun W4 R b => Wa (Wa (lr (Wa (Wa (lS (Wf ng ?_))))))))
 refine VB b Mh rfl rfl dI (V (kJ aD rfl g) (Wm (ln ?_)))
 replace b := b.ju (Db St)
 refine CJ hm (fun Q E W => ∃ a2, ST false kp w W (hp w) a2 ∧ E 6 = (.int .i64 Q.1) ∧ E 7 = (.int .i64 Q.2)) (fun Q a5 => ?_) ?_
 ·refine ku (fun i E W => ∃ y z J, (E 15 = .int .i64 (i : Nat) ∧ E 14 = .int .i64 (t.Kids.length : Nat)) ∧ ST false kp w W (hp w) J ∧ E 1 = (.int .i64 I) ∧ E 6 = (.int .i64 y) ∧ E 7 = (.int .i64 z) ∧ E 13 = (.slice A1 t.Kids.length c2) ∧ oT I T (t.Kids.drop i) y z = some Q) t.Kids.length g.len ⟨1, 0, _, ⟨rfl, rfl⟩, (b.ju St), rfl, rfl, rfl, rfl, a5⟩ dc dc dc (fun _ _ _ h => by obtain ⟨_, _, _, l, _⟩ := h; exact l) ?_ ?_
  ·rintro L E W a3 ⟨y, z, J, ⟨d, m⟩, b, G, x, H, K, a⟩
   obtain ⟨c, c6, q, p, a9⟩ := kc a3
   rw [q] at a
   refine bg (VQ (lF (i := (L : Int)) (x0 := c) jt.out aD aC K d g (aG _) p) (fun c4 ⟨_, ⟨c5, rfl, N⟩, Y⟩ => V (jv rfl (jQ b.has Y aK aC)) (VE (kh b aP (fun b9 c3 b => ?_)))))
   obtain ⟨B, D, rfl⟩ := N.form
   let a0 := (C1 c.Op c.K c.jq.js c.jq.Word B c.Kids.length D)
   refine VO (jL (.agg a0.toArray) (a0.toArray) b rfl rfl aC oc nb rfl (fun c0 b => lS (Wh x (Wh G (Wi rfl (ln (CI a rfl (fun U a => ?_) (fun U a => ?_))))))))
   ·refine na (mR (RR (by simp) (mR (qp (jE ?_)))))
    obtain rfl := sj a
    exact ⟨_, (b.ju (Db St)), x, H⟩
   refine kg (VA b Mh a0 aK aC (Wh G (Wh x (Wi rfl (bS a fun M Z a => VE (Eg b call264 (n c (.slice B c.Kids.length D) (wi0 .i64 (I - y)) _ _ (N.mono jD.mono b.jB) Z) (fun c1 b => Wm (Wx rfl (Wx rfl (Wa (Wa ?_)))))))))))
   refine ln ?_
   replace b := b.ju (Db St)
   exact jG (Wh x (Wm (Wi rfl (Wh H (Wm (V (NF (k := .i64) rfl rfl) (Wa (Wa (jU (ke (jE ⟨d, (wi0 .i64 (y + M.1)), (if M.2 > z then M.2 else z), _, ⟨rfl, m⟩, (b.ju St), G, rfl, rfl, K, (by rw [a9]; exact a)⟩)))))))))))
  rintro E W ⟨y, z, J, ⟨d, m⟩, b, G, x, H, K, a⟩
  rw [aH] at a
  refine jE ?_
  obtain rfl := sj a
  exact ⟨_, (b.ju St), x, H⟩
 rintro ⟨O, P⟩ E W ⟨a2, b, s, A⟩ a4
 refine sg (Wh s (Wh A (Wi rfl (Wa (Wa (lt ?_))))))
 obtain rfl := sj a4
 exact D3 (v := (.int .i64 O)) (u := (.int .i64 (wi0 .i64 (P + 1)))) rfl rfl rfl ⟨rfl, b.ex⟩
theorem Bj : ∀ (n : Nat) (c : Formula) (a : Value) (i : Int) (r : (Int × Int)) (w : World) (g : Sl jt 5 (hp w) a c.Kids) (_ : nW n c i = some r),
  jT false pg0 264 [(.agg #[(.int .i64 c.Op), (.int .i64 c.K), (.string c.jq.js), (.string c.jq.Word), a]), (.int .i64 i)] w (.tuple #[(.int .i64 r.1), (.int .i64 r.2)])
 | 0 => by intros; rename_i h; simp only [nW] at h; cases h
 | n + 1 => Dz (nW n) (Bj n)
theorem Hw (a : Formula) (g : Value) (r : (Int × Int)) (w : World) (c : Sl jt 5 (hp w) g a.Kids) (hm : wI a = some r) :
  jT false pg0 201 [(.agg #[(.int .i64 a.Op), (.int .i64 a.K), (.string a.jq.js), (.string a.jq.Word), g])] w (.tuple #[(.int .i64 r.1), (.int .i64 r.2)]) := by
 refine cG 15 func201 rfl (fun b => sg ?_)
 obtain ⟨i, j, rfl⟩ := c.form
 refine VE (kj b rfl (fun y B b => Wa (Wa (lr (VA b Mh (C1 a.Op a.K a.jq.js a.jq.Word i a.Kids.length j) aK aC (bS hm fun x t hm => VE (Eg b call264 ((Bj jY) a (.slice i a.Kids.length j) 4096 _ _ (c.mono jD.mono b.jB) t) (fun z b => Wm (Wx rfl (Wx rfl (Wa (Wa ?_))))))))))))
 refine ln ?_
 replace b := b.ju (Db St)
 refine jI (sg (Wm (Wi rfl (ln (CI hm rfl (fun k hm => ?_) (fun k hm => ?_))))))
 ·refine sg (Wa (Wa (lt (km ?_))))
  obtain rfl := sj hm
  exact D3 (v := (.int .i64 0)) (u := (.int .i64 0)) rfl rfl rfl ⟨rfl, b.ex⟩
 refine kg (Wm (Wm (Wa (Wa (lt ?_)))))
 obtain rfl := sj hm
 exact D3 (v := (.int .i64 x.1)) (u := (.int .i64 x.2)) rfl rfl rfl ⟨rfl, b.ex⟩
theorem Hm (a : Formula) (H : Value) (r : Bool) (w : World) (t : Sl jt 5 (hp w) H a.Kids) (hm : wH a = some r) :
  jT true pg0 265 [(.agg #[(.int .i64 a.Op), (.int .i64 a.K), (.string a.jq.js), (.string a.jq.Word), H])] w (.bool r) := by
 refine cG 63 func265 rfl (fun b => sg ?_)
 obtain ⟨A1, c2, rfl⟩ := t.form
 let l := (C1 a.Op a.K a.jq.js a.jq.Word A1 a.Kids.length c2)
 refine VE (kj b rfl (fun W4 N b => Wa (lr (V (lC (v := (.agg (jA K0).toArray)) qa (kI eA dN (LX _ dN) kr)) (VE (kh b eA (fun W6 A b => VO (jL (.agg (jA K0).toArray) ((jA K0).toArray) b rfl rfl aS (vB K0) nb rfl (fun W7 b => lS (Wf mZ ?_))))))))))
 refine VB b (Mt Mh) rfl rfl bX (ln (bg (Wi rfl (Wa (ln (CI hm rfl (fun d9 hm => ?_) (fun d9 hm => ?_)))))))
 ·refine sg (Wf tb (VA b (Mt Mh) (jA a.jq) bF aS (bS hm fun f7 e5 hm => VE (Eg b jo (tm a.jq _ _  e5) (fun f5 b => Wm (LJ hm (fun d2 E W => ∃ P, ST true kp w W (hp w) ((N, Ol l 30) :: P) ∧ E 1 = (.pointer (some ⟨N, 0, none⟩)) ∧ E 2 = (.bool false) ∧ E 17 = (.bool d2)) 5 ?_ (fun d2 J a4 => ?_)))))))
  ·rintro f8 E W ⟨P, b, e7, c9, e8⟩ e1
   refine Wh e8 (LJ e1 (fun d1 E W => ∃ R, ST true kp w W (hp w) R ∧ E 2 = (.bool false) ∧ E 22 = (.bool d1)) 4 ?_ (fun d1 I a3 => ?_))
   ·rintro f9 E W ⟨R, b, f6, e9⟩ e2
    refine Wg e9 (lt (mn (km ?_)))
    obtain rfl := sj e2
    exact rP b
   refine bC I (fun u I => ?_) (fun u I => ?_)
   ·refine ug u (jz qX e7) (ug u (jv rfl (jK b.has Mh rfl bX)) (ug u (kv rfl rfl rfl) (V (jM (cB u) rfl) ?_)))
    obtain rfl := sj I
    exact a3 _ _ ⟨_, (b.ju (Db St)), c9, rfl⟩
   refine un u (un u (un u (V (jO (cB u) rfl) ?_)))
   obtain rfl := sj I
   exact a3 _ _ ⟨_, (b.ju (Db St)), c9, rfl⟩
  refine bC J (fun j J => ?_) (fun j J => ?_)
  ·refine ug j (jz ng rfl) (ug j (jv rfl (jK b.has (Mt Mh) rfl dI)) (ug j (kJ aD rfl t) (ug j (kv rfl rfl rfl) (V (jM (cB j) rfl) ?_))))
   obtain rfl := sj J
   exact a4 _ _ ⟨_, (b.ju (Db St)), rfl, rfl, rfl⟩
  refine un j (un j (un j (un j (V (jO (cB j) rfl) ?_))))
  obtain rfl := sj J
  exact a4 _ _ ⟨_, (b.ju (Db St)), rfl, rfl, rfl⟩
 let a0 := (l.toArray : Array Value)
 let d : Value := (.pointer (some ⟨N, 0, none⟩))
 refine jI (CJ hm (fun O E W => ∃ c6, ST true kp w W (hp w) ((A, Ol (jA K0) 27) :: ((N, Obj.cells a0 30 (0, 0)) :: c6)) ∧ E 1 = d ∧ E 3 = (.pointer (some ⟨A, 0, none⟩)) ∧ E 23 = (.bool O)) (fun O G => ?_) ?_)
 ·refine sg (Wi rfl (Wa (ln (CI G rfl (fun b9 G => ?_) (fun b9 G => ?_)))))
  ·refine kn ?_
   obtain rfl := sj G
   exact ⟨_, (b.ju St), rfl, rfl, rfl⟩
  refine jG (Wi rfl (Wa (ln ?_)))
  obtain rfl := sj G
  exact ⟨_, (b.ju St), rfl, rfl, rfl⟩
 rintro g0 E W ⟨c6, b, Q, d0, f0⟩ K
 refine CI K f0 (fun e0 K => ?_) (fun e0 K => ?_)
 ·refine sg (V (jz tb Q) (VA b (Mt Mh) (jA a.jq) bF aS (V (jv d0 (jy b.has Mh (jA K0) rfl bF aS)) (V (uY rfl rfl (nm eb) (ru (pe _ a.jq K0))) (Wm (LJ K (fun d3 E W => ∃ c7, ST true kp w W (hp w) c7 ∧ E 34 = (.bool d3)) 4 ?_ (fun d3 M a5 => ?_)))))))
  ·rintro g1 E W ⟨c7, b, f1⟩ e3
   refine Wg f1 (lt (mn (km ?_)))
   obtain rfl := sj e3
   exact rP b
  refine bC M (fun x M => ?_) (fun x M => ?_)
  ·refine ug x (jz qX Q) (ug x (jv rfl (jK b.has (Mt Mh) rfl bX)) (ug x (kv rfl rfl rfl) (V (jM (cB x) rfl) ?_)))
   obtain rfl := sj M
   exact a5 _ _ ⟨_, (b.ju (Db (Db St))), rfl⟩
  refine un x (un x (un x (V (jO (cB x) rfl) ?_)))
  obtain rfl := sj M
  exact a5 _ _ ⟨_, (b.ju (Db (Db St))), rfl⟩
 refine kG (ke (jE (sg (V (jz mZ Q) (VB b (Mt Mh) rfl rfl bX (Wi rfl (Wm (LJ K (fun L E W => ∃ c8, ST true kp w W (hp w) ((N, Obj.cells a0 30 (0, 0)) :: c8) ∧ E 1 = d ∧ E 43 = (.bool L)) 5 ?_ (fun L D h => ?_)))))))))
 ·rintro g2 E W ⟨c8, b, a2, d4⟩ e4
  refine Wh d4 (LJ e4 (fun s E W => ∃ m, ST true kp w W (hp w) ((N, Obj.cells a0 30 (0, 0)) :: m) ∧ E 1 = d ∧ E 48 = (.bool s)) 4 ?_ (fun s B Z => ?_))
  ·rintro f2 E W ⟨m, b, T, d5⟩ c0
   refine Wh d5 (LJ c0 (fun q E W => ∃ a9, ST true kp w W (hp w) ((N, Obj.cells a0 30 (0, 0)) :: a9) ∧ E 1 = d ∧ E 56 = (.bool q)) 7 ?_ (fun q z Y => ?_))
   ·rintro f3 E W ⟨a9, b, d6, d7⟩ c1
    refine Wh d7 (LJ c1 (fun p E W => ∃ n, ST true kp w W (hp w) n ∧ E 62 = (.bool p)) 5 ?_ (fun p y U => ?_))
    ·rintro f4 E W ⟨n, b, d8⟩ c3
     exact Wg d8 (lt (rQ c3 b))
    refine bC y (fun g y => ?_) (fun g y => ?_)
    ·refine ug g (jz ng d6) (ug g (jv rfl (jK b.has Mh rfl dI)) (ug g (kJ aD rfl t) (ug g (kv rfl rfl rfl) (V (jM (cB g) rfl) ?_))))
     obtain rfl := sj y
     exact U _ _ ⟨_, (b.ju (Db St)), rfl⟩
    refine un g (un g (un g (un g (V (jO (cB g) rfl) ?_))))
    obtain rfl := sj y
    exact U _ _ ⟨_, (b.ju (Db St)), rfl⟩
   refine bC z (fun c z => ?_) (fun c z => ?_)
   ·refine ug c (jz qX T) (ug c (jv rfl (jK b.has Mh rfl bX)) (ug c (jz ng T) (ug c (jv rfl (jK b.has Mh rfl dI)) (ug c (kJ aD rfl t) (ug c (kv rfl rfl rfl) (V (jM (cB c) rfl) ?_))))))
    obtain rfl := sj z
    exact Y _ _ ⟨_, (b.ju St), T, rfl⟩
   refine un c (un c (un c (un c (un c (un c (V (jO (cB c) rfl) ?_))))))
   obtain rfl := sj z
   exact Y _ _ ⟨_, (b.ju St), T, rfl⟩
  refine bC B (fun i B => ?_) (fun i B => ?_)
  ·refine ug i (jz qX a2) (ug i (jv rfl (jK b.has Mh rfl bX)) (ug i (kv rfl rfl rfl) (V (jM (cB i) rfl) ?_)))
   obtain rfl := sj B
   exact Z _ _ ⟨_, (b.ju St), a2, rfl⟩
  refine un i (un i (un i (V (jO (cB i) rfl) ?_)))
  obtain rfl := sj B
  exact Z _ _ ⟨_, (b.ju St), a2, rfl⟩
 refine bC D (fun k D => ?_) (fun k D => ?_)
 ·refine ug k (jz tb Q) (ug k (jv rfl (jy b.has (Mt Mh) (jA a.jq) rfl bF aS)) (ug k (jv d0 (jy b.has Mh (jA K0) rfl bF aS)) (ug k (uY rfl rfl (nm eb) (ru (pe _ a.jq K0))) (V (jM (cB k) rfl) ?_))))
  obtain rfl := sj D
  exact h _ _ ⟨_, (b.ju (Db St)), Q, rfl⟩
 refine un k (un k (un k (un k (V (jO (cB k) rfl) ?_))))
 obtain rfl := sj D
 exact h _ _ ⟨_, (b.ju (Db St)), Q, rfl⟩
theorem zV (g : Value) (t : List Formula) (j : Value) (z : Formula → Option Bool) (r : Int) (w : World) (c : Sl jt 5 (hp w) g t) (B : xj pg0 j (hp w) (Bd jt) (fun (r : Bool) => (.bool r)) z) (hm : sh t z = some r) :
  jT false pg0 324 [g, j] w (.int .i64 r) := by
 refine cG 19 func324 rfl (fun b => sg (Wa (lS (Wm (V (kJ aD rfl c) (Wm (ln (ku (fun i E W => ∃ k, (E 8 = .int .i64 (i : Nat) ∧ E 7 = .int .i64 (t.length : Nat)) ∧ ST false kp w W (hp w) k ∧ E 0 = g ∧ E 1 = j ∧ ni z (t.drop i) i = some r) t.length c.len ⟨_, ⟨rfl, rfl⟩, (b.ju St), rfl, rfl, hm⟩ dc dc dc (fun _ _ _ h => by obtain ⟨_, l, _⟩ := h; exact l) ?_ ?_))))))))
 ·rintro Q E W G ⟨k, ⟨d, m⟩, b, u, x, a⟩
  obtain ⟨y, U, M, K, N⟩ := kc G
  rw [M] at a
  refine bg (Wh d (Wa (lr (Wh x (Wh u (Wm (VQ (lF (i := (Q : Int)) (x0 := y) jt.out aD aC rfl rfl c (aG _) K) (fun Z ⟨_, ⟨T, rfl, J⟩, H⟩ => V (jv rfl (jQ b.has H aK aC)) (bS a fun n I a => ?_)))))))))
  refine VE (yr y b B (kf.refl _) (Bd.mk jD (jt.mk ⟨T, rfl, J⟩) b.jB) rfl (vg rfl) I (fun Y b => ln (CI a rfl (fun D a => ?_) (fun D a => ?_))))
  ·refine sg (Wm (Wa (lt (mn (km (mn (km ?_)))))))
   obtain rfl := sj a
   exact rP b
  exact kG (ke (jE ⟨d, _, ⟨rfl, m⟩, (b.ju St), u, x, (by rw [N]; exact a)⟩))
 rintro E W ⟨k, ⟨d, m⟩, b, u, x, a⟩
 rw [aH] at a
 exact jE (sg (Wa (lt (rQ a b))))
theorem um (a : Value) (g : List Formula) (c : Value) (i : Formula → Option Bool) (r : Bool) (w : World) (j : Sl jt 5 (hp w) a g) (k : xj pg0 c (hp w) (Bd jt) (fun (r : Bool) => (.bool r)) i) (hm : nM g i = some r) :
  jT false pg0 266 [a, c] w (.bool r) := by
 refine cG 9 func266 rfl (fun b => sg (Wa (lr (Wm (Wm (bS hm fun x t hm => VE (Eg b call324 (zV a g c i _ _ (j.mono jD.mono b.jB) (k.mono b.jB) t) (fun u b => Wi rfl (Wa (jU ?_))))))))))
 exact jE (jZ (rQ hm b))
theorem D6 (i : Formula → Option Bool) (t : ∀ (c : Formula) (a : Value) (r : Bool) (w : World) (g : Sl jt 5 (hp w) a c.Kids), i c = some r → jT false pg0 202 [(.agg #[(.int .i64 c.Op), (.int .i64 c.K), (.string c.jq.js), (.string c.jq.Word), a])] w (.bool r)) (c : Formula) (a : Value) (r : Bool) (w : World) (g : Sl jt 5 (hp w) a c.Kids) (hm : tQ i c = some r) :
  jT false pg0 267 [(.agg #[(.int .i64 c.Op), (.int .i64 c.K), (.string c.jq.js), (.string c.jq.Word), a])] w (.bool r) := by
 refine cG 6 func267 rfl (fun b => sg ?_)
 obtain ⟨j, k, rfl⟩ := g.form
 refine VE (kj b rfl (fun x z b => Wa (lr (VA b Mh (C1 c.Op c.K c.jq.js c.jq.Word j c.Kids.length k) aK aC (bS hm fun B u hm => VE (Eg b call202 (t c (.slice j c.Kids.length k) _ _ (g.mono jD.mono b.jB) u) (fun y b => V (nj rfl) (Wa (ln ?_)))))))))
 exact jZ (rQ hm b)
theorem CT (z : Formula → Option Bool) (T : ∀ (a : Formula) (g : Value) (r : Bool) (w : World) (c : Sl jt 5 (hp w) g a.Kids), z a = some r → jT false pg0 202 [(.agg #[(.int .i64 a.Op), (.int .i64 a.K), (.string a.jq.js), (.string a.jq.Word), g])] w (.bool r)) (a : Formula) (g : Value) (r : Bool) (w : World) (c : Sl jt 5 (hp w) g a.Kids) (hm : vc z a = some r) :
  jT false pg0 202 [(.agg #[(.int .i64 a.Op), (.int .i64 a.K), (.string a.jq.js), (.string a.jq.Word), g])] w (.bool r) := by
 refine cG 17 func202 rfl (fun b => sg ?_)
 obtain ⟨B, D, rfl⟩ := c.form
 let a0 := (C1 a.Op a.K a.jq.js a.jq.Word B a.Kids.length D)
 refine VE (kj b rfl (fun W4 U b => Wa (lr (VA b Mh a0 aK aC (bS hm fun v a3 hm => VE (Eg b call265 (jT.lz (Hm a (.slice B a.Kids.length D) _ _ (c.mono jD.mono b.jB) a3)) (fun W7 b => Wm (LJ hm (fun K E W => ∃ G, ST false kp w W (hp w) ((U, Ol a0 30) :: G) ∧ E 1 = (.pointer (some ⟨U, 0, none⟩)) ∧ E 2 = (.bool false) ∧ E 10 = (.bool K)) 5 ?_ (fun K t y => ?_)))))))))
 ·rintro A E W ⟨G, b, Y, I, Z⟩ M
  refine Wh Z (LJ M (fun J E W => ∃ H, ST false kp w W (hp w) H ∧ E 2 = (.bool false) ∧ E 16 = (.bool J)) 5 ?_ (fun J k u => ?_))
  ·rintro q E W ⟨H, b, n, d⟩ N
   exact Wg d (lt (rQ N b))
  refine bC k (fun i k => ?_) (fun i k => ?_)
  ·refine ug i (jz ng Y) (ug i (jv rfl (jK b.has Mh rfl dI)) (bS k fun p Q k => rB i (Eg b call266 (um (.slice B a.Kids.length D) a.Kids (.func (.func 267) #[] #[]) (fun (x : Formula) => tQ z x) _ _ (c.mono jD.mono b.jB) ⟨267, #[], #[], rfl, call267, fun W x vs r s h hm => by obtain ⟨_, rfl, a2⟩ := h; obtain ⟨m, rfl, l⟩ := a2.out; exact D6 z T x m r W l hm⟩ Q) (fun a5 b => ug i (nj rfl) (V (jM (cB i) rfl) ?_)))))
   obtain rfl := sj k
   exact u _ _ ⟨_, (b.ju (Db St)), I, rfl⟩
  refine un i (un i (un i (un i (V (jO (cB i) rfl) ?_))))
  obtain rfl := sj k
  exact u _ _ ⟨_, (b.ju (Db St)), I, rfl⟩
 refine bC t (fun j t => ?_) (fun j t => ?_)
 ·refine ug j (jz ng rfl) (ug j (jv rfl (jK b.has Mh rfl dI)) (ug j (kJ aD rfl c) (ug j (kv rfl rfl rfl) (V (jM (cB j) rfl) ?_))))
  obtain rfl := sj t
  exact y _ _ ⟨_, (b.ju St), rfl, rfl, rfl⟩
 refine un j (un j (un j (un j (V (jO (cB j) rfl) ?_))))
 obtain rfl := sj t
 exact y _ _ ⟨_, (b.ju St), rfl, rfl, rfl⟩
theorem Bx : ∀ (n : Nat) (c : Formula) (a : Value) (r : Bool) (w : World) (g : Sl jt 5 (hp w) a c.Kids) (_ : qH n c = some r),
  jT false pg0 202 [(.agg #[(.int .i64 c.Op), (.int .i64 c.K), (.string c.jq.js), (.string c.jq.Word), a])] w (.bool r)
 | 0 => by intros; rename_i h; simp only [qH] at h; cases h
 | n + 1 => CT (qH n) (Bx n)
theorem vK (a : Formula) (k : Value) (r : Bool) (w : World) (c : Sl jt 5 (hp w) k a.Kids) (hm : qG a = some r) :
  jT false pg0 129 [(.agg #[(.int .i64 a.Op), (.int .i64 a.K), (.string a.jq.js), (.string a.jq.Word), k])] w (.bool r) := by
 refine cG 24 func129 rfl (fun b => sg ?_)
 obtain ⟨y, z, rfl⟩ := c.form
 let a0 := (C1 a.Op a.K a.jq.js a.jq.Word y a.Kids.length z)
 refine VE (kj b rfl (fun W4 H b => Wa (lr (VA b Mh a0 aK aC (bS hm fun n a9 hm => VE (Eg b call201 (Hw a (.slice y a.Kids.length z) _ _ (c.mono jD.mono b.jB) a9) (fun W7 b => Wm (Wx rfl (Wx rfl (Wa (Wa (jU ?_))))))))))))
 refine jE (sg (Wm (Wi rfl (Wm (LJ hm (fun Y E W => ∃ I, ST false kp w W (hp w) ((H, Ol a0 30) :: I) ∧ E 1 = (.pointer (some ⟨H, 0, none⟩)) ∧ E 2 = (.bool false) ∧ E 4 = (.int .i64 n.2) ∧ E 15 = (.bool Y)) 3 ?_ (fun Y x G => ?_))))))
 ·rintro L E W ⟨I, b, M, N, a4, a5⟩ Z
  refine Wh a5 (LJ Z (fun U E W => ∃ J, ST false kp w W (hp w) ((H, Ol a0 30) :: J) ∧ E 1 = (.pointer (some ⟨H, 0, none⟩)) ∧ E 2 = (.bool false) ∧ E 19 = (.bool U)) 3 ?_ (fun U u D => ?_))
  ·rintro v E W ⟨J, b, h, Q, l⟩ d
   refine Wh l (LJ d (fun T E W => ∃ K, ST false kp w W (hp w) K ∧ E 2 = (.bool false) ∧ E 23 = (.bool T)) 3 ?_ (fun T j B => ?_))
   ·rintro A E W ⟨K, b, q, m⟩ a2
    exact Wg m (lt (rQ a2 b))
   refine bC j (fun i j => ?_) (fun i j => ?_)
   ·refine ug i (jv h (jy b.has Mh a0 rfl aK aC)) (bS j fun s a3 j => rB i (Eg b call202 ((Bx jY) a (.slice y a.Kids.length z) _ _ (c.mono jD.mono b.jB) a3) (fun p b => V (jM (cB i) rfl) ?_)))
    obtain rfl := sj j
    exact B _ _ ⟨_, (b.ju (Db St)), Q, rfl⟩
   refine un i (un i (V (jO (cB i) rfl) ?_))
   obtain rfl := sj j
   exact B _ _ ⟨_, (b.ju (Db St)), Q, rfl⟩
  refine bC u (fun g u => ?_) (fun g u => ?_)
  ·refine ug g (jC a4) (ug g (kv rfl rfl rfl) (V (jM (cB g) rfl) ?_))
   obtain rfl := sj u
   exact D _ _ ⟨_, (b.ju St), M, N, rfl⟩
  refine un g (un g (V (jO (cB g) rfl) ?_))
  obtain rfl := sj u
  exact D _ _ ⟨_, (b.ju St), M, N, rfl⟩
 refine bC x (fun t x => ?_) (fun t x => ?_)
 ·refine ug t (jC rfl) (ug t (kv rfl rfl rfl) (V (jM (cB t) rfl) ?_))
  obtain rfl := sj x
  exact G _ _ ⟨_, (b.ju St), rfl, rfl, rfl, rfl⟩
 refine un t (un t (V (jO (cB t) rfl) ?_))
 obtain rfl := sj x
 exact G _ _ ⟨_, (b.ju St), rfl, rfl, rfl, rfl⟩
theorem zd (i : Formula) (g : Value) (x : Int) (r : Bool) (w : World) (c : Sl jt 5 (hp w) g i.Kids) (hm : sS i x = some r) :
  jT true pg0 297 [(.agg #[(.int .i64 i.Op), (.int .i64 i.K), (.string i.jq.js), (.string i.jq.Word), g]), (.int .i64 x)] w (.bool r) := by
 refine cG 15 func297 rfl (fun b => sg ?_)
 obtain ⟨B, D, rfl⟩ := c.form
 refine VE (kj b rfl (fun G H b => Wa (lr (Wf mZ (VB b Mh rfl rfl bX (Wm (Wi rfl (Wm (LJ hm (fun t E W => ∃ u, ST true kp w W (hp w) u ∧ E 4 = (.bool false) ∧ E 14 = (.bool t)) 5 ?_ (fun t j k => ?_))))))))))
 ·rintro J E W ⟨u, b, I, y⟩ z
  exact Wg y (lt (rQ z b))
 refine bC j (fun a j => ?_) (fun a j => ?_)
 ·refine ug a (jz ng rfl) (ug a (jv rfl (jK b.has Mh rfl dI)) (ug a (kJ aD rfl c) (ug a (kv rfl rfl rfl) (V (jM (cB a) rfl) ?_))))
  obtain rfl := sj j
  exact k _ _ ⟨_, (b.ju (Db St)), rfl, rfl⟩
 refine un a (un a (un a (un a (V (jO (cB a) rfl) ?_))))
 obtain rfl := sj j
 exact k _ _ ⟨_, (b.ju (Db St)), rfl, rfl⟩
theorem Bi (r : Formula) (w : World) {c : kk} (i : nz c [] w) (hm : tU  = some r) :
  lP true pg0 115 [] w c [] (fun v g j => ∃ a, v = (.agg #[(.int .i64 ((r).Op)), (.int .i64 ((r).K)), (.string (((r).jq).js)), (.string (((r).jq).Word)), a]) ∧ g = [] ∧ Sl jt 5 j a ((r).Kids)) := by
 refine uo i 2 func115 rfl (fun b => sg (VE (kh b aP (fun k u b => lr (V (lC (v := (.agg Ez.toArray)) (kX rfl) (kI aP bG (tE _ bG) kr)) (VO (jL (.agg Ez.toArray) (Ez.toArray) b rfl rfl aC oc nb rfl (fun t b => lt ?_))))))))
 obtain rfl := sj hm
 exact mO (v := (.agg Ez.toArray)) rfl rfl (jy b.has Mh Ez rfl aK aC) ⟨_, _, _, rfl, (b.mc Sn), (kf.refl _), Lo.refl, (ST.kL b (mA.mem Sn)), (.slice none 0 0), rfl, rfl, (Sl.nil _ _ _)⟩
theorem Hk (r : Formula) (w : World) {c : kk} (i : nz c [] w) (hm : yY  = some r) :
  lP true pg0 298 [] w c [] (fun v g j => ∃ a, v = (.agg #[(.int .i64 ((r).Op)), (.int .i64 ((r).K)), (.string (((r).jq).js)), (.string (((r).jq).Word)), a]) ∧ g = [] ∧ Sl jt 5 j a ((r).Kids)) := by
 refine uo i 2 func298 rfl (fun b => sg (VE (kh b aP (fun k u b => lr (V (lC (v := (.agg Fq.toArray)) (kX rfl) (kI aP bG (tE _ bG) kr)) (VO (jL (.agg Fq.toArray) (Fq.toArray) b rfl rfl aC oc nb rfl (fun t b => lt ?_))))))))
 obtain rfl := sj hm
 exact mO (v := (.agg Fq.toArray)) rfl rfl (jy b.has Mh Fq rfl aK aC) ⟨_, _, _, rfl, (b.mc Sn), (kf.refl _), Lo.refl, (ST.kL b (mA.mem Sn)), (.slice none 0 0), rfl, rfl, (Sl.nil _ _ _)⟩
theorem IA (T : Int) (J : Value) (M r : List Formula) (w : World) {Q : kk} (h0 : nz Q [] w) (I : Sl jt 5 Q J M) (hm : zZ T M = some r) :
  lP true pg0 300 [(.int .i64 T), J] w Q [] (fun v L1 μ1 => ∃ q, v = q ∧ L1 = [] ∧ Sl jt 5 μ1 q (r)) := by
 refine uo h0 28 func300 rfl (fun b => sg (Wa (lr (Wa (lS (Wm ?_))))))
 refine V (kJ aD rfl I) (Wm (ln (ku (fun i E W => ∃ t G k H, (E 10 = .int .i64 (i : Nat) ∧ E 9 = .int .i64 (M.length : Nat)) ∧ ST true (keys []) w W Q (k ++ H) ∧ E 0 = (.int .i64 T) ∧ E 5 = t ∧ E 8 = J ∧ kE 30 jt 5 Q t G k ∧ pV T (M.drop i) G = some r) M.length I.len ⟨(.slice none 0 0), ([]), [], _, ⟨rfl, rfl⟩, (b.ju St), rfl, rfl, rfl, (kE.nil _ _ _ _), hm⟩ dc dc dc (fun _ _ _ h => by obtain ⟨_, _, _, _, n, _⟩ := h; exact n) ?_ ?_)))
 ·rintro b5 E W a4 ⟨t, G, k, H, ⟨m, p⟩, b, x, y, z, u, c⟩
  obtain ⟨a, b7, L, A, K⟩ := kc a4
  rw [L] at c
  refine bg (VQ (lF (i := (b5 : Int)) (x0 := a) jt.out aD aC z m I (aG _) A) (fun c8 ⟨_, ⟨c9, rfl, D⟩, a5⟩ => V (jv rfl (jQ b.has a5 aK aC)) (VE (kh b aP (fun c0 c5 b => ?_)))))
  obtain ⟨g, j, rfl⟩ := D.form
  let a0 := (C1 a.Op a.K a.jq.js a.jq.Word g a.Kids.length j)
  refine VO (jL (.agg a0.toArray) (a0.toArray) b rfl rfl aC oc nb rfl (fun c1 b => lr (Wf mZ (VB b Mh rfl rfl bX (Wh x (Wi rfl (ln (CI c rfl (fun Z c => ?_) (fun Z c => ?_)))))))))
  ·refine jG (Wh y (Wf ng (VB b Mh rfl rfl dI ?_)))
   replace b := b.perm (Nr (Qb Qz) Nz)
   refine bS c fun P a2 c => VE (po (B := k) jD b dc aD lL.1 lL.2.1 rfl lL.2.2.1 lL.2.2.2 rfl rfl u (xo.sl jD D b.jB) a2 (fun c2 b3 a9 b U => Wa (jU (ke (jE ?_)))))
   replace b := b.ju (Kr (Db St))
   exact ⟨m, b3, P, a9, _, ⟨rfl, p⟩, (b.ju St), x, rfl, z, U, (by rw [K]; exact c)⟩
  refine jG (Wh y (VA b Mh a0 aK aC (VE (jW (cs := a0.toArray) b (kX rfl) (lM aD aC aP) (fun c3 c6 b => ?_)))))
  replace b := b.perm (Nr (Qb (Qb Qz)) Nz)
  refine bS c fun R a3 c => VE (po (B := k) jD b dc aD lL.1 lL.2.1 rfl lL.2.2.1 lL.2.2.2 rfl rfl u (xo.lit jD (l := [a]) (.cons (ys := C1 a.Op a.K a.jq.js a.jq.Word g a.Kids.length j) (jt.mk ⟨(.slice g a.Kids.length j), rfl, D⟩) .nil) rfl nb (b.at_ (Ma Mh))) a3 (fun c4 b4 O b Y => Wa (jU (ke (jE ?_)))))
  replace b := b.ju (Kr (Db (Db St)))
  exact ⟨m, b4, R, O, _, ⟨rfl, p⟩, (b.ju St), x, rfl, z, Y, (by rw [K]; exact c)⟩
 rintro E W ⟨t, G, k, H, ⟨m, p⟩, b, x, y, z, u, c⟩
 rw [aH] at c
 refine jE (sg (Wh y (Wa (lt ?_))))
 obtain rfl := sj c
 refine kO (v := t) rfl rfl ?_
 obtain ⟨d1, b, N, d, s⟩ := ST.tD jD b u
 exact ⟨_, _, _, rfl, (b.mc Sn), N, d, (ST.kL b (mA.mem Sn)), t, rfl, rfl, s⟩
theorem Am (a : Formula) (g : Value) (i : Nat) (j : Int) (r : Bool) (w : World) (c : Sl jt 5 (hp w) g a.Kids) (k : At (hp w) (.pointer (some ⟨i, 0, none⟩)) [(.int .i64 j)]) (hm : qf a j = some r) :
  jT true pg0 301 [(.agg #[(.int .i64 a.Op), (.int .i64 a.K), (.string a.jq.js), (.string a.jq.Word), g]), (.pointer (some ⟨i, 0, none⟩))] w (.bool r) := by
 refine cG 7 func301 rfl (fun b => sg ?_)
 obtain ⟨t, u, rfl⟩ := c.form
 refine VE (kj b rfl (fun z D b => Wa (lr (VA b Mh (C1 a.Op a.K a.jq.js a.jq.Word t a.Kids.length u) aK aC (V (jv rfl (oE b.has (y := (.int .i64 j)) k bX)) (bS hm fun G x hm => VE (Eg b call297 (zd a (.slice t a.Kids.length u) j _ _ (c.mono jD.mono b.jB) x) (fun B b => Wa (ln ?_)))))))))
 exact jZ (rQ hm b)
theorem BP (c : Value) (u r : List Formula) (w : World) {j : kk} (I : nz j [] w) (a : Sl jt 5 j c u) (hm : rD u = some r) :
  lP true pg0 351 [c] w j [] (fun v G J => ∃ z t, v = z ∧ G = (t ++ []) ∧ kE 30 jt 5 J z r t) := by
 unfold rD at hm
 refine uo I 8 func351 rfl (fun b => sg (Wa (lS (Wm ?_))))
 obtain ⟨D, Q, rfl⟩ := a.form
 refine V (Bk aD rfl rfl) (ln ?_)
 rcases D with _ | M
 ·have y := a.isNil
  replace hm : some [] = some r := by rw [y] at hm; simpa [lX, maxLen] using hm
  refine wy (rfl) (sg (Wa (lt (km ?_))))
  obtain rfl := sj hm
  refine kO (v := (.slice none 0 0)) rfl rfl ?_
  replace b := b.Rc
  exact ⟨_, _, _, rfl, (b.mc (Kr Sn)), (kf.refl _), Lo.refl, (ST.kL b (mA.mem (Kr Sn))), (.slice none 0 0), [], rfl, rfl, (kE.nil _ _ _ _)⟩
 ·refine ql (rfl) (kg (VE (jW (cs := #[]) b qa (ye [] aD aC aP dc rfl (by simp) rfl rfl) (fun N H b => Wm (bS hm fun T x hm => VE (po (B := [(H, Ob #[] 30)]) jD b dc aD lL.1 lL.2.1 rfl lL.2.2.1 lL.2.2.2 rfl rfl (kE.lit jD (l := []) .nil rfl nb rfl) (xo.sl jD a b.jB) x (fun K g k b i => Wa (lt ?_))))))))
  obtain rfl := sj hm
  exact kO (v := g) rfl rfl ⟨_, _, _, rfl, (b.mc (Kr Sn)), (kf.refl _), Lo.refl, (ST.kL b (mA.mem (Kr Sn))), g, k, rfl, rfl, i⟩
theorem rC (y : Value) (a0 : List Formula) (D : LO) (q a2 : Int) (T : Value) (f3 : (Formula × Formula) → Option Int) (r : List Formula) (w : World) {μ0 : kk} (h0 : nz μ0 (D ++ []) w) (h4 : kE 30 jt 5 μ0 y a0 D) (h5 : xj pg0 T μ0 (ve jt jt) (fun (r : Int) => (.int .i64 r)) f3) (hm : mS a0 q a2 f3 = some r) :
  lP false pg0 383 [y, (.int .i64 q), (.int .i64 a2), T] w μ0 (D ++ []) (fun v L1 μ1 => ∃ S1, v = (.tuple #[]) ∧ L1 = (S1 ++ []) ∧ kE 30 jt 5 μ1 y r S1) := by
 refine uo h0 53 func383 rfl (fun n => sg (Wm (Wi rfl (Wa (ln (rb (lA (nc (fun m E W => ∃ Y J x c9, ST false (keys (D ++ [])) w W μ0 (J ++ c9) ∧ E 0 = y ∧ E 1 = (.int .i64 q) ∧ E 2 = (.int .i64 a2) ∧ E 3 = T ∧ E 8 = (.int .i64 x) ∧ kE 30 jt 5 μ0 y Y J ∧ lm a2 q f3 m Y x = some r) jY ⟨a0, D, (wi0 .i64 (q + 1)), _, (n.ju St), rfl, rfl, rfl, rfl, rfl, h4, hm⟩ ?_))))))))
 rintro m E W ⟨Y, J, x, c9, n, f9, g0, d1, g1, O, c6, u⟩
 cases m with
 | zero => rw [lm] at u; cases u
 | succ h2 =>
  refine jI (sg (Wh O (Wh d1 (Wi rfl (ln (CI u rfl (fun e9 u => ?_) (fun e9 u => ?_)))))))
  ·refine kn (jI (bg (Wh O (Wa (ln (rb (CJ u (fun P E W => ∃ U d0, ST false (keys (D ++ [])) w W μ0 (U ++ d0) ∧ E 0 = y ∧ E 1 = (.int .i64 q) ∧ E 2 = (.int .i64 a2) ∧ E 3 = T ∧ E 8 = (.int .i64 x) ∧ kE 30 jt 5 μ0 y P U) (fun P f1 => ?_) ?_)))))))
   ·refine lA (nc (fun m E W => ∃ M B j b7, ST false (keys (D ++ [])) w W μ0 (B ++ b7) ∧ E 0 = y ∧ E 1 = (.int .i64 q) ∧ E 2 = (.int .i64 a2) ∧ E 3 = T ∧ E 8 = (.int .i64 x) ∧ E 9 = (.int .i64 j) ∧ kE 30 jt 5 μ0 y M B ∧ lK q f3 m M j = some P) jY ⟨Y, J, x, _, (n.ju St), f9, g0, d1, g1, O, rfl, c6, f1⟩ ?_)
    rintro m E W ⟨M, B, j, b7, n, K, Z, c0, a3, c1, G, t, I⟩
    cases m with
    | zero => rw [lK] at I; cases I
    | succ f4 =>
     refine jI (jI ?_)
     replace n := n.drew
     have d := n.has.ju (Kr Sn)
     refine ky d kd (X 0 rfl d (jC G) (X 1 rfl d (jC Z) (X 2 rfl d (kv rfl rfl rfl) (X 3 rfl d (jC rfl) (PJ I (fun c7 E W => ∃ b9, ST false (keys (D ++ [])) w W μ0 (B ++ b9) ∧ E 0 = y ∧ E 1 = (.int .i64 q) ∧ E 2 = (.int .i64 a2) ∧ E 3 = T ∧ E 8 = (.int .i64 x) ∧ E 9 = (.int .i64 j) ∧ E 34 = (.bool c7)) (bm 17 131071) 0 ?_ (fun c7 g a4 => ?_))))))
     ·rintro k2 E W ⟨b9, n, z, c2, c3, c4, c5, H, e8⟩ c
      have d := n.has.ju (Kr Sn)
      refine kM kr (jE (CI c e8 (fun d3 c => ?_) (fun d3 c => ?_)))
      ·refine kn (jI (lA ?_))
       replace n := n.drew
       have d := n.has.ju Sn
       have p := n.has.ju (Kr Sn)
       refine uR 15 d p kd (kR 0 rfl kr (.inl rfl) rfl dc (fun _ _ h => ⟨h.1, lJ br h.2⟩) ⟨d, fun _ => p⟩ (fun _ _ _ _ => jC z) (kR 1 rfl kr (.inl rfl) rfl dc (fun _ _ h => ⟨h.1, lJ br h.2⟩) ⟨d, fun _ => p⟩ (fun _ _ _ _ => jC H) (kR 2 rfl kr (.inl rfl) rfl dc (fun _ _ h => ⟨h.1, lJ br h.2⟩) ⟨d, fun _ => p⟩ (fun _ _ _ _ => jC z) (kR 3 rfl kr (.inl rfl) rfl dc (fun _ _ h => ⟨h.1, lJ br h.2⟩) ⟨d, fun _ => p⟩ (fun _ _ _ _ => jC H) (kR 4 rfl kr (.inl rfl) rfl dc (fun _ _ h => ⟨h.1, lJ br h.2⟩) ⟨d, fun _ => p⟩ (fun _ _ _ _ => kv rfl rfl rfl) (kR 5 rfl kr (.inl rfl) rfl dc (fun _ _ h => ⟨h.1, lJ br h.2⟩) ⟨d, fun _ => p⟩ (fun _ _ _ _ => jC z) (kR 6 rfl kr (.inl rfl) rfl dc (fun _ _ h => ⟨h.1, lJ br h.2⟩) ⟨d, fun _ => p⟩ (fun _ _ _ _ => jC H) (kR 7 rfl kr (.inl rfl) rfl dc (fun _ _ h => ⟨h.1, lJ br h.2⟩) ⟨d, fun _ => p⟩ (fun _ _ _ _ => kv rfl rfl rfl) (bS c fun a5 b0 c => sd 8 rfl kr (.inl rfl) rfl dc (fun _ _ h => ⟨h.1, lJ br h.2⟩) ⟨d, fun _ => p⟩ (li (i := (wi0 .i64 (j - 1))) jt.out aD aC rfl rfl t (kl b0) (ki b0)) (fun i9 ⟨_, ⟨j8, rfl, a8⟩, d6, h6⟩ => kR 9 rfl kr (.inl rfl) rfl dc (fun _ _ h => ⟨h.1, lJ br h.2⟩) ⟨d, fun _ => p⟩ (fun l W A R => have s := (R.2 (A.DF 15 [9] kr rfl)); jv rfl (jQ (nn.hp _) (d6.mono (lI (fun b o L => s.2 b o (Ml L)))) aK aC)) (kR 10 rfl kr (.inl rfl) rfl dc (fun _ _ h => ⟨h.1, lJ br h.2⟩) ⟨d, fun _ => p⟩ (fun _ _ _ _ => jC z) (kR 11 rfl kr (.inl rfl) rfl dc (fun _ _ h => ⟨h.1, lJ br h.2⟩) ⟨d, fun _ => p⟩ (fun _ _ _ _ => jC H) (bS c fun k b1 c => ?_)))))))))))))
       refine sd 12 rfl kr (.inl rfl) rfl dc (fun _ _ h => ⟨h.1, lJ br h.2⟩) ⟨d, fun _ => p⟩ (li (i := j) jt.out aD aC rfl rfl t (kl b1) (ki b1)) (fun j0 ⟨_, ⟨j9, rfl, a9⟩, d7, h7⟩ => kR 13 rfl kr (.inl rfl) rfl dc (fun _ _ h => ⟨h.1, lJ br h.2⟩) ⟨d, fun _ => p⟩ (fun l W A R => have s := (R.2 (A.DF 15 [13] kr rfl)); jv rfl (jQ (nn.hp _) (d7.mono (lI (fun b o L => s.2 b o (Ml L)))) aK aC)) (bS c fun k3 N c => sd 14 rfl kr (.inl rfl) rfl dc (fun _ _ h => ⟨h.1, lJ br h.2⟩) ⟨d, fun _ => p⟩ (li (i := j) jt.out aD aC rfl rfl t (kl N) (ki N)) (fun j3 ⟨_, ⟨k0, rfl, i2⟩, i0, d4⟩ => ?_)))
       obtain ⟨e3, e6, rfl⟩ := a8.form
       refine XO 15 rfl (qm (x1 := a5) jD n t rfl rfl (jt.mk ⟨(.slice e3 a5.Kids.length e6), rfl, a8⟩) d4 (ki N) aC (fun i6 i4 n a7 => ?_))
       have d := n.has.ju Sn
       refine ⟨⟨d, fun h => zI kr h⟩, (bS c fun k4 Q c => sd 16 rfl kr (.inl rfl) rfl dc (fun _ _ h => ⟨h.1, lJ br h.2⟩) ⟨d, fun h => zI kr h⟩ (li (i := (wi0 .i64 (j - 1))) jt.out aD aC rfl rfl a7 (kl Q) (ki Q)) (fun j4 ⟨_, ⟨k1, rfl, i3⟩, i1, d5⟩ => ?_))⟩
       obtain ⟨e4, e7, rfl⟩ := a9.form
       refine XO 17 rfl (qm (x1 := (⟨k.Op, k.K, k.jq, k.Kids⟩ : Formula)) jD n a7 rfl rfl (jt.mk ⟨(.slice e4 k.Kids.length e7), rfl, a9⟩) d5 (ki Q) aC (fun i7 e5 n d2 => ?_))
       have d := n.has.ju Sn
       exact ⟨⟨d, fun h => zI kr h⟩, (kM kr (ke (jE (jG (Wh H (Wi rfl (Wa (ln ⟨f4, bI _, ((M.set (Int.toNat j) a5).set (Int.toNat (wi0 .i64 (j - 1))) (⟨k.Op, k.K, k.jq, k.Kids⟩ : Formula)), e5, (wi0 .i64 (j - 1)), _, (n.ju St), z, c2, c3, c4, c5, rfl, d2, c⟩))))))))⟩
      refine na (mR (mR (qp (jE ?_))))
      obtain rfl := sj c
      exact ⟨B, _, (n.ju St), z, c2, c3, c4, c5, t⟩
     refine bC g (fun a g => ?_) (fun a g => ?_)
     ·refine Xg 4 rfl rfl (cB a) d (jC a3) (Xg 5 rfl rfl (cB a) d (jC K) (Xg 6 rfl rfl (cB a) d (jC G) (bS g fun f7 b2 g => sd 7 rfl kr (.inr ⟨3, true, 21, rfl, rfl, by decide, (cB a)⟩) rfl dc (fun _ _ h => h) d (li (i := j) jt.out aD aC rfl rfl t (kl b2) (ki b2)) (fun j5 ⟨_, ⟨f5, rfl, e1⟩, d8, h8⟩ => su 8 rfl rfl (cB a) d (fun _ s => jv rfl (jQ (nn.hp _) (d8.mono (lI (fun b o L => s.2 b o (Ml L)))) aK aC)) (Xg 9 rfl rfl (cB a) d (jC K) (Xg 10 rfl rfl (cB a) d (jC G) (Xg 11 rfl rfl (cB a) d (kv rfl rfl rfl) (bS g fun f8 b3 g => sd 12 rfl kr (.inr ⟨3, true, 21, rfl, rfl, by decide, (cB a)⟩) rfl dc (fun _ _ h => h) d (li (i := (wi0 .i64 (j - 1))) jt.out aD aC rfl rfl t (kl b3) (ki b3)) (fun j6 ⟨_, ⟨f6, rfl, e2⟩, d9, h9⟩ => su 13 rfl rfl (cB a) d (fun _ s => jv rfl (jQ (nn.hp _) (d9.mono (lI (fun b o L => s.2 b o (Ml L)))) aK aC)) (bS g fun j7 e0 g => Ac 14 rfl rfl (cB a) (yr (f7, f8) n h5 (kf.refl _) (ve.mk jD jD (jt.mk ⟨f5, rfl, e1⟩) (jt.mk ⟨f6, rfl, e2⟩) n.jB) rfl (wP rfl rfl) e0 (fun i8 n => ?_))))))))))))
      have d := n.has.ju (Kr Sn)
      refine ⟨d, (Xg 15 rfl rfl (cB a) d (kv rfl rfl rfl) (X 16 rfl d (jM (cB a) rfl) ?_))⟩
      obtain rfl := sj g
      refine mX kr (a4 _ _ ⟨_, (n.ju St), K, Z, c0, a3, c1, G, rfl⟩)
     refine Xn 4 rfl rfl (cB a) d (Xn 5 rfl rfl (cB a) d (Xn 6 rfl rfl (cB a) d (Xn 7 rfl rfl (cB a) d (Xn 8 rfl rfl (cB a) d (Xn 9 rfl rfl (cB a) d (Xn 10 rfl rfl (cB a) d (Xn 11 rfl rfl (cB a) d (Xn 12 rfl rfl (cB a) d (Xn 13 rfl rfl (cB a) d (Xn 14 rfl rfl (cB a) d (Xn 15 rfl rfl (cB a) d (X 16 rfl d (jO (cB a) rfl) ?_))))))))))))
     obtain rfl := sj g
     refine mX kr (a4 _ _ ⟨_, (n.ju St), K, Z, c0, a3, c1, G, rfl⟩)
   rintro h1 E W ⟨U, d0, n, g2, g3, g4, g7, g8, f2⟩ f0
   exact ke (jE (jG (Wh g8 (Wi rfl (Wa (ln ⟨h2, bI _, h1, U, (wi0 .i64 (x + 1)), _, (n.ju St), g2, g3, g4, g7, rfl, f2, f0⟩))))))
  refine na (mR (mR (qp (jE (pd ?_)))))
  obtain rfl := sj u
  exact ob rfl ⟨_, _, _, rfl, (n.mc (Kr Sn)), (kf.refl _), Lo.refl, (ST.kL n (mA.mem (Kr Sn))), J, rfl, rfl, c6⟩
theorem pE (x : Value) (a0 : List Formula) (t : LO) (G H a3 : Int) (a5 : Value) (f4 : (Formula × Formula) → Option Int) (r : List Formula) (w : World) {Y : kk} (h0 : nz Y (t ++ []) w) (c0 : kE 30 jt 5 Y x a0 t) (d5 : xj pg0 a5 Y (ve jt jt) (fun (r : Int) => (.int .i64 r)) f4) (hm : mM a0 G H a3 f4 = some r) :
  lP true pg0 400 [x, (.int .i64 G), (.int .i64 H), (.int .i64 a3), a5] w Y (t ++ []) (fun v L1 μ1 => ∃ S1, v = (.tuple #[]) ∧ L1 = (S1 ++ []) ∧ kE 30 jt 5 μ1 x r S1) := by
 refine uo h0 38 func400 rfl (fun p => sg (Wa (ln (rb (lA (nc (fun m E W => ∃ D y c Z, ST true (keys (t ++ [])) w W Y (y ++ Z) ∧ E 0 = x ∧ E 1 = (.int .i64 G) ∧ E 2 = (.int .i64 H) ∧ E 3 = (.int .i64 a3) ∧ E 10 = (.int .i64 c) ∧ kE 30 jt 5 Y x D y ∧ me a3 H G m D c = some r) jY ⟨a0, t, 0, _, (p.ju St), rfl, rfl, rfl, rfl, rfl, c0, hm⟩ ?_))))))
 rintro m E W ⟨D, y, c, Z, p, u, I, J, a4, k, j, a⟩
 cases m with
 | zero => rw [me] at a; cases a
 | succ c1 =>
  refine jI (sg (Wh k (Wh a4 (Wi rfl (ln (CI a rfl (fun R a => ?_) (fun R a => ?_)))))))
  ·refine kn (jI (lA ?_))
   replace p := p.drew
   have d := p.has.ju Sn
   have n := p.has.ju (Kr Sn)
   refine uR 21 d n kd (kR 0 rfl kr (.inl rfl) rfl dc (fun _ _ h => ⟨h.1, lJ br h.2⟩) ⟨d, fun _ => n⟩ (fun _ _ _ _ => jC u) (kR 1 rfl kr (.inl rfl) rfl dc (fun _ _ h => ⟨h.1, lJ br h.2⟩) ⟨d, fun _ => n⟩ (fun _ _ _ _ => jC I) (kR 2 rfl kr (.inl rfl) rfl dc (fun _ _ h => ⟨h.1, lJ br h.2⟩) ⟨d, fun _ => n⟩ (fun _ _ _ _ => jC k) (kR 3 rfl kr (.inl rfl) rfl dc (fun _ _ h => ⟨h.1, lJ br h.2⟩) ⟨d, fun _ => n⟩ (fun _ _ _ _ => kv rfl rfl rfl) (kR 4 rfl kr (.inl rfl) rfl dc (fun _ _ h => ⟨h.1, lJ br h.2⟩) ⟨d, fun _ => n⟩ (fun _ _ _ _ => jC u) (kR 5 rfl kr (.inl rfl) rfl dc (fun _ _ h => ⟨h.1, lJ br h.2⟩) ⟨d, fun _ => n⟩ (fun _ _ _ _ => jC J) (kR 6 rfl kr (.inl rfl) rfl dc (fun _ _ h => ⟨h.1, lJ br h.2⟩) ⟨d, fun _ => n⟩ (fun _ _ _ _ => jC k) (kR 7 rfl kr (.inl rfl) rfl dc (fun _ _ h => ⟨h.1, lJ br h.2⟩) ⟨d, fun _ => n⟩ (fun _ _ _ _ => kv rfl rfl rfl) (kR 8 rfl kr (.inl rfl) rfl dc (fun _ _ h => ⟨h.1, lJ br h.2⟩) ⟨d, fun _ => n⟩ (fun _ _ _ _ => jC u) (kR 9 rfl kr (.inl rfl) rfl dc (fun _ _ h => ⟨h.1, lJ br h.2⟩) ⟨d, fun _ => n⟩ (fun _ _ _ _ => jC J) (kR 10 rfl kr (.inl rfl) rfl dc (fun _ _ h => ⟨h.1, lJ br h.2⟩) ⟨d, fun _ => n⟩ (fun _ _ _ _ => jC k) (kR 11 rfl kr (.inl rfl) rfl dc (fun _ _ h => ⟨h.1, lJ br h.2⟩) ⟨d, fun _ => n⟩ (fun _ _ _ _ => kv rfl rfl rfl) (bS a fun K T a => sd 12 rfl kr (.inl rfl) rfl dc (fun _ _ h => ⟨h.1, lJ br h.2⟩) ⟨d, fun _ => n⟩ (li (i := (wi0 .i64 (H + c))) jt.out aD aC rfl rfl j (kl T) (ki T)) (fun d6 ⟨_, ⟨e0, rfl, N⟩, b1, c4⟩ => ?_))))))))))))))
   refine kR 13 rfl kr (.inl rfl) rfl dc (fun _ _ h => ⟨h.1, lJ br h.2⟩) ⟨d, fun _ => n⟩ (fun l W q L => have s := (L.2 (q.DF 21 [13] kr rfl)); jv rfl (jQ (nn.hp _) (b1.mono (lI (fun b o A => s.2 b o (Ml A)))) aK aC)) (kR 14 rfl kr (.inl rfl) rfl dc (fun _ _ h => ⟨h.1, lJ br h.2⟩) ⟨d, fun _ => n⟩ (fun _ _ _ _ => jC u) (kR 15 rfl kr (.inl rfl) rfl dc (fun _ _ h => ⟨h.1, lJ br h.2⟩) ⟨d, fun _ => n⟩ (fun _ _ _ _ => jC I) (kR 16 rfl kr (.inl rfl) rfl dc (fun _ _ h => ⟨h.1, lJ br h.2⟩) ⟨d, fun _ => n⟩ (fun _ _ _ _ => jC k) (kR 17 rfl kr (.inl rfl) rfl dc (fun _ _ h => ⟨h.1, lJ br h.2⟩) ⟨d, fun _ => n⟩ (fun _ _ _ _ => kv rfl rfl rfl) (bS a fun g U a => sd 18 rfl kr (.inl rfl) rfl dc (fun _ _ h => ⟨h.1, lJ br h.2⟩) ⟨d, fun _ => n⟩ (li (i := (wi0 .i64 (G + c))) jt.out aD aC rfl rfl j (kl U) (ki U)) (fun d7 ⟨_, ⟨e1, rfl, Q⟩, b2, c5⟩ => kR 19 rfl kr (.inl rfl) rfl dc (fun _ _ h => ⟨h.1, lJ br h.2⟩) ⟨d, fun _ => n⟩ (fun l W q L => have s := (L.2 (q.DF 21 [19] kr rfl)); jv rfl (jQ (nn.hp _) (b2.mono (lI (fun b o A => s.2 b o (Ml A)))) aK aC)) (bS a fun e5 z a => sd 20 rfl kr (.inl rfl) rfl dc (fun _ _ h => ⟨h.1, lJ br h.2⟩) ⟨d, fun _ => n⟩ (li (i := (wi0 .i64 (G + c))) jt.out aD aC rfl rfl j (kl z) (ki z)) (fun d8 ⟨_, ⟨e2, rfl, c8⟩, c6, a9⟩ => ?_))))))))
   let O := (⟨g.Op, g.K, g.jq, g.Kids⟩ : Formula)
   obtain ⟨b3, b7, rfl⟩ := N.form
   refine XO 21 rfl (qm (x1 := K) jD p j rfl rfl (jt.mk ⟨(.slice b3 K.Kids.length b7), rfl, N⟩) a9 (ki z) aC (fun d2 d1 p M => ?_))
   have d := p.has.ju Sn
   refine ⟨⟨d, fun h => zI kr h⟩, (bS a fun e6 B a => sd 22 rfl kr (.inl rfl) rfl dc (fun _ _ h => ⟨h.1, lJ br h.2⟩) ⟨d, fun h => zI kr h⟩ (li (i := (wi0 .i64 (H + c))) jt.out aD aC rfl rfl M (kl B) (ki B)) (fun d9 ⟨_, ⟨e3, rfl, c9⟩, c7, b0⟩ => ?_))⟩
   obtain ⟨b4, b9, rfl⟩ := Q.form
   refine XO 23 rfl (qm (x1 := O) jD p M rfl rfl (jt.mk ⟨(.slice b4 g.Kids.length b9), rfl, Q⟩) b0 (ki B) aC (fun d3 b5 p P => ?_))
   have d := p.has.ju Sn
   exact ⟨⟨d, fun h => zI kr h⟩, (kM kr (ke (jE (jG (Wh k (Wi rfl (Wa (ln ⟨c1, bI _, ((D.set (Int.toNat (wi0 .i64 (G + c))) K).set (Int.toNat (wi0 .i64 (H + c))) O), b5, (wi0 .i64 (c + 1)), _, (p.ju St), u, I, J, a4, rfl, P, a⟩))))))))⟩
  refine na (mR (mR (qp (jE (pd ?_)))))
  obtain rfl := sj a
  exact ob rfl ⟨_, _, _, rfl, (p.mc (Kr Sn)), (kf.refl _), Lo.refl, (ST.kL p (mA.mem (Kr Sn))), y, rfl, rfl, j⟩
theorem yi (k : Value) (a0 : List Formula) (y : LO) (q D a3 : Int) (B : Value) (U : (Formula × Formula) → Option Int) (r : List Formula) (w : World) {T : kk} (h0 : nz T (y ++ []) w) (c5 : kE 30 jt 5 T k a0 y) (Q : xj pg0 B T (ve jt jt) (fun (r : Int) => (.int .i64 r)) U) (hm : mI a0 q D a3 U = some r) :
  lP true pg0 389 [k, (.int .i64 q), (.int .i64 D), (.int .i64 a3), B] w T (y ++ []) (fun v L1 μ1 => ∃ S1, v = (.tuple #[]) ∧ L1 = (S1 ++ []) ∧ kE 30 jt 5 μ1 k r S1) := by
 refine uo h0 58 func389 rfl (fun b => sg (Wm (Wm (Wi rfl (Wa (lr (Wm (Wm (Wi rfl (Wa ?_))))))))))
 refine ln (jI (lA (nc (fun m E W => ∃ z x c t I Y, kf T I ∧ Lo (keys (y ++ [])) w T I ∧ ST true (keys (y ++ [])) w W I (x ++ Y) ∧ E 0 = k ∧ E 2 = (.int .i64 D) ∧ E 4 = B ∧ E 10 = (.int .i64 c) ∧ E 11 = (.int .i64 t) ∧ kE 30 jt 5 I k z x ∧ mx D U m z c t = some r) jY ⟨a0, y, (wi0 .i64 (D - q)), (wi0 .i64 (a3 - D)), T, _, (kf.refl _), Lo.refl, (b.ju St), rfl, rfl, rfl, rfl, rfl, c5, hm⟩ ?_)))
 rintro m E W ⟨z, x, c, t, I, Y, i, d, b, G, j, H, g, u, J, a⟩
 let a2 := (wi0 .i64 (D - c))
 cases m with
 | zero => rw [mx] at a; cases a
 | succ s =>
  refine jI (sg (Wh g (Wh u (Wi rfl (ln (CI a rfl (fun A a => ?_) (fun A a => ?_)))))))
  ·refine kn (bg (Wh g (Wh u (Wi rfl (ln (CI a rfl (fun L a => ?_) (fun L a => ?_)))))))
   ·refine sg (Wh G (Wh j (Wh g (Wi rfl (Wh j (Wh u (Wh H (bS a fun c6 O a => ?_))))))))
    refine VE (eD b (Cr Qz Cn) call400 (fun p => (pE k z x a2 D t B U _ _ p J (Q.mono i) O)) ?_)
    rintro _ e0 c8 d2 b Z h ⟨b9, K, rfl, b5⟩
    obtain rfl := K.symm
    replace b := b.perm (Tr Tn)
    exact ln (jG (Wh g (Wh u (Wi rfl (Wa (jU (ke (jE ⟨s, bI _, c6, b9, (wi0 .i64 (c - t)), t, c8, _, (i.trans Z), (d.trans h), (b.ju St), G, j, H, rfl, u, b5, a⟩))))))))
   refine sg (Wh G (Wh j (Wh g (Wi rfl (Wh j (Wh u (Wi rfl (Wh g (Wi rfl (Wh g (Wh H (bS a fun c7 P a => ?_))))))))))))
   refine VE (eD b (Cr Qz Cn) call400 (fun p => (pE k z x a2 (wi0 .i64 ((wi0 .i64 (D + t)) - c)) c B U _ _ p J (Q.mono i) P)) ?_)
   rintro _ e1 c9 d3 b a4 l ⟨c0, M, rfl, b6⟩
   obtain rfl := M.symm
   replace b := b.perm (Tr Tn)
   exact ln (jG (Wh u (Wh g (Wi rfl (Wa (jU (ke (jE ⟨s, bI _, c7, c0, c, (wi0 .i64 (t - c)), c9, _, (i.trans a4), (d.trans l), (b.ju St), G, j, H, g, rfl, b6, a⟩))))))))
  refine na (mR (mR (qp (jE (jG (Wh G (Wh j (Wh g (Wi rfl (Wh j (Wh g (Wh H (bS a fun d9 R a => ?_)))))))))))))
  refine VE (eD b (Cr Qz Cn) call400 (fun p => (pE k z x a2 D c B U _ _ p J (Q.mono i) R)) ?_)
  rintro _ e2 e4 d4 b a5 n ⟨c1, N, rfl, b7⟩
  obtain rfl := N.symm
  replace b := b.perm (Tr Tn)
  refine jU (pd ?_)
  obtain rfl := sj a
  exact ob rfl ⟨_, _, _, rfl, (b.mc (Kr Sn)), (i.trans a5), (d.trans n), (ST.kL b (mA.mem (Kr Sn))), c1, rfl, rfl, b7⟩
set_option maxHeartbeats 4000000 in
theorem vU (t6 : (List Formula) → Int → Int → Int → ((Formula × Formula) → Option Int) → Option (List Formula)) (s6 : ∀ (t : Value) (a0 : List Formula) (c : LO) (z : Int) (M : Int) (B : Int) (D : Value) (f4 : (Formula × Formula) → Option Int) (r : List Formula) (w : World) {U : kk} (h0 : nz U (c ++ []) w) (a5 : kE 30 jt 5 U t a0 c) (c6 : xj pg0 D U (ve jt jt) (fun (r : Int) => (.int .i64 r)) f4), t6 a0 z M B f4 = some r → lP false pg0 384 [t, (.int .i64 z), (.int .i64 M), (.int .i64 B), D] w U (c ++ []) (fun v L1 μ1 => ∃ S1, v = (.tuple #[]) ∧ L1 = (S1 ++ []) ∧ kE 30 jt 5 μ1 t r S1)) (t : Value) (a0 : List Formula) (c : LO) (z M B : Int) (D : Value) (f4 : (Formula × Formula) → Option Int) (r : List Formula) (w : World) {U : kk} (h0 : nz U (c ++ []) w) (a5 : kE 30 jt 5 U t a0 c) (c6 : xj pg0 D U (ve jt jt) (fun (r : Int) => (.int .i64 r)) f4) (hm : oJ t6 a0 z M B f4 = some r) :
  lP false pg0 384 [t, (.int .i64 z), (.int .i64 M), (.int .i64 B), D] w U (c ++ []) (fun v L1 μ1 => ∃ S1, v = (.tuple #[]) ∧ L1 = (S1 ++ []) ∧ kE 30 jt 5 μ1 t r S1) := by
 refine uo h0 220 func384 rfl (fun d => jI (sg (Wm (Wm (Wi rfl (Wi rfl (ln (CI hm rfl (fun ae hm => ?_) (fun ae hm => ?_)))))))))
 ·refine sg (Wm (Wa (lr (Wm (Wa (ln (jI (lA (nc (fun m E W => ∃ T a9 o3, ST false (keys (c ++ [])) w W U (c ++ o3) ∧ E 0 = t ∧ E 1 = (.int .i64 z) ∧ E 4 = D ∧ E 10 = (.int .i64 T) ∧ E 11 = (.int .i64 a9) ∧ kU a0 z f4 m T a9 = some r) jY ⟨M, B, _, (d.ju St), rfl, rfl, rfl, rfl, rfl, hm⟩ ?_)))))))))
  rintro m E W ⟨T, a9, o3, d, e4, h8, k3, h9, k4, y⟩
  cases m with
  | zero => rw [kU] at y; cases y
  | succ t5 =>
   refine jI (sg (Wh h9 (Wh k4 (Wi rfl (ln (CI y rfl (fun w9 y => ?_) (fun w9 y => ?_)))))))
   ·refine kn (bg (Wh h9 (Wh k4 (Wi rfl (V (qN (k' := .i64) (a := (wi0 .i64 (T + a9))) dR eZ rfl) (V (G1 (a := (IntKind.u64.wrap (wi0 .i64 (T + a9)))) (b := 1) rfl rfl dc) (V (qN (k' := .u64) (a := (Int.fdiv (IntKind.u64.wrap (wi0 .i64 (T + a9))) (2 ^ min (Int.toNat 1) (IntKind.bits .u64)))) eZ dR rfl) (Wa (ln (jI ?_))))))))))
    let e3 := (Int.fdiv (IntKind.u64.wrap (wi0 .i64 (T + a9))) (2 ^ min (Int.toNat 1) (IntKind.bits .u64)))
    replace d := d.drew
    have n := d.has.ju (Kr Sn)
    refine ky n kd (X 0 rfl n (jC k3) (X 1 rfl n (jC e4) (X 2 rfl n (jC rfl) (bS y fun aa n1 y => XQ 3 rfl n (li (i := (wi0 .i64 e3)) jt.out aD aC rfl rfl a5 (kl n1) (ki n1)) (fun di ⟨_, ⟨z7, rfl, x7⟩, x4, bp⟩ => XH 4 rfl n (fun _ s => jv rfl (jQ (nn.hp _) (x4.mono (lI (fun b o A => s.2 b o (Ml A)))) aK aC)) (X 5 rfl n (jC e4) (X 6 rfl n (jC h8) (bS y fun ab n2 y => XQ 7 rfl n (li (i := z) jt.out aD aC rfl rfl a5 (kl n2) (ki n2)) (fun dj ⟨_, ⟨z8, rfl, x8⟩, x5, bq⟩ => XH 8 rfl n (fun _ s => jv rfl (jQ (nn.hp _) (x5.mono (lI (fun b o A => s.2 b o (Ml A)))) aK aC)) (bS y fun dk x6 y => XE 9 rfl (yr (aa, ab) d c6 (kf.refl _) (ve.mk jD jD (jt.mk ⟨z7, rfl, x7⟩) (jt.mk ⟨z8, rfl, x8⟩) d.jB) rfl (wP rfl rfl) x6 (fun dg d => ?_))))))))))))
    have n := d.has.ju (Kr Sn)
    refine ⟨n, (X 10 rfl n (kv rfl rfl rfl) (kM kr (jE (CI y rfl (fun x0 y => ?_) (fun x0 y => ?_)))))⟩
    ·exact jG (Wm (Wi rfl (Wa (jU (ke (jE ⟨t5, bI _, (wi0 .i64 ((wi0 .i64 e3) + 1)), a9, _, (d.ju St), e4, h8, k3, rfl, k4, y⟩))))))
    exact jG (Wm (Wa (jU (ke (jE ⟨t5, bI _, T, (wi0 .i64 e3), _, (d.ju St), e4, h8, k3, h9, rfl, y⟩)))))
   refine na (mR (mR (qp (jE (jI (sg (Wh h8 (Wa (ln (CJ y (fun k5 E W => ∃ f7 o4, ST false (keys (c ++ [])) w W U (f7 ++ o4) ∧ kE 30 jt 5 U t k5 f7) (fun k5 x3 => ?_) ?_))))))))))
   ·refine lA (nc (fun m E W => ∃ i0 f8 b0 k6, ST false (keys (c ++ [])) w W U (f8 ++ k6) ∧ E 0 = t ∧ E 10 = (.int .i64 T) ∧ E 13 = (.int .i64 b0) ∧ kE 30 jt 5 U t i0 f8 ∧ mj T m i0 b0 = some k5) jY ⟨a0, c, z, _, (d.ju St), e4, h9, rfl, a5, x3⟩ ?_)
    rintro m E W ⟨i0, f8, b0, k6, d, c7, l7, c0, d1, u⟩
    cases m with
    | zero => rw [mj] at u; cases u
    | succ y2 =>
     refine jI (sg (Wh c0 (Wh l7 (Wi rfl (Wi rfl (ln (CI u rfl (fun p1 u => ?_) (fun p1 u => ?_))))))))
     ·refine kn (jI (lA ?_))
      replace d := d.drew
      have n := d.has.ju Sn
      have p := d.has.ju (Kr Sn)
      refine uR 15 n p kd (kR 0 rfl kr (.inl rfl) rfl dc (fun _ _ h => ⟨h.1, lJ (by rfl) h.2⟩) ⟨n, fun _ => p⟩ (fun _ _ _ _ => jC c7) (kR 1 rfl kr (.inl rfl) rfl dc (fun _ _ h => ⟨h.1, lJ (by rfl) h.2⟩) ⟨n, fun _ => p⟩ (fun _ _ _ _ => jC c0) (kR 2 rfl kr (.inl rfl) rfl dc (fun _ _ h => ⟨h.1, lJ (by rfl) h.2⟩) ⟨n, fun _ => p⟩ (fun _ _ _ _ => jC c7) (kR 3 rfl kr (.inl rfl) rfl dc (fun _ _ h => ⟨h.1, lJ (by rfl) h.2⟩) ⟨n, fun _ => p⟩ (fun _ _ _ _ => jC c0) (kR 4 rfl kr (.inl rfl) rfl dc (fun _ _ h => ⟨h.1, lJ (by rfl) h.2⟩) ⟨n, fun _ => p⟩ (fun _ _ _ _ => kv rfl rfl rfl) (kR 5 rfl kr (.inl rfl) rfl dc (fun _ _ h => ⟨h.1, lJ (by rfl) h.2⟩) ⟨n, fun _ => p⟩ (fun _ _ _ _ => jC c7) (kR 6 rfl kr (.inl rfl) rfl dc (fun _ _ h => ⟨h.1, lJ (by rfl) h.2⟩) ⟨n, fun _ => p⟩ (fun _ _ _ _ => jC c0) (kR 7 rfl kr (.inl rfl) rfl dc (fun _ _ h => ⟨h.1, lJ (by rfl) h.2⟩) ⟨n, fun _ => p⟩ (fun _ _ _ _ => kv rfl rfl rfl) (bS u fun i3 j5 u => sd 8 rfl kr (.inl rfl) rfl dc (fun _ _ h => ⟨h.1, lJ (by rfl) h.2⟩) ⟨n, fun _ => p⟩ (li (i := (wi0 .i64 (b0 + 1))) jt.out aD aC rfl rfl d1 (kl j5) (ki j5)) (fun bt ⟨_, ⟨cl, rfl, i7⟩, r3, af⟩ => kR 9 rfl kr (.inl rfl) rfl dc (fun _ _ h => ⟨h.1, lJ (by rfl) h.2⟩) ⟨n, fun _ => p⟩ (fun l W L hs => have s := (hs.2 (L.DF 15 [9] kr rfl)); jv rfl (jQ (nn.hp _) (r3.mono (lI (fun b o A => s.2 b o (Ml A)))) aK aC)) (kR 10 rfl kr (.inl rfl) rfl dc (fun _ _ h => ⟨h.1, lJ (by rfl) h.2⟩) ⟨n, fun _ => p⟩ (fun _ _ _ _ => jC c7) (kR 11 rfl kr (.inl rfl) rfl dc (fun _ _ h => ⟨h.1, lJ (by rfl) h.2⟩) ⟨n, fun _ => p⟩ (fun _ _ _ _ => jC c0) (bS u fun Y j6 u => ?_)))))))))))))
      refine sd 12 rfl kr (.inl rfl) rfl dc (fun _ _ h => ⟨h.1, lJ (by rfl) h.2⟩) ⟨n, fun _ => p⟩ (li (i := b0) jt.out aD aC rfl rfl d1 (kl j6) (ki j6)) (fun bu ⟨_, ⟨cm, rfl, i8⟩, r4, ag⟩ => kR 13 rfl kr (.inl rfl) rfl dc (fun _ _ h => ⟨h.1, lJ (by rfl) h.2⟩) ⟨n, fun _ => p⟩ (fun l W L hs => have s := (hs.2 (L.DF 15 [13] kr rfl)); jv rfl (jQ (nn.hp _) (r4.mono (lI (fun b o A => s.2 b o (Ml A)))) aK aC)) (bS u fun cw e9 u => sd 14 rfl kr (.inl rfl) rfl dc (fun _ _ h => ⟨h.1, lJ (by rfl) h.2⟩) ⟨n, fun _ => p⟩ (li (i := b0) jt.out aD aC rfl rfl d1 (kl e9) (ki e9)) (fun bv ⟨_, ⟨cn, rfl, ar⟩, an, q2⟩ => ?_)))
      obtain ⟨t7, u6, rfl⟩ := i7.form
      refine XO 15 rfl (qm (x1 := i3) jD d d1 rfl rfl (jt.mk ⟨(.slice t7 i3.Kids.length u6), rfl, i7⟩) q2 (ki e9) aC (fun be bc d i5 => ?_))
      have n := d.has.ju Sn
      refine ⟨⟨n, fun h => zI kr h⟩, (bS u fun cx f0 u => sd 16 rfl kr (.inl rfl) rfl dc (fun _ _ h => ⟨h.1, lJ (by rfl) h.2⟩) ⟨n, fun h => zI kr h⟩ (li (i := (wi0 .i64 (b0 + 1))) jt.out aD aC rfl rfl i5 (kl f0) (ki f0)) (fun bw ⟨_, ⟨co, rfl, au⟩, ao, q3⟩ => ?_))⟩
      obtain ⟨t8, u7, rfl⟩ := i8.form
      refine XO 17 rfl (qm (x1 := (⟨Y.Op, Y.K, Y.jq, Y.Kids⟩ : Formula)) jD d i5 rfl rfl (jt.mk ⟨(.slice t8 Y.Kids.length u7), rfl, i8⟩) q3 (ki f0) aC (fun bf u1 d o9 => ?_))
      have n := d.has.ju Sn
      exact ⟨⟨n, fun h => zI kr h⟩, (kM kr (ke (jE (jG (Wh c0 (Wi rfl (Wa (ln ⟨y2, bI _, ((i0.set (Int.toNat b0) i3).set (Int.toNat (wi0 .i64 (b0 + 1))) (⟨Y.Op, Y.K, Y.jq, Y.Kids⟩ : Formula)), u1, (wi0 .i64 (b0 + 1)), _, (d.ju St), c7, l7, rfl, o9, u⟩))))))))⟩
     refine na (mR (mR (qp (jE ?_))))
     have q := sj u; subst q
     exact ⟨f8, _, (d.ju St), d1⟩
   rintro dh E W ⟨f7, o4, d, x9⟩ x2
   refine jZ (km ?_)
   have q := sj x2; subst q
   exact ob rfl ⟨_, _, _, rfl, (d.mc (Kr Sn)), (kf.refl _), Lo.refl, (ST.kL d (mA.mem (Kr Sn))), f7, rfl, rfl, x9⟩
 refine kS (Wm (Wm (Wi rfl (Wi rfl (ln (CI hm rfl (fun p2 hm => ?_) (fun p2 hm => ?_)))))))
 ·refine sg (Wm (Wa (lr (Wm (Wa (ln (jI (lA (nc (fun m E W => ∃ G N k7, ST false (keys (c ++ [])) w W U (c ++ k7) ∧ E 0 = t ∧ E 2 = (.int .i64 M) ∧ E 4 = D ∧ E 14 = (.int .i64 G) ∧ E 15 = (.int .i64 N) ∧ kV a0 M f4 m G N = some r) jY ⟨z, M, _, (d.ju St), rfl, rfl, rfl, rfl, rfl, hm⟩ ?_)))))))))
  rintro m E W ⟨G, N, k7, d, c8, d5, f9, d6, g0, j⟩
  let j1 := (IntKind.u64.wrap (wi0 .i64 (G + N)))
  let b8 := (Int.fdiv j1 (2 ^ min (Int.toNat 1) (IntKind.bits .u64)))
  cases m with
  | zero => rw [kV] at j; cases j
  | succ n3 =>
   refine jI (sg (Wh d6 (Wh g0 (Wi rfl (ln (CI j rfl (fun p3 j => ?_) (fun p3 j => ?_)))))))
   ·refine kn (bg (Wh d6 (Wh g0 (Wi rfl (V (qN (k' := .i64) (a := (wi0 .i64 (G + N))) dR eZ rfl) (V (G1 (a := j1) (b := 1) rfl rfl dc) (V (qN (k' := .u64) (a := (Int.fdiv j1 (2 ^ min (Int.toNat 1) (IntKind.bits .u64)))) eZ dR rfl) (Wa (ln (jI ?_))))))))))
    replace d := d.drew
    have n := d.has.ju (Kr Sn)
    refine ky n kd (X 0 rfl n (jC f9) (X 1 rfl n (jC c8) (X 2 rfl n (jC d5) (bS j fun y8 j7 j => XQ 3 rfl n (li (i := M) jt.out aD aC rfl rfl a5 (kl j7) (ki j7)) (fun bx ⟨_, ⟨y4, rfl, s7⟩, r5, ah⟩ => XH 4 rfl n (fun _ s => jv rfl (jQ (nn.hp _) (r5.mono (lI (fun b o A => s.2 b o (Ml A)))) aK aC)) (X 5 rfl n (jC c8) (X 6 rfl n (jC rfl) (bS j fun y9 j8 j => XQ 7 rfl n (li (i := (wi0 .i64 b8)) jt.out aD aC rfl rfl a5 (kl j8) (ki j8)) (fun bz ⟨_, ⟨y5, rfl, s8⟩, r6, ai⟩ => XH 8 rfl n (fun _ s => jv rfl (jQ (nn.hp _) (r6.mono (lI (fun b o A => s.2 b o (Ml A)))) aK aC)) (bS j fun cg s1 j => XE 9 rfl (yr (y8, y9) d c6 (kf.refl _) (ve.mk jD jD (jt.mk ⟨y4, rfl, s7⟩) (jt.mk ⟨y5, rfl, s8⟩) d.jB) rfl (wP rfl rfl) s1 (fun bh d => ?_))))))))))))
    have n := d.has.ju (Kr Sn)
    refine ⟨n, (X 10 rfl n (kv rfl rfl rfl) (X 11 rfl n (nj rfl) (kM kr (jE (CI j rfl (fun p4 j => ?_) (fun p4 j => ?_))))))⟩
    ·exact jG (Wm (Wi rfl (Wa (jU (ke (jE ⟨n3, bI _, (wi0 .i64 ((wi0 .i64 b8) + 1)), N, _, (d.ju St), c8, d5, f9, rfl, g0, j⟩))))))
    exact jG (Wm (Wa (jU (ke (jE ⟨n3, bI _, G, (wi0 .i64 b8), _, (d.ju St), c8, d5, f9, d6, rfl, j⟩)))))
   refine na (mR (mR (qp (jE (jI (sg (Wh d5 (Wa (ln (CJ j (fun i1 E W => ∃ d3 k8, ST false (keys (c ++ [])) w W U (d3 ++ k8) ∧ kE 30 jt 5 U t i1 d3) (fun i1 q7 => ?_) ?_))))))))))
   ·refine lA (nc (fun m E W => ∃ e2 d4 Q k9, ST false (keys (c ++ [])) w W U (d4 ++ k9) ∧ E 0 = t ∧ E 14 = (.int .i64 G) ∧ E 17 = (.int .i64 Q) ∧ kE 30 jt 5 U t e2 d4 ∧ mh G m e2 Q = some i1) jY ⟨a0, c, M, _, (d.ju St), c8, d6, rfl, a5, q7⟩ ?_)
    rintro m E W ⟨e2, d4, Q, k9, d, c9, l8, c1, b6, x⟩
    cases m with
    | zero => rw [mh] at x; cases x
    | succ y3 =>
     refine jI (sg (Wh c1 (Wh l8 (Wi rfl (ln (CI x rfl (fun p5 x => ?_) (fun p5 x => ?_)))))))
     ·refine kn (jI (lA ?_))
      replace d := d.drew
      have n := d.has.ju Sn
      have p := d.has.ju (Kr Sn)
      refine uR 15 n p kd (kR 0 rfl kr (.inl rfl) rfl dc (fun _ _ h => ⟨h.1, lJ (by rfl) h.2⟩) ⟨n, fun _ => p⟩ (fun _ _ _ _ => jC c9) (kR 1 rfl kr (.inl rfl) rfl dc (fun _ _ h => ⟨h.1, lJ (by rfl) h.2⟩) ⟨n, fun _ => p⟩ (fun _ _ _ _ => jC c1) (kR 2 rfl kr (.inl rfl) rfl dc (fun _ _ h => ⟨h.1, lJ (by rfl) h.2⟩) ⟨n, fun _ => p⟩ (fun _ _ _ _ => jC c9) (kR 3 rfl kr (.inl rfl) rfl dc (fun _ _ h => ⟨h.1, lJ (by rfl) h.2⟩) ⟨n, fun _ => p⟩ (fun _ _ _ _ => jC c1) (kR 4 rfl kr (.inl rfl) rfl dc (fun _ _ h => ⟨h.1, lJ (by rfl) h.2⟩) ⟨n, fun _ => p⟩ (fun _ _ _ _ => kv rfl rfl rfl) (kR 5 rfl kr (.inl rfl) rfl dc (fun _ _ h => ⟨h.1, lJ (by rfl) h.2⟩) ⟨n, fun _ => p⟩ (fun _ _ _ _ => jC c9) (kR 6 rfl kr (.inl rfl) rfl dc (fun _ _ h => ⟨h.1, lJ (by rfl) h.2⟩) ⟨n, fun _ => p⟩ (fun _ _ _ _ => jC c1) (kR 7 rfl kr (.inl rfl) rfl dc (fun _ _ h => ⟨h.1, lJ (by rfl) h.2⟩) ⟨n, fun _ => p⟩ (fun _ _ _ _ => kv rfl rfl rfl) (bS x fun i4 j9 x => sd 8 rfl kr (.inl rfl) rfl dc (fun _ _ h => ⟨h.1, lJ (by rfl) h.2⟩) ⟨n, fun _ => p⟩ (li (i := (wi0 .i64 (Q - 1))) jt.out aD aC rfl rfl b6 (kl j9) (ki j9)) (fun ca ⟨_, ⟨cp, rfl, i9⟩, r7, aj⟩ => kR 9 rfl kr (.inl rfl) rfl dc (fun _ _ h => ⟨h.1, lJ (by rfl) h.2⟩) ⟨n, fun _ => p⟩ (fun l W L hs => have s := (hs.2 (L.DF 15 [9] kr rfl)); jv rfl (jQ (nn.hp _) (r7.mono (lI (fun b o A => s.2 b o (Ml A)))) aK aC)) (kR 10 rfl kr (.inl rfl) rfl dc (fun _ _ h => ⟨h.1, lJ (by rfl) h.2⟩) ⟨n, fun _ => p⟩ (fun _ _ _ _ => jC c9) (kR 11 rfl kr (.inl rfl) rfl dc (fun _ _ h => ⟨h.1, lJ (by rfl) h.2⟩) ⟨n, fun _ => p⟩ (fun _ _ _ _ => jC c1) (bS x fun Z k0 x => ?_)))))))))))))
      refine sd 12 rfl kr (.inl rfl) rfl dc (fun _ _ h => ⟨h.1, lJ (by rfl) h.2⟩) ⟨n, fun _ => p⟩ (li (i := Q) jt.out aD aC rfl rfl b6 (kl k0) (ki k0)) (fun cb ⟨_, ⟨cq, rfl, j0⟩, r8, ak⟩ => kR 13 rfl kr (.inl rfl) rfl dc (fun _ _ h => ⟨h.1, lJ (by rfl) h.2⟩) ⟨n, fun _ => p⟩ (fun l W L hs => have s := (hs.2 (L.DF 15 [13] kr rfl)); jv rfl (jQ (nn.hp _) (r8.mono (lI (fun b o A => s.2 b o (Ml A)))) aK aC)) (bS x fun cy f1 x => sd 14 rfl kr (.inl rfl) rfl dc (fun _ _ h => ⟨h.1, lJ (by rfl) h.2⟩) ⟨n, fun _ => p⟩ (li (i := Q) jt.out aD aC rfl rfl b6 (kl f1) (ki f1)) (fun cc ⟨_, ⟨cr, rfl, av⟩, ap, q4⟩ => ?_)))
      obtain ⟨t9, u8, rfl⟩ := i9.form
      refine XO 15 rfl (qm (x1 := i4) jD d b6 rfl rfl (jt.mk ⟨(.slice t9 i4.Kids.length u8), rfl, i9⟩) q4 (ki f1) aC (fun bi bd d i6 => ?_))
      have n := d.has.ju Sn
      refine ⟨⟨n, fun h => zI kr h⟩, (bS x fun cz f2 x => sd 16 rfl kr (.inl rfl) rfl dc (fun _ _ h => ⟨h.1, lJ (by rfl) h.2⟩) ⟨n, fun h => zI kr h⟩ (li (i := (wi0 .i64 (Q - 1))) jt.out aD aC rfl rfl i6 (kl f2) (ki f2)) (fun cd ⟨_, ⟨cs, rfl, aw⟩, aq, q5⟩ => ?_))⟩
      obtain ⟨u0, u9, rfl⟩ := j0.form
      refine XO 17 rfl (qm (x1 := (⟨Z.Op, Z.K, Z.jq, Z.Kids⟩ : Formula)) jD d i6 rfl rfl (jt.mk ⟨(.slice u0 Z.Kids.length u9), rfl, j0⟩) q5 (ki f2) aC (fun bj u2 d p0 => ?_))
      have n := d.has.ju Sn
      exact ⟨⟨n, fun h => zI kr h⟩, (kM kr (ke (jE (jG (Wh c1 (Wi rfl (Wa (ln ⟨y3, bI _, ((e2.set (Int.toNat Q) i4).set (Int.toNat (wi0 .i64 (Q - 1))) (⟨Z.Op, Z.K, Z.jq, Z.Kids⟩ : Formula)), u2, (wi0 .i64 (Q - 1)), _, (d.ju St), c9, l8, rfl, p0, x⟩))))))))⟩
     refine na (mR (mR (qp (jE ?_))))
     have q := sj x; subst q
     exact ⟨d4, _, (d.ju St), b6⟩
   rintro bs E W ⟨d3, k8, d, s9⟩ q6
   refine jZ (km ?_)
   have q := sj q6; subst q
   exact ob rfl ⟨_, _, _, rfl, (d.mc (Kr Sn)), (kf.refl _), Lo.refl, (ST.kL d (mA.mem (Kr Sn))), d3, rfl, rfl, s9⟩
 let g5 := (IntKind.u64.wrap (wi0 .i64 (z + B)))
 refine kg (Wm (Wm (Wi rfl (V (qN (k' := .i64) (a := (wi0 .i64 (z + B))) dR eZ rfl) (V (G1 (a := g5) (b := 1) rfl rfl dc) (V (qN (k' := .u64) (a := (Int.fdiv g5 (2 ^ min (Int.toNat 1) (IntKind.bits .u64)))) eZ dR rfl) (Wa (lr ?_))))))))
 let R := (wi0 .i64 (Int.fdiv g5 (2 ^ min (Int.toNat 1) (IntKind.bits .u64))))
 let e5 := (wi0 .i64 (R + M))
 refine Wm (Wm (Wi rfl (Wa (lr (Wa (Wa (ln (jI (CJ hm (fun i2 E W => ∃ l0, ST false (keys (c ++ [])) w W U (c ++ l0) ∧ E 0 = t ∧ E 1 = (.int .i64 z) ∧ E 2 = (.int .i64 M) ∧ E 3 = (.int .i64 B) ∧ E 4 = D ∧ E 18 = (.int .i64 R) ∧ E 19 = (.int .i64 e5) ∧ E 20 = (.int .i64 i2.1) ∧ E 21 = (.int .i64 i2.2)) (fun i2 b5 => ?_) ?_)))))))))
 ·refine sg (Wm (Wm (Wi rfl (ln (CI b5 rfl (fun q1 b5 => ?_) (fun q1 b5 => ?_))))))
  ·refine sg (Wm (Wm (Wi rfl (Wa (ln (jG (Wm (Wa (ln ?_)))))))))
   have q := sj b5; subst q
   exact ⟨_, (d.ju St), rfl, rfl, rfl, rfl, rfl, rfl, rfl, rfl, rfl⟩
  refine sg (Wm (Wa (ln (jG (Wm (Wa (ln ?_)))))))
  have q := sj b5; subst q
  exact ⟨_, (d.ju St), rfl, rfl, rfl, rfl, rfl, rfl, rfl, rfl, rfl⟩
 rintro ⟨z0, z1⟩ E W ⟨l0, d, v0, v1, v2, v3, v4, v5, l9, v6, v7⟩ q8
 refine sg (Wh l9 (Wi rfl (Wa (ln (jI (lA (nc (fun m E W => ∃ g K l1, ST false (keys (c ++ [])) w W U (c ++ l1) ∧ E 0 = t ∧ E 1 = (.int .i64 z) ∧ E 2 = (.int .i64 M) ∧ E 3 = (.int .i64 B) ∧ E 4 = D ∧ E 18 = (.int .i64 R) ∧ E 19 = (.int .i64 e5) ∧ E 20 = (.int .i64 g) ∧ E 21 = (.int .i64 K) ∧ E 22 = (.int .i64 (wi0 .i64 (e5 - 1))) ∧ kF a0 z B M f4 t6 m g K = some r) jY ⟨z0, z1, _, (d.ju St), v0, v1, v2, v3, v4, v5, l9, v6, v7, rfl, q8⟩ ?_)))))))
 rintro m E W ⟨g, K, l1, d, c2, d7, c3, d8, d0, d9, g1, b1, g2, g3, k⟩
 let g6 := (IntKind.u64.wrap (wi0 .i64 (g + K)))
 let a3 := (Int.fdiv g6 (2 ^ min (Int.toNat 1) (IntKind.bits .u64)))
 let j2 := (wi0 .i64 a3)
 let a2 := (wi0 .i64 (e5 - g))
 cases m with
 | zero => rw [kF] at k; cases k
 | succ n4 =>
  refine jI (sg (Wh b1 (Wh g2 (Wi rfl (ln (CI k rfl (fun p6 k => ?_) (fun p6 k => ?_)))))))
  ·refine kn (bg (Wh b1 (Wh g2 (Wi rfl (V (qN (k' := .i64) (a := (wi0 .i64 (g + K))) dR eZ rfl) (V (G1 (a := g6) (b := 1) rfl rfl dc) (V (qN (k' := .u64) (a := (Int.fdiv g6 (2 ^ min (Int.toNat 1) (IntKind.bits .u64)))) eZ dR rfl) (Wa (ln (jI ?_))))))))))
   replace d := d.drew
   have n := d.has.ju (Kr Sn)
   refine ky n kd (X 0 rfl n (jC d0) (X 1 rfl n (jC c2) (X 2 rfl n (jC g3) (X 3 rfl n (jC rfl) (X 4 rfl n (kv rfl rfl rfl) (bS k fun z2 k1 k => XQ 5 rfl n (li (i := (wi0 .i64 ((wi0 .i64 (e5 - 1)) - j2))) jt.out aD aC rfl rfl a5 (kl k1) (ki k1)) (fun ce ⟨_, ⟨y6, rfl, t0⟩, r9, al⟩ => XH 6 rfl n (fun _ s => jv rfl (jQ (nn.hp _) (r9.mono (lI (fun b o A => s.2 b o (Ml A)))) aK aC)) (X 7 rfl n (jC c2) (X 8 rfl n (jC rfl) (bS k fun z3 k2 k => XQ 9 rfl n (li (i := (wi0 .i64 a3)) jt.out aD aC rfl rfl a5 (kl k2) (ki k2)) (fun cf ⟨_, ⟨y7, rfl, t1⟩, s0, am⟩ => XH 10 rfl n (fun _ s => jv rfl (jQ (nn.hp _) (s0.mono (lI (fun b o A => s.2 b o (Ml A)))) aK aC)) (bS k fun ch s2 k => ?_))))))))))))
   refine XE 11 rfl (yr (z2, z3) d c6 (kf.refl _) (ve.mk jD jD (jt.mk ⟨y6, rfl, t0⟩) (jt.mk ⟨y7, rfl, t1⟩) d.jB) rfl (wP rfl rfl) s2 (fun bk d => ?_))
   have n := d.has.ju (Kr Sn)
   refine ⟨n, (X 12 rfl n (kv rfl rfl rfl) (X 13 rfl n (nj rfl) (kM kr (jE (CI k rfl (fun p7 k => ?_) (fun p7 k => ?_))))))⟩
   ·exact jG (Wm (Wi rfl (Wa (jU (ke (jE ⟨n4, bI _, (wi0 .i64 (j2 + 1)), K, _, (d.ju St), c2, d7, c3, d8, d0, d9, g1, rfl, g2, g3, k⟩))))))
   exact jG (Wm (Wa (jU (ke (jE ⟨n4, bI _, g, j2, _, (d.ju St), c2, d7, c3, d8, d0, d9, g1, b1, rfl, g3, k⟩)))))
  refine na (mR (mR (qp (jE (sg (Wh g1 (Wh b1 (Wi rfl (Wa (ln (jI (CJ k (fun n8 E W => ∃ b7 a4 l2, kf U a4 ∧ Lo (keys (c ++ [])) w U a4 ∧ ST false (keys (c ++ [])) w W a4 (b7 ++ l2) ∧ E 0 = t ∧ E 1 = (.int .i64 z) ∧ E 3 = (.int .i64 B) ∧ E 4 = D ∧ E 18 = (.int .i64 R) ∧ E 20 = (.int .i64 g) ∧ E 24 = (.int .i64 a2) ∧ kE 30 jt 5 a4 t n8 b7) (fun n8 r2 => ?_) ?_))))))))))))
  ·refine sg (Wh b1 (Wh c3 (Wi rfl (Wm (LJ r2 (fun n9 E W => ∃ l6, ST false (keys (c ++ [])) w W U (c ++ l6) ∧ E 0 = t ∧ E 1 = (.int .i64 z) ∧ E 2 = (.int .i64 M) ∧ E 3 = (.int .i64 B) ∧ E 4 = D ∧ E 18 = (.int .i64 R) ∧ E 20 = (.int .i64 g) ∧ E 24 = (.int .i64 a2) ∧ E 185 = (.bool n9)) 4 ?_ (fun n9 b4 f6 => ?_))))))
   ·rintro de E W ⟨l6, d, h4, m8, w7, m9, h5, n0, h6, h7, w8⟩ a8
    refine ln (CI a8 w8 (fun q0 a8 => ?_) (fun q0 a8 => ?_))
    ·refine jG (Wh h4 (Wh h6 (Wh w7 (Wh h7 (Wh h5 (bS a8 fun ck s5 a8 => ?_))))))
     refine VE (eD d (Cr Qz Cn) call389 (fun hh => lP.lz (yi t a0 c g M a2 D f4 _ _ hh a5 (c6.mono (kf.refl _)) s5)) ?_)
     rintro _ cv z5 ba d o2 bl ⟨u5, e8, rfl, t4⟩
     obtain rfl := e8.symm
     replace d := d.perm (Tr Tn)
     refine ln ?_
     have q := sj a8; subst q
     exact ⟨u5, z5, _, o2, bl, (d.ju St), h4, m8, m9, h5, n0, h6, h7, t4⟩
    refine kn ?_
    have q := sj a8; subst q
    exact ⟨c, U, _, (kf.refl _), Lo.refl, (d.ju St), h4, m8, m9, h5, n0, h6, h7, a5⟩
   refine bC b4 (fun J b4 => ?_) (fun J b4 => ?_)
   ·refine ug J (jC c3) (ug J (jC rfl) (ug J (kv rfl rfl rfl) (V (jM (cB J) rfl) ?_)))
    have q := sj b4; subst q
    exact f6 _ _ ⟨_, (d.ju St), c2, d7, c3, d8, d0, d9, b1, rfl, rfl⟩
   refine un J (un J (un J (V (jO (cB J) rfl) ?_)))
   have q := sj b4; subst q
   exact f6 _ _ ⟨_, (d.ju St), c2, d7, c3, d8, d0, d9, b1, rfl, rfl⟩
  rintro y0 E W ⟨b7, a4, l2, c4, O, d, m0, g4, m1, m2, g7, e0, m3, j3⟩ q9
  refine jI (CJ q9 (fun n6 E W => ∃ b9 c5 l3, kf a4 c5 ∧ Lo (keys (c ++ [])) w a4 c5 ∧ ST false (keys (c ++ [])) w W c5 (b9 ++ l3) ∧ E 0 = t ∧ E 3 = (.int .i64 B) ∧ E 4 = D ∧ E 18 = (.int .i64 R) ∧ E 24 = (.int .i64 a2) ∧ kE 30 jt 5 c5 t n6 b9) (fun n6 r1 => ?_) ?_)
  ·refine sg (Wh g4 (Wh e0 (Wi rfl (Wm (LJ r1 (fun n7 E W => ∃ l5, ST false (keys (c ++ [])) w W a4 (b7 ++ l5) ∧ E 0 = t ∧ E 1 = (.int .i64 z) ∧ E 3 = (.int .i64 B) ∧ E 4 = D ∧ E 18 = (.int .i64 R) ∧ E 20 = (.int .i64 g) ∧ E 24 = (.int .i64 a2) ∧ E 199 = (.bool n7)) 4 ?_ (fun n7 b3 f5 => ?_))))))
   ·rintro db E W ⟨l5, d, h1, w4, m6, h2, h3, w5, m7, w6⟩ a7
    refine ln (CI a7 w6 (fun p9 a7 => ?_) (fun p9 a7 => ?_))
    ·refine jG (Wh h1 (Wh w4 (Wh w5 (Wh h3 (Wh h2 (bS a7 fun cj s4 a7 => ?_))))))
     refine VE (eD d (Cr Qz Cn) call384 (fun hh => (s6 t y0 b7 z g R D f4 _ _ hh j3 (c6.mono c4) s4)) ?_)
     rintro _ cu z4 az d o1 aE ⟨u4, e7, rfl, t3⟩
     obtain rfl := e7.symm
     replace d := d.perm (Tr Tn)
     refine ln ?_
     have q := sj a7; subst q
     exact ⟨u4, z4, _, o1, aE, (d.ju St), h1, m6, h2, h3, m7, t3⟩
    refine kn ?_
    have q := sj a7; subst q
    exact ⟨b7, a4, _, (kf.refl _), Lo.refl, (d.ju St), h1, m6, h2, h3, m7, j3⟩
   refine bC b3 (fun I b3 => ?_) (fun I b3 => ?_)
   ·refine ug I (jC e0) (ug I (jC g7) (ug I (kv rfl rfl rfl) (V (jM (cB I) rfl) ?_)))
    have q := sj b3; subst q
    exact f5 _ _ ⟨_, (d.ju St), m0, g4, m1, m2, g7, e0, m3, rfl⟩
   refine un I (un I (un I (V (jO (cB I) rfl) ?_)))
   have q := sj b3; subst q
   exact f5 _ _ ⟨_, (d.ju St), m0, g4, m1, m2, g7, e0, m3, rfl⟩
  rintro y1 E W ⟨b9, c5, l3, d2, P, d, m4, g8, m5, g9, e1, j4⟩ r0
  refine sg (Wh g9 (Wh e1 (Wi rfl (Wm (LJ r0 (fun n5 E W => ∃ l4, ST false (keys (c ++ [])) w W c5 (b9 ++ l4) ∧ E 0 = t ∧ E 3 = (.int .i64 B) ∧ E 4 = D ∧ E 18 = (.int .i64 R) ∧ E 24 = (.int .i64 a2) ∧ E 213 = (.bool n5)) 4 ?_ (fun n5 b2 f3 => ?_))))))
  ·rintro da E W ⟨l4, d, v8, v9, w0, w1, w2, w3⟩ a6
   refine ln (CI a6 w3 (fun p8 a6 => ?_) (fun p8 a6 => ?_))
   ·refine jG (Wh v8 (Wh w1 (Wh w2 (Wh v9 (Wh w0 (bS a6 fun ci s3 a6 => ?_))))))
    refine VE (eD d (Cr Qz Cn) call384 (fun hh => (s6 t y1 b9 R a2 B D f4 _ _ hh j4 (c6.mono (c4.trans d2)) s3)) ?_)
    rintro _ ct df ay d o0 ad ⟨u3, e6, rfl, t2⟩
    obtain rfl := e6.symm
    replace d := d.perm (Tr Tn)
    refine jU (pd ?_)
    have q := sj a6; subst q
    exact ob rfl ⟨_, _, _, rfl, (d.mc (Kr Sn)), ((c4.trans d2).trans o0), ((O.trans P).trans ad), (ST.kL d (mA.mem (Kr Sn))), u3, rfl, rfl, t2⟩
   refine kG (pd ?_)
   have q := sj a6; subst q
   exact ob rfl ⟨_, _, _, rfl, (d.mc (Kr Sn)), (c4.trans d2), (O.trans P), (ST.kL d (mA.mem (Kr Sn))), b9, rfl, rfl, j4⟩
  refine bC b2 (fun H b2 => ?_) (fun H b2 => ?_)
  ·refine ug H (jC e1) (ug H (jC g8) (ug H (kv rfl rfl rfl) (V (jM (cB H) rfl) ?_)))
   have q := sj b2; subst q
   exact f3 _ _ ⟨_, (d.ju St), m4, g8, m5, g9, e1, rfl⟩
  refine un H (un H (un H (V (jO (cB H) rfl) ?_)))
  have q := sj b2; subst q
  exact f3 _ _ ⟨_, (d.ju St), m4, g8, m5, g9, e1, rfl⟩
theorem pP : ∀ (n : Nat) (c : Value) (k : List Formula) (a : LO) (t : Int) (u : Int) (x : Int) (g : Value) (y : (Formula × Formula) → Option Int) (r : List Formula) (w : World) {i : kk} (H : nz i (a ++ []) w) (B : kE 30 jt 5 i c k a) (D : xj pg0 g i (ve jt jt) (fun (r : Int) => (.int .i64 r)) y) (_ : lx n k t u x y = some r),
  lP false pg0 384 [c, (.int .i64 t), (.int .i64 u), (.int .i64 x), g] w i (a ++ []) (fun v z G => ∃ j, v = (.tuple #[]) ∧ z = (j ++ []) ∧ kE 30 jt 5 G c r j)
 | 0 => by intros; rename_i h; simp only [lx] at h; cases h
 | n + 1 => vU (lx n) (pP n)
theorem yx (a : Value) (a0 : List Formula) (c : LO) (Q : Int) (x : Value) (f2 : (Formula × Formula) → Option Int) (r : List Formula) (w : World) {μ0 : kk} (h0 : nz μ0 (c ++ []) w) (k4 : kE 30 jt 5 μ0 a a0 c) (c7 : xj pg0 x μ0 (ve jt jt) (fun (r : Int) => (.int .i64 r)) f2) (hm : qD a0 Q f2 = some r) :
  lP false pg0 375 [a, (.int .i64 Q), x] w μ0 (c ++ []) (fun v L1 μ1 => ∃ S1, v = (.tuple #[]) ∧ L1 = (S1 ++ []) ∧ kE 30 jt 5 μ1 a r S1) := by
 refine uo h0 63 func375 rfl (fun b => sg (Wa (lr (Wm (Wa (Wa (ln (jI (lA (nc (fun m E W => ∃ d4 d0 d5 R d6 f1, kf μ0 d6 ∧ Lo (keys (c ++ [])) w μ0 d6 ∧ ST false (keys (c ++ [])) w W d6 (d0 ++ f1) ∧ E 0 = a ∧ E 1 = (.int .i64 Q) ∧ E 2 = x ∧ E 6 = (.int .i64 20) ∧ E 7 = (.int .i64 d5) ∧ E 8 = (.int .i64 R) ∧ kE 30 jt 5 d6 a d4 d0 ∧ lV Q f2 m d4 d5 R = some r) jY ⟨a0, c, 0, 20, μ0, _, (kf.refl _), Lo.refl, (b.ju St), rfl, rfl, rfl, rfl, rfl, rfl, k4, hm⟩ ?_))))))))))
 rintro m E W ⟨d4, d0, d5, R, d6, f1, z, l, b, b4, b5, b6, d7, f4, b7, h1, i⟩
 cases m with
 | zero => rw [lV] at i; cases i
 | succ k5 =>
  refine jI (sg (Wh b7 (Wh b5 (Wi rfl (ln (CI i rfl (fun i4 i => ?_) (fun i4 i => ?_)))))))
  ·refine kn (bg (Wh b4 (Wh f4 (Wh b7 (Wh b6 (bS i fun k6 i7 i => ?_))))))
   refine VE (eD b (Cr Qz Cn) call383 (fun A => (rC a d4 d0 d5 R x f2 _ _ A h1 (c7.mono z) i7)) ?_)
   rintro _ m4 k8 l8 b g0 L ⟨k1, c8, rfl, j0⟩
   obtain rfl := c8.symm
   replace b := b.perm (Tr Tn)
   refine lr (Wh b7 (Wa (ln (jG (Wh b7 (Wh d7 (Wi rfl (Wa (jU (ke ?_))))))))))
   exact jE ⟨k5, bI _, k6, k1, R, (wi0 .i64 (R + 20)), k8, _, (z.trans g0), (l.trans L), (b.ju St), b4, b5, b6, d7, rfl, rfl, j0, i⟩
  refine na (mR (mR (qp (jE (sg (Wh b4 (Wh f4 (Wh b5 (Wh b6 (bS i fun k7 i8 i => ?_))))))))))
  refine VE (eD b (Cr Qz Cn) call383 (fun A => (rC a d4 d0 d5 Q x f2 _ _ A h1 (c7.mono z) i8)) ?_)
  rintro _ m5 a8 l9 b a5 O ⟨k2, c9, rfl, j3⟩
  obtain rfl := c9.symm
  replace b := b.perm (Tr Tn)
  refine ln (rb (CJ i (fun d8 E W => ∃ b2 a9 f3, kf a8 a9 ∧ Lo (keys (c ++ [])) w a8 a9 ∧ ST false (keys (c ++ [])) w W a9 (b2 ++ f3) ∧ kE 30 jt 5 a9 a d8 b2) (fun d8 i6 => ?_) ?_))
  ·refine lA (nc (fun m E W => ∃ a2 I j k e0, kf a8 k ∧ Lo (keys (c ++ [])) w a8 k ∧ ST false (keys (c ++ [])) w W k (I ++ e0) ∧ E 0 = a ∧ E 1 = (.int .i64 Q) ∧ E 2 = x ∧ E 6 = (.int .i64 j) ∧ kE 30 jt 5 k a a2 I ∧ lU Q f2 m a2 j = some d8) jY ⟨k7, k2, 20, a8, _, (kf.refl _), Lo.refl, (b.ju St), b4, b5, b6, d7, j3, i6⟩ ?_)
   rintro m E W ⟨a2, I, j, k, e0, B, d, b, h6, e4, h7, b3, d1, t⟩
   cases m with
   | zero => rw [lU] at t; cases t
   | succ j6 =>
    refine jI (sg (Wh b3 (Wh e4 (Wi rfl (ln (CI t rfl (fun f7 t => ?_) (fun f7 t => ?_)))))))
    ·refine kn (bg (Wh b3 (Wi rfl (Wa (Wa (ln (jI (CJ t (fun a4 E W => ∃ J y e1, kf k y ∧ Lo (keys (c ++ [])) w k y ∧ ST false (keys (c ++ [])) w W y (J ++ e1) ∧ E 0 = a ∧ E 1 = (.int .i64 Q) ∧ E 2 = x ∧ E 6 = (.int .i64 j) ∧ E 7 = (.int .i64 a4.2) ∧ kE 30 jt 5 y a a4.1 J) (fun a4 g4 => ?_) ?_))))))))
     ·refine lA (nc (fun m E W => ∃ a3 K M D H e3, kf k H ∧ Lo (keys (c ++ [])) w k H ∧ ST false (keys (c ++ [])) w W H (K ++ e3) ∧ E 0 = a ∧ E 1 = (.int .i64 Q) ∧ E 2 = x ∧ E 6 = (.int .i64 j) ∧ E 7 = (.int .i64 M) ∧ E 8 = (.int .i64 D) ∧ kE 30 jt 5 H a a3 K ∧ mw Q j f2 m a3 M D = some a4) jY ⟨a2, I, 0, (wi0 .i64 (2 * j)), k, _, (kf.refl _), Lo.refl, (b.ju St), h6, e4, h7, b3, rfl, rfl, d1, g4⟩ ?_)
      rintro m E W ⟨a3, K, M, D, H, e3, N, h, b, c2, c3, c4, Y, c5, Z, d3, g⟩
      cases m with
      | zero => rw [mw] at g; cases g
      | succ j7 =>
       refine jI (sg (Wh Z (Wh c3 (Wi rfl (ln (CI g rfl (fun f9 g => ?_) (fun f9 g => ?_)))))))
       ·refine kn (bg (Wh c2 (Wh c5 (Wh c5 (Wh Y (Wi rfl (Wh Z (Wh c4 (bS g fun j8 g8 g => ?_)))))))))
        refine VE (eD b (Cr Qz Cn) call384 (fun A => ((pP jY) a a3 K M (wi0 .i64 (M + j)) D x f2 _ _ A d3 (c7.mono (((z.trans a5).trans B).trans N)) g8)) ?_)
        rintro _ l6 k0 l1 b f0 s ⟨h5, a7, rfl, h3⟩
        obtain rfl := a7.symm
        replace b := b.perm (Tr Tn)
        refine lr (Wh Z (Wa (ln (jG (Wh Z (Wh Y (Wi rfl (Wi rfl (Wa (jU ?_))))))))))
        exact ke (jE ⟨j7, bI _, j8, h5, D, (wi0 .i64 (D + (wi0 .i64 (2 * j)))), k0, _, (N.trans f0), (h.trans s), (b.ju St), c2, c3, c4, Y, rfl, rfl, h3, g⟩)
       refine na (mR (mR (qp (jE ?_))))
       obtain rfl := sj g
       exact ⟨K, H, _, N, h, (b.ju St), c2, c3, c4, Y, c5, d3⟩
     rintro ⟨j4, e7⟩ E W ⟨J, y, e1, b0, n, b, b9, U, c0, c1, e5, d2⟩ g2
     refine jI (CJ g2 (fun e6 E W => ∃ T G e2, kf y G ∧ Lo (keys (c ++ [])) w y G ∧ ST false (keys (c ++ [])) w W G (T ++ e2) ∧ E 0 = a ∧ E 1 = (.int .i64 Q) ∧ E 2 = x ∧ E 6 = (.int .i64 j) ∧ kE 30 jt 5 G a e6 T) (fun e6 u => ?_) ?_)
     ·refine sg (Wh e5 (Wh c1 (Wi rfl (Wa (lr (Wm (Wh U (Wi rfl (ln ?_)))))))))
      refine CI u rfl (fun f8 u => ?_) (fun f8 u => ?_)
      ·refine jG (Wh b9 (Wh e5 (Wm (Wh U (Wh c0 (bS u fun l4 g7 u => ?_))))))
       refine VE (eD b (Cr Qz Cn) call384 (fun A => ((pP jY) a j4 J e7 (wi0 .i64 (e7 + j)) Q x f2 _ _ A d2 (c7.mono (((z.trans a5).trans B).trans b0)) g7)) ?_)
       rintro _ l5 j9 l0 b e9 q ⟨h4, a6, rfl, h2⟩
       obtain rfl := a6.symm
       replace b := b.perm (Tr Tn)
       refine ln ?_
       obtain rfl := sj u
       exact ⟨h4, j9, _, e9, q, (b.ju St), b9, U, c0, c1, h2⟩
      refine kn ?_
      obtain rfl := sj u
      exact ⟨J, y, _, (kf.refl _), Lo.refl, (b.ju St), b9, U, c0, c1, d2⟩
     rintro j5 E W ⟨T, G, e2, e8, p, b, h8, h9, i0, i1, g9⟩ g3
     exact jG (Wh i1 (Wi rfl (Wa (jU (ke (jE ⟨j6, bI _, j5, T, (wi0 .i64 (j * 2)), G, _, ((B.trans b0).trans e8), ((d.trans n).trans p), (b.ju St), h8, h9, i0, rfl, g9, g3⟩))))))
    refine na (mR (mR (qp (jE ?_))))
    obtain rfl := sj t
    exact ⟨I, k, _, B, d, (b.ju St), d1⟩
  rintro m3 E W ⟨b2, a9, f3, g1, P, b, i9⟩ i5
  refine pd ?_
  obtain rfl := sj i5
  exact ob rfl ⟨_, _, _, rfl, (b.mc (Kr Sn)), ((z.trans a5).trans g1), ((l.trans O).trans P), (ST.kL b (mA.mem (Kr Sn))), b2, rfl, rfl, i9⟩
theorem yf (c : Value) (k : List Formula) (a : LO) (i : Value) (u : (Formula × Formula) → Option Int) (r : List Formula) (w : World) {t : kk} (J : nz t (a ++ []) w) (j : kE 30 jt 5 t c k a) (x : xj pg0 i t (ve jt jt) (fun (r : Int) => (.int .i64 r)) u) (hm : oz k u = some r) :
  lP false pg0 352 [c, i] w t (a ++ []) (fun v I K => ∃ B, v = (.tuple #[]) ∧ I = (B ++ []) ∧ kE 30 jt 5 K c r B) := by
 refine uo J 9 func352 rfl (fun b => jG (Wm (Wm (V (rS aD rfl j) (Wm (bS hm fun Q H hm => ?_))))))
 refine VE (eD b (Cr Qz Cn) call375 (fun h => (yx c k a (k.length : Int) i u _ _ h j (x.mono (kf.refl _)) H)) ?_)
 rintro _ T U M b y d ⟨D, g, rfl, z⟩
 obtain rfl := g.symm
 replace b := b.perm (Tr Tn)
 refine jU (pd ?_)
 obtain rfl := sj hm
 exact ob rfl ⟨_, _, _, rfl, (b.mc (Kr Sn)), y, d, (ST.kL b (mA.mem (Kr Sn))), D, rfl, rfl, z⟩
theorem qU (t : Nat) (j : Value) (G : List Int) (i : LO) (h : Int) (r : (Bool × (List Int))) (w : World) {μ0 : kk} (A : nz μ0 ((t, Ob #[j] 215) :: (i ++ [])) w) (y : jX 5 (kN .u8) 1 j G i) (hm : nP G h = some r) :
  lH true pg0 170 [(.pointer (some ⟨t, 0, none⟩)), (.int .i64 h)] w ((t, Ob #[j] 215) :: (i ++ [])) (fun v L1 W' => ∃ n S2, v = (.bool (r.1)) ∧ L1 = ((t, Ob #[n] 215) :: (S2 ++ [])) ∧ jX 5 (kN .u8) 1 n r.2 S2) := by
 refine Ab A 38 func170 rfl (fun d => sg (Wa (lS (Wm (V (ua fT rfl rfl) (Wm (Vg rfl rfl (jC rfl) (Vg rfl rfl (kv rfl rfl rfl) (V (jO rfl rfl) ?_)))))))))
 refine ln (CI hm rfl (fun a9 hm => ?_) (fun a9 hm => ?_))
 ·refine sg (Wa (lt (km ?_)))
  obtain rfl := sj hm
  exact kO (v := (.bool false)) rfl rfl ⟨_, _, rfl, (d.mc (Kb (Kr Sn))), j, i, rfl, rfl, y⟩
 refine kn (jI (lA (nc (fun m E W => ∃ c z U u a0, ST true (keys ((t, Ob #[j] 215) :: (i ++ []))) w W μ0 ((t, Ob #[z] 215) :: (u ++ a0)) ∧ E 0 = (.pointer (some ⟨t, 0, none⟩)) ∧ E 1 = (.int .i64 c) ∧ jX 5 (kN .u8) 1 z U u ∧ pz m c U = some r) jY ⟨h, j, G, i, _, (d.ju St), rfl, rfl, y, hm⟩ ?_)))
 rintro m E W ⟨c, z, U, u, a0, d, x, K, T, g⟩
 cases m with
 | zero => rw [pz] at g; cases g
 | succ s =>
  refine jI (sg (Wh K (Wi rfl (ln (CI g rfl (fun p g => ?_) (fun p g => ?_))))))
  ·refine kn (jI (lA (jG (Wh x (Wh x (Wn (Wf yT (VB d Mh rfl rfl iJ (Wh K (V (qN (k' := .i64) (a := c) dR fG rfl) (V (IJ (k := .u8) (a := (IntKind.u8.wrap c)) (b := 128) (v := (.int .u8 (IntKind.u8.wrap (BitVec.ofInt (IntKind.bits .u8) (IntKind.u8.wrap c) ||| BitVec.ofInt (IntKind.bits .u8) 128).toNat))) rfl rfl dc rfl) (VE (jW (cs := [(.int .u8 (IntKind.u8.wrap (BitVec.ofInt (IntKind.bits .u8) (IntKind.u8.wrap c) ||| BitVec.ofInt (IntKind.bits .u8) 128).toNat))].toArray) d (kX rfl) (lM cU sizeOf5 jb) (fun c3 q d => ?_))))))))))))))
   replace d := d.perm (Nr (Qb (Qb Qz)) Nz)
   refine bS g fun Q Y g => VE (mz (enc := (kN .u8)) (v := z) (vs := (.slice (some ⟨q, 0, none⟩) 1 1)) (R := u) d (fun _ => rfl) dc (EK _) cU uv.1 uv.2.1 rfl uv.2.2.1 uv.2.2.2 rfl rfl T (Sl.lit (enc := (kN .u8)) (l := [(IntKind.u8.wrap (BitVec.ofInt (IntKind.bits .u8) (IntKind.u8.wrap c) ||| BitVec.ofInt (IntKind.bits .u8) 128).toNat)]) (fun _ => rfl) rfl nb rfl (d.at_ (Ma Mh))) Y (fun L c1 a2 d M => Wn (Wf yT ?_)))
   obtain ⟨B, H, rfl⟩ := M.form
   replace d := d.perm (Nb (Pr (Pb Pz)) Nz)
   refine VO (jL (.slice B Q.length H) (#[(.slice B Q.length H)]) d rfl rfl iv oc nb rfl (fun O d => jU (ke (jE ?_))))
   replace d := d.ju (Kb (Kr (Db St)))
   exact jG (Wh K (V (G1 (a := c) (b := 7) rfl rfl dc) (Wa (ln ⟨s, bI _, (Int.fdiv c (2 ^ min (Int.toNat 7) (IntKind.bits .i64))), (.slice B Q.length H), Q, a2, _, (d.ju St), x, rfl, M, g⟩))))
  refine na (mR (mR (qp (jE (sg (Wh x (Wh x (Wn (Wf yT (VB d Mh rfl rfl iJ (Wh K (V (qN (k' := .i64) (a := c) dR fG rfl) (VE (jW (cs := [(.int .u8 (IntKind.u8.wrap c))].toArray) d (kX rfl) (lM cU sizeOf5 jb) (fun P a5 d => ?_)))))))))))))))
  replace d := d.perm (Nr (Qb (Qb Qz)) Nz)
  refine bS g fun J Z g => VE (mz (enc := (kN .u8)) (v := z) (vs := (.slice (some ⟨a5, 0, none⟩) 1 1)) (R := u) d (fun _ => rfl) dc (EK _) cU uv.1 uv.2.1 rfl uv.2.2.1 uv.2.2.2 rfl rfl T (Sl.lit (enc := (kN .u8)) (l := [(IntKind.u8.wrap c)]) (fun _ => rfl) rfl nb rfl (d.at_ (Ma Mh))) Z (fun b7 c2 a3 d N => Wn (Wf yT ?_)))
  obtain ⟨D, I, rfl⟩ := N.form
  replace d := d.perm (Nb (Pr (Pb Pz)) Nz)
  refine VO (jL (.slice D J.length I) (#[(.slice D J.length I)]) d rfl rfl iv oc nb rfl (fun b9 d => ln ?_))
  replace d := d.ju (Kb (Kr (Db St)))
  refine sg (Wa (lt ?_))
  obtain rfl := sj g
  exact kO (v := (.bool true)) rfl rfl ⟨_, _, rfl, (d.mc (Kb (Kr Sn))), (.slice D J.length I), a3, rfl, rfl, N⟩
theorem Fa (g : Nat) (c : Value) (j : List Int) (a : LO) (u : Value) (D : List Int) (r : (Bool × (List Int))) (w : World) {Z : kk} (h : nz Z ((g, Ob #[c] 215) :: (a ++ [])) w) (i : jX 5 (kN .u8) 1 c j a) (k : Sl (Pl (kN .u8)) 1 Z u D) (hm : xb j D = some r) :
  lH true pg0 171 [(.pointer (some ⟨g, 0, none⟩)), u] w ((g, Ob #[c] 215) :: (a ++ [])) (fun v L1 W' => ∃ U M, v = (.bool (r.1)) ∧ L1 = ((g, Ob #[U] 215) :: (M ++ [])) ∧ jX 5 (kN .u8) 1 U r.2 M) := by
 refine Ab h 25 func171 rfl (fun b => sg (Wa (lS (Wm (V (ua fT rfl rfl) (Wm (Vg rfl rfl (jC rfl) (Vg rfl rfl (kJ cU rfl k) (Vg rfl rfl (kv rfl rfl rfl) ?_)))))))))
 refine V (jO rfl rfl) (ln (CI hm rfl (fun Q hm => ?_) (fun Q hm => ?_)))
 ·refine sg (Wa (lt (km ?_)))
  obtain rfl := sj hm
  exact kO (v := (.bool false)) rfl rfl ⟨_, _, rfl, (b.mc (Kb (Kr Sn))), c, a, rfl, rfl, i⟩
 refine kg (Wm (Wm (V (kJ cU rfl k) (bS hm fun q T hm => ?_))))
 refine VE (eM b (Cb Pz (Cr Qz Cn)) call170 (fun l _ => (qU g c j a (D.length : Int) _ _ l i T)) ?_)
 rintro _ v8 n a3 b H m d ⟨Y, K, t, rfl, I⟩
 obtain rfl := t.symm
 replace b := b.perm (Tb (Tr Tn))
 refine lr (Wm (Wm (Wn (Wf yT (VB b Mh rfl rfl iJ (Wm ?_))))))
 replace b := b.perm (Nr (Qb Qz) Nz)
 refine bS hm fun B G hm => VE (mz (enc := (kN .u8)) (v := Y) (vs := u) (R := K) b (fun _ => rfl) dc (EK _) cU uv.1 uv.2.1 rfl uv.2.2.1 uv.2.2.2 rfl rfl I (k.mono (Pl.mono _) (H.trans b.jB)) G (fun a4 p J b z => Wn (Wf yT ?_)))
 obtain ⟨x, y, rfl⟩ := z.form
 replace b := b.perm (Nb (Pr Pz) Nz)
 refine VO (jL (.slice x B.length y) (#[(.slice x B.length y)]) b rfl rfl iv oc nb rfl (fun a5 b => lr (Wa (lt ?_))))
 obtain rfl := sj hm
 exact kO (v := (.bool true)) rfl rfl ⟨_, _, rfl, (b.mc (Kb (Kr Sn))), (.slice x B.length y), J, rfl, rfl, z⟩
theorem yj (j : Nat) (c : Value) (t : List Int) (a : LO) (J : ByteArray) (r : (Bool × (List Int))) (w : World) {Z : kk} (A : nz Z ((j, Ob #[c] 215) :: (a ++ [])) w) (k : jX 5 (kN .u8) 1 c t a) (hm : th t J = some r) :
  lH true pg0 213 [(.pointer (some ⟨j, 0, none⟩)), (.string J)] w ((j, Ob #[c] 215) :: (a ++ [])) (fun v L1 W' => ∃ n S2, v = (.bool (r.1)) ∧ L1 = ((j, Ob #[n] 215) :: (S2 ++ [])) ∧ jX 5 (kN .u8) 1 n r.2 S2) := by
 refine Ab A 17 func213 rfl (fun b => sg (Wa (lr (Wm (V (Dt fT rfl rfl) (Wm (Vg rfl rfl (jC rfl) (bS hm fun r1 a4 hm => NM rfl rfl (Eg b call93 (vV J _ _  a4) (fun W3 b => V (jM rfl rfl) ?_))))))))))
 refine Wm (LJ hm (fun B E W => ∃ z x D I, kf Z D ∧ ST true (keys ((j, Ob #[c] 215) :: (a ++ []))) w W D ((j, Ob #[z] 215) :: (x ++ I)) ∧ E 4 = (.bool false) ∧ E 16 = (.bool B.1) ∧ jX 5 (kN .u8) 1 z B.2 x) 5 ?_ (fun B g y => ?_))
 ·rintro ⟨q, c0⟩ E W ⟨z, x, D, I, O, b, b9, a3, T⟩ M
  refine Wg a3 (lt ?_)
  obtain rfl := sj M
  exact kO (v := (.bool q)) rfl rfl ⟨_, _, rfl, (b.mc (Kb (Kr Sn))), z, x, rfl, rfl, T⟩
 refine bC g (fun i g => ?_) (fun i g => ?_)
 ·refine ug i (jC rfl) (ug i (jC rfl) (bS g fun a5 N g => rB i (Il b bZ cU fG rfl N (fun b6 p c3 b G l U P => bS g fun c1 Q g => ?_))))
  refine rB i (eM b (Cb Pz (Cr Qz Cn)) call171 (fun L h => (Fa j c t a p a5 _ _ L k (U.mono (Pl.mono _) h) Q)) ?_)
  rintro _ c2 s R b H m d ⟨a9, a2, u, rfl, Y⟩
  obtain rfl := u.symm
  replace b := b.perm (Tb (Tr Tn))
  refine V (jM (cB i) rfl) ?_
  obtain rfl := sj g
  exact y _ _ ⟨a9, a2, s, _, (G.trans H), (b.ju St), rfl, rfl, Y⟩
 refine un i (un i (un i (un i (V (jO (cB i) rfl) ?_))))
 obtain rfl := sj g
 exact y _ _ ⟨c, a, Z, _, (kf.refl _), (b.ju St), rfl, rfl, k⟩
theorem uM (c : Nat) (i : Value) (D : List Int) (a : LO) (x : jq) (r : (Bool × (List Int))) (w : World) {μ0 : kk} (h0 : nz μ0 ((c, Ob #[i] 215) :: (a ++ [])) w) (y : jX 5 (kN .u8) 1 i D a) (hm : pA D x = some r) :
  lH true pg0 212 [(.pointer (some ⟨c, 0, none⟩)), (.agg (jA x).toArray)] w ((c, Ob #[i] 215) :: (a ++ [])) (fun v L1 W' => ∃ q S2, v = (.bool (r.1)) ∧ L1 = ((c, Ob #[q] 215) :: (S2 ++ [])) ∧ jX 5 (kN .u8) 1 q r.2 S2) := by
 let l := ((c, Ob #[i] 215) :: (a ++ []))
 refine Ab h0 23 func212 rfl (fun b => sg (VE (kj b rfl (fun W2 m b => Wa (lr (Wm (V (Dt fT rfl rfl) (Wm (Vg rfl rfl (jv rfl (jy b.has Mh (jA x) rfl bF aS)) (bS hm fun r3 c4 hm => NM rfl rfl (Eg b jo (tm x _ _  c4) (fun W5 b => ?_))))))))))))
 refine V (jM rfl rfl) (Wm (LJ hm (fun T E W => ∃ z u B a0, kf μ0 B ∧ ST true (keys l) w W B ((m, Ol (jA x) 27) :: ((c, Ob #[z] 215) :: (u ++ a0))) ∧ E 0 = (.pointer (some ⟨c, 0, none⟩)) ∧ E 3 = (.pointer (some ⟨m, 0, none⟩)) ∧ E 4 = (.bool false) ∧ E 16 = (.bool T.1) ∧ jX 5 (kN .u8) 1 z T.2 u) 5 ?_ (fun T t K => ?_)))
 ·rintro ⟨e6, c5⟩ E W ⟨z, u, B, a0, d2, b, c0, c1, a3, c2, N⟩ s
  refine Wh c2 (LJ s (fun Q E W => ∃ M I U a2, kf B U ∧ ST true (keys l) w W U ((c, Ob #[M] 215) :: (I ++ a2)) ∧ E 4 = (.bool false) ∧ E 22 = (.bool Q.1) ∧ jX 5 (kN .u8) 1 M Q.2 I) 5 ?_ (fun Q k J => ?_))
  ·rintro ⟨c6, e1⟩ E W ⟨M, I, U, a2, d3, b, e0, c3, O⟩ A
   refine Wg c3 (lt ?_)
   obtain rfl := sj A
   exact kO (v := (.bool c6)) rfl rfl ⟨_, _, rfl, (b.mc (Kb (Kr Sn))), M, I, rfl, rfl, O⟩
  refine bC k (fun g k => ?_) (fun g k => ?_)
  ·refine ug g (jC c0) (ug g (jz tO c1) (ug g (jv rfl (jK b.has Mh rfl bT)) (bS k fun e2 L k => ?_)))
   refine rB g (eM b (Cb (Pb Pz) (Cr (Qb Qz) Cn)) call213 (fun h _ => (yj c z c5 u x.Word _ _ h N L)) ?_)
   rintro _ e4 d0 d6 b Y n d ⟨c8, b6, G, rfl, P⟩
   obtain rfl := G.symm
   replace b := b.perm (Tb (Tr Tn))
   refine V (jM (cB g) rfl) ?_
   obtain rfl := sj k
   exact J _ _ ⟨c8, b6, d0, _, Y, (b.ju (Kb (Kr (Db St)))), a3, rfl, P⟩
  refine un g (un g (un g (un g (V (jO (cB g) rfl) ?_))))
  obtain rfl := sj k
  exact J _ _ ⟨z, u, B, _, (kf.refl _), (b.ju (Db St)), a3, rfl, N⟩
 refine bC t (fun j t => ?_) (fun j t => ?_)
 ·refine ug j (jC rfl) (ug j (jz oR rfl) (ug j (jv rfl (jK b.has Mh rfl bT)) (bS t fun e3 a9 t => ?_)))
  refine rB j (eM b (Cb (Pb Pz) (Cr (Qb Qz) Cn)) call213 (fun h _ => (yj c i D a x.js _ _ h y a9)) ?_)
  rintro _ e5 d1 d7 b Z p d ⟨c9, b7, H, rfl, R⟩
  obtain rfl := H.symm
  replace b := b.perm (Tb (Tr Tn))
  refine V (jM (cB j) rfl) ?_
  obtain rfl := sj t
  exact K _ _ ⟨c9, b7, d1, _, Z, (b.ju (Sb (Pb (Pr Pz)) St)), rfl, rfl, rfl, rfl, R⟩
 refine un j (un j (un j (un j (V (jO (cB j) rfl) ?_))))
 obtain rfl := sj t
 exact K _ _ ⟨i, a, μ0, _, (kf.refl _), (b.ju St), rfl, rfl, rfl, rfl, y⟩
theorem Dn (A : (List Int) → Formula → Option (List Int)) (f2 : ∀ (a : Nat) (k : Value) (B : List Int) (g : LO) (j : Formula) (u : Value) (r : List Int) (w : World) {μ0 : kk} (h0 : nz μ0 ((a, Ob #[k] 215) :: (g ++ [])) w) (T : jX 5 (kN .u8) 1 k B g) (t : Sl jt 5 μ0 u j.Kids), A B j = some r → lH false pg0 390 [(.pointer (some ⟨a, 0, none⟩)), (.agg #[(.int .i64 j.Op), (.int .i64 j.K), (.string j.jq.js), (.string j.jq.Word), u])] w ((a, Ob #[k] 215) :: (g ++ [])) (fun v L1 W' => ∃ m S2, v = (.tuple #[]) ∧ L1 = ((a, Ob #[m] 215) :: (S2 ++ [])) ∧ jX 5 (kN .u8) 1 m r S2)) (a : Nat) (k : Value) (B : List Int) (g : LO) (j : Formula) (u : Value) (r : List Int) (w : World) {μ0 : kk} (h0 : nz μ0 ((a, Ob #[k] 215) :: (g ++ [])) w) (T : jX 5 (kN .u8) 1 k B g) (t : Sl jt 5 μ0 u j.Kids) (hm : vh A B j = some r) :
  lH false pg0 390 [(.pointer (some ⟨a, 0, none⟩)), (.agg #[(.int .i64 j.Op), (.int .i64 j.K), (.string j.jq.js), (.string j.jq.Word), u])] w ((a, Ob #[k] 215) :: (g ++ [])) (fun v L1 W' => ∃ m S2, v = (.tuple #[]) ∧ L1 = ((a, Ob #[m] 215) :: (S2 ++ [])) ∧ jX 5 (kN .u8) 1 m r S2) := by
 let b0 := ((a, Ob #[k] 215) :: (g ++ []))
 refine Ab h0 40 func390 rfl (fun b => sg ?_)
 obtain ⟨A1, c2, rfl⟩ := t.form
 refine VE (kj b rfl (fun W4 b3 b => lr (Wm (Wf mZ (VB b Mh rfl rfl bX (bS hm fun r5 g8 hm => ?_))))))
 refine VE (eM b (Cb (Pb Pz) (Cr (Qb Qz) Cn)) call170 (fun l _ => lH.lz (qU a k B g j.Op _ _ l T g8)) ?_)
 rintro _ j8 n j0 b e9 ae d ⟨L, a9, a2, rfl, a5⟩
 obtain rfl := a2.symm
 replace b := b.perm (Tb (Tr Tn))
 refine lS (Wf mZ (VB b (Mt (Ma Mh)) rfl rfl bX (Wi rfl (ln (CI hm rfl (fun e8 hm => ?_) (fun e8 hm => ?_))))))
 ·refine sg (Wm (Wf tb (VA b (Mt (Ma Mh)) (jA j.jq) bF aS (bS hm fun j7 f0 hm => ?_))))
  refine VE (eM b (Cb Pz (Cr Qz Cn)) call212 (fun l _ => lH.lz (uM a L r5.2 a9 j.jq _ _ l a5 f0)) ?_)
  rintro _ j9 k1 j3 b h6 af d ⟨h3, g2, a3, rfl, f4⟩
  obtain rfl := a3.symm
  replace b := b.perm (Tb (Tr Tn))
  refine ln ?_
  replace b := b.ju (Kb (Kr (Db St)))
  refine jZ (km ?_)
  obtain rfl := sj hm
  exact ob rfl ⟨_, _, rfl, (b.mc (Kb (Kr Sn))), h3, g2, rfl, rfl, f4⟩
 refine kn (jI (CJ hm (fun b5 E W => ∃ q p O d6, kf n O ∧ ST false (keys b0) w W O ((a, Ob #[q] 215) :: ((b3, Ol (C1 j.Op j.K j.jq.js j.jq.Word A1 j.Kids.length c2) 30) :: (p ++ d6))) ∧ E 0 = (.pointer (some ⟨a, 0, none⟩)) ∧ E 3 = (.pointer (some ⟨b3, 0, none⟩)) ∧ jX 5 (kN .u8) 1 q b5 p) (fun b5 y => ?_) ?_))
 ·refine sg (Wf mZ (VB b (Mt (Ma Mh)) rfl rfl bX (Wi rfl (ln (CI y rfl (fun c4 y => ?_) (fun c4 y => ?_))))))
  ·refine jG (Wm (Wf qX (VB b (Mt (Ma Mh)) rfl rfl bX (bS y fun i6 d0 y => ?_))))
   refine VE (eM b (Cb Pz (Cr Qz Cn)) call170 (fun l _ => lH.lz (qU a L r5.2 a9 j.K _ _ l a5 d0)) ?_)
   rintro _ i9 g1 h9 b b2 ab d ⟨f9, e3, N, rfl, d5⟩
   obtain rfl := N.symm
   replace b := b.perm (Tb (Tr Tn))
   refine ln ?_
   obtain rfl := sj y
   exact ⟨f9, e3, g1, _, b2, (b.ju (Kb (Sb (Pr Pz) St))), rfl, rfl, d5⟩
  refine kn ?_
  obtain rfl := sj y
  exact ⟨L, a9, n, _, (kf.refl _), (b.ju (Kb (Sb (Pr Pz) St))), rfl, rfl, a5⟩
 rintro g9 E W ⟨q, p, O, d6, c6, b, d7, d8, f3⟩ a0
 refine sg (Wh d7 (V (jz ng d8) (VB b (Mt Mh) rfl rfl dI (V (kJ aD rfl t) (bS a0 fun h2 f1 a0 => ?_)))))
 refine VE (eM b (Cb Pz (Cr (Qb Qz) Cn)) call170 (fun l _ => lH.lz (qU a q g9 p (j.Kids.length : Int) _ _ l f3 f1)) ?_)
 rintro _ k0 d9 j4 b c7 ag d ⟨h4, g3, a4, rfl, f5⟩
 obtain rfl := a4.symm
 replace b := b.perm (Tb (Tr Tn))
 refine lr (V (jz ng d8) (VB b (Mt (Ma Mh)) rfl rfl dI (V (kJ aD rfl t) (Wm (ln ?_)))))
 replace b := b.ju (Kb (Kr (Db St)))
 refine rb (ku (fun i E W => ∃ D H z Q U, (E 32 = .int .i64 (i : Nat) ∧ E 31 = .int .i64 (j.Kids.length : Nat)) ∧ kf d9 Q ∧ ST false (keys b0) w W Q ((a, Ob #[D] 215) :: (z ++ U)) ∧ E 0 = (.pointer (some ⟨a, 0, none⟩)) ∧ E 30 = (.slice A1 j.Kids.length c2) ∧ jX 5 (kN .u8) 1 D H z ∧ pW A (j.Kids.drop i) H = some r) j.Kids.length t.len ⟨h4, h2.2, g3, d9, _, ⟨rfl, rfl⟩, (kf.refl _), (b.ju St), d7, rfl, f5, a0⟩ dc dc dc (fun _ _ _ h => by obtain ⟨_, _, _, _, _, R, _⟩ := h; exact R) ?_ ?_)
 ·rintro f6 E W c5 ⟨D, H, z, Q, U, ⟨P, eN⟩, G, b, Y, Z, K, x⟩
  obtain ⟨c, h7, d2, d1, d3⟩ := kc c5
  rw [d2] at x
  refine bg (VQ (lF (i := (f6 : Int)) (x0 := c) jt.out aD aC Z P (t.mono jD.mono (((e9.trans c6).trans c7).trans G)) (aG _) d1) (fun i5 ⟨_, ⟨i7, rfl, a7⟩, c8⟩ => V (jv rfl (jQ b.has c8 aK aC)) (VE (kh b aP (fun i0 i4 b => ?_)))))
  obtain ⟨I, J, rfl⟩ := a7.form
  let s := (C1 c.Op c.K c.jq.js c.jq.Word I c.Kids.length J)
  refine VO (jL (.agg s.toArray) (s.toArray) b rfl rfl aC oc nb rfl (fun i1 b => ln (jG (Wh Y (VA b Mh s aK aC (bS x fun f7 c9 x => ?_))))))
  refine VE (eM b (Cb (Pb Pz) (Cr (Qb Qz) Cn)) call390 (fun l ad => (f2 a D H z c (.slice I c.Kids.length J) _ _ l K (a7.mono jD.mono ad) c9)) ?_)
  rintro _ i8 g0 h8 b b1 aa d ⟨f8, e2, M, rfl, d4⟩
  obtain rfl := M.symm
  replace b := b.perm (Tb (Tr Tn))
  refine jU (ke (jE ?_))
  replace b := b.ju (Kb (Kr (Db St)))
  exact ⟨P, f8, f7, e2, g0, _, ⟨rfl, eN⟩, (G.trans b1), (b.ju St), Y, Z, d4, (by rw [d3]; exact x)⟩
 rintro E W ⟨D, H, z, Q, U, ⟨P, eN⟩, G, b, Y, Z, K, x⟩
 rw [aH] at x
 refine jE (pd ?_)
 obtain rfl := sj x
 exact ob rfl ⟨_, _, rfl, (b.mc (Kb (Kr Sn))), D, z, rfl, rfl, K⟩
theorem BC : ∀ (n : Nat) (i : Nat) (g : Value) (k : List Int) (c : LO) (j : Formula) (a : Value) (r : List Int) (w : World) {z : kk} (D : nz z ((i, Ob #[g] 215) :: (c ++ [])) w) (x : jX 5 (kN .u8) 1 g k c) (t : Sl jt 5 z a j.Kids) (_ : pn n k j = some r),
  lH false pg0 390 [(.pointer (some ⟨i, 0, none⟩)), (.agg #[(.int .i64 j.Op), (.int .i64 j.K), (.string j.jq.js), (.string j.jq.Word), a])] w ((i, Ob #[g] 215) :: (c ++ [])) (fun v B W' => ∃ y u, v = (.tuple #[]) ∧ B = ((i, Ob #[y] 215) :: (u ++ [])) ∧ jX 5 (kN .u8) 1 y r u)
 | 0 => by intros; rename_i h; simp only [pn] at h; cases h
 | n + 1 => Dn (pn n) (BC n)
theorem Gu (k : Nat) (i : Value) (u : List Int) (c : LO) (a : Formula) (j : Value) (r : (Bool × (List Int))) (w : World) {Q : kk} (Y : nz Q ((k, Ob #[i] 215) :: (c ++ [])) w) (t : jX 5 (kN .u8) 1 i u c) (g : Sl jt 5 Q j a.Kids) (hm : vO u a = some r) :
  lH false pg0 385 [(.pointer (some ⟨k, 0, none⟩)), (.agg #[(.int .i64 a.Op), (.int .i64 a.K), (.string a.jq.js), (.string a.jq.Word), j])] w ((k, Ob #[i] 215) :: (c ++ [])) (fun v U W' => ∃ M I, v = (.bool (r.1)) ∧ U = ((k, Ob #[M] 215) :: (I ++ [])) ∧ jX 5 (kN .u8) 1 M r.2 I) := by
 refine Ab Y 15 func385 rfl (fun b => sg ?_)
 obtain ⟨y, z, rfl⟩ := g.form
 let B := (C1 a.Op a.K a.jq.js a.jq.Word y a.Kids.length z)
 refine VE (kj b rfl (fun W4 n b => Wa (lS (Wm (V (ua fT rfl rfl) (Wm (Vg rfl rfl (jv rfl (jy b.has Mh B rfl aK aC)) (bS hm fun p K hm => NM rfl rfl (Eg b call129 (vK a (.slice y a.Kids.length z) _ _ (g.mono jD.mono b.jB) K) (fun W7 b => Vg rfl rfl (nj rfl) (V (jO rfl rfl) ?_)))))))))))
 refine ln (CI hm rfl (fun J hm => ?_) (fun J hm => ?_))
 ·refine sg (Wa (ln ?_))
  replace b := b.ju (Db St)
  refine jZ (km ?_)
  obtain rfl := sj hm
  exact kO (v := (.bool false)) rfl rfl ⟨_, _, rfl, (b.mc (Kb (Kr Sn))), i, c, rfl, rfl, t⟩
 refine kg (Wm (VA b Mh B aK aC (bS hm fun q D hm => ?_)))
 refine VE (eM b (Cb (Pb Pz) (Cr (Qb Qz) Cn)) call390 (fun m h => ((BC jY) k i u c a (.slice y a.Kids.length z) _ _ m t (g.mono jD.mono h) D)) ?_)
 rintro _ a2 a3 Z b T l d ⟨N, H, x, rfl, G⟩
 obtain rfl := x.symm
 replace b := b.perm (Tb (Tr Tn))
 refine ln ?_
 replace b := b.ju (Kb (Kr (Db St)))
 refine sg (Wa (lt ?_))
 obtain rfl := sj hm
 exact kO (v := (.bool true)) rfl rfl ⟨_, _, rfl, (b.mc (Kb (Kr Sn))), N, H, rfl, rfl, G⟩
theorem Iw (g : Value) (i r : List Int) (w : World) (a : Sl (Pl (kN .u8)) 1 (hp w) g i) (hm : tN i = some r) :
  kY true pg0 234 [g] w 5 (kN .u8) 1 r := by
 unfold tN at hm
 refine sP 8 func234 rfl (fun b => sg (Wa (lS (Wm ?_))))
 obtain ⟨y, B, rfl⟩ := a.form
 refine V (Bk cU rfl rfl) (ln ?_)
 rcases y with _ | z
 ·have u := a.isNil
  replace hm : some [] = some r := by rw [u] at hm; simpa [lX, maxLen] using hm
  refine wy (rfl) (sg (Wa (lt (km ?_))))
  obtain rfl := sj hm
  exact kO (v := (.slice none 0 0)) rfl rfl ⟨_, [], rfl, b.mC (fun p d => by cases d) (by simp), jX.nil _ _ _⟩
 ·refine ql (rfl) (kg (VE (jW (cs := #[]) b qa (ye [] cU sizeOf5 jb dc rfl (by simp) rfl rfl) (fun G k b => Wm (bS hm fun H t hm => VE (mz (enc := (kN .u8)) (v := (.slice (some ⟨k, 0, none⟩) 0 0)) (vs := (.slice (some z) i.length B)) (R := [(k, Ob #[] 5)]) b (fun _ => rfl) dc (EK _) cU uv.1 uv.2.1 rfl uv.2.2.1 uv.2.2.2 rfl rfl (jX.lit (l := []) (enc := (kN .u8)) rfl dc rfl rfl) (a.mono (Pl.mono _) b.jB) t (fun D x j b c => Wa (lt ?_))))))))
  obtain rfl := sj hm
  exact kO (v := x) rfl rfl ⟨_, j, rfl, b.mC (fun p d => (Ml d)) c.nd, c⟩
theorem AP (g : Nat) (a : Value) (c r : List Int) (w : World) (j : Sl (Pl (kN .u8)) 1 (hp w) a c) (k : At (hp w) (.pointer (some ⟨g, 0, none⟩)) [a]) (hm : tg c = some r) :
  kY true pg0 173 [(.pointer (some ⟨g, 0, none⟩))] w 5 (kN .u8) 1 r := by
 refine sP 10 func173 rfl (fun b => sg (Wa (lS (Wm (V (ua fT rfl rfl) (ln (ql rfl (kG ?_))))))))
 refine jE (sg (Wm (Wn (VQ (wu [a] yT rfl k rfl) (fun G u => V (jv rfl (oE b.has (y := a) u iJ)) (bS hm fun H x hm => VE (oW b call234 (Iw a c _ _ (j.mono (Pl.mono _) b.jB) x) (fun D z I t b B d i => Wa (lt ?_)))))))))
 obtain rfl := sj hm
 exact kO (v := z) rfl rfl ⟨_, t, rfl, b.mC (fun p h => (Ml h)) i.nd, i⟩
theorem Ad (a : Formula) (g : Value) (r : List Int) (w : World) (c : Sl jt 5 (hp w) g a.Kids) (hm : sD a = some r) :
  kY false pg0 376 [(.agg #[(.int .i64 a.Op), (.int .i64 a.K), (.string a.jq.js), (.string a.jq.Word), g])] w 5 (kN .u8) 1 r := by
 refine sP 11 func376 rfl (fun d => sg ?_)
 obtain ⟨k, t, rfl⟩ := c.form
 refine VE (kj d rfl (fun W4 u d => Wa (lr (V (lC (v := (.agg #[(.slice none 0 0)])) qa (kI zeroValue215 fS (Pg _ fS) kr)) (VE (kj d rfl (fun W6 B d => Wa (lr (Wm (VA d (Mt Mh) (C1 a.Op a.K a.jq.js a.jq.Word k a.Kids.length t) aK aC ?_))))))))))
 refine bS hm fun K D hm => ?_
 refine VE (eM d (Cb Pz (C0 Cn)) call385 (fun s m => (Gu B (.slice none 0 0) ([]) [] a (.slice k a.Kids.length t) _ _ s (jX.nil _ _ _) (c.mono jD.mono m) D)) ?_)
 rintro _ U Y M d I n h ⟨H, N, i, rfl, y⟩
 obtain rfl := i.symm
 replace d := d.perm (Tb (Tr Tn))
 refine ln ?_
 replace d := d.ju (Kb (Kr (Db St)))
 refine sg (Wm (bS hm fun T x hm => VE (oW d call173 (kY.lz (AP B H K.2 _ _ (y.sl (fun _ => rfl) (fun b o l => d.at_ (Mt (Ml l)))) (At.of (d.at_ Mh) _ rfl) x)) (fun Q G Z z d J q j => Wa (ln ?_)))))
 replace d := d.ju (Kr (Db (Dr St)))
 refine jZ ?_
 obtain rfl := sj hm
 exact kO (v := G) rfl rfl ⟨_, z, rfl, d.mC (fun p l => (Ml l)) j.nd, j⟩
theorem RE (w : World) {d g : Value} {a b : List Int} (h1 : Sl (Pl (kN .u8)) 1 (hp w) d a) (h : Sl (Pl (kN .u8)) 1 (hp w) g b) : (callFunc 211 [d, g].toArray).run pg0 w = .ok (.value (.int .i64 (xU a b))) w := OK func211 (by kernel_rfl) (by kernel_rfl) (by kernel_rfl) (by kernel_rfl) h1 h
theorem Bs (a : Value) (g : List Int) (c : Value) (i : List Int) (r : Int) (w : World) (j : Sl (Pl (kN .u8)) 1 (hp w) a g) (k : Sl (Pl (kN .u8)) 1 (hp w) c i) (hm : vT g i = some r) :
  jT true pg0 151 [a, c] w (.int .i64 r) := by
 exact cG 8 func151 rfl (fun b => sg (Wa (lr (Wm (Wm (VE (IK (args := [a, c]) (v := .int .i64 (xU g i)) rfl (by exact wP rfl rfl) (RE _ (j.mono (Pl.mono _) b.jB) (k.mono (Pl.mono _) b.jB)) (Wa (lt (rQ hm b))))))))))
theorem E4 (a : Formula) (j : Value) (c : Formula) (k : Value) (r : Int) (w : World) (g : Sl jt 5 (hp w) j a.Kids) (i : Sl jt 5 (hp w) k c.Kids) (hm : sv a c = some r) :
  jT false pg0 353 [(.agg #[(.int .i64 a.Op), (.int .i64 a.K), (.string a.jq.js), (.string a.jq.Word), j]), (.agg #[(.int .i64 c.Op), (.int .i64 c.K), (.string c.jq.js), (.string c.jq.Word), k])] w (.int .i64 r) := by
 refine cG 10 func353 rfl (fun d => sg ?_)
 obtain ⟨x, z, rfl⟩ := g.form
 refine VE (kj d rfl (fun W4 q d => ?_))
 obtain ⟨y, B, rfl⟩ := i.form
 refine VE (kj d rfl (fun W8 s d => Wa (ln (jI ?_))))
 replace d := d.drew
 have h := d.has.ju (Kb (Kb Sn))
 refine ky h kd (XH 0 rfl h (fun _ l => jv rfl (jy l (Mt Mh) (C1 a.Op a.K a.jq.js a.jq.Word x a.Kids.length z) rfl aK aC)) (XH 2 rfl h (fun _ l => jv rfl (jy l Mh (C1 c.Op c.K c.jq.js c.jq.Word y c.Kids.length B) rfl aK aC)) (bS hm fun K H hm => XE 1 rfl (oW d call376 (Ad a (.slice x a.Kids.length z) _ _ (g.mono jD.mono d.jB) H) (fun Y N a4 T d t n D => ?_)))))
 have h := d.has.ox t (Dr (Kb (Kb Sn)))
 refine ⟨h, (bS hm fun M I hm => XE 3 rfl (oW d call376 (Ad c (.slice y c.Kids.length B) _ _ (i.mono jD.mono (t.trans d.jB)) I) (fun Z Q a5 U d u p G => ?_)))⟩
 have h := d.has.ox (t.trans u) (Dr (Dr (Kb (Kb Sn))))
 refine ⟨h, (bS hm fun a3 J hm => XE 4 rfl (Eg d call151 (jT.lz (Bs N K Q M _ _ (D.sl (fun _ => rfl) (fun b o m => d.at_ (Ma (Ml m)))) (G.sl (fun _ => rfl) (fun b o m => d.at_ (Ml m))) J)) (fun a2 d => ?_)))⟩
 have h := d.has.ox (t.trans u) (Dr (Dr (Kb (Kb Sn))))
 refine ⟨h, (X 5 rfl h (lO rfl) (kM kr (jE ?_)))⟩
 exact jZ (rQ hm d)
theorem Cm (g : Value) (k r : List Formula) (w : World) {G : kk} (Y : nz G [] w) (u : Sl jt 5 G g k) (hm : uI k = some r) :
  lP false pg0 299 [g] w G [] (fun v U μ1 => ∃ T I, v = T ∧ U = (I ++ []) ∧ kE 30 jt 5 μ1 T r I) := by
 refine uo Y 9 func299 rfl (fun b => sg (Wa (lr (Wm (bS hm fun Z Q hm => ?_)))))
 refine VE (eD b (bW _) call351 (fun h => lP.lz (BP g k _ _ h (u.mono jD.mono (kf.refl _)) Q)) ?_ (L0 := []))
 rintro _ v7 s L9 b y l ⟨i, H, a, rfl, B⟩
 obtain rfl := a.symm
 replace b := b.perm (Tr Tn)
 refine Wa (lr (Wm (bS hm fun a5 z hm => ?_)))
 refine VE (eD b (Cr Qz Cn) call352 (fun h => (yf i Z H (.func (.func 353) #[] #[]) (fun (x : (Formula × Formula)) => sv x.1 x.2) _ _ h B ⟨353, #[], #[], rfl, call353, fun W x vs r E m hm => by obtain ⟨_, _, rfl, M, N⟩ := m; obtain ⟨q, rfl, p⟩ := M.out; obtain ⟨t0, rfl, n⟩ := N.out; exact E4 x.1 q x.2 t0 r W p n hm⟩ z)) ?_)
 rintro _ t A a3 b j d ⟨J, c, rfl, D⟩
 obtain rfl := c.symm
 replace b := b.perm (Tr Tn)
 refine lr (Wm (Wa (lt ?_)))
 obtain rfl := sj hm
 exact kO (v := i) rfl rfl ⟨_, _, _, rfl, (b.mc (Kr Sn)), (y.trans j), (l.trans d), (ST.kL b (mA.mem (Kr Sn))), i, J, rfl, rfl, D⟩
theorem zc (g : Value) (a0 : List Formula) (x : LO) (Z : Value) (f1 : (Formula × Formula) → Option Bool) (r : List Formula) (w : World) {μ0 : kk} (h0 : nz μ0 (x ++ []) w) (B : kE 30 jt 5 μ0 g a0 x) (d2 : xj pg0 Z μ0 (ve jt jt) (fun (r : Bool) => (.bool r)) f1) (hm : oZ a0 f1 = some r) :
  lP false pg0 302 [g, Z] w μ0 (x ++ []) (fun v L1 μ1 => ∃ y1, v = y1 ∧ L1 = [] ∧ Sl jt 5 μ1 y1 (r)) := by
 refine uo h0 66 func302 rfl (fun d => sg (Wa (lS (Wm (V (rS aD rfl B) (Wi rfl (ln (CI hm rfl (fun i3 hm => ?_) (fun i3 hm => ?_)))))))))
 ·refine sg (Wm (Wa (lt (km ?_))))
  obtain rfl := sj hm
  refine kO (v := g) rfl rfl ?_
  obtain ⟨a1, d, i2, A, j0⟩ := ST.tD jD d B
  exact ⟨_, _, _, rfl, (d.mc Sn), i2, A, (ST.kL d (mA.mem Sn)), g, rfl, rfl, j0⟩
 refine kS (Wa (ln (lA (nc (fun m E W => ∃ t b7, ST false (keys (x ++ [])) w W μ0 (x ++ b7) ∧ E 0 = g ∧ E 1 = Z ∧ E 5 = (.int .i64 t) ∧ mE a0 f1 m t = some r) jY ⟨1, _, (d.ju St), rfl, rfl, rfl, hm⟩ ?_))))
 rintro m E W ⟨t, b7, d, y, a3, G, a⟩
 cases m with
 | zero => rw [mE] at a; cases a
 | succ h1 =>
  refine jI (sg (Wh G (Wh y (V (rS aD rfl B) (Wi rfl (ln (CI a rfl (fun d3 a => ?_) (fun d3 a => ?_))))))))
  ·refine kn (jI (lA (jI ?_)))
   replace d := d.drew
   have h := d.has.ju (Kr Sn)
   refine ky h kd (X 0 rfl h (jC a3) (X 1 rfl h (jC y) (X 2 rfl h (jC G) (bS a fun h7 b2 a => XQ 3 rfl h (li (i := t) jt.out aD aC rfl rfl B (kl b2) (ki b2)) (fun k1 ⟨_, ⟨h3, rfl, e7⟩, e0, i4⟩ => XH 4 rfl h (fun _ q => jv rfl (jQ (nn.hp _) (e0.mono (lI (fun b o p => q.2 b o (Ml p)))) aK aC)) (X 5 rfl h (jC y) (X 6 rfl h (jC G) (X 7 rfl h (kv rfl rfl rfl) (bS a fun h8 b3 a => XQ 8 rfl h (li (i := (wi0 .i64 (t - 1))) jt.out aD aC rfl rfl B (kl b3) (ki b3)) (fun k2 ⟨_, ⟨h4, rfl, e8⟩, e1, i5⟩ => XH 9 rfl h (fun _ q => jv rfl (jQ (nn.hp _) (e1.mono (lI (fun b o p => q.2 b o (Ml p)))) aK aC)) (bS a fun k7 e5 a => XE 10 rfl (yr (h7, h8) d d2 (kf.refl _) (ve.mk jD jD (jt.mk ⟨h3, rfl, e7⟩) (jt.mk ⟨h4, rfl, e8⟩) d.jB) rfl (wP rfl rfl) e5 (fun j6 d => ?_)))))))))))))
   have h := d.has.ju (Kr Sn)
   refine ⟨h, (kM kr (jE (CI a rfl (fun d4 a => ?_) (fun d4 a => ?_))))⟩
   ·refine sg (Wh y (Wh G (bS a fun _ L a => VQ (AN (i := t) aD aC rfl rfl B (uw L) (uu L)) (fun c4 K => Wa (lS (Wa (ln ?_)))))))
    refine CJ a (fun T E W => ∃ a2 b9, ST false (keys (x ++ [])) w W μ0 (a2 ++ b9) ∧ E 0 = g ∧ E 5 = (.int .i64 T.2) ∧ kE 30 jt 5 μ0 g T.1 a2) (fun T d8 => ?_) ?_
    ·refine lA (nc (fun m E W => ∃ a5 J U u c0, ST false (keys (x ++ [])) w W μ0 (J ++ c0) ∧ E 0 = g ∧ E 1 = Z ∧ E 5 = (.int .i64 U) ∧ E 6 = c4 ∧ E 7 = (.int .i64 u) ∧ kE 30 jt 5 μ0 g a5 J ∧ mG t f1 m a5 U u = some T) jY ⟨a0, x, t, 1, _, (d.ju St), y, a3, G, rfl, rfl, B, d8⟩ ?_)
     rintro m E W ⟨a5, J, U, u, c0, d, N, a4, Q, H, I, k, j⟩
     cases m with
     | zero => rw [mG] at j; cases j
     | succ h2 =>
      refine jI (sg (Wh I (Wh H (V (LV aD rfl K k) (Wi rfl (ln (CI j rfl (fun d5 j => ?_) (fun d5 j => ?_))))))))
      ·refine kn (jI (CJ j (fun s E W => ∃ M c1, ST false (keys (x ++ [])) w W μ0 (M ++ c1) ∧ E 0 = g ∧ E 1 = Z ∧ E 5 = (.int .i64 s.2) ∧ E 6 = c4 ∧ E 7 = (.int .i64 u) ∧ kE 30 jt 5 μ0 g s.1 M) (fun s c => ?_) ?_))
       ·refine lA (jI ?_)
        replace d := d.drew
        have h := d.has.ju (Kr Sn)
        refine ky h kd (X 0 rfl h (jC a4) (X 1 rfl h (jC H) (X 2 rfl h (jC I) (bS c fun i0 b4 c => XQ 3 rfl h (AX (i := u) jt.out aD aC rfl rfl k K (kl b4) (ki b4)) (fun k3 ⟨_, ⟨h5, rfl, f4⟩, e2, i6⟩ => XH 4 rfl h (fun _ q => jv rfl (jQ (nn.hp _) (e2.mono (lI (fun b o p => q.2 b o (Ml p)))) aK aC)) (X 5 rfl h (jC H) (X 6 rfl h (jC I) (X 7 rfl h (kv rfl rfl rfl) (bS c fun i1 b5 c => XQ 8 rfl h (AX (i := (wi0 .i64 (u - 1))) jt.out aD aC rfl rfl k K (kl b5) (ki b5)) (fun k4 ⟨_, ⟨h6, rfl, f5⟩, e3, i7⟩ => XH 9 rfl h (fun _ q => jv rfl (jQ (nn.hp _) (e3.mono (lI (fun b o p => q.2 b o (Ml p)))) aK aC)) (bS c fun k8 e6 c => XE 10 rfl (yr (i0, i1) d d2 (kf.refl _) (ve.mk jD jD (jt.mk ⟨h5, rfl, f4⟩) (jt.mk ⟨h6, rfl, f5⟩) d.jB) rfl (wP rfl rfl) e6 (fun j8 d => ?_)))))))))))))
        have h := d.has.ju (Kr Sn)
        refine ⟨h, (X 11 rfl h (nj rfl) (kM kr (jE (CI c rfl (fun d6 c => ?_) (fun d6 c => ?_)))))⟩
        ·refine sg (Wh N (Wh Q (Wh H (Wh I (bS c fun c7 b6 c => VQ (AX (i := u) jt.out aD aC rfl rfl k K (kl b6) (ki b6)) (fun k5 ⟨_, ⟨l0, rfl, R⟩, e4, i8⟩ => V (jv rfl (jQ (nn.hp _) (e4.mono (lI (fun b o p => d.has.2 b o (Ml p)))) aK aC)) (bS c fun l2 Y c => VQ (li (i := U) jt.out aD aC rfl rfl k (kl Y) (ki Y)) (fun k6 ⟨_, ⟨l1, rfl, j3⟩, i9, d7⟩ => ?_))))))))
         obtain ⟨f7, g0, rfl⟩ := R.form
         refine VO (qm (x1 := c7) jD d k rfl rfl (jt.mk ⟨(.slice f7 c7.Kids.length g0), rfl, R⟩) d7 (ki Y) aC (fun j9 f8 d d1 => ln (jG (Wh Q (Wi rfl (Wa (jU (ke (jE ?_)))))))))
         obtain rfl := sj c
         exact ⟨f8, _, (d.ju St), N, a4, rfl, H, I, d1⟩
        refine kG (ke (jE ?_))
        obtain rfl := sj c
        exact ⟨J, _, (d.ju St), N, a4, Q, H, I, k⟩
       rintro ⟨g9, h9⟩ E W ⟨M, c1, d, g1, g2, g3, g4, g7, f3⟩ d9
       exact jG (Wh g7 (Wi rfl (Wa (ln ⟨h2, bI _, g9, M, h9, (wi0 .i64 (u + 1)), _, (d.ju St), g1, g2, g3, g4, rfl, f3, d9⟩))))
      refine na (mR (mR (qp (jE ?_))))
      obtain rfl := sj j
      exact ⟨J, _, (d.ju St), N, Q, k⟩
    rintro ⟨k0, c6⟩ E W ⟨a2, b9, d, c2, c3, P⟩ D
    refine sg (Wh c2 (Wh c3 (bS D fun _ O D => VQ (AN (i := c6) aD aC rfl rfl P (uw O) (uu O)) (fun k9 e9 => VO (DQ (z := (⟨0, 0, K0, []⟩ : Formula)) (zs := C4) jD d P (jt.mk ⟨(.slice none 0 0), rfl, (Sl.nil _ _ _)⟩) aD aP e9 rfl rfl (fun j7 j5 d d0 => lr (Wh c2 (Wh c3 (bS D fun _ a9 D => VQ (CY (i := c6) aD aC rfl rfl d0 (uw a9) (uu a9)) (fun c5 f0 => ?_))))))))))
    refine Wa (lt (mn (km (km (mn (km ?_))))))
    obtain rfl := sj D
    refine kO (v := c5) rfl rfl ?_
    obtain ⟨l3, d, c8, l, f2⟩ := ST.tD jD d f0
    exact ⟨_, _, _, rfl, (d.mc Sn), c8, l, (ST.kL d (mA.mem Sn)), c5, rfl, rfl, f2⟩
   exact kG (ke (jE (jG (Wh G (Wi rfl (Wa (ln ⟨h1, bI _, (wi0 .i64 (t + 1)), _, (d.ju St), y, a3, rfl, a⟩)))))))
  refine na (mR (mR (qp (jE (sg (Wh y (Wa (lt ?_))))))))
  obtain rfl := sj a
  refine kO (v := g) rfl rfl ?_
  obtain ⟨l4, d, c9, n, f6⟩ := ST.tD jD d B
  exact ⟨_, _, _, rfl, (d.mc Sn), c9, n, (ST.kL d (mA.mem Sn)), g, rfl, rfl, f6⟩
theorem qk (G : Value) (N : List Formula) (H : Value) (l : List Formula) (I : Value) (f2 : (Formula × Formula) → Option Bool) (r : Bool) (w : World) (x : Sl jt 5 (hp w) G N) (Q : Sl jt 5 (hp w) H l) (p : xj pg0 I (hp w) (ve jt jt) (fun (r : Bool) => (.bool r)) f2) (hm : mF N l f2 = some r) :
  jT false pg0 136 [G, H, I] w (.bool r) := by
 refine cG 32 func136 rfl (fun b => sg (Wa (lS (Wm (V (kJ aD rfl x) (Wm (V (kJ aD rfl Q) (Wi rfl (jU ?_)))))))))
 refine jE (CI hm rfl (fun s hm => ?_) (fun s hm => ?_))
 ·refine sg (Wa (lt (km ?_)))
  obtain rfl := sj hm
  exact rP b
 refine kS (Wm (V (kJ aD rfl x) (Wm (ln (ku (fun i E W => ∃ y, (E 17 = .int .i64 (i : Nat) ∧ E 16 = .int .i64 (N.length : Nat)) ∧ ST false kp w W (hp w) y ∧ E 1 = H ∧ E 2 = I ∧ E 15 = G ∧ kT l f2 (N.drop i) i = some r) N.length x.len ⟨_, ⟨rfl, rfl⟩, (b.ju St), rfl, rfl, rfl, hm⟩ dc dc dc (fun _ _ _ h => by obtain ⟨_, m, _⟩ := h; exact m) ?_ ?_)))))
 ·rintro a4 E W U ⟨y, ⟨d, n⟩, b, z, B, D, a⟩
  obtain ⟨g, c5, a9, q, a3⟩ := kc U
  rw [a9] at a
  refine bg (Wh d (VQ (lF (i := (a4 : Int)) (x0 := g) jt.out aD aC D d x (aG _) q) (fun b9 ⟨_, ⟨c2, rfl, J⟩, Y⟩ => V (jv rfl (jQ b.has Y aK aC)) (VE (kh b aP (fun v R b => Wa ?_))))))
  obtain ⟨j, t, rfl⟩ := J.form
  let a0 := (C1 g.Op g.K g.jq.js g.jq.Word j g.Kids.length t)
  refine VO (jL (.agg a0.toArray) (a0.toArray) b rfl rfl aC oc nb rfl (fun A b => lr (Wh z (Wm (bS a fun c M a => VQ (lF (i := (a4 : Int)) (x0 := c) jt.out aD aC rfl rfl Q (kl M) (ki M)) (fun c0 ⟨_, ⟨c3, rfl, K⟩, Z⟩ => V (jv rfl (jQ b.has Z aK aC)) (VE (kh b aP (fun L b7 b => ?_)))))))))
  obtain ⟨k, u, rfl⟩ := K.form
  let a5 := (C1 c.Op c.K c.jq.js c.jq.Word k c.Kids.length u)
  refine VO (jL (.agg a5.toArray) (a5.toArray) b rfl rfl aC oc nb rfl (fun O b => lr (Wh B (VA b (Mt Mh) a0 aK aC (VA b Mh a5 aK aC (bS a fun c1 a2 a => VE (yr (g, c) b p (kf.refl _) (ve.mk jD jD (jt.mk ⟨(.slice j g.Kids.length t), rfl, J⟩) (jt.mk ⟨(.slice k c.Kids.length u), rfl, K⟩) b.jB) rfl (wP rfl rfl) a2 (fun P b => V (nj rfl) (ln ?_)))))))))
  replace b := b.ju (Db (Db St))
  refine CI a rfl (fun T a => ?_) (fun T a => ?_)
  ·refine sg (Wa (lt (mn (km (mn (km ?_))))))
   obtain rfl := sj a
   exact rP b
  exact kG (ke (jE ⟨d, _, ⟨rfl, n⟩, (b.ju St), z, B, D, (by rw [a3]; exact a)⟩))
 rintro E W ⟨y, ⟨d, n⟩, b, z, B, D, a⟩
 rw [aH] at a
 exact jE (sg (Wa (lt (rQ a b))))
theorem DK (M : Formula → Formula → Option Bool) (v : ∀ (a : Formula) (j : Value) (c : Formula) (k : Value) (r : Bool) (w : World) (u : Sl jt 5 (hp w) j a.Kids) (y : Sl jt 5 (hp w) k c.Kids), M a c = some r → jT false pg0 61 [(.agg #[(.int .i64 a.Op), (.int .i64 a.K), (.string a.jq.js), (.string a.jq.Word), j]), (.agg #[(.int .i64 c.Op), (.int .i64 c.K), (.string c.jq.js), (.string c.jq.Word), k])] w (.bool r)) (a : Formula) (j : Value) (c : Formula) (k : Value) (r : Bool) (w : World) (u : Sl jt 5 (hp w) j a.Kids) (y : Sl jt 5 (hp w) k c.Kids) (hm : vH M a c = some r) :
  jT false pg0 61 [(.agg #[(.int .i64 a.Op), (.int .i64 a.K), (.string a.jq.js), (.string a.jq.Word), j]), (.agg #[(.int .i64 c.Op), (.int .i64 c.K), (.string c.jq.js), (.string c.jq.Word), k])] w (.bool r) := by
 refine cG 31 func61 rfl (fun b => sg ?_)
 obtain ⟨N, Y, rfl⟩ := u.form
 let d := (C1 a.Op a.K a.jq.js a.jq.Word N a.Kids.length Y)
 refine VE (kj b rfl (fun W4 T b => ?_))
 obtain ⟨Q, Z, rfl⟩ := y.form
 let a0 := (C1 c.Op c.K c.jq.js c.jq.Word Q c.Kids.length Z)
 refine VE (kj b rfl (fun W8 U b => Wa (lr (Wf mZ (VB b (Mt Mh) rfl rfl bX (Wf mZ (VB b Mh rfl rfl bX (Wi rfl (Wm (LJ hm (fun a9 E W => ∃ a2, ST false kp w W (hp w) ((U, Ol a0 30) :: ((T, Ol d 30) :: a2)) ∧ E 2 = (.pointer (some ⟨T, 0, none⟩)) ∧ E 3 = (.pointer (some ⟨U, 0, none⟩)) ∧ E 4 = (.bool false) ∧ E 16 = (.bool a9)) 6 ?_ (fun a9 D I => ?_)))))))))))
 ·rintro d1 E W ⟨a2, b, J, K, a5, A⟩ n
  refine Wh A (LJ n (fun m E W => ∃ a3, ST false kp w W (hp w) ((U, Ol a0 30) :: ((T, Ol d 30) :: a3)) ∧ E 2 = (.pointer (some ⟨T, 0, none⟩)) ∧ E 3 = (.pointer (some ⟨U, 0, none⟩)) ∧ E 4 = (.bool false) ∧ E 23 = (.bool m)) 6 ?_ (fun m B H => ?_))
  ·rintro d2 E W ⟨a3, b, L, O, h, c1⟩ p
   refine Wh c1 (LJ p (fun l E W => ∃ a4, ST false kp w W (hp w) a4 ∧ E 4 = (.bool false) ∧ E 30 = (.bool l)) 6 ?_ (fun l z G => ?_))
   ·rintro d3 E W ⟨a4, b, c9, P⟩ q
    exact Wg P (lt (rQ q b))
   refine bC z (fun i z => ?_) (fun i z => ?_)
   ·refine ug i (jz ng L) (ug i (jv rfl (jK b.has (Mt Mh) rfl dI)) (ug i (jz ng O) (ug i (jv rfl (jK b.has Mh rfl dI)) (bS z fun d0 s z => rB i (Eg b call136 (qk (.slice N a.Kids.length Y) a.Kids (.slice Q c.Kids.length Z) c.Kids (.func (.func 61) #[] #[]) (fun (x : (Formula × Formula)) => M x.1 x.2) _ _ (u.mono jD.mono b.jB) (y.mono jD.mono b.jB) ⟨61, #[], #[], rfl, call61, fun W x vs r hs hR hm => by obtain ⟨_, _, rfl, R, c5⟩ := hR; obtain ⟨u0, rfl, k0⟩ := R.out; obtain ⟨t0, rfl, j0⟩ := c5.out; exact v x.1 u0 x.2 t0 r W k0 j0 hm⟩ s) (fun c8 b => V (jM (cB i) rfl) ?_))))))
    obtain rfl := sj z
    exact G _ _ ⟨_, (b.ju (Db (Db St))), h, rfl⟩
   refine un i (un i (un i (un i (un i (V (jO (cB i) rfl) ?_)))))
   obtain rfl := sj z
   exact G _ _ ⟨_, (b.ju (Db (Db St))), h, rfl⟩
  refine bC B (fun g B => ?_) (fun g B => ?_)
  ·refine ug g (jz tb J) (ug g (jv rfl (jy b.has (Mt Mh) (jA a.jq) rfl bF aS)) (ug g (jz tb K) (ug g (jv rfl (jy b.has Mh (jA c.jq) rfl bF aS)) (ug g (uY rfl rfl (nm eb) (ru (pe _ a.jq c.jq))) (V (jM (cB g) rfl) ?_)))))
   obtain rfl := sj B
   exact H _ _ ⟨_, (b.ju St), J, K, a5, rfl⟩
  refine un g (un g (un g (un g (un g (V (jO (cB g) rfl) ?_)))))
  obtain rfl := sj B
  exact H _ _ ⟨_, (b.ju St), J, K, a5, rfl⟩
 refine bC D (fun t D => ?_) (fun t D => ?_)
 ·refine ug t (jz qX rfl) (ug t (jv rfl (jK b.has (Mt Mh) rfl bX)) (ug t (jz qX rfl) (ug t (jv rfl (jK b.has Mh rfl bX)) (ug t (kv rfl rfl rfl) (V (jM (cB t) rfl) ?_)))))
  obtain rfl := sj D
  exact I _ _ ⟨_, (b.ju St), rfl, rfl, rfl, rfl⟩
 refine un t (un t (un t (un t (un t (V (jO (cB t) rfl) ?_)))))
 obtain rfl := sj D
 exact I _ _ ⟨_, (b.ju St), rfl, rfl, rfl, rfl⟩
theorem yZ : ∀ (n : Nat) (g : Formula) (a : Value) (i : Formula) (c : Value) (r : Bool) (w : World) (j : Sl jt 5 (hp w) a g.Kids) (k : Sl jt 5 (hp w) c i.Kids) (_ : nB n g i = some r),
  jT false pg0 61 [(.agg #[(.int .i64 g.Op), (.int .i64 g.K), (.string g.jq.js), (.string g.jq.Word), a]), (.agg #[(.int .i64 i.Op), (.int .i64 i.K), (.string i.jq.js), (.string i.jq.Word), c])] w (.bool r)
 | 0 => by intros; rename_i h; simp only [nB] at h; cases h
 | n + 1 => DK (nB n) (yZ n)
end Go.Proofs.YtjjjihkifgdhgaaGreatDoor
