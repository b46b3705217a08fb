/- a part of a proof of StrandSums -/
import Derived.Test.YtjjjihkifgdhgaaGreatS4Mi
import Derived.Test.YtjjjihkifgdhgaaGreatProg
set_option linter.all false
namespace Go.Proofs.YtjjjihkifgdhgaaGreat
open Go.IntKind renaming wrap → wi0
open Go.Proofs.Tryz renaming prog → pg0
open Go.RowKit
set_option maxRecDepth 10000
open Tryz
def aC := @sizeOf30
def aF := @underlying28
def aJ := @underlying42
def aQ := @sizeOf49
def aT := @sizeOf27
def bB := @isAgg30
def bG := @zeroValue30
def bQ := @isAgg27
def bU := @isAgg9
def bW := @underlying9
def bX := @isAgg49
def bZ := @underlying30
def cJ := @isAgg3
def cQ := @underlying59
def dn := @zeroValue49
def dp := @underlying43
def dw := @sizeOf42
def dH := @underlying23
def dK := @underlying3
def dM := @underlying27
def dN := @underlying49
def dR := @sizeOf3
def dY := @isAgg42
def dZ := @sizeOf25
def er := @sizeOf82
def eA := @underlying135
def eB := @underlying131
def eL := @sizeOf63
def eO := @sizeOf34
def eW := @underlying31
def eY := @underlying127
def fa := @isAgg25
def fg := @zeroValue27
def fj := @underlying25
def fk := @underlying87
def fl := @zeroValue136
def ft := @isAgg28
def fu := @underlying22
def fA := @underlying111
def fB := @underlying136
def fC := @eqGuardType27
def fI := @isAgg34
def fK := @underlying5
def fP := @underlying63
def fQ := @underlying34
def fV := @underlying168
def fW := @eqGuardType49
def fX := @underlying166
def fY := @underlying100
def gn := @zeroValue42
def gp := @zeroValue63
def gJ := @zeroValue4
def gK := @sizeOf9
def gO := @isAgg131
def gZ := @underlying61
def ib := @underlying89
def ic := @underlying64
def iE := @zeroValue82
def iK := @underlying186
def iL := @underlying112
def iR := @sizeOf61
def iS := @sizeOf111
def iV := @zeroValue3
def iW := @zeroValue111
def iX := @zeroValue5
def iY := @underlying84
def jg := @sizeOf59
def jh := @zeroValue43
def ji := @zeroValue31
def jj := @zeroValue61
abbrev K0 : jl := ⟨zS, zS⟩
abbrev K1 : ByteArray := ⟨#[120]⟩
abbrev K2 : ByteArray := ⟨#[121]⟩
abbrev K3 : ByteArray := ⟨#[99, 108, 105]⟩
abbrev K4 : ByteArray := ⟨#[111, 119, 110]⟩
abbrev K5 : ky := ⟨0, 0⟩
abbrev K6 : kk := ⟨0⟩
abbrev K7 : jl := ⟨K1, K2⟩
abbrev K9 : Formula := ⟨2, 0, K0, []⟩
abbrev Kj : jX := ⟨K4, [], []⟩
abbrev OV : jm := ⟨0, K0, zS, K0, K0, zS⟩
abbrev wC : jm := ⟨1, K7, K3, K0, K0, zS⟩
abbrev Nx : Formula := ⟨1, 0, K7, []⟩
abbrev C1 (a b : Int) (d g : ByteArray) (h : Option Addr) (i j : Nat) : List Value := [(.int .i64 a), (.int .i64 b), (.string d), (.string g), (.slice h i j)]
abbrev C2 (y : ByteArray) (z : Option Addr) (E G : Nat) (I : Option Addr) (J L : Nat) (M : ByteArray) (O : Option Addr) (P a : Nat) (b : Option Addr) (d g : Nat) (h i : Int) (j k : ByteArray) (l : Option Addr) (m n : Nat) (p q r s t u : Int) (v : Option Addr) (w x : Nat) : List Value := [(.string y), (.slice z E G), (.slice I J L), (.string M), (.slice O P a), (.slice b d g), (.int .i64 h), (.int .i64 i), (.string j), (.string k), (.slice l m n), (.int .i64 p), (.int .i64 q), (.int .i64 r), (.int .i64 s), (.int .i64 t), (.int .i64 u), (.slice v w x)]
abbrev C3 (m : Int) (n p q r s t u v : ByteArray) (w : Option Addr) (a b : Nat) (d g : Int) (h i : ByteArray) (j : Option Addr) (k l : Nat) : List Value := [(.int .i64 m), (.string n), (.string p), (.string q), (.string r), (.string s), (.string t), (.string u), (.string v), (.slice w a b), (.int .i64 d), (.int .i64 g), (.string h), (.string i), (.slice j k l)]
abbrev C4 (a : Option Addr) (b d : Nat) : List Value := [(.int .i64 1), (.string (K7.jq)), (.string (K7.jv)), (.string K3), (.string (K0.jq)), (.string (K0.jv)), (.string (K0.jq)), (.string (K0.jv)), (.string zS), (.slice a b d), (.int .i64 2), (.int .i64 0), (.string zS), (.string zS), (.slice none 0 0)]
abbrev C5 : List Value := [(.int .i64 0), (.int .i64 0), (.string zS), (.string zS), (.slice none 0 0)]
abbrev C6 (a : ByteArray) (b : Option Addr) (d g : Nat) (h : Option Addr) (i j : Nat) : List Value := [(.string a), (.slice b d g), (.slice h i j)]
abbrev C7 (a : Nat) : List Value := [(.string K4), (.slice none 0 0), (.slice none 0 0), (.string K3), (.slice (some ⟨a, 0, none⟩) 1 1), (.slice none 0 0), (.int .i64 1), (.int .i64 0), (.string (K7.jq)), (.string (K7.jv)), (.slice none 0 0), (.int .i64 0), (.int .i64 0), (.int .i64 0), (.int .i64 0), (.int .i64 0), (.int .i64 0), (.slice none 0 0)]
abbrev C8 (d : Int) (g h i j k l m n : ByteArray) (p : Option Addr) (a b : Nat) : List Value := [(.int .i64 d), (.string g), (.string h), (.string i), (.string j), (.string k), (.string l), (.string m), (.string n), (.slice p a b)]
abbrev C9 : List Value := [(.int .i64 0), (.string (K0.jq)), (.string (K0.jv)), (.string zS), (.string (K0.jq)), (.string (K0.jv)), (.string (K0.jq)), (.string (K0.jv)), (.string zS), (.slice none 0 0), (.int .i64 0), (.int .i64 0), (.string zS), (.string zS), (.slice none 0 0)]
abbrev RH (d g : ByteArray) (h i : Int) (j k : ByteArray) (l : Option Addr) (m n : Nat) (p : Option Addr) (a b : Nat) : List Value := [(.string d), (.string g), (.int .i64 h), (.int .i64 i), (.string j), (.string k), (.slice l m n), (.slice p a b)]
abbrev O1 : List Value := [(.string K4), (.slice none 0 0), (.slice none 0 0), (.string K3), (.slice none 0 0), (.slice none 0 0), (.int .i64 2), (.int .i64 0), (.string zS), (.string zS), (.slice none 0 0), (.int .i64 0), (.int .i64 0), (.int .i64 0), (.int .i64 0), (.int .i64 0), (.int .i64 0), (.slice none 0 0)]
abbrev Gf : List Value := [(.int .i64 2), (.int .i64 0), (.string zS), (.string zS), (.slice none 0 0)]
abbrev Qu (a : Int) : List Value := [(.int .i64 a), (.int .i64 0), (.string zS), (.string zS), (.slice none 0 0)]
abbrev MT : List Value := [(.int .i64 3), (.int .i64 0), (.string zS), (.string zS), (.slice none 0 0)]
theorem ki : Tryz.prog.follows .mixedOrders = true := by rfl
theorem RY : Tryz.prog.info? 3 = some Tryz.t3 ∧ Tryz.t3.zero = some (.int .i64 0) ∧ Tryz.t3.size = 1 ∧ Tryz.t3.bytes = 8 := ⟨by kernel_rfl, by kernel_rfl, by kernel_rfl, by kernel_rfl⟩
theorem rJ : Tryz.prog.info? 5 = some Tryz.t5 ∧ Tryz.t5.zero = some (.int .u8 0) ∧ Tryz.t5.size = 1 ∧ Tryz.t5.bytes = 1 := ⟨by kernel_rfl, by kernel_rfl, by kernel_rfl, by kernel_rfl⟩
theorem zi : Tryz.prog.info? 27 = some Tryz.t27 ∧ Tryz.t27.zero = some (.agg #[(.string ⟨#[]⟩), (.string ⟨#[]⟩)]) ∧ Tryz.t27.size = 2 ∧ Tryz.t27.bytes = 32 := ⟨by kernel_rfl, by kernel_rfl, by kernel_rfl, by kernel_rfl⟩
theorem oD : Tryz.prog.info? 30 = some Tryz.t30 ∧ Tryz.t30.zero = some (.agg #[(.int .i64 0), (.int .i64 0), (.string ⟨#[]⟩), (.string ⟨#[]⟩), (.slice none 0 0)]) ∧ Tryz.t30.size = 5 ∧ Tryz.t30.bytes = 72 := ⟨by kernel_rfl, by kernel_rfl, by kernel_rfl, by kernel_rfl⟩
theorem F0 : Tryz.prog.info? 31 = some Tryz.t31 ∧ Tryz.t31.zero = some (.agg #[(.int .i64 0), (.int .i64 0)]) ∧ Tryz.t31.size = 2 ∧ Tryz.t31.bytes = 16 := ⟨by kernel_rfl, by kernel_rfl, by kernel_rfl, by kernel_rfl⟩
theorem lT : Tryz.prog.info? 49 = some Tryz.t49 ∧ Tryz.t49.zero = some (.agg #[(.int .i64 0), (.string ⟨#[]⟩), (.string ⟨#[]⟩), (.string ⟨#[]⟩), (.string ⟨#[]⟩), (.string ⟨#[]⟩), (.string ⟨#[]⟩), (.string ⟨#[]⟩), (.string ⟨#[]⟩)]) ∧ Tryz.t49.size = 9 ∧ Tryz.t49.bytes = 136 := ⟨by kernel_rfl, by kernel_rfl, by kernel_rfl, by kernel_rfl⟩
theorem Ga : Tryz.prog.info? 82 = some Tryz.t82 ∧ Tryz.t82.zero = some (.agg #[(.string ⟨#[]⟩), (.string ⟨#[]⟩), (.int .i64 0), (.int .i64 0), (.string ⟨#[]⟩), (.string ⟨#[]⟩), (.slice none 0 0), (.slice none 0 0)]) ∧ Tryz.t82.size = 8 ∧ Tryz.t82.bytes = 128 := ⟨by kernel_rfl, by kernel_rfl, by kernel_rfl, by kernel_rfl⟩
theorem EE : Tryz.prog.info? 111 = some Tryz.t111 ∧ Tryz.t111.zero = some (.agg #[(.string ⟨#[]⟩), (.string ⟨#[]⟩), (.string ⟨#[]⟩)]) ∧ Tryz.t111.size = 3 ∧ Tryz.t111.bytes = 48 := ⟨by kernel_rfl, by kernel_rfl, by kernel_rfl, by kernel_rfl⟩
theorem pY : lC pg0 27 0 0 := kE dM rfl gK (by decide) rfl
theorem tL : lC pg0 27 1 1 := kE dM rfl gK (by decide) rfl
theorem Oo : (Tryz.prog.fieldsOf 27).toList = (match Tryz.prog.underlying 27 with | some (.struct fs) => fs.toList | _ => []) := by rw [dM]; simp [Program.fieldsOf, dM]
theorem sN (d : Nat) (x y : jl) (W : World) : (Op.equalIn (d + 2) 27 (.agg (ju x).toArray) (.agg (ju y).toArray)).run pg0 W = .ok (jJ x y) W := by
 rw [run_equalIn_struct W (d + 1) 27 _ _ (by kernel_rfl) Tryz.stoodInHeld27, Oo, dM]
 exact (qG (by decide) (po bU rfl) (po bU rfl) (OW bW _ _ _ _) (qG (by decide) (po bU rfl) (po bU rfl) (OW bW _ _ _ _) (DT _ _ _)))
theorem NS : ∀ fs, Tryz.prog.underlying 27 = some (.struct fs) → ∀ w, (fs.mapM (fun (f : Field) => do pure (f.offset, ← sizeOf f.type)) : Sem (Array (Nat × Nat))).run pg0 w = .ok #[(0, 1), (1, 1)] w := by
 intro fs h w
 rw [dM] at h
 cases h
 kernel_rfl
theorem rG : lC pg0 49 0 0 := kE dN rfl dR (by decide) rfl
theorem rW : lC pg0 49 1 1 := kE dN rfl aT (by decide) rfl
theorem ya : lC pg0 49 2 3 := kE dN rfl gK (by decide) rfl
theorem nV : lC pg0 49 3 4 := kE dN rfl aT (by decide) rfl
theorem sW : lC pg0 49 4 6 := kE dN rfl aT (by decide) rfl
theorem um : lC pg0 49 5 8 := kE dN rfl gK (by decide) rfl
theorem NO : (Tryz.prog.fieldsOf 49).toList = (match Tryz.prog.underlying 49 with | some (.struct fs) => fs.toList | _ => []) := by rw [dN]; simp [Program.fieldsOf, dN]
theorem yN (d : Nat) (x y : jm) (W : World) : (Op.equalIn (d + 3) 49 (.agg (jr x).toArray) (.agg (jr y).toArray)).run pg0 W = .ok (kU x y) W := by
 rw [run_equalIn_struct W (d + 2) 49 _ _ (by kernel_rfl) Tryz.stoodInHeld49, NO, dN]
 exact (qG (by decide) (po cJ rfl) (po cJ rfl) (QY dK _ _ _ _) (qG (by decide) (yD bQ aT rfl) (yD bQ aT rfl) (sN _ x.Head y.Head W) (qG (by decide) (po bU rfl) (po bU rfl) (OW bW _ _ _ _) (qG (by decide) (yD bQ aT rfl) (yD bQ aT rfl) (sN _ x.B y.B W) (qG (by decide) (yD bQ aT rfl) (yD bQ aT rfl) (sN _ x.C y.C W) (qG (by decide) (po bU rfl) (po bU rfl) (OW bW _ _ _ _) (DT _ _ _)))))))
theorem QG : ∀ fs, Tryz.prog.underlying 49 = some (.struct fs) → ∀ w, (fs.mapM (fun (f : Field) => do pure (f.offset, ← sizeOf f.type)) : Sem (Array (Nat × Nat))).run pg0 w = .ok #[(0, 1), (1, 2), (3, 1), (4, 2), (6, 2), (8, 1)] w := by
 intro fs h w
 rw [dN] at h
 cases h
 kernel_rfl
theorem PC : Tryz.prog.cellsOf 3 = 1 := by kernel_rfl
theorem J2 (d : Nat) (x y : ky) (W : World) : (Op.equalIn (d + 2) 31 (.agg (lu x).toArray) (.agg (lu y).toArray)).run pg0 W = .ok (FT x y) W :=
 Li eW RY.1 PC (Eb (po cJ rfl) (po cJ rfl) (QY dK _ _ _ _) (Eb (po cJ rfl) (po cJ rfl) (QY dK _ _ _ _) (JY _ _ _ _ _)))
theorem Hn : lC pg0 111 0 0 := kE fA rfl aT (by decide) rfl
theorem Af : lC pg0 111 1 2 := kE fA rfl gK (by decide) rfl
theorem O8 : ∀ fs, Tryz.prog.underlying 111 = some (.struct fs) → ∀ w, (fs.mapM (fun (f : Field) => do pure (f.offset, ← sizeOf f.type)) : Sem (Array (Nat × Nat))).run pg0 w = .ok #[(0, 2), (2, 1)] w := by
 intro fs h w
 rw [fA] at h
 cases h
 kernel_rfl
theorem Kd : lC pg0 186 0 0 := kE iK rfl sizeOf96 (by decide) rfl
theorem Sw : ∀ fs, Tryz.prog.underlying 186 = some (.struct fs) → ∀ w, (fs.mapM (fun (f : Field) => do pure (f.offset, ← sizeOf f.type)) : Sem (Array (Nat × Nat))).run pg0 w = .ok #[(0, 1)] w := by
 intro fs h w
 rw [iK] at h
 cases h
 kernel_rfl
theorem GG : lC pg0 61 0 0 := kE gZ rfl aQ (by decide) rfl
theorem QH : lC pg0 61 1 9 := kE gZ rfl jg (by decide) rfl
theorem Tf : ∀ fs, Tryz.prog.underlying 61 = some (.struct fs) → ∀ w, (fs.mapM (fun (f : Field) => do pure (f.offset, ← sizeOf f.type)) : Sem (Array (Nat × Nat))).run pg0 w = .ok #[(0, 9), (9, 1)] w := by
 intro fs h w
 rw [gZ] at h
 cases h
 kernel_rfl
theorem tV : lC pg0 30 0 0 := kE bZ rfl dR (by decide) rfl
theorem yg : lC pg0 30 1 1 := kE bZ rfl dR (by decide) rfl
theorem xV : lC pg0 30 2 2 := kE bZ rfl aT (by decide) rfl
theorem rY : lC pg0 30 3 4 := kE bZ rfl sizeOf28 (by decide) rfl
theorem yK : ∀ fs, Tryz.prog.underlying 30 = some (.struct fs) → ∀ w, (fs.mapM (fun (f : Field) => do pure (f.offset, ← sizeOf f.type)) : Sem (Array (Nat × Nat))).run pg0 w = .ok #[(0, 1), (1, 1), (2, 2), (4, 1)] w := by
 intro fs h w
 rw [bZ] at h
 cases h
 kernel_rfl
theorem FJ : lC pg0 63 0 0 := kE fP rfl iR (by decide) rfl
theorem Na : lC pg0 63 1 10 := kE fP rfl aC (by decide) rfl
theorem Q1 : ∀ fs, Tryz.prog.underlying 63 = some (.struct fs) → ∀ w, (fs.mapM (fun (f : Field) => do pure (f.offset, ← sizeOf f.type)) : Sem (Array (Nat × Nat))).run pg0 w = .ok #[(0, 10), (10, 5)] w := by
 intro fs h w
 rw [fP] at h
 cases h
 kernel_rfl
theorem NC : lC pg0 82 0 0 := kE underlying82 rfl aT (by decide) rfl
theorem M6 : lC pg0 82 1 2 := kE underlying82 rfl aC (by decide) rfl
theorem Nn : lC pg0 82 2 7 := kE underlying82 rfl dw (by decide) rfl
theorem Ax : lC pg0 25 0 0 := kE fj rfl gK (by decide) rfl
theorem DJ : lC pg0 25 1 1 := kE fj rfl sizeOf22 (by decide) rfl
theorem MR : lC pg0 25 2 2 := kE fj rfl sizeOf23 (by decide) rfl
theorem Ro : ∀ fs, Tryz.prog.underlying 25 = some (.struct fs) → ∀ w, (fs.mapM (fun (f : Field) => do pure (f.offset, ← sizeOf f.type)) : Sem (Array (Nat × Nat))).run pg0 w = .ok #[(0, 1), (1, 1), (2, 1)] w := by
 intro fs h w
 rw [fj] at h
 cases h
 kernel_rfl
theorem RC : lC pg0 86 0 0 := kE underlying86 rfl gK (by decide) rfl
theorem Q7 : lC pg0 86 1 1 := kE underlying86 rfl jg (by decide) rfl
theorem DX : lC pg0 34 0 0 := kE fQ rfl dZ (by decide) rfl
theorem Ap : lC pg0 34 1 3 := kE fQ rfl dZ (by decide) rfl
theorem Gm : lC pg0 34 2 6 := kE fQ rfl aC (by decide) rfl
theorem Rf : lC pg0 34 8 17 := kE fQ rfl sizeOf32 (by decide) rfl
theorem Th : ∀ fs, Tryz.prog.underlying 34 = some (.struct fs) → ∀ w, (fs.mapM (fun (f : Field) => do pure (f.offset, ← sizeOf f.type)) : Sem (Array (Nat × Nat))).run pg0 w = .ok #[(0, 3), (3, 3), (6, 5), (11, 1), (12, 2), (14, 1), (15, 1), (16, 1), (17, 1)] w := by
 intro fs h w
 rw [fQ] at h
 cases h
 kernel_rfl
theorem wx : lC pg0 135 0 0 := kE eA rfl sizeOf131 (by decide) rfl
theorem G4 : lC pg0 135 1 1 := kE eA rfl dw (by decide) rfl
theorem Kv : lC pg0 135 2 2 := kE eA rfl sizeOf132 (by decide) rfl
theorem Hg : lC pg0 135 3 3 := kE eA rfl sizeOf133 (by decide) rfl
theorem Aj : lC pg0 135 4 4 := kE eA rfl sizeOf89 (by decide) rfl
theorem EA : lC pg0 135 5 5 := kE eA rfl dR (by decide) rfl
theorem Sz : ∀ fs, Tryz.prog.underlying 135 = some (.struct fs) → ∀ w, (fs.mapM (fun (f : Field) => do pure (f.offset, ← sizeOf f.type)) : Sem (Array (Nat × Nat))).run pg0 w = .ok #[(0, 1), (1, 1), (2, 1), (3, 1), (4, 1), (5, 1)] w := by
 intro fs h w
 rw [eA] at h
 cases h
 kernel_rfl
theorem yE : lC pg0 168 0 0 := kE fV rfl jg (by decide) rfl
theorem Pe : ∀ fs, Tryz.prog.underlying 168 = some (.struct fs) → ∀ w, (fs.mapM (fun (f : Field) => do pure (f.offset, ← sizeOf f.type)) : Sem (Array (Nat × Nat))).run pg0 w = .ok #[(0, 1)] w := by
 intro fs h w
 rw [fV] at h
 cases h
 kernel_rfl
def sv : pA Signed := fun μ ys x => ∃ (v0 : Value), ys = [.int .i64 x.jm.Kind, .string x.jm.Head.jq, .string x.jm.Head.jv, .string x.jm.km, .string x.jm.B.jq, .string x.jm.B.jv, .string x.jm.C.jq, .string x.jm.C.jv, .string x.jm.kC, v0] ∧ Sl (Pl (kP .u8)) 1 μ v0 x.Tag
theorem sv.out {μ : jN} {ys : List Value} {x : Signed} (h : sv μ ys x) : ∃ (v0 : Value), ys = [.int .i64 x.jm.Kind, .string x.jm.Head.jq, .string x.jm.Head.jv, .string x.jm.km, .string x.jm.B.jq, .string x.jm.B.jv, .string x.jm.C.jq, .string x.jm.C.jv, .string x.jm.kC, v0] ∧ Sl (Pl (kP .u8)) 1 μ v0 x.Tag := h
theorem sv.mk {μ : jN} {ys : List Value} {x : Signed} (h : ∃ (v0 : Value), ys = [.int .i64 x.jm.Kind, .string x.jm.Head.jq, .string x.jm.Head.jv, .string x.jm.km, .string x.jm.B.jq, .string x.jm.B.jv, .string x.jm.C.jq, .string x.jm.C.jv, .string x.jm.kC, v0] ∧ Sl (Pl (kP .u8)) 1 μ v0 x.Tag) : sv μ ys x := h
theorem Ab : Deep sv 10 where
 mono := by rintro _ _ _ _ b ⟨v0, rfl, a⟩; exact ⟨v0, rfl, a.mono (Pl.mono _) b⟩
 len := by rintro _ _ _ ⟨v0, rfl, a⟩; rfl
 one := by
  rintro _ _ _ ⟨v0, rfl, a⟩
  intro u hu; simp only [aK, cP, eV] at hu; rcases hu with rfl | rfl | rfl | rfl | rfl | rfl | rfl | rfl | rfl | rfl
  ·rfl
  ·rfl
  ·rfl
  ·rfl
  ·rfl
  ·rfl
  ·rfl
  ·rfl
  ·rfl
  ·exact a.xX
def wN : Nat → pA Formula
 | 0 => fun _ _ _ => False
 | n + 1 => fun μ ys x => ∃ (v0 : Value), ys = [.int .i64 x.Op, .int .i64 x.K, .string x.jl.jq, .string x.jl.jv, v0] ∧ Sl (wN n) 5 μ v0 x.Kids
def jo : pA Formula := fun μ ys x => ∃ n, wN n μ ys x
theorem DF : ∀ n, FX (wN n)
 | 0 => fun _ _ _ _ _ h => h
 | n + 1 => by rintro _ _ _ _ b ⟨v0, rfl, a⟩; exact ⟨v0, rfl, a.mono (DF n) b⟩
theorem F5 : ∀ n m (μ : jN) (ys : List Value) (x : Formula), n ≤ m → wN n μ ys x → wN m μ ys x
 | 0, _, _, _, _, _, h => h.elim
 | n + 1, 0, _, _, _, a, _ => absurd a (by omega)
 | n + 1, m + 1, μ, ys, x, a, h => by
  obtain ⟨v0, rfl, b⟩ := h
  exact ⟨v0, rfl, b.imp fun ys x h => F5 n m μ ys x (by omega) h⟩
theorem jo.out {μ : jN} {ys : List Value} {x : Formula} (h : jo μ ys x) : ∃ (v0 : Value), ys = [.int .i64 x.Op, .int .i64 x.K, .string x.jl.jq, .string x.jl.jv, v0] ∧ Sl jo 5 μ v0 x.Kids := by
 obtain ⟨n, h⟩ := h
 cases n with
 | zero => exact h.elim
 | succ n =>
  obtain ⟨v0, rfl, a⟩ := h
  exact ⟨v0, rfl, a.imp fun ys x h => ⟨n, h⟩⟩
theorem jo.mk {μ : jN} {ys : List Value} {x : Formula} (h : ∃ (v0 : Value), ys = [.int .i64 x.Op, .int .i64 x.K, .string x.jl.jq, .string x.jl.jv, v0] ∧ Sl jo 5 μ v0 x.Kids) : jo μ ys x := by
 obtain ⟨v0, rfl, d⟩ := h
 obtain ⟨n, i⟩ := d.Sp (fun _ _ h => h) (fun a b ys x g h => F5 a b _ ys x g h)
 exact ⟨n + 1, v0, rfl, i⟩
theorem jD : Deep jo 5 where
 mono := fun _ _ _ _ b ⟨n, h⟩ => ⟨n, DF n _ _ _ _ b h⟩
 len := by rintro _ _ _ h; obtain ⟨v0, rfl, a⟩ := h.out; rfl
 one := by
  rintro _ _ _ h
  obtain ⟨v0, rfl, a⟩ := h.out
  intro u hu; simp only [aK, cP, eV] at hu; rcases hu with rfl | rfl | rfl | rfl | rfl
  ·rfl
  ·rfl
  ·rfl
  ·rfl
  ·exact a.xX
def jW : pA kd := fun μ ys x => ∃ (v0 : Value) (v1 : Value), ys = [.int .i64 x.Signed.jm.Kind, .string x.Signed.jm.Head.jq, .string x.Signed.jm.Head.jv, .string x.Signed.jm.km, .string x.Signed.jm.B.jq, .string x.Signed.jm.B.jv, .string x.Signed.jm.C.jq, .string x.Signed.jm.C.jv, .string x.Signed.jm.kC, v0, .int .i64 x.jw.Op, .int .i64 x.jw.K, .string x.jw.jl.jq, .string x.jw.jl.jv, v1] ∧ Sl (Pl (kP .u8)) 1 μ v0 x.Signed.Tag ∧ Sl jo 5 μ v1 x.jw.Kids
theorem jW.out {μ : jN} {ys : List Value} {x : kd} (h : jW μ ys x) : ∃ (v0 : Value) (v1 : Value), ys = [.int .i64 x.Signed.jm.Kind, .string x.Signed.jm.Head.jq, .string x.Signed.jm.Head.jv, .string x.Signed.jm.km, .string x.Signed.jm.B.jq, .string x.Signed.jm.B.jv, .string x.Signed.jm.C.jq, .string x.Signed.jm.C.jv, .string x.Signed.jm.kC, v0, .int .i64 x.jw.Op, .int .i64 x.jw.K, .string x.jw.jl.jq, .string x.jw.jl.jv, v1] ∧ Sl (Pl (kP .u8)) 1 μ v0 x.Signed.Tag ∧ Sl jo 5 μ v1 x.jw.Kids := h
theorem jW.mk {μ : jN} {ys : List Value} {x : kd} (h : ∃ (v0 : Value) (v1 : Value), ys = [.int .i64 x.Signed.jm.Kind, .string x.Signed.jm.Head.jq, .string x.Signed.jm.Head.jv, .string x.Signed.jm.km, .string x.Signed.jm.B.jq, .string x.Signed.jm.B.jv, .string x.Signed.jm.C.jq, .string x.Signed.jm.C.jv, .string x.Signed.jm.kC, v0, .int .i64 x.jw.Op, .int .i64 x.jw.K, .string x.jw.jl.jq, .string x.jw.jl.jv, v1] ∧ Sl (Pl (kP .u8)) 1 μ v0 x.Signed.Tag ∧ Sl jo 5 μ v1 x.jw.Kids) : jW μ ys x := h
theorem kc : Deep jW 15 where
 mono := by rintro _ _ _ _ b ⟨v0, v1, rfl, a, h1⟩; exact ⟨v0, v1, rfl, a.mono (Pl.mono _) b, h1.mono jD.mono b⟩
 len := by rintro _ _ _ ⟨v0, v1, rfl, a, h1⟩; rfl
 one := by
  rintro _ _ _ ⟨v0, v1, rfl, a, h1⟩
  intro u hu; simp only [aK, cP, eV] at hu; rcases hu with rfl | rfl | rfl | rfl | rfl | rfl | rfl | rfl | rfl | rfl | rfl | rfl | rfl | rfl | rfl
  ·rfl
  ·rfl
  ·rfl
  ·rfl
  ·rfl
  ·rfl
  ·rfl
  ·rfl
  ·rfl
  ·exact a.xX
  ·rfl
  ·rfl
  ·rfl
  ·rfl
  ·exact h1.xX
def kQ : pA nf := fun μ ys x => ∃ (v0 : Value) (v1 : Value), ys = [.string x.jl.jq, .string x.jl.jv, .int .i64 x.jw.Op, .int .i64 x.jw.K, .string x.jw.jl.jq, .string x.jw.jl.jv, v0, v1] ∧ Sl jo 5 μ v0 x.jw.Kids ∧ Sl (Pl jr) 9 μ v1 x.mo
theorem kQ.out {μ : jN} {ys : List Value} {x : nf} (h : kQ μ ys x) : ∃ (v0 : Value) (v1 : Value), ys = [.string x.jl.jq, .string x.jl.jv, .int .i64 x.jw.Op, .int .i64 x.jw.K, .string x.jw.jl.jq, .string x.jw.jl.jv, v0, v1] ∧ Sl jo 5 μ v0 x.jw.Kids ∧ Sl (Pl jr) 9 μ v1 x.mo := h
theorem kQ.mk {μ : jN} {ys : List Value} {x : nf} (h : ∃ (v0 : Value) (v1 : Value), ys = [.string x.jl.jq, .string x.jl.jv, .int .i64 x.jw.Op, .int .i64 x.jw.K, .string x.jw.jl.jq, .string x.jw.jl.jv, v0, v1] ∧ Sl jo 5 μ v0 x.jw.Kids ∧ Sl (Pl jr) 9 μ v1 x.mo) : kQ μ ys x := h
theorem mn : Deep kQ 8 where
 mono := by rintro _ _ _ _ b ⟨v0, v1, rfl, a, h1⟩; exact ⟨v0, v1, rfl, a.mono jD.mono b, h1.mono (Pl.mono _) b⟩
 len := by rintro _ _ _ ⟨v0, v1, rfl, a, h1⟩; rfl
 one := by
  rintro _ _ _ ⟨v0, v1, rfl, a, h1⟩
  intro u hu; simp only [aK, cP, eV] at hu; rcases hu with rfl | rfl | rfl | rfl | rfl | rfl | rfl | rfl
  ·rfl
  ·rfl
  ·rfl
  ·rfl
  ·rfl
  ·rfl
  ·exact a.xX
  ·exact h1.xX
def qw : pA Key := fun μ ys x => ∃ (v0 : Value), ys = [.string x.km, v0] ∧ Sl (Pl (kP .u8)) 1 μ v0 x.Key
theorem qw.out {μ : jN} {ys : List Value} {x : Key} (h : qw μ ys x) : ∃ (v0 : Value), ys = [.string x.km, v0] ∧ Sl (Pl (kP .u8)) 1 μ v0 x.Key := h
theorem qw.mk {μ : jN} {ys : List Value} {x : Key} (h : ∃ (v0 : Value), ys = [.string x.km, v0] ∧ Sl (Pl (kP .u8)) 1 μ v0 x.Key) : qw μ ys x := h
theorem yf : Deep qw 2 where
 mono := by rintro _ _ _ _ b ⟨v0, rfl, a⟩; exact ⟨v0, rfl, a.mono (Pl.mono _) b⟩
 len := by rintro _ _ _ ⟨v0, rfl, a⟩; rfl
 one := by
  rintro _ _ _ ⟨v0, rfl, a⟩
  intro u hu; simp only [aK, cP, eV] at hu; rcases hu with rfl | rfl
  ·rfl
  ·exact a.xX
def oH : pA kf := fun μ ys x => ∃ (v0 : Value) (v1 : Value), ys = [v0, v1] ∧ Sl (Pl jr) 9 μ v0 x.og ∧ Sl (Pl jr) 9 μ v1 x.nB
theorem oH.out {μ : jN} {ys : List Value} {x : kf} (h : oH μ ys x) : ∃ (v0 : Value) (v1 : Value), ys = [v0, v1] ∧ Sl (Pl jr) 9 μ v0 x.og ∧ Sl (Pl jr) 9 μ v1 x.nB := h
theorem oH.mk {μ : jN} {ys : List Value} {x : kf} (h : ∃ (v0 : Value) (v1 : Value), ys = [v0, v1] ∧ Sl (Pl jr) 9 μ v0 x.og ∧ Sl (Pl jr) 9 μ v1 x.nB) : oH μ ys x := h
theorem H2 : Deep oH 2 where
 mono := by rintro _ _ _ _ b ⟨v0, v1, rfl, a, h1⟩; exact ⟨v0, v1, rfl, a.mono (Pl.mono _) b, h1.mono (Pl.mono _) b⟩
 len := by rintro _ _ _ ⟨v0, v1, rfl, a, h1⟩; rfl
 one := by
  rintro _ _ _ ⟨v0, v1, rfl, a, h1⟩
  intro u hu; simp only [aK, cP, eV] at hu; rcases hu with rfl | rfl
  ·exact a.xX
  ·exact h1.xX
theorem Gj : pg pg0 9 Value.string kD := pg.string bW
theorem zG : pg pg0 27 (fun (x : jl) => (.agg (ju x).toArray)) jJ :=
 pg.struct dM (fun d x y W => sN (d + 8) x y W) (fun b k W => Gs dM rfl (gN.2 ⟨fun _ => ⟨.string k.jq, po bU rfl, xU bW _ _ _ _⟩, (gN.2 ⟨fun _ => ⟨.string k.jv, po bU rfl, xU bW _ _ _ _⟩, (fun _ h => by cases h)⟩)⟩))
  (fun k x h => (jK.1 h).symm) (fun k => by simp [Instr.sameBits, ju, DK, lI])
theorem Qk (w : World) (s : ByteArray) (c : Int) : (callFunc 153 [Value.string s, .int .u8 c].toArray).run pg0 w = .ok (.value (.int .i64 (wz s c))) w := GS func153 (by kernel_rfl) (by kernel_rfl) (by kernel_rfl) (by kernel_rfl) s c w
theorem xr (a : ByteArray) (c r : Int) (w : World) (hm : od a c = some r) :
  ke true pg0 135 [(.string a), (.int .u8 c)] w (.int .i64 r) := by
 exact cG 8 func135 rfl (fun b => sg (Wa (lr (Wm (Wm (VE (LB (args := [(.string a), (.int .u8 c)]) (v := .int .i64 (wz a c)) rfl (by exact uk rfl rfl) (Qk _ a c) (Wa (lt (rQ hm b))))))))))
theorem yp (a : ByteArray) (c r : Int) (w : World) (hm : qS a c = some r) :
  ke true pg0 98 [(.string a), (.int .u8 c)] w (.int .i64 r) := by
 refine cG 8 func98 rfl (fun b => sg (Wa (lr (Wm (Wm (bS hm fun j g hm => VE (Eg b call135 (xr a c _ _  g) (fun i b => Wa (ln ?_)))))))))
 exact kv (rQ hm b)
theorem J0 (I : ByteArray) (r : Bool) (w : World) (hm : Bn I = some r) :
  ke true pg0 99 [(.string I)] w (.bool r) := by
 refine cG 16 func99 rfl (fun b => sg (Wa (lS (Wm (bS hm fun H J hm => VE (HV b bW cQ fK rfl J (fun W3 N T b M n j Y => V (lU cQ rfl j) (Wm (jU ?_)))))))))
 refine jH (lQ (fun i E W => ∃ c, (E 8 = .int .i64 (i : Nat) ∧ E 7 = .int .i64 (H.length : Nat)) ∧ ST true kK w W T c ∧ E 6 = N ∧ uy (H.drop i) = some r) H.length j.len ⟨_, ⟨rfl, rfl⟩, (b.js St), rfl, hm⟩ dc dc dc (fun _ _ _ h => by obtain ⟨_, l, _⟩ := h; exact l) ?_ ?_)
 ·rintro K E W u ⟨c, ⟨d, m⟩, b, g, a⟩
  obtain ⟨k, Q, D, B, G⟩ := lz u
  rw [D] at a
  refine bg (VQ (qU (enc := (kP .u8)) (i := (K : Int)) (x0 := k) cQ sizeOf5 g d j (aX _) B) (fun Z x => V (jt rfl (oO b.has (y := (.int .u8 k)) x isAgg5)) (Wa (lr (Wm (bS a fun p z a => VE (Eg b call98 (yp (⟨#[97, 98, 99, 100, 101, 102, 103, 104, 105, 106, 107, 108, 109, 110, 111, 112, 113, 114, 115, 116, 117, 118, 119, 120, 121, 122, 48, 49, 50, 51, 52, 53, 54, 55, 56, 57, 45]⟩ : ByteArray) k _ _  z) (fun U b => Wi rfl (jU ?_)))))))))
  refine jH (CI a rfl (fun t a => ?_) (fun t a => ?_))
  ·refine sg (Wa (lt (nt (kI (nt (kI ?_))))))
   obtain rfl := sj a
   exact rP b
  exact lJ (kz (jH ⟨d, _, ⟨rfl, m⟩, (b.js St), g, (by rw [G]; exact a)⟩))
 rintro E W ⟨c, ⟨d, m⟩, b, g, a⟩
 rw [bE] at a
 exact jH (sg (Wa (lt (rQ a b))))
theorem vK (z : ByteArray) (r : Bool) (w : World) (hm : rF z = some r) :
  ke true pg0 75 [(.string z)] w (.bool r) := by
 refine cG 21 func75 rfl (fun b => sg (Wa (lr (Wm (V (ob bW rfl) (Wi rfl (Wm (LJ hm (fun K E W => ∃ Y, ST true kK w W (hp w) Y ∧ E 0 = (.string z) ∧ E 2 = (.bool false) ∧ E 10 = (.bool K)) 4 ?_ (fun K t y => ?_)))))))))
 ·rintro x2 E W ⟨Y, b, M, d, l⟩ a5
  refine Wh l (LJ a5 (fun J E W => ∃ D, ST true kK w W (hp w) D ∧ E 0 = (.string z) ∧ E 2 = (.bool false) ∧ E 16 = (.bool J)) 5 ?_ (fun J a x => ?_))
  ·rintro s E W ⟨D, b, h, H, a2⟩ N
   refine Wh a2 (LJ N (fun I E W => ∃ G, ST true kK w W (hp w) G ∧ E 2 = (.bool false) ∧ E 20 = (.bool I)) 3 ?_ (fun I j u => ?_))
   ·rintro v E W ⟨G, b, a9, a3⟩ Q
    exact Wg a3 (lt (rQ Q b))
   refine bC j (fun g j => ?_) (fun g j => ?_)
   ·refine ug g (jx h) (bS j fun p T j => ue g (Eg b call99 (J0 z _ _  T) (fun m b => V (jO (cB g) rfl) ?_)))
    obtain rfl := sj j
    exact u _ _ ⟨_, (b.js St), H, rfl⟩
   refine un g (un g (V (jQ (cB g) rfl) ?_))
   obtain rfl := sj j
   exact u _ _ ⟨_, (b.js St), H, rfl⟩
  refine bC a (fun c a => ?_) (fun c a => ?_)
  ·refine ug c (jx M) (bS a fun Z B a => ug c (zZ (i := 0) bW rfl rfl (yT B) (CF B)) (bS a fun q U a => ue c (Eg b call98 (yp (⟨#[97, 98, 99, 100, 101, 102, 103, 104, 105, 106, 107, 108, 109, 110, 111, 112, 113, 114, 115, 116, 117, 118, 119, 120, 121, 122]⟩ : ByteArray) (Z.toNat : Int) _ _  U) (fun n b => ug c (ko rfl rfl rfl) (V (jO (cB c) rfl) ?_)))))
   obtain rfl := sj a
   exact x _ _ ⟨_, (b.js St), M, d, rfl⟩
  refine un c (un c (un c (un c (V (jQ (cB c) rfl) ?_))))
  obtain rfl := sj a
  exact x _ _ ⟨_, (b.js St), M, d, rfl⟩
 refine bC t (fun k t => ?_) (fun k t => ?_)
 ·refine ug k (jx rfl) (ug k (ob bW rfl) (ug k (ko rfl rfl rfl) (V (jO (cB k) rfl) ?_)))
  obtain rfl := sj t
  exact y _ _ ⟨_, (b.js St), rfl, rfl, rfl⟩
 refine un k (un k (un k (V (jQ (cB k) rfl) ?_)))
 obtain rfl := sj t
 exact y _ _ ⟨_, (b.js St), rfl, rfl, rfl⟩
theorem sZ (i : jl) (r : Bool) (w : World) (hm : pK i = some r) :
  ke true pg0 74 [(.agg (ju i).toArray)] w (.bool r) := by
 refine cG 11 func74 rfl (fun b => sg (VE (kq b rfl (fun H J b => Wa (lr (Wf pY (VB b Mh rfl rfl bU (bS hm fun K y hm => VE (Eg b call75 (vK i.jq _ _  y) (fun I b => Wm (LJ hm (fun k E W => ∃ j, ST true kK w W (hp w) j ∧ E 2 = (.bool false) ∧ E 10 = (.bool k)) 4 ?_ (fun k a g => ?_))))))))))))
 ·rintro G E W ⟨j, b, B, x⟩ t
  exact Wg x (lt (rQ t b))
 refine bC a (fun c a => ?_) (fun c a => ?_)
 ·refine ug c (jB tL rfl) (ug c (jt rfl (jG b.has Mh rfl bU)) (bS a fun D u a => ue c (Eg b call75 (vK i.jv _ _  u) (fun z b => V (jO (cB c) rfl) ?_))))
  obtain rfl := sj a
  exact g _ _ ⟨_, (b.js (Db St)), rfl, rfl⟩
 refine un c (un c (un c (V (jQ (cB c) rfl) ?_)))
 obtain rfl := sj a
 exact g _ _ ⟨_, (b.js (Db St)), rfl, rfl⟩
theorem QI (w : World) (a b : ByteArray) : (callFunc 154 [Value.string a, .string b].toArray).run pg0 w = .ok (.value (.int .i64 (oP a b))) w := NE func154 (by kernel_rfl) (by kernel_rfl) (by kernel_rfl) (by kernel_rfl) a b w
theorem xi (a c : ByteArray) (r : Int) (w : World) (hm : mZ a c = some r) :
  ke true pg0 136 [(.string a), (.string c)] w (.int .i64 r) := by
 exact cG 8 func136 rfl (fun b => sg (Wa (lr (Wm (Wm (VE (LB (args := [(.string a), (.string c)]) (v := .int .i64 (oP a c)) rfl (by exact uk rfl rfl) (QI _ a c) (Wa (lt (rQ hm b))))))))))
theorem zO (a c : ByteArray) (r : Int) (w : World) (hm : pk a c = some r) :
  ke true pg0 101 [(.string a), (.string c)] w (.int .i64 r) := by
 refine cG 8 func101 rfl (fun b => sg (Wa (lr (Wm (Wm (bS hm fun j g hm => VE (Eg b call136 (xi a c _ _  g) (fun i b => Wa (ln ?_)))))))))
 exact kv (rQ hm b)
theorem Jv (g : Value) (t : List Int) (r : Int) (w : World) (c : Sl (Pl (kP .i64)) 1 (hp w) g t) (hm : uq t = some r) :
  ke true pg0 100 [g] w (.int .i64 r) := by
 refine cG 18 func100 rfl (fun b => sg (Wa (lr (Wa (lS (Wm ?_))))))
 refine V (lU underlying187 rfl c) (Wm (ln (lQ (fun i E W => ∃ k, (E 8 = .int .i64 (i : Nat) ∧ E 7 = .int .i64 (t.length : Nat)) ∧ ST true kK w W (hp w) k ∧ E 3 = (.int .i64 0) ∧ E 6 = g ∧ rH (t.drop i) = some r) t.length c.len ⟨_, ⟨rfl, rfl⟩, (b.js St), rfl, rfl, hm⟩ dc dc dc (fun _ _ _ h => by obtain ⟨_, l, _⟩ := h; exact l) ?_ ?_)))
 ·rintro J E W B ⟨k, ⟨d, m⟩, b, j, u, a⟩
  obtain ⟨x, K, H, G, I⟩ := lz B
  rw [H] at a
  refine bg (VQ (qU (enc := (kP .i64)) (i := (J : Int)) (x0 := x) underlying187 dR u d c (aX _) G) (fun M D => V (jt rfl (oO b.has (y := (.int .i64 x)) D cJ)) (Wa (lr (Wm (Wh j (Wi rfl (ln ?_))))))))
  refine CI a rfl (fun z a => ?_) (fun z a => ?_)
  ·refine sg (Wm (Wa (lt (nt (kI (nt (kI ?_)))))))
   obtain rfl := sj a
   exact rP b
  exact lJ (kz (jH ⟨d, _, ⟨rfl, m⟩, (b.js St), j, u, (by rw [I]; exact a)⟩))
 rintro E W ⟨k, ⟨d, m⟩, b, j, u, a⟩
 rw [bE] at a
 exact jH (sg (Wh j (Wa (lt (rQ a b)))))
theorem GV (g i : jl) (r : Int) (w : World) (hm : rj g i = some r) :
  ke true pg0 76 [(.agg (ju g).toArray), (.agg (ju i).toArray)] w (.int .i64 r) := by
 refine cG 17 func76 rfl (fun b => sg (VE (kq b rfl (fun G I b => VE (kq b rfl (fun H J b => Wa (ln (jI ?_))))))))
 replace b := b.drew
 have d := b.has.js (Kb (Kb Sn))
 refine kN d ki (X 0 rfl d (jB pY rfl) (XH 1 rfl d (fun _ h => jt rfl (jG h (Mt Mh) rfl bU)) (X 2 rfl d (jB pY rfl) (XH 3 rfl d (fun _ h => jt rfl (jG h Mh rfl bU)) (X 5 rfl d (jB tL rfl) (XH 6 rfl d (fun _ h => jt rfl (jG h (Mt Mh) rfl bU)) (X 7 rfl d (jB tL rfl) (XH 8 rfl d (fun _ h => jt rfl (jG h Mh rfl bU)) (bS hm fun a j hm => XE 4 rfl (Eg b call101 (zO g.jq i.jq _ _  j) (fun x b => ?_)))))))))))
 have d := b.has.js (Kb (Kb Sn))
 refine ⟨d, (bS hm fun c k hm => XE 9 rfl (Eg b call101 (zO g.jv i.jv _ _  k) (fun y b => ?_)))⟩
 have d := b.has.js (Kb (Kb Sn))
 refine ⟨d, (XE 10 rfl (kp (cs := #[(.int .i64 a), (.int .i64 c)]) b (sa rfl rfl) (mN underlying187 dR iV) (fun z u b => ?_)))⟩
 have d := b.has.js (Db (Kb (Kb Sn)))
 refine ⟨d, (bS hm fun D t hm => XE 11 rfl (Eg b call100 (Jv (.slice (some ⟨u, 0, none⟩) 2 2) ([a, c]) _ _ (Sl.lit (enc := (kP .i64)) (l := [a, c]) (fun _ => rfl) rfl nb rfl (b.at_ Mh)) t) (fun B b => ?_)))⟩
 have d := b.has.js (Db (Kb (Kb Sn)))
 refine ⟨d, (X 12 rfl d (ma rfl) (kM kr (jH ?_)))⟩
 exact kv (rQ hm b)
set_option maxHeartbeats 4000000 in
theorem yj (a : jm) (r : Bool) (w : World) (hm : sV a = some r) :
  ke true pg0 47 [(.agg (jr a).toArray)] w (.bool r) := by
 let m9 := (⟨a.Kind, a.Head, zS, a.B, a.C, zS⟩ : jm)
 let j2 := (⟨a.Kind, a.Head, zS, a.B, K0, a.kC⟩ : jm)
 let j1 : Value := (.agg (ju a.B).toArray)
 let g6 := ((jr (⟨a.Kind, a.Head, zS, a.B, K0, zS⟩ : jm)).toArray)
 let p := (⟨a.Kind, a.Head, zS, K0, K0, zS⟩ : jm)
 refine cG 98 func47 rfl (fun b => sg (VE (kq b rfl (fun W2 N b => Wa (lr (Wf rG (VB b Mh rfl rfl cJ (Wf rW (VA b Mh (ju a.Head) bQ aT (V (mr (v := (.agg (jr p).toArray)) (sa rfl rfl) (lM dn dN (QG _ dN) kr)) (VE (kx b dn (fun W4 B b => ?_)))))))))))))
 refine VO (jL (.agg (jr p).toArray) ((jr p).toArray) b rfl rfl aQ (nw p) nb rfl (fun W5 b => lr (Wf rW (VA b (Mt Mh) (ju a.Head) bQ aT (bS hm fun n j4 hm => VE (Eg b call74 (sZ a.Head _ _  j4) (fun W8 b => Wa (ln (jI (TA hm (fun L E W => ∃ b6, ST true kK w W (hp w) ((B, Ol (jr L.2) 49) :: ((N, Ol (jr a) 49) :: b6)) ∧ E 1 = (.pointer (some ⟨N, 0, none⟩)) ∧ E 3 = (.pointer (some ⟨B, 0, none⟩)) ∧ E 4 = (.bool L.1)) (fun L g Z => ?_) ?_))))))))))
 ·let g5 := ((jr m9).toArray : Array Value)
  let b8 := ((jr j2).toArray : Array Value)
  let m : Value := (.pointer (some ⟨B, 0, none⟩))
  let l : Value := (.pointer (some ⟨N, 0, none⟩))
  let a0 := ((jr a).toArray : Array Value)
  refine sg (Wf rG (VB b (Mt Mh) rfl rfl cJ (ln (bg (Wi rfl (Wa (ln (CI g rfl (fun e5 g => ?_) (fun e5 g => ?_)))))))))
  ·replace b := b.drew
   have d := b.has.js (Db (Kb Sn))
   refine kN d ki (X 0 rfl d (jB ya rfl) (XH 1 rfl d (fun _ h => jt rfl (jG h Mh rfl bU)) (X 2 rfl d (jx rfl) (X 3 rfl d (jx rfl) (X 8 rfl d (jB ya rfl) (PJ g (fun d6 E W => ∃ b9, ST true kK w W (hp w) ((B, Ol (jr p) 49) :: ((N, Obj.cells a0 49 (0, 0)) :: b9)) ∧ E 1 = l ∧ E 3 = m ∧ E 4 = (.bool n) ∧ E 18 = (.string a.km) ∧ E 24 = (.bool d6) ∧ E 25 = (.pointer (some ⟨B, 3, none⟩))) (bm 11 511) 2 ?_ (fun d6 D a2 => ?_)))))))
   ·rintro m1 E W ⟨b9, b, h2, h3, k8, h4, h5, h6⟩ f1
    refine XO 9 rfl (jL (.string a.km) ((jr (⟨a.Kind, a.Head, a.km, K0, K0, zS⟩ : jm)).toArray) b h6 h4 gK (Q4 a.km) nb rfl (fun j5 b => ?_))
    have d := b.has.js (Db (Kb Sn))
    refine ⟨d, (X 10 rfl d (ma h5) (kM kr (kz (jH ?_))))⟩
    obtain rfl := sj f1
    exact ⟨_, rfl, _, (b.js St), h2, h3, rfl⟩
   refine bC D (fun k D => ?_) (fun k D => ?_)
   ·refine Xg 4 rfl rfl (cB k) d (jB ya rfl) (uW 5 rfl rfl (cB k) d (fun _ h => jt rfl (jG h Mh rfl bU)) (bS D fun l2 f9 D => HS 6 rfl rfl (cB k) (Eg b call75 (vK a.km _ _  f9) (fun j6 b => ?_))))
    have d := b.has.js (Db (Kb Sn))
    refine ⟨d, (X 7 rfl d (jO (cB k) rfl) ?_)⟩
    obtain rfl := sj D
    refine oF kr (a2 _ _ ⟨_, (b.js St), rfl, rfl, rfl, rfl, rfl, rfl⟩)
   refine Xn 4 rfl rfl (cB k) d (Xn 5 rfl rfl (cB k) d (Xn 6 rfl rfl (cB k) d (X 7 rfl d (jQ (cB k) rfl) ?_)))
   obtain rfl := sj D
   refine oF kr (a2 _ _ ⟨_, (b.js St), rfl, rfl, rfl, rfl, rfl, rfl⟩)
  refine sg (Wi rfl (Wa (ln (CI g rfl (fun e6 g => ?_) (fun e6 g => ?_)))))
  ·replace b := b.drew
   have d := b.has.js (Db (Kb Sn))
   refine kN d ki (X 0 rfl d (jB nV rfl) (XH 1 rfl d (fun _ h => jt rfl (jA h Mh (ju a.B) rfl bQ aT)) (X 2 rfl d (jx rfl) (X 3 rfl d (jx rfl) (X 8 rfl d (jB nV rfl) (PJ g (fun d7 E W => ∃ c0, ST true kK w W (hp w) ((B, Ol (jr p) 49) :: ((N, Obj.cells a0 49 (0, 0)) :: c0)) ∧ E 1 = l ∧ E 3 = m ∧ E 4 = (.bool n) ∧ E 29 = j1 ∧ E 35 = (.bool d7) ∧ E 36 = (.pointer (some ⟨B, 4, none⟩))) (bm 11 511) 2 ?_ (fun d7 G a3 => ?_)))))))
   ·rintro m2 E W ⟨c0, b, h7, h8, k9, h9, i0, i1⟩ f2
    refine XO 9 rfl (jL j1 g6 b i1 h9 aT (xE a.B) nb rfl (fun j7 b => ?_))
    have d := b.has.js (Db (Kb Sn))
    refine ⟨d, (X 10 rfl d (ma i0) (kM kr (kz (jH ?_))))⟩
    obtain rfl := sj f2
    exact ⟨_, rfl, _, (b.js St), h7, h8, rfl⟩
   refine bC G (fun t G => ?_) (fun t G => ?_)
   ·refine Xg 4 rfl rfl (cB t) d (jB nV rfl) (uW 5 rfl rfl (cB t) d (fun _ h => jt rfl (jA h Mh (ju a.B) rfl bQ aT)) (bS G fun l3 g0 G => HS 6 rfl rfl (cB t) (Eg b call74 (sZ a.B _ _  g0) (fun j8 b => ?_))))
    have d := b.has.js (Db (Kb Sn))
    refine ⟨d, (X 7 rfl d (jO (cB t) rfl) ?_)⟩
    obtain rfl := sj G
    refine oF kr (a3 _ _ ⟨_, (b.js St), rfl, rfl, rfl, rfl, rfl, rfl⟩)
   refine Xn 4 rfl rfl (cB t) d (Xn 5 rfl rfl (cB t) d (Xn 6 rfl rfl (cB t) d (X 7 rfl d (jQ (cB t) rfl) ?_)))
   obtain rfl := sj G
   refine oF kr (a3 _ _ ⟨_, (b.js St), rfl, rfl, rfl, rfl, rfl, rfl⟩)
  refine sg (Wi rfl (Wa (ln (CI g rfl (fun e7 g => ?_) (fun e7 g => ?_)))))
  ·refine jI ?_
   replace b := b.drew
   have d := b.has.js (Db (Kb Sn))
   refine kN d ki (X 0 rfl d (jB nV rfl) (XH 1 rfl d (fun _ h => jt rfl (jA h Mh (ju a.B) rfl bQ aT)) (X 2 rfl d (jB um rfl) (XH 3 rfl d (fun _ h => jt rfl (jG h Mh rfl bU)) (X 4 rfl d (jB nV rfl) (XO 5 rfl (jL j1 g6 b rfl rfl aT (xE a.B) nb rfl (fun j9 b => ?_))))))))
   have d := b.has.js (Db (Kb Sn))
   refine ⟨d, (X 6 rfl d (jB um rfl) (XO 7 rfl (jL (.string a.kC) ((jr j2).toArray) b rfl rfl gK (Q4 a.kC) nb rfl (fun k0 b => ?_))))⟩
   have d := b.has.js (Db (Kb Sn))
   refine ⟨d, (kM kr (jH (jC (Wm (Wm (LJ g (fun e0 E W => ∃ c1, ST true kK w W (hp w) ((B, Obj.cells b8 49 (0, 0)) :: ((N, Obj.cells a0 49 (0, 0)) :: c1)) ∧ E 1 = l ∧ E 3 = m ∧ E 4 = (.bool n) ∧ E 50 = (.bool e0)) 4 ?_ (fun e0 I P => ?_)))))))⟩
   ·rintro m3 E W ⟨c1, b, U, c7, c8, i2⟩ f3
    refine Wh i2 (LJ f3 (fun d9 E W => ∃ c2, ST true kK w W (hp w) ((B, Obj.cells b8 49 (0, 0)) :: ((N, Obj.cells a0 49 (0, 0)) :: c2)) ∧ E 1 = l ∧ E 3 = m ∧ E 4 = (.bool n) ∧ E 59 = (.bool d9)) 8 ?_ (fun d9 T a5 => ?_))
    ·rintro m4 E W ⟨c2, b, q, c9, d0, i3⟩ f4
     refine Wh i3 (LJ f4 (fun d8 E W => ∃ c3, ST true kK w W (hp w) ((B, Obj.cells b8 49 (0, 0)) :: ((N, Obj.cells a0 49 (0, 0)) :: c3)) ∧ E 1 = l ∧ E 3 = m ∧ E 4 = (.bool n) ∧ E 64 = (.bool d8)) 4 ?_ (fun d8 H a4 => ?_))
     ·rintro m5 E W ⟨c3, b, i4, i5, l0, i6⟩ f5
      refine Wg i6 (jU (kz (jH ?_)))
      obtain rfl := sj f5
      exact ⟨_, rfl, _, (b.js St), i4, i5, rfl⟩
     refine bC H (fun x H => ?_) (fun x H => ?_)
     ·refine ug x (jB um q) (ug x (jt rfl (jG b.has (Mt Mh) rfl bU)) (bS H fun l4 g1 H => ue x (Eg b call75 (vK a.kC _ _  g1) (fun k1 b => V (jO (cB x) rfl) ?_))))
      obtain rfl := sj H
      exact a4 _ _ ⟨_, (b.js St), q, c9, d0, rfl⟩
     refine un x (un x (un x (V (jQ (cB x) rfl) ?_)))
     obtain rfl := sj H
     exact a4 _ _ ⟨_, (b.js St), q, c9, d0, rfl⟩
    refine bC T (fun c T => ?_) (fun c T => ?_)
    ·refine ug c (jB nV U) (ug c (jB pY rfl) (ug c (jt rfl (jG b.has (Mt Mh) rfl bU)) (ug c (jB rW U) (ug c (jB pY rfl) (ug c (jt rfl (jG b.has (Mt Mh) rfl bU)) (ug c (xd rfl rfl rfl) (V (jO (cB c) rfl) ?_)))))))
     obtain rfl := sj T
     exact a5 _ _ ⟨_, (b.js St), U, c7, c8, rfl⟩
    refine un c (un c (un c (un c (un c (un c (un c (V (jQ (cB c) rfl) ?_)))))))
    obtain rfl := sj T
    exact a5 _ _ ⟨_, (b.js St), U, c7, c8, rfl⟩
   refine bC I (fun u I => ?_) (fun u I => ?_)
   ·refine ug u (jB nV rfl) (ug u (jt rfl (jA b.has (Mt Mh) (ju a.B) rfl bQ aT)) (bS I fun l5 g2 I => ue u (Eg b call74 (sZ a.B _ _  g2) (fun k2 b => V (jO (cB u) rfl) ?_))))
    obtain rfl := sj I
    exact P _ _ ⟨_, (b.js St), rfl, rfl, rfl, rfl⟩
   refine un u (un u (un u (V (jQ (cB u) rfl) ?_)))
   obtain rfl := sj I
   exact P _ _ ⟨_, (b.js St), rfl, rfl, rfl, rfl⟩
  refine sg (Wi rfl (Wa (ln (CI g rfl (fun e8 g => ?_) (fun e8 g => ?_)))))
  ·refine jI ?_
   replace b := b.drew
   have d := b.has.js (Db (Kb Sn))
   refine kN d ki (X 0 rfl d (jB nV rfl) (XH 1 rfl d (fun _ h => jt rfl (jA h Mh (ju a.B) rfl bQ aT)) (X 2 rfl d (jB sW rfl) (XH 3 rfl d (fun _ h => jt rfl (jA h Mh (ju a.C) rfl bQ aT)) (X 4 rfl d (jB nV rfl) (XO 5 rfl (jL j1 g6 b rfl rfl aT (xE a.B) nb rfl (fun k3 b => ?_))))))))
   have d := b.has.js (Db (Kb Sn))
   refine ⟨d, (X 6 rfl d (jB sW rfl) (XO 7 rfl (jL (.agg (ju a.C).toArray) ((jr m9).toArray) b rfl rfl aT (xE a.C) nb rfl (fun k4 b => ?_))))⟩
   have d := b.has.js (Db (Kb Sn))
   refine ⟨d, (kM kr (jH (jC (Wm (Wm (LJ g (fun e3 E W => ∃ c4, ST true kK w W (hp w) ((B, Obj.cells g5 49 (0, 0)) :: ((N, Obj.cells a0 49 (0, 0)) :: c4)) ∧ E 1 = l ∧ E 3 = m ∧ E 4 = (.bool n) ∧ E 78 = (.bool e3)) 4 ?_ (fun e3 M a9 => ?_)))))))⟩
   ·rintro m6 E W ⟨c4, b, s, d1, d2, i7⟩ f6
    refine Wh i7 (LJ f6 (fun e2 E W => ∃ c5, ST true kK w W (hp w) ((B, Obj.cells g5 49 (0, 0)) :: ((N, Obj.cells a0 49 (0, 0)) :: c5)) ∧ E 1 = l ∧ E 3 = m ∧ E 4 = (.bool n) ∧ E 83 = (.bool e2)) 4 ?_ (fun e2 K a8 => ?_))
    ·rintro m7 E W ⟨c5, b, Y, d3, d4, i8⟩ f7
     refine Wh i8 (LJ f7 (fun e1 E W => ∃ c6, ST true kK w W (hp w) ((B, Obj.cells g5 49 (0, 0)) :: ((N, Obj.cells a0 49 (0, 0)) :: c6)) ∧ E 1 = l ∧ E 3 = m ∧ E 4 = (.bool n) ∧ E 91 = (.bool e1)) 7 ?_ (fun e1 J R => ?_))
     ·rintro m8 E W ⟨c6, b, i9, j0, l1, j3⟩ f8
      refine Wg j3 (jU (kz (jH ?_)))
      obtain rfl := sj f8
      exact ⟨_, rfl, _, (b.js St), i9, j0, rfl⟩
     refine bC J (fun i J => ?_) (fun i J => ?_)
     ·refine ug i (jB nV Y) (ug i (jt rfl (jA b.has (Mt Mh) (ju a.B) rfl bQ aT)) (ug i (jB sW Y) (ug i (jt rfl (jA b.has (Mt Mh) (ju a.C) rfl bQ aT)) (bS J fun l6 g3 J => ue i (Eg b call76 (GV a.B a.C _ _  g3) (fun k5 b => ug i (ko rfl rfl rfl) (V (jO (cB i) rfl) ?_)))))))
      obtain rfl := sj J
      exact R _ _ ⟨_, (b.js St), Y, d3, d4, rfl⟩
     refine un i (un i (un i (un i (un i (un i (V (jQ (cB i) rfl) ?_))))))
     obtain rfl := sj J
     exact R _ _ ⟨_, (b.js St), Y, d3, d4, rfl⟩
    refine bC K (fun z K => ?_) (fun z K => ?_)
    ·refine ug z (jB sW s) (ug z (jt rfl (jA b.has (Mt Mh) (ju a.C) rfl bQ aT)) (bS K fun l7 g4 K => ue z (Eg b call74 (sZ a.C _ _  g4) (fun k6 b => V (jO (cB z) rfl) ?_))))
     obtain rfl := sj K
     exact a8 _ _ ⟨_, (b.js St), s, d1, d2, rfl⟩
    refine un z (un z (un z (V (jQ (cB z) rfl) ?_)))
    obtain rfl := sj K
    exact a8 _ _ ⟨_, (b.js St), s, d1, d2, rfl⟩
   refine bC M (fun y M => ?_) (fun y M => ?_)
   ·refine ug y (jB nV rfl) (ug y (jt rfl (jA b.has (Mt Mh) (ju a.B) rfl bQ aT)) (bS M fun l8 g7 M => ue y (Eg b call74 (sZ a.B _ _  g7) (fun k7 b => V (jO (cB y) rfl) ?_))))
    obtain rfl := sj M
    exact a9 _ _ ⟨_, (b.js St), rfl, rfl, rfl, rfl⟩
   refine un y (un y (un y (V (jQ (cB y) rfl) ?_)))
   obtain rfl := sj M
   exact a9 _ _ ⟨_, (b.js St), rfl, rfl, rfl, rfl⟩
  refine sg (Wa (ln ?_))
  replace b := b.js (Db (Db St))
  refine kv (nt (kI ?_))
  obtain rfl := sj g
  replace Z : some false = some r := Z
  obtain rfl := sj Z
  exact rP b
 rintro ⟨l9, e4⟩ E W ⟨b6, b, g8, g9, h0⟩ e9
 refine sg (Wh h0 (Wm (LJ e9 (fun d5 E W => ∃ b7, ST true kK w W (hp w) b7 ∧ E 97 = (.bool d5)) 4 ?_ (fun d5 Q O => ?_))))
 ·rintro m0 E W ⟨b7, b, h1⟩ f0
  exact Wg h1 (lt (rQ f0 b))
 refine bC Q (fun j Q => ?_) (fun j Q => ?_)
 ·refine ug j (jt g9 (jA b.has Mh (jr e4) rfl bX aQ)) (ug j (jt g8 (jA b.has (Mt Mh) (jr a) rfl bX aQ)) (ug j (wU rfl rfl (pu fW) (tH (yN _ e4 a))) (V (jO (cB j) rfl) ?_)))
  obtain rfl := sj Q
  exact O _ _ ⟨_, (b.js (Db (Db St))), rfl⟩
 refine un j (un j (un j (V (jQ (cB j) rfl) ?_)))
 obtain rfl := sj Q
 exact O _ _ ⟨_, (b.js (Db (Db St))), rfl⟩
theorem Dx (j : Value) (t : List jm) (c : jm) (r : Int) (w : World) (g : Sl (Pl jr) 9 (hp w) j t) (hm : vr t c = some r) :
  ke true pg0 81 [j, (.agg (jr c).toArray)] w (.int .i64 r) := by
 refine cG 19 func81 rfl (fun b => sg (VE (kq b rfl (fun Q J b => Wa (lS (Wm (V (lU aJ rfl g) (Wm (ln ?_)))))))))
 refine lQ (fun i E W => ∃ k, (E 8 = .int .i64 (i : Nat) ∧ E 7 = .int .i64 (t.length : Nat)) ∧ ST true kK w W (hp w) ((J, Ol (jr c) 49) :: k) ∧ E 0 = j ∧ E 3 = (.pointer (some ⟨J, 0, none⟩)) ∧ pD c (t.drop i) i = some r) t.length g.len ⟨_, ⟨rfl, rfl⟩, (b.js St), rfl, rfl, hm⟩ dc dc dc (fun _ _ _ h => by obtain ⟨_, m, _⟩ := h; exact m) ?_ ?_
 ·rintro K E W B ⟨k, ⟨l, p⟩, b, u, x, a⟩
  obtain ⟨y, M, H, G, I⟩ := lz B
  rw [H] at a
  refine bg (Wh l (Wa (ln (jI ?_))))
  replace b := b.drew
  have d := b.has.js (Kb Sn)
  refine kN d ki (XH 0 rfl d (fun _ n => jt x (jA n Mh (jr c) rfl bX aQ)) (X 1 rfl d (jx u) (X 2 rfl d (jx rfl) (XQ 3 rfl d (qU (enc := jr) (i := (K : Int)) (x0 := y) aJ aQ rfl rfl g (aX _) G) (fun N D => XH 4 rfl d (fun _ n => jt rfl (kl n D bX aQ)) (X 5 rfl d (wU rfl rfl (pu fW) (tH (yN _ c y))) (kM kr (jH (CI a rfl (fun z a => ?_) (fun z a => ?_))))))))))
  ·refine sg (Wm (Wa (ln ?_)))
   replace b := b.js (Db St)
   refine kv (nt (kI (nt (kI ?_))))
   obtain rfl := sj a
   exact rP b
  exact lJ (kz (jH ⟨l, _, ⟨rfl, p⟩, (b.js St), u, x, (by rw [I]; exact a)⟩))
 rintro E W ⟨k, ⟨l, p⟩, b, u, x, a⟩
 rw [bE] at a
 refine jH ?_
 replace b := b.js (Db St)
 exact sg (Wa (lt (rQ a b)))
theorem Bm (a : Value) (g : List jm) (c : jm) (r : Bool) (w : World) (i : Sl (Pl jr) 9 (hp w) a g) (hm : ry g c = some r) :
  ke true pg0 52 [a, (.agg (jr c).toArray)] w (.bool r) := by
 refine cG 9 func52 rfl (fun b => sg (VE (kq b rfl (fun k u b => Wa (lr (Wm (VA b Mh (jr c) bX aQ (bS hm fun x j hm => VE (Eg b call81 (Dx a g c _ _ (i.mono (Pl.mono _) b.jy) j) (fun t b => Wi rfl (Wa ?_)))))))))))
 refine ln ?_
 exact kv (rQ hm b)
theorem xQ (a : Value) (g : List jm) (c : jm) (r : Bool) (w : World) (i : Sl (Pl jr) 9 (hp w) a g) (hm : pf g c = some r) :
  ke true pg0 29 [a, (.agg (jr c).toArray)] w (.bool r) := by
 refine cG 8 func29 rfl (fun b => sg (VE (kq b rfl (fun k u b => Wa (lr (Wm (VA b Mh (jr c) bX aQ (bS hm fun x j hm => VE (Eg b call52 (Bm a g c _ _ (i.mono (Pl.mono _) b.jy) j) (fun t b => Wa (jU ?_)))))))))))
 refine jH ?_
 exact kv (rQ hm b)
theorem JK (a : jm) (r : List jl) (w : World) (hm : xT a = some r) :
  mH true pg0 144 [(.agg (jr a).toArray)] w 27 ju 2 r := by
 refine yc 27 func144 rfl (fun b => sg (VE (kq b rfl (fun W2 h b => Wa (lS (VA b Mh (jr a) bX aQ (bS hm fun r3 q hm => VE (Eg b call47 (yj a _ _  q) (fun W5 b => V (pa rfl) (jU ?_))))))))))
 refine jH (CI hm rfl (fun n hm => ?_) (fun n hm => ?_))
 ·refine sg (Wa (ln ?_))
  replace b := b.js (Db St)
  refine kv (kI ?_)
  obtain rfl := sj hm
  exact li (v := (.slice none 0 0)) rfl rfl ⟨_, [], rfl, b.qz (fun p d => by cases d) (by simp), jM.nil _ _ _⟩
 refine kg (Wf rW (VA b Mh (ju a.Head) bQ aT (VE (kp (cs := (ju a.Head).toArray) b (mD rfl) (mN fk aT fg) (fun W8 y b => Wa (ln (jI (CJ hm (fun I E W => ∃ j i z, ST true kK w W (hp w) ((h, Ol (jr a) 49) :: (i ++ z)) ∧ E 1 = (.pointer (some ⟨h, 0, none⟩)) ∧ E 3 = j ∧ jM 27 ju 2 j I i) (fun I g => ?_) ?_))))))))
 ·refine sg (Wf rG (VB b (Mt Mh) rfl rfl cJ (Wi rfl (ln (CI g rfl (fun Q g => ?_) (fun Q g => ?_))))))
  ·refine jC (Wm (Wf nV (VA b (Mt Mh) (ju a.B) bQ aT (VE (kp (cs := (ju a.B).toArray) b (mD rfl) (mN fk aT fg) (fun P a4 b => ?_))))))
   replace b := b.perm (Nb (Pb Pz) Nz)
   refine bS g fun c0 T g => VE (oC (enc := ju) (v := (.slice (some ⟨y, 0, none⟩) 1 1)) (vs := (.slice (some ⟨a4, 0, none⟩) 1 1)) (R := [(y, Ol (ju a.Head) 27)]) b BY dc xE fk zi.1 zi.2.1 rfl zi.2.2.1 zi.2.2.2 rfl rfl (jM.lit (l := [a.Head]) (enc := ju) rfl dc rfl rfl) (Sl.lit (enc := ju) (l := [a.B]) BY rfl nb rfl (b.at_ (Mt Mh))) T (fun b4 a9 m b K => Wa (ln ?_)))
   obtain rfl := sj g
   exact ⟨a9, m, _, (b.js (Sb (Pr (Pb Pz)) (Kr (Db St)))), rfl, rfl, K⟩
  refine kn ?_
  obtain rfl := sj g
  replace b := b.D6
  exact ⟨(.slice (some ⟨y, 0, none⟩) 1 1), [(y, Ol (ju a.Head) 27)], _, (b.js (Sb (Pr Pz) St)), rfl, rfl, (jM.lit (l := [a.Head]) (enc := ju) rfl dc rfl rfl)⟩
 rintro b5 E W ⟨j, i, z, b, D, G, u⟩ U
 refine jI (CJ U (fun H E W => ∃ t k B, ST true kK w W (hp w) (k ++ B) ∧ E 3 = t ∧ jM 27 ju 2 t H k) (fun H c => ?_) ?_)
 ·refine sg (V (jB rG D) (VB b Mh rfl rfl cJ (Wi rfl (ln (CI c rfl (fun M c => ?_) (fun M c => ?_))))))
  ·refine jC (Wh G (V (jB sW D) (VA b Mh (ju a.C) bQ aT (VE (kp (cs := (ju a.C).toArray) b (mD rfl) (mN fk aT fg) (fun L a3 b => ?_))))))
   replace b := b.perm (Nr (Qb (Qb Qz)) Nz)
   refine bS c fun b9 N c => VE (oC (enc := ju) (v := j) (vs := (.slice (some ⟨a3, 0, none⟩) 1 1)) (R := i) b BY dc xE fk zi.1 zi.2.1 rfl zi.2.2.1 zi.2.2.2 rfl rfl u (Sl.lit (enc := ju) (l := [a.C]) BY rfl nb rfl (b.at_ (Ma Mh))) N (fun O s Z b J => Wa (ln ?_)))
   obtain rfl := sj c
   exact ⟨s, Z, _, (b.js (Kr (Db (Db St)))), rfl, J⟩
  refine kn ?_
  obtain rfl := sj c
  exact ⟨j, i, _, (b.js (Db St)), G, u⟩
 rintro b6 E W ⟨t, k, B, b, a5, x⟩ Y
 refine sg (Wh a5 (Wa (lt ?_)))
 obtain rfl := sj Y
 exact li (v := t) rfl rfl ⟨_, k, rfl, b.qz (fun p d => (Ml d)) x.nd, x⟩
theorem Dc (M : Nat) (u : Value) (a9 : List (jl × (List (ByteArray × Bool)))) (G : LO) (D : Value) (a0 : List jm) (B : LO) (a : Value) (Y : List (jl × (List jm))) (I : LO) (c : Value) (K : List (ByteArray × (List jm))) (t : LO) (j : Value) (a4 : List jE) (y : LO) (J : Int) (H : jm) (r : ((List jm) × (List (jl × (List jm))) × (List (ByteArray × (List jm))))) (w : World) {μ0 : jN} (h0 : nT μ0 ((M, Ob #[u, D, a, c, j, (.int .i64 J)] 135) :: (G ++ (B ++ (I ++ (t ++ (y ++ [])))))) w) (e9 : lm (fun (x : jl) => (.agg (ju x).toArray)) (kZ Value.string (fun (x : Bool) => (Value.bool x))) u a9 G) (a6 : jM 49 jr 9 D a0 B) (b2 : lm (fun (x : jl) => (.agg (ju x).toArray)) (jM 49 jr 9) a Y I) (T : lm Value.string (jM 49 jr 9) c K t) (e1 : pq 111 lh 3 j a4 y) (hm : sr a9 a0 Y K a4 J H = some r) :
  kA true pg0 120 [(.pointer (some ⟨M, 0, none⟩)), (.agg (jr H).toArray)] w ((M, Ob #[u, D, a, c, j, (.int .i64 J)] 135) :: (G ++ (B ++ (I ++ (t ++ (y ++ [])))))) (fun v L1 W' => ∃ y1 S2 S4 S6, v = (.tuple #[]) ∧ L1 = ((M, Ob #[u, y1, a, c, j, (.int .i64 J)] 135) :: (G ++ (S2 ++ (S4 ++ (S6 ++ (y ++ [])))))) ∧ jM 49 jr 9 y1 r.1 S2 ∧ lm (fun (x : jl) => (.agg (ju x).toArray)) (jM 49 jr 9) a r.2.1 S4 ∧ lm Value.string (jM 49 jr 9) c r.2.2 S6) := by
 refine xL h0 55 func120 rfl (fun d => sg (VE (kq d rfl (fun W2 b1 d => ln (jI ?_)))))
 replace d := d.drew
 have m := d.has.js (Kb Sn)
 have n := d.has.js (Db (Kb Sn))
 refine tR 10 m n ki (jZ 0 rfl kr (.inl rfl) rfl dc (fun _ _ h => ⟨h.1, kB br h.2⟩) ⟨m, fun _ => n⟩ (fun _ _ _ _ => jx rfl) (jZ 1 rfl kr (.inl rfl) rfl dc (fun _ _ h => ⟨h.1, kB br h.2⟩) ⟨m, fun _ => n⟩ (fun _ _ _ _ => jx rfl) (jZ 2 rfl kr (.inl rfl) rfl dc (fun _ _ h => ⟨h.1, kB br h.2⟩) ⟨m, fun _ => n⟩ (fun _ _ _ _ => mJ rfl) (jZ 3 rfl kr (.inl rfl) rfl dc (fun _ _ h => ⟨h.1, kB br h.2⟩) ⟨m, fun _ => n⟩ (fun _ _ _ _ => jB G4 rfl) (jZ 4 rfl kr (.inl rfl) rfl dc (fun _ _ h => ⟨h.1, kB br h.2⟩) ⟨m, fun _ => n⟩ (fun l W q s => have p := (s.2 (q.Bk 10 [4] kr rfl)); jt rfl (jG p Mh rfl dY)) (jZ 5 rfl kr (.inl rfl) rfl dc (fun _ _ h => ⟨h.1, kB br h.2⟩) ⟨m, fun _ => n⟩ (fun l W q s => have p := s.1; jt rfl (jA p Mh (jr H) rfl bX aQ)) (XE 6 rfl (kp (cs := (jr H).toArray) d (mD rfl) (mN aJ aQ dn) (fun k0 g0 d => ?_)))))))))
 have m := d.has.js (Db (Kb Sn))
 have n := d.has.js (Db (Db (Kb Sn)))
 refine ⟨⟨m, fun _ => n⟩, ?_⟩
 replace d := d.perm (Nr (Qb (Qb (Qb (Qr Qz)))) Nz)
 refine bS hm fun a5 f0 hm => XE 7 rfl (oC (enc := jr) (v := D) (vs := (.slice (some ⟨g0, 0, none⟩) 1 1)) (R := B) d kj dc nw aJ lT.1 lT.2.1 rfl lT.2.2.1 lT.2.2.2 rfl rfl a6 (Sl.lit (enc := jr) (l := [H]) kj rfl nb rfl (d.at_ (Ma Mh))) f0 (fun k1 k4 b7 d b5 => ?_))
 have m := d.has.js (Dr (Db (Kb Sn)))
 have n := d.has.js (Dr (Db (Db (Kb Sn))))
 refine ⟨⟨m, fun _ => n⟩, (jZ 8 rfl kr (.inl rfl) rfl dc (fun _ _ h => ⟨h.1, kB br h.2⟩) ⟨m, fun _ => n⟩ (fun _ _ _ _ => mJ rfl) (jZ 9 rfl kr (.inl rfl) rfl dc (fun _ _ h => ⟨h.1, kB br h.2⟩) ⟨m, fun _ => n⟩ (fun _ _ _ _ => jB G4 rfl) ?_))⟩
 obtain ⟨a8, b0, rfl⟩ := b5.form
 let L : Value := (.slice a8 a5.length b0)
 replace d := d.perm (Nb (Pr (Pb (Pb Pz))) Nz)
 refine XO 10 rfl (jL L (#[u, L, a, c, j, (.int .i64 J)]) d rfl rfl dw oc nb rfl (fun k2 d => ?_))
 have m := d.has.js (Db (Dr (Db (Kb Sn))))
 refine ⟨⟨m, fun h => wJ kr h⟩, (kM kr (jH ?_))⟩
 replace d := d.js (Kb (Kr (Db St)))
 refine jI (sg (VA d (Mt (Ma Mh)) (jr H) bX aQ (bS hm fun c1 f1 hm => VE (vE d call144 (JK H _ _  f1) (fun k3 k5 k6 j9 d g4 ab e8 => ?_)))))
 let b8 := (c1.drop (Int.toNat 1))
 obtain ⟨g3, d, g7, ad, f2⟩ := ST.Fi d e8 BY
 refine bS hm fun _ b9 hm => VQ (ET (i := 1) fk aT rfl rfl f2 (vI b9) (vw b9)) (fun g1 b6 => V (lU fk rfl b6.1) (Wm (ln (lQ (fun i E W => ∃ a3 U P, (E 20 = .int .i64 (i : Nat) ∧ E 19 = .int .i64 (b8.length : Nat)) ∧ ST true (keys ((M, Ob #[u, D, a, c, j, (.int .i64 J)] 135) :: (G ++ (B ++ (I ++ (t ++ (y ++ []))))))) w W g3 ((M, Ob #[u, L, a, c, j, (.int .i64 J)] 135) :: ((b1, Ol (jr H) 49) :: (U ++ (b7 ++ (G ++ (t ++ (y ++ P))))))) ∧ E 0 = (.pointer (some ⟨M, 0, none⟩)) ∧ E 3 = (.pointer (some ⟨b1, 0, none⟩)) ∧ E 18 = g1 ∧ lm (fun (x : jl) => (.agg (ju x).toArray)) (jM 49 jr 9) a a3 U ∧ nZ H K a5 (b8.drop i) a3 = some r) b8.length b6.1.len ⟨Y, I, _, ⟨rfl, rfl⟩, (d.js (Kb (Sb (Pr Pz) (Sr (Qr (Qr Qz)) St)))), rfl, rfl, rfl, b2, hm⟩ dc dc dc (fun _ _ _ h => by obtain ⟨_, _, _, aa, _⟩ := h; exact aa) ?_ ?_))))
 ·rintro f3 E W d3 ⟨a3, U, P, ⟨eI, eN⟩, d, a2, N, b4, Z, g⟩
  obtain ⟨Q, h4, d8, d7, d9⟩ := lz d3
  rw [d8] at g
  refine bg (VQ (qU (enc := ju) (i := (f3 : Int)) (x0 := Q) fk aT b4 eI b6.1 (aX _) d7) (fun j4 d4 => V (jt rfl (kl d.has d4 bQ aT)) (VE (kx d fg (fun i1 j0 d => VO (jL (.agg (ju Q).toArray) ((ju Q).toArray) d rfl rfl aT (xE Q) nb rfl (fun i2 d => ln ?_)))))))
  replace d := d.drew
  have m := d.has.js (Kb (Kb (Kb Sn)))
  refine kN m ki (X 0 rfl m (jx a2) (X 1 rfl m (mJ rfl) (X 2 rfl m (jB Kv rfl) (XH 3 rfl m (fun _ p => jt rfl (jG p (Mt Mh) rfl isAgg132)) (XH 4 rfl m (fun _ p => jt rfl (jA p Mh (ju Q) rfl bQ aT)) (XH 5 rfl m (fun _ p => jt N (jA p (Mt (Mt Mh)) (jr H) rfl bX aQ)) (XE 6 rfl (kp (cs := (jr H).toArray) d (mD rfl) (mN aJ aQ dn) (fun i3 e6 d => ?_)))))))))
  have m := d.has.js (Db (Kb (Kb (Kb Sn))))
  refine ⟨m, ?_⟩
  obtain ⟨h1, d1⟩ := Z
  replace d := d.perm (Nr (Qb (Qb (Qb (Qb Qz)))) Nz)
  refine XE 7 rfl (Lx (k := Q) (x0 := [])  jK zG underlying132 gn (jM.nil _ _ _) d d1 rfl rfl (fun i4 f5 h3 h6 e2 d c3 c2 => ?_))
  have m := d.has.js (Dr (Dr (Db (Kb (Kb (Kb Sn))))))
  refine ⟨m, (X 8 rfl m (qa rfl rfl) (X 10 rfl m (qa rfl rfl) ?_))⟩
  replace d := d.perm (Nr (Qr Qz) Nz)
  refine bS g fun c0 c8 g => XE 9 rfl (oC (enc := jr) (v := f5) (vs := (.slice (some ⟨e6, 0, none⟩) 1 1)) (R := e2) d kj dc nw aJ lT.1 lT.2.1 rfl lT.2.2.1 lT.2.2.2 rfl rfl c3 (Sl.lit (enc := jr) (l := [H]) kj rfl nb rfl (d.at_ (Ma (Ma Mh)))) c8 (fun i5 j5 h7 d c4 => ?_))
  have m := d.has.js (Dr (Dr (Db (Kb (Kb (Kb Sn))))))
  refine ⟨m, ?_⟩
  replace d := d.perm (Nr (Qr Qz) Nz)
  refine XO 11 rfl (JH (e := 0) (z := c0)  jK zG d c2 rfl rfl rfl c4 (fun i6 h2 e3 d c5 => ?_))
  have m := d.has.js (Dr (Db (Kb (Kb (Kb Sn)))))
  refine ⟨m, (kM kr (kz (jH ?_)))⟩
  replace d := d.js (Kr (Db (Db St)))
  exact ⟨eI, (nL jJ a3 Q c0), e3, _, ⟨rfl, eN⟩, (d.js (Sb (Pr Pz) (Sb (Pr Pz) St))), a2, N, b4, c5.e, (by rw [d9]; exact g)⟩
 rintro E W ⟨a3, U, P, ⟨eI, eN⟩, d, a2, N, b4, Z, g⟩
 rw [bE] at g
 refine jH (sg (V (jB rG N) (VB d (Mt Mh) rfl rfl cJ (Wi rfl (ln (CI g rfl (fun c9 g => ?_) (fun c9 g => ?_)))))))
 ·replace d := d.drew
  have m := d.has.js (Kb (Kb Sn))
  have n := d.has.js (Db (Db (Dr (Dr (Dr (Kr Sn))))))
  refine tR 15 m n ki (jZ 0 rfl kr (.inl rfl) rfl dc (fun _ _ h => ⟨h.1, kB br h.2⟩) ⟨m, fun _ => n⟩ (fun _ _ _ _ => jx a2) (jZ 1 rfl kr (.inl rfl) rfl dc (fun _ _ h => ⟨h.1, kB br h.2⟩) ⟨m, fun _ => n⟩ (fun _ _ _ _ => mJ rfl) (jZ 2 rfl kr (.inl rfl) rfl dc (fun _ _ h => ⟨h.1, kB br h.2⟩) ⟨m, fun _ => n⟩ (fun _ _ _ _ => jB Hg rfl) (jZ 3 rfl kr (.inl rfl) rfl dc (fun _ _ h => ⟨h.1, kB br h.2⟩) ⟨m, fun _ => n⟩ (fun l W q s => have p := s.1; jt rfl (jG p Mh rfl isAgg133)) (jZ 4 rfl kr (.inl rfl) rfl dc (fun _ _ h => ⟨h.1, kB br h.2⟩) ⟨m, fun _ => n⟩ (fun _ _ _ _ => jB um N) (jZ 5 rfl kr (.inl rfl) rfl dc (fun _ _ h => ⟨h.1, kB br h.2⟩) ⟨m, fun _ => n⟩ (fun l W q s => have p := s.1; jt rfl (jG p (Mt Mh) rfl bU)) (jZ 6 rfl kr (.inl rfl) rfl dc (fun _ _ h => ⟨h.1, kB br h.2⟩) ⟨m, fun _ => n⟩ (fun _ _ _ _ => jx a2) (jZ 7 rfl kr (.inl rfl) rfl dc (fun _ _ h => ⟨h.1, kB br h.2⟩) ⟨m, fun _ => n⟩ (fun _ _ _ _ => mJ rfl) (jZ 8 rfl kr (.inl rfl) rfl dc (fun _ _ h => ⟨h.1, kB br h.2⟩) ⟨m, fun _ => n⟩ (fun _ _ _ _ => jB Hg rfl) (jZ 9 rfl kr (.inl rfl) rfl dc (fun _ _ h => ⟨h.1, kB br h.2⟩) ⟨m, fun _ => n⟩ (fun l W q s => have p := s.1; jt rfl (jG p Mh rfl isAgg133)) (jZ 10 rfl kr (.inl rfl) rfl dc (fun _ _ h => ⟨h.1, kB br h.2⟩) ⟨m, fun _ => n⟩ (fun _ _ _ _ => jB um N) (jZ 11 rfl kr (.inl rfl) rfl dc (fun _ _ h => ⟨h.1, kB br h.2⟩) ⟨m, fun _ => n⟩ (fun l W q s => have p := s.1; jt rfl (jG p (Mt Mh) rfl bU)) ?_))))))))))))
  obtain ⟨e0, O⟩ := T
  obtain ⟨h8, g8, g9⟩ := mu.rowAt lI.1 O H.kC
  refine jZ 12 rfl kr (.inl rfl) rfl dc (fun _ _ h => ⟨h.1, kB br h.2⟩) ⟨m, fun _ => n⟩ (fun l W q s => have p := (s.2 (q.Bk 15 [12] kr rfl)); oM (k := H.kC) (z := (.slice none 0 0)) Gj underlying133 gn rfl rfl O (fun b o hq => p.2 b o (Ml hq))) (jZ 13 rfl kr (.inl rfl) rfl dc (fun _ _ h => ⟨h.1, kB br h.2⟩) ⟨m, fun _ => n⟩ (fun l W q s => have p := s.1; jt N (jA p (Mt Mh) (jr H) rfl bX aQ)) (XE 14 rfl (kp (cs := (jr H).toArray) d (mD rfl) (mN aJ aQ dn) (fun i7 e7 d => ?_))))
  have m := d.has.js (Db (Kb (Kb Sn)))
  have n := d.has.js (Db (Db (Db (Dr (Dr (Dr (Kr Sn)))))))
  refine ⟨⟨m, fun _ => n⟩, ?_⟩
  replace d := d.perm (Nr (Qb (Qb (Qb (Qr (Qr (Qr Qz)))))) Nz)
  obtain ⟨h9, e4, d5, d6, d2⟩ := mu.open lI.1 (jM.nil _ _ _) O H.kC
  replace d := d.perm (Ts d5)
  replace d := d.perm (Nr (Qr Qz) Nz)
  refine bS g fun f4 d0 g => XE 15 rfl (oC (enc := jr) (v := (qL kD e0 H.kC (.slice none 0 0))) (vs := (.slice (some ⟨e7, 0, none⟩) 1 1)) (R := e4) d kj dc nw aJ lT.1 lT.2.1 rfl lT.2.2.1 lT.2.2.2 rfl rfl d6 (Sl.lit (enc := jr) (l := [H]) kj rfl nb rfl (d.at_ (Ma (Ma Mh)))) d0 (fun i8 j6 i0 d c6 => ?_))
  have m := d.has.js (Dr (Dr (Db (Kb (Kb Sn)))))
  refine ⟨⟨m, fun h => wJ kr h⟩, ?_⟩
  replace d := d.perm (Nr (Qr Qz) Nz)
  refine XO 16 rfl (Qy (k := H.kC) (z := f4)  Gj underlying133 d d2 rfl rfl rfl c6 (fun i9 e5 d c7 => ?_))
  have m := d.has.js (Dr (Db (Kb (Kb Sn))))
  refine ⟨⟨m, fun h => wJ kr h⟩, (kM kr (qe ?_))⟩
  obtain rfl := sj g
  exact ox rfl ⟨_, _, rfl, (d.mi (Sb (Pr (Pb Pz)) (Sr (Qr (Qb (Qb (Qr (Qr Qz))))) (Sr (Qr (Qb (Qb (Qr Qz)))) (Sr (Qr (Qb (Qb Qz))) (Kr (Db (Db (Kr Sn))))))))), L, b7, U, e5, rfl, rfl, b5, Z, c7.e⟩
 refine lJ (qe ?_)
 obtain rfl := sj g
 exact ox rfl ⟨_, _, rfl, (d.mi (Kb (Db (Sr (Qr (Qr Qz)) (Sr (Qr Qz) (Kr (Kr (Kr Sn)))))))), L, b7, U, t, rfl, rfl, b5, Z, T⟩
theorem qo (J : Nat) (g : Value) (a0 : List (jl × (List (ByteArray × Bool)))) (D : LO) (a : Value) (M : List jm) (u : LO) (j : Value) (Z : List (jl × (List jm))) (B : LO) (c : Value) (N : List (ByteArray × (List jm))) (y : LO) (i : Value) (Y : List jE) (t : LO) (H : Int) (G : jl) (U : ByteArray) (r : ((List (jl × (List (ByteArray × Bool)))) × (List jE) × Int)) (w : World) {μ0 : jN} (h0 : nT μ0 ((J, Ob #[g, a, j, c, i, (.int .i64 H)] 135) :: (D ++ (u ++ (B ++ (y ++ (t ++ [])))))) w) (a5 : lm (fun (x : jl) => (.agg (ju x).toArray)) (kZ Value.string (fun (x : Bool) => (Value.bool x))) g a0 D) (b5 : jM 49 jr 9 a M u) (c3 : lm (fun (x : jl) => (.agg (ju x).toArray)) (jM 49 jr 9) j Z B) (b6 : lm Value.string (jM 49 jr 9) c N y) (K : pq 111 lh 3 i Y t) (hm : nk a0 M Z N Y H G U = some r) :
  kA true pg0 145 [(.pointer (some ⟨J, 0, none⟩)), (.agg (ju G).toArray), (.string U)] w ((J, Ob #[g, a, j, c, i, (.int .i64 H)] 135) :: (D ++ (u ++ (B ++ (y ++ (t ++ [])))))) (fun v L1 W' => ∃ S1 y3 S4, v = (.tuple #[]) ∧ L1 = ((J, Ob #[g, a, j, c, y3, (.int .i64 (r.2.2))] 135) :: (S1 ++ (u ++ (B ++ (y ++ (S4 ++ [])))))) ∧ lm (fun (x : jl) => (.agg (ju x).toArray)) (kZ Value.string (fun (x : Bool) => (Value.bool x))) g r.1 S1 ∧ pq 111 lh 3 y3 r.2.1 S4) := by
 let a1 := (#[g, a, j, c, i, (.int .i64 H)] : Array Value)
 refine xL h0 53 func145 rfl (fun m => sg (VE (kq m rfl (fun W2 b1 m => ln (jI (jI ?_))))))
 replace m := m.drew
 have d := m.has.js (Kb (Kb (Kr Sn)))
 refine kN d ki (X 0 rfl d (jx rfl) (X 1 rfl d (mJ rfl) (X 2 rfl d (jB wx rfl) (XH 3 rfl d (fun _ p => jt rfl (jG p (Mt Mh) rfl gO)) (XH 4 rfl d (fun _ p => jt rfl (jA p Mh (ju G) rfl bQ aT)) ?_)))))
 obtain ⟨f4, Q⟩ := a5
 refine XH 5 rfl d (fun _ p => oM (k := G) (z := (.map none)) zG eB fl rfl rfl Q (fun b o L => p.2 b o (Mt (Mt (Ml L))))) (X 6 rfl d (jx rfl) (XH 7 rfl d (fun _ p => zc (k := U) (z := false) (vf := (fun (x : Bool) => (Value.bool x))) Gj fB gJ rfl rfl (mu.CN (μ := hp _) jK.1 Q G (fun b o L => p.2 b o (Mt (Mt (Ml L)))))) (kM kr (jH (CI hm rfl (fun d5 hm => ?_) (fun d5 hm => ?_))))))
 ·refine kv (kI ?_)
  obtain rfl := sj hm
  exact ox rfl ⟨_, _, rfl, (m.mi (Db (Kb (Kr (Kr (Kr (Kr (Kr Sn)))))))), D, i, t, rfl, rfl, Q.e, K⟩
 refine kn (jI (CJ hm (fun b2 E W => ∃ a8 c0, ST true (keys ((J, Obj.cells a1 135 (0, 0)) :: (D ++ (u ++ (B ++ (y ++ (t ++ []))))))) w W μ0 ((b1, Ol (ju G) 27) :: ((J, Obj.cells a1 135 (0, 0)) :: (a8 ++ (u ++ (B ++ (y ++ (t ++ c0))))))) ∧ E 0 = (.pointer (some ⟨J, 0, none⟩)) ∧ E 2 = (.string U) ∧ E 4 = (.pointer (some ⟨b1, 0, none⟩)) ∧ lm (fun (x : jl) => (.agg (ju x).toArray)) (kZ Value.string (fun (x : Bool) => (Value.bool x))) g b2 a8) (fun b2 I => ?_) ?_))
 ·refine jI ?_
  replace m := m.drew
  have d := m.has.js (Kb (Kb (Kr Sn)))
  refine kN d ki (X 0 rfl d (jx rfl) (X 1 rfl d (mJ rfl) (X 2 rfl d (jB wx rfl) (XH 3 rfl d (fun _ p => jt rfl (jG p (Mt Mh) rfl gO)) (XH 4 rfl d (fun _ p => jt rfl (jA p Mh (ju G) rfl bQ aT)) (XH 5 rfl d (fun _ p => oM (k := G) (z := (.map none)) zG eB fl rfl rfl Q (fun b o L => p.2 b o (Mt (Mt (Ml L))))) (X 6 rfl d (JV jK.1 fB Q rfl rfl) (kM kr (jH (CI I rfl (fun b7 I => ?_) (fun b7 I => ?_)))))))))))
  ·replace m := m.drew
   have d := m.has.js (Kb (Kb Sn))
   refine kN d ki (X 0 rfl d (jx rfl) (X 1 rfl d (mJ rfl) (X 2 rfl d (jB wx rfl) (XH 3 rfl d (fun _ p => jt rfl (jG p (Mt Mh) rfl gO)) (XH 4 rfl d (fun _ p => jt rfl (jA p Mh (ju G) rfl bQ aT)) (XE 5 rfl (HA (P := pg0) Value.string (fun (x : Bool) => (Value.bool x)) m (fun e1 e7 d9 m b3 => ?_))))))))
   have d := m.has.js (Dr (Kb (Kb Sn)))
   refine ⟨d, ?_⟩
   replace m := m.perm (Nr (Qr (Qb (Qb Qz))) Nz)
   refine bS I fun e4 b9 I => XO 6 rfl (NA (k := G) (z := ([]))  zG eB m Q rfl rfl rfl b3 b9 (fun e2 c4 m b4 => ?_))
   have d := m.has.js (Dr (Kb (Kb Sn)))
   refine ⟨d, (kM kr (jH ?_))⟩
   obtain rfl := sj I
   exact ⟨c4, _, (m.js (Sb (Pr Pz) (Sb (Pr Pz) St))), rfl, rfl, rfl, b4.e⟩
  refine kn ?_
  obtain rfl := sj I
  exact ⟨D, _, (m.js St), rfl, rfl, rfl, Q.e⟩
 rintro f2 E W ⟨a8, c0, m, O, c1, c2, c8⟩ T
 refine jI ?_
 replace m := m.drew
 have d := m.has.js (Kb (Kb Sn))
 have n := m.has.js (Db (Db (Kr Sn)))
 refine tR 7 d n ki (jZ 0 rfl kr (.inl rfl) rfl dc (fun _ _ h => ⟨h.1, kB br h.2⟩) ⟨d, fun _ => n⟩ (fun _ _ _ _ => jx O) (jZ 1 rfl kr (.inl rfl) rfl dc (fun _ _ h => ⟨h.1, kB br h.2⟩) ⟨d, fun _ => n⟩ (fun _ _ _ _ => mJ rfl) (jZ 2 rfl kr (.inl rfl) rfl dc (fun _ _ h => ⟨h.1, kB br h.2⟩) ⟨d, fun _ => n⟩ (fun _ _ _ _ => jB wx rfl) (jZ 3 rfl kr (.inl rfl) rfl dc (fun _ _ h => ⟨h.1, kB br h.2⟩) ⟨d, fun _ => n⟩ (fun l W q s => have p := s.1; jt rfl (jG p (Mt Mh) rfl gO)) (jZ 4 rfl kr (.inl rfl) rfl dc (fun _ _ h => ⟨h.1, kB br h.2⟩) ⟨d, fun _ => n⟩ (fun l W q s => have p := s.1; jt c2 (jA p Mh (ju G) rfl bQ aT)) ?_)))))
 obtain ⟨e5, a9⟩ := c8
 refine jZ 5 rfl kr (.inl rfl) rfl dc (fun _ _ h => ⟨h.1, kB br h.2⟩) ⟨d, fun _ => n⟩ (fun l W q s => have p := (s.2 (q.Bk 7 [5] kr rfl)); oM (k := G) (z := (.map none)) zG eB fl rfl rfl a9 (fun b o L => p.2 b o (Ml L))) (jZ 6 rfl kr (.inl rfl) rfl dc (fun _ _ h => ⟨h.1, kB br h.2⟩) ⟨d, fun _ => n⟩ (fun _ _ _ _ => jx c1) ?_)
 replace m := m.perm (Nr (Qb (Qb Qz)) Nz)
 refine bS T fun f3 c7 T => XO 7 rfl (L7 (k := G) (v := true) (vf := (fun (x : Bool) => (Value.bool x)))  jK.1 Gj fB m a9 rfl rfl rfl c7 (fun e8 c9 m c5 => ?_))
 have d := m.has.js (Dr (Kb (Kb Sn)))
 refine ⟨⟨d, fun h => wJ kr h⟩, (kM kr (jH (sg (Wh O (Wn (Wf EA (VB m (Ma (Mt Mh)) rfl rfl cJ (Wi rfl (Wn (Wf EA ?_))))))))))⟩
 replace m := m.perm (Nb (Pr (Pb Pz)) Nz)
 refine VO (jL (.int .i64 (wi0 .i64 (H + 1))) (#[g, a, j, c, i, (.int .i64 (wi0 .i64 (H + 1)))]) m rfl rfl dR (wc _ (wi0 .i64 (H + 1))) nb rfl (fun e9 m => ln ?_))
 replace m := m.drew
 have d := m.has.js (Db (Dr (Kb Sn)))
 have n := m.has.js (Kb Sn)
 refine tR 12 d n ki (jZ 0 rfl kr (.inl rfl) rfl dc (fun _ _ h => ⟨h.1, kB br h.2⟩) ⟨d, fun _ => n⟩ (fun _ _ _ _ => jx O) (jZ 1 rfl kr (.inl rfl) rfl dc (fun _ _ h => ⟨h.1, kB br h.2⟩) ⟨d, fun _ => n⟩ (fun _ _ _ _ => jx O) (jZ 2 rfl kr (.inl rfl) rfl dc (fun _ _ h => ⟨h.1, kB br h.2⟩) ⟨d, fun _ => n⟩ (fun _ _ _ _ => mJ rfl) (jZ 3 rfl kr (.inl rfl) rfl dc (fun _ _ h => ⟨h.1, kB br h.2⟩) ⟨d, fun _ => n⟩ (fun _ _ _ _ => jB Aj rfl) (jZ 4 rfl kr (.inl rfl) rfl dc (fun _ _ h => ⟨h.1, kB br h.2⟩) ⟨d, fun _ => n⟩ (fun l W q s => have p := (s.2 (q.Bk 12 [4] kr rfl)); jt rfl (jG p Mh rfl isAgg89)) (jZ 5 rfl kr (.inl rfl) rfl dc (fun _ _ h => ⟨h.1, kB br h.2⟩) ⟨d, fun _ => n⟩ (fun l W q s => have p := s.1; jt c2 (jA p Mh (ju G) rfl bQ aT)) (jZ 6 rfl kr (.inl rfl) rfl dc (fun _ _ h => ⟨h.1, kB br h.2⟩) ⟨d, fun _ => n⟩ (fun _ _ _ _ => jx c1) (jZ 7 rfl kr (.inl rfl) rfl dc (fun _ _ h => ⟨h.1, kB br h.2⟩) ⟨d, fun _ => n⟩ (fun _ _ _ _ => mr (v := (.agg (lh (⟨G, U⟩ : jE)).toArray)) (sa rfl rfl) (lM iW fA (O8 _ fA) kr)) (XE 8 rfl (kp (cs := (lh (⟨G, U⟩ : jE)).toArray) m (mD rfl) (mN ib iS iW) (fun f0 d4 m => ?_)))))))))))
 have d := m.has.js (Db (Db (Dr (Kb Sn))))
 have n := m.has.js (Db (Kb Sn))
 refine ⟨⟨d, fun _ => n⟩, ?_⟩
 replace m := m.perm (Nr (Qb (Qb (Qr (Qb (Qr (Qr (Qr Qz))))))) Nz)
 refine bS T fun b0 c6 T => XE 9 rfl (JZ (enc := lh) (v := i) (vs := (.slice (some ⟨d4, 0, none⟩) 1 1)) (R := t) m wo dc Ke ib EE.1 EE.2.1 rfl EE.2.2.1 EE.2.2.2 rfl rfl K (Sl.lit (enc := lh) (l := [(⟨G, U⟩ : jE)]) wo rfl nb rfl (m.at_ (Ma Mh))) c6 (fun f1 e6 d0 m a7 => ?_))
 have d := m.has.js (Dr (Db (Db (Dr (Kb Sn)))))
 have n := m.has.js (Dr (Db (Kb Sn)))
 refine ⟨⟨d, fun _ => n⟩, (jZ 10 rfl kr (.inl rfl) rfl dc (fun _ _ h => ⟨h.1, kB br h.2⟩) ⟨d, fun _ => n⟩ (fun _ _ _ _ => mJ rfl) (jZ 11 rfl kr (.inl rfl) rfl dc (fun _ _ h => ⟨h.1, kB br h.2⟩) ⟨d, fun _ => n⟩ (fun _ _ _ _ => jB Aj rfl) ?_))⟩
 obtain ⟨a3, a4, rfl⟩ := a7.form
 let a2 : Value := (.slice a3 b0.length a4)
 replace m := m.perm (Nb (Pr (Pb Pz)) Nz)
 refine XO 12 rfl (jL a2 (#[g, a, j, c, a2, (.int .i64 (wi0 .i64 (H + 1)))]) m rfl rfl sizeOf89 oc nb rfl (fun e0 m => ?_))
 have d := m.has.js (Db (Dr (Db (Dr (Kb Sn)))))
 refine ⟨⟨d, fun h => wJ kr h⟩, (kM kr (qe ?_))⟩
 obtain rfl := sj T
 exact ox rfl ⟨_, _, rfl, (m.mi (Kb (Sr (Qr (Qb Qz)) (Sr (Qr (Qb (Qb Qz))) (Sr (Qr (Qb (Qb Qz))) (Sr (Qr (Qb (Qb Qz))) (Kr Sn))))))), c9, a2, d0, rfl, rfl, c5.e, a7⟩
theorem uZ (a : Value) (g : List (ByteArray × Bool)) (r : Unit) (w : World) (c : uj Value.string (fun (x : Bool) => (Value.bool x)) (hp w) a g) (hm : ov g = some r) :
  kA true pg0 157 [a] w [] (fun v k W' => ∃ i, v = (.func (.func 170) #[] #[(.pointer (some ⟨i, 0, none⟩))]) ∧ k = ((i, Ob #[a] 136) :: [])) := by
 refine yc 4 func157 rfl (fun b => sg ?_)
 obtain ⟨t, rfl⟩ := c.form
 refine VE (kq b rfl (fun u j b => Wa (lr (V (pG (by exact tm rfl) rfl) (Wa (lt ?_))))))
 obtain rfl := sj hm
 exact li (v := (.func (.func 170) #[] #[(.pointer (some ⟨j, 0, none⟩))])) rfl rfl ⟨_, _, rfl, (b.EV (Kb Sn)), j, rfl, rfl⟩
theorem Hp {β : Type} {vf : β → Value} {l : List (ByteArray × β)} {b : Nat} {a : Value} {W : World} {r : List ByteArray} (d : W.heap[b]? = some (.cells #[a] 136 (0, 0))) (hm : uj Value.string vf (hp W) a l) (hk : FM l = some r) : mH false pg0 156 [.func (.func 170) #[] #[.pointer (some ⟨b, 0, none⟩)]] W 9 Cw 1 r := JO (P := pg0) Qi P3 RD rfl bW call170 call169 d hm hk
theorem xt (T : Nat) (a : Value) (u : List (jl × (List (ByteArray × Bool)))) (c : Value) (t : List jm) (j : Value) (G : List (jl × (List jm))) (g : Value) (B : List (ByteArray × (List jm))) (i : Value) (D : List jE) (Q : Int) (H : jl) (r : List ByteArray) (w : World) (J : ou (fun (x : jl) => (.agg (ju x).toArray)) (kZ Value.string (fun (x : Bool) => (Value.bool x))) (hp w) a u) (Z : Sl (Pl jr) 9 (hp w) c t) (a4 : ou (fun (x : jl) => (.agg (ju x).toArray)) (jM 49 jr 9) (hp w) j G) (a0 : ou Value.string (jM 49 jr 9) (hp w) g B) (a3 : Sl (Pl lh) 3 (hp w) i D) (Y : At (hp w) (.pointer (some ⟨T, 0, none⟩)) [a, c, j, g, i, (.int .i64 Q)]) (hm : qb u t G B D Q H = some r) :
  mH false pg0 146 [(.pointer (some ⟨T, 0, none⟩)), (.agg (ju H).toArray)] w 9 Cw 1 r := by
 refine yc 15 func146 rfl (fun d => sg (VE (kq d rfl (fun W2 W d => Wa (lS (Wm (V (wv underlying106 rfl rfl) (ln (su rfl ?_)))))))))
 refine kn (jI ?_)
 replace d := d.drew
 have h := d.has.js (Kb Sn)
 refine kN h ki (X 0 rfl h (jx rfl) (X 1 rfl h (mJ rfl) (XQ 2 rfl h (qH [a] wx rfl Y rfl) (fun b9 E => XH 3 rfl h (fun _ l => jt rfl (oO l (y := a) E gO)) (XH 4 rfl h (fun _ l => jt rfl (jA l Mh (ju H) rfl bQ aT)) ?_)))))
 obtain ⟨a9, b4, K, M⟩ := J
 refine XH 5 rfl h (fun _ l => oM (k := H) (z := (.map none)) zG eB fl rfl rfl K (fun b o m => l.1 b o (M b o m))) (bS hm fun c0 L hm => ?_)
 refine XE 6 rfl (yb d (bR _) call157 (fun _ _ _ _ => kA.lR (uZ (qL jJ a9 H (.map none)) ((kJ jJ u H).getD []) _ _ ((mu.CN jK.1 K H M).mono d.jy) L)) (fun b5 c2 c3 b3 d I q n a5 => ?_) (L0 := []))
 obtain ⟨b7, N, rfl⟩ := a5
 replace N := N.symm; subst N
 replace d := d.perm (Tb Tn)
 have h := d.has.zB I (Db (Kb Sn))
 refine ⟨h, (bS hm fun c1 O hm => XE 7 rfl (vE d call156 (Hp (vf := (fun (x : Bool) => (Value.bool x))) (d.has.2 _ _ Mh) ((mu.CN jK.1 K H M).mono (fun b o m => d.has.1 b o (I b o m))) O) (fun b6 R c4 P d a2 s U => ?_)))⟩
 have h := d.has.zB (I.trans a2) (Dr (Db (Kb Sn)))
 refine ⟨h, (X 8 rfl h (ma rfl) (kM kr (jH ?_)))⟩
 replace d := d.js (Kr (Db (Db St)))
 refine kv ?_
 obtain rfl := sj hm
 exact li (v := R) rfl rfl ⟨_, P, rfl, d.qz (fun p m => (Ml m)) U.nd, U⟩
theorem Du (K : Nat) (g : Value) (N : List (jl × (List (ByteArray × Bool)))) (G : LO) (a : Value) (H : List jm) (k : LO) (j : Value) (J : List (jl × (List jm))) (u : LO) (c : Value) (I : List (ByteArray × (List jm))) (t : LO) (z : Value) (M : List jE) (B : LO) (Z : Int) (L a2 : jl) (r : ((List (jl × (List (ByteArray × Bool)))) × (List jE) × Int)) (w : World) {μ0 : jN} (h0 : nT μ0 ((K, Ob #[g, a, j, c, z, (.int .i64 Z)] 135) :: (G ++ (k ++ (u ++ (t ++ (B ++ [])))))) w) (a5 : lm (fun (x : jl) => (.agg (ju x).toArray)) (kZ Value.string (fun (x : Bool) => (Value.bool x))) g N G) (Q : jM 49 jr 9 a H k) (a4 : lm (fun (x : jl) => (.agg (ju x).toArray)) (jM 49 jr 9) j J u) (T : lm Value.string (jM 49 jr 9) c I t) (a3 : pq 111 lh 3 z M B) (hm : tq N H J I M Z L a2 = some r) :
  kA false pg0 158 [(.pointer (some ⟨K, 0, none⟩)), (.agg (ju L).toArray), (.agg (ju a2).toArray)] w ((K, Ob #[g, a, j, c, z, (.int .i64 Z)] 135) :: (G ++ (k ++ (u ++ (t ++ (B ++ [])))))) (fun v L1 W' => ∃ S1 y3 S4, v = (.tuple #[]) ∧ L1 = ((K, Ob #[g, a, j, c, y3, (.int .i64 (r.2.2))] 135) :: (S1 ++ (k ++ (u ++ (t ++ (S4 ++ [])))))) ∧ lm (fun (x : jl) => (.agg (ju x).toArray)) (kZ Value.string (fun (x : Bool) => (Value.bool x))) g r.1 S1 ∧ pq 111 lh 3 y3 r.2.1 S4) := by
 refine xL h0 21 func158 rfl (fun d => sg (VE (kq d rfl (fun W2 b1 d => VE (kq d rfl (fun W4 b3 d => lr (Wm (VA d (Mt Mh) (ju L) bQ aT (bS hm fun r5 e6 hm => VE (vE d call146 (xt K g N a H j J c I z M Z L _ _ (a5.at (fun b o l => d.at_ (Mt (Mt (Mt (Ml l)))))) (Q.sl kj (fun b o l => d.at_ (Mt (Mt (Mt (Ma (Ml l))))))) (a4.at (fun b o l => d.at_ (Mt (Mt (Mt (Ma (Ma (Ml l)))))))) (T.at (fun b o l => d.at_ (Mt (Mt (Mt (Ma (Ma (Ma (Ml l))))))))) ((a3.BV wo).mono (Pl.mono _) (lN (fun b o l => d.at_ (Mt (Mt (Mt (Ma (Ma (Ma (Ma (Ml l))))))))))) (At.of (d.at_ (Mt (Mt Mh))) _ rfl) e6) (fun W7 e7 s e2 d f5 ae a9 => V (oe iL rfl a9) (Wm ?_))))))))))))
 refine ln ?_
 replace d := d.js (Kr (Kb (Db St)))
 refine tE (lQ (fun i E W => ∃ m U a0 n Y q O b7, (E 12 = .int .i64 (i : Nat) ∧ E 11 = .int .i64 (r5.length : Nat)) ∧ jR s O ∧ ST false (keys ((K, Ob #[g, a, j, c, z, (.int .i64 Z)] 135) :: (G ++ (k ++ (u ++ (t ++ (B ++ []))))))) w W O ((K, Ob #[g, a, j, c, a0, (.int .i64 q)] 135) :: ((b3, Ol (ju a2) 27) :: (U ++ (k ++ (u ++ (t ++ (Y ++ (e2 ++ b7)))))))) ∧ E 0 = (.pointer (some ⟨K, 0, none⟩)) ∧ E 5 = (.pointer (some ⟨b3, 0, none⟩)) ∧ E 10 = e7 ∧ lm (fun (x : jl) => (.agg (ju x).toArray)) (kZ Value.string (fun (x : Bool) => (Value.bool x))) g m U ∧ pq 111 lh 3 a0 n Y ∧ pE H J I a2 (r5.drop i) m n q = some r) r5.length a9.len ⟨N, G, z, M, B, Z, s, _, ⟨rfl, rfl⟩, (jR.refl _), (d.js (Sb (Pr (Pb Pz)) (Sb (Pr Pz) (Sr (Qr Qz) (Sr (Qr Qz) (Sr (Qr Qz) (Sr (Qr Qz) (Sr (Qr Qz) St)))))))), rfl, rfl, rfl, a5, a3, hm⟩ dc dc dc (fun _ _ _ h => by obtain ⟨_, _, _, _, _, _, _, _, aa, _⟩ := h; exact aa) ?_ ?_)
 ·rintro d8 E W c9 ⟨m, U, a0, n, Y, q, O, b7, ⟨eI, eN⟩, b6, d, c0, c1, c2, P, R, D⟩
  obtain ⟨c4, f0, d2, c5, d3⟩ := lz c9
  rw [d2] at D
  refine bg (VQ (rr (i := (d8 : Int)) (x0 := c4) iL gK c2 eI a9 (aX _) c5) (fun f6 d0 => V (jt rfl (IB d.has (fun p l => (Mt (Mt (Ma (Ma (Ma (Ma (Ma (Ml l))))))))) a9 (fun _ => rfl) d0 c5 (y := (.string c4)) rfl bU)) (Wa (ln (jC (Wh c0 (V (jt c1 (jA d.has (Mt Mh) (ju a2) rfl bQ aT)) (Wm (bS D fun c3 d1 D => ?_)))))))))
  refine VE (eM d (Cb Pz (Cr (Qb Qz) (Cr (Qb Qz) (Cr (Qb Qz) (Cr (Qb Qz) (Cr (Qb Qz) Cn)))))) call145 (fun hh _ => kA.lR (qo K g m U a H k j J u c I t a0 n Y q a2 c4 _ _ hh P Q a4 T R d1)) ?_)
  rintro _ f7 e1 f2 d c7 ab ad ⟨d6, e0, d7, b4, rfl, d4, d5⟩
  obtain rfl := b4.symm
  replace d := d.perm (Tb (Tr (Tr (Tr (Tr (Tr Tn))))))
  exact jU (kz (jH ⟨eI, c3.1, d6, e0, c3.2.1, d7, c3.2.2, e1, _, ⟨rfl, eN⟩, (b6.trans c7), (d.js (Kb (Sb (Pr (Pr (Pr (Pr (Pr Pz))))) St))), c0, c1, c2, d4, d5, (by rw [d3]; exact D)⟩))
 rintro E W ⟨m, U, a0, n, Y, q, O, b7, ⟨eI, eN⟩, b6, d, c0, c1, c2, P, R, D⟩
 rw [bE] at D
 refine jH ?_
 replace d := d.js (Kb (Db (Kr (Kr (Kr (Kr (Kr (Dr St))))))))
 refine qe ?_
 obtain rfl := sj D
 exact ox rfl ⟨_, _, rfl, (d.mi (Kb (Kr (Kr (Kr (Kr (Kr Sn))))))), U, a0, Y, rfl, rfl, P, R⟩
theorem yu (K : Nat) (G : Value) (Z : List (jl × (List (ByteArray × Bool)))) (D : LO) (g : Value) (I : List jm) (a : LO) (B : Value) (N : List (jl × (List jm))) (y : LO) (i : Value) (J : List (ByteArray × (List jm))) (c : LO) (t : Value) (M : List jE) (j : LO) (a0 : Int) (Q : jm) (a2 : jE) (r : ((List (jl × (List (ByteArray × Bool)))) × (List jE) × Int)) (w : World) {μ0 : jN} (h0 : nT μ0 ((K, Ob #[G, g, B, i, t, (.int .i64 a0)] 135) :: (D ++ (a ++ (y ++ (c ++ (j ++ [])))))) w) (U : lm (fun (x : jl) => (.agg (ju x).toArray)) (kZ Value.string (fun (x : Bool) => (Value.bool x))) G Z D) (T : jM 49 jr 9 g I a) (a3 : lm (fun (x : jl) => (.agg (ju x).toArray)) (jM 49 jr 9) B N y) (Y : lm Value.string (jM 49 jr 9) i J c) (H : pq 111 lh 3 t M j) (hm : qO Z I N J M a0 Q a2 = some r) :
  kA false pg0 147 [(.pointer (some ⟨K, 0, none⟩)), (.agg (jr Q).toArray), (.agg (lh a2).toArray)] w ((K, Ob #[G, g, B, i, t, (.int .i64 a0)] 135) :: (D ++ (a ++ (y ++ (c ++ (j ++ [])))))) (fun v L1 W' => ∃ S1 y3 S4, v = (.tuple #[]) ∧ L1 = ((K, Ob #[G, g, B, i, y3, (.int .i64 (r.2.2))] 135) :: (S1 ++ (a ++ (y ++ (c ++ (S4 ++ [])))))) ∧ lm (fun (x : jl) => (.agg (ju x).toArray)) (kZ Value.string (fun (x : Bool) => (Value.bool x))) G r.1 S1 ∧ pq 111 lh 3 y3 r.2.1 S4) := by
 let s := (#[G, g, B, i, t, (.int .i64 a0)] : Array Value)
 refine xL h0 57 func147 rfl (fun d => sg (VE (kq d rfl (fun W2 L d => VE (kq d rfl (fun W4 P d => lr (Wf rG (VB d (Mt Mh) rfl rfl cJ (ln (kX (jI ?_)))))))))))
 refine jC (Wi rfl (Wa (ln (CI hm rfl (fun e5 hm => ?_) (fun e5 hm => ?_)))))
 ·refine jC (Wm (Wf rW (VA d (Mt Mh) (ju Q.Head) bQ aT (Wf Af (VB d Mh rfl rfl bU (bS hm fun r6 e6 hm => ?_))))))
  refine VE (eM d (Cb (Pb (Pb Pz)) (Cr (Qb (Qb Qz)) (Cr (Qb (Qb Qz)) (Cr (Qb (Qb Qz)) (Cr (Qb (Qb Qz)) (Cr (Qb (Qb Qz)) Cn)))))) call145 (fun q _ => kA.lR (qo K G Z D g I a B N y i J c t M j a0 Q.Head a2.km _ _ q U T a3 Y H e6)) ?_)
  rintro _ g7 ad f8 d f2 a6 m ⟨d2, e7, d3, a8, rfl, c5, c6⟩
  obtain rfl := a8.symm
  replace d := d.perm (Tb (Tr (Tr (Tr (Tr (Tr Tn))))))
  refine jU (kz (qe ?_))
  obtain rfl := sj hm
  exact ox rfl ⟨_, _, rfl, (d.mi (Kb (Kr (Kr (Kr (Kr (Kr Sn))))))), d2, e7, d3, rfl, rfl, c5, c6⟩
 refine sg (Wi rfl (Wa (ln (CI hm rfl (fun c0 hm => ?_) (fun c0 hm => ?_)))))
 ·refine jC (Wm (Wf Af (VB d Mh rfl rfl bU (Wf um (VB d (Mt Mh) rfl rfl bU (V (mr (v := (.agg (ju (⟨a2.km, Q.kC⟩ : jl)).toArray)) (sa rfl rfl) (lM fg dM (NS _ dM) kr)) (Wf rW (VA d (Mt Mh) (ju Q.Head) bQ aT (bS hm fun g3 c3 hm => ?_)))))))))
  refine VE (eM d (Cb (Pb (Pb Pz)) (Cr (Qb (Qb Qz)) (Cr (Qb (Qb Qz)) (Cr (Qb (Qb Qz)) (Cr (Qb (Qb Qz)) (Cr (Qb (Qb Qz)) Cn)))))) call158 (fun q _ => (Du K G Z D g I a B N y i J c t M j a0 (⟨a2.km, Q.kC⟩ : jl) Q.Head _ _ q U T a3 Y H c3)) ?_)
  rintro _ g8 h2 f9 d f3 aa m ⟨d4, e9, d5, a9, rfl, c7, c8⟩
  obtain rfl := a9.symm
  replace d := d.perm (Tb (Tr (Tr (Tr (Tr (Tr Tn))))))
  refine jU (kz (qe ?_))
  obtain rfl := sj hm
  exact ox rfl ⟨_, _, rfl, (d.mi (Kb (Kr (Kr (Kr (Kr (Kr Sn))))))), d4, e9, d5, rfl, rfl, c7, c8⟩
 refine sg (Wi rfl (Wa (ln (CI hm rfl (fun c1 hm => ?_) (fun c1 hm => ?_)))))
 ·refine jI ?_
  replace d := d.drew
  have h := d.has.js (Kb (Kb (Kb (Kr Sn))))
  refine kN h ki (X 0 rfl h (jx rfl) (X 1 rfl h (mJ rfl) (X 2 rfl h (jB wx rfl) (XH 3 rfl h (fun _ l => jt rfl (jG l (Mt (Mt Mh)) rfl gO)) (X 4 rfl h (jB nV rfl) (XH 5 rfl h (fun _ l => jt rfl (jA l (Mt Mh) (ju Q.B) rfl bQ aT)) ?_))))))
  obtain ⟨f7, a5⟩ := U
  refine XH 6 rfl h (fun _ l => oM (k := Q.B) (z := (.map none)) zG eB fl rfl rfl a5 (fun b o n => l.2 b o (Mt (Mt (Mt (Ml n)))))) (X 7 rfl h (jB Af rfl) (XH 8 rfl h (fun _ l => jt rfl (jG l Mh rfl bU)) (XH 9 rfl h (fun _ l => zc (k := a2.km) (z := false) (vf := (fun (x : Bool) => (Value.bool x))) Gj fB gJ rfl rfl (mu.CN (μ := hp _) jK.1 a5 Q.B (fun b o n => l.2 b o (Mt (Mt (Mt (Ml n))))))) (X 10 rfl h (jx rfl) (PJ hm (fun b5 E W => ∃ R, ST false (keys ((K, Obj.cells s 135 (0, 0)) :: (D ++ (a ++ (y ++ (c ++ (j ++ []))))))) w W μ0 ((P, Ol (lh a2) 111) :: ((L, Ol (jr Q) 49) :: ((K, Obj.cells s 135 (0, 0)) :: (D ++ (a ++ (y ++ (c ++ (j ++ R)))))))) ∧ E 0 = (.pointer (some ⟨K, 0, none⟩)) ∧ E 4 = (.pointer (some ⟨L, 0, none⟩)) ∧ E 5 = (.pointer (some ⟨P, 0, none⟩)) ∧ E 50 = (.bool b5)) (bm 22 4194303) 0 ?_ (fun b5 p O => ?_))))))
  ·rintro h1 E W ⟨R, d, e1, e2, e3, e4⟩ a4
   refine kM kr (jH (CI a4 e4 (fun c2 a4 => ?_) (fun c2 a4 => ?_)))
   ·refine jC (Wh e1 (V (jB rW e2) (VA d (Mt Mh) (ju Q.Head) bQ aT (V (jB Af e3) (VB d Mh rfl rfl bU (bS a4 fun g4 c4 a4 => ?_))))))
    refine VE (eM d (Cb (Pb (Pb Pz)) (Cr (Qb (Qb Qz)) (Cr (Qb (Qb Qz)) (Cr (Qb (Qb Qz)) (Cr (Qb (Qb Qz)) (Cr (Qb (Qb Qz)) Cn)))))) call145 (fun q _ => kA.lR (qo K G Z D g I a B N y i J c t M j a0 Q.Head a2.km _ _ q a5.e T a3 Y H c4)) ?_)
    rintro _ g9 h3 g0 d f4 ab m ⟨d7, f0, d8, b0, rfl, c9, d0⟩
    obtain rfl := b0.symm
    replace d := d.perm (Tb (Tr (Tr (Tr (Tr (Tr Tn))))))
    refine jU (kz (qe ?_))
    obtain rfl := sj a4
    exact ox rfl ⟨_, _, rfl, (d.mi (Kb (Kr (Kr (Kr (Kr (Kr Sn))))))), d7, f0, d8, rfl, rfl, c9, d0⟩
   refine lJ (kz (qe ?_))
   obtain rfl := sj a4
   exact ox rfl ⟨_, _, rfl, (d.mi (Db (Db (Kb (Kr (Kr (Kr (Kr (Kr Sn))))))))), D, t, j, rfl, rfl, a5.e, H⟩
  refine bC p (fun u p => ?_) (fun u p => ?_)
  ·refine Xg 11 rfl rfl (cB u) h (jx rfl) (Xg 12 rfl rfl (cB u) h (mJ rfl) (Xg 13 rfl rfl (cB u) h (jB wx rfl) (uW 14 rfl rfl (cB u) h (fun _ l => jt rfl (jG l (Mt (Mt Mh)) rfl gO)) (Xg 15 rfl rfl (cB u) h (jB sW rfl) (uW 16 rfl rfl (cB u) h (fun _ l => jt rfl (jA l (Mt Mh) (ju Q.C) rfl bQ aT)) (uW 17 rfl rfl (cB u) h (fun _ l => oM (k := Q.C) (z := (.map none)) zG eB fl rfl rfl a5 (fun b o n => l.2 b o (Mt (Mt (Mt (Ml n)))))) (Xg 18 rfl rfl (cB u) h (jB Af rfl) (uW 19 rfl rfl (cB u) h (fun _ l => jt rfl (jG l Mh rfl bU)) (uW 20 rfl rfl (cB u) h (fun _ l => zc (k := a2.km) (z := false) (vf := (fun (x : Bool) => (Value.bool x))) Gj fB gJ rfl rfl (mu.CN (μ := hp _) jK.1 a5 Q.C (fun b o n => l.2 b o (Mt (Mt (Mt (Ml n))))))) (X 21 rfl h (jO (cB u) rfl) ?_))))))))))
   obtain rfl := sj p
   refine oF kr (O _ _ ⟨_, (d.js St), rfl, rfl, rfl, rfl⟩)
  refine Xn 11 rfl rfl (cB u) h (Xn 12 rfl rfl (cB u) h (Xn 13 rfl rfl (cB u) h (Xn 14 rfl rfl (cB u) h (Xn 15 rfl rfl (cB u) h (Xn 16 rfl rfl (cB u) h (Xn 17 rfl rfl (cB u) h (Xn 18 rfl rfl (cB u) h (Xn 19 rfl rfl (cB u) h (Xn 20 rfl rfl (cB u) h (X 21 rfl h (jQ (cB u) rfl) ?_))))))))))
  obtain rfl := sj p
  refine oF kr (O _ _ ⟨_, (d.js St), rfl, rfl, rfl, rfl⟩)
 refine lJ (kz (qe ?_))
 obtain rfl := sj hm
 exact ox rfl ⟨_, _, rfl, (d.mi (Db (Db (Kb (Kr (Kr (Kr (Kr (Kr Sn))))))))), D, t, j, rfl, rfl, U, H⟩
theorem B7 (K : Nat) (g : Value) (T : List (jl × (List (ByteArray × Bool)))) (D : LO) (a : Value) (G : List jm) (j : LO) (t : Value) (J : List (jl × (List jm))) (u : LO) (c : Value) (H : List (ByteArray × (List jm))) (k : LO) (z : Value) (M : List jE) (B : LO) (a0 : Int) (Z : jm) (r : ((List (jl × (List (ByteArray × Bool)))) × (List jE) × Int)) (w : World) {μ0 : jN} (h0 : nT μ0 ((K, Ob #[g, a, t, c, z, (.int .i64 a0)] 135) :: (D ++ (j ++ (u ++ (k ++ (B ++ [])))))) w) (a2 : lm (fun (x : jl) => (.agg (ju x).toArray)) (kZ Value.string (fun (x : Bool) => (Value.bool x))) g T D) (N : jM 49 jr 9 a G j) (Y : lm (fun (x : jl) => (.agg (ju x).toArray)) (jM 49 jr 9) t J u) (Q : lm Value.string (jM 49 jr 9) c H k) (U : pq 111 lh 3 z M B) (hm : rI T G J H M a0 Z = some r) :
  kA false pg0 121 [(.pointer (some ⟨K, 0, none⟩)), (.agg (jr Z).toArray)] w ((K, Ob #[g, a, t, c, z, (.int .i64 a0)] 135) :: (D ++ (j ++ (u ++ (k ++ (B ++ [])))))) (fun v L1 W' => ∃ S1 y3 S4, v = (.tuple #[]) ∧ L1 = ((K, Ob #[g, a, t, c, y3, (.int .i64 (r.2.2))] 135) :: (S1 ++ (j ++ (u ++ (k ++ (S4 ++ [])))))) ∧ lm (fun (x : jl) => (.agg (ju x).toArray)) (kZ Value.string (fun (x : Bool) => (Value.bool x))) g r.1 S1 ∧ pq 111 lh 3 y3 r.2.1 S4) := by
 refine xL h0 33 func121 rfl (fun d => sg (VE (kq d rfl (fun W2 b1 d => lr (Wf rG (VB d Mh rfl rfl cJ (ln (bg ?_))))))))
 refine Wi rfl (Wa (ln (CI hm rfl (fun f1 hm => ?_) (fun f1 hm => ?_))))
 ·refine jC (Wm (Wf rW (VA d Mh (ju Z.Head) bQ aT (Wf ya (VB d Mh rfl rfl bU (bS hm fun r4 f2 hm => ?_))))))
  refine VE (eM d (Cb (Pb Pz) (Cr (Qb Qz) (Cr (Qb Qz) (Cr (Qb Qz) (Cr (Qb Qz) (Cr (Qb Qz) Cn)))))) call145 (fun hh _ => kA.lR (qo K g T D a G j t J u c H k z M B a0 Z.Head Z.km _ _ hh a2 N Y Q U f2)) ?_)
  rintro _ h1 ae g8 d g2 ad m ⟨e7, f4, e8, c2, rfl, e0, e1⟩
  obtain rfl := c2.symm
  replace d := d.perm (Tb (Tr (Tr (Tr (Tr (Tr Tn))))))
  refine jU (kz (qe ?_))
  obtain rfl := sj hm
  exact ox rfl ⟨_, _, rfl, (d.mi (Kb (Kr (Kr (Kr (Kr (Kr Sn))))))), e7, f4, e8, rfl, rfl, e0, e1⟩
 refine sg (Wm (Wf nV (VA d Mh (ju Z.B) bQ aT (bS hm fun c6 d9 hm => VE (vE d call146 (xt K g T a G t J c H z M a0 Z.B _ _ (a2.at (fun b o l => d.at_ (Mt (Mt (Ml l))))) (N.sl kj (fun b o l => d.at_ (Mt (Mt (Ma (Ml l)))))) (Y.at (fun b o l => d.at_ (Mt (Mt (Ma (Ma (Ml l))))))) (Q.at (fun b o l => d.at_ (Mt (Mt (Ma (Ma (Ma (Ml l)))))))) ((U.BV wo).mono (Pl.mono _) (lN (fun b o l => d.at_ (Mt (Mt (Ma (Ma (Ma (Ma (Ml l)))))))))) (At.of (d.at_ (Mt Mh)) _ rfl) d9) (fun g9 f3 d5 e5 d f6 ab O => V (oe iL rfl O) (Wm (ln (tE (lQ (fun i E W => ∃ n a3 a5 q a4 a9 P b9, (E 13 = .int .i64 (i : Nat) ∧ E 12 = .int .i64 (c6.length : Nat)) ∧ jR d5 P ∧ ST false (keys ((K, Ob #[g, a, t, c, z, (.int .i64 a0)] 135) :: (D ++ (j ++ (u ++ (k ++ (B ++ []))))))) w W P ((K, Ob #[g, a, t, c, a5, (.int .i64 a9)] 135) :: ((b1, Ol (jr Z) 49) :: (a3 ++ (j ++ (u ++ (k ++ (a4 ++ (e5 ++ b9)))))))) ∧ E 0 = (.pointer (some ⟨K, 0, none⟩)) ∧ E 3 = (.pointer (some ⟨b1, 0, none⟩)) ∧ E 11 = f3 ∧ lm (fun (x : jl) => (.agg (ju x).toArray)) (kZ Value.string (fun (x : Bool) => (Value.bool x))) g n a3 ∧ pq 111 lh 3 a5 q a4 ∧ oN G J H Z (c6.drop i) n q a9 = some r) c6.length O.len ⟨T, D, z, M, B, a0, d5, _, ⟨rfl, rfl⟩, (jR.refl _), (d.js (Sb (Pr (Pb Pz)) (Sb (Pr Pz) (Sr (Qr Qz) (Sr (Qr Qz) (Sr (Qr Qz) (Sr (Qr Qz) (Sr (Qr Qz) St)))))))), rfl, rfl, rfl, a2, U, hm⟩ dc dc dc (fun _ _ _ h => by obtain ⟨_, _, _, _, _, _, _, _, a1, _⟩ := h; exact a1) ?_ ?_))))))))))
 ·rintro e2 E W c8 ⟨n, a3, a5, q, a4, a9, P, b9, ⟨eI, eN⟩, b7, d, c0, L, c1, R, b4, I⟩
  obtain ⟨s, f7, d1, c4, d2⟩ := lz c8
  rw [d1] at I
  refine bg (VQ (rr (i := (e2 : Int)) (x0 := s) iL gK c1 eI O (aX _) c4) (fun g3 c9 => V (jt rfl (IB d.has (fun p l => (Mt (Mt (Ma (Ma (Ma (Ma (Ma (Ml l))))))))) O (fun _ => rfl) c9 c4 (y := (.string s)) rfl bU)) (Wa (ln (jC (Wh c0 (V (jt L (jA d.has (Mt Mh) (jr Z) rfl bX aQ)) (V (jB nV L) (VA d (Mt Mh) (ju Z.B) bQ aT (Wm (V (mr (v := (.agg (lh (⟨Z.B, s⟩ : jE)).toArray)) (sa rfl rfl) (lM iW fA (O8 _ fA) kr)) ?_)))))))))))
  refine bS I fun c3 d0 I => ?_
  refine VE (eM d (Cb Pz (Cr (Qb Qz) (Cr (Qb Qz) (Cr (Qb Qz) (Cr (Qb Qz) (Cr (Qb Qz) Cn)))))) call147 (fun hh _ => (yu K g n a3 a G j t J u c H k a5 q a4 a9 Z (⟨Z.B, s⟩ : jE) _ _ hh R N Y Q b4 d0)) ?_)
  rintro _ g4 e4 f9 d c5 aa m ⟨d6, e3, d7, b5, rfl, d3, d4⟩
  obtain rfl := b5.symm
  replace d := d.perm (Tb (Tr (Tr (Tr (Tr (Tr Tn))))))
  exact jU (kz (jH ⟨eI, c3.1, d6, e3, c3.2.1, d7, c3.2.2, e4, _, ⟨rfl, eN⟩, (b7.trans c5), (d.js (Kb (Sb (Pr (Pr (Pr (Pr (Pr Pz))))) St))), c0, L, c1, d3, d4, (by rw [d2]; exact I)⟩))
 rintro E W ⟨n, a3, a5, q, a4, a9, P, b9, ⟨eI, eN⟩, b7, d, c0, L, c1, R, b4, I⟩
 rw [bE] at I
 refine jH ?_
 replace d := d.js (Kb (Db (Kr (Kr (Kr (Kr (Kr (Dr St))))))))
 refine kz (qe ?_)
 obtain rfl := sj I
 exact ox rfl ⟨_, _, rfl, (d.mi (Kb (Kr (Kr (Kr (Kr (Kr Sn))))))), a3, a5, a4, rfl, rfl, R, b4⟩
theorem BD (I : Nat) (a : Value) (e8 : List (jl × (List (ByteArray × Bool)))) (K : LO) (c : Value) (Q : List jm) (j : LO) (u : Value) (N : List (jl × (List jm))) (y : LO) (g : Value) (H : List (ByteArray × (List jm))) (t : LO) (G : Value) (d4 : List jE) (D : LO) (a0 : Int) (r : ((List (jl × (List (ByteArray × Bool)))) × (List jE) × Int)) (w : World) {μ0 : jN} (h0 : nT μ0 ((I, Ob #[a, c, u, g, G, (.int .i64 a0)] 135) :: (K ++ (j ++ (y ++ (t ++ (D ++ [])))))) w) (h4 : lm (fun (x : jl) => (.agg (ju x).toArray)) (kZ Value.string (fun (x : Bool) => (Value.bool x))) a e8 K) (c1 : jM 49 jr 9 c Q j) (g7 : lm (fun (x : jl) => (.agg (ju x).toArray)) (jM 49 jr 9) u N y) (c2 : lm Value.string (jM 49 jr 9) g H t) (g4 : pq 111 lh 3 G d4 D) (hm : tZ e8 Q N H d4 a0 = some r) :
  kA false pg0 122 [(.pointer (some ⟨I, 0, none⟩))] w ((I, Ob #[a, c, u, g, G, (.int .i64 a0)] 135) :: (K ++ (j ++ (y ++ (t ++ (D ++ [])))))) (fun v L1 W' => ∃ S1 y3 S4, v = (.tuple #[]) ∧ L1 = ((I, Ob #[a, c, u, g, y3, (.int .i64 (r.2.2))] 135) :: (S1 ++ (j ++ (y ++ (t ++ (S4 ++ [])))))) ∧ lm (fun (x : jl) => (.agg (ju x).toArray)) (kZ Value.string (fun (x : Bool) => (Value.bool x))) a r.1 S1 ∧ pq 111 lh 3 y3 r.2.1 S4) := by
 let g5 : Value := (.pointer (some ⟨I, 0, none⟩))
 let b8 := ((I, Ob #[a, c, u, g, G, (.int .i64 a0)] 135) :: (K ++ (j ++ (y ++ (t ++ (D ++ []))))))
 refine xL h0 75 func122 rfl (fun d => tE (kX (mT (fun m E W => ∃ e3 b7 e4 a1 b9 d1 b4 h5, jR μ0 b4 ∧ ST false (keys b8) w W b4 ((I, Ob #[a, c, u, g, e4, (.int .i64 d1)] 135) :: (b7 ++ (j ++ (y ++ (t ++ (b9 ++ h5)))))) ∧ E 0 = g5 ∧ lm (fun (x : jl) => (.agg (ju x).toArray)) (kZ Value.string (fun (x : Bool) => (Value.bool x))) a e3 b7 ∧ pq 111 lh 3 e4 a1 b9 ∧ mQ Q N H m e3 a1 d1 = some r) jP ⟨e8, K, G, d4, D, a0, μ0, _, (jR.refl _), (d.js St), rfl, h4, g4, hm⟩ ?_)))
 rintro m E W ⟨e3, b7, e4, a1, b9, d1, b4, h5, i0, d, O, g9, c5, M⟩
 cases m with
 | zero => rw [mQ] at M; cases M
 | succ n0 =>
  refine jI (sg (Wh O (Wn (Wf Aj (VB d Mh rfl rfl isAgg89 (V (OJ ib rfl c5) (Wi rfl (ln (CI M rfl (fun i7 M => ?_) (fun i7 M => ?_))))))))))
  ·refine kn (bg (Wh O (Wn (Wf Aj (VB d Mh rfl rfl isAgg89 (bS M fun B h2 M => VQ (qU (enc := lh) (i := 0) (x0 := B) ib iS rfl rfl (c5.BV wo) (kh h2) (jY h2)) (fun q0 j7 => V (jt rfl (kl (nA.hp _) (j7.mono (lN (fun b o p => d.has.2 b o (Mt (Ma (Ma (Ma (Ma (Ml p))))))))) isAgg111 iS)) (VE (kx d iW (fun o9 a5 d => VO (jL (.agg (lh B).toArray) ((lh B).toArray) d rfl rfl iS (Ke B) nb rfl (fun p0 d => jU ?_))))))))))))
   let j2 := ((kJ jJ N B.jl).getD [])
   let j1 : Value := (.pointer (some ⟨a5, 0, none⟩))
   let i6 := ((lh B).toArray : Array Value)
   let i5 := ((kJ kD H B.jl.jv).getD [])
   refine jH (sg (Wh O (Wh O (Wn (Wf Aj (VB d (Mt Mh) rfl rfl isAgg89 (bS M fun _ g8 M => VQ (Lv (i := 1) ib iS rfl rfl wo c5 (vI g8) (vw g8)) (fun q3 h1 => Wn (Wf Aj ?_)))))))))
   obtain ⟨f7, g0, rfl⟩ := h1.form
   let g6 : Value := (.slice f7 (a1.drop (Int.toNat 1)).length g0)
   replace d := d.perm (Nb (Pb Pz) Nz)
   refine VO (jL g6 (#[a, c, u, g, g6, (.int .i64 d1)]) d rfl rfl sizeOf89 oc nb rfl (fun p1 d => ln (jI (jI ?_))))
   replace d := d.drew
   have l := d.has.js (Kb (Kb (Dr (Dr (Kr Sn)))))
   refine kN l ki (X 0 rfl l (jx O) (X 1 rfl l (mJ rfl) (X 2 rfl l (jB Kv rfl) (XH 3 rfl l (fun _ n => jt rfl (jG n Mh rfl isAgg132)) (X 4 rfl l (jB Hn rfl) (XH 5 rfl l (fun _ n => jt rfl (jA n (Mt Mh) (ju B.jl) rfl bQ aT)) ?_))))))
   obtain ⟨l7, c3⟩ := g7
   obtain ⟨o7, f0, k2⟩ := mu.rowAt jK.1 c3 B.jl
   refine XH 6 rfl l (fun _ n => oM (k := B.jl) (z := (.slice none 0 0)) zG underlying132 gn rfl rfl c3 (fun b o p => n.2 b o (Mt (Mt (Ml p))))) (X 7 rfl l (lU aJ rfl (f0.BV kj)) (X 8 rfl l (jx rfl) (kM kr (jH (CJ M (fun d0 E W => ∃ d6 e5 d7 b5 h6, jR b4 b5 ∧ ST false (keys b8) w W b5 ((I, Ob #[a, c, u, g, e5, (.int .i64 d0.2.2)] 135) :: ((a5, Obj.cells i6 111 (0, 0)) :: (d6 ++ (j ++ (y ++ (t ++ (d7 ++ h6))))))) ∧ E 0 = g5 ∧ E 2 = j1 ∧ lm (fun (x : jl) => (.agg (ju x).toArray)) (kZ Value.string (fun (x : Bool) => (Value.bool x))) a d0.1 d6 ∧ pq 111 lh 3 e5 d0.2.1 d7) (fun d0 j6 => ?_) ?_)))))
   ·refine lQ (fun i E W => ∃ c7 a3 b1 c8 a4 d2 d3 f9, (E 35 = .int .i64 (i : Nat) ∧ E 34 = .int .i64 (j2.length : Nat)) ∧ jR b4 d3 ∧ ST false (keys b8) w W d3 ((I, Ob #[a, c, u, g, b1, (.int .i64 d2)] 135) :: ((a5, Obj.cells i6 111 (0, 0)) :: (a3 ++ (j ++ (y ++ (t ++ (a4 ++ f9))))))) ∧ E 0 = g5 ∧ E 2 = j1 ∧ E 33 = (qL jJ l7 B.jl (.slice none 0 0)) ∧ lm (fun (x : jl) => (.agg (ju x).toArray)) (kZ Value.string (fun (x : Bool) => (Value.bool x))) a c7 a3 ∧ pq 111 lh 3 b1 c8 a4 ∧ oE Q N H B (j2.drop i) c7 c8 d2 = some d0) j2.length (f0.BV kj).len ⟨e3, b7, g6, (a1.drop (Int.toNat 1)), b9, d1, b4, _, ⟨rfl, rfl⟩, (jR.refl _), (d.js St), O, rfl, rfl, g9, h1, j6⟩ dc dc dc (fun _ _ _ h => by obtain ⟨_, _, _, _, _, _, _, _, s, _⟩ := h; exact s) ?_ ?_
    ·rintro m5 E W j0 ⟨c7, a3, b1, c8, a4, d2, d3, f9, ⟨q, eN⟩, d5, d, e1, e2, g1, f3, f4, T⟩
     obtain ⟨b3, o3, l1, l0, l2⟩ := lz j0
     rw [l1] at T
     refine bg (VQ (qU (enc := jr) (i := (m5 : Int)) (x0 := b3) aJ aQ g1 q (f0.BV kj) (aX _) l0) (fun q2 j9 => V (jt rfl (kl (nA.hp _) (j9.mono (lN (fun b o p => d.has.2 b o (Mt (Mt (Ma (Ma (Ml (k2 b o p))))))))) bX aQ)) (VE (kx d dn (fun p5 p9 d => VO (jL (.agg (jr b3).toArray) ((jr b3).toArray) d rfl rfl aQ (nw b3) nb rfl (fun p6 d => ln (jC (Wh e1 (VA d Mh (jr b3) bX aQ (V (jt e2 (jA d.has (Mt (Mt Mh)) (lh B) rfl isAgg111 iS)) (bS T fun g3 k1 T => ?_))))))))))))
     refine VE (eM d (Cb (Pb Pz) (Cr (Qb (Qb Qz)) (Cr (Qb (Qb Qz)) (Cr (Qb (Qb Qz)) (Cr (Qb (Qb Qz)) (Cr (Qb (Qb Qz)) Cn)))))) call147 (fun hh _ => (yu I a c7 a3 c Q j u N y g H t b1 c8 a4 d2 b3 B _ _ hh f3 c1 c3.e c2 f4 k1)) ?_)
     rintro _ q5 n6 o6 d i4 ab L ⟨m1, n4, m2, f6, rfl, l5, l6⟩
     obtain rfl := f6.symm
     replace d := d.perm (Tb (Tr (Tr (Tr (Tr (Tr Tn))))))
     refine jU (kz (jH ?_))
     replace d := d.js (Kb (Kr (Kr (Kr (Kr (Kr (Db St)))))))
     exact ⟨q, g3.1, m1, n4, g3.2.1, m2, g3.2.2, n6, _, ⟨rfl, eN⟩, (d5.trans i4), (d.js (Kb (Sb (Pr (Pr (Pr (Pr (Pr Pz))))) St))), e1, e2, g1, l5, l6, (by rw [l2]; exact T)⟩
    rintro E W ⟨c7, a3, b1, c8, a4, d2, d3, f9, ⟨q, eN⟩, d5, d, e1, e2, g1, f3, f4, T⟩
    rw [bE] at T
    refine jH ?_
    obtain rfl := sj T
    exact ⟨a3, b1, a4, d3, _, d5, (d.js St), e1, e2, f3, f4⟩
   rintro ⟨m6, m7, n1⟩ E W ⟨d6, e5, d7, b5, h6, i1, d, h8, h9, k3, k4⟩ j3
   refine jI ?_
   replace d := d.drew
   have l := d.has.js (Kb (Kb (Dr (Dr (Dr (Kr Sn))))))
   refine kN l ki (X 0 rfl l (jx h8) (X 1 rfl l (mJ rfl) (X 2 rfl l (jB Hg rfl) (XH 3 rfl l (fun _ n => jt rfl (jG n Mh rfl isAgg133)) (X 4 rfl l (jB Hn h9) (X 5 rfl l (jB tL rfl) (XH 6 rfl l (fun _ n => jt rfl (jG n (Mt Mh) rfl bU)) ?_)))))))
   obtain ⟨l8, e9⟩ := c2
   obtain ⟨o8, f1, k5⟩ := mu.rowAt lI.1 e9 B.jl.jv
   refine XH 7 rfl l (fun _ n => oM (k := B.jl.jv) (z := (.slice none 0 0)) Gj underlying133 gn rfl rfl e9 (fun b o p => n.2 b o (Mt (Mt (Ml p))))) (X 8 rfl l (lU aJ rfl (f1.BV kj)) (X 9 rfl l (jx rfl) (kM kr (jH (tE (CJ j3 (fun c9 E W => ∃ d8 e6 d9 e7 h7, jR b5 e7 ∧ ST false (keys b8) w W e7 ((I, Ob #[a, c, u, g, e6, (.int .i64 c9.2.2)] 135) :: (d8 ++ (j ++ (y ++ (t ++ (d9 ++ h7)))))) ∧ E 0 = g5 ∧ lm (fun (x : jl) => (.agg (ju x).toArray)) (kZ Value.string (fun (x : Bool) => (Value.bool x))) a c9.1 d8 ∧ pq 111 lh 3 e6 c9.2.1 d9) (fun c9 j5 => ?_) ?_))))))
   ·refine lQ (fun i E W => ∃ a9 Y a2 R Z b2 b6 f8, (E 53 = .int .i64 (i : Nat) ∧ E 52 = .int .i64 (i5.length : Nat)) ∧ jR b5 b6 ∧ ST false (keys b8) w W b6 ((I, Ob #[a, c, u, g, a2, (.int .i64 b2)] 135) :: ((a5, Obj.cells i6 111 (0, 0)) :: (Y ++ (j ++ (y ++ (t ++ (Z ++ f8))))))) ∧ E 0 = g5 ∧ E 2 = j1 ∧ E 51 = (qL kD l8 B.jl.jv (.slice none 0 0)) ∧ lm (fun (x : jl) => (.agg (ju x).toArray)) (kZ Value.string (fun (x : Bool) => (Value.bool x))) a a9 Y ∧ pq 111 lh 3 a2 R Z ∧ nx B Q N H (i5.drop i) a9 R b2 = some c9) i5.length (f1.BV kj).len ⟨m6, d6, e5, m7, d7, n1, b5, _, ⟨rfl, rfl⟩, (jR.refl _), (d.js St), h8, h9, rfl, k3, k4, j5⟩ dc dc dc (fun _ _ _ h => by obtain ⟨_, _, _, _, _, _, _, _, s, _⟩ := h; exact s) ?_ ?_
    ·rintro m4 E W i9 ⟨a9, Y, a2, R, Z, b2, b6, f8, ⟨q, eN⟩, a8, d, P, c0, e0, f2, c6, J⟩
     obtain ⟨U, o2, k9, k8, h3⟩ := lz i9
     rw [k9] at J
     refine bg (VQ (qU (enc := jr) (i := (m4 : Int)) (x0 := U) aJ aQ e0 q (f1.BV kj) (aX _) k8) (fun q1 j8 => V (jt rfl (kl (nA.hp _) (j8.mono (lN (fun b o p => d.has.2 b o (Mt (Mt (Ma (Ma (Ma (Ml (k5 b o p)))))))))) bX aQ)) (VE (kx d dn (fun p2 p8 d => VO (jL (.agg (jr U).toArray) ((jr U).toArray) d rfl rfl aQ (nw U) nb rfl (fun p3 d => ln (jI ?_))))))))
     replace d := d.drew
     have l := d.has.js (Kb (Kb (Kb (Kr Sn))))
     refine kN l ki (X 0 rfl l (jx P) (X 1 rfl l (mJ rfl) (X 2 rfl l (jB wx rfl) (XH 3 rfl l (fun _ n => jt rfl (jG n (Mt Mh) rfl gO)) (X 4 rfl l (jB nV rfl) (XH 5 rfl l (fun _ n => jt rfl (jA n Mh (ju U.B) rfl bQ aT)) ?_))))))
     obtain ⟨o0, c4⟩ := f2
     refine XH 6 rfl l (fun _ n => oM (k := U.B) (z := (.map none)) zG eB fl rfl rfl c4 (fun b o p => n.2 b o (Mt (Mt (Mt (Ml p)))))) (X 7 rfl l (jB Hn c0) (X 8 rfl l (jB pY rfl) (XH 9 rfl l (fun _ n => jt rfl (jG n (Mt (Mt Mh)) rfl bU)) (XH 10 rfl l (fun _ n => zc (k := B.jl.jq) (z := false) (vf := (fun (x : Bool) => (Value.bool x))) Gj fB gJ rfl rfl (mu.CN (μ := hp _) jK.1 c4 U.B (fun b o p => n.2 b o (Mt (Mt (Mt (Ml p))))))) (kM kr (jH (CI J rfl (fun i8 J => ?_) (fun i8 J => ?_))))))))
     ·refine jC (Wh P (Wf rW (VA d Mh (ju U.Head) bQ aT (V (jB Af c0) (VB d (Mt (Mt Mh)) rfl rfl bU (bS J fun g2 k0 J => ?_))))))
      refine VE (eM d (Cb (Pb Pz) (Cr (Qb (Qb Qz)) (Cr (Qb (Qb Qz)) (Cr (Qb (Qb Qz)) (Cr (Qb (Qb Qz)) (Cr (Qb (Qb Qz)) Cn)))))) call145 (fun hh _ => kA.lR (qo I a a9 Y c Q j u N y g H t a2 R Z b2 U.Head B.km _ _ hh c4.e c1 c3.e e9.e c6 k0)) ?_)
      rintro _ q4 n5 o5 d i3 aa L ⟨l9, n3, m0, f5, rfl, l3, l4⟩
      obtain rfl := f5.symm
      replace d := d.perm (Tb (Tr (Tr (Tr (Tr (Tr Tn))))))
      refine jU (kz (jH ?_))
      replace d := d.js (Kb (Kr (Kr (Kr (Kr (Kr (Db St)))))))
      exact ⟨q, g2.1, l9, n3, g2.2.1, m0, g2.2.2, n5, _, ⟨rfl, eN⟩, (a8.trans i3), (d.js (Kb (Sb (Pr (Pr (Pr (Pr (Pr Pz))))) St))), P, c0, e0, l3, l4, (by rw [h3]; exact J)⟩
     refine lJ (kz (jH ?_))
     replace d := d.js (Db St)
     exact ⟨q, a9, Y, a2, R, Z, b2, b6, _, ⟨rfl, eN⟩, a8, (d.js St), P, c0, e0, c4.e, c6, (by rw [h3]; exact J)⟩
    rintro E W ⟨a9, Y, a2, R, Z, b2, b6, f8, ⟨q, eN⟩, a8, d, P, c0, e0, f2, c6, J⟩
    rw [bE] at J
    refine jH ?_
    obtain rfl := sj J
    exact ⟨Y, a2, Z, b6, _, a8, (d.js (Kb (Db St))), P, f2, c6⟩
   rintro ⟨m8, m9, n2⟩ E W ⟨d8, e6, d9, e7, h7, i2, d, m3, k6, k7⟩ j4
   exact kz (jH ⟨n0, bn _, m8, d8, e6, m9, d9, n2, e7, _, ((i0.trans i1).trans i2), (d.js St), m3, k6, k7, j4⟩)
  refine ng (mI (mI (rC (jH (qe ?_)))))
  obtain rfl := sj M
  exact ox rfl ⟨_, _, rfl, (d.mi (Kb (Kr (Kr (Kr (Kr (Kr Sn))))))), b7, e4, b9, rfl, rfl, g9, c5⟩
theorem Dy (H : Nat) (g : Value) (c2 : List (jl × (List (ByteArray × Bool)))) (G : LO) (u : Value) (a7 : List jm) (k : LO) (c : Value) (b7 : List (jl × (List jm))) (z : LO) (a : Value) (a8 : List (ByteArray × (List jm))) (t : LO) (B : Value) (b6 : List jE) (y : LO) (K : Int) (d1 : Value) (p : List jm) (r : (Int × (List (jl × (List (ByteArray × Bool)))) × (List jm) × (List (jl × (List jm))) × (List (ByteArray × (List jm))) × (List jE) × Int)) (w : World) {μ0 : jN} (h0 : nT μ0 ((H, Ob #[g, u, c, a, B, (.int .i64 K)] 135) :: (G ++ (k ++ (z ++ (t ++ (y ++ [])))))) w) (d6 : lm (fun (x : jl) => (.agg (ju x).toArray)) (kZ Value.string (fun (x : Bool) => (Value.bool x))) g c2 G) (c6 : jM 49 jr 9 u a7 k) (d3 : lm (fun (x : jl) => (.agg (ju x).toArray)) (jM 49 jr 9) c b7 z) (c7 : lm Value.string (jM 49 jr 9) a a8 t) (d2 : pq 111 lh 3 B b6 y) (d7 : Sl (Pl jr) 9 μ0 d1 p) (hm : tp c2 a7 b7 a8 b6 K p = some r) :
  kA false pg0 84 [(.pointer (some ⟨H, 0, none⟩)), d1] w ((H, Ob #[g, u, c, a, B, (.int .i64 K)] 135) :: (G ++ (k ++ (z ++ (t ++ (y ++ [])))))) (fun v L1 W' => ∃ S1 y3 S4 S6 S8 i1 i0, v = (.int .i64 (r.1)) ∧ L1 = ((H, Ob #[g, y3, c, a, i1, (.int .i64 (r.2.2.2.2.2.2))] 135) :: (S1 ++ (S4 ++ (S6 ++ (S8 ++ (i0 ++ [])))))) ∧ lm (fun (x : jl) => (.agg (ju x).toArray)) (kZ Value.string (fun (x : Bool) => (Value.bool x))) g r.2.1 S1 ∧ jM 49 jr 9 y3 r.2.2.1 S4 ∧ lm (fun (x : jl) => (.agg (ju x).toArray)) (jM 49 jr 9) c r.2.2.2.1 S6 ∧ lm Value.string (jM 49 jr 9) a r.2.2.2.2.1 S8 ∧ pq 111 lh 3 i1 r.2.2.2.2.2.1 i0) := by
 let b8 := ((H, Ob #[g, u, c, a, B, (.int .i64 K)] 135) :: (G ++ (k ++ (z ++ (t ++ (y ++ []))))))
 refine xL h0 46 func84 rfl (fun d => sg (Wa (lS (Wm (V (wv underlying106 rfl rfl) (ln (su rfl (lJ ?_))))))))
 refine jH (sg (Wm (Wn (Wf EA (VB d Mh rfl rfl cJ (Wa (lS (Wm (V (lU aJ rfl d7) ?_)))))))))
 refine Wm (ln (lQ (fun i E W => ∃ a3 N M a4 Q a9 T n U a0 a5 Y a2 c1 d5, (E 16 = .int .i64 (i : Nat) ∧ E 15 = .int .i64 (p.length : Nat)) ∧ jR μ0 c1 ∧ ST false (keys b8) w W c1 ((H, Ob #[g, M, c, a, a0, (.int .i64 a2)] 135) :: (N ++ (Q ++ (T ++ (U ++ (Y ++ d5)))))) ∧ E 0 = (.pointer (some ⟨H, 0, none⟩)) ∧ E 5 = (.int .i64 K) ∧ E 14 = d1 ∧ lm (fun (x : jl) => (.agg (ju x).toArray)) (kZ Value.string (fun (x : Bool) => (Value.bool x))) g a3 N ∧ jM 49 jr 9 M a4 Q ∧ lm (fun (x : jl) => (.agg (ju x).toArray)) (jM 49 jr 9) c a9 T ∧ lm Value.string (jM 49 jr 9) a n U ∧ pq 111 lh 3 a0 a5 Y ∧ np K (p.drop i) a3 a4 a9 n a5 a2 = some r) p.length d7.len ⟨c2, G, u, a7, k, b7, z, a8, t, B, b6, y, K, μ0, _, ⟨rfl, rfl⟩, (jR.refl _), (d.js St), rfl, rfl, rfl, d6, c6, d3, c7, d2, hm⟩ dc dc dc (fun _ _ _ h => by obtain ⟨_, _, _, _, _, _, _, _, _, _, _, _, _, _, _, aa, _⟩ := h; exact aa) ?_ ?_))
 ·rintro f6 E W g3 ⟨a3, N, M, a4, Q, a9, T, n, U, a0, a5, Y, a2, c1, d5, ⟨eI, eN⟩, b1, d, s, c3, c4, O, q, P, R, b5, D⟩
  obtain ⟨I, j8, h4, h3, d9⟩ := lz g3
  rw [h4] at D
  refine bg (VQ (qU (enc := jr) (i := (f6 : Int)) (x0 := I) aJ aQ c4 eI (d7.mono (Pl.mono _) b1) (aX _) h3) (fun l1 g4 => V (jt rfl (kl d.has g4 bX aQ)) (VE (kx d dn (fun k3 e8 d => VO (jL (.agg (jr I).toArray) ((jr I).toArray) d rfl rfl aQ (nw I) nb rfl (fun k4 d => ln (jI ?_))))))))
  replace d := d.drew
  have l := d.has.js (Kb (Kb Sn))
  refine kN l ki (XH 0 rfl l (fun _ hS => jt rfl (jA hS Mh (jr I) rfl bX aQ)) (bS D fun l2 g7 D => XE 1 rfl (Eg d call47 (ke.lR (yj I _ _  g7)) (fun k5 d => ?_))))
  have l := d.has.js (Kb (Kb Sn))
  refine ⟨l, (X 2 rfl l (jx rfl) (PJ D (fun f7 E W => ∃ e4, ST false (keys b8) w W c1 ((e8, Ol (jr I) 49) :: ((H, Ob #[g, M, c, a, a0, (.int .i64 a2)] 135) :: (N ++ (Q ++ (T ++ (U ++ (Y ++ e4))))))) ∧ E 0 = (.pointer (some ⟨H, 0, none⟩)) ∧ E 5 = (.int .i64 K) ∧ E 7 = (.pointer (some ⟨e8, 0, none⟩)) ∧ E 14 = d1 ∧ E 15 = (.int .i64 (p.length : Int)) ∧ E 16 = (.int .i64 (f6 : Int)) ∧ E 30 = (.bool f7)) (bm 11 2047) 0 ?_ (fun f7 Z d4 => ?_)))⟩
  ·rintro l7 E W ⟨e4, d, c5, e9, f0, f1, f2, f3, i6⟩ J
   refine kM kr (jH (CI J i6 (fun g2 J => ?_) (fun g2 J => ?_)))
   ·refine sg (Wh c5 (V (jt f0 (jA d.has Mh (jr I) rfl bX aQ)) (bS J fun L g8 J => ?_)))
    refine VE (eM d (Cb (Pb Pz) (Cr (Qb Qz) (Cr (Qb Qz) (Cr (Qb Qz) (Cr (Qb Qz) (Cr (Qb Qz) Cn)))))) call120 (fun hh _ => kA.lR (Dc H g a3 N M a4 Q c a9 T a n U a0 a5 Y a2 I _ _ hh O q P R b5 g8)) ?_)
    rintro _ l4 l8 k0 d f4 ab m ⟨f8, e5, e6, e7, c8, rfl, e0, e1, e2⟩
    obtain rfl := c8.symm
    replace d := d.perm (Tb (Tr (Tr (Tr (Tr (Tr Tn))))))
    refine ln (jC (Wh c5 (V (jt f0 (jA d.has (Mt (Ma (Ma (Ma (Ma (Ma Mh)))))) (jr I) rfl bX aQ)) (bS J fun d8 g9 J => ?_))))
    refine VE (eM d (Cb Pz (Cr Qz (Cr Qz (Cr Qz (Cr Qz (Cr Qz Cn)))))) call121 (fun hh _ => (B7 H g a3 N f8 L.1 e5 c L.2.1 e6 a L.2.2 e7 a0 a5 Y a2 I _ _ hh O e0 e1 e2 b5 g9)) ?_)
    rintro _ l5 j0 k1 d f5 ad m ⟨i2, i8, i3, c9, rfl, h5, h6⟩
    obtain rfl := c9.symm
    replace d := d.perm (Tb (Tr (Tr (Tr (Tr (Tr Tn))))))
    refine jU (kz (jH ?_))
    replace d := d.js (Kb (Kr (Kr (Kr (Kr (Kr (Db St)))))))
    exact ⟨f3, d8.1, i2, f8, L.1, e5, L.2.1, e6, L.2.2, e7, i8, d8.2.1, i3, d8.2.2, j0, _, ⟨rfl, f2⟩, ((b1.trans f4).trans f5), (d.js St), c5, e9, f1, h5, e0, e1, e2, h6, (by rw [d9]; exact J)⟩
   refine lJ (kz (jH ?_))
   replace d := d.js (Db St)
   exact ⟨f3, a3, N, M, a4, Q, a9, T, n, U, a0, a5, Y, a2, c1, _, ⟨rfl, f2⟩, b1, (d.js St), c5, e9, f1, O, q, P, R, b5, (by rw [d9]; exact J)⟩
  refine bC Z (fun j Z => ?_) (fun j Z => ?_)
  ·refine Xg 3 rfl rfl (cB j) l (jx s) (Xg 4 rfl rfl (cB j) l (mJ rfl) (Xg 5 rfl rfl (cB j) l (jB G4 rfl) (uW 6 rfl rfl (cB j) l (fun _ hS => jt rfl (jG hS (Mt Mh) rfl dY)) (uW 7 rfl rfl (cB j) l (fun _ hS => jt rfl (jA hS Mh (jr I) rfl bX aQ)) (bS Z fun l3 h1 Z => HS 8 rfl rfl (cB j) (Eg d call29 (ke.lR (xQ M a4 I _ _ (q.sl kj (fun b o hq => d.at_ (Mt (Mt (Ma (Ml hq)))))) h1)) (fun k8 d => ?_)))))))
   have l := d.has.js (Kb (Kb Sn))
   refine ⟨l, (Xg 9 rfl rfl (cB j) l (pa rfl) (X 10 rfl l (jO (cB j) rfl) ?_))⟩
   obtain rfl := sj Z
   refine oF kr (d4 _ _ ⟨_, (d.js St), s, c3, rfl, c4, eN, eI, rfl⟩)
  refine Xn 3 rfl rfl (cB j) l (Xn 4 rfl rfl (cB j) l (Xn 5 rfl rfl (cB j) l (Xn 6 rfl rfl (cB j) l (Xn 7 rfl rfl (cB j) l (Xn 8 rfl rfl (cB j) l (Xn 9 rfl rfl (cB j) l (X 10 rfl l (jQ (cB j) rfl) ?_)))))))
  obtain rfl := sj Z
  refine oF kr (d4 _ _ ⟨_, (d.js St), s, c3, rfl, c4, eN, eI, rfl⟩)
 rintro E W ⟨a3, N, M, a4, Q, a9, T, n, U, a0, a5, Y, a2, c1, d5, ⟨eI, eN⟩, b1, d, s, c3, c4, O, q, P, R, b5, D⟩
 rw [bE] at D
 refine jH (sg (Wh s (bS D fun i7 h2 D => ?_)))
 refine VE (eM d (Cb Pz (Cr Qz (Cr Qz (Cr Qz (Cr Qz (Cr Qz Cn)))))) call122 (fun hh _ => (BD H g a3 N M a4 Q c a9 T a n U a0 a5 Y a2 _ _ hh O q P R b5 h2)) ?_)
 rintro _ l6 l9 k2 d j6 ae m ⟨i4, i9, i5, d0, rfl, h7, h8⟩
 obtain rfl := d0.symm
 replace d := d.perm (Tb (Tr (Tr (Tr (Tr (Tr Tn))))))
 refine lr (Wh s (Wn (Wf EA (VB d Mh rfl rfl cJ (Wh c3 (Wi rfl (Wa (lt ?_))))))))
 obtain rfl := sj D
 exact li (v := (.int .i64 (wi0 .i64 (i7.2.2 - K)))) rfl rfl ⟨_, _, rfl, (d.mi (Kb (Kr (Kr (Kr (Kr (Kr Sn))))))), i4, M, Q, T, U, i9, i5, rfl, rfl, h7, q, P, R, h8⟩
theorem CV (j : Value) (H : List jm) (r : ((List (jl × (List (ByteArray × Bool)))) × (List jm) × (List (jl × (List jm))) × (List (ByteArray × (List jm))) × (List jE) × Int)) (w : World) (J : Sl (Pl jr) 9 (hp w) j H) (hm : uM H = some r) :
  kA false pg0 58 [j] w [] (fun v L1 W' => ∃ l n S3 p S6 q S9 D u G y, v = (.pointer (some ⟨l, 0, none⟩)) ∧ L1 = ((l, Ob #[n, p, q, D, G, (.int .i64 (r.2.2.2.2.2))] 135) :: (S3 ++ (S6 ++ (S9 ++ (u ++ (y ++ [])))))) ∧ lm (fun (x : jl) => (.agg (ju x).toArray)) (kZ Value.string (fun (x : Bool) => (Value.bool x))) n r.1 S3 ∧ jM 49 jr 9 p r.2.1 S6 ∧ lm (fun (x : jl) => (.agg (ju x).toArray)) (jM 49 jr 9) q r.2.2.1 S9 ∧ lm Value.string (jM 49 jr 9) D r.2.2.2.1 u ∧ pq 111 lh 3 G r.2.2.2.2.1 y) := by
 refine yc 13 func58 rfl (fun b => sg (Wa (lr (VE (Cm (P := pg0) (fun (x : jl) => (.agg (ju x).toArray)) (kZ Value.string (fun (x : Bool) => (Value.bool x))) b (fun W1 v4 R2 b z => VE (Cm (P := pg0) (fun (x : jl) => (.agg (ju x).toArray)) (jM 49 jr 9) b (fun W5 v8 R6 b B => VE (Cm (P := pg0) Value.string (jM 49 jr 9) b (fun W9 W Y b t => ?_))))))))))
 obtain ⟨a, rfl⟩ := z.form
 obtain ⟨c, rfl⟩ := B.form
 obtain ⟨g, rfl⟩ := t.form
 refine V (mr (v := (.agg #[(.map (some a)), (.slice none 0 0), (.map (some c)), (.map (some g)), (.slice none 0 0), (.int .i64 0)])) (GO rfl rfl rfl) (lM zeroValue135 eA (Sz _ eA) kr)) (VE (kq b rfl (fun c1 k b => Wa (lr (Wm (Wm (bS hm fun R K hm => ?_)))))))
 refine VE (eM b (Cb Pz (Cr (Qr (Qr Qz)) (C0 (Cr (Qr Qz) (Cr Qz (C0 Cn)))))) call84 (fun I h => (Dy k (.map (some a)) ([]) R2 (.slice none 0 0) ([]) [] (.map (some c)) ([]) R6 (.map (some g)) ([]) Y (.slice none 0 0) ([]) [] 0 j H _ _ I z (jM.nil _ _ _) B t (pq.nil _ _ _) (J.mono (Pl.mono _) h) K)) ?_)
 rintro _ c5 c6 O b L m d ⟨Z, s, a2, a3, a4, E, a5, i, rfl, M, N, Q, T, U⟩
 obtain rfl := i.symm
 replace b := b.perm (Tb (Tr (Tr (Tr (Tr (Tr Tn))))))
 refine lr (Wm (Wa (lt ?_)))
 obtain rfl := sj hm
 exact li (v := (.pointer (some ⟨k, 0, none⟩))) rfl rfl ⟨_, _, rfl, (b.EV (Kb (Kr (Kr (Kr (Kr (Kr Sn))))))), k, (.map (some a)), Z, s, a2, (.map (some c)), a3, (.map (some g)), a4, E, a5, rfl, rfl, M, N, Q, T, U⟩
theorem Di (T : Formula → Int → Option (Int × Int)) (n : ∀ (t : Formula) (j : Value) (I : Int) (r : (Int × Int)) (w : World) (g : Sl jo 5 (hp w) j t.Kids), T t I = some r → ke false pg0 123 [(.agg #[(.int .i64 t.Op), (.int .i64 t.K), (.string t.jl.jq), (.string t.jl.jv), j]), (.int .i64 I)] w (.tuple #[(.int .i64 r.1), (.int .i64 r.2)])) (t : Formula) (j : Value) (I : Int) (r : (Int × Int)) (w : World) (g : Sl jo 5 (hp w) j t.Kids) (hm : uL T t I = some r) :
  ke false pg0 123 [(.agg #[(.int .i64 t.Op), (.int .i64 t.K), (.string t.jl.jq), (.string t.jl.jv), j]), (.int .i64 I)] w (.tuple #[(.int .i64 r.1), (.int .i64 r.2)]) := by
 refine cG 40 func123 rfl (fun b => sg ?_)
 obtain ⟨A1, c2, rfl⟩ := g.form
 refine VE (kq b rfl (fun W4 b3 b => Wa (Wa (lr (Wa (Wa (lS (Wf rY ?_))))))))
 refine VB b Mh rfl rfl ft (V (lU aF rfl g) (Wm (ln ?_)))
 replace b := b.js (Db St)
 refine CJ hm (fun Q E W => ∃ a2, ST false kK w W (hp w) a2 ∧ E 6 = (.int .i64 Q.1) ∧ E 7 = (.int .i64 Q.2)) (fun Q a5 => ?_) ?_
 ·refine lQ (fun i E W => ∃ y z J, (E 15 = .int .i64 (i : Nat) ∧ E 14 = .int .i64 (t.Kids.length : Nat)) ∧ ST false kK w W (hp w) J ∧ E 1 = (.int .i64 I) ∧ E 6 = (.int .i64 y) ∧ E 7 = (.int .i64 z) ∧ E 13 = (.slice A1 t.Kids.length c2) ∧ oV I T (t.Kids.drop i) y z = some Q) t.Kids.length g.len ⟨1, 0, _, ⟨rfl, rfl⟩, (b.js St), rfl, rfl, rfl, rfl, a5⟩ dc dc dc (fun _ _ _ h => by obtain ⟨_, _, _, l, _⟩ := h; exact l) ?_ ?_
  ·rintro O E W a3 ⟨y, z, J, ⟨d, m⟩, b, G, x, H, K, a⟩
   obtain ⟨c, c6, q, p, a9⟩ := lz a3
   rw [q] at a
   refine bg (VQ (nh (i := (O : Int)) (x0 := c) jo.out aF aC K d g (aX _) p) (fun c4 ⟨_, ⟨c5, rfl, N⟩, Y⟩ => V (jt rfl (kl b.has Y bB aC)) (VE (kx b bG (fun b9 c3 b => ?_)))))
   obtain ⟨B, D, rfl⟩ := N.form
   let a0 := (C1 c.Op c.K c.jl.jq c.jl.jv B c.Kids.length D)
   refine VO (jL (.agg a0.toArray) (a0.toArray) b rfl rfl aC oc nb rfl (fun c0 b => lS (Wh x (Wh G (Wi rfl (ln (CI a rfl (fun U a => ?_) (fun U a => ?_))))))))
   ·refine ng (mI (Rx (by simp) (mI (rC (jH ?_)))))
    obtain rfl := sj a
    exact ⟨_, (b.js (Db St)), x, H⟩
   refine kg (VA b Mh a0 bB aC (Wh G (Wh x (Wi rfl (bS a fun M Z a => VE (Eg b call123 (n c (.slice B c.Kids.length D) (wi0 .i64 (I - y)) _ _ (N.mono jD.mono b.jy) Z) (fun c1 b => Wm (Wx rfl (Wx rfl (Wa (Wa ?_)))))))))))
   refine ln ?_
   replace b := b.js (Db St)
   exact jC (Wh x (Wm (Wi rfl (Wh H (Wm (V (Rq (k := .i64) rfl rfl) (Wa (Wa (jU (kz (jH ⟨d, (wi0 .i64 (y + M.1)), (if M.2 > z then M.2 else z), _, ⟨rfl, m⟩, (b.js St), G, rfl, rfl, K, (by rw [a9]; exact a)⟩)))))))))))
  rintro E W ⟨y, z, J, ⟨d, m⟩, b, G, x, H, K, a⟩
  rw [bE] at a
  refine jH ?_
  obtain rfl := sj a
  exact ⟨_, (b.js St), x, H⟩
 rintro ⟨P, R⟩ E W ⟨a2, b, s, L⟩ a4
 refine sg (Wh s (Wh L (Wi rfl (Wa (Wa (lt ?_))))))
 obtain rfl := sj a4
 exact Aq (v := (.int .i64 P)) (u := (.int .i64 (wi0 .i64 (R + 1)))) rfl rfl rfl ⟨rfl, b.ex⟩
theorem AR : ∀ (n : Nat) (c : Formula) (a : Value) (i : Int) (r : (Int × Int)) (w : World) (g : Sl jo 5 (hp w) a c.Kids) (_ : nP n c i = some r),
  ke false pg0 123 [(.agg #[(.int .i64 c.Op), (.int .i64 c.K), (.string c.jl.jq), (.string c.jl.jv), a]), (.int .i64 i)] w (.tuple #[(.int .i64 r.1), (.int .i64 r.2)])
 | 0 => by intros; rename_i h; simp only [nP] at h; cases h
 | n + 1 => Di (nP n) (AR n)
theorem G8 (a : Formula) (g : Value) (r : (Int × Int)) (w : World) (c : Sl jo 5 (hp w) g a.Kids) (hm : wm a = some r) :
  ke false pg0 85 [(.agg #[(.int .i64 a.Op), (.int .i64 a.K), (.string a.jl.jq), (.string a.jl.jv), g])] w (.tuple #[(.int .i64 r.1), (.int .i64 r.2)]) := by
 refine cG 15 func85 rfl (fun b => sg ?_)
 obtain ⟨i, j, rfl⟩ := c.form
 refine VE (kq b rfl (fun y B b => Wa (Wa (lr (VA b Mh (C1 a.Op a.K a.jl.jq a.jl.jv i a.Kids.length j) bB aC (bS hm fun x t hm => VE (Eg b call123 ((AR jP) a (.slice i a.Kids.length j) 4096 _ _ (c.mono jD.mono b.jy) t) (fun z b => Wm (Wx rfl (Wx rfl (Wa (Wa ?_))))))))))))
 refine ln ?_
 replace b := b.js (Db St)
 refine jI (sg (Wm (Wi rfl (ln (CI hm rfl (fun k hm => ?_) (fun k hm => ?_))))))
 ·refine sg (Wa (Wa (lt (kI ?_))))
  obtain rfl := sj hm
  exact Aq (v := (.int .i64 0)) (u := (.int .i64 0)) rfl rfl rfl ⟨rfl, b.ex⟩
 refine kg (Wm (Wm (Wa (Wa (lt ?_)))))
 obtain rfl := sj hm
 exact Aq (v := (.int .i64 x.1)) (u := (.int .i64 x.2)) rfl rfl rfl ⟨rfl, b.ex⟩
theorem G1 (a : Formula) (H : Value) (r : Bool) (w : World) (t : Sl jo 5 (hp w) H a.Kids) (hm : wk a = some r) :
  ke true pg0 124 [(.agg #[(.int .i64 a.Op), (.int .i64 a.K), (.string a.jl.jq), (.string a.jl.jv), H])] w (.bool r) := by
 refine cG 63 func124 rfl (fun b => sg ?_)
 obtain ⟨A1, c2, rfl⟩ := t.form
 let l := (C1 a.Op a.K a.jl.jq a.jl.jv A1 a.Kids.length c2)
 refine VE (kq b rfl (fun W4 N b => Wa (lr (V (mr (v := (.agg (ju K0).toArray)) tW (lM fg dM (NS _ dM) kr)) (VE (kx b fg (fun W6 L b => VO (jL (.agg (ju K0).toArray) ((ju K0).toArray) b rfl rfl aT (xE K0) nb rfl (fun W7 b => lS (Wf tV ?_))))))))))
 refine VB b (Mt Mh) rfl rfl cJ (ln (bg (Wi rfl (Wa (ln (CI hm rfl (fun d9 hm => ?_) (fun d9 hm => ?_)))))))
 ·refine sg (Wf xV (VA b (Mt Mh) (ju a.jl) bQ aT (bS hm fun f7 e5 hm => VE (Eg b call74 (sZ a.jl _ _  e5) (fun f5 b => Wm (LJ hm (fun d2 E W => ∃ R, ST true kK w W (hp w) ((N, Ol l 30) :: R) ∧ E 1 = (.pointer (some ⟨N, 0, none⟩)) ∧ E 2 = (.bool false) ∧ E 17 = (.bool d2)) 5 ?_ (fun d2 J a4 => ?_)))))))
  ·rintro f8 E W ⟨R, b, e7, c9, e8⟩ e1
   refine Wh e8 (LJ e1 (fun d1 E W => ∃ c5, ST true kK w W (hp w) c5 ∧ E 2 = (.bool false) ∧ E 22 = (.bool d1)) 4 ?_ (fun d1 I a3 => ?_))
   ·rintro f9 E W ⟨c5, b, f6, e9⟩ e2
    refine Wg e9 (lt (nt (kI ?_)))
    obtain rfl := sj e2
    exact rP b
   refine bC I (fun u I => ?_) (fun u I => ?_)
   ·refine ug u (jB yg e7) (ug u (jt rfl (jG b.has Mh rfl cJ)) (ug u (ko rfl rfl rfl) (V (jO (cB u) rfl) ?_)))
    obtain rfl := sj I
    exact a3 _ _ ⟨_, (b.js (Db St)), c9, rfl⟩
   refine un u (un u (un u (V (jQ (cB u) rfl) ?_)))
   obtain rfl := sj I
   exact a3 _ _ ⟨_, (b.js (Db St)), c9, rfl⟩
  refine bC J (fun j J => ?_) (fun j J => ?_)
  ·refine ug j (jB rY rfl) (ug j (jt rfl (jG b.has (Mt Mh) rfl ft)) (ug j (lU aF rfl t) (ug j (ko rfl rfl rfl) (V (jO (cB j) rfl) ?_))))
   obtain rfl := sj J
   exact a4 _ _ ⟨_, (b.js (Db St)), rfl, rfl, rfl⟩
  refine un j (un j (un j (un j (V (jQ (cB j) rfl) ?_))))
  obtain rfl := sj J
  exact a4 _ _ ⟨_, (b.js (Db St)), rfl, rfl, rfl⟩
 let a0 := (l.toArray : Array Value)
 let d : Value := (.pointer (some ⟨N, 0, none⟩))
 refine jI (CJ hm (fun P E W => ∃ c6, ST true kK w W (hp w) ((L, Ol (ju K0) 27) :: ((N, Obj.cells a0 30 (0, 0)) :: c6)) ∧ E 1 = d ∧ E 3 = (.pointer (some ⟨L, 0, none⟩)) ∧ E 23 = (.bool P)) (fun P G => ?_) ?_)
 ·refine sg (Wi rfl (Wa (ln (CI G rfl (fun b9 G => ?_) (fun b9 G => ?_)))))
  ·refine kn ?_
   obtain rfl := sj G
   exact ⟨_, (b.js St), rfl, rfl, rfl⟩
  refine jC (Wi rfl (Wa (ln ?_)))
  obtain rfl := sj G
  exact ⟨_, (b.js St), rfl, rfl, rfl⟩
 rintro g0 E W ⟨c6, b, Q, d0, f0⟩ K
 refine CI K f0 (fun e0 K => ?_) (fun e0 K => ?_)
 ·refine sg (V (jB xV Q) (VA b (Mt Mh) (ju a.jl) bQ aT (V (jt d0 (jA b.has Mh (ju K0) rfl bQ aT)) (V (wU rfl rfl (pu fC) (tH (sN _ a.jl K0))) (Wm (LJ K (fun d3 E W => ∃ c7, ST true kK w W (hp w) c7 ∧ E 34 = (.bool d3)) 4 ?_ (fun d3 M a5 => ?_)))))))
  ·rintro g1 E W ⟨c7, b, f1⟩ e3
   refine Wg f1 (lt (nt (kI ?_)))
   obtain rfl := sj e3
   exact rP b
  refine bC M (fun x M => ?_) (fun x M => ?_)
  ·refine ug x (jB yg Q) (ug x (jt rfl (jG b.has (Mt Mh) rfl cJ)) (ug x (ko rfl rfl rfl) (V (jO (cB x) rfl) ?_)))
   obtain rfl := sj M
   exact a5 _ _ ⟨_, (b.js (Db (Db St))), rfl⟩
  refine un x (un x (un x (V (jQ (cB x) rfl) ?_)))
  obtain rfl := sj M
  exact a5 _ _ ⟨_, (b.js (Db (Db St))), rfl⟩
 refine lJ (kz (jH (sg (V (jB tV Q) (VB b (Mt Mh) rfl rfl cJ (Wi rfl (Wm (LJ K (fun O E W => ∃ c8, ST true kK w W (hp w) ((N, Obj.cells a0 30 (0, 0)) :: c8) ∧ E 1 = d ∧ E 43 = (.bool O)) 5 ?_ (fun O D h => ?_)))))))))
 ·rintro g2 E W ⟨c8, b, a2, d4⟩ e4
  refine Wh d4 (LJ e4 (fun s E W => ∃ m, ST true kK w W (hp w) ((N, Obj.cells a0 30 (0, 0)) :: m) ∧ E 1 = d ∧ E 48 = (.bool s)) 4 ?_ (fun s B Z => ?_))
  ·rintro f2 E W ⟨m, b, T, d5⟩ c0
   refine Wh d5 (LJ c0 (fun q E W => ∃ a9, ST true kK w W (hp w) ((N, Obj.cells a0 30 (0, 0)) :: a9) ∧ E 1 = d ∧ E 56 = (.bool q)) 7 ?_ (fun q z Y => ?_))
   ·rintro f3 E W ⟨a9, b, d6, d7⟩ c1
    refine Wh d7 (LJ c1 (fun p E W => ∃ n, ST true kK w W (hp w) n ∧ E 62 = (.bool p)) 5 ?_ (fun p y U => ?_))
    ·rintro f4 E W ⟨n, b, d8⟩ c3
     exact Wg d8 (lt (rQ c3 b))
    refine bC y (fun g y => ?_) (fun g y => ?_)
    ·refine ug g (jB rY d6) (ug g (jt rfl (jG b.has Mh rfl ft)) (ug g (lU aF rfl t) (ug g (ko rfl rfl rfl) (V (jO (cB g) rfl) ?_))))
     obtain rfl := sj y
     exact U _ _ ⟨_, (b.js (Db St)), rfl⟩
    refine un g (un g (un g (un g (V (jQ (cB g) rfl) ?_))))
    obtain rfl := sj y
    exact U _ _ ⟨_, (b.js (Db St)), rfl⟩
   refine bC z (fun c z => ?_) (fun c z => ?_)
   ·refine ug c (jB yg T) (ug c (jt rfl (jG b.has Mh rfl cJ)) (ug c (jB rY T) (ug c (jt rfl (jG b.has Mh rfl ft)) (ug c (lU aF rfl t) (ug c (ko rfl rfl rfl) (V (jO (cB c) rfl) ?_))))))
    obtain rfl := sj z
    exact Y _ _ ⟨_, (b.js St), T, rfl⟩
   refine un c (un c (un c (un c (un c (un c (V (jQ (cB c) rfl) ?_))))))
   obtain rfl := sj z
   exact Y _ _ ⟨_, (b.js St), T, rfl⟩
  refine bC B (fun i B => ?_) (fun i B => ?_)
  ·refine ug i (jB yg a2) (ug i (jt rfl (jG b.has Mh rfl cJ)) (ug i (ko rfl rfl rfl) (V (jO (cB i) rfl) ?_)))
   obtain rfl := sj B
   exact Z _ _ ⟨_, (b.js St), a2, rfl⟩
  refine un i (un i (un i (V (jQ (cB i) rfl) ?_)))
  obtain rfl := sj B
  exact Z _ _ ⟨_, (b.js St), a2, rfl⟩
 refine bC D (fun k D => ?_) (fun k D => ?_)
 ·refine ug k (jB xV Q) (ug k (jt rfl (jA b.has (Mt Mh) (ju a.jl) rfl bQ aT)) (ug k (jt d0 (jA b.has Mh (ju K0) rfl bQ aT)) (ug k (wU rfl rfl (pu fC) (tH (sN _ a.jl K0))) (V (jO (cB k) rfl) ?_))))
  obtain rfl := sj D
  exact h _ _ ⟨_, (b.js (Db St)), Q, rfl⟩
 refine un k (un k (un k (un k (V (jQ (cB k) rfl) ?_))))
 obtain rfl := sj D
 exact h _ _ ⟨_, (b.js (Db St)), Q, rfl⟩
theorem zx (g : Value) (t : List Formula) (j : Value) (z : Formula → Option Bool) (r : Int) (w : World) (c : Sl jo 5 (hp w) g t) (B : wK pg0 j (hp w) (AM jo) (fun (r : Bool) => (.bool r)) z) (hm : rO t z = some r) :
  ke false pg0 148 [g, j] w (.int .i64 r) := by
 refine cG 19 func148 rfl (fun b => sg (Wa (lS (Wm (V (lU aF rfl c) (Wm (ln (lQ (fun i E W => ∃ k, (E 8 = .int .i64 (i : Nat) ∧ E 7 = .int .i64 (t.length : Nat)) ∧ ST false kK w W (hp w) k ∧ E 0 = g ∧ E 1 = j ∧ mP z (t.drop i) i = some r) t.length c.len ⟨_, ⟨rfl, rfl⟩, (b.js St), rfl, rfl, hm⟩ dc dc dc (fun _ _ _ h => by obtain ⟨_, l, _⟩ := h; exact l) ?_ ?_))))))))
 ·rintro Q E W G ⟨k, ⟨d, m⟩, b, u, x, a⟩
  obtain ⟨y, U, M, K, N⟩ := lz G
  rw [M] at a
  refine bg (Wh d (Wa (lr (Wh x (Wh u (Wm (VQ (nh (i := (Q : Int)) (x0 := y) jo.out aF aC rfl rfl c (aX _) K) (fun Z ⟨_, ⟨T, rfl, J⟩, H⟩ => V (jt rfl (kl b.has H bB aC)) (bS a fun n I a => ?_)))))))))
  refine VE (xW y b B (jR.refl _) (AM.mk jD (jo.mk ⟨T, rfl, J⟩) b.jy) rfl (tm rfl) I (fun Y b => ln (CI a rfl (fun D a => ?_) (fun D a => ?_))))
  ·refine sg (Wm (Wa (lt (nt (kI (nt (kI ?_)))))))
   obtain rfl := sj a
   exact rP b
  exact lJ (kz (jH ⟨d, _, ⟨rfl, m⟩, (b.js St), u, x, (by rw [N]; exact a)⟩))
 rintro E W ⟨k, ⟨d, m⟩, b, u, x, a⟩
 rw [bE] at a
 exact jH (sg (Wa (lt (rQ a b))))
theorem uf (a : Value) (g : List Formula) (c : Value) (i : Formula → Option Bool) (r : Bool) (w : World) (j : Sl jo 5 (hp w) a g) (k : wK pg0 c (hp w) (AM jo) (fun (r : Bool) => (.bool r)) i) (hm : nD g i = some r) :
  ke false pg0 125 [a, c] w (.bool r) := by
 refine cG 9 func125 rfl (fun b => sg (Wa (lr (Wm (Wm (bS hm fun x t hm => VE (Eg b call148 (zx a g c i _ _ (j.mono jD.mono b.jy) (k.mono b.jy) t) (fun u b => Wi rfl (Wa (jU ?_))))))))))
 exact jH (kv (rQ hm b))
theorem DS (i : Formula → Option Bool) (t : ∀ (c : Formula) (a : Value) (r : Bool) (w : World) (g : Sl jo 5 (hp w) a c.Kids), i c = some r → ke false pg0 86 [(.agg #[(.int .i64 c.Op), (.int .i64 c.K), (.string c.jl.jq), (.string c.jl.jv), a])] w (.bool r)) (c : Formula) (a : Value) (r : Bool) (w : World) (g : Sl jo 5 (hp w) a c.Kids) (hm : tN i c = some r) :
  ke false pg0 126 [(.agg #[(.int .i64 c.Op), (.int .i64 c.K), (.string c.jl.jq), (.string c.jl.jv), a])] w (.bool r) := by
 refine cG 6 func126 rfl (fun b => sg ?_)
 obtain ⟨j, k, rfl⟩ := g.form
 refine VE (kq b rfl (fun x z b => Wa (lr (VA b Mh (C1 c.Op c.K c.jl.jq c.jl.jv j c.Kids.length k) bB aC (bS hm fun B u hm => VE (Eg b call86 (t c (.slice j c.Kids.length k) _ _ (g.mono jD.mono b.jy) u) (fun y b => V (pa rfl) (Wa (ln ?_)))))))))
 exact kv (rQ hm b)
theorem Cq (z : Formula → Option Bool) (T : ∀ (a : Formula) (g : Value) (r : Bool) (w : World) (c : Sl jo 5 (hp w) g a.Kids), z a = some r → ke false pg0 86 [(.agg #[(.int .i64 a.Op), (.int .i64 a.K), (.string a.jl.jq), (.string a.jl.jv), g])] w (.bool r)) (a : Formula) (g : Value) (r : Bool) (w : World) (c : Sl jo 5 (hp w) g a.Kids) (hm : uO z a = some r) :
  ke false pg0 86 [(.agg #[(.int .i64 a.Op), (.int .i64 a.K), (.string a.jl.jq), (.string a.jl.jv), g])] w (.bool r) := by
 refine cG 17 func86 rfl (fun b => sg ?_)
 obtain ⟨B, D, rfl⟩ := c.form
 let a0 := (C1 a.Op a.K a.jl.jq a.jl.jv B a.Kids.length D)
 refine VE (kq b rfl (fun W4 U b => Wa (lr (VA b Mh a0 bB aC (bS hm fun v a3 hm => VE (Eg b call124 (ke.lR (G1 a (.slice B a.Kids.length D) _ _ (c.mono jD.mono b.jy) a3)) (fun W7 b => Wm (LJ hm (fun K E W => ∃ G, ST false kK w W (hp w) ((U, Ol a0 30) :: G) ∧ E 1 = (.pointer (some ⟨U, 0, none⟩)) ∧ E 2 = (.bool false) ∧ E 10 = (.bool K)) 5 ?_ (fun K t y => ?_)))))))))
 ·rintro L E W ⟨G, b, Y, I, Z⟩ M
  refine Wh Z (LJ M (fun J E W => ∃ H, ST false kK w W (hp w) H ∧ E 2 = (.bool false) ∧ E 16 = (.bool J)) 5 ?_ (fun J k u => ?_))
  ·rintro q E W ⟨H, b, n, d⟩ N
   exact Wg d (lt (rQ N b))
  refine bC k (fun i k => ?_) (fun i k => ?_)
  ·refine ug i (jB rY Y) (ug i (jt rfl (jG b.has Mh rfl ft)) (bS k fun p Q k => ue i (Eg b call125 (uf (.slice B a.Kids.length D) a.Kids (.func (.func 126) #[] #[]) (fun (x : Formula) => tN z x) _ _ (c.mono jD.mono b.jy) ⟨126, #[], #[], rfl, call126, fun W x vs r s h hm => by obtain ⟨_, rfl, a2⟩ := h; obtain ⟨m, rfl, l⟩ := a2.out; exact DS z T x m r W l hm⟩ Q) (fun a5 b => ug i (pa rfl) (V (jO (cB i) rfl) ?_)))))
   obtain rfl := sj k
   exact u _ _ ⟨_, (b.js (Db St)), I, rfl⟩
  refine un i (un i (un i (un i (V (jQ (cB i) rfl) ?_))))
  obtain rfl := sj k
  exact u _ _ ⟨_, (b.js (Db St)), I, rfl⟩
 refine bC t (fun j t => ?_) (fun j t => ?_)
 ·refine ug j (jB rY rfl) (ug j (jt rfl (jG b.has Mh rfl ft)) (ug j (lU aF rfl c) (ug j (ko rfl rfl rfl) (V (jO (cB j) rfl) ?_))))
  obtain rfl := sj t
  exact y _ _ ⟨_, (b.js St), rfl, rfl, rfl⟩
 refine un j (un j (un j (un j (V (jQ (cB j) rfl) ?_))))
 obtain rfl := sj t
 exact y _ _ ⟨_, (b.js St), rfl, rfl, rfl⟩
theorem Bc : ∀ (n : Nat) (c : Formula) (a : Value) (r : Bool) (w : World) (g : Sl jo 5 (hp w) a c.Kids) (_ : qy n c = some r),
  ke false pg0 86 [(.agg #[(.int .i64 c.Op), (.int .i64 c.K), (.string c.jl.jq), (.string c.jl.jv), a])] w (.bool r)
 | 0 => by intros; rename_i h; simp only [qy] at h; cases h
 | n + 1 => Cq (qy n) (Bc n)
theorem vt (a : Formula) (k : Value) (r : Bool) (w : World) (c : Sl jo 5 (hp w) k a.Kids) (hm : qx a = some r) :
  ke false pg0 61 [(.agg #[(.int .i64 a.Op), (.int .i64 a.K), (.string a.jl.jq), (.string a.jl.jv), k])] w (.bool r) := by
 refine cG 24 func61 rfl (fun b => sg ?_)
 obtain ⟨y, z, rfl⟩ := c.form
 let a0 := (C1 a.Op a.K a.jl.jq a.jl.jv y a.Kids.length z)
 refine VE (kq b rfl (fun W4 H b => Wa (lr (VA b Mh a0 bB aC (bS hm fun n a9 hm => VE (Eg b call85 (G8 a (.slice y a.Kids.length z) _ _ (c.mono jD.mono b.jy) a9) (fun W7 b => Wm (Wx rfl (Wx rfl (Wa (Wa (jU ?_))))))))))))
 refine jH (sg (Wm (Wi rfl (Wm (LJ hm (fun Y E W => ∃ I, ST false kK w W (hp w) ((H, Ol a0 30) :: I) ∧ E 1 = (.pointer (some ⟨H, 0, none⟩)) ∧ E 2 = (.bool false) ∧ E 4 = (.int .i64 n.2) ∧ E 15 = (.bool Y)) 3 ?_ (fun Y x G => ?_))))))
 ·rintro O E W ⟨I, b, M, N, a4, a5⟩ Z
  refine Wh a5 (LJ Z (fun U E W => ∃ J, ST false kK w W (hp w) ((H, Ol a0 30) :: J) ∧ E 1 = (.pointer (some ⟨H, 0, none⟩)) ∧ E 2 = (.bool false) ∧ E 19 = (.bool U)) 3 ?_ (fun U u D => ?_))
  ·rintro v E W ⟨J, b, h, Q, l⟩ d
   refine Wh l (LJ d (fun T E W => ∃ K, ST false kK w W (hp w) K ∧ E 2 = (.bool false) ∧ E 23 = (.bool T)) 3 ?_ (fun T j B => ?_))
   ·rintro L E W ⟨K, b, q, m⟩ a2
    exact Wg m (lt (rQ a2 b))
   refine bC j (fun i j => ?_) (fun i j => ?_)
   ·refine ug i (jt h (jA b.has Mh a0 rfl bB aC)) (bS j fun s a3 j => ue i (Eg b call86 ((Bc jP) a (.slice y a.Kids.length z) _ _ (c.mono jD.mono b.jy) a3) (fun p b => V (jO (cB i) rfl) ?_)))
    obtain rfl := sj j
    exact B _ _ ⟨_, (b.js (Db St)), Q, rfl⟩
   refine un i (un i (V (jQ (cB i) rfl) ?_))
   obtain rfl := sj j
   exact B _ _ ⟨_, (b.js (Db St)), Q, rfl⟩
  refine bC u (fun g u => ?_) (fun g u => ?_)
  ·refine ug g (jx a4) (ug g (ko rfl rfl rfl) (V (jO (cB g) rfl) ?_))
   obtain rfl := sj u
   exact D _ _ ⟨_, (b.js St), M, N, rfl⟩
  refine un g (un g (V (jQ (cB g) rfl) ?_))
  obtain rfl := sj u
  exact D _ _ ⟨_, (b.js St), M, N, rfl⟩
 refine bC x (fun t x => ?_) (fun t x => ?_)
 ·refine ug t (jx rfl) (ug t (ko rfl rfl rfl) (V (jO (cB t) rfl) ?_))
  obtain rfl := sj x
  exact G _ _ ⟨_, (b.js St), rfl, rfl, rfl, rfl⟩
 refine un t (un t (V (jQ (cB t) rfl) ?_))
 obtain rfl := sj x
 exact G _ _ ⟨_, (b.js St), rfl, rfl, rfl, rfl⟩
theorem Cx (Q : Formula → (jl → Option Bool) → Option Bool) (a5 : ∀ (g : Formula) (k : Value) (t : Value) (J : jl → Option Bool) (r : Bool) (w : World) (c : Sl jo 5 (hp w) k g.Kids) (K : zq pg0 t (hp w) (fun (x : jl) => [(.agg (ju x).toArray)]) (fun (r : Bool) => (.bool r)) J), Q g J = some r → ke false pg0 62 [(.agg #[(.int .i64 g.Op), (.int .i64 g.K), (.string g.jl.jq), (.string g.jl.jv), k]), t] w (.bool r)) (g : Formula) (k t : Value) (J : jl → Option Bool) (r : Bool) (w : World) (c : Sl jo 5 (hp w) k g.Kids) (K : zq pg0 t (hp w) (fun (x : jl) => [(.agg (ju x).toArray)]) (fun (r : Bool) => (.bool r)) J) (hm : uN Q g J = some r) :
  ke false pg0 62 [(.agg #[(.int .i64 g.Op), (.int .i64 g.K), (.string g.jl.jq), (.string g.jl.jv), k]), t] w (.bool r) := by
 refine cG 45 func62 rfl (fun b => sg ?_)
 obtain ⟨A1, c2, rfl⟩ := c.form
 refine VE (kq b rfl (fun W4 n b => Wa (lS (Wf tV (VB b Mh rfl rfl cJ (Wi rfl (ln (CI hm rfl (fun a9 hm => ?_) (fun a9 hm => ?_)))))))))
 ·refine sg (Wm (Wf xV (VA b Mh (ju g.jl) bQ aT (bS hm fun r6 v hm => VE (OD g.jl b K (jR.refl _) rfl (tm rfl) v (fun W8 b => Wa (ln ?_)))))))
  replace b := b.js (Db St)
  refine kv (kI ?_)
  obtain rfl := sj hm
  exact rP b
 refine kg (Wa (lS (Wf rY (VB b Mh rfl rfl ft (V (lU aF rfl c) (Wm (jU ?_)))))))
 refine jH (lQ (fun i E W => ∃ z I, (E 18 = .int .i64 (i : Nat) ∧ E 17 = .int .i64 (g.Kids.length : Nat)) ∧ ST false kK w W (hp w) ((n, Ol (C1 g.Op g.K g.jl.jq g.jl.jv A1 g.Kids.length c2) 30) :: I) ∧ E 1 = t ∧ E 2 = (.pointer (some ⟨n, 0, none⟩)) ∧ E 5 = (.int .i64 z) ∧ E 16 = (.slice A1 g.Kids.length c2) ∧ oU Q J g (g.Kids.drop i) z = some r) g.Kids.length c.len ⟨0, _, ⟨rfl, rfl⟩, (b.js St), rfl, rfl, rfl, rfl, hm⟩ dc dc dc (fun _ _ _ h => by obtain ⟨_, _, l, _⟩ := h; exact l) ?_ ?_)
 ·rintro L E W a4 ⟨z, I, ⟨d, m⟩, b, G, u, y, H, a⟩
  obtain ⟨j, c1, s, q, N⟩ := lz a4
  rw [s] at a
  refine bg (VQ (nh (i := (L : Int)) (x0 := j) jo.out aF aC H d c (aX _) q) (fun b7 ⟨_, ⟨c0, rfl, M⟩, Z⟩ => V (jt rfl (kl b.has Z bB aC)) (VE (kx b bG (fun O b6 b => ?_)))))
  obtain ⟨B, D, rfl⟩ := M.form
  let a0 := (C1 j.Op j.K j.jl.jq j.jl.jv B j.Kids.length D)
  refine VO (jL (.agg a0.toArray) (a0.toArray) b rfl rfl aC oc nb rfl (fun P b => lr (VA b Mh a0 bB aC (Wh G (bS a fun b9 p a => VE (Eg b call62 (a5 j (.slice B j.Kids.length D) t J _ _ (M.mono jD.mono b.jy) (K.mono b.jy) p) (fun R b => ln ?_)))))))
  replace b := b.js (Db St)
  refine CI a rfl (fun T a => ?_) (fun T a => ?_)
  ·exact jC (Wh y (Wi rfl (Wa (jU (kz (jH ⟨d, (wi0 .i64 (z + 1)), _, ⟨rfl, m⟩, (b.js St), G, u, rfl, H, (by rw [N]; exact a)⟩))))))
  exact lJ (kz (jH ⟨d, z, _, ⟨rfl, m⟩, (b.js St), G, u, y, H, (by rw [N]; exact a)⟩))
 rintro E W ⟨z, I, ⟨d, m⟩, b, G, u, y, H, a⟩
 rw [bE] at a
 refine jH (jI (sg (V (jB tV u) (VB b Mh rfl rfl cJ (ln (bg (Wi rfl (Wa (ln ?_)))))))))
 refine CI a rfl (fun U a => ?_) (fun U a => ?_)
 ·refine sg (Wh y (V (jB rY u) (VB b Mh rfl rfl ft (V (lU aF rfl c) (Wi rfl (Wa (ln ?_)))))))
  replace b := b.js (Db St)
  refine kv (nt (kI ?_))
  obtain rfl := sj a
  exact rP b
 refine sg (Wi rfl (Wa (ln (CI a rfl (fun Y a => ?_) (fun Y a => ?_)))))
 ·refine sg (Wh y (Wi rfl (Wa (ln ?_))))
  replace b := b.js (Db St)
  refine kv (nt (kI ?_))
  obtain rfl := sj a
  exact rP b
 refine lJ (kz (jH (sg (Wh y (V (jB yg u) (VB b Mh rfl rfl cJ (Wi rfl (Wa (ln ?_)))))))))
 exact kv (rQ a b)
theorem Bl : ∀ (n : Nat) (c : Formula) (a : Value) (g : Value) (j : jl → Option Bool) (r : Bool) (w : World) (i : Sl jo 5 (hp w) a c.Kids) (k : zq pg0 g (hp w) (fun (x : jl) => [(.agg (ju x).toArray)]) (fun (r : Bool) => (.bool r)) j) (_ : px n c j = some r),
  ke false pg0 62 [(.agg #[(.int .i64 c.Op), (.int .i64 c.K), (.string c.jl.jq), (.string c.jl.jv), a]), g] w (.bool r)
 | 0 => by intros; rename_i h; simp only [px] at h; cases h
 | n + 1 => Cx (px n) (Bl n)
theorem yy (a : Formula) (j k : Value) (G : jl → Option Bool) (r : Bool) (w : World) (c : Sl jo 5 (hp w) j a.Kids) (z : zq pg0 k (hp w) (fun (x : jl) => [(.agg (ju x).toArray)]) (fun (r : Bool) => (.bool r)) G) (hm : sI a G = some r) :
  ke false pg0 34 [(.agg #[(.int .i64 a.Op), (.int .i64 a.K), (.string a.jl.jq), (.string a.jl.jv), j]), k] w (.bool r) := by
 refine cG 16 func34 rfl (fun b => sg ?_)
 obtain ⟨u, y, rfl⟩ := c.form
 let a0 := (C1 a.Op a.K a.jl.jq a.jl.jv u a.Kids.length y)
 refine VE (kq b rfl (fun U Z b => Wa (lr (Wm (V (HX underlying77 z.form rfl rfl) (Wm (Vg rfl rfl (jt rfl (jA b.has Mh a0 rfl bB aC)) (bS hm fun d K hm => KP rfl rfl (Eg b call61 (vt a (.slice u a.Kids.length y) _ _ (c.mono jD.mono b.jy) K) (fun Y b => V (jO rfl rfl) (Wm (LJ hm (fun D E W => ∃ B, ST false kK w W (hp w) B ∧ E 4 = (.bool false) ∧ E 15 = (.bool D)) 4 ?_ (fun D g t => ?_)))))))))))))
 ·rintro T E W ⟨B, b, N, J⟩ H
  exact Wg J (lt (rQ H b))
 refine bC g (fun i g => ?_) (fun i g => ?_)
 ·refine ug i (jt rfl (jA b.has Mh a0 rfl bB aC)) (ug i (jx rfl) (bS g fun Q I g => ue i (Eg b call62 ((Bl jP) a (.slice u a.Kids.length y) k G _ _ (c.mono jD.mono b.jy) (z.mono b.jy) I) (fun M b => V (jO (cB i) rfl) ?_))))
  obtain rfl := sj g
  exact t _ _ ⟨_, (b.js (Db St)), rfl, rfl⟩
 refine un i (un i (un i (V (jQ (cB i) rfl) ?_)))
 obtain rfl := sj g
 exact t _ _ ⟨_, (b.js (Db St)), rfl, rfl⟩
theorem xq (K : Nat) (a : Value) (G : List (jl × (List (ByteArray × Bool)))) (c : Value) (t : List jm) (j : Value) (D : List (jl × (List jm))) (g : Value) (u : List (ByteArray × (List jm))) (i : Value) (B : List jE) (J : Int) (I : jl) (a2 : ByteArray) (r : Bool) (w : World) (H : ou (fun (x : jl) => (.agg (ju x).toArray)) (kZ Value.string (fun (x : Bool) => (Value.bool x))) (hp w) a G) (T : Sl (Pl jr) 9 (hp w) c t) (Z : ou (fun (x : jl) => (.agg (ju x).toArray)) (jM 49 jr 9) (hp w) j D) (U : ou Value.string (jM 49 jr 9) (hp w) g u) (Y : Sl (Pl lh) 3 (hp w) i B) (Q : At (hp w) (.pointer (some ⟨K, 0, none⟩)) [a, c, j, g, i, (.int .i64 J)]) (hm : rh G t D u B J I a2 = some r) :
  ke true pg0 60 [(.pointer (some ⟨K, 0, none⟩)), (.agg (ju I).toArray), (.string a2)] w (.bool r) := by
 refine cG 19 func60 rfl (fun l => sg (VE (kq l rfl (fun W2 q l => Wa (ln (jI ?_))))))
 replace l := l.drew
 have d := l.has.js (Kb Sn)
 refine kN d ki (X 0 rfl d (jx rfl) (X 1 rfl d (Da underlying106 rfl rfl) (X 2 rfl d (jx rfl) (Xg 3 rfl rfl rfl d (jx rfl) (Xg 4 rfl rfl rfl d (mJ rfl) (ua 5 rfl kr (.inr ⟨2, true, 9, rfl, rfl, by decide, rfl⟩) rfl dc (fun _ _ h => h) d (qH [a] wx rfl Q rfl) (fun p a3 => uW 6 rfl rfl rfl d (fun _ m => jt rfl (oO m (y := a) a3 gO)) (uW 7 rfl rfl rfl d (fun _ m => jt rfl (jA m Mh (ju I) rfl bQ aT)) ?_))))))))
 obtain ⟨a4, a5, M, N⟩ := H
 refine uW 8 rfl rfl rfl d (fun _ m => oM (k := I) (z := (.map none)) zG eB fl rfl rfl M (fun b o n => m.1 b o (N b o n))) (Xg 9 rfl rfl rfl d (jx rfl) (uW 10 rfl rfl rfl d (fun _ m => zc (k := a2) (z := false) (vf := (fun (x : Bool) => (Value.bool x))) Gj fB gJ rfl rfl ((mu.CN jK.1 M I N).mono (fun b o n => m.1 b o n))) (X 11 rfl d (jO rfl rfl) (X 12 rfl d (ma rfl) (kM kr (jH ?_))))))
 exact kv (rQ hm l)
theorem Dz (a0 : jl) (s d : Nat) (Y : Value) (a4 : List (jl × (List (ByteArray × Bool)))) (B : Value) (Q : List jm) (J : Value) (h : List (jl × (List jm))) (D : Value) (T : List (ByteArray × (List jm))) (I : Value) (Z : List jE) (l : Int) (v : Nat) (N : ByteArray) (k : Value) (H : List kd) (z : Value) (M : List nf) (a : ByteArray) (c : Value) (t : List kd) (g : Value) (G : List nf) (K U : Int) (i : jl) (j : Value) (u : List Formula) (q : Int) (a2 : ky) (a3 n a5 : Int) (m : Value) (p : List Key) (r : Bool) (w : World) (P : ou (fun (x : jl) => (.agg (ju x).toArray)) (kZ Value.string (fun (x : Bool) => (Value.bool x))) (hp w) Y a4) (a9 : Sl (Pl jr) 9 (hp w) B Q) (O : ou (fun (x : jl) => (.agg (ju x).toArray)) (jM 49 jr 9) (hp w) J h) (E : ou Value.string (jM 49 jr 9) (hp w) D T) (L : Sl (Pl lh) 3 (hp w) I Z) (R : At (hp w) (.pointer (some ⟨d, 0, none⟩)) [Y, B, J, D, I, (.int .i64 l)]) (W : At (hp w) (.pointer (some ⟨s, 0, none⟩)) [(.pointer (some ⟨d, 0, none⟩))]) (c2 : Sl jW 15 (hp w) k H) (c3 : Sl kQ 8 (hp w) z M) (b9 : Sl jW 15 (hp w) c t) (c1 : Sl kQ 8 (hp w) g G) (c0 : Sl jo 5 (hp w) j u) (d0 : Sl qw 2 (hp w) m p) (c9 : At (hp w) (.pointer (some ⟨v, 0, none⟩)) [(.string N), k, z, (.string a), c, g, (.int .i64 K), (.int .i64 U), (.string i.jq), (.string i.jv), j, (.int .i64 q), (.int .i64 a2.og), (.int .i64 a2.nB), (.int .i64 a3), (.int .i64 n), (.int .i64 a5), m]) (hm : tj a0 a4 Q h T Z l N H M a t G K U i u q a2 a3 n a5 p = some r) :
  ke true pg0 82 [(.agg (ju a0).toArray), (.pointer (some ⟨s, 0, none⟩)), (.pointer (some ⟨v, 0, none⟩))] w (.bool r) := by
 refine cG 11 func82 rfl (fun b => sg (VE (kq b rfl (fun W2 b1 b => Wa (lr (V (jt rfl (oO b.has (y := (.pointer (some ⟨d, 0, none⟩))) W isAgg106)) (VA b Mh (ju a0) bQ aT (VQ (qH [(.string a), c, g] Ap rfl c9 rfl) (fun p3 d2 => VQ (qH [(.string a)] Ax rfl d2 rfl) (fun p6 d3 => V (jt rfl (oO b.has (y := (.string a)) d3 bU)) (bS hm fun r9 d1 hm => ?_)))))))))))
 refine VE (Eg b call60 (xq d Y a4 B Q J h D T I Z l a0 a _ _ (P.mono b.jy) (a9.mono (Pl.mono _) b.jy) (O.mono b.jy) (E.mono b.jy) (L.mono (Pl.mono _) b.jy) (R.mono b.jy) d1) (fun d4 b => Wa (ln ?_)))
 exact kv (rQ hm b)
theorem AB (a : mM) (y B i u j I K : Value) (m : List jm) (r : Bool) (w : World) (t : Sl jW 15 (hp w) y a.jq.jF) (z : Sl kQ 8 (hp w) B a.jq.jS) (g : Sl jW 15 (hp w) i a.Client.jF) (k : Sl kQ 8 (hp w) u a.Client.jS) (c : Sl jo 5 (hp w) j a.Formula.Kids) (H : Sl qw 2 (hp w) I a.Keys) (a4 : Sl (Pl jr) 9 (hp w) K m) (hm : tb a m = some r) :
  ke false pg0 53 [(.agg #[(.string a.jq.Name), y, B, (.string a.Client.Name), i, u, (.int .i64 a.Formula.Op), (.int .i64 a.Formula.K), (.string a.Formula.jl.jq), (.string a.Formula.jl.jv), j, (.int .i64 a.vo), (.int .i64 a.nG.og), (.int .i64 a.nG.nB), (.int .i64 a.pC), (.int .i64 a.th), (.int .i64 a.qN), I]), K] w (.bool r) := by
 refine cG 12 func53 rfl (fun d => sg ?_)
 obtain ⟨A1, c2, rfl⟩ := t.form
 obtain ⟨A3, P, rfl⟩ := z.form
 obtain ⟨A5, c6, rfl⟩ := g.form
 obtain ⟨A7, c8, rfl⟩ := k.form
 obtain ⟨U, M, rfl⟩ := c.form
 obtain ⟨Y, Z, rfl⟩ := H.form
 refine VE (kq d rfl (fun d6 N d => Wa (lr (Wm (bS hm fun G a5 hm => ?_)))))
 refine VE (yb d (bR _) call58 (fun _ _ _ _ => (CV K m _ _ (a4.mono (Pl.mono _) d.jy) a5)) (fun d7 e2 e3 d0 d D p n a3 => ?_) (L0 := []))
 obtain ⟨Q, c1, d1, O, d2, R, d3, c7, d4, c9, d5, J, rfl, s, v, a9, E, L⟩ := a3
 replace J := J.symm; subst J
 replace d := d.perm (Tb (Tr (Tr (Tr (Tr (Tr Tn))))))
 refine VE (kx d zeroValue106 (fun d8 T d => VO (jL (.pointer (some ⟨Q, 0, none⟩)) (#[(.pointer (some ⟨Q, 0, none⟩))]) d rfl rfl sizeOf106 oc nb rfl (fun d9 d => lr (Wf Gm (VA d (Mt (Mt (Ma (Ma (Ma (Ma (Ma Mh))))))) (C1 a.Formula.Op a.Formula.K a.Formula.jl.jq a.Formula.jl.jv U a.Formula.Kids.length M) bB aC (V (pG (by exact uk rfl rfl) rfl) (bS hm fun e1 q hm => VE (Eg d call34 (yy a.Formula (.slice U a.Formula.Kids.length M) (.func (.func 82) #[] #[(.pointer (some ⟨T, 0, none⟩)), (.pointer (some ⟨N, 0, none⟩))]) (fun (x : jl) => tj x G.1 G.2.1 G.2.2.1 G.2.2.2.1 G.2.2.2.2.1 G.2.2.2.2.2 a.jq.Name a.jq.jF a.jq.jS a.Client.Name a.Client.jF a.Client.jS a.Formula.Op a.Formula.K a.Formula.jl a.Formula.Kids a.vo a.nG a.pC a.th a.qN a.Keys) _ _ (c.mono jD.mono (D.trans d.jy)) ⟨82, #[], #[(.pointer (some ⟨T, 0, none⟩)), (.pointer (some ⟨N, 0, none⟩))], rfl, call82, fun W x r l hm => (Dz x T Q c1 G.1 O G.2.1 R G.2.2.1 c7 G.2.2.2.1 c9 G.2.2.2.2.1 G.2.2.2.2.2 N a.jq.Name (.slice A1 a.jq.jF.length c2) a.jq.jF (.slice A3 a.jq.jS.length P) a.jq.jS a.Client.Name (.slice A5 a.Client.jF.length c6) a.Client.jF (.slice A7 a.Client.jS.length c8) a.Client.jS a.Formula.Op a.Formula.K a.Formula.jl (.slice U a.Formula.Kids.length M) a.Formula.Kids a.vo a.nG a.pC a.th a.qN (.slice Y a.Keys.length Z) a.Keys r W (s.at (fun b o h => l _ _ ((fun b o h => d.at_ (Mt (Mt (Ml h)))) b o h))) (v.sl kj (fun b o h => l _ _ ((fun b o h => d.at_ (Mt (Mt (Ma (Ml h))))) b o h))) (a9.at (fun b o h => l _ _ ((fun b o h => d.at_ (Mt (Mt (Ma (Ma (Ml h)))))) b o h))) (E.at (fun b o h => l _ _ ((fun b o h => d.at_ (Mt (Mt (Ma (Ma (Ma (Ml h))))))) b o h))) ((L.BV wo).mono (Pl.mono _) (lN (fun b o h => l _ _ ((fun b o h => d.at_ (Mt (Mt (Ma (Ma (Ma (Ma (Ml h)))))))) b o h)))) (At.of (l _ _ (d.at_ (Mt Mh))) _ rfl) (At.of (l _ _ (d.at_ Mh)) _ rfl) (t.mono kc.mono ((D.trans d.jy).trans l)) (z.mono mn.mono ((D.trans d.jy).trans l)) (g.mono kc.mono ((D.trans d.jy).trans l)) (k.mono mn.mono ((D.trans d.jy).trans l)) (c.mono jD.mono ((D.trans d.jy).trans l)) (H.mono yf.mono ((D.trans d.jy).trans l)) (At.of (l _ _ (d.at_ (Mt (Mt (Ma (Ma (Ma (Ma (Ma Mh))))))))) _ rfl) hm).lR⟩ q) (fun e0 d => Wa (ln ?_)))))))))))
 exact kv (rQ hm d)
theorem vx (a : mM) (j k c i g t : Value) (r : (ByteArray × ByteArray × Int × Int × jl × Int × ky × Int × Int × Int)) (w : World) (z : Sl jW 15 (hp w) j a.jq.jF) (B : Sl kQ 8 (hp w) k a.jq.jS) (u : Sl jW 15 (hp w) c a.Client.jF) (y : Sl kQ 8 (hp w) i a.Client.jS) (x : Sl jo 5 (hp w) g a.Formula.Kids) (D : Sl qw 2 (hp w) t a.Keys) (hm : nQ a = some r) :
  kA true pg0 8 [(.agg #[(.string a.jq.Name), j, k, (.string a.Client.Name), c, i, (.int .i64 a.Formula.Op), (.int .i64 a.Formula.K), (.string a.Formula.jl.jq), (.string a.Formula.jl.jv), g, (.int .i64 a.vo), (.int .i64 a.nG.og), (.int .i64 a.nG.nB), (.int .i64 a.pC), (.int .i64 a.th), (.int .i64 a.qN), t])] w [] (fun v Y W' => ∃ I, v = (.func (.func 24) #[] #[(.pointer (some ⟨I, 0, none⟩))]) ∧ Y = ((I, Ob #[(.string (r.1)), j, k, (.string (r.2.1)), c, i, (.int .i64 (r.2.2.1)), (.int .i64 (r.2.2.2.1)), (.string ((r.2.2.2.2.1).jq)), (.string ((r.2.2.2.2.1).jv)), g, (.int .i64 (r.2.2.2.2.2.1)), (.int .i64 ((r.2.2.2.2.2.2.1).og)), (.int .i64 ((r.2.2.2.2.2.2.1).nB)), (.int .i64 (r.2.2.2.2.2.2.2.1)), (.int .i64 (r.2.2.2.2.2.2.2.2.1)), (.int .i64 (r.2.2.2.2.2.2.2.2.2)), t] 34) :: [])) := by
 refine yc 4 func8 rfl (fun b => sg ?_)
 obtain ⟨M, Z, rfl⟩ := z.form
 obtain ⟨N, d, rfl⟩ := B.form
 obtain ⟨Q, h, rfl⟩ := u.form
 obtain ⟨T, l, rfl⟩ := y.form
 obtain ⟨U, J, rfl⟩ := x.form
 obtain ⟨H, K, rfl⟩ := D.form
 refine VE (kq b rfl (fun a4 G b => Wa (lr (V (pG (by exact tm rfl) rfl) (Wa (lt ?_))))))
 obtain rfl := sj hm
 exact li (v := (.func (.func 24) #[] #[(.pointer (some ⟨G, 0, none⟩))])) rfl rfl ⟨_, _, rfl, (b.EV (Kb Sn)), G, rfl, rfl⟩
theorem Jq (c : Value) (D : List jm) (G : ByteArray) (r : ((List (jl × (List (ByteArray × Bool)))) × (List jm) × (List (jl × (List jm))) × (List (ByteArray × (List jm))) × (List jE) × Int × ByteArray)) (w : World) (I : Sl (Pl jr) 9 (hp w) c D) (hm : uw D G = some r) :
  kA false pg0 43 [c, (.string G)] w [] (fun v L1 W' => ∃ g h l S4 m S7 n j z k B t u, v = (.func (.func 70) #[] #[(.pointer (some ⟨g, 0, none⟩)), (.pointer (some ⟨u, 0, none⟩))]) ∧ L1 = ((g, Ob #[(.pointer (some ⟨h, 0, none⟩))] 106) :: ((h, Ob #[l, m, n, z, B, (.int .i64 (r.2.2.2.2.2.1))] 135) :: ((u, Ob #[(.string (r.2.2.2.2.2.2))] 9) :: (S4 ++ (S7 ++ (j ++ (k ++ (t ++ [])))))))) ∧ lm (fun (x : jl) => (.agg (ju x).toArray)) (kZ Value.string (fun (x : Bool) => (Value.bool x))) l r.1 S4 ∧ jM 49 jr 9 m r.2.1 S7 ∧ lm (fun (x : jl) => (.agg (ju x).toArray)) (jM 49 jr 9) n r.2.2.1 j ∧ lm Value.string (jM 49 jr 9) z r.2.2.2.1 k ∧ pq 111 lh 3 B r.2.2.2.2.1 t) := by
 refine yc 9 func43 rfl (fun b => sg (VE (kq b rfl (fun W2 g b => Wa (lr (Wm (bS hm fun r3 p hm => ?_)))))))
 refine VE (yb b (bR _) call58 (fun _ _ _ _ => (CV c D _ _ (I.mono (Pl.mono _) b.jy) p)) (fun W5 v9 P W b R O d H => ?_) (L0 := []))
 obtain ⟨i, q, T, s, U, a9, Y, E, Z, L, a2, a, rfl, J, K, M, N, Q⟩ := H
 replace a := a.symm; subst a
 replace b := b.perm (Tb (Tr (Tr (Tr (Tr (Tr Tn))))))
 refine VE (kx b zeroValue106 (fun c1 y b => VO (jL (.pointer (some ⟨i, 0, none⟩)) (#[(.pointer (some ⟨i, 0, none⟩))]) b rfl rfl sizeOf106 oc nb rfl (fun c2 b => lr (V (pG (by exact uk rfl rfl) rfl) (Wa (lt ?_)))))))
 obtain rfl := sj hm
 exact li (v := (.func (.func 70) #[] #[(.pointer (some ⟨y, 0, none⟩)), (.pointer (some ⟨g, 0, none⟩))])) rfl rfl ⟨_, _, rfl, (b.EV (Kb (Kb (Sb (Pr (Pr (Pr (Pr (Pr Pz))))) (Kr (Kr (Kr (Kr (Kr Sn))))))))), y, i, q, T, s, U, a9, Y, E, Z, L, a2, g, rfl, rfl, J, K, M, N, Q⟩
theorem zu (g : Value) (t : List kd) (j : Value) (z : kd → Option Bool) (r : Int) (w : World) (c : Sl jW 15 (hp w) g t) (B : wK pg0 j (hp w) (AM jW) (fun (r : Bool) => (.bool r)) z) (hm : rU t z = some r) :
  ke false pg0 91 [g, j] w (.int .i64 r) := by
 refine cG 19 func91 rfl (fun b => sg (Wa (lS (Wm (V (lU fu rfl c) (Wm (ln (lQ (fun i E W => ∃ k, (E 8 = .int .i64 (i : Nat) ∧ E 7 = .int .i64 (t.length : Nat)) ∧ ST false kK w W (hp w) k ∧ E 0 = g ∧ E 1 = j ∧ mO z (t.drop i) i = some r) t.length c.len ⟨_, ⟨rfl, rfl⟩, (b.js St), rfl, rfl, hm⟩ dc dc dc (fun _ _ _ h => by obtain ⟨_, l, _⟩ := h; exact l) ?_ ?_))))))))
 ·rintro T E W G ⟨k, ⟨d, m⟩, b, u, x, a⟩
  obtain ⟨y, Z, N, M, Q⟩ := lz G
  rw [N] at a
  refine bg (Wh d (Wa (lr (Wh x (Wh u (Wm (VQ (nh (i := (T : Int)) (x0 := y) jW.out fu eL rfl rfl c (aX _) M) (fun a2 ⟨_, ⟨U, Y, rfl, J, K⟩, H⟩ => V (jt rfl (kl b.has H isAgg63 eL)) (bS a fun a3 I a => ?_)))))))))
  refine VE (xW y b B (jR.refl _) (AM.mk kc (jW.mk ⟨U, Y, rfl, J, K⟩) b.jy) rfl (tm rfl) I (fun n b => ln (CI a rfl (fun D a => ?_) (fun D a => ?_))))
  ·refine sg (Wm (Wa (lt (nt (kI (nt (kI ?_)))))))
   obtain rfl := sj a
   exact rP b
  exact lJ (kz (jH ⟨d, _, ⟨rfl, m⟩, (b.js St), u, x, (by rw [Q]; exact a)⟩))
 rintro E W ⟨k, ⟨d, m⟩, b, u, x, a⟩
 rw [bE] at a
 exact jH (sg (Wa (lt (rQ a b))))
theorem FO (a : kd) (g c : Value) (k : Nat) (u : jm) (r : Bool) (w : World) (j : Sl (Pl (kP .u8)) 1 (hp w) g a.Signed.Tag) (i : Sl jo 5 (hp w) c a.jw.Kids) (t : At (hp w) (.pointer (some ⟨k, 0, none⟩)) (jr u)) (hm : vy a u = some r) :
  ke true pg0 92 [(.agg #[(.int .i64 a.Signed.jm.Kind), (.string a.Signed.jm.Head.jq), (.string a.Signed.jm.Head.jv), (.string a.Signed.jm.km), (.string a.Signed.jm.B.jq), (.string a.Signed.jm.B.jv), (.string a.Signed.jm.C.jq), (.string a.Signed.jm.C.jv), (.string a.Signed.jm.kC), g, (.int .i64 a.jw.Op), (.int .i64 a.jw.K), (.string a.jw.jl.jq), (.string a.jw.jl.jv), c]), (.pointer (some ⟨k, 0, none⟩))] w (.bool r) := by
 refine cG 9 func92 rfl (fun b => sg ?_)
 obtain ⟨x, z, rfl⟩ := j.form
 obtain ⟨y, B, rfl⟩ := i.form
 refine VE (kq b rfl (fun D G b => Wa (lr (Wf FJ (Wf GG (VA b Mh (jr a.Signed.jm) bX aQ (V (jt rfl (kl b.has t bX aQ)) (V (wU rfl rfl (pu fW) (tH (yN _ a.Signed.jm u))) (Wa (ln ?_))))))))))
 exact kv (rQ hm b)
theorem JG (k : jX) (g j : Value) (D : jm) (r : (kd × Bool)) (w : World) {J : jN} (l : nT J [] w) (c : Sl jW 15 J g k.jF) (B : Sl kQ 8 J j k.jS) (hm : xP k D = some r) :
  lZ false pg0 71 [(.agg #[(.string k.Name), g, j]), (.agg (jr D).toArray)] w J [] (fun v L1 μ1 => ∃ d h, v = (.tuple #[(.agg #[(.int .i64 ((((r.1).Signed).jm).Kind)), (.string (((((r.1).Signed).jm).Head).jq)), (.string (((((r.1).Signed).jm).Head).jv)), (.string ((((r.1).Signed).jm).km)), (.string (((((r.1).Signed).jm).B).jq)), (.string (((((r.1).Signed).jm).B).jv)), (.string (((((r.1).Signed).jm).C).jq)), (.string (((((r.1).Signed).jm).C).jv)), (.string ((((r.1).Signed).jm).kC)), d, (.int .i64 (((r.1).jw).Op)), (.int .i64 (((r.1).jw).K)), (.string ((((r.1).jw).jl).jq)), (.string ((((r.1).jw).jl).jv)), h]), (.bool (r.2))]) ∧ L1 = [] ∧ Sl (Pl (kP .u8)) 1 μ1 d (((r.1).Signed).Tag) ∧ Sl jo 5 μ1 h (((r.1).jw).Kids)) := by
 refine vO l 19 func71 rfl (fun b => sg ?_)
 obtain ⟨T, U, rfl⟩ := c.form
 obtain ⟨A3, c4, rfl⟩ := B.form
 refine VE (kq b rfl (fun W6 P b => VE (kq b rfl (fun W8 K b => VE (kx b gp (fun L b9 b => Wa (lr (Wf DJ (VB b (Mt (Mt Mh)) rfl rfl isAgg22 (V (pG (by exact tm rfl) rfl) (bS hm fun Z Q hm => VE (Eg b call91 (zu (.slice T k.jF.length U) k.jF (.func (.func 92) #[] #[(.pointer (some ⟨K, 0, none⟩))]) (fun (x : kd) => vy x D) _ _ (c.mono kc.mono b.jy) ⟨92, #[], #[(.pointer (some ⟨K, 0, none⟩))], rfl, call92, fun W x vs r n m hm => by obtain ⟨_, rfl, Y⟩ := m; obtain ⟨s, E, rfl, p, q⟩ := Y.out; exact (FO x s E K D r W p q (At.of (n _ _ (b.at_ (Mt Mh))) _ rfl) hm).lR⟩ Q) (fun O b => Wa (jU ?_))))))))))))))
 refine jH ?_
 replace b := b.js (Kb (Db St))
 refine jI (sg (Wm (Wi rfl (ln (CI hm rfl (fun M hm => ?_) (fun M hm => ?_))))))
 ·refine sg (V (mr (v := (.agg C9.toArray)) tW (lM gp fP (Q1 _ fP) kr)) (VO (jL (.agg C9.toArray) (C9.toArray) b rfl rfl eL oc nb rfl (fun R b => Wa (ln ?_)))))
  replace b := b.js (Kb (Db St))
  refine kv (kI ?_)
  obtain rfl := sj hm
  exact vm (v0 := (.agg C9.toArray)) (v1 := (.bool false)) rfl rfl (jA b.has Mh C9 rfl isAgg63 eL) rfl ⟨_, _, _, rfl, (b.mi Sn), (jR.refl _), Lo.refl, (ST.lf b (mS.mem Sn)), (.slice none 0 0), (.slice none 0 0), rfl, rfl, (Sl.nil _ _ _), (Sl.nil _ _ _)⟩
 refine kg (Wf DJ (VB b (Mt Mh) rfl rfl isAgg22 (Wm (bS hm fun a I hm => VQ (nh (i := Z) (x0 := a) jW.out fu eL rfl rfl c (kh I) (jY I)) (fun c1 ⟨_, ⟨c3, c5, rfl, G, H⟩, N⟩ => V (jt rfl (kl b.has N isAgg63 eL)) ?_)))))
 obtain ⟨t, y, rfl⟩ := G.form
 obtain ⟨u, z, rfl⟩ := H.form
 let a0 := (C3 a.Signed.jm.Kind a.Signed.jm.Head.jq a.Signed.jm.Head.jv a.Signed.jm.km a.Signed.jm.B.jq a.Signed.jm.B.jv a.Signed.jm.C.jq a.Signed.jm.C.jv a.Signed.jm.kC t a.Signed.Tag.length y a.jw.Op a.jw.K a.jw.jl.jq a.jw.jl.jv u a.jw.Kids.length z)
 refine VO (jL (.agg a0.toArray) (a0.toArray) b rfl rfl eL oc nb rfl (fun c0 b => Wa (ln ?_)))
 replace b := b.js (Kb (Db St))
 refine kv ?_
 obtain rfl := sj hm
 exact vm (v0 := (.agg a0.toArray)) (v1 := (.bool true)) rfl rfl (jA b.has Mh a0 rfl isAgg63 eL) rfl ⟨_, _, _, rfl, (b.mi Sn), (jR.refl _), Lo.refl, (ST.lf b (mS.mem Sn)), (.slice t a.Signed.Tag.length y), (.slice u a.jw.Kids.length z), rfl, rfl, G, H⟩
theorem D3 (c : Value) (u r : List nf) (w : World) {j : jN} (I : nT j [] w) (a : Sl kQ 8 j c u) (hm : tS u = some r) :
  lZ true pg0 94 [c] w j [] (fun v G J => ∃ z t, v = z ∧ G = (t ++ []) ∧ kw 82 kQ 8 J z r t) := by
 unfold tS at hm
 refine vO I 8 func94 rfl (fun b => sg (Wa (lS (Wm ?_))))
 obtain ⟨D, Q, rfl⟩ := a.form
 refine V (AS dH rfl rfl) (ln ?_)
 rcases D with _ | M
 ·have y := a.isNil
  replace hm : some [] = some r := by rw [y] at hm; simpa [lP, maxLen] using hm
  refine we (rfl) (sg (Wa (lt (kI ?_))))
  obtain rfl := sj hm
  refine li (v := (.slice none 0 0)) rfl rfl ?_
  replace b := b.Of
  exact ⟨_, _, _, rfl, (b.mi (Kr Sn)), (jR.refl _), Lo.refl, (ST.lf b (mS.mem (Kr Sn))), (.slice none 0 0), [], rfl, rfl, (kw.nil _ _ _ _)⟩
 ·refine su (rfl) (kg (VE (kp (cs := #[]) b tW (Ak [] dH er iE dc rfl (by simp) rfl rfl) (fun N H b => Wm (bS hm fun T x hm => VE (vT (B := [(H, Ob #[] 82)]) mn b dc dH Ga.1 Ga.2.1 rfl Ga.2.2.1 Ga.2.2.2 rfl rfl (kw.lit mn (l := []) .nil rfl nb rfl) (Bj.sl mn a b.jy) x (fun K g k b i => Wa (lt ?_))))))))
  obtain rfl := sj hm
  exact li (v := g) rfl rfl ⟨_, _, _, rfl, (b.mi (Kr Sn)), (jR.refl _), Lo.refl, (ST.lf b (mS.mem (Kr Sn))), g, k, rfl, rfl, i⟩
theorem Bv (g : Value) (t : List nf) (j : Value) (z : nf → Option Bool) (r : Int) (w : World) (c : Sl kQ 8 (hp w) g t) (B : wK pg0 j (hp w) (AM kQ) (fun (r : Bool) => (.bool r)) z) (hm : ud t z = some r) :
  ke false pg0 133 [g, j] w (.int .i64 r) := by
 refine cG 19 func133 rfl (fun b => sg (Wa (lS (Wm (V (lU dH rfl c) (Wm (ln (lQ (fun i E W => ∃ k, (E 8 = .int .i64 (i : Nat) ∧ E 7 = .int .i64 (t.length : Nat)) ∧ ST false kK w W (hp w) k ∧ E 0 = g ∧ E 1 = j ∧ ny z (t.drop i) i = some r) t.length c.len ⟨_, ⟨rfl, rfl⟩, (b.js St), rfl, rfl, hm⟩ dc dc dc (fun _ _ _ h => by obtain ⟨_, l, _⟩ := h; exact l) ?_ ?_))))))))
 ·rintro T E W G ⟨k, ⟨d, m⟩, b, u, x, a⟩
  obtain ⟨y, Z, N, M, Q⟩ := lz G
  rw [N] at a
  refine bg (Wh d (Wa (lr (Wh x (Wh u (Wm (VQ (nh (i := (T : Int)) (x0 := y) kQ.out dH er rfl rfl c (aX _) M) (fun a2 ⟨_, ⟨U, Y, rfl, J, K⟩, H⟩ => V (jt rfl (kl b.has H isAgg82 er)) (bS a fun a3 I a => ?_)))))))))
  refine VE (xW y b B (jR.refl _) (AM.mk mn (kQ.mk ⟨U, Y, rfl, J, K⟩) b.jy) rfl (tm rfl) I (fun n b => ln (CI a rfl (fun D a => ?_) (fun D a => ?_))))
  ·refine sg (Wm (Wa (lt (nt (kI (nt (kI ?_)))))))
   obtain rfl := sj a
   exact rP b
  exact lJ (kz (jH ⟨d, _, ⟨rfl, m⟩, (b.js St), u, x, (by rw [Q]; exact a)⟩))
 rintro E W ⟨k, ⟨d, m⟩, b, u, x, a⟩
 rw [bE] at a
 exact jH (sg (Wa (lt (rQ a b))))
theorem AQ (k : Value) (a0 : List nf) (y : LO) (J : Value) (f1 : nf → Option Bool) (r : List nf) (w : World) {Y : jN} (h0 : nT Y (y ++ []) w) (n : kw 82 kQ 8 Y k a0 y) (a9 : wK pg0 J Y (AM kQ) (fun (r : Bool) => (.bool r)) f1) (hm : qM a0 f1 = some r) :
  lZ false pg0 93 [k, J] w Y (y ++ []) (fun v L1 μ1 => ∃ y1, v = y1 ∧ L1 = [] ∧ Sl kQ 8 μ1 y1 (r)) := by
 refine vO h0 42 func93 rfl (fun d => sg (Wa (lr (Wm (Wm (bS hm fun R d7 hm => VE (Eg d call133 (Bv k a0 J f1 _ _ (n.sl mn d.jy (fun b o q => d.at_ (Ml q))) (a9.mono d.jy) d7) (fun W3 d => Wa (ln ?_)))))))))
 refine jI (sg (Wm (Wi rfl (ln (CI hm rfl (fun d6 hm => ?_) (fun d6 hm => ?_))))))
 ·refine sg (Wm (Wa (lt (kI ?_))))
  obtain rfl := sj hm
  refine li (v := k) rfl rfl ?_
  obtain ⟨aa, d, d2, p, d8⟩ := ST.xZ mn d n
  exact ⟨_, _, _, rfl, (d.mi Sn), d2, p, (ST.lf d (mS.mem Sn)), k, rfl, rfl, d8⟩
 refine kS (Wm (Wi rfl (Wa (ln (kX (mT (fun m E W => ∃ a2 K G H L, ST false (keys (y ++ [])) w W Y (K ++ L) ∧ E 0 = k ∧ E 1 = J ∧ E 5 = (.int .i64 G) ∧ E 6 = (.int .i64 H) ∧ kw 82 kQ 8 Y k a2 K ∧ ni f1 m a2 G H = some r) jP ⟨a0, y, R, (wi0 .i64 (R + 1)), _, (d.js St), rfl, rfl, rfl, rfl, n, hm⟩ ?_))))))
 rintro m E W ⟨a2, K, G, H, L, d, t, Z, I, N, j, c⟩
 cases m with
 | zero => rw [ni] at c; cases c
 | succ d4 =>
  refine jI (sg (Wh N (Wh t (V (xF dH rfl j) (Wi rfl (ln (CI c rfl (fun b6 c => ?_) (fun b6 c => ?_))))))))
  ·refine kn (jI (CJ c (fun a3 E W => ∃ M O, ST false (keys (y ++ [])) w W Y (M ++ O) ∧ E 0 = k ∧ E 1 = J ∧ E 5 = (.int .i64 a3.2) ∧ E 6 = (.int .i64 H) ∧ kw 82 kQ 8 Y k a3.1 M) (fun a3 g => ?_) ?_))
   ·refine bg (Wh t (Wh N (bS g fun a s g => VQ (kW (i := H) kQ.out dH er rfl rfl j (kh s) (jY s)) (fun f5 ⟨_, ⟨f8, f9, rfl, Q, T⟩, c1, e1⟩ => V (jt rfl (kl (nA.hp _) (c1.mono (lN (fun b o q => d.has.2 b o (Ml q)))) isAgg82 er)) (VE (kx d iE (fun e7 f3 d => ?_)))))))
    obtain ⟨u, B, rfl⟩ := Q.form
    obtain ⟨x, D, rfl⟩ := T.form
    let l := (RH a.jl.jq a.jl.jv a.jw.Op a.jw.K a.jw.jl.jq a.jw.jl.jv u a.jw.Kids.length B x a.mo.length D)
    refine VO (jL (.agg l.toArray) (l.toArray) d rfl rfl er oc nb rfl (fun e8 d => lr (Wh Z (VA d Mh l isAgg82 er (bS g fun f7 c2 g => VE (xW a d a9 (jR.refl _) (AM.mk mn (kQ.mk ⟨(.slice u a.jw.Kids.length B), (.slice x a.mo.length D), rfl, Q, T⟩) d.jy) rfl (tm rfl) c2 (fun e9 d => V (pa rfl) (ln (CI g rfl (fun b7 g => ?_) (fun b7 g => ?_))))))))))
    ·refine sg (Wh t (Wh I (VA d Mh l isAgg82 er (bS g fun g3 U g => VQ (kW (i := G) kQ.out dH er rfl rfl j (kh U) (jY U)) (fun f6 ⟨_, ⟨g0, g1, rfl, e3, e4⟩, e2, b9⟩ => ?_)))))
     replace d := d.perm (Nr (Qb Qz) Nz)
     refine VO (qi (x1 := a) mn d j rfl rfl (kQ.mk ⟨(.slice u a.jw.Kids.length B), (.slice x a.mo.length D), rfl, Q, T⟩) b9 (jY U) er (fun f0 c7 d b4 => ln ?_))
     replace d := d.js (Kr (Db St))
     refine jC (Wh I (Wi rfl (Wa (jU (kz (jH ?_))))))
     obtain rfl := sj g
     exact ⟨c7, _, (d.js St), t, Z, rfl, N, b4⟩
    refine lJ (kz (jH ?_))
    obtain rfl := sj g
    exact ⟨K, _, (d.js (Db St)), t, Z, I, N, j⟩
   rintro ⟨d3, d5⟩ E W ⟨M, O, d, c8, c9, d0, d1, c3⟩ c0
   exact jC (Wh d1 (Wi rfl (Wa (ln ⟨d4, bn _, d3, M, d5, (wi0 .i64 (H + 1)), _, (d.js St), c8, c9, d0, rfl, c3, c0⟩))))
  refine ng (mI (mI (rC (jH (sg (Wh t (Wh I (bS c fun _ a4 c => VQ (As (i := G) dH er rfl rfl j (vI a4) (vw a4)) (fun g2 c4 => VO (DC (z := (⟨K0, (⟨0, 0, K0, []⟩ : Formula), []⟩ : nf)) (zs := [(.string zS), (.string zS), (.int .i64 0), (.int .i64 0), (.string zS), (.string zS), (.slice none 0 0), (.slice none 0 0)]) mn d j (kQ.mk ⟨(.slice none 0 0), (.slice none 0 0), rfl, (Sl.nil _ _ _), (Sl.nil _ _ _)⟩) dH iE c4 rfl rfl (fun f2 e6 d b5 => lr (Wh t ?_))))))))))))
  refine Wh I (bS c fun _ a5 c => VQ (F2 (i := G) dH er rfl rfl b5 (vI a5) (vw a5)) (fun P c5 => Wa (lt ?_)))
  obtain rfl := sj c
  refine li (v := P) rfl rfl ?_
  obtain ⟨g7, d, b0, h, c6⟩ := ST.xZ mn d c5
  exact ⟨_, _, _, rfl, (d.mi Sn), b0, h, (ST.lf d (mS.mem Sn)), P, rfl, rfl, c6⟩
theorem Fe (c : nf) (a i : Value) (k : Nat) (u : jm) (r : Bool) (w : World) (j : Sl jo 5 (hp w) a c.jw.Kids) (g : Sl (Pl jr) 9 (hp w) i c.mo) (t : At (hp w) (.pointer (some ⟨k, 0, none⟩)) (jr u)) (hm : rl c u = some r) :
  ke true pg0 95 [(.agg #[(.string c.jl.jq), (.string c.jl.jv), (.int .i64 c.jw.Op), (.int .i64 c.jw.K), (.string c.jw.jl.jq), (.string c.jw.jl.jv), a, i]), (.pointer (some ⟨k, 0, none⟩))] w (.bool r) := by
 refine cG 9 func95 rfl (fun b => sg ?_)
 obtain ⟨B, D, rfl⟩ := j.form
 obtain ⟨x, y, rfl⟩ := g.form
 refine VE (kq b rfl (fun G I b => Wa (lr (Wf Nn (VB b Mh rfl rfl dY (V (jt rfl (kl b.has t bX aQ)) (bS hm fun J z hm => VE (Eg b call29 (xQ (.slice x c.mo.length y) c.mo u _ _ (g.mono (Pl.mono _) b.jy) z) (fun H b => V (pa rfl) (Wa (ln ?_)))))))))))
 exact kv (rQ hm b)
theorem Ii (i : jX) (a g : Value) (y : jm) (r : List nf) (w : World) {G : jN} (q : nT G [] w) (j : Sl jW 15 G a i.jF) (c : Sl kQ 8 G g i.jS) (hm : xa i y = some r) :
  lZ false pg0 72 [(.agg #[(.string i.Name), a, g]), (.agg (jr y).toArray)] w G [] (fun v L1 μ1 => ∃ n, v = n ∧ L1 = [] ∧ Sl kQ 8 μ1 n (r)) := by
 refine vO q 10 func72 rfl (fun b => sg ?_)
 obtain ⟨A1, c2, rfl⟩ := j.form
 obtain ⟨Y, p, rfl⟩ := c.form
 refine VE (kq b rfl (fun W6 b5 b => VE (kq b rfl (fun W8 z b => Wa (lr (Wf MR (VB b (Mt Mh) rfl rfl isAgg23 (bS hm fun L N hm => ?_))))))))
 refine VE (eD b (bR _) call94 (fun m => lZ.lR (D3 (.slice Y i.jS.length p) i.jS _ _ m (c.mono mn.mono (jR.refl _)) N)) ?_ (L0 := []))
 rintro _ c3 c6 b4 b B d ⟨a5, Z, k, rfl, T⟩
 obtain rfl := k.symm
 replace b := b.perm (Tr Tn)
 refine V (pG (by exact tm rfl) rfl) ?_
 replace b := b.perm (Nb (Pr Pz) Nz)
 obtain ⟨c7, b, u, h, M⟩ := ST.IF (R := [(z, Ol (jr y) 49)]) b
 have K := At.of (M _ _ (.head _)) _ rfl
 refine bS hm fun c1 Q hm => ?_
 refine VE (eD b (Cr Qz Cn) call93 (fun m => (AQ a5 L Z (.func (.func 95) #[] #[(.pointer (some ⟨z, 0, none⟩))]) (fun (x : nf) => rl x y) _ _ m (T.mono mn u) ⟨95, #[], #[(.pointer (some ⟨z, 0, none⟩))], rfl, call95, fun W x vs r E s hm => by obtain ⟨_, rfl, a3⟩ := s; obtain ⟨O, P, rfl, I, J⟩ := a3.out; exact (Fe x O P z y r W I J (K.mono ((jR.refl _).trans E)) hm).lR⟩ Q)) ?_)
 rintro _ c5 c8 b6 b D l ⟨H, t, rfl, U⟩
 obtain rfl := t.symm
 refine Wa (ln ?_)
 replace b := b.js (Db St)
 refine kv ?_
 obtain rfl := sj hm
 exact li (v := H) rfl rfl ⟨_, _, _, rfl, (b.mi Sn), ((B.trans u).trans D), ((d.trans h).trans l), (ST.lf b (mS.mem Sn)), H, rfl, rfl, U⟩
theorem yJ (i : Formula) (g : Value) (x : Int) (r : Bool) (w : World) (c : Sl jo 5 (hp w) g i.Kids) (hm : sH i x = some r) :
  ke true pg0 160 [(.agg #[(.int .i64 i.Op), (.int .i64 i.K), (.string i.jl.jq), (.string i.jl.jv), g]), (.int .i64 x)] w (.bool r) := by
 refine cG 15 func160 rfl (fun b => sg ?_)
 obtain ⟨B, D, rfl⟩ := c.form
 refine VE (kq b rfl (fun G H b => Wa (lr (Wf tV (VB b Mh rfl rfl cJ (Wm (Wi rfl (Wm (LJ hm (fun t E W => ∃ u, ST true kK w W (hp w) u ∧ E 4 = (.bool false) ∧ E 14 = (.bool t)) 5 ?_ (fun t j k => ?_))))))))))
 ·rintro J E W ⟨u, b, I, y⟩ z
  exact Wg y (lt (rQ z b))
 refine bC j (fun a j => ?_) (fun a j => ?_)
 ·refine ug a (jB rY rfl) (ug a (jt rfl (jG b.has Mh rfl ft)) (ug a (lU aF rfl c) (ug a (ko rfl rfl rfl) (V (jO (cB a) rfl) ?_))))
  obtain rfl := sj j
  exact k _ _ ⟨_, (b.js (Db St)), rfl, rfl⟩
 refine un a (un a (un a (un a (V (jQ (cB a) rfl) ?_))))
 obtain rfl := sj j
 exact k _ _ ⟨_, (b.js (Db St)), rfl, rfl⟩
theorem FL (r : Formula) (w : World) {c : jN} (i : nT c [] w) (hm : ye  = some r) :
  lZ true pg0 161 [] w c [] (fun v g j => ∃ a, v = (.agg #[(.int .i64 ((r).Op)), (.int .i64 ((r).K)), (.string (((r).jl).jq)), (.string (((r).jl).jv)), a]) ∧ g = [] ∧ Sl jo 5 j a ((r).Kids)) := by
 refine vO i 2 func161 rfl (fun b => sg (VE (kx b bG (fun k u b => lr (V (mr (v := (.agg Gf.toArray)) (mD rfl) (lM bG bZ (yK _ bZ) kr)) (VO (jL (.agg Gf.toArray) (Gf.toArray) b rfl rfl aC oc nb rfl (fun t b => lt ?_))))))))
 obtain rfl := sj hm
 exact pX (v := (.agg Gf.toArray)) rfl rfl (jA b.has Mh Gf rfl bB aC) ⟨_, _, _, rfl, (b.mi Sn), (jR.refl _), Lo.refl, (ST.lf b (mS.mem Sn)), (.slice none 0 0), rfl, rfl, (Sl.nil _ _ _)⟩
theorem GZ (r : Formula) (w : World) {c : jN} (i : nT c [] w) (hm : yG  = some r) :
  lZ true pg0 162 [] w c [] (fun v g j => ∃ a, v = (.agg #[(.int .i64 ((r).Op)), (.int .i64 ((r).K)), (.string (((r).jl).jq)), (.string (((r).jl).jv)), a]) ∧ g = [] ∧ Sl jo 5 j a ((r).Kids)) := by
 refine vO i 2 func162 rfl (fun b => sg (VE (kx b bG (fun k u b => lr (V (mr (v := (.agg MT.toArray)) (mD rfl) (lM bG bZ (yK _ bZ) kr)) (VO (jL (.agg MT.toArray) (MT.toArray) b rfl rfl aC oc nb rfl (fun t b => lt ?_))))))))
 obtain rfl := sj hm
 exact pX (v := (.agg MT.toArray)) rfl rfl (jA b.has Mh MT rfl bB aC) ⟨_, _, _, rfl, (b.mi Sn), (jR.refl _), Lo.refl, (ST.lf b (mS.mem Sn)), (.slice none 0 0), rfl, rfl, (Sl.nil _ _ _)⟩
theorem Ih (T : Int) (J : Value) (M r : List Formula) (w : World) {Q : jN} (h0 : nT Q [] w) (I : Sl jo 5 Q J M) (hm : zD T M = some r) :
  lZ true pg0 164 [(.int .i64 T), J] w Q [] (fun v L1 μ1 => ∃ q, v = q ∧ L1 = [] ∧ Sl jo 5 μ1 q (r)) := by
 refine vO h0 28 func164 rfl (fun b => sg (Wa (lr (Wa (lS (Wm ?_))))))
 refine V (lU aF rfl I) (Wm (ln (lQ (fun i E W => ∃ t G k H, (E 10 = .int .i64 (i : Nat) ∧ E 9 = .int .i64 (M.length : Nat)) ∧ ST true (keys []) w W Q (k ++ H) ∧ E 0 = (.int .i64 T) ∧ E 5 = t ∧ E 8 = J ∧ kw 30 jo 5 Q t G k ∧ pU T (M.drop i) G = some r) M.length I.len ⟨(.slice none 0 0), ([]), [], _, ⟨rfl, rfl⟩, (b.js St), rfl, rfl, rfl, (kw.nil _ _ _ _), hm⟩ dc dc dc (fun _ _ _ h => by obtain ⟨_, _, _, _, n, _⟩ := h; exact n) ?_ ?_)))
 ·rintro b5 E W a4 ⟨t, G, k, H, ⟨m, p⟩, b, x, y, z, u, c⟩
  obtain ⟨a, b7, O, L, K⟩ := lz a4
  rw [O] at c
  refine bg (VQ (nh (i := (b5 : Int)) (x0 := a) jo.out aF aC z m I (aX _) L) (fun c8 ⟨_, ⟨c9, rfl, D⟩, a5⟩ => V (jt rfl (kl b.has a5 bB aC)) (VE (kx b bG (fun c0 c5 b => ?_)))))
  obtain ⟨g, j, rfl⟩ := D.form
  let a0 := (C1 a.Op a.K a.jl.jq a.jl.jv g a.Kids.length j)
  refine VO (jL (.agg a0.toArray) (a0.toArray) b rfl rfl aC oc nb rfl (fun c1 b => lr (Wf tV (VB b Mh rfl rfl cJ (Wh x (Wi rfl (ln (CI c rfl (fun Z c => ?_) (fun Z c => ?_)))))))))
  ·refine jC (Wh y (Wf rY (VB b Mh rfl rfl ft ?_)))
   replace b := b.perm (Nr (Qb Qz) Nz)
   refine bS c fun R a2 c => VE (vT (B := k) jD b dc aF oD.1 oD.2.1 rfl oD.2.2.1 oD.2.2.2 rfl rfl u (Bj.sl jD D b.jy) a2 (fun c2 b3 a9 b U => Wa (jU (kz (jH ?_)))))
   replace b := b.js (Kr (Db St))
   exact ⟨m, b3, R, a9, _, ⟨rfl, p⟩, (b.js St), x, rfl, z, U, (by rw [K]; exact c)⟩
  refine jC (Wh y (VA b Mh a0 bB aC (VE (kp (cs := a0.toArray) b (mD rfl) (mN aF aC bG) (fun c3 c6 b => ?_)))))
  replace b := b.perm (Nr (Qb (Qb Qz)) Nz)
  refine bS c fun b2 a3 c => VE (vT (B := k) jD b dc aF oD.1 oD.2.1 rfl oD.2.2.1 oD.2.2.2 rfl rfl u (Bj.lit jD (l := [a]) (.cons (ys := C1 a.Op a.K a.jl.jq a.jl.jv g a.Kids.length j) (jo.mk ⟨(.slice g a.Kids.length j), rfl, D⟩) .nil) rfl nb (b.at_ (Ma Mh))) a3 (fun c4 b4 P b Y => Wa (jU (kz (jH ?_)))))
  replace b := b.js (Kr (Db (Db St)))
  exact ⟨m, b4, b2, P, _, ⟨rfl, p⟩, (b.js St), x, rfl, z, Y, (by rw [K]; exact c)⟩
 rintro E W ⟨t, G, k, H, ⟨m, p⟩, b, x, y, z, u, c⟩
 rw [bE] at c
 refine jH (sg (Wh y (Wa (lt ?_))))
 obtain rfl := sj c
 refine li (v := t) rfl rfl ?_
 obtain ⟨d1, b, N, d, s⟩ := ST.xZ jD b u
 exact ⟨_, _, _, rfl, (b.mi Sn), N, d, (ST.lf b (mS.mem Sn)), t, rfl, rfl, s⟩
theorem zV (a : Formula) (g : Value) (i : Nat) (j : Int) (r : Bool) (w : World) (c : Sl jo 5 (hp w) g a.Kids) (k : At (hp w) (.pointer (some ⟨i, 0, none⟩)) [(.int .i64 j)]) (hm : qf a j = some r) :
  ke true pg0 165 [(.agg #[(.int .i64 a.Op), (.int .i64 a.K), (.string a.jl.jq), (.string a.jl.jv), g]), (.pointer (some ⟨i, 0, none⟩))] w (.bool r) := by
 refine cG 7 func165 rfl (fun b => sg ?_)
 obtain ⟨t, u, rfl⟩ := c.form
 refine VE (kq b rfl (fun z D b => Wa (lr (VA b Mh (C1 a.Op a.K a.jl.jq a.jl.jv t a.Kids.length u) bB aC (V (jt rfl (oO b.has (y := (.int .i64 j)) k cJ)) (bS hm fun G x hm => VE (Eg b call160 (yJ a (.slice t a.Kids.length u) j _ _ (c.mono jD.mono b.jy) x) (fun B b => Wa (ln ?_)))))))))
 exact kv (rQ hm b)
theorem Bt (c : Value) (u r : List Formula) (w : World) {j : jN} (I : nT j [] w) (a : Sl jo 5 j c u) (hm : ru u = some r) :
  lZ true pg0 171 [c] w j [] (fun v G J => ∃ z t, v = z ∧ G = (t ++ []) ∧ kw 30 jo 5 J z r t) := by
 unfold ru at hm
 refine vO I 8 func171 rfl (fun b => sg (Wa (lS (Wm ?_))))
 obtain ⟨D, Q, rfl⟩ := a.form
 refine V (AS aF rfl rfl) (ln ?_)
 rcases D with _ | M
 ·have y := a.isNil
  replace hm : some [] = some r := by rw [y] at hm; simpa [lP, maxLen] using hm
  refine we (rfl) (sg (Wa (lt (kI ?_))))
  obtain rfl := sj hm
  refine li (v := (.slice none 0 0)) rfl rfl ?_
  replace b := b.Of
  exact ⟨_, _, _, rfl, (b.mi (Kr Sn)), (jR.refl _), Lo.refl, (ST.lf b (mS.mem (Kr Sn))), (.slice none 0 0), [], rfl, rfl, (kw.nil _ _ _ _)⟩
 ·refine su (rfl) (kg (VE (kp (cs := #[]) b tW (Ak [] aF aC bG dc rfl (by simp) rfl rfl) (fun N H b => Wm (bS hm fun T x hm => VE (vT (B := [(H, Ob #[] 30)]) jD b dc aF oD.1 oD.2.1 rfl oD.2.2.1 oD.2.2.2 rfl rfl (kw.lit jD (l := []) .nil rfl nb rfl) (Bj.sl jD a b.jy) x (fun K g k b i => Wa (lt ?_))))))))
  obtain rfl := sj hm
  exact li (v := g) rfl rfl ⟨_, _, _, rfl, (b.mi (Kr Sn)), (jR.refl _), Lo.refl, (ST.lf b (mS.mem (Kr Sn))), g, k, rfl, rfl, i⟩
theorem rn (y : Value) (a0 : List Formula) (D : LO) (q a2 : Int) (T : Value) (f3 : (Formula × Formula) → Option Int) (r : List Formula) (w : World) {μ0 : jN} (h0 : nT μ0 (D ++ []) w) (h4 : kw 30 jo 5 μ0 y a0 D) (h5 : wK pg0 T μ0 (uR jo jo) (fun (r : Int) => (.int .i64 r)) f3) (hm : mF a0 q a2 f3 = some r) :
  lZ false pg0 188 [y, (.int .i64 q), (.int .i64 a2), T] w μ0 (D ++ []) (fun v L1 μ1 => ∃ S1, v = (.tuple #[]) ∧ L1 = (S1 ++ []) ∧ kw 30 jo 5 μ1 y r S1) := by
 refine vO h0 53 func188 rfl (fun n => sg (Wm (Wi rfl (Wa (ln (tE (kX (mT (fun m E W => ∃ Y J x c9, ST false (keys (D ++ [])) w W μ0 (J ++ c9) ∧ E 0 = y ∧ E 1 = (.int .i64 q) ∧ E 2 = (.int .i64 a2) ∧ E 3 = T ∧ E 8 = (.int .i64 x) ∧ kw 30 jo 5 μ0 y Y J ∧ kO a2 q f3 m Y x = some r) jP ⟨a0, D, (wi0 .i64 (q + 1)), _, (n.js St), rfl, rfl, rfl, rfl, rfl, h4, hm⟩ ?_))))))))
 rintro m E W ⟨Y, J, x, c9, n, f9, g0, d1, g1, P, c6, u⟩
 cases m with
 | zero => rw [kO] at u; cases u
 | succ h2 =>
  refine jI (sg (Wh P (Wh d1 (Wi rfl (ln (CI u rfl (fun e9 u => ?_) (fun e9 u => ?_)))))))
  ·refine kn (jI (bg (Wh P (Wa (ln (tE (CJ u (fun R E W => ∃ U d0, ST false (keys (D ++ [])) w W μ0 (U ++ d0) ∧ E 0 = y ∧ E 1 = (.int .i64 q) ∧ E 2 = (.int .i64 a2) ∧ E 3 = T ∧ E 8 = (.int .i64 x) ∧ kw 30 jo 5 μ0 y R U) (fun R f1 => ?_) ?_)))))))
   ·refine kX (mT (fun m E W => ∃ M B j b7, ST false (keys (D ++ [])) w W μ0 (B ++ b7) ∧ E 0 = y ∧ E 1 = (.int .i64 q) ∧ E 2 = (.int .i64 a2) ∧ E 3 = T ∧ E 8 = (.int .i64 x) ∧ E 9 = (.int .i64 j) ∧ kw 30 jo 5 μ0 y M B ∧ lg q f3 m M j = some R) jP ⟨Y, J, x, _, (n.js St), f9, g0, d1, g1, P, rfl, c6, f1⟩ ?_)
    rintro m E W ⟨M, B, j, b7, n, K, Z, c0, a3, c1, G, t, I⟩
    cases m with
    | zero => rw [lg] at I; cases I
    | succ f4 =>
     refine jI (jI ?_)
     replace n := n.drew
     have d := n.has.js (Kr Sn)
     refine kN d ki (X 0 rfl d (jx G) (X 1 rfl d (jx Z) (X 2 rfl d (ko rfl rfl rfl) (X 3 rfl d (jx rfl) (PJ I (fun c7 E W => ∃ b9, ST false (keys (D ++ [])) w W μ0 (B ++ b9) ∧ E 0 = y ∧ E 1 = (.int .i64 q) ∧ E 2 = (.int .i64 a2) ∧ E 3 = T ∧ E 8 = (.int .i64 x) ∧ E 9 = (.int .i64 j) ∧ E 34 = (.bool c7)) (bm 17 131071) 0 ?_ (fun c7 g a4 => ?_))))))
     ·rintro k2 E W ⟨b9, n, z, c2, c3, c4, c5, H, e8⟩ c
      have d := n.has.js (Kr Sn)
      refine kM kr (jH (CI c e8 (fun d3 c => ?_) (fun d3 c => ?_)))
      ·refine kn (jI (kX ?_))
       replace n := n.drew
       have d := n.has.js Sn
       have p := n.has.js (Kr Sn)
       refine tR 15 d p ki (jZ 0 rfl kr (.inl rfl) rfl dc (fun _ _ h => ⟨h.1, kB br h.2⟩) ⟨d, fun _ => p⟩ (fun _ _ _ _ => jx z) (jZ 1 rfl kr (.inl rfl) rfl dc (fun _ _ h => ⟨h.1, kB br h.2⟩) ⟨d, fun _ => p⟩ (fun _ _ _ _ => jx H) (jZ 2 rfl kr (.inl rfl) rfl dc (fun _ _ h => ⟨h.1, kB br h.2⟩) ⟨d, fun _ => p⟩ (fun _ _ _ _ => jx z) (jZ 3 rfl kr (.inl rfl) rfl dc (fun _ _ h => ⟨h.1, kB br h.2⟩) ⟨d, fun _ => p⟩ (fun _ _ _ _ => jx H) (jZ 4 rfl kr (.inl rfl) rfl dc (fun _ _ h => ⟨h.1, kB br h.2⟩) ⟨d, fun _ => p⟩ (fun _ _ _ _ => ko rfl rfl rfl) (jZ 5 rfl kr (.inl rfl) rfl dc (fun _ _ h => ⟨h.1, kB br h.2⟩) ⟨d, fun _ => p⟩ (fun _ _ _ _ => jx z) (jZ 6 rfl kr (.inl rfl) rfl dc (fun _ _ h => ⟨h.1, kB br h.2⟩) ⟨d, fun _ => p⟩ (fun _ _ _ _ => jx H) (jZ 7 rfl kr (.inl rfl) rfl dc (fun _ _ h => ⟨h.1, kB br h.2⟩) ⟨d, fun _ => p⟩ (fun _ _ _ _ => ko rfl rfl rfl) (bS c fun a5 b0 c => ua 8 rfl kr (.inl rfl) rfl dc (fun _ _ h => ⟨h.1, kB br h.2⟩) ⟨d, fun _ => p⟩ (kW (i := (wi0 .i64 (j - 1))) jo.out aF aC rfl rfl t (kh b0) (jY b0)) (fun i9 ⟨_, ⟨j8, rfl, a8⟩, d6, h6⟩ => jZ 9 rfl kr (.inl rfl) rfl dc (fun _ _ h => ⟨h.1, kB br h.2⟩) ⟨d, fun _ => p⟩ (fun l W L hs => have s := (hs.2 (L.Bk 15 [9] kr rfl)); jt rfl (kl (nA.hp _) (d6.mono (lN (fun b o O => s.2 b o (Ml O)))) bB aC)) (jZ 10 rfl kr (.inl rfl) rfl dc (fun _ _ h => ⟨h.1, kB br h.2⟩) ⟨d, fun _ => p⟩ (fun _ _ _ _ => jx z) (jZ 11 rfl kr (.inl rfl) rfl dc (fun _ _ h => ⟨h.1, kB br h.2⟩) ⟨d, fun _ => p⟩ (fun _ _ _ _ => jx H) (bS c fun k b1 c => ?_)))))))))))))
       refine ua 12 rfl kr (.inl rfl) rfl dc (fun _ _ h => ⟨h.1, kB br h.2⟩) ⟨d, fun _ => p⟩ (kW (i := j) jo.out aF aC rfl rfl t (kh b1) (jY b1)) (fun j0 ⟨_, ⟨j9, rfl, a9⟩, d7, h7⟩ => jZ 13 rfl kr (.inl rfl) rfl dc (fun _ _ h => ⟨h.1, kB br h.2⟩) ⟨d, fun _ => p⟩ (fun l W L hs => have s := (hs.2 (L.Bk 15 [13] kr rfl)); jt rfl (kl (nA.hp _) (d7.mono (lN (fun b o O => s.2 b o (Ml O)))) bB aC)) (bS c fun k3 N c => ua 14 rfl kr (.inl rfl) rfl dc (fun _ _ h => ⟨h.1, kB br h.2⟩) ⟨d, fun _ => p⟩ (kW (i := j) jo.out aF aC rfl rfl t (kh N) (jY N)) (fun j3 ⟨_, ⟨k0, rfl, i2⟩, i0, d4⟩ => ?_)))
       obtain ⟨e3, e6, rfl⟩ := a8.form
       refine XO 15 rfl (qi (x1 := a5) jD n t rfl rfl (jo.mk ⟨(.slice e3 a5.Kids.length e6), rfl, a8⟩) d4 (jY N) aC (fun i6 i4 n a7 => ?_))
       have d := n.has.js Sn
       refine ⟨⟨d, fun h => wJ kr h⟩, (bS c fun k4 Q c => ua 16 rfl kr (.inl rfl) rfl dc (fun _ _ h => ⟨h.1, kB br h.2⟩) ⟨d, fun h => wJ kr h⟩ (kW (i := (wi0 .i64 (j - 1))) jo.out aF aC rfl rfl a7 (kh Q) (jY Q)) (fun j4 ⟨_, ⟨k1, rfl, i3⟩, i1, d5⟩ => ?_))⟩
       obtain ⟨e4, e7, rfl⟩ := a9.form
       refine XO 17 rfl (qi (x1 := (⟨k.Op, k.K, k.jl, k.Kids⟩ : Formula)) jD n a7 rfl rfl (jo.mk ⟨(.slice e4 k.Kids.length e7), rfl, a9⟩) d5 (jY Q) aC (fun i7 e5 n d2 => ?_))
       have d := n.has.js Sn
       exact ⟨⟨d, fun h => wJ kr h⟩, (kM kr (kz (jH (jC (Wh H (Wi rfl (Wa (ln ⟨f4, bn _, ((M.set (Int.toNat j) a5).set (Int.toNat (wi0 .i64 (j - 1))) (⟨k.Op, k.K, k.jl, k.Kids⟩ : Formula)), e5, (wi0 .i64 (j - 1)), _, (n.js St), z, c2, c3, c4, c5, rfl, d2, c⟩))))))))⟩
      refine ng (mI (mI (rC (jH ?_))))
      obtain rfl := sj c
      exact ⟨B, _, (n.js St), z, c2, c3, c4, c5, t⟩
     refine bC g (fun a g => ?_) (fun a g => ?_)
     ·refine Xg 4 rfl rfl (cB a) d (jx a3) (Xg 5 rfl rfl (cB a) d (jx K) (Xg 6 rfl rfl (cB a) d (jx G) (bS g fun f7 b2 g => ua 7 rfl kr (.inr ⟨3, true, 21, rfl, rfl, by decide, (cB a)⟩) rfl dc (fun _ _ h => h) d (kW (i := j) jo.out aF aC rfl rfl t (kh b2) (jY b2)) (fun j5 ⟨_, ⟨f5, rfl, e1⟩, d8, h8⟩ => uW 8 rfl rfl (cB a) d (fun _ s => jt rfl (kl (nA.hp _) (d8.mono (lN (fun b o O => s.2 b o (Ml O)))) bB aC)) (Xg 9 rfl rfl (cB a) d (jx K) (Xg 10 rfl rfl (cB a) d (jx G) (Xg 11 rfl rfl (cB a) d (ko rfl rfl rfl) (bS g fun f8 b3 g => ua 12 rfl kr (.inr ⟨3, true, 21, rfl, rfl, by decide, (cB a)⟩) rfl dc (fun _ _ h => h) d (kW (i := (wi0 .i64 (j - 1))) jo.out aF aC rfl rfl t (kh b3) (jY b3)) (fun j6 ⟨_, ⟨f6, rfl, e2⟩, d9, h9⟩ => uW 13 rfl rfl (cB a) d (fun _ s => jt rfl (kl (nA.hp _) (d9.mono (lN (fun b o O => s.2 b o (Ml O)))) bB aC)) (bS g fun j7 e0 g => HS 14 rfl rfl (cB a) (xW (f7, f8) n h5 (jR.refl _) (uR.mk jD jD (jo.mk ⟨f5, rfl, e1⟩) (jo.mk ⟨f6, rfl, e2⟩) n.jy) rfl (uk rfl rfl) e0 (fun i8 n => ?_))))))))))))
      have d := n.has.js (Kr Sn)
      refine ⟨d, (Xg 15 rfl rfl (cB a) d (ko rfl rfl rfl) (X 16 rfl d (jO (cB a) rfl) ?_))⟩
      obtain rfl := sj g
      refine oF kr (a4 _ _ ⟨_, (n.js St), K, Z, c0, a3, c1, G, rfl⟩)
     refine Xn 4 rfl rfl (cB a) d (Xn 5 rfl rfl (cB a) d (Xn 6 rfl rfl (cB a) d (Xn 7 rfl rfl (cB a) d (Xn 8 rfl rfl (cB a) d (Xn 9 rfl rfl (cB a) d (Xn 10 rfl rfl (cB a) d (Xn 11 rfl rfl (cB a) d (Xn 12 rfl rfl (cB a) d (Xn 13 rfl rfl (cB a) d (Xn 14 rfl rfl (cB a) d (Xn 15 rfl rfl (cB a) d (X 16 rfl d (jQ (cB a) rfl) ?_))))))))))))
     obtain rfl := sj g
     refine oF kr (a4 _ _ ⟨_, (n.js St), K, Z, c0, a3, c1, G, rfl⟩)
   rintro h1 E W ⟨U, d0, n, g2, g3, g4, g7, g8, f2⟩ f0
   exact kz (jH (jC (Wh g8 (Wi rfl (Wa (ln ⟨h2, bn _, h1, U, (wi0 .i64 (x + 1)), _, (n.js St), g2, g3, g4, g7, rfl, f2, f0⟩))))))
  refine ng (mI (mI (rC (jH (qe ?_)))))
  obtain rfl := sj u
  exact ox rfl ⟨_, _, _, rfl, (n.mi (Kr Sn)), (jR.refl _), Lo.refl, (ST.lf n (mS.mem (Kr Sn))), J, rfl, rfl, c6⟩
theorem pM (x : Value) (a0 : List Formula) (t : LO) (G H a3 : Int) (a5 : Value) (f4 : (Formula × Formula) → Option Int) (r : List Formula) (w : World) {Y : jN} (h0 : nT Y (t ++ []) w) (c0 : kw 30 jo 5 Y x a0 t) (d5 : wK pg0 a5 Y (uR jo jo) (fun (r : Int) => (.int .i64 r)) f4) (hm : mz a0 G H a3 f4 = some r) :
  lZ true pg0 198 [x, (.int .i64 G), (.int .i64 H), (.int .i64 a3), a5] w Y (t ++ []) (fun v L1 μ1 => ∃ S1, v = (.tuple #[]) ∧ L1 = (S1 ++ []) ∧ kw 30 jo 5 μ1 x r S1) := by
 refine vO h0 38 func198 rfl (fun p => sg (Wa (ln (tE (kX (mT (fun m E W => ∃ D y c Z, ST true (keys (t ++ [])) w W Y (y ++ Z) ∧ E 0 = x ∧ E 1 = (.int .i64 G) ∧ E 2 = (.int .i64 H) ∧ E 3 = (.int .i64 a3) ∧ E 10 = (.int .i64 c) ∧ kw 30 jo 5 Y x D y ∧ lH a3 H G m D c = some r) jP ⟨a0, t, 0, _, (p.js St), rfl, rfl, rfl, rfl, rfl, c0, hm⟩ ?_))))))
 rintro m E W ⟨D, y, c, Z, p, u, I, J, a4, k, j, a⟩
 cases m with
 | zero => rw [lH] at a; cases a
 | succ c1 =>
  refine jI (sg (Wh k (Wh a4 (Wi rfl (ln (CI a rfl (fun a8 a => ?_) (fun a8 a => ?_)))))))
  ·refine kn (jI (kX ?_))
   replace p := p.drew
   have d := p.has.js Sn
   have n := p.has.js (Kr Sn)
   refine tR 21 d n ki (jZ 0 rfl kr (.inl rfl) rfl dc (fun _ _ h => ⟨h.1, kB br h.2⟩) ⟨d, fun _ => n⟩ (fun _ _ _ _ => jx u) (jZ 1 rfl kr (.inl rfl) rfl dc (fun _ _ h => ⟨h.1, kB br h.2⟩) ⟨d, fun _ => n⟩ (fun _ _ _ _ => jx I) (jZ 2 rfl kr (.inl rfl) rfl dc (fun _ _ h => ⟨h.1, kB br h.2⟩) ⟨d, fun _ => n⟩ (fun _ _ _ _ => jx k) (jZ 3 rfl kr (.inl rfl) rfl dc (fun _ _ h => ⟨h.1, kB br h.2⟩) ⟨d, fun _ => n⟩ (fun _ _ _ _ => ko rfl rfl rfl) (jZ 4 rfl kr (.inl rfl) rfl dc (fun _ _ h => ⟨h.1, kB br h.2⟩) ⟨d, fun _ => n⟩ (fun _ _ _ _ => jx u) (jZ 5 rfl kr (.inl rfl) rfl dc (fun _ _ h => ⟨h.1, kB br h.2⟩) ⟨d, fun _ => n⟩ (fun _ _ _ _ => jx J) (jZ 6 rfl kr (.inl rfl) rfl dc (fun _ _ h => ⟨h.1, kB br h.2⟩) ⟨d, fun _ => n⟩ (fun _ _ _ _ => jx k) (jZ 7 rfl kr (.inl rfl) rfl dc (fun _ _ h => ⟨h.1, kB br h.2⟩) ⟨d, fun _ => n⟩ (fun _ _ _ _ => ko rfl rfl rfl) (jZ 8 rfl kr (.inl rfl) rfl dc (fun _ _ h => ⟨h.1, kB br h.2⟩) ⟨d, fun _ => n⟩ (fun _ _ _ _ => jx u) (jZ 9 rfl kr (.inl rfl) rfl dc (fun _ _ h => ⟨h.1, kB br h.2⟩) ⟨d, fun _ => n⟩ (fun _ _ _ _ => jx J) (jZ 10 rfl kr (.inl rfl) rfl dc (fun _ _ h => ⟨h.1, kB br h.2⟩) ⟨d, fun _ => n⟩ (fun _ _ _ _ => jx k) (jZ 11 rfl kr (.inl rfl) rfl dc (fun _ _ h => ⟨h.1, kB br h.2⟩) ⟨d, fun _ => n⟩ (fun _ _ _ _ => ko rfl rfl rfl) (bS a fun K T a => ua 12 rfl kr (.inl rfl) rfl dc (fun _ _ h => ⟨h.1, kB br h.2⟩) ⟨d, fun _ => n⟩ (kW (i := (wi0 .i64 (H + c))) jo.out aF aC rfl rfl j (kh T) (jY T)) (fun d6 ⟨_, ⟨e0, rfl, N⟩, b1, c4⟩ => ?_))))))))))))))
   refine jZ 13 rfl kr (.inl rfl) rfl dc (fun _ _ h => ⟨h.1, kB br h.2⟩) ⟨d, fun _ => n⟩ (fun l W q O => have s := (O.2 (q.Bk 21 [13] kr rfl)); jt rfl (kl (nA.hp _) (b1.mono (lN (fun b o L => s.2 b o (Ml L)))) bB aC)) (jZ 14 rfl kr (.inl rfl) rfl dc (fun _ _ h => ⟨h.1, kB br h.2⟩) ⟨d, fun _ => n⟩ (fun _ _ _ _ => jx u) (jZ 15 rfl kr (.inl rfl) rfl dc (fun _ _ h => ⟨h.1, kB br h.2⟩) ⟨d, fun _ => n⟩ (fun _ _ _ _ => jx I) (jZ 16 rfl kr (.inl rfl) rfl dc (fun _ _ h => ⟨h.1, kB br h.2⟩) ⟨d, fun _ => n⟩ (fun _ _ _ _ => jx k) (jZ 17 rfl kr (.inl rfl) rfl dc (fun _ _ h => ⟨h.1, kB br h.2⟩) ⟨d, fun _ => n⟩ (fun _ _ _ _ => ko rfl rfl rfl) (bS a fun g U a => ua 18 rfl kr (.inl rfl) rfl dc (fun _ _ h => ⟨h.1, kB br h.2⟩) ⟨d, fun _ => n⟩ (kW (i := (wi0 .i64 (G + c))) jo.out aF aC rfl rfl j (kh U) (jY U)) (fun d7 ⟨_, ⟨e1, rfl, Q⟩, b2, c5⟩ => jZ 19 rfl kr (.inl rfl) rfl dc (fun _ _ h => ⟨h.1, kB br h.2⟩) ⟨d, fun _ => n⟩ (fun l W q O => have s := (O.2 (q.Bk 21 [19] kr rfl)); jt rfl (kl (nA.hp _) (b2.mono (lN (fun b o L => s.2 b o (Ml L)))) bB aC)) (bS a fun e5 z a => ua 20 rfl kr (.inl rfl) rfl dc (fun _ _ h => ⟨h.1, kB br h.2⟩) ⟨d, fun _ => n⟩ (kW (i := (wi0 .i64 (G + c))) jo.out aF aC rfl rfl j (kh z) (jY z)) (fun d8 ⟨_, ⟨e2, rfl, c8⟩, c6, a9⟩ => ?_))))))))
   let P := (⟨g.Op, g.K, g.jl, g.Kids⟩ : Formula)
   obtain ⟨b3, b7, rfl⟩ := N.form
   refine XO 21 rfl (qi (x1 := K) jD p j rfl rfl (jo.mk ⟨(.slice b3 K.Kids.length b7), rfl, N⟩) a9 (jY z) aC (fun d2 d1 p M => ?_))
   have d := p.has.js Sn
   refine ⟨⟨d, fun h => wJ kr h⟩, (bS a fun e6 B a => ua 22 rfl kr (.inl rfl) rfl dc (fun _ _ h => ⟨h.1, kB br h.2⟩) ⟨d, fun h => wJ kr h⟩ (kW (i := (wi0 .i64 (H + c))) jo.out aF aC rfl rfl M (kh B) (jY B)) (fun d9 ⟨_, ⟨e3, rfl, c9⟩, c7, b0⟩ => ?_))⟩
   obtain ⟨b4, b9, rfl⟩ := Q.form
   refine XO 23 rfl (qi (x1 := P) jD p M rfl rfl (jo.mk ⟨(.slice b4 g.Kids.length b9), rfl, Q⟩) b0 (jY B) aC (fun d3 b5 p R => ?_))
   have d := p.has.js Sn
   exact ⟨⟨d, fun h => wJ kr h⟩, (kM kr (kz (jH (jC (Wh k (Wi rfl (Wa (ln ⟨c1, bn _, ((D.set (Int.toNat (wi0 .i64 (G + c))) K).set (Int.toNat (wi0 .i64 (H + c))) P), b5, (wi0 .i64 (c + 1)), _, (p.js St), u, I, J, a4, rfl, R, a⟩))))))))⟩
  refine ng (mI (mI (rC (jH (qe ?_)))))
  obtain rfl := sj a
  exact ox rfl ⟨_, _, _, rfl, (p.mi (Kr Sn)), (jR.refl _), Lo.refl, (ST.lf p (mS.mem (Kr Sn))), y, rfl, rfl, j⟩
theorem xK (k : Value) (a0 : List Formula) (y : LO) (q D a3 : Int) (B : Value) (U : (Formula × Formula) → Option Int) (r : List Formula) (w : World) {T : jN} (h0 : nT T (y ++ []) w) (c5 : kw 30 jo 5 T k a0 y) (Q : wK pg0 B T (uR jo jo) (fun (r : Int) => (.int .i64 r)) U) (hm : mj a0 q D a3 U = some r) :
  lZ true pg0 195 [k, (.int .i64 q), (.int .i64 D), (.int .i64 a3), B] w T (y ++ []) (fun v L1 μ1 => ∃ S1, v = (.tuple #[]) ∧ L1 = (S1 ++ []) ∧ kw 30 jo 5 μ1 k r S1) := by
 refine vO h0 58 func195 rfl (fun b => sg (Wm (Wm (Wi rfl (Wa (lr (Wm (Wm (Wi rfl (Wa ?_))))))))))
 refine ln (jI (kX (mT (fun m E W => ∃ z x c t I Y, jR T I ∧ Lo (keys (y ++ [])) w T I ∧ ST true (keys (y ++ [])) w W I (x ++ Y) ∧ E 0 = k ∧ E 2 = (.int .i64 D) ∧ E 4 = B ∧ E 10 = (.int .i64 c) ∧ E 11 = (.int .i64 t) ∧ kw 30 jo 5 I k z x ∧ lW D U m z c t = some r) jP ⟨a0, y, (wi0 .i64 (D - q)), (wi0 .i64 (a3 - D)), T, _, (jR.refl _), Lo.refl, (b.js St), rfl, rfl, rfl, rfl, rfl, c5, hm⟩ ?_)))
 rintro m E W ⟨z, x, c, t, I, Y, i, d, b, G, j, H, g, u, J, a⟩
 let a2 := (wi0 .i64 (D - c))
 cases m with
 | zero => rw [lW] at a; cases a
 | succ s =>
  refine jI (sg (Wh g (Wh u (Wi rfl (ln (CI a rfl (fun L a => ?_) (fun L a => ?_)))))))
  ·refine kn (bg (Wh g (Wh u (Wi rfl (ln (CI a rfl (fun O a => ?_) (fun O a => ?_)))))))
   ·refine sg (Wh G (Wh j (Wh g (Wi rfl (Wh j (Wh u (Wh H (bS a fun c6 P a => ?_))))))))
    refine VE (eD b (Cr Qz Cn) call198 (fun p => (pM k z x a2 D t B U _ _ p J (Q.mono i) P)) ?_)
    rintro _ e0 c8 d2 b Z h ⟨b9, K, rfl, b5⟩
    obtain rfl := K.symm
    replace b := b.perm (Tr Tn)
    exact ln (jC (Wh g (Wh u (Wi rfl (Wa (jU (kz (jH ⟨s, bn _, c6, b9, (wi0 .i64 (c - t)), t, c8, _, (i.trans Z), (d.trans h), (b.js St), G, j, H, rfl, u, b5, a⟩))))))))
   refine sg (Wh G (Wh j (Wh g (Wi rfl (Wh j (Wh u (Wi rfl (Wh g (Wi rfl (Wh g (Wh H (bS a fun c7 R a => ?_))))))))))))
   refine VE (eD b (Cr Qz Cn) call198 (fun p => (pM k z x a2 (wi0 .i64 ((wi0 .i64 (D + t)) - c)) c B U _ _ p J (Q.mono i) R)) ?_)
   rintro _ e1 c9 d3 b a4 l ⟨c0, M, rfl, b6⟩
   obtain rfl := M.symm
   replace b := b.perm (Tr Tn)
   exact ln (jC (Wh u (Wh g (Wi rfl (Wa (jU (kz (jH ⟨s, bn _, c7, c0, c, (wi0 .i64 (t - c)), c9, _, (i.trans a4), (d.trans l), (b.js St), G, j, H, g, rfl, b6, a⟩))))))))
  refine ng (mI (mI (rC (jH (jC (Wh G (Wh j (Wh g (Wi rfl (Wh j (Wh g (Wh H (bS a fun d9 b4 a => ?_)))))))))))))
  refine VE (eD b (Cr Qz Cn) call198 (fun p => (pM k z x a2 D c B U _ _ p J (Q.mono i) b4)) ?_)
  rintro _ e2 e4 d4 b a5 n ⟨c1, N, rfl, b7⟩
  obtain rfl := N.symm
  replace b := b.perm (Tr Tn)
  refine jU (qe ?_)
  obtain rfl := sj a
  exact ox rfl ⟨_, _, _, rfl, (b.mi (Kr Sn)), (i.trans a5), (d.trans n), (ST.lf b (mS.mem (Kr Sn))), c1, rfl, rfl, b7⟩
set_option maxHeartbeats 4000000 in
theorem vJ (t6 : (List Formula) → Int → Int → Int → ((Formula × Formula) → Option Int) → Option (List Formula)) (s6 : ∀ (t : Value) (a0 : List Formula) (c : LO) (z : Int) (M : Int) (B : Int) (D : Value) (f4 : (Formula × Formula) → Option Int) (r : List Formula) (w : World) {U : jN} (h0 : nT U (c ++ []) w) (a5 : kw 30 jo 5 U t a0 c) (c6 : wK pg0 D U (uR jo jo) (fun (r : Int) => (.int .i64 r)) f4), t6 a0 z M B f4 = some r → lZ false pg0 189 [t, (.int .i64 z), (.int .i64 M), (.int .i64 B), D] w U (c ++ []) (fun v L1 μ1 => ∃ S1, v = (.tuple #[]) ∧ L1 = (S1 ++ []) ∧ kw 30 jo 5 μ1 t r S1)) (t : Value) (a0 : List Formula) (c : LO) (z M B : Int) (D : Value) (f4 : (Formula × Formula) → Option Int) (r : List Formula) (w : World) {U : jN} (h0 : nT U (c ++ []) w) (a5 : kw 30 jo 5 U t a0 c) (c6 : wK pg0 D U (uR jo jo) (fun (r : Int) => (.int .i64 r)) f4) (hm : oI t6 a0 z M B f4 = some r) :
  lZ false pg0 189 [t, (.int .i64 z), (.int .i64 M), (.int .i64 B), D] w U (c ++ []) (fun v L1 μ1 => ∃ S1, v = (.tuple #[]) ∧ L1 = (S1 ++ []) ∧ kw 30 jo 5 μ1 t r S1) := by
 refine vO h0 220 func189 rfl (fun d => jI (sg (Wm (Wm (Wi rfl (Wi rfl (ln (CI hm rfl (fun ae hm => ?_) (fun ae hm => ?_)))))))))
 ·refine sg (Wm (Wa (lr (Wm (Wa (ln (jI (kX (mT (fun m E W => ∃ T a9 o3, ST false (keys (c ++ [])) w W U (c ++ o3) ∧ E 0 = t ∧ E 1 = (.int .i64 z) ∧ E 4 = D ∧ E 10 = (.int .i64 T) ∧ E 11 = (.int .i64 a9) ∧ kG a0 z f4 m T a9 = some r) jP ⟨M, B, _, (d.js St), rfl, rfl, rfl, rfl, rfl, hm⟩ ?_)))))))))
  rintro m E W ⟨T, a9, o3, d, e4, h8, k3, h9, k4, y⟩
  cases m with
  | zero => rw [kG] at y; cases y
  | succ t5 =>
   refine jI (sg (Wh h9 (Wh k4 (Wi rfl (ln (CI y rfl (fun w9 y => ?_) (fun w9 y => ?_)))))))
   ·refine kn (bg (Wh h9 (Wh k4 (Wi rfl (V (qI (k' := .i64) (a := (wi0 .i64 (T + a9))) dK eY rfl) (V (GF (a := (IntKind.u64.wrap (wi0 .i64 (T + a9)))) (b := 1) rfl rfl dc) (V (qI (k' := .u64) (a := (Int.fdiv (IntKind.u64.wrap (wi0 .i64 (T + a9))) (2 ^ min (Int.toNat 1) (IntKind.bits .u64)))) eY dK rfl) (Wa (ln (jI ?_))))))))))
    let e3 := (Int.fdiv (IntKind.u64.wrap (wi0 .i64 (T + a9))) (2 ^ min (Int.toNat 1) (IntKind.bits .u64)))
    replace d := d.drew
    have n := d.has.js (Kr Sn)
    refine kN n ki (X 0 rfl n (jx k3) (X 1 rfl n (jx e4) (X 2 rfl n (jx rfl) (bS y fun aa n1 y => XQ 3 rfl n (kW (i := (wi0 .i64 e3)) jo.out aF aC rfl rfl a5 (kh n1) (jY n1)) (fun dh ⟨_, ⟨z7, rfl, x7⟩, x4, bo⟩ => XH 4 rfl n (fun _ s => jt rfl (kl (nA.hp _) (x4.mono (lN (fun b o L => s.2 b o (Ml L)))) bB aC)) (X 5 rfl n (jx e4) (X 6 rfl n (jx h8) (bS y fun ab n2 y => XQ 7 rfl n (kW (i := z) jo.out aF aC rfl rfl a5 (kh n2) (jY n2)) (fun di ⟨_, ⟨z8, rfl, x8⟩, x5, bp⟩ => XH 8 rfl n (fun _ s => jt rfl (kl (nA.hp _) (x5.mono (lN (fun b o L => s.2 b o (Ml L)))) bB aC)) (bS y fun dj x6 y => XE 9 rfl (xW (aa, ab) d c6 (jR.refl _) (uR.mk jD jD (jo.mk ⟨z7, rfl, x7⟩) (jo.mk ⟨z8, rfl, x8⟩) d.jy) rfl (uk rfl rfl) x6 (fun df d => ?_))))))))))))
    have n := d.has.js (Kr Sn)
    refine ⟨n, (X 10 rfl n (ko rfl rfl rfl) (kM kr (jH (CI y rfl (fun x0 y => ?_) (fun x0 y => ?_)))))⟩
    ·exact jC (Wm (Wi rfl (Wa (jU (kz (jH ⟨t5, bn _, (wi0 .i64 ((wi0 .i64 e3) + 1)), a9, _, (d.js St), e4, h8, k3, rfl, k4, y⟩))))))
    exact jC (Wm (Wa (jU (kz (jH ⟨t5, bn _, T, (wi0 .i64 e3), _, (d.js St), e4, h8, k3, h9, rfl, y⟩)))))
   refine ng (mI (mI (rC (jH (jI (sg (Wh h8 (Wa (ln (CJ y (fun k5 E W => ∃ f7 o4, ST false (keys (c ++ [])) w W U (f7 ++ o4) ∧ kw 30 jo 5 U t k5 f7) (fun k5 x3 => ?_) ?_))))))))))
   ·refine kX (mT (fun m E W => ∃ i0 f8 b0 k6, ST false (keys (c ++ [])) w W U (f8 ++ k6) ∧ E 0 = t ∧ E 10 = (.int .i64 T) ∧ E 13 = (.int .i64 b0) ∧ kw 30 jo 5 U t i0 f8 ∧ lL T m i0 b0 = some k5) jP ⟨a0, c, z, _, (d.js St), e4, h9, rfl, a5, x3⟩ ?_)
    rintro m E W ⟨i0, f8, b0, k6, d, c7, l7, c0, d1, u⟩
    cases m with
    | zero => rw [lL] at u; cases u
    | succ y2 =>
     refine jI (sg (Wh c0 (Wh l7 (Wi rfl (Wi rfl (ln (CI u rfl (fun p1 u => ?_) (fun p1 u => ?_))))))))
     ·refine kn (jI (kX ?_))
      replace d := d.drew
      have n := d.has.js Sn
      have p := d.has.js (Kr Sn)
      refine tR 15 n p ki (jZ 0 rfl kr (.inl rfl) rfl dc (fun _ _ h => ⟨h.1, kB (by rfl) h.2⟩) ⟨n, fun _ => p⟩ (fun _ _ _ _ => jx c7) (jZ 1 rfl kr (.inl rfl) rfl dc (fun _ _ h => ⟨h.1, kB (by rfl) h.2⟩) ⟨n, fun _ => p⟩ (fun _ _ _ _ => jx c0) (jZ 2 rfl kr (.inl rfl) rfl dc (fun _ _ h => ⟨h.1, kB (by rfl) h.2⟩) ⟨n, fun _ => p⟩ (fun _ _ _ _ => jx c7) (jZ 3 rfl kr (.inl rfl) rfl dc (fun _ _ h => ⟨h.1, kB (by rfl) h.2⟩) ⟨n, fun _ => p⟩ (fun _ _ _ _ => jx c0) (jZ 4 rfl kr (.inl rfl) rfl dc (fun _ _ h => ⟨h.1, kB (by rfl) h.2⟩) ⟨n, fun _ => p⟩ (fun _ _ _ _ => ko rfl rfl rfl) (jZ 5 rfl kr (.inl rfl) rfl dc (fun _ _ h => ⟨h.1, kB (by rfl) h.2⟩) ⟨n, fun _ => p⟩ (fun _ _ _ _ => jx c7) (jZ 6 rfl kr (.inl rfl) rfl dc (fun _ _ h => ⟨h.1, kB (by rfl) h.2⟩) ⟨n, fun _ => p⟩ (fun _ _ _ _ => jx c0) (jZ 7 rfl kr (.inl rfl) rfl dc (fun _ _ h => ⟨h.1, kB (by rfl) h.2⟩) ⟨n, fun _ => p⟩ (fun _ _ _ _ => ko rfl rfl rfl) (bS u fun i3 j5 u => ua 8 rfl kr (.inl rfl) rfl dc (fun _ _ h => ⟨h.1, kB (by rfl) h.2⟩) ⟨n, fun _ => p⟩ (kW (i := (wi0 .i64 (b0 + 1))) jo.out aF aC rfl rfl d1 (kh j5) (jY j5)) (fun bs ⟨_, ⟨ck, rfl, i7⟩, r3, af⟩ => jZ 9 rfl kr (.inl rfl) rfl dc (fun _ _ h => ⟨h.1, kB (by rfl) h.2⟩) ⟨n, fun _ => p⟩ (fun l W O hs => have s := (hs.2 (O.Bk 15 [9] kr rfl)); jt rfl (kl (nA.hp _) (r3.mono (lN (fun b o L => s.2 b o (Ml L)))) bB aC)) (jZ 10 rfl kr (.inl rfl) rfl dc (fun _ _ h => ⟨h.1, kB (by rfl) h.2⟩) ⟨n, fun _ => p⟩ (fun _ _ _ _ => jx c7) (jZ 11 rfl kr (.inl rfl) rfl dc (fun _ _ h => ⟨h.1, kB (by rfl) h.2⟩) ⟨n, fun _ => p⟩ (fun _ _ _ _ => jx c0) (bS u fun Y j6 u => ?_)))))))))))))
      refine ua 12 rfl kr (.inl rfl) rfl dc (fun _ _ h => ⟨h.1, kB (by rfl) h.2⟩) ⟨n, fun _ => p⟩ (kW (i := b0) jo.out aF aC rfl rfl d1 (kh j6) (jY j6)) (fun bt ⟨_, ⟨cl, rfl, i8⟩, r4, ag⟩ => jZ 13 rfl kr (.inl rfl) rfl dc (fun _ _ h => ⟨h.1, kB (by rfl) h.2⟩) ⟨n, fun _ => p⟩ (fun l W O hs => have s := (hs.2 (O.Bk 15 [13] kr rfl)); jt rfl (kl (nA.hp _) (r4.mono (lN (fun b o L => s.2 b o (Ml L)))) bB aC)) (bS u fun cv e9 u => ua 14 rfl kr (.inl rfl) rfl dc (fun _ _ h => ⟨h.1, kB (by rfl) h.2⟩) ⟨n, fun _ => p⟩ (kW (i := b0) jo.out aF aC rfl rfl d1 (kh e9) (jY e9)) (fun bu ⟨_, ⟨cm, rfl, ar⟩, an, q2⟩ => ?_)))
      obtain ⟨t7, u6, rfl⟩ := i7.form
      refine XO 15 rfl (qi (x1 := i3) jD d d1 rfl rfl (jo.mk ⟨(.slice t7 i3.Kids.length u6), rfl, i7⟩) q2 (jY e9) aC (fun bd bb d i5 => ?_))
      have n := d.has.js Sn
      refine ⟨⟨n, fun h => wJ kr h⟩, (bS u fun cw f0 u => ua 16 rfl kr (.inl rfl) rfl dc (fun _ _ h => ⟨h.1, kB (by rfl) h.2⟩) ⟨n, fun h => wJ kr h⟩ (kW (i := (wi0 .i64 (b0 + 1))) jo.out aF aC rfl rfl i5 (kh f0) (jY f0)) (fun bv ⟨_, ⟨cn, rfl, au⟩, ao, q3⟩ => ?_))⟩
      obtain ⟨t8, u7, rfl⟩ := i8.form
      refine XO 17 rfl (qi (x1 := (⟨Y.Op, Y.K, Y.jl, Y.Kids⟩ : Formula)) jD d i5 rfl rfl (jo.mk ⟨(.slice t8 Y.Kids.length u7), rfl, i8⟩) q3 (jY f0) aC (fun be u1 d o9 => ?_))
      have n := d.has.js Sn
      exact ⟨⟨n, fun h => wJ kr h⟩, (kM kr (kz (jH (jC (Wh c0 (Wi rfl (Wa (ln ⟨y2, bn _, ((i0.set (Int.toNat b0) i3).set (Int.toNat (wi0 .i64 (b0 + 1))) (⟨Y.Op, Y.K, Y.jl, Y.Kids⟩ : Formula)), u1, (wi0 .i64 (b0 + 1)), _, (d.js St), c7, l7, rfl, o9, u⟩))))))))⟩
     refine ng (mI (mI (rC (jH ?_))))
     have q := sj u; subst q
     exact ⟨f8, _, (d.js St), d1⟩
   rintro dg E W ⟨f7, o4, d, x9⟩ x2
   refine kv (kI ?_)
   have q := sj x2; subst q
   exact ox rfl ⟨_, _, _, rfl, (d.mi (Kr Sn)), (jR.refl _), Lo.refl, (ST.lf d (mS.mem (Kr Sn))), f7, rfl, rfl, x9⟩
 refine kS (Wm (Wm (Wi rfl (Wi rfl (ln (CI hm rfl (fun p2 hm => ?_) (fun p2 hm => ?_)))))))
 ·refine sg (Wm (Wa (lr (Wm (Wa (ln (jI (kX (mT (fun m E W => ∃ G N k7, ST false (keys (c ++ [])) w W U (c ++ k7) ∧ E 0 = t ∧ E 2 = (.int .i64 M) ∧ E 4 = D ∧ E 14 = (.int .i64 G) ∧ E 15 = (.int .i64 N) ∧ kH a0 M f4 m G N = some r) jP ⟨z, M, _, (d.js St), rfl, rfl, rfl, rfl, rfl, hm⟩ ?_)))))))))
  rintro m E W ⟨G, N, k7, d, c8, d5, f9, d6, g0, j⟩
  let j1 := (IntKind.u64.wrap (wi0 .i64 (G + N)))
  let b8 := (Int.fdiv j1 (2 ^ min (Int.toNat 1) (IntKind.bits .u64)))
  cases m with
  | zero => rw [kH] at j; cases j
  | succ n3 =>
   refine jI (sg (Wh d6 (Wh g0 (Wi rfl (ln (CI j rfl (fun p3 j => ?_) (fun p3 j => ?_)))))))
   ·refine kn (bg (Wh d6 (Wh g0 (Wi rfl (V (qI (k' := .i64) (a := (wi0 .i64 (G + N))) dK eY rfl) (V (GF (a := j1) (b := 1) rfl rfl dc) (V (qI (k' := .u64) (a := (Int.fdiv j1 (2 ^ min (Int.toNat 1) (IntKind.bits .u64)))) eY dK rfl) (Wa (ln (jI ?_))))))))))
    replace d := d.drew
    have n := d.has.js (Kr Sn)
    refine kN n ki (X 0 rfl n (jx f9) (X 1 rfl n (jx c8) (X 2 rfl n (jx d5) (bS j fun y8 j7 j => XQ 3 rfl n (kW (i := M) jo.out aF aC rfl rfl a5 (kh j7) (jY j7)) (fun bw ⟨_, ⟨y4, rfl, s7⟩, r5, ah⟩ => XH 4 rfl n (fun _ s => jt rfl (kl (nA.hp _) (r5.mono (lN (fun b o L => s.2 b o (Ml L)))) bB aC)) (X 5 rfl n (jx c8) (X 6 rfl n (jx rfl) (bS j fun y9 j8 j => XQ 7 rfl n (kW (i := (wi0 .i64 b8)) jo.out aF aC rfl rfl a5 (kh j8) (jY j8)) (fun bx ⟨_, ⟨y5, rfl, s8⟩, r6, ai⟩ => XH 8 rfl n (fun _ s => jt rfl (kl (nA.hp _) (r6.mono (lN (fun b o L => s.2 b o (Ml L)))) bB aC)) (bS j fun cf s1 j => XE 9 rfl (xW (y8, y9) d c6 (jR.refl _) (uR.mk jD jD (jo.mk ⟨y4, rfl, s7⟩) (jo.mk ⟨y5, rfl, s8⟩) d.jy) rfl (uk rfl rfl) s1 (fun bf d => ?_))))))))))))
    have n := d.has.js (Kr Sn)
    refine ⟨n, (X 10 rfl n (ko rfl rfl rfl) (X 11 rfl n (pa rfl) (kM kr (jH (CI j rfl (fun p4 j => ?_) (fun p4 j => ?_))))))⟩
    ·exact jC (Wm (Wi rfl (Wa (jU (kz (jH ⟨n3, bn _, (wi0 .i64 ((wi0 .i64 b8) + 1)), N, _, (d.js St), c8, d5, f9, rfl, g0, j⟩))))))
    exact jC (Wm (Wa (jU (kz (jH ⟨n3, bn _, G, (wi0 .i64 b8), _, (d.js St), c8, d5, f9, d6, rfl, j⟩)))))
   refine ng (mI (mI (rC (jH (jI (sg (Wh d5 (Wa (ln (CJ j (fun i1 E W => ∃ d3 k8, ST false (keys (c ++ [])) w W U (d3 ++ k8) ∧ kw 30 jo 5 U t i1 d3) (fun i1 q7 => ?_) ?_))))))))))
   ·refine kX (mT (fun m E W => ∃ e2 d4 Q k9, ST false (keys (c ++ [])) w W U (d4 ++ k9) ∧ E 0 = t ∧ E 14 = (.int .i64 G) ∧ E 17 = (.int .i64 Q) ∧ kw 30 jo 5 U t e2 d4 ∧ lK G m e2 Q = some i1) jP ⟨a0, c, M, _, (d.js St), c8, d6, rfl, a5, q7⟩ ?_)
    rintro m E W ⟨e2, d4, Q, k9, d, c9, l8, c1, b6, x⟩
    cases m with
    | zero => rw [lK] at x; cases x
    | succ y3 =>
     refine jI (sg (Wh c1 (Wh l8 (Wi rfl (ln (CI x rfl (fun p5 x => ?_) (fun p5 x => ?_)))))))
     ·refine kn (jI (kX ?_))
      replace d := d.drew
      have n := d.has.js Sn
      have p := d.has.js (Kr Sn)
      refine tR 15 n p ki (jZ 0 rfl kr (.inl rfl) rfl dc (fun _ _ h => ⟨h.1, kB (by rfl) h.2⟩) ⟨n, fun _ => p⟩ (fun _ _ _ _ => jx c9) (jZ 1 rfl kr (.inl rfl) rfl dc (fun _ _ h => ⟨h.1, kB (by rfl) h.2⟩) ⟨n, fun _ => p⟩ (fun _ _ _ _ => jx c1) (jZ 2 rfl kr (.inl rfl) rfl dc (fun _ _ h => ⟨h.1, kB (by rfl) h.2⟩) ⟨n, fun _ => p⟩ (fun _ _ _ _ => jx c9) (jZ 3 rfl kr (.inl rfl) rfl dc (fun _ _ h => ⟨h.1, kB (by rfl) h.2⟩) ⟨n, fun _ => p⟩ (fun _ _ _ _ => jx c1) (jZ 4 rfl kr (.inl rfl) rfl dc (fun _ _ h => ⟨h.1, kB (by rfl) h.2⟩) ⟨n, fun _ => p⟩ (fun _ _ _ _ => ko rfl rfl rfl) (jZ 5 rfl kr (.inl rfl) rfl dc (fun _ _ h => ⟨h.1, kB (by rfl) h.2⟩) ⟨n, fun _ => p⟩ (fun _ _ _ _ => jx c9) (jZ 6 rfl kr (.inl rfl) rfl dc (fun _ _ h => ⟨h.1, kB (by rfl) h.2⟩) ⟨n, fun _ => p⟩ (fun _ _ _ _ => jx c1) (jZ 7 rfl kr (.inl rfl) rfl dc (fun _ _ h => ⟨h.1, kB (by rfl) h.2⟩) ⟨n, fun _ => p⟩ (fun _ _ _ _ => ko rfl rfl rfl) (bS x fun i4 j9 x => ua 8 rfl kr (.inl rfl) rfl dc (fun _ _ h => ⟨h.1, kB (by rfl) h.2⟩) ⟨n, fun _ => p⟩ (kW (i := (wi0 .i64 (Q - 1))) jo.out aF aC rfl rfl b6 (kh j9) (jY j9)) (fun bz ⟨_, ⟨co, rfl, i9⟩, r7, aj⟩ => jZ 9 rfl kr (.inl rfl) rfl dc (fun _ _ h => ⟨h.1, kB (by rfl) h.2⟩) ⟨n, fun _ => p⟩ (fun l W O hs => have s := (hs.2 (O.Bk 15 [9] kr rfl)); jt rfl (kl (nA.hp _) (r7.mono (lN (fun b o L => s.2 b o (Ml L)))) bB aC)) (jZ 10 rfl kr (.inl rfl) rfl dc (fun _ _ h => ⟨h.1, kB (by rfl) h.2⟩) ⟨n, fun _ => p⟩ (fun _ _ _ _ => jx c9) (jZ 11 rfl kr (.inl rfl) rfl dc (fun _ _ h => ⟨h.1, kB (by rfl) h.2⟩) ⟨n, fun _ => p⟩ (fun _ _ _ _ => jx c1) (bS x fun Z k0 x => ?_)))))))))))))
      refine ua 12 rfl kr (.inl rfl) rfl dc (fun _ _ h => ⟨h.1, kB (by rfl) h.2⟩) ⟨n, fun _ => p⟩ (kW (i := Q) jo.out aF aC rfl rfl b6 (kh k0) (jY k0)) (fun ca ⟨_, ⟨cp, rfl, j0⟩, r8, ak⟩ => jZ 13 rfl kr (.inl rfl) rfl dc (fun _ _ h => ⟨h.1, kB (by rfl) h.2⟩) ⟨n, fun _ => p⟩ (fun l W O hs => have s := (hs.2 (O.Bk 15 [13] kr rfl)); jt rfl (kl (nA.hp _) (r8.mono (lN (fun b o L => s.2 b o (Ml L)))) bB aC)) (bS x fun cx f1 x => ua 14 rfl kr (.inl rfl) rfl dc (fun _ _ h => ⟨h.1, kB (by rfl) h.2⟩) ⟨n, fun _ => p⟩ (kW (i := Q) jo.out aF aC rfl rfl b6 (kh f1) (jY f1)) (fun cb ⟨_, ⟨cq, rfl, av⟩, ap, q4⟩ => ?_)))
      obtain ⟨t9, u8, rfl⟩ := i9.form
      refine XO 15 rfl (qi (x1 := i4) jD d b6 rfl rfl (jo.mk ⟨(.slice t9 i4.Kids.length u8), rfl, i9⟩) q4 (jY f1) aC (fun bh bc d i6 => ?_))
      have n := d.has.js Sn
      refine ⟨⟨n, fun h => wJ kr h⟩, (bS x fun cy f2 x => ua 16 rfl kr (.inl rfl) rfl dc (fun _ _ h => ⟨h.1, kB (by rfl) h.2⟩) ⟨n, fun h => wJ kr h⟩ (kW (i := (wi0 .i64 (Q - 1))) jo.out aF aC rfl rfl i6 (kh f2) (jY f2)) (fun cc ⟨_, ⟨cr, rfl, aw⟩, aq, q5⟩ => ?_))⟩
      obtain ⟨u0, u9, rfl⟩ := j0.form
      refine XO 17 rfl (qi (x1 := (⟨Z.Op, Z.K, Z.jl, Z.Kids⟩ : Formula)) jD d i6 rfl rfl (jo.mk ⟨(.slice u0 Z.Kids.length u9), rfl, j0⟩) q5 (jY f2) aC (fun bi u2 d p0 => ?_))
      have n := d.has.js Sn
      exact ⟨⟨n, fun h => wJ kr h⟩, (kM kr (kz (jH (jC (Wh c1 (Wi rfl (Wa (ln ⟨y3, bn _, ((e2.set (Int.toNat Q) i4).set (Int.toNat (wi0 .i64 (Q - 1))) (⟨Z.Op, Z.K, Z.jl, Z.Kids⟩ : Formula)), u2, (wi0 .i64 (Q - 1)), _, (d.js St), c9, l8, rfl, p0, x⟩))))))))⟩
     refine ng (mI (mI (rC (jH ?_))))
     have q := sj x; subst q
     exact ⟨d4, _, (d.js St), b6⟩
   rintro bq E W ⟨d3, k8, d, s9⟩ q6
   refine kv (kI ?_)
   have q := sj q6; subst q
   exact ox rfl ⟨_, _, _, rfl, (d.mi (Kr Sn)), (jR.refl _), Lo.refl, (ST.lf d (mS.mem (Kr Sn))), d3, rfl, rfl, s9⟩
 let g5 := (IntKind.u64.wrap (wi0 .i64 (z + B)))
 refine kg (Wm (Wm (Wi rfl (V (qI (k' := .i64) (a := (wi0 .i64 (z + B))) dK eY rfl) (V (GF (a := g5) (b := 1) rfl rfl dc) (V (qI (k' := .u64) (a := (Int.fdiv g5 (2 ^ min (Int.toNat 1) (IntKind.bits .u64)))) eY dK rfl) (Wa (lr ?_))))))))
 let a1 := (wi0 .i64 (Int.fdiv g5 (2 ^ min (Int.toNat 1) (IntKind.bits .u64))))
 let e5 := (wi0 .i64 (a1 + M))
 refine Wm (Wm (Wi rfl (Wa (lr (Wa (Wa (ln (jI (CJ hm (fun i2 E W => ∃ l0, ST false (keys (c ++ [])) w W U (c ++ l0) ∧ E 0 = t ∧ E 1 = (.int .i64 z) ∧ E 2 = (.int .i64 M) ∧ E 3 = (.int .i64 B) ∧ E 4 = D ∧ E 18 = (.int .i64 a1) ∧ E 19 = (.int .i64 e5) ∧ E 20 = (.int .i64 i2.1) ∧ E 21 = (.int .i64 i2.2)) (fun i2 b5 => ?_) ?_)))))))))
 ·refine sg (Wm (Wm (Wi rfl (ln (CI b5 rfl (fun q1 b5 => ?_) (fun q1 b5 => ?_))))))
  ·refine sg (Wm (Wm (Wi rfl (Wa (ln (jC (Wm (Wa (ln ?_)))))))))
   have q := sj b5; subst q
   exact ⟨_, (d.js St), rfl, rfl, rfl, rfl, rfl, rfl, rfl, rfl, rfl⟩
  refine sg (Wm (Wa (ln (jC (Wm (Wa (ln ?_)))))))
  have q := sj b5; subst q
  exact ⟨_, (d.js St), rfl, rfl, rfl, rfl, rfl, rfl, rfl, rfl, rfl⟩
 rintro ⟨z0, z1⟩ E W ⟨l0, d, v0, v1, v2, v3, v4, v5, l9, v6, v7⟩ q8
 refine sg (Wh l9 (Wi rfl (Wa (ln (jI (kX (mT (fun m E W => ∃ g K l1, ST false (keys (c ++ [])) w W U (c ++ l1) ∧ E 0 = t ∧ E 1 = (.int .i64 z) ∧ E 2 = (.int .i64 M) ∧ E 3 = (.int .i64 B) ∧ E 4 = D ∧ E 18 = (.int .i64 a1) ∧ E 19 = (.int .i64 e5) ∧ E 20 = (.int .i64 g) ∧ E 21 = (.int .i64 K) ∧ E 22 = (.int .i64 (wi0 .i64 (e5 - 1))) ∧ ku a0 z B M f4 t6 m g K = some r) jP ⟨z0, z1, _, (d.js St), v0, v1, v2, v3, v4, v5, l9, v6, v7, rfl, q8⟩ ?_)))))))
 rintro m E W ⟨g, K, l1, d, c2, d7, c3, d8, d0, d9, g1, b1, g2, g3, k⟩
 let g6 := (IntKind.u64.wrap (wi0 .i64 (g + K)))
 let a3 := (Int.fdiv g6 (2 ^ min (Int.toNat 1) (IntKind.bits .u64)))
 let j2 := (wi0 .i64 a3)
 let a2 := (wi0 .i64 (e5 - g))
 cases m with
 | zero => rw [ku] at k; cases k
 | succ n4 =>
  refine jI (sg (Wh b1 (Wh g2 (Wi rfl (ln (CI k rfl (fun p6 k => ?_) (fun p6 k => ?_)))))))
  ·refine kn (bg (Wh b1 (Wh g2 (Wi rfl (V (qI (k' := .i64) (a := (wi0 .i64 (g + K))) dK eY rfl) (V (GF (a := g6) (b := 1) rfl rfl dc) (V (qI (k' := .u64) (a := (Int.fdiv g6 (2 ^ min (Int.toNat 1) (IntKind.bits .u64)))) eY dK rfl) (Wa (ln (jI ?_))))))))))
   replace d := d.drew
   have n := d.has.js (Kr Sn)
   refine kN n ki (X 0 rfl n (jx d0) (X 1 rfl n (jx c2) (X 2 rfl n (jx g3) (X 3 rfl n (jx rfl) (X 4 rfl n (ko rfl rfl rfl) (bS k fun z2 k1 k => XQ 5 rfl n (kW (i := (wi0 .i64 ((wi0 .i64 (e5 - 1)) - j2))) jo.out aF aC rfl rfl a5 (kh k1) (jY k1)) (fun cd ⟨_, ⟨y6, rfl, t0⟩, r9, al⟩ => XH 6 rfl n (fun _ s => jt rfl (kl (nA.hp _) (r9.mono (lN (fun b o L => s.2 b o (Ml L)))) bB aC)) (X 7 rfl n (jx c2) (X 8 rfl n (jx rfl) (bS k fun z3 k2 k => XQ 9 rfl n (kW (i := (wi0 .i64 a3)) jo.out aF aC rfl rfl a5 (kh k2) (jY k2)) (fun ce ⟨_, ⟨y7, rfl, t1⟩, s0, am⟩ => XH 10 rfl n (fun _ s => jt rfl (kl (nA.hp _) (s0.mono (lN (fun b o L => s.2 b o (Ml L)))) bB aC)) (bS k fun cg s2 k => ?_))))))))))))
   refine XE 11 rfl (xW (z2, z3) d c6 (jR.refl _) (uR.mk jD jD (jo.mk ⟨y6, rfl, t0⟩) (jo.mk ⟨y7, rfl, t1⟩) d.jy) rfl (uk rfl rfl) s2 (fun bj d => ?_))
   have n := d.has.js (Kr Sn)
   refine ⟨n, (X 12 rfl n (ko rfl rfl rfl) (X 13 rfl n (pa rfl) (kM kr (jH (CI k rfl (fun p7 k => ?_) (fun p7 k => ?_))))))⟩
   ·exact jC (Wm (Wi rfl (Wa (jU (kz (jH ⟨n4, bn _, (wi0 .i64 (j2 + 1)), K, _, (d.js St), c2, d7, c3, d8, d0, d9, g1, rfl, g2, g3, k⟩))))))
   exact jC (Wm (Wa (jU (kz (jH ⟨n4, bn _, g, j2, _, (d.js St), c2, d7, c3, d8, d0, d9, g1, b1, rfl, g3, k⟩)))))
  refine ng (mI (mI (rC (jH (sg (Wh g1 (Wh b1 (Wi rfl (Wa (ln (jI (CJ k (fun n8 E W => ∃ b7 a4 l2, jR U a4 ∧ Lo (keys (c ++ [])) w U a4 ∧ ST false (keys (c ++ [])) w W a4 (b7 ++ l2) ∧ E 0 = t ∧ E 1 = (.int .i64 z) ∧ E 3 = (.int .i64 B) ∧ E 4 = D ∧ E 18 = (.int .i64 a1) ∧ E 20 = (.int .i64 g) ∧ E 24 = (.int .i64 a2) ∧ kw 30 jo 5 a4 t n8 b7) (fun n8 r2 => ?_) ?_))))))))))))
  ·refine sg (Wh b1 (Wh c3 (Wi rfl (Wm (LJ r2 (fun n9 E W => ∃ l6, ST false (keys (c ++ [])) w W U (c ++ l6) ∧ E 0 = t ∧ E 1 = (.int .i64 z) ∧ E 2 = (.int .i64 M) ∧ E 3 = (.int .i64 B) ∧ E 4 = D ∧ E 18 = (.int .i64 a1) ∧ E 20 = (.int .i64 g) ∧ E 24 = (.int .i64 a2) ∧ E 185 = (.bool n9)) 4 ?_ (fun n9 b4 f6 => ?_))))))
   ·rintro db E W ⟨l6, d, h4, m8, w7, m9, h5, n0, h6, h7, w8⟩ a8
    refine ln (CI a8 w8 (fun q0 a8 => ?_) (fun q0 a8 => ?_))
    ·refine jC (Wh h4 (Wh h6 (Wh w7 (Wh h7 (Wh h5 (bS a8 fun cj s5 a8 => ?_))))))
     refine VE (eD d (Cr Qz Cn) call195 (fun hh => lZ.lR (xK t a0 c g M a2 D f4 _ _ hh a5 (c6.mono (jR.refl _)) s5)) ?_)
     rintro _ cu z5 ba d o2 bl ⟨u5, e8, rfl, t4⟩
     obtain rfl := e8.symm
     replace d := d.perm (Tr Tn)
     refine ln ?_
     have q := sj a8; subst q
     exact ⟨u5, z5, _, o2, bl, (d.js St), h4, m8, m9, h5, n0, h6, h7, t4⟩
    refine kn ?_
    have q := sj a8; subst q
    exact ⟨c, U, _, (jR.refl _), Lo.refl, (d.js St), h4, m8, m9, h5, n0, h6, h7, a5⟩
   refine bC b4 (fun J b4 => ?_) (fun J b4 => ?_)
   ·refine ug J (jx c3) (ug J (jx rfl) (ug J (ko rfl rfl rfl) (V (jO (cB J) rfl) ?_)))
    have q := sj b4; subst q
    exact f6 _ _ ⟨_, (d.js St), c2, d7, c3, d8, d0, d9, b1, rfl, rfl⟩
   refine un J (un J (un J (V (jQ (cB J) rfl) ?_)))
   have q := sj b4; subst q
   exact f6 _ _ ⟨_, (d.js St), c2, d7, c3, d8, d0, d9, b1, rfl, rfl⟩
  rintro y0 E W ⟨b7, a4, l2, c4, P, d, m0, g4, m1, m2, g7, e0, m3, j3⟩ q9
  refine jI (CJ q9 (fun n6 E W => ∃ b9 c5 l3, jR a4 c5 ∧ Lo (keys (c ++ [])) w a4 c5 ∧ ST false (keys (c ++ [])) w W c5 (b9 ++ l3) ∧ E 0 = t ∧ E 3 = (.int .i64 B) ∧ E 4 = D ∧ E 18 = (.int .i64 a1) ∧ E 24 = (.int .i64 a2) ∧ kw 30 jo 5 c5 t n6 b9) (fun n6 r1 => ?_) ?_)
  ·refine sg (Wh g4 (Wh e0 (Wi rfl (Wm (LJ r1 (fun n7 E W => ∃ l5, ST false (keys (c ++ [])) w W a4 (b7 ++ l5) ∧ E 0 = t ∧ E 1 = (.int .i64 z) ∧ E 3 = (.int .i64 B) ∧ E 4 = D ∧ E 18 = (.int .i64 a1) ∧ E 20 = (.int .i64 g) ∧ E 24 = (.int .i64 a2) ∧ E 199 = (.bool n7)) 4 ?_ (fun n7 b3 f5 => ?_))))))
   ·rintro da E W ⟨l5, d, h1, w4, m6, h2, h3, w5, m7, w6⟩ a7
    refine ln (CI a7 w6 (fun p9 a7 => ?_) (fun p9 a7 => ?_))
    ·refine jC (Wh h1 (Wh w4 (Wh w5 (Wh h3 (Wh h2 (bS a7 fun ci s4 a7 => ?_))))))
     refine VE (eD d (Cr Qz Cn) call189 (fun hh => (s6 t y0 b7 z g a1 D f4 _ _ hh j3 (c6.mono c4) s4)) ?_)
     rintro _ ct z4 az d o1 aE ⟨u4, e7, rfl, t3⟩
     obtain rfl := e7.symm
     replace d := d.perm (Tr Tn)
     refine ln ?_
     have q := sj a7; subst q
     exact ⟨u4, z4, _, o1, aE, (d.js St), h1, m6, h2, h3, m7, t3⟩
    refine kn ?_
    have q := sj a7; subst q
    exact ⟨b7, a4, _, (jR.refl _), Lo.refl, (d.js St), h1, m6, h2, h3, m7, j3⟩
   refine bC b3 (fun I b3 => ?_) (fun I b3 => ?_)
   ·refine ug I (jx e0) (ug I (jx g7) (ug I (ko rfl rfl rfl) (V (jO (cB I) rfl) ?_)))
    have q := sj b3; subst q
    exact f5 _ _ ⟨_, (d.js St), m0, g4, m1, m2, g7, e0, m3, rfl⟩
   refine un I (un I (un I (V (jQ (cB I) rfl) ?_)))
   have q := sj b3; subst q
   exact f5 _ _ ⟨_, (d.js St), m0, g4, m1, m2, g7, e0, m3, rfl⟩
  rintro y1 E W ⟨b9, c5, l3, d2, R, d, m4, g8, m5, g9, e1, j4⟩ r0
  refine sg (Wh g9 (Wh e1 (Wi rfl (Wm (LJ r0 (fun n5 E W => ∃ l4, ST false (keys (c ++ [])) w W c5 (b9 ++ l4) ∧ E 0 = t ∧ E 3 = (.int .i64 B) ∧ E 4 = D ∧ E 18 = (.int .i64 a1) ∧ E 24 = (.int .i64 a2) ∧ E 213 = (.bool n5)) 4 ?_ (fun n5 b2 f3 => ?_))))))
  ·rintro cz E W ⟨l4, d, v8, v9, w0, w1, w2, w3⟩ a6
   refine ln (CI a6 w3 (fun p8 a6 => ?_) (fun p8 a6 => ?_))
   ·refine jC (Wh v8 (Wh w1 (Wh w2 (Wh v9 (Wh w0 (bS a6 fun ch s3 a6 => ?_))))))
    refine VE (eD d (Cr Qz Cn) call189 (fun hh => (s6 t y1 b9 a1 a2 B D f4 _ _ hh j4 (c6.mono (c4.trans d2)) s3)) ?_)
    rintro _ cs de ay d o0 ad ⟨u3, e6, rfl, t2⟩
    obtain rfl := e6.symm
    replace d := d.perm (Tr Tn)
    refine jU (qe ?_)
    have q := sj a6; subst q
    exact ox rfl ⟨_, _, _, rfl, (d.mi (Kr Sn)), ((c4.trans d2).trans o0), ((P.trans R).trans ad), (ST.lf d (mS.mem (Kr Sn))), u3, rfl, rfl, t2⟩
   refine lJ (qe ?_)
   have q := sj a6; subst q
   exact ox rfl ⟨_, _, _, rfl, (d.mi (Kr Sn)), (c4.trans d2), (P.trans R), (ST.lf d (mS.mem (Kr Sn))), b9, rfl, rfl, j4⟩
  refine bC b2 (fun H b2 => ?_) (fun H b2 => ?_)
  ·refine ug H (jx e1) (ug H (jx g8) (ug H (ko rfl rfl rfl) (V (jO (cB H) rfl) ?_)))
   have q := sj b2; subst q
   exact f3 _ _ ⟨_, (d.js St), m4, g8, m5, g9, e1, rfl⟩
  refine un H (un H (un H (V (jQ (cB H) rfl) ?_)))
  have q := sj b2; subst q
  exact f3 _ _ ⟨_, (d.js St), m4, g8, m5, g9, e1, rfl⟩
theorem pQ : ∀ (n : Nat) (c : Value) (k : List Formula) (a : LO) (t : Int) (u : Int) (x : Int) (g : Value) (y : (Formula × Formula) → Option Int) (r : List Formula) (w : World) {i : jN} (H : nT i (a ++ []) w) (B : kw 30 jo 5 i c k a) (D : wK pg0 g i (uR jo jo) (fun (r : Int) => (.int .i64 r)) y) (_ : kR n k t u x y = some r),
  lZ false pg0 189 [c, (.int .i64 t), (.int .i64 u), (.int .i64 x), g] w i (a ++ []) (fun v z G => ∃ j, v = (.tuple #[]) ∧ z = (j ++ []) ∧ kw 30 jo 5 G c r j)
 | 0 => by intros; rename_i h; simp only [kR] at h; cases h
 | n + 1 => vJ (kR n) (pQ n)
theorem yh (a : Value) (a0 : List Formula) (c : LO) (Q : Int) (x : Value) (f2 : (Formula × Formula) → Option Int) (r : List Formula) (w : World) {μ0 : jN} (h0 : nT μ0 (c ++ []) w) (k4 : kw 30 jo 5 μ0 a a0 c) (c7 : wK pg0 x μ0 (uR jo jo) (fun (r : Int) => (.int .i64 r)) f2) (hm : qu a0 Q f2 = some r) :
  lZ false pg0 177 [a, (.int .i64 Q), x] w μ0 (c ++ []) (fun v L1 μ1 => ∃ S1, v = (.tuple #[]) ∧ L1 = (S1 ++ []) ∧ kw 30 jo 5 μ1 a r S1) := by
 refine vO h0 63 func177 rfl (fun b => sg (Wa (lr (Wm (Wa (Wa (ln (jI (kX (mT (fun m E W => ∃ d4 d0 d5 b1 d6 f1, jR μ0 d6 ∧ Lo (keys (c ++ [])) w μ0 d6 ∧ ST false (keys (c ++ [])) w W d6 (d0 ++ f1) ∧ E 0 = a ∧ E 1 = (.int .i64 Q) ∧ E 2 = x ∧ E 6 = (.int .i64 20) ∧ E 7 = (.int .i64 d5) ∧ E 8 = (.int .i64 b1) ∧ kw 30 jo 5 d6 a d4 d0 ∧ lF Q f2 m d4 d5 b1 = some r) jP ⟨a0, c, 0, 20, μ0, _, (jR.refl _), Lo.refl, (b.js St), rfl, rfl, rfl, rfl, rfl, rfl, k4, hm⟩ ?_))))))))))
 rintro m E W ⟨d4, d0, d5, b1, d6, f1, z, l, b, b4, b5, b6, d7, f4, b7, h1, i⟩
 cases m with
 | zero => rw [lF] at i; cases i
 | succ k5 =>
  refine jI (sg (Wh b7 (Wh b5 (Wi rfl (ln (CI i rfl (fun i4 i => ?_) (fun i4 i => ?_)))))))
  ·refine kn (bg (Wh b4 (Wh f4 (Wh b7 (Wh b6 (bS i fun k6 i7 i => ?_))))))
   refine VE (eD b (Cr Qz Cn) call188 (fun L => (rn a d4 d0 d5 b1 x f2 _ _ L h1 (c7.mono z) i7)) ?_)
   rintro _ m4 k8 l8 b g0 O ⟨k1, c8, rfl, j0⟩
   obtain rfl := c8.symm
   replace b := b.perm (Tr Tn)
   refine lr (Wh b7 (Wa (ln (jC (Wh b7 (Wh d7 (Wi rfl (Wa (jU (kz ?_))))))))))
   exact jH ⟨k5, bn _, k6, k1, b1, (wi0 .i64 (b1 + 20)), k8, _, (z.trans g0), (l.trans O), (b.js St), b4, b5, b6, d7, rfl, rfl, j0, i⟩
  refine ng (mI (mI (rC (jH (sg (Wh b4 (Wh f4 (Wh b5 (Wh b6 (bS i fun k7 i8 i => ?_))))))))))
  refine VE (eD b (Cr Qz Cn) call188 (fun L => (rn a d4 d0 d5 Q x f2 _ _ L h1 (c7.mono z) i8)) ?_)
  rintro _ m5 a8 l9 b a5 P ⟨k2, c9, rfl, j3⟩
  obtain rfl := c9.symm
  replace b := b.perm (Tr Tn)
  refine ln (tE (CJ i (fun d8 E W => ∃ b2 a9 f3, jR a8 a9 ∧ Lo (keys (c ++ [])) w a8 a9 ∧ ST false (keys (c ++ [])) w W a9 (b2 ++ f3) ∧ kw 30 jo 5 a9 a d8 b2) (fun d8 i6 => ?_) ?_))
  ·refine kX (mT (fun m E W => ∃ a2 I j k e0, jR a8 k ∧ Lo (keys (c ++ [])) w a8 k ∧ ST false (keys (c ++ [])) w W k (I ++ e0) ∧ E 0 = a ∧ E 1 = (.int .i64 Q) ∧ E 2 = x ∧ E 6 = (.int .i64 j) ∧ kw 30 jo 5 k a a2 I ∧ lE Q f2 m a2 j = some d8) jP ⟨k7, k2, 20, a8, _, (jR.refl _), Lo.refl, (b.js St), b4, b5, b6, d7, j3, i6⟩ ?_)
   rintro m E W ⟨a2, I, j, k, e0, B, d, b, h6, e4, h7, b3, d1, t⟩
   cases m with
   | zero => rw [lE] at t; cases t
   | succ j6 =>
    refine jI (sg (Wh b3 (Wh e4 (Wi rfl (ln (CI t rfl (fun f7 t => ?_) (fun f7 t => ?_)))))))
    ·refine kn (bg (Wh b3 (Wi rfl (Wa (Wa (ln (jI (CJ t (fun a4 E W => ∃ J y e1, jR k y ∧ Lo (keys (c ++ [])) w k y ∧ ST false (keys (c ++ [])) w W y (J ++ e1) ∧ E 0 = a ∧ E 1 = (.int .i64 Q) ∧ E 2 = x ∧ E 6 = (.int .i64 j) ∧ E 7 = (.int .i64 a4.2) ∧ kw 30 jo 5 y a a4.1 J) (fun a4 g4 => ?_) ?_))))))))
     ·refine kX (mT (fun m E W => ∃ a3 K M D H e3, jR k H ∧ Lo (keys (c ++ [])) w k H ∧ ST false (keys (c ++ [])) w W H (K ++ e3) ∧ E 0 = a ∧ E 1 = (.int .i64 Q) ∧ E 2 = x ∧ E 6 = (.int .i64 j) ∧ E 7 = (.int .i64 M) ∧ E 8 = (.int .i64 D) ∧ kw 30 jo 5 H a a3 K ∧ lV Q j f2 m a3 M D = some a4) jP ⟨a2, I, 0, (wi0 .i64 (2 * j)), k, _, (jR.refl _), Lo.refl, (b.js St), h6, e4, h7, b3, rfl, rfl, d1, g4⟩ ?_)
      rintro m E W ⟨a3, K, M, D, H, e3, N, h, b, c2, c3, c4, Y, c5, Z, d3, g⟩
      cases m with
      | zero => rw [lV] at g; cases g
      | succ j7 =>
       refine jI (sg (Wh Z (Wh c3 (Wi rfl (ln (CI g rfl (fun f9 g => ?_) (fun f9 g => ?_)))))))
       ·refine kn (bg (Wh c2 (Wh c5 (Wh c5 (Wh Y (Wi rfl (Wh Z (Wh c4 (bS g fun j8 g8 g => ?_)))))))))
        refine VE (eD b (Cr Qz Cn) call189 (fun L => ((pQ jP) a a3 K M (wi0 .i64 (M + j)) D x f2 _ _ L d3 (c7.mono (((z.trans a5).trans B).trans N)) g8)) ?_)
        rintro _ l6 k0 l1 b f0 s ⟨h5, a7, rfl, h3⟩
        obtain rfl := a7.symm
        replace b := b.perm (Tr Tn)
        refine lr (Wh Z (Wa (ln (jC (Wh Z (Wh Y (Wi rfl (Wi rfl (Wa (jU ?_))))))))))
        exact kz (jH ⟨j7, bn _, j8, h5, D, (wi0 .i64 (D + (wi0 .i64 (2 * j)))), k0, _, (N.trans f0), (h.trans s), (b.js St), c2, c3, c4, Y, rfl, rfl, h3, g⟩)
       refine ng (mI (mI (rC (jH ?_))))
       obtain rfl := sj g
       exact ⟨K, H, _, N, h, (b.js St), c2, c3, c4, Y, c5, d3⟩
     rintro ⟨j4, e7⟩ E W ⟨J, y, e1, b0, n, b, b9, U, c0, c1, e5, d2⟩ g2
     refine jI (CJ g2 (fun e6 E W => ∃ T G e2, jR y G ∧ Lo (keys (c ++ [])) w y G ∧ ST false (keys (c ++ [])) w W G (T ++ e2) ∧ E 0 = a ∧ E 1 = (.int .i64 Q) ∧ E 2 = x ∧ E 6 = (.int .i64 j) ∧ kw 30 jo 5 G a e6 T) (fun e6 u => ?_) ?_)
     ·refine sg (Wh e5 (Wh c1 (Wi rfl (Wa (lr (Wm (Wh U (Wi rfl (ln ?_)))))))))
      refine CI u rfl (fun f8 u => ?_) (fun f8 u => ?_)
      ·refine jC (Wh b9 (Wh e5 (Wm (Wh U (Wh c0 (bS u fun l4 g7 u => ?_))))))
       refine VE (eD b (Cr Qz Cn) call189 (fun L => ((pQ jP) a j4 J e7 (wi0 .i64 (e7 + j)) Q x f2 _ _ L d2 (c7.mono (((z.trans a5).trans B).trans b0)) g7)) ?_)
       rintro _ l5 j9 l0 b e9 q ⟨h4, a6, rfl, h2⟩
       obtain rfl := a6.symm
       replace b := b.perm (Tr Tn)
       refine ln ?_
       obtain rfl := sj u
       exact ⟨h4, j9, _, e9, q, (b.js St), b9, U, c0, c1, h2⟩
      refine kn ?_
      obtain rfl := sj u
      exact ⟨J, y, _, (jR.refl _), Lo.refl, (b.js St), b9, U, c0, c1, d2⟩
     rintro j5 E W ⟨T, G, e2, e8, p, b, h8, h9, i0, i1, g9⟩ g3
     exact jC (Wh i1 (Wi rfl (Wa (jU (kz (jH ⟨j6, bn _, j5, T, (wi0 .i64 (j * 2)), G, _, ((B.trans b0).trans e8), ((d.trans n).trans p), (b.js St), h8, h9, i0, rfl, g9, g3⟩))))))
    refine ng (mI (mI (rC (jH ?_))))
    obtain rfl := sj t
    exact ⟨I, k, _, B, d, (b.js St), d1⟩
  rintro m3 E W ⟨b2, a9, f3, g1, R, b, i9⟩ i5
  refine qe ?_
  obtain rfl := sj i5
  exact ox rfl ⟨_, _, _, rfl, (b.mi (Kr Sn)), ((z.trans a5).trans g1), ((l.trans P).trans R), (ST.lf b (mS.mem (Kr Sn))), b2, rfl, rfl, i9⟩
theorem xG (c : Value) (k : List Formula) (a : LO) (i : Value) (u : (Formula × Formula) → Option Int) (r : List Formula) (w : World) {t : jN} (J : nT t (a ++ []) w) (j : kw 30 jo 5 t c k a) (x : wK pg0 i t (uR jo jo) (fun (r : Int) => (.int .i64 r)) u) (hm : oy k u = some r) :
  lZ false pg0 172 [c, i] w t (a ++ []) (fun v I K => ∃ B, v = (.tuple #[]) ∧ I = (B ++ []) ∧ kw 30 jo 5 K c r B) := by
 refine vO J 9 func172 rfl (fun b => jC (Wm (Wm (V (xF aF rfl j) (Wm (bS hm fun Q H hm => ?_))))))
 refine VE (eD b (Cr Qz Cn) call177 (fun h => (yh c k a (k.length : Int) i u _ _ h j (x.mono (jR.refl _)) H)) ?_)
 rintro _ T U M b y d ⟨D, g, rfl, z⟩
 obtain rfl := g.symm
 replace b := b.perm (Tr Tn)
 refine jU (qe ?_)
 obtain rfl := sj hm
 exact ox rfl ⟨_, _, _, rfl, (b.mi (Kr Sn)), y, d, (ST.lf b (mS.mem (Kr Sn))), D, rfl, rfl, z⟩
theorem qP (t : Nat) (j : Value) (G : List Int) (i : LO) (h : Int) (r : (Bool × (List Int))) (w : World) {μ0 : jN} (L : nT μ0 ((t, Ob #[j] 168) :: (i ++ [])) w) (y : jM 5 (kP .u8) 1 j G i) (hm : nF G h = some r) :
  kA true pg0 113 [(.pointer (some ⟨t, 0, none⟩)), (.int .i64 h)] w ((t, Ob #[j] 168) :: (i ++ [])) (fun v L1 W' => ∃ n S2, v = (.bool (r.1)) ∧ L1 = ((t, Ob #[n] 168) :: (S2 ++ [])) ∧ jM 5 (kP .u8) 1 n r.2 S2) := by
 refine xL L 38 func113 rfl (fun d => sg (Wa (lS (Wm (V (wv fX rfl rfl) (Wm (Vg rfl rfl (jx rfl) (Vg rfl rfl (ko rfl rfl rfl) (V (jQ rfl rfl) ?_)))))))))
 refine ln (CI hm rfl (fun a9 hm => ?_) (fun a9 hm => ?_))
 ·refine sg (Wa (lt (kI ?_)))
  obtain rfl := sj hm
  exact li (v := (.bool false)) rfl rfl ⟨_, _, rfl, (d.mi (Kb (Kr Sn))), j, i, rfl, rfl, y⟩
 refine kn (jI (kX (mT (fun m E W => ∃ c z U u a0, ST true (keys ((t, Ob #[j] 168) :: (i ++ []))) w W μ0 ((t, Ob #[z] 168) :: (u ++ a0)) ∧ E 0 = (.pointer (some ⟨t, 0, none⟩)) ∧ E 1 = (.int .i64 c) ∧ jM 5 (kP .u8) 1 z U u ∧ pH m c U = some r) jP ⟨h, j, G, i, _, (d.js St), rfl, rfl, y, hm⟩ ?_)))
 rintro m E W ⟨c, z, U, u, a0, d, x, K, T, g⟩
 cases m with
 | zero => rw [pH] at g; cases g
 | succ s =>
  refine jI (sg (Wh K (Wi rfl (ln (CI g rfl (fun p g => ?_) (fun p g => ?_))))))
  ·refine kn (jI (kX (jC (Wh x (Wh x (Wn (Wf yE (VB d Mh rfl rfl isAgg59 (Wh K (V (qI (k' := .i64) (a := c) dK fK rfl) (V (Is (k := .u8) (a := (IntKind.u8.wrap c)) (b := 128) (v := (.int .u8 (IntKind.u8.wrap (BitVec.ofInt (IntKind.bits .u8) (IntKind.u8.wrap c) ||| BitVec.ofInt (IntKind.bits .u8) 128).toNat))) rfl rfl dc rfl) (VE (kp (cs := [(.int .u8 (IntKind.u8.wrap (BitVec.ofInt (IntKind.bits .u8) (IntKind.u8.wrap c) ||| BitVec.ofInt (IntKind.bits .u8) 128).toNat))].toArray) d (mD rfl) (mN cQ sizeOf5 iX) (fun c3 q d => ?_))))))))))))))
   replace d := d.perm (Nr (Qb (Qb Qz)) Nz)
   refine bS g fun Q Y g => VE (oC (enc := (kP .u8)) (v := z) (vs := (.slice (some ⟨q, 0, none⟩) 1 1)) (R := u) d (fun _ => rfl) dc (wc _) cQ rJ.1 rJ.2.1 rfl rJ.2.2.1 rJ.2.2.2 rfl rfl T (Sl.lit (enc := (kP .u8)) (l := [(IntKind.u8.wrap (BitVec.ofInt (IntKind.bits .u8) (IntKind.u8.wrap c) ||| BitVec.ofInt (IntKind.bits .u8) 128).toNat)]) (fun _ => rfl) rfl nb rfl (d.at_ (Ma Mh))) Y (fun O c1 a2 d M => Wn (Wf yE ?_)))
   obtain ⟨B, H, rfl⟩ := M.form
   replace d := d.perm (Nb (Pr (Pb Pz)) Nz)
   refine VO (jL (.slice B Q.length H) (#[(.slice B Q.length H)]) d rfl rfl jg oc nb rfl (fun P d => jU (kz (jH ?_))))
   replace d := d.js (Kb (Kr (Db St)))
   exact jC (Wh K (V (GF (a := c) (b := 7) rfl rfl dc) (Wa (ln ⟨s, bn _, (Int.fdiv c (2 ^ min (Int.toNat 7) (IntKind.bits .i64))), (.slice B Q.length H), Q, a2, _, (d.js St), x, rfl, M, g⟩))))
  refine ng (mI (mI (rC (jH (sg (Wh x (Wh x (Wn (Wf yE (VB d Mh rfl rfl isAgg59 (Wh K (V (qI (k' := .i64) (a := c) dK fK rfl) (VE (kp (cs := [(.int .u8 (IntKind.u8.wrap c))].toArray) d (mD rfl) (mN cQ sizeOf5 iX) (fun b6 a5 d => ?_)))))))))))))))
  replace d := d.perm (Nr (Qb (Qb Qz)) Nz)
  refine bS g fun J Z g => VE (oC (enc := (kP .u8)) (v := z) (vs := (.slice (some ⟨a5, 0, none⟩) 1 1)) (R := u) d (fun _ => rfl) dc (wc _) cQ rJ.1 rJ.2.1 rfl rJ.2.2.1 rJ.2.2.2 rfl rfl T (Sl.lit (enc := (kP .u8)) (l := [(IntKind.u8.wrap c)]) (fun _ => rfl) rfl nb rfl (d.at_ (Ma Mh))) Z (fun b7 c2 a3 d N => Wn (Wf yE ?_)))
  obtain ⟨D, I, rfl⟩ := N.form
  replace d := d.perm (Nb (Pr (Pb Pz)) Nz)
  refine VO (jL (.slice D J.length I) (#[(.slice D J.length I)]) d rfl rfl jg oc nb rfl (fun b9 d => ln ?_))
  replace d := d.js (Kb (Kr (Db St)))
  refine sg (Wa (lt ?_))
  obtain rfl := sj g
  exact li (v := (.bool true)) rfl rfl ⟨_, _, rfl, (d.mi (Kb (Kr Sn))), (.slice D J.length I), a3, rfl, rfl, N⟩
theorem EK (g : Nat) (c : Value) (j : List Int) (a : LO) (u : Value) (D : List Int) (r : (Bool × (List Int))) (w : World) {Z : jN} (h : nT Z ((g, Ob #[c] 168) :: (a ++ [])) w) (i : jM 5 (kP .u8) 1 c j a) (k : Sl (Pl (kP .u8)) 1 Z u D) (hm : wF j D = some r) :
  kA true pg0 142 [(.pointer (some ⟨g, 0, none⟩)), u] w ((g, Ob #[c] 168) :: (a ++ [])) (fun v L1 W' => ∃ U M, v = (.bool (r.1)) ∧ L1 = ((g, Ob #[U] 168) :: (M ++ [])) ∧ jM 5 (kP .u8) 1 U r.2 M) := by
 refine xL h 25 func142 rfl (fun b => sg (Wa (lS (Wm (V (wv fX rfl rfl) (Wm (Vg rfl rfl (jx rfl) (Vg rfl rfl (lU cQ rfl k) (Vg rfl rfl (ko rfl rfl rfl) ?_)))))))))
 refine V (jQ rfl rfl) (ln (CI hm rfl (fun Q hm => ?_) (fun Q hm => ?_)))
 ·refine sg (Wa (lt (kI ?_)))
  obtain rfl := sj hm
  exact li (v := (.bool false)) rfl rfl ⟨_, _, rfl, (b.mi (Kb (Kr Sn))), c, a, rfl, rfl, i⟩
 refine kg (Wm (Wm (V (lU cQ rfl k) (bS hm fun q T hm => ?_))))
 refine VE (eM b (Cb Pz (Cr Qz Cn)) call113 (fun l _ => (qP g c j a (D.length : Int) _ _ l i T)) ?_)
 rintro _ v8 n a3 b H m d ⟨Y, K, t, rfl, I⟩
 obtain rfl := t.symm
 replace b := b.perm (Tb (Tr Tn))
 refine lr (Wm (Wm (Wn (Wf yE (VB b Mh rfl rfl isAgg59 (Wm ?_))))))
 replace b := b.perm (Nr (Qb Qz) Nz)
 refine bS hm fun B G hm => VE (oC (enc := (kP .u8)) (v := Y) (vs := u) (R := K) b (fun _ => rfl) dc (wc _) cQ rJ.1 rJ.2.1 rfl rJ.2.2.1 rJ.2.2.2 rfl rfl I (k.mono (Pl.mono _) (H.trans b.jy)) G (fun a4 p J b z => Wn (Wf yE ?_)))
 obtain ⟨x, y, rfl⟩ := z.form
 replace b := b.perm (Nb (Pr Pz) Nz)
 refine VO (jL (.slice x B.length y) (#[(.slice x B.length y)]) b rfl rfl jg oc nb rfl (fun a5 b => lr (Wa (lt ?_))))
 obtain rfl := sj hm
 exact li (v := (.bool true)) rfl rfl ⟨_, _, rfl, (b.mi (Kb (Kr Sn))), (.slice x B.length y), J, rfl, rfl, z⟩
theorem xO (j : Nat) (c : Value) (t : List Int) (a : LO) (J : ByteArray) (r : (Bool × (List Int))) (w : World) {Z : jN} (L : nT Z ((j, Ob #[c] 168) :: (a ++ [])) w) (k : jM 5 (kP .u8) 1 c t a) (hm : sT t J = some r) :
  kA true pg0 115 [(.pointer (some ⟨j, 0, none⟩)), (.string J)] w ((j, Ob #[c] 168) :: (a ++ [])) (fun v L1 W' => ∃ n S2, v = (.bool (r.1)) ∧ L1 = ((j, Ob #[n] 168) :: (S2 ++ [])) ∧ jM 5 (kP .u8) 1 n r.2 S2) := by
 refine xL L 17 func115 rfl (fun b => sg (Wa (lr (Wm (V (Da fX rfl rfl) (Wm (Vg rfl rfl (jx rfl) (bS hm fun r1 a4 hm => KP rfl rfl (Eg b call75 (vK J _ _  a4) (fun W3 b => V (jO rfl rfl) ?_))))))))))
 refine Wm (LJ hm (fun B E W => ∃ z x D I, jR Z D ∧ ST true (keys ((j, Ob #[c] 168) :: (a ++ []))) w W D ((j, Ob #[z] 168) :: (x ++ I)) ∧ E 4 = (.bool false) ∧ E 16 = (.bool B.1) ∧ jM 5 (kP .u8) 1 z B.2 x) 5 ?_ (fun B g y => ?_))
 ·rintro ⟨q, c0⟩ E W ⟨z, x, D, I, P, b, b9, a3, T⟩ M
  refine Wg a3 (lt ?_)
  obtain rfl := sj M
  exact li (v := (.bool q)) rfl rfl ⟨_, _, rfl, (b.mi (Kb (Kr Sn))), z, x, rfl, rfl, T⟩
 refine bC g (fun i g => ?_) (fun i g => ?_)
 ·refine ug i (jx rfl) (ug i (jx rfl) (bS g fun a5 N g => ue i (HV b bW cQ fK rfl N (fun b6 p c3 b G l U R => bS g fun c1 Q g => ?_))))
  refine ue i (eM b (Cb Pz (Cr Qz Cn)) call142 (fun O h => (EK j c t a p a5 _ _ O k (U.mono (Pl.mono _) h) Q)) ?_)
  rintro _ c2 s b5 b H m d ⟨a9, a2, u, rfl, Y⟩
  obtain rfl := u.symm
  replace b := b.perm (Tb (Tr Tn))
  refine V (jO (cB i) rfl) ?_
  obtain rfl := sj g
  exact y _ _ ⟨a9, a2, s, _, (G.trans H), (b.js St), rfl, rfl, Y⟩
 refine un i (un i (un i (un i (V (jQ (cB i) rfl) ?_))))
 obtain rfl := sj g
 exact y _ _ ⟨c, a, Z, _, (jR.refl _), (b.js St), rfl, rfl, k⟩
theorem uD (c : Nat) (i : Value) (D : List Int) (a : LO) (x : jl) (r : (Bool × (List Int))) (w : World) {μ0 : jN} (h0 : nT μ0 ((c, Ob #[i] 168) :: (a ++ [])) w) (y : jM 5 (kP .u8) 1 i D a) (hm : pI D x = some r) :
  kA true pg0 114 [(.pointer (some ⟨c, 0, none⟩)), (.agg (ju x).toArray)] w ((c, Ob #[i] 168) :: (a ++ [])) (fun v L1 W' => ∃ q S2, v = (.bool (r.1)) ∧ L1 = ((c, Ob #[q] 168) :: (S2 ++ [])) ∧ jM 5 (kP .u8) 1 q r.2 S2) := by
 let l := ((c, Ob #[i] 168) :: (a ++ []))
 refine xL h0 23 func114 rfl (fun b => sg (VE (kq b rfl (fun W2 m b => Wa (lr (Wm (V (Da fX rfl rfl) (Wm (Vg rfl rfl (jt rfl (jA b.has Mh (ju x) rfl bQ aT)) (bS hm fun r3 c4 hm => KP rfl rfl (Eg b call74 (sZ x _ _  c4) (fun W5 b => ?_))))))))))))
 refine V (jO rfl rfl) (Wm (LJ hm (fun T E W => ∃ z u B a0, jR μ0 B ∧ ST true (keys l) w W B ((m, Ol (ju x) 27) :: ((c, Ob #[z] 168) :: (u ++ a0))) ∧ E 0 = (.pointer (some ⟨c, 0, none⟩)) ∧ E 3 = (.pointer (some ⟨m, 0, none⟩)) ∧ E 4 = (.bool false) ∧ E 16 = (.bool T.1) ∧ jM 5 (kP .u8) 1 z T.2 u) 5 ?_ (fun T t K => ?_)))
 ·rintro ⟨e6, c5⟩ E W ⟨z, u, B, a0, d2, b, c0, c1, a3, c2, N⟩ s
  refine Wh c2 (LJ s (fun Q E W => ∃ M I U a2, jR B U ∧ ST true (keys l) w W U ((c, Ob #[M] 168) :: (I ++ a2)) ∧ E 4 = (.bool false) ∧ E 22 = (.bool Q.1) ∧ jM 5 (kP .u8) 1 M Q.2 I) 5 ?_ (fun Q k J => ?_))
  ·rintro ⟨c6, e1⟩ E W ⟨M, I, U, a2, d3, b, e0, c3, P⟩ L
   refine Wg c3 (lt ?_)
   obtain rfl := sj L
   exact li (v := (.bool c6)) rfl rfl ⟨_, _, rfl, (b.mi (Kb (Kr Sn))), M, I, rfl, rfl, P⟩
  refine bC k (fun g k => ?_) (fun g k => ?_)
  ·refine ug g (jx c0) (ug g (jB tL c1) (ug g (jt rfl (jG b.has Mh rfl bU)) (bS k fun e2 O k => ?_)))
   refine ue g (eM b (Cb (Pb Pz) (Cr (Qb Qz) Cn)) call115 (fun h _ => (xO c z c5 u x.jv _ _ h N O)) ?_)
   rintro _ e4 d0 d6 b Y n d ⟨c8, b6, G, rfl, R⟩
   obtain rfl := G.symm
   replace b := b.perm (Tb (Tr Tn))
   refine V (jO (cB g) rfl) ?_
   obtain rfl := sj k
   exact J _ _ ⟨c8, b6, d0, _, Y, (b.js (Kb (Kr (Db St)))), a3, rfl, R⟩
  refine un g (un g (un g (un g (V (jQ (cB g) rfl) ?_))))
  obtain rfl := sj k
  exact J _ _ ⟨z, u, B, _, (jR.refl _), (b.js (Db St)), a3, rfl, N⟩
 refine bC t (fun j t => ?_) (fun j t => ?_)
 ·refine ug j (jx rfl) (ug j (jB pY rfl) (ug j (jt rfl (jG b.has Mh rfl bU)) (bS t fun e3 a9 t => ?_)))
  refine ue j (eM b (Cb (Pb Pz) (Cr (Qb Qz) Cn)) call115 (fun h _ => (xO c i D a x.jq _ _ h y a9)) ?_)
  rintro _ e5 d1 d7 b Z p d ⟨c9, b7, H, rfl, b3⟩
  obtain rfl := H.symm
  replace b := b.perm (Tb (Tr Tn))
  refine V (jO (cB j) rfl) ?_
  obtain rfl := sj t
  exact K _ _ ⟨c9, b7, d1, _, Z, (b.js (Sb (Pb (Pr Pz)) St)), rfl, rfl, rfl, rfl, b3⟩
 refine un j (un j (un j (un j (V (jQ (cB j) rfl) ?_))))
 obtain rfl := sj t
 exact K _ _ ⟨i, a, μ0, _, (jR.refl _), (b.js St), rfl, rfl, rfl, rfl, y⟩
theorem CT (L : (List Int) → Formula → Option (List Int)) (f2 : ∀ (a : Nat) (k : Value) (B : List Int) (g : LO) (j : Formula) (u : Value) (r : List Int) (w : World) {μ0 : jN} (h0 : nT μ0 ((a, Ob #[k] 168) :: (g ++ [])) w) (T : jM 5 (kP .u8) 1 k B g) (t : Sl jo 5 μ0 u j.Kids), L B j = some r → kA false pg0 196 [(.pointer (some ⟨a, 0, none⟩)), (.agg #[(.int .i64 j.Op), (.int .i64 j.K), (.string j.jl.jq), (.string j.jl.jv), u])] w ((a, Ob #[k] 168) :: (g ++ [])) (fun v L1 W' => ∃ m S2, v = (.tuple #[]) ∧ L1 = ((a, Ob #[m] 168) :: (S2 ++ [])) ∧ jM 5 (kP .u8) 1 m r S2)) (a : Nat) (k : Value) (B : List Int) (g : LO) (j : Formula) (u : Value) (r : List Int) (w : World) {μ0 : jN} (h0 : nT μ0 ((a, Ob #[k] 168) :: (g ++ [])) w) (T : jM 5 (kP .u8) 1 k B g) (t : Sl jo 5 μ0 u j.Kids) (hm : uT L B j = some r) :
  kA false pg0 196 [(.pointer (some ⟨a, 0, none⟩)), (.agg #[(.int .i64 j.Op), (.int .i64 j.K), (.string j.jl.jq), (.string j.jl.jv), u])] w ((a, Ob #[k] 168) :: (g ++ [])) (fun v L1 W' => ∃ m S2, v = (.tuple #[]) ∧ L1 = ((a, Ob #[m] 168) :: (S2 ++ [])) ∧ jM 5 (kP .u8) 1 m r S2) := by
 let b0 := ((a, Ob #[k] 168) :: (g ++ []))
 refine xL h0 40 func196 rfl (fun b => sg ?_)
 obtain ⟨A1, c2, rfl⟩ := t.form
 refine VE (kq b rfl (fun W4 b3 b => lr (Wm (Wf tV (VB b Mh rfl rfl cJ (bS hm fun r5 g8 hm => ?_))))))
 refine VE (eM b (Cb (Pb Pz) (Cr (Qb Qz) Cn)) call113 (fun l _ => kA.lR (qP a k B g j.Op _ _ l T g8)) ?_)
 rintro _ j8 n j0 b e9 af d ⟨O, a9, a2, rfl, a5⟩
 obtain rfl := a2.symm
 replace b := b.perm (Tb (Tr Tn))
 refine lS (Wf tV (VB b (Mt (Ma Mh)) rfl rfl cJ (Wi rfl (ln (CI hm rfl (fun e8 hm => ?_) (fun e8 hm => ?_))))))
 ·refine sg (Wm (Wf xV (VA b (Mt (Ma Mh)) (ju j.jl) bQ aT (bS hm fun j7 f0 hm => ?_))))
  refine VE (eM b (Cb Pz (Cr Qz Cn)) call114 (fun l _ => kA.lR (uD a O r5.2 a9 j.jl _ _ l a5 f0)) ?_)
  rintro _ j9 k1 j3 b h6 ag d ⟨h3, g2, a3, rfl, f4⟩
  obtain rfl := a3.symm
  replace b := b.perm (Tb (Tr Tn))
  refine ln ?_
  replace b := b.js (Kb (Kr (Db St)))
  refine kv (kI ?_)
  obtain rfl := sj hm
  exact ox rfl ⟨_, _, rfl, (b.mi (Kb (Kr Sn))), h3, g2, rfl, rfl, f4⟩
 refine kn (jI (CJ hm (fun b5 E W => ∃ q p P d6, jR n P ∧ ST false (keys b0) w W P ((a, Ob #[q] 168) :: ((b3, Ol (C1 j.Op j.K j.jl.jq j.jl.jv A1 j.Kids.length c2) 30) :: (p ++ d6))) ∧ E 0 = (.pointer (some ⟨a, 0, none⟩)) ∧ E 3 = (.pointer (some ⟨b3, 0, none⟩)) ∧ jM 5 (kP .u8) 1 q b5 p) (fun b5 y => ?_) ?_))
 ·refine sg (Wf tV (VB b (Mt (Ma Mh)) rfl rfl cJ (Wi rfl (ln (CI y rfl (fun c4 y => ?_) (fun c4 y => ?_))))))
  ·refine jC (Wm (Wf yg (VB b (Mt (Ma Mh)) rfl rfl cJ (bS y fun i6 d0 y => ?_))))
   refine VE (eM b (Cb Pz (Cr Qz Cn)) call113 (fun l _ => kA.lR (qP a O r5.2 a9 j.K _ _ l a5 d0)) ?_)
   rintro _ i9 g1 h9 b b2 ad d ⟨f9, e3, N, rfl, d5⟩
   obtain rfl := N.symm
   replace b := b.perm (Tb (Tr Tn))
   refine ln ?_
   obtain rfl := sj y
   exact ⟨f9, e3, g1, _, b2, (b.js (Kb (Sb (Pr Pz) St))), rfl, rfl, d5⟩
  refine kn ?_
  obtain rfl := sj y
  exact ⟨O, a9, n, _, (jR.refl _), (b.js (Kb (Sb (Pr Pz) St))), rfl, rfl, a5⟩
 rintro g9 E W ⟨q, p, P, d6, c6, b, d7, d8, f3⟩ a0
 refine sg (Wh d7 (V (jB rY d8) (VB b (Mt Mh) rfl rfl ft (V (lU aF rfl t) (bS a0 fun h2 f1 a0 => ?_)))))
 refine VE (eM b (Cb Pz (Cr (Qb Qz) Cn)) call113 (fun l _ => kA.lR (qP a q g9 p (j.Kids.length : Int) _ _ l f3 f1)) ?_)
 rintro _ k0 d9 j4 b c7 ah d ⟨h4, g3, a4, rfl, f5⟩
 obtain rfl := a4.symm
 replace b := b.perm (Tb (Tr Tn))
 refine lr (V (jB rY d8) (VB b (Mt (Ma Mh)) rfl rfl ft (V (lU aF rfl t) (Wm (ln ?_)))))
 replace b := b.js (Kb (Kr (Db St)))
 refine tE (lQ (fun i E W => ∃ D H z Q U, (E 32 = .int .i64 (i : Nat) ∧ E 31 = .int .i64 (j.Kids.length : Nat)) ∧ jR d9 Q ∧ ST false (keys b0) w W Q ((a, Ob #[D] 168) :: (z ++ U)) ∧ E 0 = (.pointer (some ⟨a, 0, none⟩)) ∧ E 30 = (.slice A1 j.Kids.length c2) ∧ jM 5 (kP .u8) 1 D H z ∧ pV L (j.Kids.drop i) H = some r) j.Kids.length t.len ⟨h4, h2.2, g3, d9, _, ⟨rfl, rfl⟩, (jR.refl _), (b.js St), d7, rfl, f5, a0⟩ dc dc dc (fun _ _ _ h => by obtain ⟨_, _, _, _, _, aa, _⟩ := h; exact aa) ?_ ?_)
 ·rintro f6 E W c5 ⟨D, H, z, Q, U, ⟨R, eN⟩, G, b, Y, Z, K, x⟩
  obtain ⟨c, h7, d2, d1, d3⟩ := lz c5
  rw [d2] at x
  refine bg (VQ (nh (i := (f6 : Int)) (x0 := c) jo.out aF aC Z R (t.mono jD.mono (((e9.trans c6).trans c7).trans G)) (aX _) d1) (fun i5 ⟨_, ⟨i7, rfl, a7⟩, c8⟩ => V (jt rfl (kl b.has c8 bB aC)) (VE (kx b bG (fun i0 i4 b => ?_)))))
  obtain ⟨I, J, rfl⟩ := a7.form
  let s := (C1 c.Op c.K c.jl.jq c.jl.jv I c.Kids.length J)
  refine VO (jL (.agg s.toArray) (s.toArray) b rfl rfl aC oc nb rfl (fun i1 b => ln (jC (Wh Y (VA b Mh s bB aC (bS x fun f7 c9 x => ?_))))))
  refine VE (eM b (Cb (Pb Pz) (Cr (Qb Qz) Cn)) call196 (fun l ae => (f2 a D H z c (.slice I c.Kids.length J) _ _ l K (a7.mono jD.mono ae) c9)) ?_)
  rintro _ i8 g0 h8 b b1 ab d ⟨f8, e2, M, rfl, d4⟩
  obtain rfl := M.symm
  replace b := b.perm (Tb (Tr Tn))
  refine jU (kz (jH ?_))
  replace b := b.js (Kb (Kr (Db St)))
  exact ⟨R, f8, f7, e2, g0, _, ⟨rfl, eN⟩, (G.trans b1), (b.js St), Y, Z, d4, (by rw [d3]; exact x)⟩
 rintro E W ⟨D, H, z, Q, U, ⟨R, eN⟩, G, b, Y, Z, K, x⟩
 rw [bE] at x
 refine jH (qe ?_)
 obtain rfl := sj x
 exact ox rfl ⟨_, _, rfl, (b.mi (Kb (Kr Sn))), D, z, rfl, rfl, K⟩
theorem Bh : ∀ (n : Nat) (i : Nat) (g : Value) (k : List Int) (c : LO) (j : Formula) (a : Value) (r : List Int) (w : World) {z : jN} (D : nT z ((i, Ob #[g] 168) :: (c ++ [])) w) (x : jM 5 (kP .u8) 1 g k c) (t : Sl jo 5 z a j.Kids) (_ : pt n k j = some r),
  kA false pg0 196 [(.pointer (some ⟨i, 0, none⟩)), (.agg #[(.int .i64 j.Op), (.int .i64 j.K), (.string j.jl.jq), (.string j.jl.jv), a])] w ((i, Ob #[g] 168) :: (c ++ [])) (fun v B W' => ∃ y u, v = (.tuple #[]) ∧ B = ((i, Ob #[y] 168) :: (u ++ [])) ∧ jM 5 (kP .u8) 1 y r u)
 | 0 => by intros; rename_i h; simp only [pt] at h; cases h
 | n + 1 => CT (pt n) (Bh n)
theorem F9 (k : Nat) (i : Value) (u : List Int) (c : LO) (a : Formula) (j : Value) (r : (Bool × (List Int))) (w : World) {Q : jN} (Y : nT Q ((k, Ob #[i] 168) :: (c ++ [])) w) (t : jM 5 (kP .u8) 1 i u c) (g : Sl jo 5 Q j a.Kids) (hm : vz u a = some r) :
  kA false pg0 190 [(.pointer (some ⟨k, 0, none⟩)), (.agg #[(.int .i64 a.Op), (.int .i64 a.K), (.string a.jl.jq), (.string a.jl.jv), j])] w ((k, Ob #[i] 168) :: (c ++ [])) (fun v U W' => ∃ M I, v = (.bool (r.1)) ∧ U = ((k, Ob #[M] 168) :: (I ++ [])) ∧ jM 5 (kP .u8) 1 M r.2 I) := by
 refine xL Y 15 func190 rfl (fun b => sg ?_)
 obtain ⟨y, z, rfl⟩ := g.form
 let B := (C1 a.Op a.K a.jl.jq a.jl.jv y a.Kids.length z)
 refine VE (kq b rfl (fun W4 n b => Wa (lS (Wm (V (wv fX rfl rfl) (Wm (Vg rfl rfl (jt rfl (jA b.has Mh B rfl bB aC)) (bS hm fun p K hm => KP rfl rfl (Eg b call61 (vt a (.slice y a.Kids.length z) _ _ (g.mono jD.mono b.jy) K) (fun W7 b => Vg rfl rfl (pa rfl) (V (jQ rfl rfl) ?_)))))))))))
 refine ln (CI hm rfl (fun J hm => ?_) (fun J hm => ?_))
 ·refine sg (Wa (ln ?_))
  replace b := b.js (Db St)
  refine kv (kI ?_)
  obtain rfl := sj hm
  exact li (v := (.bool false)) rfl rfl ⟨_, _, rfl, (b.mi (Kb (Kr Sn))), i, c, rfl, rfl, t⟩
 refine kg (Wm (VA b Mh B bB aC (bS hm fun q D hm => ?_)))
 refine VE (eM b (Cb (Pb Pz) (Cr (Qb Qz) Cn)) call196 (fun m h => ((Bh jP) k i u c a (.slice y a.Kids.length z) _ _ m t (g.mono jD.mono h) D)) ?_)
 rintro _ a2 a3 Z b T l d ⟨N, H, x, rfl, G⟩
 obtain rfl := x.symm
 replace b := b.perm (Tb (Tr Tn))
 refine ln ?_
 replace b := b.js (Kb (Kr (Db St)))
 refine sg (Wa (lt ?_))
 obtain rfl := sj hm
 exact li (v := (.bool true)) rfl rfl ⟨_, _, rfl, (b.mi (Kb (Kr Sn))), N, H, rfl, rfl, G⟩
theorem H9 (g : Value) (i r : List Int) (w : World) (a : Sl (Pl (kP .u8)) 1 (hp w) g i) (hm : tJ i = some r) :
  mH true pg0 143 [g] w 5 (kP .u8) 1 r := by
 unfold tJ at hm
 refine yc 8 func143 rfl (fun b => sg (Wa (lS (Wm ?_))))
 obtain ⟨y, B, rfl⟩ := a.form
 refine V (AS cQ rfl rfl) (ln ?_)
 rcases y with _ | z
 ·have u := a.isNil
  replace hm : some [] = some r := by rw [u] at hm; simpa [lP, maxLen] using hm
  refine we (rfl) (sg (Wa (lt (kI ?_))))
  obtain rfl := sj hm
  exact li (v := (.slice none 0 0)) rfl rfl ⟨_, [], rfl, b.qz (fun p d => by cases d) (by simp), jM.nil _ _ _⟩
 ·refine su (rfl) (kg (VE (kp (cs := #[]) b tW (Ak [] cQ sizeOf5 iX dc rfl (by simp) rfl rfl) (fun G k b => Wm (bS hm fun H t hm => VE (oC (enc := (kP .u8)) (v := (.slice (some ⟨k, 0, none⟩) 0 0)) (vs := (.slice (some z) i.length B)) (R := [(k, Ob #[] 5)]) b (fun _ => rfl) dc (wc _) cQ rJ.1 rJ.2.1 rfl rJ.2.2.1 rJ.2.2.2 rfl rfl (jM.lit (l := []) (enc := (kP .u8)) rfl dc rfl rfl) (a.mono (Pl.mono _) b.jy) t (fun D x j b c => Wa (lt ?_))))))))
  obtain rfl := sj hm
  exact li (v := x) rfl rfl ⟨_, j, rfl, b.qz (fun p d => (Ml d)) c.nd, c⟩
theorem Av (g : Nat) (a : Value) (c r : List Int) (w : World) (j : Sl (Pl (kP .u8)) 1 (hp w) a c) (k : At (hp w) (.pointer (some ⟨g, 0, none⟩)) [a]) (hm : sS c = some r) :
  mH true pg0 116 [(.pointer (some ⟨g, 0, none⟩))] w 5 (kP .u8) 1 r := by
 refine yc 10 func116 rfl (fun b => sg (Wa (lS (Wm (V (wv fX rfl rfl) (ln (su rfl (lJ ?_))))))))
 refine jH (sg (Wm (Wn (VQ (qH [a] yE rfl k rfl) (fun G u => V (jt rfl (oO b.has (y := a) u isAgg59)) (bS hm fun H x hm => VE (vE b call143 (H9 a c _ _ (j.mono (Pl.mono _) b.jy) x) (fun D z I t b B d i => Wa (lt ?_)))))))))
 obtain rfl := sj hm
 exact li (v := z) rfl rfl ⟨_, t, rfl, b.qz (fun p h => (Ml h)) i.nd, i⟩
theorem zN (a : Formula) (g : Value) (r : List Int) (w : World) (c : Sl jo 5 (hp w) g a.Kids) (hm : sb a = some r) :
  mH false pg0 178 [(.agg #[(.int .i64 a.Op), (.int .i64 a.K), (.string a.jl.jq), (.string a.jl.jv), g])] w 5 (kP .u8) 1 r := by
 refine yc 11 func178 rfl (fun d => sg ?_)
 obtain ⟨k, t, rfl⟩ := c.form
 refine VE (kq d rfl (fun W4 u d => Wa (lr (V (mr (v := (.agg #[(.slice none 0 0)])) tW (lM zeroValue168 fV (Pe _ fV) kr)) (VE (kq d rfl (fun W6 B d => Wa (lr (Wm (VA d (Mt Mh) (C1 a.Op a.K a.jl.jq a.jl.jv k a.Kids.length t) bB aC ?_))))))))))
 refine bS hm fun K D hm => ?_
 refine VE (eM d (Cb Pz (C0 Cn)) call190 (fun s m => (F9 B (.slice none 0 0) ([]) [] a (.slice k a.Kids.length t) _ _ s (jM.nil _ _ _) (c.mono jD.mono m) D)) ?_)
 rintro _ U Y M d I n h ⟨H, N, i, rfl, y⟩
 obtain rfl := i.symm
 replace d := d.perm (Tb (Tr Tn))
 refine ln ?_
 replace d := d.js (Kb (Kr (Db St)))
 refine sg (Wm (bS hm fun T x hm => VE (vE d call116 (mH.lR (Av B H K.2 _ _ (y.sl (fun _ => rfl) (fun b o l => d.at_ (Mt (Ml l)))) (At.of (d.at_ Mh) _ rfl) x)) (fun Q G Z z d J q j => Wa (ln ?_)))))
 replace d := d.js (Kr (Db (Dr St)))
 refine kv ?_
 obtain rfl := sj hm
 exact li (v := G) rfl rfl ⟨_, z, rfl, d.qz (fun p l => (Ml l)) j.nd, j⟩
theorem Qp (w : World) {d g : Value} {a b : List Int} (h1 : Sl (Pl (kP .u8)) 1 (hp w) d a) (h : Sl (Pl (kP .u8)) 1 (hp w) g b) : (callFunc 112 [d, g].toArray).run pg0 w = .ok (.value (.int .i64 (xu a b))) w := Ou func112 (by kernel_rfl) (by kernel_rfl) (by kernel_rfl) (by kernel_rfl) h1 h
theorem A4 (a : Value) (g : List Int) (c : Value) (i : List Int) (r : Int) (w : World) (j : Sl (Pl (kP .u8)) 1 (hp w) a g) (k : Sl (Pl (kP .u8)) 1 (hp w) c i) (hm : vH g i = some r) :
  ke true pg0 79 [a, c] w (.int .i64 r) := by
 exact cG 8 func79 rfl (fun b => sg (Wa (lr (Wm (Wm (VE (LB (args := [a, c]) (v := .int .i64 (xu g i)) rfl (by exact uk rfl rfl) (Qp _ (j.mono (Pl.mono _) b.jy) (k.mono (Pl.mono _) b.jy)) (Wa (lt (rQ hm b))))))))))
theorem EI (a : Formula) (j : Value) (c : Formula) (k : Value) (r : Int) (w : World) (g : Sl jo 5 (hp w) j a.Kids) (i : Sl jo 5 (hp w) k c.Kids) (hm : rX a c = some r) :
  ke false pg0 173 [(.agg #[(.int .i64 a.Op), (.int .i64 a.K), (.string a.jl.jq), (.string a.jl.jv), j]), (.agg #[(.int .i64 c.Op), (.int .i64 c.K), (.string c.jl.jq), (.string c.jl.jv), k])] w (.int .i64 r) := by
 refine cG 10 func173 rfl (fun d => sg ?_)
 obtain ⟨x, z, rfl⟩ := g.form
 refine VE (kq d rfl (fun W4 q d => ?_))
 obtain ⟨y, B, rfl⟩ := i.form
 refine VE (kq d rfl (fun W8 s d => Wa (ln (jI ?_))))
 replace d := d.drew
 have h := d.has.js (Kb (Kb Sn))
 refine kN h ki (XH 0 rfl h (fun _ l => jt rfl (jA l (Mt Mh) (C1 a.Op a.K a.jl.jq a.jl.jv x a.Kids.length z) rfl bB aC)) (XH 2 rfl h (fun _ l => jt rfl (jA l Mh (C1 c.Op c.K c.jl.jq c.jl.jv y c.Kids.length B) rfl bB aC)) (bS hm fun K H hm => XE 1 rfl (vE d call178 (zN a (.slice x a.Kids.length z) _ _ (g.mono jD.mono d.jy) H) (fun Y N a4 T d t n D => ?_)))))
 have h := d.has.zB t (Dr (Kb (Kb Sn)))
 refine ⟨h, (bS hm fun M I hm => XE 3 rfl (vE d call178 (zN c (.slice y c.Kids.length B) _ _ (i.mono jD.mono (t.trans d.jy)) I) (fun Z Q a5 U d u p G => ?_)))⟩
 have h := d.has.zB (t.trans u) (Dr (Dr (Kb (Kb Sn))))
 refine ⟨h, (bS hm fun a3 J hm => XE 4 rfl (Eg d call79 (ke.lR (A4 N K Q M _ _ (D.sl (fun _ => rfl) (fun b o m => d.at_ (Ma (Ml m)))) (G.sl (fun _ => rfl) (fun b o m => d.at_ (Ml m))) J)) (fun a2 d => ?_)))⟩
 have h := d.has.zB (t.trans u) (Dr (Dr (Kb (Kb Sn))))
 refine ⟨h, (X 5 rfl h (ma rfl) (kM kr (jH ?_)))⟩
 exact kv (rQ hm d)
theorem BS (g : Value) (k r : List Formula) (w : World) {G : jN} (Y : nT G [] w) (u : Sl jo 5 G g k) (hm : uA k = some r) :
  lZ false pg0 163 [g] w G [] (fun v U μ1 => ∃ T I, v = T ∧ U = (I ++ []) ∧ kw 30 jo 5 μ1 T r I) := by
 refine vO Y 9 func163 rfl (fun b => sg (Wa (lr (Wm (bS hm fun Z Q hm => ?_)))))
 refine VE (eD b (bR _) call171 (fun h => lZ.lR (Bt g k _ _ h (u.mono jD.mono (jR.refl _)) Q)) ?_ (L0 := []))
 rintro _ v7 s L9 b y l ⟨i, H, a, rfl, B⟩
 obtain rfl := a.symm
 replace b := b.perm (Tr Tn)
 refine Wa (lr (Wm (bS hm fun a5 z hm => ?_)))
 refine VE (eD b (Cr Qz Cn) call172 (fun h => (xG i Z H (.func (.func 173) #[] #[]) (fun (x : (Formula × Formula)) => rX x.1 x.2) _ _ h B ⟨173, #[], #[], rfl, call173, fun W x vs r L m hm => by obtain ⟨_, _, rfl, M, N⟩ := m; obtain ⟨q, rfl, p⟩ := M.out; obtain ⟨t0, rfl, n⟩ := N.out; exact EI x.1 q x.2 t0 r W p n hm⟩ z)) ?_)
 rintro _ t E a3 b j d ⟨J, c, rfl, D⟩
 obtain rfl := c.symm
 replace b := b.perm (Tr Tn)
 refine lr (Wm (Wa (lt ?_)))
 obtain rfl := sj hm
 exact li (v := i) rfl rfl ⟨_, _, _, rfl, (b.mi (Kr Sn)), (y.trans j), (l.trans d), (ST.lf b (mS.mem (Kr Sn))), i, J, rfl, rfl, D⟩
end Go.Proofs.YtjjjihkifgdhgaaGreat
