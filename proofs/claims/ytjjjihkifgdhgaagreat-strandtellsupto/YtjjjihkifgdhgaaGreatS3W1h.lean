/- a part of a proof of StrandTells -/
import Derived.Test.YtjjjihkifgdhgaaGreatS3Mh
import Derived.Test.YtjjjihkifgdhgaaGreatProg
set_option linter.all false
namespace Go.Proofs.YtjjjihkifgdhgaaGreat
open Go.IntKind renaming wrap → wi0
open Go.Proofs.Tryz renaming prog → pg0
open Go.RowKit
set_option maxRecDepth 10000
open Tryz
def aC := @sizeOf30
def aD := @underlying28
def aH := @underlying42
def aN := @sizeOf49
def aO := @isAgg30
def aQ := @zeroValue30
def aS := @sizeOf27
def bA := @underlying30
def bG := @isAgg27
def bQ := @isAgg49
def bR := @isAgg3
def bV := @isAgg9
def bZ := @underlying9
def cK := @zeroValue49
def cT := @underlying59
def cU := @underlying89
def dn := @underlying112
def dr := @underlying27
def du := @sizeOf111
def dx := @underlying23
def dD := @underlying3
def dH := @isAgg28
def dP := @underlying49
def dS := @eqGuardType27
def dT := @sizeOf63
def dW := @sizeOf3
def dX := @underlying46
def dY := @isAgg42
def ee := @sizeOf82
def eo := @sizeOf42
def ep := @underlying87
def er := @underlying22
def et := @zeroValue27
def eJ := @zeroValue46
def eL := @sizeOf34
def eP := @zeroValue111
def eQ := @underlying43
def eS := @underlying111
def eT := @underlying135
def eU := @underlying131
def fh := @underlying31
def fi := @underlying5
def fk := @eqGuardType49
def fl := @underlying127
def fw := @sizeOf9
def fD := @zeroValue63
def fG := @underlying25
def fH := @zeroValue136
def fI := @isAgg34
def fJ := @underlying37
def fM := @underlying136
def fT := @sizeOf25
def fY := @underlying63
def fZ := @underlying34
def gh := @underlying168
def gi := @underlying166
def gj := @underlying100
def gp := @zeroValue4
def gx := @zeroValue42
def gE := @isAgg111
def gU := @isAgg131
def gV := @zeroValue82
def iq := @underlying61
def ir := @isAgg25
def iu := @underlying64
def iD := @sizeOf46
def iL := @sizeOf4
def iP := @underlying143
def iQ := @underlying186
def iW := @sizeOf61
def iZ := @zeroValue3
def ja := @isAgg63
def jb := @zeroValue5
def jc := @underlying84
def jj := @sizeOf59
def jk := @zeroValue31
def jl := @isAgg4
def jm := @zeroValue61
def jq := @isAgg82
abbrev K0 : jr := ⟨zS, zS⟩
abbrev K1 : ByteArray := ⟨#[120]⟩
abbrev K2 : ByteArray := ⟨#[121]⟩
abbrev K3 : ByteArray := ⟨#[99, 108, 105]⟩
abbrev K4 : ByteArray := ⟨#[111, 119, 110]⟩
abbrev K5 : kT := ⟨0, 0⟩
abbrev K6 : kG := ⟨0⟩
abbrev K7 : jr := ⟨K1, K2⟩
abbrev K9 : Formula := ⟨2, 0, K0, []⟩
abbrev KN : kL := ⟨K4, [], []⟩
abbrev Pm : js := ⟨0, K0, zS, K0, K0, zS⟩
abbrev xq : js := ⟨1, K7, K3, K0, K0, zS⟩
abbrev NW : Formula := ⟨1, 0, K7, []⟩
abbrev C1 (a b : Int) (d g : ByteArray) (h : Option Addr) (i j : Nat) : List Value := [(.int .i64 a), (.int .i64 b), (.string d), (.string g), (.slice h i j)]
abbrev C2 (y : ByteArray) (z : Option Addr) (E G : Nat) (I : Option Addr) (J L : Nat) (M : ByteArray) (O : Option Addr) (P a : Nat) (b : Option Addr) (d g : Nat) (h i : Int) (j k : ByteArray) (l : Option Addr) (m n : Nat) (p q r s t u : Int) (v : Option Addr) (w x : Nat) : List Value := [(.string y), (.slice z E G), (.slice I J L), (.string M), (.slice O P a), (.slice b d g), (.int .i64 h), (.int .i64 i), (.string j), (.string k), (.slice l m n), (.int .i64 p), (.int .i64 q), (.int .i64 r), (.int .i64 s), (.int .i64 t), (.int .i64 u), (.slice v w x)]
abbrev C3 : List Value := [(.int .i64 0), (.int .i64 0), (.string zS), (.string zS), (.slice none 0 0)]
abbrev C4 (m : Int) (n p q r s t u v : ByteArray) (w : Option Addr) (a b : Nat) (d g : Int) (h i : ByteArray) (j : Option Addr) (k l : Nat) : List Value := [(.int .i64 m), (.string n), (.string p), (.string q), (.string r), (.string s), (.string t), (.string u), (.string v), (.slice w a b), (.int .i64 d), (.int .i64 g), (.string h), (.string i), (.slice j k l)]
abbrev C5 (a : Option Addr) (b d : Nat) : List Value := [(.int .i64 1), (.string (K7.ju)), (.string (K7.jy)), (.string K3), (.string (K0.ju)), (.string (K0.jy)), (.string (K0.ju)), (.string (K0.jy)), (.string zS), (.slice a b d), (.int .i64 2), (.int .i64 0), (.string zS), (.string zS), (.slice none 0 0)]
abbrev C6 (a : Nat) : List Value := [(.string K4), (.slice none 0 0), (.slice none 0 0), (.string K3), (.slice (some ⟨a, 0, none⟩) 1 1), (.slice none 0 0), (.int .i64 1), (.int .i64 0), (.string (K7.ju)), (.string (K7.jy)), (.slice none 0 0), (.int .i64 0), (.int .i64 0), (.int .i64 0), (.int .i64 0), (.int .i64 0), (.int .i64 0), (.slice none 0 0)]
abbrev C7 (d : Int) (g h i j k l m n : ByteArray) (p : Option Addr) (a b : Nat) : List Value := [(.int .i64 d), (.string g), (.string h), (.string i), (.string j), (.string k), (.string l), (.string m), (.string n), (.slice p a b)]
abbrev C8 (d g : ByteArray) (h i : Int) (j k : ByteArray) (l : Option Addr) (m n : Nat) (p : Option Addr) (a b : Nat) : List Value := [(.string d), (.string g), (.int .i64 h), (.int .i64 i), (.string j), (.string k), (.slice l m n), (.slice p a b)]
abbrev C9 (a : ByteArray) (b : Option Addr) (d g : Nat) (h : Option Addr) (i j : Nat) : List Value := [(.string a), (.slice b d g), (.slice h i j)]
abbrev NY : List Value := [(.int .i64 0), (.string (K0.ju)), (.string (K0.jy)), (.string zS), (.string (K0.ju)), (.string (K0.jy)), (.string (K0.ju)), (.string (K0.jy)), (.string zS), (.slice none 0 0), (.int .i64 0), (.int .i64 0), (.string zS), (.string zS), (.slice none 0 0)]
abbrev GU (a : Int) : List Value := [(.int .i64 a), (.int .i64 0), (.string zS), (.string zS), (.slice none 0 0)]
abbrev Po : List Value := [(.string K4), (.slice none 0 0), (.slice none 0 0), (.string K3), (.slice none 0 0), (.slice none 0 0), (.int .i64 2), (.int .i64 0), (.string zS), (.string zS), (.slice none 0 0), (.int .i64 0), (.int .i64 0), (.int .i64 0), (.int .i64 0), (.int .i64 0), (.int .i64 0), (.slice none 0 0)]
abbrev Bk : List Value := [(.int .i64 2), (.int .i64 0), (.string zS), (.string zS), (.slice none 0 0)]
abbrev Ta (a : Int) (b : Option Addr) (d g : Nat) : List Value := [(.int .i64 a), (.int .i64 0), (.string zS), (.string zS), (.slice b d g)]
abbrev Tc (a : Int) (b : Option Addr) (d g : Nat) : List Value := [(.int .i64 4), (.int .i64 a), (.string zS), (.string zS), (.slice b d g)]
abbrev FA : List Value := [(.int .i64 3), (.int .i64 0), (.string zS), (.string zS), (.slice none 0 0)]
theorem kp : Tryz.prog.follows .mixedOrders = true := by rfl
theorem Su : Tryz.prog.info? 3 = some Tryz.t3 ∧ Tryz.t3.zero = some (.int .i64 0) ∧ Tryz.t3.size = 1 ∧ Tryz.t3.bytes = 8 := ⟨by kernel_rfl, by kernel_rfl, by kernel_rfl, by kernel_rfl⟩
theorem sL : Tryz.prog.info? 5 = some Tryz.t5 ∧ Tryz.t5.zero = some (.int .u8 0) ∧ Tryz.t5.size = 1 ∧ Tryz.t5.bytes = 1 := ⟨by kernel_rfl, by kernel_rfl, by kernel_rfl, by kernel_rfl⟩
theorem BJ : Tryz.prog.info? 9 = some Tryz.t9 ∧ Tryz.t9.zero = some (.string ⟨#[]⟩) ∧ Tryz.t9.size = 1 ∧ Tryz.t9.bytes = 16 := ⟨by kernel_rfl, by kernel_rfl, by kernel_rfl, by kernel_rfl⟩
theorem vQ : Tryz.prog.info? 27 = some Tryz.t27 ∧ Tryz.t27.zero = some (.agg #[(.string ⟨#[]⟩), (.string ⟨#[]⟩)]) ∧ Tryz.t27.size = 2 ∧ Tryz.t27.bytes = 32 := ⟨by kernel_rfl, by kernel_rfl, by kernel_rfl, by kernel_rfl⟩
theorem lL : Tryz.prog.info? 30 = some Tryz.t30 ∧ Tryz.t30.zero = some (.agg #[(.int .i64 0), (.int .i64 0), (.string ⟨#[]⟩), (.string ⟨#[]⟩), (.slice none 0 0)]) ∧ Tryz.t30.size = 5 ∧ Tryz.t30.bytes = 72 := ⟨by kernel_rfl, by kernel_rfl, by kernel_rfl, by kernel_rfl⟩
theorem Gw : Tryz.prog.info? 31 = some Tryz.t31 ∧ Tryz.t31.zero = some (.agg #[(.int .i64 0), (.int .i64 0)]) ∧ Tryz.t31.size = 2 ∧ Tryz.t31.bytes = 16 := ⟨by kernel_rfl, by kernel_rfl, by kernel_rfl, by kernel_rfl⟩
theorem Gx : Tryz.prog.info? 46 = some Tryz.t46 ∧ Tryz.t46.zero = some (.agg #[(.slice none 0 0), (.slice none 0 0)]) ∧ Tryz.t46.size = 2 ∧ Tryz.t46.bytes = 48 := ⟨by kernel_rfl, by kernel_rfl, by kernel_rfl, by kernel_rfl⟩
theorem lh : Tryz.prog.info? 49 = some Tryz.t49 ∧ Tryz.t49.zero = some (.agg #[(.int .i64 0), (.string ⟨#[]⟩), (.string ⟨#[]⟩), (.string ⟨#[]⟩), (.string ⟨#[]⟩), (.string ⟨#[]⟩), (.string ⟨#[]⟩), (.string ⟨#[]⟩), (.string ⟨#[]⟩)]) ∧ Tryz.t49.size = 9 ∧ Tryz.t49.bytes = 136 := ⟨by kernel_rfl, by kernel_rfl, by kernel_rfl, by kernel_rfl⟩
theorem GH : Tryz.prog.info? 82 = some Tryz.t82 ∧ Tryz.t82.zero = some (.agg #[(.string ⟨#[]⟩), (.string ⟨#[]⟩), (.int .i64 0), (.int .i64 0), (.string ⟨#[]⟩), (.string ⟨#[]⟩), (.slice none 0 0), (.slice none 0 0)]) ∧ Tryz.t82.size = 8 ∧ Tryz.t82.bytes = 128 := ⟨by kernel_rfl, by kernel_rfl, by kernel_rfl, by kernel_rfl⟩
theorem uo : Tryz.prog.info? 111 = some Tryz.t111 ∧ Tryz.t111.zero = some (.agg #[(.string ⟨#[]⟩), (.string ⟨#[]⟩), (.string ⟨#[]⟩)]) ∧ Tryz.t111.size = 3 ∧ Tryz.t111.bytes = 48 := ⟨by kernel_rfl, by kernel_rfl, by kernel_rfl, by kernel_rfl⟩
theorem pn : lH pg0 27 0 0 := kN dr rfl fw (by decide) rfl
theorem uw : lH pg0 27 1 1 := kN dr rfl fw (by decide) rfl
theorem OQ : (Tryz.prog.fieldsOf 27).toList = (match Tryz.prog.underlying 27 with | some (.struct fs) => fs.toList | _ => []) := by rw [dr]; simp [Program.fieldsOf, dr]
theorem pG (d : Nat) (x y : jr) (W : World) : (Op.equalIn (d + 2) 27 (.agg (jA x).toArray) (.agg (jA y).toArray)).run pg0 W = .ok (jQ x y) W := by
 rw [run_equalIn_struct W (d + 1) 27 _ _ (by kernel_rfl) Tryz.stoodInHeld27, OQ, dr]
 exact (rq (by decide) (pK bV rfl) (pK bV rfl) (Pn bZ _ _ _ _) (rq (by decide) (pK bV rfl) (pK bV rfl) (Pn bZ _ _ _ _) (Ed _ _ _)))
theorem Jj : ∀ fs, Tryz.prog.underlying 27 = some (.struct fs) → ∀ w, (fs.mapM (fun (f : Field) => do pure (f.offset, ← sizeOf f.type)) : Sem (Array (Nat × Nat))).run pg0 w = .ok #[(0, 1), (1, 1)] w := by
 intro fs h w
 rw [dr] at h
 cases h
 kernel_rfl
theorem qC : lH pg0 49 0 0 := kN dP rfl dW (by decide) rfl
theorem qN : lH pg0 49 1 1 := kN dP rfl aS (by decide) rfl
theorem wH : lH pg0 49 2 3 := kN dP rfl fw (by decide) rfl
theorem nz : lH pg0 49 3 4 := kN dP rfl aS (by decide) rfl
theorem sE : lH pg0 49 4 6 := kN dP rfl aS (by decide) rfl
theorem uv : lH pg0 49 5 8 := kN dP rfl fw (by decide) rfl
theorem Oe : (Tryz.prog.fieldsOf 49).toList = (match Tryz.prog.underlying 49 with | some (.struct fs) => fs.toList | _ => []) := by rw [dP]; simp [Program.fieldsOf, dP]
theorem wO (d : Nat) (x y : js) (W : World) : (Op.equalIn (d + 3) 49 (.agg (jw x).toArray) (.agg (jw y).toArray)).run pg0 W = .ok (lD x y) W := by
 rw [run_equalIn_struct W (d + 2) 49 _ _ (by kernel_rfl) Tryz.stoodInHeld49, Oe, dP]
 exact (rq (by decide) (pK bR rfl) (pK bR rfl) (Rs dD _ _ _ _) (rq (by decide) (zi bG aS rfl) (zi bG aS rfl) (pG _ x.Head y.Head W) (rq (by decide) (pK bV rfl) (pK bV rfl) (Pn bZ _ _ _ _) (rq (by decide) (zi bG aS rfl) (zi bG aS rfl) (pG _ x.B y.B W) (rq (by decide) (zi bG aS rfl) (zi bG aS rfl) (pG _ x.C y.C W) (rq (by decide) (pK bV rfl) (pK bV rfl) (Pn bZ _ _ _ _) (Ed _ _ _)))))))
theorem Q2 : ∀ fs, Tryz.prog.underlying 49 = some (.struct fs) → ∀ w, (fs.mapM (fun (f : Field) => do pure (f.offset, ← sizeOf f.type)) : Sem (Array (Nat × Nat))).run pg0 w = .ok #[(0, 1), (1, 2), (3, 1), (4, 2), (6, 2), (8, 1)] w := by
 intro fs h w
 rw [dP] at h
 cases h
 kernel_rfl
theorem P7 : Tryz.prog.cellsOf 3 = 1 := by kernel_rfl
theorem KA (d : Nat) (x y : kT) (W : World) : (Op.equalIn (d + 2) 31 (.agg (lP x).toArray) (.agg (lP y).toArray)).run pg0 W = .ok (Gq x y) W :=
 LV fh Su.1 P7 (EF (pK bR rfl) (pK bR rfl) (Rs dD _ _ _ _) (EF (pK bR rfl) (pK bR rfl) (Rs dD _ _ _ _) (Kw _ _ _ _ _)))
theorem xj : lH pg0 111 0 0 := kN eS rfl aS (by decide) rfl
theorem vY : lH pg0 111 1 2 := kN eS rfl fw (by decide) rfl
theorem MG : ∀ fs, Tryz.prog.underlying 111 = some (.struct fs) → ∀ w, (fs.mapM (fun (f : Field) => do pure (f.offset, ← sizeOf f.type)) : Sem (Array (Nat × Nat))).run pg0 w = .ok #[(0, 2), (2, 1)] w := by
 intro fs h w
 rw [eS] at h
 cases h
 kernel_rfl
theorem HM : lH pg0 143 0 0 := kN iP rfl iL (by decide) rfl
theorem SF : ∀ fs, Tryz.prog.underlying 143 = some (.struct fs) → ∀ w, (fs.mapM (fun (f : Field) => do pure (f.offset, ← sizeOf f.type)) : Sem (Array (Nat × Nat))).run pg0 w = .ok #[(0, 1)] w := by
 intro fs h w
 rw [iP] at h
 cases h
 kernel_rfl
theorem KJ : lH pg0 186 0 0 := kN iQ rfl sizeOf96 (by decide) rfl
theorem SR : ∀ fs, Tryz.prog.underlying 186 = some (.struct fs) → ∀ w, (fs.mapM (fun (f : Field) => do pure (f.offset, ← sizeOf f.type)) : Sem (Array (Nat × Nat))).run pg0 w = .ok #[(0, 1)] w := by
 intro fs h w
 rw [iQ] at h
 cases h
 kernel_rfl
theorem Bd : lH pg0 61 0 0 := kN iq rfl aN (by decide) rfl
theorem Q3 : lH pg0 61 1 9 := kN iq rfl jj (by decide) rfl
theorem TB : ∀ fs, Tryz.prog.underlying 61 = some (.struct fs) → ∀ w, (fs.mapM (fun (f : Field) => do pure (f.offset, ← sizeOf f.type)) : Sem (Array (Nat × Nat))).run pg0 w = .ok #[(0, 9), (9, 1)] w := by
 intro fs h w
 rw [iq] at h
 cases h
 kernel_rfl
theorem nn : lH pg0 30 0 0 := kN bA rfl dW (by decide) rfl
theorem rG : lH pg0 30 1 1 := kN bA rfl dW (by decide) rfl
theorem tQ : lH pg0 30 2 2 := kN bA rfl aS (by decide) rfl
theorem nm : lH pg0 30 3 4 := kN bA rfl sizeOf28 (by decide) rfl
theorem tq : ∀ fs, Tryz.prog.underlying 30 = some (.struct fs) → ∀ w, (fs.mapM (fun (f : Field) => do pure (f.offset, ← sizeOf f.type)) : Sem (Array (Nat × Nat))).run pg0 w = .ok #[(0, 1), (1, 1), (2, 2), (4, 1)] w := by
 intro fs h w
 rw [bA] at h
 cases h
 kernel_rfl
theorem AK : lH pg0 63 0 0 := kN fY rfl iW (by decide) rfl
theorem JR : lH pg0 63 1 10 := kN fY rfl aC (by decide) rfl
theorem Rw : ∀ fs, Tryz.prog.underlying 63 = some (.struct fs) → ∀ w, (fs.mapM (fun (f : Field) => do pure (f.offset, ← sizeOf f.type)) : Sem (Array (Nat × Nat))).run pg0 w = .ok #[(0, 10), (10, 5)] w := by
 intro fs h w
 rw [fY] at h
 cases h
 kernel_rfl
theorem N2 : lH pg0 82 0 0 := kN underlying82 rfl aS (by decide) rfl
theorem JL : lH pg0 82 1 2 := kN underlying82 rfl aC (by decide) rfl
theorem J3 : lH pg0 82 2 7 := kN underlying82 rfl eo (by decide) rfl
theorem Cp : lH pg0 25 0 0 := kN fG rfl fw (by decide) rfl
theorem AM : lH pg0 25 1 1 := kN fG rfl sizeOf22 (by decide) rfl
theorem Jx : lH pg0 25 2 2 := kN fG rfl sizeOf23 (by decide) rfl
theorem RO : ∀ fs, Tryz.prog.underlying 25 = some (.struct fs) → ∀ w, (fs.mapM (fun (f : Field) => do pure (f.offset, ← sizeOf f.type)) : Sem (Array (Nat × Nat))).run pg0 w = .ok #[(0, 1), (1, 1), (2, 1)] w := by
 intro fs h w
 rw [fG] at h
 cases h
 kernel_rfl
theorem RY : lH pg0 86 0 0 := kN underlying86 rfl fw (by decide) rfl
theorem RB : lH pg0 86 1 1 := kN underlying86 rfl jj (by decide) rfl
theorem El : lH pg0 34 0 0 := kN fZ rfl fT (by decide) rfl
theorem AN : lH pg0 34 1 3 := kN fZ rfl fT (by decide) rfl
theorem JQ : lH pg0 34 2 6 := kN fZ rfl aC (by decide) rfl
theorem RG : lH pg0 34 8 17 := kN fZ rfl sizeOf32 (by decide) rfl
theorem TD : ∀ fs, Tryz.prog.underlying 34 = some (.struct fs) → ∀ w, (fs.mapM (fun (f : Field) => do pure (f.offset, ← sizeOf f.type)) : Sem (Array (Nat × Nat))).run pg0 w = .ok #[(0, 3), (3, 3), (6, 5), (11, 1), (12, 2), (14, 1), (15, 1), (16, 1), (17, 1)] w := by
 intro fs h w
 rw [fZ] at h
 cases h
 kernel_rfl
theorem GG : lH pg0 46 0 0 := kN dX rfl eo (by decide) rfl
theorem Jp : lH pg0 46 1 1 := kN dX rfl eo (by decide) rfl
theorem JN : ∀ fs, Tryz.prog.underlying 46 = some (.struct fs) → ∀ w, (fs.mapM (fun (f : Field) => do pure (f.offset, ← sizeOf f.type)) : Sem (Array (Nat × Nat))).run pg0 w = .ok #[(0, 1), (1, 1)] w := by
 intro fs h w
 rw [dX] at h
 cases h
 kernel_rfl
theorem xk : lH pg0 135 0 0 := kN eT rfl sizeOf131 (by decide) rfl
theorem Hu : lH pg0 135 1 1 := kN eT rfl eo (by decide) rfl
theorem KX : lH pg0 135 2 2 := kN eT rfl sizeOf132 (by decide) rfl
theorem HH : lH pg0 135 3 3 := kN eT rfl sizeOf133 (by decide) rfl
theorem AG : lH pg0 135 4 4 := kN eT rfl sizeOf89 (by decide) rfl
theorem E7 : lH pg0 135 5 5 := kN eT rfl dW (by decide) rfl
theorem SV : ∀ fs, Tryz.prog.underlying 135 = some (.struct fs) → ∀ w, (fs.mapM (fun (f : Field) => do pure (f.offset, ← sizeOf f.type)) : Sem (Array (Nat × Nat))).run pg0 w = .ok #[(0, 1), (1, 1), (2, 1), (3, 1), (4, 1), (5, 1)] w := by
 intro fs h w
 rw [eT] at h
 cases h
 kernel_rfl
theorem zj : lH pg0 168 0 0 := kN gh rfl jj (by decide) rfl
theorem PI : ∀ fs, Tryz.prog.underlying 168 = some (.struct fs) → ∀ w, (fs.mapM (fun (f : Field) => do pure (f.offset, ← sizeOf f.type)) : Sem (Array (Nat × Nat))).run pg0 w = .ok #[(0, 1)] w := by
 intro fs h w
 rw [gh] at h
 cases h
 kernel_rfl
def tz : pF Signed := fun μ ys x => ∃ (v0 : Value), ys = [.int .i64 x.js.Kind, .string x.js.Head.ju, .string x.js.Head.jy, .string x.js.kE, .string x.js.B.ju, .string x.js.B.jy, .string x.js.C.ju, .string x.js.C.jy, .string x.js.kM, v0] ∧ Sl (Pl (lm .u8)) 1 μ v0 x.Tag
theorem tz.out {μ : jW} {ys : List Value} {x : Signed} (h : tz μ ys x) : ∃ (v0 : Value), ys = [.int .i64 x.js.Kind, .string x.js.Head.ju, .string x.js.Head.jy, .string x.js.kE, .string x.js.B.ju, .string x.js.B.jy, .string x.js.C.ju, .string x.js.C.jy, .string x.js.kM, v0] ∧ Sl (Pl (lm .u8)) 1 μ v0 x.Tag := h
theorem tz.mk {μ : jW} {ys : List Value} {x : Signed} (h : ∃ (v0 : Value), ys = [.int .i64 x.js.Kind, .string x.js.Head.ju, .string x.js.Head.jy, .string x.js.kE, .string x.js.B.ju, .string x.js.B.jy, .string x.js.C.ju, .string x.js.C.jy, .string x.js.kM, v0] ∧ Sl (Pl (lm .u8)) 1 μ v0 x.Tag) : tz μ ys x := h
theorem Az : Deep tz 10 where
 mono := by rintro _ _ _ _ b ⟨v0, rfl, a⟩; exact ⟨v0, rfl, a.mono (Pl.mono _) b⟩
 len := by rintro _ _ _ ⟨v0, rfl, a⟩; rfl
 one := by
  rintro _ _ _ ⟨v0, rfl, a⟩
  intro u hu; simp only [aP, cO, eZ] at hu; rcases hu with rfl | rfl | rfl | rfl | rfl | rfl | rfl | rfl | rfl | rfl
  ·rfl
  ·rfl
  ·rfl
  ·rfl
  ·rfl
  ·rfl
  ·rfl
  ·rfl
  ·rfl
  ·exact a.xc
def xI : Nat → pF Formula
 | 0 => fun _ _ _ => False
 | n + 1 => fun μ ys x => ∃ (v0 : Value), ys = [.int .i64 x.Op, .int .i64 x.K, .string x.jr.ju, .string x.jr.jy, v0] ∧ Sl (xI n) 5 μ v0 x.Kids
def jt : pF Formula := fun μ ys x => ∃ n, xI n μ ys x
theorem DZ : ∀ n, Gt (xI n)
 | 0 => fun _ _ _ _ _ h => h
 | n + 1 => by rintro _ _ _ _ b ⟨v0, rfl, a⟩; exact ⟨v0, rfl, a.mono (DZ n) b⟩
theorem GA : ∀ n m (μ : jW) (ys : List Value) (x : Formula), n ≤ m → xI n μ ys x → xI m μ ys x
 | 0, _, _, _, _, _, h => h.elim
 | n + 1, 0, _, _, _, a, _ => absurd a (by omega)
 | n + 1, m + 1, μ, ys, x, a, h => by
  obtain ⟨v0, rfl, b⟩ := h
  exact ⟨v0, rfl, b.imp fun ys x h => GA n m μ ys x (by omega) h⟩
theorem jt.out {μ : jW} {ys : List Value} {x : Formula} (h : jt μ ys x) : ∃ (v0 : Value), ys = [.int .i64 x.Op, .int .i64 x.K, .string x.jr.ju, .string x.jr.jy, v0] ∧ Sl jt 5 μ v0 x.Kids := by
 obtain ⟨n, h⟩ := h
 cases n with
 | zero => exact h.elim
 | succ n =>
  obtain ⟨v0, rfl, a⟩ := h
  exact ⟨v0, rfl, a.imp fun ys x h => ⟨n, h⟩⟩
theorem jt.mk {μ : jW} {ys : List Value} {x : Formula} (h : ∃ (v0 : Value), ys = [.int .i64 x.Op, .int .i64 x.K, .string x.jr.ju, .string x.jr.jy, v0] ∧ Sl jt 5 μ v0 x.Kids) : jt μ ys x := by
 obtain ⟨v0, rfl, d⟩ := h
 obtain ⟨n, i⟩ := d.SL (fun _ _ h => h) (fun a b ys x g h => GA a b _ ys x g h)
 exact ⟨n + 1, v0, rfl, i⟩
theorem jC : Deep jt 5 where
 mono := fun _ _ _ _ b ⟨n, h⟩ => ⟨n, DZ n _ _ _ _ b h⟩
 len := by rintro _ _ _ h; obtain ⟨v0, rfl, a⟩ := h.out; rfl
 one := by
  rintro _ _ _ h
  obtain ⟨v0, rfl, a⟩ := h.out
  intro u hu; simp only [aP, cO, eZ] at hu; rcases hu with rfl | rfl | rfl | rfl | rfl
  ·rfl
  ·rfl
  ·rfl
  ·rfl
  ·exact a.xc
def kz : pF kD := fun μ ys x => ∃ (v0 : Value) (v1 : Value), ys = [.int .i64 x.Signed.js.Kind, .string x.Signed.js.Head.ju, .string x.Signed.js.Head.jy, .string x.Signed.js.kE, .string x.Signed.js.B.ju, .string x.Signed.js.B.jy, .string x.Signed.js.C.ju, .string x.Signed.js.C.jy, .string x.Signed.js.kM, v0, .int .i64 x.jB.Op, .int .i64 x.jB.K, .string x.jB.jr.ju, .string x.jB.jr.jy, v1] ∧ Sl (Pl (lm .u8)) 1 μ v0 x.Signed.Tag ∧ Sl jt 5 μ v1 x.jB.Kids
theorem kz.out {μ : jW} {ys : List Value} {x : kD} (h : kz μ ys x) : ∃ (v0 : Value) (v1 : Value), ys = [.int .i64 x.Signed.js.Kind, .string x.Signed.js.Head.ju, .string x.Signed.js.Head.jy, .string x.Signed.js.kE, .string x.Signed.js.B.ju, .string x.Signed.js.B.jy, .string x.Signed.js.C.ju, .string x.Signed.js.C.jy, .string x.Signed.js.kM, v0, .int .i64 x.jB.Op, .int .i64 x.jB.K, .string x.jB.jr.ju, .string x.jB.jr.jy, v1] ∧ Sl (Pl (lm .u8)) 1 μ v0 x.Signed.Tag ∧ Sl jt 5 μ v1 x.jB.Kids := h
theorem kz.mk {μ : jW} {ys : List Value} {x : kD} (h : ∃ (v0 : Value) (v1 : Value), ys = [.int .i64 x.Signed.js.Kind, .string x.Signed.js.Head.ju, .string x.Signed.js.Head.jy, .string x.Signed.js.kE, .string x.Signed.js.B.ju, .string x.Signed.js.B.jy, .string x.Signed.js.C.ju, .string x.Signed.js.C.jy, .string x.Signed.js.kM, v0, .int .i64 x.jB.Op, .int .i64 x.jB.K, .string x.jB.jr.ju, .string x.jB.jr.jy, v1] ∧ Sl (Pl (lm .u8)) 1 μ v0 x.Signed.Tag ∧ Sl jt 5 μ v1 x.jB.Kids) : kz μ ys x := h
theorem kC : Deep kz 15 where
 mono := by rintro _ _ _ _ b ⟨v0, v1, rfl, a, h1⟩; exact ⟨v0, v1, rfl, a.mono (Pl.mono _) b, h1.mono jC.mono b⟩
 len := by rintro _ _ _ ⟨v0, v1, rfl, a, h1⟩; rfl
 one := by
  rintro _ _ _ ⟨v0, v1, rfl, a, h1⟩
  intro u hu; simp only [aP, cO, eZ] at hu; rcases hu with rfl | rfl | rfl | rfl | rfl | rfl | rfl | rfl | rfl | rfl | rfl | rfl | rfl | rfl | rfl
  ·rfl
  ·rfl
  ·rfl
  ·rfl
  ·rfl
  ·rfl
  ·rfl
  ·rfl
  ·rfl
  ·exact a.xc
  ·rfl
  ·rfl
  ·rfl
  ·rfl
  ·exact h1.xc
def lF : pF nF := fun μ ys x => ∃ (v0 : Value) (v1 : Value), ys = [.string x.jr.ju, .string x.jr.jy, .int .i64 x.jB.Op, .int .i64 x.jB.K, .string x.jB.jr.ju, .string x.jB.jr.jy, v0, v1] ∧ Sl jt 5 μ v0 x.jB.Kids ∧ Sl (Pl jw) 9 μ v1 x.mu
theorem lF.out {μ : jW} {ys : List Value} {x : nF} (h : lF μ ys x) : ∃ (v0 : Value) (v1 : Value), ys = [.string x.jr.ju, .string x.jr.jy, .int .i64 x.jB.Op, .int .i64 x.jB.K, .string x.jB.jr.ju, .string x.jB.jr.jy, v0, v1] ∧ Sl jt 5 μ v0 x.jB.Kids ∧ Sl (Pl jw) 9 μ v1 x.mu := h
theorem lF.mk {μ : jW} {ys : List Value} {x : nF} (h : ∃ (v0 : Value) (v1 : Value), ys = [.string x.jr.ju, .string x.jr.jy, .int .i64 x.jB.Op, .int .i64 x.jB.K, .string x.jB.jr.ju, .string x.jB.jr.jy, v0, v1] ∧ Sl jt 5 μ v0 x.jB.Kids ∧ Sl (Pl jw) 9 μ v1 x.mu) : lF μ ys x := h
theorem mI : Deep lF 8 where
 mono := by rintro _ _ _ _ b ⟨v0, v1, rfl, a, h1⟩; exact ⟨v0, v1, rfl, a.mono jC.mono b, h1.mono (Pl.mono _) b⟩
 len := by rintro _ _ _ ⟨v0, v1, rfl, a, h1⟩; rfl
 one := by
  rintro _ _ _ ⟨v0, v1, rfl, a, h1⟩
  intro u hu; simp only [aP, cO, eZ] at hu; rcases hu with rfl | rfl | rfl | rfl | rfl | rfl | rfl | rfl
  ·rfl
  ·rfl
  ·rfl
  ·rfl
  ·rfl
  ·rfl
  ·exact a.xc
  ·exact h1.xc
def qt : pF Key := fun μ ys x => ∃ (v0 : Value), ys = [.string x.kE, v0] ∧ Sl (Pl (lm .u8)) 1 μ v0 x.Key
theorem qt.out {μ : jW} {ys : List Value} {x : Key} (h : qt μ ys x) : ∃ (v0 : Value), ys = [.string x.kE, v0] ∧ Sl (Pl (lm .u8)) 1 μ v0 x.Key := h
theorem qt.mk {μ : jW} {ys : List Value} {x : Key} (h : ∃ (v0 : Value), ys = [.string x.kE, v0] ∧ Sl (Pl (lm .u8)) 1 μ v0 x.Key) : qt μ ys x := h
theorem yg : Deep qt 2 where
 mono := by rintro _ _ _ _ b ⟨v0, rfl, a⟩; exact ⟨v0, rfl, a.mono (Pl.mono _) b⟩
 len := by rintro _ _ _ ⟨v0, rfl, a⟩; rfl
 one := by
  rintro _ _ _ ⟨v0, rfl, a⟩
  intro u hu; simp only [aP, cO, eZ] at hu; rcases hu with rfl | rfl
  ·rfl
  ·exact a.xc
def nW : pF nw := fun μ ys x => ∃ (v0 : Value) (v1 : Value), ys = [v0, v1] ∧ Sl (Pl jw) 9 μ v0 x.A ∧ Sl (Pl jw) 9 μ v1 x.B
theorem nW.out {μ : jW} {ys : List Value} {x : nw} (h : nW μ ys x) : ∃ (v0 : Value) (v1 : Value), ys = [v0, v1] ∧ Sl (Pl jw) 9 μ v0 x.A ∧ Sl (Pl jw) 9 μ v1 x.B := h
theorem nW.mk {μ : jW} {ys : List Value} {x : nw} (h : ∃ (v0 : Value) (v1 : Value), ys = [v0, v1] ∧ Sl (Pl jw) 9 μ v0 x.A ∧ Sl (Pl jw) 9 μ v1 x.B) : nW μ ys x := h
theorem uP : Deep nW 2 where
 mono := by rintro _ _ _ _ b ⟨v0, v1, rfl, a, h1⟩; exact ⟨v0, v1, rfl, a.mono (Pl.mono _) b, h1.mono (Pl.mono _) b⟩
 len := by rintro _ _ _ ⟨v0, v1, rfl, a, h1⟩; rfl
 one := by
  rintro _ _ _ ⟨v0, v1, rfl, a, h1⟩
  intro u hu; simp only [aP, cO, eZ] at hu; rcases hu with rfl | rfl
  ·exact a.xc
  ·exact h1.xc
def oW : pF kF := fun μ ys x => ∃ (v0 : Value) (v1 : Value), ys = [v0, v1] ∧ Sl (Pl jw) 9 μ v0 x.nT ∧ Sl (Pl jw) 9 μ v1 x.nD
theorem oW.out {μ : jW} {ys : List Value} {x : kF} (h : oW μ ys x) : ∃ (v0 : Value) (v1 : Value), ys = [v0, v1] ∧ Sl (Pl jw) 9 μ v0 x.nT ∧ Sl (Pl jw) 9 μ v1 x.nD := h
theorem oW.mk {μ : jW} {ys : List Value} {x : kF} (h : ∃ (v0 : Value) (v1 : Value), ys = [v0, v1] ∧ Sl (Pl jw) 9 μ v0 x.nT ∧ Sl (Pl jw) 9 μ v1 x.nD) : oW μ ys x := h
theorem It : Deep oW 2 where
 mono := by rintro _ _ _ _ b ⟨v0, v1, rfl, a, h1⟩; exact ⟨v0, v1, rfl, a.mono (Pl.mono _) b, h1.mono (Pl.mono _) b⟩
 len := by rintro _ _ _ ⟨v0, v1, rfl, a, h1⟩; rfl
 one := by
  rintro _ _ _ ⟨v0, v1, rfl, a, h1⟩
  intro u hu; simp only [aP, cO, eZ] at hu; rcases hu with rfl | rfl
  ·exact a.xc
  ·exact h1.xc
theorem GM : pC pg0 9 Value.string kU := pC.string bZ
theorem Ai : pC pg0 27 (fun (x : jr) => (.agg (jA x).toArray)) jQ :=
 pC.struct dr (fun d x y W => pG (d + 8) x y W) (fun b k W => GS dr rfl (gT.2 ⟨fun _ => ⟨.string k.ju, pK bV rfl, yM bZ _ _ _ _⟩, (gT.2 ⟨fun _ => ⟨.string k.jy, pK bV rfl, yM bZ _ _ _ _⟩, (fun _ h => by cases h)⟩)⟩))
  (fun k x h => (jR.1 h).symm) (fun k => by simp [Instr.sameBits, jA, D4, mg])
theorem QI (w : World) (s : ByteArray) (c : Int) : (callFunc 153 [Value.string s, .int .u8 c].toArray).run pg0 w = .ok (.value (.int .i64 (xl s c))) w := Hj func153 (by kernel_rfl) (by kernel_rfl) (by kernel_rfl) (by kernel_rfl) s c w
theorem yh (a : ByteArray) (c r : Int) (w : World) (hm : oB a c = some r) :
  jZ true pg0 135 [(.string a), (.int .u8 c)] w (.int .i64 r) := by
 exact cG 8 func135 rfl (fun b => sg (Wa (lr (Wm (Wm (VE (Mm (args := [(.string a), (.int .u8 c)]) (v := .int .i64 (xl a c)) rfl (by exact uW rfl rfl) (QI _ a c) (Wa (lt (rQ hm b))))))))))
theorem yZ (a : ByteArray) (c r : Int) (w : World) (hm : rI a c = some r) :
  jZ true pg0 98 [(.string a), (.int .u8 c)] w (.int .i64 r) := by
 refine cG 8 func98 rfl (fun b => sg (Wa (lr (Wm (Wm (bS hm fun j g hm => VE (Eg b call135 (yh a c _ _  g) (fun i b => Wa (ln ?_)))))))))
 exact ke (rQ hm b)
theorem Ky (I : ByteArray) (r : Bool) (w : World) (hm : BL I = some r) :
  jZ true pg0 99 [(.string I)] w (.bool r) := by
 refine cG 16 func99 rfl (fun b => sg (Wa (lS (Wm (bS hm fun H J hm => VE (Io b bZ cT fi rfl J (fun W3 N T b M n j Y => V (kK cT rfl j) (Wm (jT ?_)))))))))
 refine jH (kA (fun i E W => ∃ c, (E 8 = .int .i64 (i : Nat) ∧ E 7 = .int .i64 (H.length : Nat)) ∧ ST true kw w W T c ∧ E 6 = N ∧ vl (H.drop i) = some r) H.length j.len ⟨_, ⟨rfl, rfl⟩, (b.jv St), rfl, hm⟩ dc dc dc (fun _ _ _ h => by obtain ⟨_, l, _⟩ := h; exact l) ?_ ?_)
 ·rintro K E W u ⟨c, ⟨d, m⟩, b, g, a⟩
  obtain ⟨k, Q, D, B, G⟩ := ku u
  rw [D] at a
  refine bg (VQ (mZ (enc := (lm .u8)) (i := (K : Int)) (x0 := k) cT sizeOf5 g d j (aG _) B) (fun Z x => V (jx rfl (ni b.has (y := (.int .u8 k)) x isAgg5)) (Wa (lr (Wm (bS a fun p z a => VE (Eg b call98 (yZ (⟨#[97, 98, 99, 100, 101, 102, 103, 104, 105, 106, 107, 108, 109, 110, 111, 112, 113, 114, 115, 116, 117, 118, 119, 120, 121, 122, 48, 49, 50, 51, 52, 53, 54, 55, 56, 57, 45]⟩ : ByteArray) k _ _  z) (fun U b => Wi rfl (jT ?_)))))))))
  refine jH (CI a rfl (fun t a => ?_) (fun t a => ?_))
  ·refine sg (Wa (lt (mc (ki (mc (ki ?_))))))
   obtain rfl := sj a
   exact rP b
  exact kQ (kl (jH ⟨d, _, ⟨rfl, m⟩, (b.jv St), g, (by rw [G]; exact a)⟩))
 rintro E W ⟨c, ⟨d, m⟩, b, g, a⟩
 rw [aM] at a
 exact jH (sg (Wa (lt (rQ a b))))
theorem wA (z : ByteArray) (r : Bool) (w : World) (hm : sD z = some r) :
  jZ true pg0 75 [(.string z)] w (.bool r) := by
 refine cG 21 func75 rfl (fun b => sg (Wa (lr (Wm (V (oA bZ rfl) (Wi rfl (Wm (LJ hm (fun K E W => ∃ Y, ST true kw w W (hp w) Y ∧ E 0 = (.string z) ∧ E 2 = (.bool false) ∧ E 10 = (.bool K)) 4 ?_ (fun K t y => ?_)))))))))
 ·rintro x2 E W ⟨Y, b, M, d, l⟩ a5
  refine Wh l (LJ a5 (fun J E W => ∃ D, ST true kw w W (hp w) D ∧ E 0 = (.string z) ∧ E 2 = (.bool false) ∧ E 16 = (.bool J)) 5 ?_ (fun J a x => ?_))
  ·rintro s E W ⟨D, b, h, H, a2⟩ N
   refine Wh a2 (LJ N (fun I E W => ∃ G, ST true kw w W (hp w) G ∧ E 2 = (.bool false) ∧ E 20 = (.bool I)) 3 ?_ (fun I j u => ?_))
   ·rintro v E W ⟨G, b, a9, a3⟩ Q
    exact Wg a3 (lt (rQ Q b))
   refine bC j (fun g j => ?_) (fun g j => ?_)
   ·refine ug g (jz h) (bS j fun p T j => tM g (Eg b call99 (Ky z _ _  T) (fun m b => V (jO (cB g) rfl) ?_)))
    obtain rfl := sj j
    exact u _ _ ⟨_, (b.jv St), H, rfl⟩
   refine un g (un g (V (jP (cB g) rfl) ?_))
   obtain rfl := sj j
   exact u _ _ ⟨_, (b.jv St), H, rfl⟩
  refine bC a (fun c a => ?_) (fun c a => ?_)
  ·refine ug c (jz M) (bS a fun Z B a => ug c (Ax (i := 0) bZ rfl rfl (zB B) (Df B)) (bS a fun q U a => tM c (Eg b call98 (yZ (⟨#[97, 98, 99, 100, 101, 102, 103, 104, 105, 106, 107, 108, 109, 110, 111, 112, 113, 114, 115, 116, 117, 118, 119, 120, 121, 122]⟩ : ByteArray) (Z.toNat : Int) _ _  U) (fun n b => ug c (kh rfl rfl rfl) (V (jO (cB c) rfl) ?_)))))
   obtain rfl := sj a
   exact x _ _ ⟨_, (b.jv St), M, d, rfl⟩
  refine un c (un c (un c (un c (V (jP (cB c) rfl) ?_))))
  obtain rfl := sj a
  exact x _ _ ⟨_, (b.jv St), M, d, rfl⟩
 refine bC t (fun k t => ?_) (fun k t => ?_)
 ·refine ug k (jz rfl) (ug k (oA bZ rfl) (ug k (kh rfl rfl rfl) (V (jO (cB k) rfl) ?_)))
  obtain rfl := sj t
  exact y _ _ ⟨_, (b.jv St), rfl, rfl, rfl⟩
 refine un k (un k (un k (V (jP (cB k) rfl) ?_)))
 obtain rfl := sj t
 exact y _ _ ⟨_, (b.jv St), rfl, rfl, rfl⟩
theorem tX (i : jr) (r : Bool) (w : World) (hm : qa i = some r) :
  jZ true pg0 74 [(.agg (jA i).toArray)] w (.bool r) := by
 refine cG 11 func74 rfl (fun b => sg (VE (kv b rfl (fun H J b => Wa (lr (Wf pn (VB b Mh rfl rfl bV (bS hm fun K y hm => VE (Eg b call75 (wA i.ju _ _  y) (fun I b => Wm (LJ hm (fun k E W => ∃ j, ST true kw w W (hp w) j ∧ E 2 = (.bool false) ∧ E 10 = (.bool k)) 4 ?_ (fun k a g => ?_))))))))))))
 ·rintro G E W ⟨j, b, B, x⟩ t
  exact Wg x (lt (rQ t b))
 refine bC a (fun c a => ?_) (fun c a => ?_)
 ·refine ug c (jE uw rfl) (ug c (jx rfl (jJ b.has Mh rfl bV)) (bS a fun D u a => tM c (Eg b call75 (wA i.jy _ _  u) (fun z b => V (jO (cB c) rfl) ?_))))
  obtain rfl := sj a
  exact g _ _ ⟨_, (b.jv (Db St)), rfl, rfl⟩
 refine un c (un c (un c (V (jP (cB c) rfl) ?_)))
 obtain rfl := sj a
 exact g _ _ ⟨_, (b.jv (Db St)), rfl, rfl⟩
theorem Q4 (w : World) (a b : ByteArray) : (callFunc 154 [Value.string a, .string b].toArray).run pg0 w = .ok (.value (.int .i64 (ph a b))) w := N3 func154 (by kernel_rfl) (by kernel_rfl) (by kernel_rfl) (by kernel_rfl) a b w
theorem ya (a c : ByteArray) (r : Int) (w : World) (hm : ns a c = some r) :
  jZ true pg0 136 [(.string a), (.string c)] w (.int .i64 r) := by
 exact cG 8 func136 rfl (fun b => sg (Wa (lr (Wm (Wm (VE (Mm (args := [(.string a), (.string c)]) (v := .int .i64 (ph a c)) rfl (by exact uW rfl rfl) (Q4 _ a c) (Wa (lt (rQ hm b))))))))))
theorem An (a c : ByteArray) (r : Int) (w : World) (hm : pH a c = some r) :
  jZ true pg0 101 [(.string a), (.string c)] w (.int .i64 r) := by
 refine cG 8 func101 rfl (fun b => sg (Wa (lr (Wm (Wm (bS hm fun j g hm => VE (Eg b call136 (ya a c _ _  g) (fun i b => Wa (ln ?_)))))))))
 exact ke (rQ hm b)
theorem JX (g : Value) (t : List Int) (r : Int) (w : World) (c : Sl (Pl (lm .i64)) 1 (hp w) g t) (hm : uZ t = some r) :
  jZ true pg0 100 [g] w (.int .i64 r) := by
 refine cG 18 func100 rfl (fun b => sg (Wa (lr (Wa (lS (Wm ?_))))))
 refine V (kK underlying187 rfl c) (Wm (ln (kA (fun i E W => ∃ k, (E 8 = .int .i64 (i : Nat) ∧ E 7 = .int .i64 (t.length : Nat)) ∧ ST true kw w W (hp w) k ∧ E 3 = (.int .i64 0) ∧ E 6 = g ∧ sJ (t.drop i) = some r) t.length c.len ⟨_, ⟨rfl, rfl⟩, (b.jv St), rfl, rfl, hm⟩ dc dc dc (fun _ _ _ h => by obtain ⟨_, l, _⟩ := h; exact l) ?_ ?_)))
 ·rintro J E W B ⟨k, ⟨d, m⟩, b, j, u, a⟩
  obtain ⟨x, K, H, G, I⟩ := ku B
  rw [H] at a
  refine bg (VQ (mZ (enc := (lm .i64)) (i := (J : Int)) (x0 := x) underlying187 dW u d c (aG _) G) (fun M D => V (jx rfl (ni b.has (y := (.int .i64 x)) D bR)) (Wa (lr (Wm (Wh j (Wi rfl (ln ?_))))))))
  refine CI a rfl (fun z a => ?_) (fun z a => ?_)
  ·refine sg (Wm (Wa (lt (mc (ki (mc (ki ?_)))))))
   obtain rfl := sj a
   exact rP b
  exact kQ (kl (jH ⟨d, _, ⟨rfl, m⟩, (b.jv St), j, u, (by rw [I]; exact a)⟩))
 rintro E W ⟨k, ⟨d, m⟩, b, j, u, a⟩
 rw [aM] at a
 exact jH (sg (Wh j (Wa (lt (rQ a b)))))
theorem Hl (g i : jr) (r : Int) (w : World) (hm : rV g i = some r) :
  jZ true pg0 76 [(.agg (jA g).toArray), (.agg (jA i).toArray)] w (.int .i64 r) := by
 refine cG 17 func76 rfl (fun b => sg (VE (kv b rfl (fun G I b => VE (kv b rfl (fun H J b => Wa (ln (jL ?_))))))))
 replace b := b.drew
 have d := b.has.jv (Kb (Kb Sn))
 refine kO d kp (X 0 rfl d (jE pn rfl) (XH 1 rfl d (fun _ h => jx rfl (jJ h (Mt Mh) rfl bV)) (X 2 rfl d (jE pn rfl) (XH 3 rfl d (fun _ h => jx rfl (jJ h Mh rfl bV)) (X 5 rfl d (jE uw rfl) (XH 6 rfl d (fun _ h => jx rfl (jJ h (Mt Mh) rfl bV)) (X 7 rfl d (jE uw rfl) (XH 8 rfl d (fun _ h => jx rfl (jJ h Mh rfl bV)) (bS hm fun a j hm => XE 4 rfl (Eg b call101 (An g.ju i.ju _ _  j) (fun x b => ?_)))))))))))
 have d := b.has.jv (Kb (Kb Sn))
 refine ⟨d, (bS hm fun c k hm => XE 9 rfl (Eg b call101 (An g.jy i.jy _ _  k) (fun y b => ?_)))⟩
 have d := b.has.jv (Kb (Kb Sn))
 refine ⟨d, (XE 10 rfl (jY (cs := #[(.int .i64 a), (.int .i64 c)]) b (ov rfl rfl) (mf underlying187 dW iZ) (fun z u b => ?_)))⟩
 have d := b.has.jv (Db (Kb (Kb Sn)))
 refine ⟨d, (bS hm fun D t hm => XE 11 rfl (Eg b call100 (JX (.slice (some ⟨u, 0, none⟩) 2 2) ([a, c]) _ _ (Sl.lit (enc := (lm .i64)) (l := [a, c]) (fun _ => rfl) rfl nb rfl (b.at_ Mh)) t) (fun B b => ?_)))⟩
 have d := b.has.jv (Db (Kb (Kb Sn)))
 refine ⟨d, (X 12 rfl d (mw rfl) (kP kr (jH ?_)))⟩
 exact ke (rQ hm b)
set_option maxHeartbeats 4000000 in
theorem yU (a : js) (r : Bool) (w : World) (hm : tW a = some r) :
  jZ true pg0 47 [(.agg (jw a).toArray)] w (.bool r) := by
 let m9 := (⟨a.Kind, a.Head, zS, a.B, a.C, zS⟩ : js)
 let j2 := (⟨a.Kind, a.Head, zS, a.B, K0, a.kM⟩ : js)
 let j1 : Value := (.agg (jA a.B).toArray)
 let g6 := ((jw (⟨a.Kind, a.Head, zS, a.B, K0, zS⟩ : js)).toArray)
 let p := (⟨a.Kind, a.Head, zS, K0, K0, zS⟩ : js)
 refine cG 98 func47 rfl (fun b => sg (VE (kv b rfl (fun W2 N b => Wa (lr (Wf qC (VB b Mh rfl rfl bR (Wf qN (VA b Mh (jA a.Head) bG aS (V (lf (v := (.agg (jw p).toArray)) (ov rfl rfl) (kH cK dP (Q2 _ dP) kr)) (VE (jU b cK (fun W4 B b => ?_)))))))))))))
 refine VO (jK (.agg (jw p).toArray) ((jw p).toArray) b rfl rfl aN (mH p) nb rfl (fun W5 b => lr (Wf qN (VA b (Mt Mh) (jA a.Head) bG aS (bS hm fun n j4 hm => VE (Eg b call74 (tX a.Head _ _  j4) (fun W8 b => Wa (ln (jL (RH hm (fun L E W => ∃ b6, ST true kw w W (hp w) ((B, Ol (jw L.2) 49) :: ((N, Ol (jw a) 49) :: b6)) ∧ E 1 = (.pointer (some ⟨N, 0, none⟩)) ∧ E 3 = (.pointer (some ⟨B, 0, none⟩)) ∧ E 4 = (.bool L.1)) (fun L g Z => ?_) ?_))))))))))
 ·let g5 := ((jw m9).toArray : Array Value)
  let b8 := ((jw j2).toArray : Array Value)
  let m : Value := (.pointer (some ⟨B, 0, none⟩))
  let l : Value := (.pointer (some ⟨N, 0, none⟩))
  let a0 := ((jw a).toArray : Array Value)
  refine sg (Wf qC (VB b (Mt Mh) rfl rfl bR (ln (bg (Wi rfl (Wa (ln (CI g rfl (fun e5 g => ?_) (fun e5 g => ?_)))))))))
  ·replace b := b.drew
   have d := b.has.jv (Db (Kb Sn))
   refine kO d kp (X 0 rfl d (jE wH rfl) (XH 1 rfl d (fun _ h => jx rfl (jJ h Mh rfl bV)) (X 2 rfl d (jz rfl) (X 3 rfl d (jz rfl) (X 8 rfl d (jE wH rfl) (PJ g (fun d6 E W => ∃ b9, ST true kw w W (hp w) ((B, Ol (jw p) 49) :: ((N, Obj.cells a0 49 (0, 0)) :: b9)) ∧ E 1 = l ∧ E 3 = m ∧ E 4 = (.bool n) ∧ E 18 = (.string a.kE) ∧ E 24 = (.bool d6) ∧ E 25 = (.pointer (some ⟨B, 3, none⟩))) (bm 11 511) 2 ?_ (fun d6 D a2 => ?_)))))))
   ·rintro m1 E W ⟨b9, b, h2, h3, k8, h4, h5, h6⟩ f1
    refine XO 9 rfl (jK (.string a.kE) ((jw (⟨a.Kind, a.Head, a.kE, K0, K0, zS⟩ : js)).toArray) b h6 h4 fw (Ms a.kE) nb rfl (fun j5 b => ?_))
    have d := b.has.jv (Db (Kb Sn))
    refine ⟨d, (X 10 rfl d (mw h5) (kP kr (kl (jH ?_))))⟩
    obtain rfl := sj f1
    exact ⟨_, rfl, _, (b.jv St), h2, h3, rfl⟩
   refine bC D (fun k D => ?_) (fun k D => ?_)
   ·refine Xg 4 rfl rfl (cB k) d (jE wH rfl) (sZ 5 rfl rfl (cB k) d (fun _ h => jx rfl (jJ h Mh rfl bV)) (bS D fun l2 f9 D => BG 6 rfl rfl (cB k) (Eg b call75 (wA a.kE _ _  f9) (fun j6 b => ?_))))
    have d := b.has.jv (Db (Kb Sn))
    refine ⟨d, (X 7 rfl d (jO (cB k) rfl) ?_)⟩
    obtain rfl := sj D
    refine ml kr (a2 _ _ ⟨_, (b.jv St), rfl, rfl, rfl, rfl, rfl, rfl⟩)
   refine Xn 4 rfl rfl (cB k) d (Xn 5 rfl rfl (cB k) d (Xn 6 rfl rfl (cB k) d (X 7 rfl d (jP (cB k) rfl) ?_)))
   obtain rfl := sj D
   refine ml kr (a2 _ _ ⟨_, (b.jv St), rfl, rfl, rfl, rfl, rfl, rfl⟩)
  refine sg (Wi rfl (Wa (ln (CI g rfl (fun e6 g => ?_) (fun e6 g => ?_)))))
  ·replace b := b.drew
   have d := b.has.jv (Db (Kb Sn))
   refine kO d kp (X 0 rfl d (jE nz rfl) (XH 1 rfl d (fun _ h => jx rfl (jD h Mh (jA a.B) rfl bG aS)) (X 2 rfl d (jz rfl) (X 3 rfl d (jz rfl) (X 8 rfl d (jE nz rfl) (PJ g (fun d7 E W => ∃ c0, ST true kw w W (hp w) ((B, Ol (jw p) 49) :: ((N, Obj.cells a0 49 (0, 0)) :: c0)) ∧ E 1 = l ∧ E 3 = m ∧ E 4 = (.bool n) ∧ E 29 = j1 ∧ E 35 = (.bool d7) ∧ E 36 = (.pointer (some ⟨B, 4, none⟩))) (bm 11 511) 2 ?_ (fun d7 G a3 => ?_)))))))
   ·rintro m2 E W ⟨c0, b, h7, h8, k9, h9, i0, i1⟩ f2
    refine XO 9 rfl (jK j1 g6 b i1 h9 aS (vZ a.B) nb rfl (fun j7 b => ?_))
    have d := b.has.jv (Db (Kb Sn))
    refine ⟨d, (X 10 rfl d (mw i0) (kP kr (kl (jH ?_))))⟩
    obtain rfl := sj f2
    exact ⟨_, rfl, _, (b.jv St), h7, h8, rfl⟩
   refine bC G (fun t G => ?_) (fun t G => ?_)
   ·refine Xg 4 rfl rfl (cB t) d (jE nz rfl) (sZ 5 rfl rfl (cB t) d (fun _ h => jx rfl (jD h Mh (jA a.B) rfl bG aS)) (bS G fun l3 g0 G => BG 6 rfl rfl (cB t) (Eg b call74 (tX a.B _ _  g0) (fun j8 b => ?_))))
    have d := b.has.jv (Db (Kb Sn))
    refine ⟨d, (X 7 rfl d (jO (cB t) rfl) ?_)⟩
    obtain rfl := sj G
    refine ml kr (a3 _ _ ⟨_, (b.jv St), rfl, rfl, rfl, rfl, rfl, rfl⟩)
   refine Xn 4 rfl rfl (cB t) d (Xn 5 rfl rfl (cB t) d (Xn 6 rfl rfl (cB t) d (X 7 rfl d (jP (cB t) rfl) ?_)))
   obtain rfl := sj G
   refine ml kr (a3 _ _ ⟨_, (b.jv St), rfl, rfl, rfl, rfl, rfl, rfl⟩)
  refine sg (Wi rfl (Wa (ln (CI g rfl (fun e7 g => ?_) (fun e7 g => ?_)))))
  ·refine jL ?_
   replace b := b.drew
   have d := b.has.jv (Db (Kb Sn))
   refine kO d kp (X 0 rfl d (jE nz rfl) (XH 1 rfl d (fun _ h => jx rfl (jD h Mh (jA a.B) rfl bG aS)) (X 2 rfl d (jE uv rfl) (XH 3 rfl d (fun _ h => jx rfl (jJ h Mh rfl bV)) (X 4 rfl d (jE nz rfl) (XO 5 rfl (jK j1 g6 b rfl rfl aS (vZ a.B) nb rfl (fun j9 b => ?_))))))))
   have d := b.has.jv (Db (Kb Sn))
   refine ⟨d, (X 6 rfl d (jE uv rfl) (XO 7 rfl (jK (.string a.kM) ((jw j2).toArray) b rfl rfl fw (Ms a.kM) nb rfl (fun k0 b => ?_))))⟩
   have d := b.has.jv (Db (Kb Sn))
   refine ⟨d, (kP kr (jH (jG (Wm (Wm (LJ g (fun e0 E W => ∃ c1, ST true kw w W (hp w) ((B, Obj.cells b8 49 (0, 0)) :: ((N, Obj.cells a0 49 (0, 0)) :: c1)) ∧ E 1 = l ∧ E 3 = m ∧ E 4 = (.bool n) ∧ E 50 = (.bool e0)) 4 ?_ (fun e0 I P => ?_)))))))⟩
   ·rintro m3 E W ⟨c1, b, U, c7, c8, i2⟩ f3
    refine Wh i2 (LJ f3 (fun d9 E W => ∃ c2, ST true kw w W (hp w) ((B, Obj.cells b8 49 (0, 0)) :: ((N, Obj.cells a0 49 (0, 0)) :: c2)) ∧ E 1 = l ∧ E 3 = m ∧ E 4 = (.bool n) ∧ E 59 = (.bool d9)) 8 ?_ (fun d9 T a5 => ?_))
    ·rintro m4 E W ⟨c2, b, q, c9, d0, i3⟩ f4
     refine Wh i3 (LJ f4 (fun d8 E W => ∃ c3, ST true kw w W (hp w) ((B, Obj.cells b8 49 (0, 0)) :: ((N, Obj.cells a0 49 (0, 0)) :: c3)) ∧ E 1 = l ∧ E 3 = m ∧ E 4 = (.bool n) ∧ E 64 = (.bool d8)) 4 ?_ (fun d8 H a4 => ?_))
     ·rintro m5 E W ⟨c3, b, i4, i5, l0, i6⟩ f5
      refine Wg i6 (jT (kl (jH ?_)))
      obtain rfl := sj f5
      exact ⟨_, rfl, _, (b.jv St), i4, i5, rfl⟩
     refine bC H (fun x H => ?_) (fun x H => ?_)
     ·refine ug x (jE uv q) (ug x (jx rfl (jJ b.has (Mt Mh) rfl bV)) (bS H fun l4 g1 H => tM x (Eg b call75 (wA a.kM _ _  g1) (fun k1 b => V (jO (cB x) rfl) ?_))))
      obtain rfl := sj H
      exact a4 _ _ ⟨_, (b.jv St), q, c9, d0, rfl⟩
     refine un x (un x (un x (V (jP (cB x) rfl) ?_)))
     obtain rfl := sj H
     exact a4 _ _ ⟨_, (b.jv St), q, c9, d0, rfl⟩
    refine bC T (fun c T => ?_) (fun c T => ?_)
    ·refine ug c (jE nz U) (ug c (jE pn rfl) (ug c (jx rfl (jJ b.has (Mt Mh) rfl bV)) (ug c (jE qN U) (ug c (jE pn rfl) (ug c (jx rfl (jJ b.has (Mt Mh) rfl bV)) (ug c (rB rfl rfl rfl) (V (jO (cB c) rfl) ?_)))))))
     obtain rfl := sj T
     exact a5 _ _ ⟨_, (b.jv St), U, c7, c8, rfl⟩
    refine un c (un c (un c (un c (un c (un c (un c (V (jP (cB c) rfl) ?_)))))))
    obtain rfl := sj T
    exact a5 _ _ ⟨_, (b.jv St), U, c7, c8, rfl⟩
   refine bC I (fun u I => ?_) (fun u I => ?_)
   ·refine ug u (jE nz rfl) (ug u (jx rfl (jD b.has (Mt Mh) (jA a.B) rfl bG aS)) (bS I fun l5 g2 I => tM u (Eg b call74 (tX a.B _ _  g2) (fun k2 b => V (jO (cB u) rfl) ?_))))
    obtain rfl := sj I
    exact P _ _ ⟨_, (b.jv St), rfl, rfl, rfl, rfl⟩
   refine un u (un u (un u (V (jP (cB u) rfl) ?_)))
   obtain rfl := sj I
   exact P _ _ ⟨_, (b.jv St), rfl, rfl, rfl, rfl⟩
  refine sg (Wi rfl (Wa (ln (CI g rfl (fun e8 g => ?_) (fun e8 g => ?_)))))
  ·refine jL ?_
   replace b := b.drew
   have d := b.has.jv (Db (Kb Sn))
   refine kO d kp (X 0 rfl d (jE nz rfl) (XH 1 rfl d (fun _ h => jx rfl (jD h Mh (jA a.B) rfl bG aS)) (X 2 rfl d (jE sE rfl) (XH 3 rfl d (fun _ h => jx rfl (jD h Mh (jA a.C) rfl bG aS)) (X 4 rfl d (jE nz rfl) (XO 5 rfl (jK j1 g6 b rfl rfl aS (vZ a.B) nb rfl (fun k3 b => ?_))))))))
   have d := b.has.jv (Db (Kb Sn))
   refine ⟨d, (X 6 rfl d (jE sE rfl) (XO 7 rfl (jK (.agg (jA a.C).toArray) ((jw m9).toArray) b rfl rfl aS (vZ a.C) nb rfl (fun k4 b => ?_))))⟩
   have d := b.has.jv (Db (Kb Sn))
   refine ⟨d, (kP kr (jH (jG (Wm (Wm (LJ g (fun e3 E W => ∃ c4, ST true kw w W (hp w) ((B, Obj.cells g5 49 (0, 0)) :: ((N, Obj.cells a0 49 (0, 0)) :: c4)) ∧ E 1 = l ∧ E 3 = m ∧ E 4 = (.bool n) ∧ E 78 = (.bool e3)) 4 ?_ (fun e3 M a9 => ?_)))))))⟩
   ·rintro m6 E W ⟨c4, b, s, d1, d2, i7⟩ f6
    refine Wh i7 (LJ f6 (fun e2 E W => ∃ c5, ST true kw w W (hp w) ((B, Obj.cells g5 49 (0, 0)) :: ((N, Obj.cells a0 49 (0, 0)) :: c5)) ∧ E 1 = l ∧ E 3 = m ∧ E 4 = (.bool n) ∧ E 83 = (.bool e2)) 4 ?_ (fun e2 K a8 => ?_))
    ·rintro m7 E W ⟨c5, b, Y, d3, d4, i8⟩ f7
     refine Wh i8 (LJ f7 (fun e1 E W => ∃ c6, ST true kw w W (hp w) ((B, Obj.cells g5 49 (0, 0)) :: ((N, Obj.cells a0 49 (0, 0)) :: c6)) ∧ E 1 = l ∧ E 3 = m ∧ E 4 = (.bool n) ∧ E 91 = (.bool e1)) 7 ?_ (fun e1 J R => ?_))
     ·rintro m8 E W ⟨c6, b, i9, j0, l1, j3⟩ f8
      refine Wg j3 (jT (kl (jH ?_)))
      obtain rfl := sj f8
      exact ⟨_, rfl, _, (b.jv St), i9, j0, rfl⟩
     refine bC J (fun i J => ?_) (fun i J => ?_)
     ·refine ug i (jE nz Y) (ug i (jx rfl (jD b.has (Mt Mh) (jA a.B) rfl bG aS)) (ug i (jE sE Y) (ug i (jx rfl (jD b.has (Mt Mh) (jA a.C) rfl bG aS)) (bS J fun l6 g3 J => tM i (Eg b call76 (Hl a.B a.C _ _  g3) (fun k5 b => ug i (kh rfl rfl rfl) (V (jO (cB i) rfl) ?_)))))))
      obtain rfl := sj J
      exact R _ _ ⟨_, (b.jv St), Y, d3, d4, rfl⟩
     refine un i (un i (un i (un i (un i (un i (V (jP (cB i) rfl) ?_))))))
     obtain rfl := sj J
     exact R _ _ ⟨_, (b.jv St), Y, d3, d4, rfl⟩
    refine bC K (fun z K => ?_) (fun z K => ?_)
    ·refine ug z (jE sE s) (ug z (jx rfl (jD b.has (Mt Mh) (jA a.C) rfl bG aS)) (bS K fun l7 g4 K => tM z (Eg b call74 (tX a.C _ _  g4) (fun k6 b => V (jO (cB z) rfl) ?_))))
     obtain rfl := sj K
     exact a8 _ _ ⟨_, (b.jv St), s, d1, d2, rfl⟩
    refine un z (un z (un z (V (jP (cB z) rfl) ?_)))
    obtain rfl := sj K
    exact a8 _ _ ⟨_, (b.jv St), s, d1, d2, rfl⟩
   refine bC M (fun y M => ?_) (fun y M => ?_)
   ·refine ug y (jE nz rfl) (ug y (jx rfl (jD b.has (Mt Mh) (jA a.B) rfl bG aS)) (bS M fun l8 g7 M => tM y (Eg b call74 (tX a.B _ _  g7) (fun k7 b => V (jO (cB y) rfl) ?_))))
    obtain rfl := sj M
    exact a9 _ _ ⟨_, (b.jv St), rfl, rfl, rfl, rfl⟩
   refine un y (un y (un y (V (jP (cB y) rfl) ?_)))
   obtain rfl := sj M
   exact a9 _ _ ⟨_, (b.jv St), rfl, rfl, rfl, rfl⟩
  refine sg (Wa (ln ?_))
  replace b := b.jv (Db (Db St))
  refine ke (mc (ki ?_))
  obtain rfl := sj g
  replace Z : some false = some r := Z
  obtain rfl := sj Z
  exact rP b
 rintro ⟨l9, e4⟩ E W ⟨b6, b, g8, g9, h0⟩ e9
 refine sg (Wh h0 (Wm (LJ e9 (fun d5 E W => ∃ b7, ST true kw w W (hp w) b7 ∧ E 97 = (.bool d5)) 4 ?_ (fun d5 Q O => ?_))))
 ·rintro m0 E W ⟨b7, b, h1⟩ f0
  exact Wg h1 (lt (rQ f0 b))
 refine bC Q (fun j Q => ?_) (fun j Q => ?_)
 ·refine ug j (jx g9 (jD b.has Mh (jw e4) rfl bQ aN)) (ug j (jx g8 (jD b.has (Mt Mh) (jw a) rfl bQ aN)) (ug j (uT rfl rfl (nl fk) (rh (wO _ e4 a))) (V (jO (cB j) rfl) ?_)))
  obtain rfl := sj Q
  exact O _ _ ⟨_, (b.jv (Db (Db St))), rfl⟩
 refine un j (un j (un j (V (jP (cB j) rfl) ?_)))
 obtain rfl := sj Q
 exact O _ _ ⟨_, (b.jv (Db (Db St))), rfl⟩
theorem DR (j : Value) (t : List js) (c : js) (r : Int) (w : World) (g : Sl (Pl jw) 9 (hp w) j t) (hm : wg t c = some r) :
  jZ true pg0 81 [j, (.agg (jw c).toArray)] w (.int .i64 r) := by
 refine cG 19 func81 rfl (fun b => sg (VE (kv b rfl (fun Q J b => Wa (lS (Wm (V (kK aH rfl g) (Wm (ln ?_)))))))))
 refine kA (fun i E W => ∃ k, (E 8 = .int .i64 (i : Nat) ∧ E 7 = .int .i64 (t.length : Nat)) ∧ ST true kw w W (hp w) ((J, Ol (jw c) 49) :: k) ∧ E 0 = j ∧ E 3 = (.pointer (some ⟨J, 0, none⟩)) ∧ pU c (t.drop i) i = some r) t.length g.len ⟨_, ⟨rfl, rfl⟩, (b.jv St), rfl, rfl, hm⟩ dc dc dc (fun _ _ _ h => by obtain ⟨_, m, _⟩ := h; exact m) ?_ ?_
 ·rintro K E W B ⟨k, ⟨l, p⟩, b, u, x, a⟩
  obtain ⟨y, M, H, G, I⟩ := ku B
  rw [H] at a
  refine bg (Wh l (Wa (ln (jL ?_))))
  replace b := b.drew
  have d := b.has.jv (Kb Sn)
  refine kO d kp (XH 0 rfl d (fun _ n => jx x (jD n Mh (jw c) rfl bQ aN)) (X 1 rfl d (jz u) (X 2 rfl d (jz rfl) (XQ 3 rfl d (mZ (enc := jw) (i := (K : Int)) (x0 := y) aH aN rfl rfl g (aG _) G) (fun N D => XH 4 rfl d (fun _ n => jx rfl (jS n D bQ aN)) (X 5 rfl d (uT rfl rfl (nl fk) (rh (wO _ c y))) (kP kr (jH (CI a rfl (fun z a => ?_) (fun z a => ?_))))))))))
  ·refine sg (Wm (Wa (ln ?_)))
   replace b := b.jv (Db St)
   refine ke (mc (ki (mc (ki ?_))))
   obtain rfl := sj a
   exact rP b
  exact kQ (kl (jH ⟨l, _, ⟨rfl, p⟩, (b.jv St), u, x, (by rw [I]; exact a)⟩))
 rintro E W ⟨k, ⟨l, p⟩, b, u, x, a⟩
 rw [aM] at a
 refine jH ?_
 replace b := b.jv (Db St)
 exact sg (Wa (lt (rQ a b)))
theorem BK (a : Value) (g : List js) (c : js) (r : Bool) (w : World) (i : Sl (Pl jw) 9 (hp w) a g) (hm : si g c = some r) :
  jZ true pg0 52 [a, (.agg (jw c).toArray)] w (.bool r) := by
 refine cG 9 func52 rfl (fun b => sg (VE (kv b rfl (fun k u b => Wa (lr (Wm (VA b Mh (jw c) bQ aN (bS hm fun x j hm => VE (Eg b call81 (DR a g c _ _ (i.mono (Pl.mono _) b.jF) j) (fun t b => Wi rfl (Wa ?_)))))))))))
 refine ln ?_
 exact ke (rQ hm b)
theorem yI (a : Value) (g : List js) (c : js) (r : Bool) (w : World) (i : Sl (Pl jw) 9 (hp w) a g) (hm : pB g c = some r) :
  jZ true pg0 29 [a, (.agg (jw c).toArray)] w (.bool r) := by
 refine cG 8 func29 rfl (fun b => sg (VE (kv b rfl (fun k u b => Wa (lr (Wm (VA b Mh (jw c) bQ aN (bS hm fun x j hm => VE (Eg b call52 (BK a g c _ _ (i.mono (Pl.mono _) b.jF) j) (fun t b => Wa (jT ?_)))))))))))
 refine jH ?_
 exact ke (rQ hm b)
theorem Kf (a : js) (r : List jr) (w : World) (hm : yL a = some r) :
  lC true pg0 144 [(.agg (jw a).toArray)] w 27 jA 2 r := by
 refine wm 27 func144 rfl (fun b => sg (VE (kv b rfl (fun W2 h b => Wa (lS (VA b Mh (jw a) bQ aN (bS hm fun r3 q hm => VE (Eg b call47 (yU a _ _  q) (fun W5 b => V (nt rfl) (jT ?_))))))))))
 refine jH (CI hm rfl (fun n hm => ?_) (fun n hm => ?_))
 ·refine sg (Wa (ln ?_))
  replace b := b.jv (Db St)
  refine ke (ki ?_)
  obtain rfl := sj hm
  exact lj (v := (.slice none 0 0)) rfl rfl ⟨_, [], rfl, b.oa (fun p d => by cases d) (by simp), jV.nil _ _ _⟩
 refine kg (Wf qN (VA b Mh (jA a.Head) bG aS (VE (jY (cs := (jA a.Head).toArray) b (lM rfl) (mf ep aS et) (fun W8 y b => Wa (ln (jL (CJ hm (fun I E W => ∃ j i z, ST true kw w W (hp w) ((h, Ol (jw a) 49) :: (i ++ z)) ∧ E 1 = (.pointer (some ⟨h, 0, none⟩)) ∧ E 3 = j ∧ jV 27 jA 2 j I i) (fun I g => ?_) ?_))))))))
 ·refine sg (Wf qC (VB b (Mt Mh) rfl rfl bR (Wi rfl (ln (CI g rfl (fun Q g => ?_) (fun Q g => ?_))))))
  ·refine jG (Wm (Wf nz (VA b (Mt Mh) (jA a.B) bG aS (VE (jY (cs := (jA a.B).toArray) b (lM rfl) (mf ep aS et) (fun P a4 b => ?_))))))
   replace b := b.perm (Nb (Pb Pz) Nz)
   refine bS g fun c0 T g => VE (mR (enc := jA) (v := (.slice (some ⟨y, 0, none⟩) 1 1)) (vs := (.slice (some ⟨a4, 0, none⟩) 1 1)) (R := [(y, Ol (jA a.Head) 27)]) b yt dc vZ ep vQ.1 vQ.2.1 rfl vQ.2.2.1 vQ.2.2.2 rfl rfl (jV.lit (l := [a.Head]) (enc := jA) rfl dc rfl rfl) (Sl.lit (enc := jA) (l := [a.B]) yt rfl nb rfl (b.at_ (Mt Mh))) T (fun b4 a9 m b K => Wa (ln ?_)))
   obtain rfl := sj g
   exact ⟨a9, m, _, (b.jv (Sb (Pr (Pb Pz)) (Kr (Db St)))), rfl, rfl, K⟩
  refine kn ?_
  obtain rfl := sj g
  replace b := b.Ey
  exact ⟨(.slice (some ⟨y, 0, none⟩) 1 1), [(y, Ol (jA a.Head) 27)], _, (b.jv (Sb (Pr Pz) St)), rfl, rfl, (jV.lit (l := [a.Head]) (enc := jA) rfl dc rfl rfl)⟩
 rintro b5 E W ⟨j, i, z, b, D, G, u⟩ U
 refine jL (CJ U (fun H E W => ∃ t k B, ST true kw w W (hp w) (k ++ B) ∧ E 3 = t ∧ jV 27 jA 2 t H k) (fun H c => ?_) ?_)
 ·refine sg (V (jE qC D) (VB b Mh rfl rfl bR (Wi rfl (ln (CI c rfl (fun M c => ?_) (fun M c => ?_))))))
  ·refine jG (Wh G (V (jE sE D) (VA b Mh (jA a.C) bG aS (VE (jY (cs := (jA a.C).toArray) b (lM rfl) (mf ep aS et) (fun L a3 b => ?_))))))
   replace b := b.perm (Nr (Qb (Qb Qz)) Nz)
   refine bS c fun b9 N c => VE (mR (enc := jA) (v := j) (vs := (.slice (some ⟨a3, 0, none⟩) 1 1)) (R := i) b yt dc vZ ep vQ.1 vQ.2.1 rfl vQ.2.2.1 vQ.2.2.2 rfl rfl u (Sl.lit (enc := jA) (l := [a.C]) yt rfl nb rfl (b.at_ (Ma Mh))) N (fun O s Z b J => Wa (ln ?_)))
   obtain rfl := sj c
   exact ⟨s, Z, _, (b.jv (Kr (Db (Db St)))), rfl, J⟩
  refine kn ?_
  obtain rfl := sj c
  exact ⟨j, i, _, (b.jv (Db St)), G, u⟩
 rintro b6 E W ⟨t, k, B, b, a5, x⟩ Y
 refine sg (Wh a5 (Wa (lt ?_)))
 obtain rfl := sj Y
 exact lj (v := t) rfl rfl ⟨_, k, rfl, b.oa (fun p d => (Ml d)) x.nd, x⟩
theorem Dy (M : Nat) (u : Value) (a9 : List (jr × (List (ByteArray × Bool)))) (G : LO) (D : Value) (a0 : List js) (B : LO) (a : Value) (Y : List (jr × (List js))) (I : LO) (c : Value) (K : List (ByteArray × (List js))) (t : LO) (j : Value) (a4 : List jM) (y : LO) (J : Int) (H : js) (r : ((List js) × (List (jr × (List js))) × (List (ByteArray × (List js))))) (w : World) {μ0 : jW} (h0 : ny μ0 ((M, Ob #[u, D, a, c, j, (.int .i64 J)] 135) :: (G ++ (B ++ (I ++ (t ++ (y ++ [])))))) w) (e9 : lY (fun (x : jr) => (.agg (jA x).toArray)) (lN Value.string (fun (x : Bool) => (Value.bool x))) u a9 G) (a6 : jV 49 jw 9 D a0 B) (b2 : lY (fun (x : jr) => (.agg (jA x).toArray)) (jV 49 jw 9) a Y I) (T : lY Value.string (jV 49 jw 9) c K t) (e1 : pW 111 kq 3 j a4 y) (hm : tu a9 a0 Y K a4 J H = some r) :
  kR true pg0 120 [(.pointer (some ⟨M, 0, none⟩)), (.agg (jw H).toArray)] w ((M, Ob #[u, D, a, c, j, (.int .i64 J)] 135) :: (G ++ (B ++ (I ++ (t ++ (y ++ [])))))) (fun v L1 W' => ∃ y1 S2 S4 S6, v = (.tuple #[]) ∧ L1 = ((M, Ob #[u, y1, a, c, j, (.int .i64 J)] 135) :: (G ++ (S2 ++ (S4 ++ (S6 ++ (y ++ [])))))) ∧ jV 49 jw 9 y1 r.1 S2 ∧ lY (fun (x : jr) => (.agg (jA x).toArray)) (jV 49 jw 9) a r.2.1 S4 ∧ lY Value.string (jV 49 jw 9) c r.2.2 S6) := by
 refine yF h0 55 func120 rfl (fun d => sg (VE (kv d rfl (fun W2 b1 d => ln (jL ?_)))))
 replace d := d.drew
 have m := d.has.jv (Kb Sn)
 have n := d.has.jv (Db (Kb Sn))
 refine tE 10 m n kp (kf 0 rfl kr (.inl rfl) rfl dc (fun _ _ h => ⟨h.1, km br h.2⟩) ⟨m, fun _ => n⟩ (fun _ _ _ _ => jz rfl) (kf 1 rfl kr (.inl rfl) rfl dc (fun _ _ h => ⟨h.1, km br h.2⟩) ⟨m, fun _ => n⟩ (fun _ _ _ _ => jz rfl) (kf 2 rfl kr (.inl rfl) rfl dc (fun _ _ h => ⟨h.1, km br h.2⟩) ⟨m, fun _ => n⟩ (fun _ _ _ _ => mT rfl) (kf 3 rfl kr (.inl rfl) rfl dc (fun _ _ h => ⟨h.1, km br h.2⟩) ⟨m, fun _ => n⟩ (fun _ _ _ _ => jE Hu rfl) (kf 4 rfl kr (.inl rfl) rfl dc (fun _ _ h => ⟨h.1, km br h.2⟩) ⟨m, fun _ => n⟩ (fun l W q s => have p := (s.2 (q.Bb 10 [4] kr rfl)); jx rfl (jJ p Mh rfl dY)) (kf 5 rfl kr (.inl rfl) rfl dc (fun _ _ h => ⟨h.1, km br h.2⟩) ⟨m, fun _ => n⟩ (fun l W q s => have p := s.1; jx rfl (jD p Mh (jw H) rfl bQ aN)) (XE 6 rfl (jY (cs := (jw H).toArray) d (lM rfl) (mf aH aN cK) (fun k0 g0 d => ?_)))))))))
 have m := d.has.jv (Db (Kb Sn))
 have n := d.has.jv (Db (Db (Kb Sn)))
 refine ⟨⟨m, fun _ => n⟩, ?_⟩
 replace d := d.perm (Nr (Qb (Qb (Qb (Qr Qz)))) Nz)
 refine bS hm fun a5 f0 hm => XE 7 rfl (mR (enc := jw) (v := D) (vs := (.slice (some ⟨g0, 0, none⟩) 1 1)) (R := B) d kc dc mH aH lh.1 lh.2.1 rfl lh.2.2.1 lh.2.2.2 rfl rfl a6 (Sl.lit (enc := jw) (l := [H]) kc rfl nb rfl (d.at_ (Ma Mh))) f0 (fun k1 k4 b7 d b5 => ?_))
 have m := d.has.jv (Dr (Db (Kb Sn)))
 have n := d.has.jv (Dr (Db (Db (Kb Sn))))
 refine ⟨⟨m, fun _ => n⟩, (kf 8 rfl kr (.inl rfl) rfl dc (fun _ _ h => ⟨h.1, km br h.2⟩) ⟨m, fun _ => n⟩ (fun _ _ _ _ => mT rfl) (kf 9 rfl kr (.inl rfl) rfl dc (fun _ _ h => ⟨h.1, km br h.2⟩) ⟨m, fun _ => n⟩ (fun _ _ _ _ => jE Hu rfl) ?_))⟩
 obtain ⟨a8, b0, rfl⟩ := b5.form
 let L : Value := (.slice a8 a5.length b0)
 replace d := d.perm (Nb (Pr (Pb (Pb Pz))) Nz)
 refine XO 10 rfl (jK L (#[u, L, a, c, j, (.int .i64 J)]) d rfl rfl eo oc nb rfl (fun k2 d => ?_))
 have m := d.has.jv (Db (Dr (Db (Kb Sn))))
 refine ⟨⟨m, fun h => xr kr h⟩, (kP kr (jH ?_))⟩
 replace d := d.jv (Kb (Kr (Db St)))
 refine jL (sg (VA d (Mt (Ma Mh)) (jw H) bQ aN (bS hm fun c1 f1 hm => VE (rH d call144 (Kf H _ _  f1) (fun k3 k5 k6 j9 d g4 ab e8 => ?_)))))
 let b8 := (c1.drop (Int.toNat 1))
 obtain ⟨g3, d, g7, ad, f2⟩ := ST.CX d e8 yt
 refine bS hm fun _ b9 hm => VQ (BY (i := 1) ep aS rfl rfl f2 (uX b9) (uS b9)) (fun g1 b6 => V (kK ep rfl b6.1) (Wm (ln (kA (fun i E W => ∃ a3 U P, (E 20 = .int .i64 (i : Nat) ∧ E 19 = .int .i64 (b8.length : Nat)) ∧ ST true (keys ((M, Ob #[u, D, a, c, j, (.int .i64 J)] 135) :: (G ++ (B ++ (I ++ (t ++ (y ++ []))))))) w W g3 ((M, Ob #[u, L, a, c, j, (.int .i64 J)] 135) :: ((b1, Ol (jw H) 49) :: (U ++ (b7 ++ (G ++ (t ++ (y ++ P))))))) ∧ E 0 = (.pointer (some ⟨M, 0, none⟩)) ∧ E 3 = (.pointer (some ⟨b1, 0, none⟩)) ∧ E 18 = g1 ∧ lY (fun (x : jr) => (.agg (jA x).toArray)) (jV 49 jw 9) a a3 U ∧ oy H K a5 (b8.drop i) a3 = some r) b8.length b6.1.len ⟨Y, I, _, ⟨rfl, rfl⟩, (d.jv (Kb (Sb (Pr Pz) (Sr (Qr (Qr Qz)) St)))), rfl, rfl, rfl, b2, hm⟩ dc dc dc (fun _ _ _ h => by obtain ⟨_, _, _, aa, _⟩ := h; exact aa) ?_ ?_))))
 ·rintro f3 E W d3 ⟨a3, U, P, ⟨eI, eN⟩, d, a2, N, b4, Z, g⟩
  obtain ⟨Q, h4, d8, d7, d9⟩ := ku d3
  rw [d8] at g
  refine bg (VQ (mZ (enc := jA) (i := (f3 : Int)) (x0 := Q) ep aS b4 eI b6.1 (aG _) d7) (fun j4 d4 => V (jx rfl (jS d.has d4 bG aS)) (VE (jU d et (fun i1 j0 d => VO (jK (.agg (jA Q).toArray) ((jA Q).toArray) d rfl rfl aS (vZ Q) nb rfl (fun i2 d => ln ?_)))))))
  replace d := d.drew
  have m := d.has.jv (Kb (Kb (Kb Sn)))
  refine kO m kp (X 0 rfl m (jz a2) (X 1 rfl m (mT rfl) (X 2 rfl m (jE KX rfl) (XH 3 rfl m (fun _ p => jx rfl (jJ p (Mt Mh) rfl isAgg132)) (XH 4 rfl m (fun _ p => jx rfl (jD p Mh (jA Q) rfl bG aS)) (XH 5 rfl m (fun _ p => jx N (jD p (Mt (Mt Mh)) (jw H) rfl bQ aN)) (XE 6 rfl (jY (cs := (jw H).toArray) d (lM rfl) (mf aH aN cK) (fun i3 e6 d => ?_)))))))))
  have m := d.has.jv (Db (Kb (Kb (Kb Sn))))
  refine ⟨m, ?_⟩
  obtain ⟨h1, d1⟩ := Z
  replace d := d.perm (Nr (Qb (Qb (Qb (Qb Qz)))) Nz)
  refine XE 7 rfl (Mf (k := Q) (x0 := [])  jR Ai underlying132 gx (jV.nil _ _ _) d d1 rfl rfl (fun i4 f5 h3 h6 e2 d c3 c2 => ?_))
  have m := d.has.jv (Dr (Dr (Db (Kb (Kb (Kb Sn))))))
  refine ⟨m, (X 8 rfl m (qv rfl rfl) (X 10 rfl m (qv rfl rfl) ?_))⟩
  replace d := d.perm (Nr (Qr Qz) Nz)
  refine bS g fun c0 c8 g => XE 9 rfl (mR (enc := jw) (v := f5) (vs := (.slice (some ⟨e6, 0, none⟩) 1 1)) (R := e2) d kc dc mH aH lh.1 lh.2.1 rfl lh.2.2.1 lh.2.2.2 rfl rfl c3 (Sl.lit (enc := jw) (l := [H]) kc rfl nb rfl (d.at_ (Ma (Ma Mh)))) c8 (fun i5 j5 h7 d c4 => ?_))
  have m := d.has.jv (Dr (Dr (Db (Kb (Kb (Kb Sn))))))
  refine ⟨m, ?_⟩
  replace d := d.perm (Nr (Qr Qz) Nz)
  refine XO 11 rfl (Ka (e := 0) (z := c0)  jR Ai d c2 rfl rfl rfl c4 (fun i6 h2 e3 d c5 => ?_))
  have m := d.has.jv (Dr (Db (Kb (Kb (Kb Sn)))))
  refine ⟨m, (kP kr (kl (jH ?_)))⟩
  replace d := d.jv (Kr (Db (Db St)))
  exact ⟨eI, (nZ jQ a3 Q c0), e3, _, ⟨rfl, eN⟩, (d.jv (Sb (Pr Pz) (Sb (Pr Pz) St))), a2, N, b4, c5.e, (by rw [d9]; exact g)⟩
 rintro E W ⟨a3, U, P, ⟨eI, eN⟩, d, a2, N, b4, Z, g⟩
 rw [aM] at g
 refine jH (sg (V (jE qC N) (VB d (Mt Mh) rfl rfl bR (Wi rfl (ln (CI g rfl (fun c9 g => ?_) (fun c9 g => ?_)))))))
 ·replace d := d.drew
  have m := d.has.jv (Kb (Kb Sn))
  have n := d.has.jv (Db (Db (Dr (Dr (Dr (Kr Sn))))))
  refine tE 15 m n kp (kf 0 rfl kr (.inl rfl) rfl dc (fun _ _ h => ⟨h.1, km br h.2⟩) ⟨m, fun _ => n⟩ (fun _ _ _ _ => jz a2) (kf 1 rfl kr (.inl rfl) rfl dc (fun _ _ h => ⟨h.1, km br h.2⟩) ⟨m, fun _ => n⟩ (fun _ _ _ _ => mT rfl) (kf 2 rfl kr (.inl rfl) rfl dc (fun _ _ h => ⟨h.1, km br h.2⟩) ⟨m, fun _ => n⟩ (fun _ _ _ _ => jE HH rfl) (kf 3 rfl kr (.inl rfl) rfl dc (fun _ _ h => ⟨h.1, km br h.2⟩) ⟨m, fun _ => n⟩ (fun l W q s => have p := s.1; jx rfl (jJ p Mh rfl isAgg133)) (kf 4 rfl kr (.inl rfl) rfl dc (fun _ _ h => ⟨h.1, km br h.2⟩) ⟨m, fun _ => n⟩ (fun _ _ _ _ => jE uv N) (kf 5 rfl kr (.inl rfl) rfl dc (fun _ _ h => ⟨h.1, km br h.2⟩) ⟨m, fun _ => n⟩ (fun l W q s => have p := s.1; jx rfl (jJ p (Mt Mh) rfl bV)) (kf 6 rfl kr (.inl rfl) rfl dc (fun _ _ h => ⟨h.1, km br h.2⟩) ⟨m, fun _ => n⟩ (fun _ _ _ _ => jz a2) (kf 7 rfl kr (.inl rfl) rfl dc (fun _ _ h => ⟨h.1, km br h.2⟩) ⟨m, fun _ => n⟩ (fun _ _ _ _ => mT rfl) (kf 8 rfl kr (.inl rfl) rfl dc (fun _ _ h => ⟨h.1, km br h.2⟩) ⟨m, fun _ => n⟩ (fun _ _ _ _ => jE HH rfl) (kf 9 rfl kr (.inl rfl) rfl dc (fun _ _ h => ⟨h.1, km br h.2⟩) ⟨m, fun _ => n⟩ (fun l W q s => have p := s.1; jx rfl (jJ p Mh rfl isAgg133)) (kf 10 rfl kr (.inl rfl) rfl dc (fun _ _ h => ⟨h.1, km br h.2⟩) ⟨m, fun _ => n⟩ (fun _ _ _ _ => jE uv N) (kf 11 rfl kr (.inl rfl) rfl dc (fun _ _ h => ⟨h.1, km br h.2⟩) ⟨m, fun _ => n⟩ (fun l W q s => have p := s.1; jx rfl (jJ p (Mt Mh) rfl bV)) ?_))))))))))))
  obtain ⟨e0, O⟩ := T
  obtain ⟨h8, g8, g9⟩ := mJ.rowAt mg.1 O H.kM
  refine kf 12 rfl kr (.inl rfl) rfl dc (fun _ _ h => ⟨h.1, km br h.2⟩) ⟨m, fun _ => n⟩ (fun l W q s => have p := (s.2 (q.Bb 15 [12] kr rfl)); pd (k := H.kM) (z := (.slice none 0 0)) GM underlying133 gx rfl rfl O (fun b o hq => p.2 b o (Ml hq))) (kf 13 rfl kr (.inl rfl) rfl dc (fun _ _ h => ⟨h.1, km br h.2⟩) ⟨m, fun _ => n⟩ (fun l W q s => have p := s.1; jx N (jD p (Mt Mh) (jw H) rfl bQ aN)) (XE 14 rfl (jY (cs := (jw H).toArray) d (lM rfl) (mf aH aN cK) (fun i7 e7 d => ?_))))
  have m := d.has.jv (Db (Kb (Kb Sn)))
  have n := d.has.jv (Db (Db (Db (Dr (Dr (Dr (Kr Sn)))))))
  refine ⟨⟨m, fun _ => n⟩, ?_⟩
  replace d := d.perm (Nr (Qb (Qb (Qb (Qr (Qr (Qr Qz)))))) Nz)
  obtain ⟨h9, e4, d5, d6, d2⟩ := mJ.open mg.1 (jV.nil _ _ _) O H.kM
  replace d := d.perm (TN d5)
  replace d := d.perm (Nr (Qr Qz) Nz)
  refine bS g fun f4 d0 g => XE 15 rfl (mR (enc := jw) (v := (rz kU e0 H.kM (.slice none 0 0))) (vs := (.slice (some ⟨e7, 0, none⟩) 1 1)) (R := e4) d kc dc mH aH lh.1 lh.2.1 rfl lh.2.2.1 lh.2.2.2 rfl rfl d6 (Sl.lit (enc := jw) (l := [H]) kc rfl nb rfl (d.at_ (Ma (Ma Mh)))) d0 (fun i8 j6 i0 d c6 => ?_))
  have m := d.has.jv (Dr (Dr (Db (Kb (Kb Sn)))))
  refine ⟨⟨m, fun h => xr kr h⟩, ?_⟩
  replace d := d.perm (Nr (Qr Qz) Nz)
  refine XO 16 rfl (QV (k := H.kM) (z := f4)  GM underlying133 d d2 rfl rfl rfl c6 (fun i9 e5 d c7 => ?_))
  have m := d.has.jv (Dr (Db (Kb (Kb Sn))))
  refine ⟨⟨m, fun h => xr kr h⟩, (kP kr (qy ?_))⟩
  obtain rfl := sj g
  exact oN rfl ⟨_, _, rfl, (d.lU (Sb (Pr (Pb Pz)) (Sr (Qr (Qb (Qb (Qr (Qr Qz))))) (Sr (Qr (Qb (Qb (Qr Qz)))) (Sr (Qr (Qb (Qb Qz))) (Kr (Db (Db (Kr Sn))))))))), L, b7, U, e5, rfl, rfl, b5, Z, c7.e⟩
 refine kQ (qy ?_)
 obtain rfl := sj g
 exact oN rfl ⟨_, _, rfl, (d.lU (Kb (Db (Sr (Qr (Qr Qz)) (Sr (Qr Qz) (Kr (Kr (Kr Sn)))))))), L, b7, U, t, rfl, rfl, b5, Z, T⟩
theorem qQ (J : Nat) (g : Value) (a0 : List (jr × (List (ByteArray × Bool)))) (D : LO) (a : Value) (M : List js) (u : LO) (j : Value) (Z : List (jr × (List js))) (B : LO) (c : Value) (N : List (ByteArray × (List js))) (y : LO) (i : Value) (Y : List jM) (t : LO) (H : Int) (G : jr) (U : ByteArray) (r : ((List (jr × (List (ByteArray × Bool)))) × (List jM) × Int)) (w : World) {μ0 : jW} (h0 : ny μ0 ((J, Ob #[g, a, j, c, i, (.int .i64 H)] 135) :: (D ++ (u ++ (B ++ (y ++ (t ++ [])))))) w) (a5 : lY (fun (x : jr) => (.agg (jA x).toArray)) (lN Value.string (fun (x : Bool) => (Value.bool x))) g a0 D) (b5 : jV 49 jw 9 a M u) (c3 : lY (fun (x : jr) => (.agg (jA x).toArray)) (jV 49 jw 9) j Z B) (b6 : lY Value.string (jV 49 jw 9) c N y) (K : pW 111 kq 3 i Y t) (hm : nI a0 M Z N Y H G U = some r) :
  kR true pg0 145 [(.pointer (some ⟨J, 0, none⟩)), (.agg (jA G).toArray), (.string U)] w ((J, Ob #[g, a, j, c, i, (.int .i64 H)] 135) :: (D ++ (u ++ (B ++ (y ++ (t ++ [])))))) (fun v L1 W' => ∃ S1 y3 S4, v = (.tuple #[]) ∧ L1 = ((J, Ob #[g, a, j, c, y3, (.int .i64 (r.2.2))] 135) :: (S1 ++ (u ++ (B ++ (y ++ (S4 ++ [])))))) ∧ lY (fun (x : jr) => (.agg (jA x).toArray)) (lN Value.string (fun (x : Bool) => (Value.bool x))) g r.1 S1 ∧ pW 111 kq 3 y3 r.2.1 S4) := by
 let a1 := (#[g, a, j, c, i, (.int .i64 H)] : Array Value)
 refine yF h0 53 func145 rfl (fun m => sg (VE (kv m rfl (fun W2 b1 m => ln (jL (jL ?_))))))
 replace m := m.drew
 have d := m.has.jv (Kb (Kb (Kr Sn)))
 refine kO d kp (X 0 rfl d (jz rfl) (X 1 rfl d (mT rfl) (X 2 rfl d (jE xk rfl) (XH 3 rfl d (fun _ p => jx rfl (jJ p (Mt Mh) rfl gU)) (XH 4 rfl d (fun _ p => jx rfl (jD p Mh (jA G) rfl bG aS)) ?_)))))
 obtain ⟨f4, Q⟩ := a5
 refine XH 5 rfl d (fun _ p => pd (k := G) (z := (.map none)) Ai eU fH rfl rfl Q (fun b o L => p.2 b o (Mt (Mt (Ml L))))) (X 6 rfl d (jz rfl) (XH 7 rfl d (fun _ p => zM (k := U) (z := false) (vf := (fun (x : Bool) => (Value.bool x))) GM fM gp rfl rfl (mJ.Dl (μ := hp _) jR.1 Q G (fun b o L => p.2 b o (Mt (Mt (Ml L)))))) (kP kr (jH (CI hm rfl (fun d5 hm => ?_) (fun d5 hm => ?_))))))
 ·refine ke (ki ?_)
  obtain rfl := sj hm
  exact oN rfl ⟨_, _, rfl, (m.lU (Db (Kb (Kr (Kr (Kr (Kr (Kr Sn)))))))), D, i, t, rfl, rfl, Q.e, K⟩
 refine kn (jL (CJ hm (fun b2 E W => ∃ a8 c0, ST true (keys ((J, Obj.cells a1 135 (0, 0)) :: (D ++ (u ++ (B ++ (y ++ (t ++ []))))))) w W μ0 ((b1, Ol (jA G) 27) :: ((J, Obj.cells a1 135 (0, 0)) :: (a8 ++ (u ++ (B ++ (y ++ (t ++ c0))))))) ∧ E 0 = (.pointer (some ⟨J, 0, none⟩)) ∧ E 2 = (.string U) ∧ E 4 = (.pointer (some ⟨b1, 0, none⟩)) ∧ lY (fun (x : jr) => (.agg (jA x).toArray)) (lN Value.string (fun (x : Bool) => (Value.bool x))) g b2 a8) (fun b2 I => ?_) ?_))
 ·refine jL ?_
  replace m := m.drew
  have d := m.has.jv (Kb (Kb (Kr Sn)))
  refine kO d kp (X 0 rfl d (jz rfl) (X 1 rfl d (mT rfl) (X 2 rfl d (jE xk rfl) (XH 3 rfl d (fun _ p => jx rfl (jJ p (Mt Mh) rfl gU)) (XH 4 rfl d (fun _ p => jx rfl (jD p Mh (jA G) rfl bG aS)) (XH 5 rfl d (fun _ p => pd (k := G) (z := (.map none)) Ai eU fH rfl rfl Q (fun b o L => p.2 b o (Mt (Mt (Ml L))))) (X 6 rfl d (Ks jR.1 fM Q rfl rfl) (kP kr (jH (CI I rfl (fun b7 I => ?_) (fun b7 I => ?_)))))))))))
  ·replace m := m.drew
   have d := m.has.jv (Kb (Kb Sn))
   refine kO d kp (X 0 rfl d (jz rfl) (X 1 rfl d (mT rfl) (X 2 rfl d (jE xk rfl) (XH 3 rfl d (fun _ p => jx rfl (jJ p (Mt Mh) rfl gU)) (XH 4 rfl d (fun _ p => jx rfl (jD p Mh (jA G) rfl bG aS)) (XE 5 rfl (H2 (P := pg0) Value.string (fun (x : Bool) => (Value.bool x)) m (fun e1 e7 d9 m b3 => ?_))))))))
   have d := m.has.jv (Dr (Kb (Kb Sn)))
   refine ⟨d, ?_⟩
   replace m := m.perm (Nr (Qr (Qb (Qb Qz))) Nz)
   refine bS I fun e4 b9 I => XO 6 rfl (N0 (k := G) (z := ([]))  Ai eU m Q rfl rfl rfl b3 b9 (fun e2 c4 m b4 => ?_))
   have d := m.has.jv (Dr (Kb (Kb Sn)))
   refine ⟨d, (kP kr (jH ?_))⟩
   obtain rfl := sj I
   exact ⟨c4, _, (m.jv (Sb (Pr Pz) (Sb (Pr Pz) St))), rfl, rfl, rfl, b4.e⟩
  refine kn ?_
  obtain rfl := sj I
  exact ⟨D, _, (m.jv St), rfl, rfl, rfl, Q.e⟩
 rintro f2 E W ⟨a8, c0, m, O, c1, c2, c8⟩ T
 refine jL ?_
 replace m := m.drew
 have d := m.has.jv (Kb (Kb Sn))
 have n := m.has.jv (Db (Db (Kr Sn)))
 refine tE 7 d n kp (kf 0 rfl kr (.inl rfl) rfl dc (fun _ _ h => ⟨h.1, km br h.2⟩) ⟨d, fun _ => n⟩ (fun _ _ _ _ => jz O) (kf 1 rfl kr (.inl rfl) rfl dc (fun _ _ h => ⟨h.1, km br h.2⟩) ⟨d, fun _ => n⟩ (fun _ _ _ _ => mT rfl) (kf 2 rfl kr (.inl rfl) rfl dc (fun _ _ h => ⟨h.1, km br h.2⟩) ⟨d, fun _ => n⟩ (fun _ _ _ _ => jE xk rfl) (kf 3 rfl kr (.inl rfl) rfl dc (fun _ _ h => ⟨h.1, km br h.2⟩) ⟨d, fun _ => n⟩ (fun l W q s => have p := s.1; jx rfl (jJ p (Mt Mh) rfl gU)) (kf 4 rfl kr (.inl rfl) rfl dc (fun _ _ h => ⟨h.1, km br h.2⟩) ⟨d, fun _ => n⟩ (fun l W q s => have p := s.1; jx c2 (jD p Mh (jA G) rfl bG aS)) ?_)))))
 obtain ⟨e5, a9⟩ := c8
 refine kf 5 rfl kr (.inl rfl) rfl dc (fun _ _ h => ⟨h.1, km br h.2⟩) ⟨d, fun _ => n⟩ (fun l W q s => have p := (s.2 (q.Bb 7 [5] kr rfl)); pd (k := G) (z := (.map none)) Ai eU fH rfl rfl a9 (fun b o L => p.2 b o (Ml L))) (kf 6 rfl kr (.inl rfl) rfl dc (fun _ _ h => ⟨h.1, km br h.2⟩) ⟨d, fun _ => n⟩ (fun _ _ _ _ => jz c1) ?_)
 replace m := m.perm (Nr (Qb (Qb Qz)) Nz)
 refine bS T fun f3 c7 T => XO 7 rfl (MK (k := G) (v := true) (vf := (fun (x : Bool) => (Value.bool x)))  jR.1 GM fM m a9 rfl rfl rfl c7 (fun e8 c9 m c5 => ?_))
 have d := m.has.jv (Dr (Kb (Kb Sn)))
 refine ⟨⟨d, fun h => xr kr h⟩, (kP kr (jH (sg (Wh O (Wn (Wf E7 (VB m (Ma (Mt Mh)) rfl rfl bR (Wi rfl (Wn (Wf E7 ?_))))))))))⟩
 replace m := m.perm (Nb (Pr (Pb Pz)) Nz)
 refine VO (jK (.int .i64 (wi0 .i64 (H + 1))) (#[g, a, j, c, i, (.int .i64 (wi0 .i64 (H + 1)))]) m rfl rfl dW (wQ _ (wi0 .i64 (H + 1))) nb rfl (fun e9 m => ln ?_))
 replace m := m.drew
 have d := m.has.jv (Db (Dr (Kb Sn)))
 have n := m.has.jv (Kb Sn)
 refine tE 12 d n kp (kf 0 rfl kr (.inl rfl) rfl dc (fun _ _ h => ⟨h.1, km br h.2⟩) ⟨d, fun _ => n⟩ (fun _ _ _ _ => jz O) (kf 1 rfl kr (.inl rfl) rfl dc (fun _ _ h => ⟨h.1, km br h.2⟩) ⟨d, fun _ => n⟩ (fun _ _ _ _ => jz O) (kf 2 rfl kr (.inl rfl) rfl dc (fun _ _ h => ⟨h.1, km br h.2⟩) ⟨d, fun _ => n⟩ (fun _ _ _ _ => mT rfl) (kf 3 rfl kr (.inl rfl) rfl dc (fun _ _ h => ⟨h.1, km br h.2⟩) ⟨d, fun _ => n⟩ (fun _ _ _ _ => jE AG rfl) (kf 4 rfl kr (.inl rfl) rfl dc (fun _ _ h => ⟨h.1, km br h.2⟩) ⟨d, fun _ => n⟩ (fun l W q s => have p := (s.2 (q.Bb 12 [4] kr rfl)); jx rfl (jJ p Mh rfl isAgg89)) (kf 5 rfl kr (.inl rfl) rfl dc (fun _ _ h => ⟨h.1, km br h.2⟩) ⟨d, fun _ => n⟩ (fun l W q s => have p := s.1; jx c2 (jD p Mh (jA G) rfl bG aS)) (kf 6 rfl kr (.inl rfl) rfl dc (fun _ _ h => ⟨h.1, km br h.2⟩) ⟨d, fun _ => n⟩ (fun _ _ _ _ => jz c1) (kf 7 rfl kr (.inl rfl) rfl dc (fun _ _ h => ⟨h.1, km br h.2⟩) ⟨d, fun _ => n⟩ (fun _ _ _ _ => lf (v := (.agg (kq (⟨G, U⟩ : jM)).toArray)) (ov rfl rfl) (kH eP eS (MG _ eS) kr)) (XE 8 rfl (jY (cs := (kq (⟨G, U⟩ : jM)).toArray) m (lM rfl) (mf cU du eP) (fun f0 d4 m => ?_)))))))))))
 have d := m.has.jv (Db (Db (Dr (Kb Sn))))
 have n := m.has.jv (Db (Kb Sn))
 refine ⟨⟨d, fun _ => n⟩, ?_⟩
 replace m := m.perm (Nr (Qb (Qb (Qr (Qb (Qr (Qr (Qr Qz))))))) Nz)
 refine bS T fun b0 c6 T => XE 9 rfl (Kx (enc := kq) (v := i) (vs := (.slice (some ⟨d4, 0, none⟩) 1 1)) (R := t) m qu dc zf cU uo.1 uo.2.1 rfl uo.2.2.1 uo.2.2.2 rfl rfl K (Sl.lit (enc := kq) (l := [(⟨G, U⟩ : jM)]) qu rfl nb rfl (m.at_ (Ma Mh))) c6 (fun f1 e6 d0 m a7 => ?_))
 have d := m.has.jv (Dr (Db (Db (Dr (Kb Sn)))))
 have n := m.has.jv (Dr (Db (Kb Sn)))
 refine ⟨⟨d, fun _ => n⟩, (kf 10 rfl kr (.inl rfl) rfl dc (fun _ _ h => ⟨h.1, km br h.2⟩) ⟨d, fun _ => n⟩ (fun _ _ _ _ => mT rfl) (kf 11 rfl kr (.inl rfl) rfl dc (fun _ _ h => ⟨h.1, km br h.2⟩) ⟨d, fun _ => n⟩ (fun _ _ _ _ => jE AG rfl) ?_))⟩
 obtain ⟨a3, a4, rfl⟩ := a7.form
 let a2 : Value := (.slice a3 b0.length a4)
 replace m := m.perm (Nb (Pr (Pb Pz)) Nz)
 refine XO 12 rfl (jK a2 (#[g, a, j, c, a2, (.int .i64 (wi0 .i64 (H + 1)))]) m rfl rfl sizeOf89 oc nb rfl (fun e0 m => ?_))
 have d := m.has.jv (Db (Dr (Db (Dr (Kb Sn)))))
 refine ⟨⟨d, fun h => xr kr h⟩, (kP kr (qy ?_))⟩
 obtain rfl := sj T
 exact oN rfl ⟨_, _, rfl, (m.lU (Kb (Sr (Qr (Qb Qz)) (Sr (Qr (Qb (Qb Qz))) (Sr (Qr (Qb (Qb Qz))) (Sr (Qr (Qb (Qb Qz))) (Kr Sn))))))), c9, a2, d0, rfl, rfl, c5.e, a7⟩
theorem vN (a : Value) (g : List (ByteArray × Bool)) (r : Unit) (w : World) (c : uV Value.string (fun (x : Bool) => (Value.bool x)) (hp w) a g) (hm : oL g = some r) :
  kR true pg0 157 [a] w [] (fun v k W' => ∃ i, v = (.func (.func 170) #[] #[(.pointer (some ⟨i, 0, none⟩))]) ∧ k = ((i, Ob #[a] 136) :: [])) := by
 refine wm 4 func157 rfl (fun b => sg ?_)
 obtain ⟨t, rfl⟩ := c.form
 refine VE (kv b rfl (fun u j b => Wa (lr (V (qJ (by exact ue rfl) rfl) (Wa (lt ?_))))))
 obtain rfl := sj hm
 exact lj (v := (.func (.func 170) #[] #[(.pointer (some ⟨j, 0, none⟩))])) rfl rfl ⟨_, _, rfl, (b.Ih (Kb Sn)), j, rfl, rfl⟩
theorem HP {β : Type} {vf : β → Value} {l : List (ByteArray × β)} {b : Nat} {a : Value} {W : World} {r : List ByteArray} (d : W.heap[b]? = some (.cells #[a] 136 (0, 0))) (hm : uV Value.string vf (hp W) a l) (hk : Gi l = some r) : lC false pg0 156 [.func (.func 170) #[] #[.pointer (some ⟨b, 0, none⟩)]] W 9 tj 1 r := Ki (P := pg0) QG Qp RZ rfl bZ call170 call169 d hm hk
theorem yi (T : Nat) (a : Value) (u : List (jr × (List (ByteArray × Bool)))) (c : Value) (t : List js) (j : Value) (G : List (jr × (List js))) (g : Value) (B : List (ByteArray × (List js))) (i : Value) (D : List jM) (Q : Int) (H : jr) (r : List ByteArray) (w : World) (J : pD (fun (x : jr) => (.agg (jA x).toArray)) (lN Value.string (fun (x : Bool) => (Value.bool x))) (hp w) a u) (Z : Sl (Pl jw) 9 (hp w) c t) (a4 : pD (fun (x : jr) => (.agg (jA x).toArray)) (jV 49 jw 9) (hp w) j G) (a0 : pD Value.string (jV 49 jw 9) (hp w) g B) (a3 : Sl (Pl kq) 3 (hp w) i D) (Y : At (hp w) (.pointer (some ⟨T, 0, none⟩)) [a, c, j, g, i, (.int .i64 Q)]) (hm : qw u t G B D Q H = some r) :
  lC false pg0 146 [(.pointer (some ⟨T, 0, none⟩)), (.agg (jA H).toArray)] w 9 tj 1 r := by
 refine wm 15 func146 rfl (fun d => sg (VE (kv d rfl (fun W2 W d => Wa (lS (Wm (V (xi underlying106 rfl rfl) (ln (tw rfl ?_)))))))))
 refine kn (jL ?_)
 replace d := d.drew
 have h := d.has.jv (Kb Sn)
 refine kO h kp (X 0 rfl h (jz rfl) (X 1 rfl h (mT rfl) (XQ 2 rfl h (qz [a] xk rfl Y rfl) (fun b9 E => XH 3 rfl h (fun _ l => jx rfl (ni l (y := a) E gU)) (XH 4 rfl h (fun _ l => jx rfl (jD l Mh (jA H) rfl bG aS)) ?_)))))
 obtain ⟨a9, b4, K, M⟩ := J
 refine XH 5 rfl h (fun _ l => pd (k := H) (z := (.map none)) Ai eU fH rfl rfl K (fun b o m => l.1 b o (M b o m))) (bS hm fun c0 L hm => ?_)
 refine XE 6 rfl (AT d (bT _) call157 (fun _ _ _ _ => kR.lG (vN (rz jQ a9 H (.map none)) ((kZ jQ u H).getD []) _ _ ((mJ.Dl jR.1 K H M).mono d.jF) L)) (fun b5 c2 c3 b3 d I q n a5 => ?_) (L0 := []))
 obtain ⟨b7, N, rfl⟩ := a5
 replace N := N.symm; subst N
 replace d := d.perm (Tb Tn)
 have h := d.has.qX I (Db (Kb Sn))
 refine ⟨h, (bS hm fun c1 O hm => XE 7 rfl (rH d call156 (HP (vf := (fun (x : Bool) => (Value.bool x))) (d.has.2 _ _ Mh) ((mJ.Dl jR.1 K H M).mono (fun b o m => d.has.1 b o (I b o m))) O) (fun b6 R c4 P d a2 s U => ?_)))⟩
 have h := d.has.qX (I.trans a2) (Dr (Db (Kb Sn)))
 refine ⟨h, (X 8 rfl h (mw rfl) (kP kr (jH ?_)))⟩
 replace d := d.jv (Kr (Db (Db St)))
 refine ke ?_
 obtain rfl := sj hm
 exact lj (v := R) rfl rfl ⟨_, P, rfl, d.oa (fun p m => (Ml m)) U.nd, U⟩
theorem DN (K : Nat) (g : Value) (N : List (jr × (List (ByteArray × Bool)))) (G : LO) (a : Value) (H : List js) (k : LO) (j : Value) (J : List (jr × (List js))) (u : LO) (c : Value) (I : List (ByteArray × (List js))) (t : LO) (z : Value) (M : List jM) (B : LO) (Z : Int) (L a2 : jr) (r : ((List (jr × (List (ByteArray × Bool)))) × (List jM) × Int)) (w : World) {μ0 : jW} (h0 : ny μ0 ((K, Ob #[g, a, j, c, z, (.int .i64 Z)] 135) :: (G ++ (k ++ (u ++ (t ++ (B ++ [])))))) w) (a5 : lY (fun (x : jr) => (.agg (jA x).toArray)) (lN Value.string (fun (x : Bool) => (Value.bool x))) g N G) (Q : jV 49 jw 9 a H k) (a4 : lY (fun (x : jr) => (.agg (jA x).toArray)) (jV 49 jw 9) j J u) (T : lY Value.string (jV 49 jw 9) c I t) (a3 : pW 111 kq 3 z M B) (hm : uh N H J I M Z L a2 = some r) :
  kR false pg0 158 [(.pointer (some ⟨K, 0, none⟩)), (.agg (jA L).toArray), (.agg (jA a2).toArray)] w ((K, Ob #[g, a, j, c, z, (.int .i64 Z)] 135) :: (G ++ (k ++ (u ++ (t ++ (B ++ [])))))) (fun v L1 W' => ∃ S1 y3 S4, v = (.tuple #[]) ∧ L1 = ((K, Ob #[g, a, j, c, y3, (.int .i64 (r.2.2))] 135) :: (S1 ++ (k ++ (u ++ (t ++ (S4 ++ [])))))) ∧ lY (fun (x : jr) => (.agg (jA x).toArray)) (lN Value.string (fun (x : Bool) => (Value.bool x))) g r.1 S1 ∧ pW 111 kq 3 y3 r.2.1 S4) := by
 refine yF h0 21 func158 rfl (fun d => sg (VE (kv d rfl (fun W2 b1 d => VE (kv d rfl (fun W4 b3 d => lr (Wm (VA d (Mt Mh) (jA L) bG aS (bS hm fun r5 e6 hm => VE (rH d call146 (yi K g N a H j J c I z M Z L _ _ (a5.at (fun b o l => d.at_ (Mt (Mt (Mt (Ml l)))))) (Q.sl kc (fun b o l => d.at_ (Mt (Mt (Mt (Ma (Ml l))))))) (a4.at (fun b o l => d.at_ (Mt (Mt (Mt (Ma (Ma (Ml l)))))))) (T.at (fun b o l => d.at_ (Mt (Mt (Mt (Ma (Ma (Ma (Ml l))))))))) ((a3.DH qu).mono (Pl.mono _) (lR (fun b o l => d.at_ (Mt (Mt (Mt (Ma (Ma (Ma (Ma (Ml l))))))))))) (At.of (d.at_ (Mt (Mt Mh))) _ rfl) e6) (fun W7 e7 s e2 d f5 ae a9 => V (oE dn rfl a9) (Wm ?_))))))))))))
 refine ln ?_
 replace d := d.jv (Kr (Kb (Db St)))
 refine re (kA (fun i E W => ∃ m U a0 n Y q O b7, (E 12 = .int .i64 (i : Nat) ∧ E 11 = .int .i64 (r5.length : Nat)) ∧ jX s O ∧ ST false (keys ((K, Ob #[g, a, j, c, z, (.int .i64 Z)] 135) :: (G ++ (k ++ (u ++ (t ++ (B ++ []))))))) w W O ((K, Ob #[g, a, j, c, a0, (.int .i64 q)] 135) :: ((b3, Ol (jA a2) 27) :: (U ++ (k ++ (u ++ (t ++ (Y ++ (e2 ++ b7)))))))) ∧ E 0 = (.pointer (some ⟨K, 0, none⟩)) ∧ E 5 = (.pointer (some ⟨b3, 0, none⟩)) ∧ E 10 = e7 ∧ lY (fun (x : jr) => (.agg (jA x).toArray)) (lN Value.string (fun (x : Bool) => (Value.bool x))) g m U ∧ pW 111 kq 3 a0 n Y ∧ pV H J I a2 (r5.drop i) m n q = some r) r5.length a9.len ⟨N, G, z, M, B, Z, s, _, ⟨rfl, rfl⟩, (jX.refl _), (d.jv (Sb (Pr (Pb Pz)) (Sb (Pr Pz) (Sr (Qr Qz) (Sr (Qr Qz) (Sr (Qr Qz) (Sr (Qr Qz) (Sr (Qr Qz) St)))))))), rfl, rfl, rfl, a5, a3, hm⟩ dc dc dc (fun _ _ _ h => by obtain ⟨_, _, _, _, _, _, _, _, aa, _⟩ := h; exact aa) ?_ ?_)
 ·rintro d8 E W c9 ⟨m, U, a0, n, Y, q, O, b7, ⟨eI, eN⟩, b6, d, c0, c1, c2, P, R, D⟩
  obtain ⟨c4, f0, d2, c5, d3⟩ := ku c9
  rw [d2] at D
  refine bg (VQ (oT (i := (d8 : Int)) (x0 := c4) dn fw c2 eI a9 (aG _) c5) (fun f6 d0 => V (jx rfl (CH d.has (fun p l => (Mt (Mt (Ma (Ma (Ma (Ma (Ma (Ml l))))))))) a9 (fun _ => rfl) d0 c5 (y := (.string c4)) rfl bV)) (Wa (ln (jG (Wh c0 (V (jx c1 (jD d.has (Mt Mh) (jA a2) rfl bG aS)) (Wm (bS D fun c3 d1 D => ?_)))))))))
  refine VE (eM d (Cb Pz (Cr (Qb Qz) (Cr (Qb Qz) (Cr (Qb Qz) (Cr (Qb Qz) (Cr (Qb Qz) Cn)))))) call145 (fun hh _ => kR.lG (qQ K g m U a H k j J u c I t a0 n Y q a2 c4 _ _ hh P Q a4 T R d1)) ?_)
  rintro _ f7 e1 f2 d c7 ab ad ⟨d6, e0, d7, b4, rfl, d4, d5⟩
  obtain rfl := b4.symm
  replace d := d.perm (Tb (Tr (Tr (Tr (Tr (Tr Tn))))))
  exact jT (kl (jH ⟨eI, c3.1, d6, e0, c3.2.1, d7, c3.2.2, e1, _, ⟨rfl, eN⟩, (b6.trans c7), (d.jv (Kb (Sb (Pr (Pr (Pr (Pr (Pr Pz))))) St))), c0, c1, c2, d4, d5, (by rw [d3]; exact D)⟩))
 rintro E W ⟨m, U, a0, n, Y, q, O, b7, ⟨eI, eN⟩, b6, d, c0, c1, c2, P, R, D⟩
 rw [aM] at D
 refine jH ?_
 replace d := d.jv (Kb (Db (Kr (Kr (Kr (Kr (Kr (Dr St))))))))
 refine qy ?_
 obtain rfl := sj D
 exact oN rfl ⟨_, _, rfl, (d.lU (Kb (Kr (Kr (Kr (Kr (Kr Sn))))))), U, a0, Y, rfl, rfl, P, R⟩
theorem zc (K : Nat) (G : Value) (Z : List (jr × (List (ByteArray × Bool)))) (D : LO) (g : Value) (I : List js) (a : LO) (B : Value) (N : List (jr × (List js))) (y : LO) (i : Value) (J : List (ByteArray × (List js))) (c : LO) (t : Value) (M : List jM) (j : LO) (a0 : Int) (Q : js) (a2 : jM) (r : ((List (jr × (List (ByteArray × Bool)))) × (List jM) × Int)) (w : World) {μ0 : jW} (h0 : ny μ0 ((K, Ob #[G, g, B, i, t, (.int .i64 a0)] 135) :: (D ++ (a ++ (y ++ (c ++ (j ++ [])))))) w) (U : lY (fun (x : jr) => (.agg (jA x).toArray)) (lN Value.string (fun (x : Bool) => (Value.bool x))) G Z D) (T : jV 49 jw 9 g I a) (a3 : lY (fun (x : jr) => (.agg (jA x).toArray)) (jV 49 jw 9) B N y) (Y : lY Value.string (jV 49 jw 9) i J c) (H : pW 111 kq 3 t M j) (hm : rC Z I N J M a0 Q a2 = some r) :
  kR false pg0 147 [(.pointer (some ⟨K, 0, none⟩)), (.agg (jw Q).toArray), (.agg (kq a2).toArray)] w ((K, Ob #[G, g, B, i, t, (.int .i64 a0)] 135) :: (D ++ (a ++ (y ++ (c ++ (j ++ [])))))) (fun v L1 W' => ∃ S1 y3 S4, v = (.tuple #[]) ∧ L1 = ((K, Ob #[G, g, B, i, y3, (.int .i64 (r.2.2))] 135) :: (S1 ++ (a ++ (y ++ (c ++ (S4 ++ [])))))) ∧ lY (fun (x : jr) => (.agg (jA x).toArray)) (lN Value.string (fun (x : Bool) => (Value.bool x))) G r.1 S1 ∧ pW 111 kq 3 y3 r.2.1 S4) := by
 let s := (#[G, g, B, i, t, (.int .i64 a0)] : Array Value)
 refine yF h0 57 func147 rfl (fun d => sg (VE (kv d rfl (fun W2 L d => VE (kv d rfl (fun W4 P d => lr (Wf qC (VB d (Mt Mh) rfl rfl bR (ln (lz (jL ?_)))))))))))
 refine jG (Wi rfl (Wa (ln (CI hm rfl (fun e5 hm => ?_) (fun e5 hm => ?_)))))
 ·refine jG (Wm (Wf qN (VA d (Mt Mh) (jA Q.Head) bG aS (Wf vY (VB d Mh rfl rfl bV (bS hm fun r6 e6 hm => ?_))))))
  refine VE (eM d (Cb (Pb (Pb Pz)) (Cr (Qb (Qb Qz)) (Cr (Qb (Qb Qz)) (Cr (Qb (Qb Qz)) (Cr (Qb (Qb Qz)) (Cr (Qb (Qb Qz)) Cn)))))) call145 (fun q _ => kR.lG (qQ K G Z D g I a B N y i J c t M j a0 Q.Head a2.kE _ _ q U T a3 Y H e6)) ?_)
  rintro _ g7 ad f8 d f2 a6 m ⟨d2, e7, d3, a8, rfl, c5, c6⟩
  obtain rfl := a8.symm
  replace d := d.perm (Tb (Tr (Tr (Tr (Tr (Tr Tn))))))
  refine jT (kl (qy ?_))
  obtain rfl := sj hm
  exact oN rfl ⟨_, _, rfl, (d.lU (Kb (Kr (Kr (Kr (Kr (Kr Sn))))))), d2, e7, d3, rfl, rfl, c5, c6⟩
 refine sg (Wi rfl (Wa (ln (CI hm rfl (fun c0 hm => ?_) (fun c0 hm => ?_)))))
 ·refine jG (Wm (Wf vY (VB d Mh rfl rfl bV (Wf uv (VB d (Mt Mh) rfl rfl bV (V (lf (v := (.agg (jA (⟨a2.kE, Q.kM⟩ : jr)).toArray)) (ov rfl rfl) (kH et dr (Jj _ dr) kr)) (Wf qN (VA d (Mt Mh) (jA Q.Head) bG aS (bS hm fun g3 c3 hm => ?_)))))))))
  refine VE (eM d (Cb (Pb (Pb Pz)) (Cr (Qb (Qb Qz)) (Cr (Qb (Qb Qz)) (Cr (Qb (Qb Qz)) (Cr (Qb (Qb Qz)) (Cr (Qb (Qb Qz)) Cn)))))) call158 (fun q _ => (DN K G Z D g I a B N y i J c t M j a0 (⟨a2.kE, Q.kM⟩ : jr) Q.Head _ _ q U T a3 Y H c3)) ?_)
  rintro _ g8 h2 f9 d f3 aa m ⟨d4, e9, d5, a9, rfl, c7, c8⟩
  obtain rfl := a9.symm
  replace d := d.perm (Tb (Tr (Tr (Tr (Tr (Tr Tn))))))
  refine jT (kl (qy ?_))
  obtain rfl := sj hm
  exact oN rfl ⟨_, _, rfl, (d.lU (Kb (Kr (Kr (Kr (Kr (Kr Sn))))))), d4, e9, d5, rfl, rfl, c7, c8⟩
 refine sg (Wi rfl (Wa (ln (CI hm rfl (fun c1 hm => ?_) (fun c1 hm => ?_)))))
 ·refine jL ?_
  replace d := d.drew
  have h := d.has.jv (Kb (Kb (Kb (Kr Sn))))
  refine kO h kp (X 0 rfl h (jz rfl) (X 1 rfl h (mT rfl) (X 2 rfl h (jE xk rfl) (XH 3 rfl h (fun _ l => jx rfl (jJ l (Mt (Mt Mh)) rfl gU)) (X 4 rfl h (jE nz rfl) (XH 5 rfl h (fun _ l => jx rfl (jD l (Mt Mh) (jA Q.B) rfl bG aS)) ?_))))))
  obtain ⟨f7, a5⟩ := U
  refine XH 6 rfl h (fun _ l => pd (k := Q.B) (z := (.map none)) Ai eU fH rfl rfl a5 (fun b o n => l.2 b o (Mt (Mt (Mt (Ml n)))))) (X 7 rfl h (jE vY rfl) (XH 8 rfl h (fun _ l => jx rfl (jJ l Mh rfl bV)) (XH 9 rfl h (fun _ l => zM (k := a2.kE) (z := false) (vf := (fun (x : Bool) => (Value.bool x))) GM fM gp rfl rfl (mJ.Dl (μ := hp _) jR.1 a5 Q.B (fun b o n => l.2 b o (Mt (Mt (Mt (Ml n))))))) (X 10 rfl h (jz rfl) (PJ hm (fun b5 E W => ∃ R, ST false (keys ((K, Obj.cells s 135 (0, 0)) :: (D ++ (a ++ (y ++ (c ++ (j ++ []))))))) w W μ0 ((P, Ol (kq a2) 111) :: ((L, Ol (jw Q) 49) :: ((K, Obj.cells s 135 (0, 0)) :: (D ++ (a ++ (y ++ (c ++ (j ++ R)))))))) ∧ E 0 = (.pointer (some ⟨K, 0, none⟩)) ∧ E 4 = (.pointer (some ⟨L, 0, none⟩)) ∧ E 5 = (.pointer (some ⟨P, 0, none⟩)) ∧ E 50 = (.bool b5)) (bm 22 4194303) 0 ?_ (fun b5 p O => ?_))))))
  ·rintro h1 E W ⟨R, d, e1, e2, e3, e4⟩ a4
   refine kP kr (jH (CI a4 e4 (fun c2 a4 => ?_) (fun c2 a4 => ?_)))
   ·refine jG (Wh e1 (V (jE qN e2) (VA d (Mt Mh) (jA Q.Head) bG aS (V (jE vY e3) (VB d Mh rfl rfl bV (bS a4 fun g4 c4 a4 => ?_))))))
    refine VE (eM d (Cb (Pb (Pb Pz)) (Cr (Qb (Qb Qz)) (Cr (Qb (Qb Qz)) (Cr (Qb (Qb Qz)) (Cr (Qb (Qb Qz)) (Cr (Qb (Qb Qz)) Cn)))))) call145 (fun q _ => kR.lG (qQ K G Z D g I a B N y i J c t M j a0 Q.Head a2.kE _ _ q a5.e T a3 Y H c4)) ?_)
    rintro _ g9 h3 g0 d f4 ab m ⟨d7, f0, d8, b0, rfl, c9, d0⟩
    obtain rfl := b0.symm
    replace d := d.perm (Tb (Tr (Tr (Tr (Tr (Tr Tn))))))
    refine jT (kl (qy ?_))
    obtain rfl := sj a4
    exact oN rfl ⟨_, _, rfl, (d.lU (Kb (Kr (Kr (Kr (Kr (Kr Sn))))))), d7, f0, d8, rfl, rfl, c9, d0⟩
   refine kQ (kl (qy ?_))
   obtain rfl := sj a4
   exact oN rfl ⟨_, _, rfl, (d.lU (Db (Db (Kb (Kr (Kr (Kr (Kr (Kr Sn))))))))), D, t, j, rfl, rfl, a5.e, H⟩
  refine bC p (fun u p => ?_) (fun u p => ?_)
  ·refine Xg 11 rfl rfl (cB u) h (jz rfl) (Xg 12 rfl rfl (cB u) h (mT rfl) (Xg 13 rfl rfl (cB u) h (jE xk rfl) (sZ 14 rfl rfl (cB u) h (fun _ l => jx rfl (jJ l (Mt (Mt Mh)) rfl gU)) (Xg 15 rfl rfl (cB u) h (jE sE rfl) (sZ 16 rfl rfl (cB u) h (fun _ l => jx rfl (jD l (Mt Mh) (jA Q.C) rfl bG aS)) (sZ 17 rfl rfl (cB u) h (fun _ l => pd (k := Q.C) (z := (.map none)) Ai eU fH rfl rfl a5 (fun b o n => l.2 b o (Mt (Mt (Mt (Ml n)))))) (Xg 18 rfl rfl (cB u) h (jE vY rfl) (sZ 19 rfl rfl (cB u) h (fun _ l => jx rfl (jJ l Mh rfl bV)) (sZ 20 rfl rfl (cB u) h (fun _ l => zM (k := a2.kE) (z := false) (vf := (fun (x : Bool) => (Value.bool x))) GM fM gp rfl rfl (mJ.Dl (μ := hp _) jR.1 a5 Q.C (fun b o n => l.2 b o (Mt (Mt (Mt (Ml n))))))) (X 21 rfl h (jO (cB u) rfl) ?_))))))))))
   obtain rfl := sj p
   refine ml kr (O _ _ ⟨_, (d.jv St), rfl, rfl, rfl, rfl⟩)
  refine Xn 11 rfl rfl (cB u) h (Xn 12 rfl rfl (cB u) h (Xn 13 rfl rfl (cB u) h (Xn 14 rfl rfl (cB u) h (Xn 15 rfl rfl (cB u) h (Xn 16 rfl rfl (cB u) h (Xn 17 rfl rfl (cB u) h (Xn 18 rfl rfl (cB u) h (Xn 19 rfl rfl (cB u) h (Xn 20 rfl rfl (cB u) h (X 21 rfl h (jP (cB u) rfl) ?_))))))))))
  obtain rfl := sj p
  refine ml kr (O _ _ ⟨_, (d.jv St), rfl, rfl, rfl, rfl⟩)
 refine kQ (kl (qy ?_))
 obtain rfl := sj hm
 exact oN rfl ⟨_, _, rfl, (d.lU (Db (Db (Kb (Kr (Kr (Kr (Kr (Kr Sn))))))))), D, t, j, rfl, rfl, U, H⟩
theorem Cx (K : Nat) (g : Value) (T : List (jr × (List (ByteArray × Bool)))) (D : LO) (a : Value) (G : List js) (j : LO) (t : Value) (J : List (jr × (List js))) (u : LO) (c : Value) (H : List (ByteArray × (List js))) (k : LO) (z : Value) (M : List jM) (B : LO) (a0 : Int) (Z : js) (r : ((List (jr × (List (ByteArray × Bool)))) × (List jM) × Int)) (w : World) {μ0 : jW} (h0 : ny μ0 ((K, Ob #[g, a, t, c, z, (.int .i64 a0)] 135) :: (D ++ (j ++ (u ++ (k ++ (B ++ [])))))) w) (a2 : lY (fun (x : jr) => (.agg (jA x).toArray)) (lN Value.string (fun (x : Bool) => (Value.bool x))) g T D) (N : jV 49 jw 9 a G j) (Y : lY (fun (x : jr) => (.agg (jA x).toArray)) (jV 49 jw 9) t J u) (Q : lY Value.string (jV 49 jw 9) c H k) (U : pW 111 kq 3 z M B) (hm : sK T G J H M a0 Z = some r) :
  kR false pg0 121 [(.pointer (some ⟨K, 0, none⟩)), (.agg (jw Z).toArray)] w ((K, Ob #[g, a, t, c, z, (.int .i64 a0)] 135) :: (D ++ (j ++ (u ++ (k ++ (B ++ [])))))) (fun v L1 W' => ∃ S1 y3 S4, v = (.tuple #[]) ∧ L1 = ((K, Ob #[g, a, t, c, y3, (.int .i64 (r.2.2))] 135) :: (S1 ++ (j ++ (u ++ (k ++ (S4 ++ [])))))) ∧ lY (fun (x : jr) => (.agg (jA x).toArray)) (lN Value.string (fun (x : Bool) => (Value.bool x))) g r.1 S1 ∧ pW 111 kq 3 y3 r.2.1 S4) := by
 refine yF h0 33 func121 rfl (fun d => sg (VE (kv d rfl (fun W2 b1 d => lr (Wf qC (VB d Mh rfl rfl bR (ln (bg ?_))))))))
 refine Wi rfl (Wa (ln (CI hm rfl (fun f1 hm => ?_) (fun f1 hm => ?_))))
 ·refine jG (Wm (Wf qN (VA d Mh (jA Z.Head) bG aS (Wf wH (VB d Mh rfl rfl bV (bS hm fun r4 f2 hm => ?_))))))
  refine VE (eM d (Cb (Pb Pz) (Cr (Qb Qz) (Cr (Qb Qz) (Cr (Qb Qz) (Cr (Qb Qz) (Cr (Qb Qz) Cn)))))) call145 (fun hh _ => kR.lG (qQ K g T D a G j t J u c H k z M B a0 Z.Head Z.kE _ _ hh a2 N Y Q U f2)) ?_)
  rintro _ h1 ae g8 d g2 ad m ⟨e7, f4, e8, c2, rfl, e0, e1⟩
  obtain rfl := c2.symm
  replace d := d.perm (Tb (Tr (Tr (Tr (Tr (Tr Tn))))))
  refine jT (kl (qy ?_))
  obtain rfl := sj hm
  exact oN rfl ⟨_, _, rfl, (d.lU (Kb (Kr (Kr (Kr (Kr (Kr Sn))))))), e7, f4, e8, rfl, rfl, e0, e1⟩
 refine sg (Wm (Wf nz (VA d Mh (jA Z.B) bG aS (bS hm fun c6 d9 hm => VE (rH d call146 (yi K g T a G t J c H z M a0 Z.B _ _ (a2.at (fun b o l => d.at_ (Mt (Mt (Ml l))))) (N.sl kc (fun b o l => d.at_ (Mt (Mt (Ma (Ml l)))))) (Y.at (fun b o l => d.at_ (Mt (Mt (Ma (Ma (Ml l))))))) (Q.at (fun b o l => d.at_ (Mt (Mt (Ma (Ma (Ma (Ml l)))))))) ((U.DH qu).mono (Pl.mono _) (lR (fun b o l => d.at_ (Mt (Mt (Ma (Ma (Ma (Ma (Ml l)))))))))) (At.of (d.at_ (Mt Mh)) _ rfl) d9) (fun g9 f3 d5 e5 d f6 ab O => V (oE dn rfl O) (Wm (ln (re (kA (fun i E W => ∃ n a3 a5 q a4 a9 P b9, (E 13 = .int .i64 (i : Nat) ∧ E 12 = .int .i64 (c6.length : Nat)) ∧ jX d5 P ∧ ST false (keys ((K, Ob #[g, a, t, c, z, (.int .i64 a0)] 135) :: (D ++ (j ++ (u ++ (k ++ (B ++ []))))))) w W P ((K, Ob #[g, a, t, c, a5, (.int .i64 a9)] 135) :: ((b1, Ol (jw Z) 49) :: (a3 ++ (j ++ (u ++ (k ++ (a4 ++ (e5 ++ b9)))))))) ∧ E 0 = (.pointer (some ⟨K, 0, none⟩)) ∧ E 3 = (.pointer (some ⟨b1, 0, none⟩)) ∧ E 11 = f3 ∧ lY (fun (x : jr) => (.agg (jA x).toArray)) (lN Value.string (fun (x : Bool) => (Value.bool x))) g n a3 ∧ pW 111 kq 3 a5 q a4 ∧ pf G J H Z (c6.drop i) n q a9 = some r) c6.length O.len ⟨T, D, z, M, B, a0, d5, _, ⟨rfl, rfl⟩, (jX.refl _), (d.jv (Sb (Pr (Pb Pz)) (Sb (Pr Pz) (Sr (Qr Qz) (Sr (Qr Qz) (Sr (Qr Qz) (Sr (Qr Qz) (Sr (Qr Qz) St)))))))), rfl, rfl, rfl, a2, U, hm⟩ dc dc dc (fun _ _ _ h => by obtain ⟨_, _, _, _, _, _, _, _, a1, _⟩ := h; exact a1) ?_ ?_))))))))))
 ·rintro e2 E W c8 ⟨n, a3, a5, q, a4, a9, P, b9, ⟨eI, eN⟩, b7, d, c0, L, c1, R, b4, I⟩
  obtain ⟨s, f7, d1, c4, d2⟩ := ku c8
  rw [d1] at I
  refine bg (VQ (oT (i := (e2 : Int)) (x0 := s) dn fw c1 eI O (aG _) c4) (fun g3 c9 => V (jx rfl (CH d.has (fun p l => (Mt (Mt (Ma (Ma (Ma (Ma (Ma (Ml l))))))))) O (fun _ => rfl) c9 c4 (y := (.string s)) rfl bV)) (Wa (ln (jG (Wh c0 (V (jx L (jD d.has (Mt Mh) (jw Z) rfl bQ aN)) (V (jE nz L) (VA d (Mt Mh) (jA Z.B) bG aS (Wm (V (lf (v := (.agg (kq (⟨Z.B, s⟩ : jM)).toArray)) (ov rfl rfl) (kH eP eS (MG _ eS) kr)) ?_)))))))))))
  refine bS I fun c3 d0 I => ?_
  refine VE (eM d (Cb Pz (Cr (Qb Qz) (Cr (Qb Qz) (Cr (Qb Qz) (Cr (Qb Qz) (Cr (Qb Qz) Cn)))))) call147 (fun hh _ => (zc K g n a3 a G j t J u c H k a5 q a4 a9 Z (⟨Z.B, s⟩ : jM) _ _ hh R N Y Q b4 d0)) ?_)
  rintro _ g4 e4 f9 d c5 aa m ⟨d6, e3, d7, b5, rfl, d3, d4⟩
  obtain rfl := b5.symm
  replace d := d.perm (Tb (Tr (Tr (Tr (Tr (Tr Tn))))))
  exact jT (kl (jH ⟨eI, c3.1, d6, e3, c3.2.1, d7, c3.2.2, e4, _, ⟨rfl, eN⟩, (b7.trans c5), (d.jv (Kb (Sb (Pr (Pr (Pr (Pr (Pr Pz))))) St))), c0, L, c1, d3, d4, (by rw [d2]; exact I)⟩))
 rintro E W ⟨n, a3, a5, q, a4, a9, P, b9, ⟨eI, eN⟩, b7, d, c0, L, c1, R, b4, I⟩
 rw [aM] at I
 refine jH ?_
 replace d := d.jv (Kb (Db (Kr (Kr (Kr (Kr (Kr (Dr St))))))))
 refine kl (qy ?_)
 obtain rfl := sj I
 exact oN rfl ⟨_, _, rfl, (d.lU (Kb (Kr (Kr (Kr (Kr (Kr Sn))))))), a3, a5, a4, rfl, rfl, R, b4⟩
theorem B0 (I : Nat) (a : Value) (e8 : List (jr × (List (ByteArray × Bool)))) (K : LO) (c : Value) (Q : List js) (j : LO) (u : Value) (N : List (jr × (List js))) (y : LO) (g : Value) (H : List (ByteArray × (List js))) (t : LO) (G : Value) (d4 : List jM) (D : LO) (a0 : Int) (r : ((List (jr × (List (ByteArray × Bool)))) × (List jM) × Int)) (w : World) {μ0 : jW} (h0 : ny μ0 ((I, Ob #[a, c, u, g, G, (.int .i64 a0)] 135) :: (K ++ (j ++ (y ++ (t ++ (D ++ [])))))) w) (h4 : lY (fun (x : jr) => (.agg (jA x).toArray)) (lN Value.string (fun (x : Bool) => (Value.bool x))) a e8 K) (c1 : jV 49 jw 9 c Q j) (g7 : lY (fun (x : jr) => (.agg (jA x).toArray)) (jV 49 jw 9) u N y) (c2 : lY Value.string (jV 49 jw 9) g H t) (g4 : pW 111 kq 3 G d4 D) (hm : uJ e8 Q N H d4 a0 = some r) :
  kR false pg0 122 [(.pointer (some ⟨I, 0, none⟩))] w ((I, Ob #[a, c, u, g, G, (.int .i64 a0)] 135) :: (K ++ (j ++ (y ++ (t ++ (D ++ [])))))) (fun v L1 W' => ∃ S1 y3 S4, v = (.tuple #[]) ∧ L1 = ((I, Ob #[a, c, u, g, y3, (.int .i64 (r.2.2))] 135) :: (S1 ++ (j ++ (y ++ (t ++ (S4 ++ [])))))) ∧ lY (fun (x : jr) => (.agg (jA x).toArray)) (lN Value.string (fun (x : Bool) => (Value.bool x))) a r.1 S1 ∧ pW 111 kq 3 y3 r.2.1 S4) := by
 let g5 : Value := (.pointer (some ⟨I, 0, none⟩))
 let b8 := ((I, Ob #[a, c, u, g, G, (.int .i64 a0)] 135) :: (K ++ (j ++ (y ++ (t ++ (D ++ []))))))
 refine yF h0 75 func122 rfl (fun d => re (lz (mX (fun m E W => ∃ e3 b7 e4 a1 b9 d1 b4 h5, jX μ0 b4 ∧ ST false (keys b8) w W b4 ((I, Ob #[a, c, u, g, e4, (.int .i64 d1)] 135) :: (b7 ++ (j ++ (y ++ (t ++ (b9 ++ h5)))))) ∧ E 0 = g5 ∧ lY (fun (x : jr) => (.agg (jA x).toArray)) (lN Value.string (fun (x : Bool) => (Value.bool x))) a e3 b7 ∧ pW 111 kq 3 e4 a1 b9 ∧ nj Q N H m e3 a1 d1 = some r) kd ⟨e8, K, G, d4, D, a0, μ0, _, (jX.refl _), (d.jv St), rfl, h4, g4, hm⟩ ?_)))
 rintro m E W ⟨e3, b7, e4, a1, b9, d1, b4, h5, i0, d, O, g9, c5, M⟩
 cases m with
 | zero => rw [nj] at M; cases M
 | succ n0 =>
  refine jL (sg (Wh O (Wn (Wf AG (VB d Mh rfl rfl isAgg89 (V (O8 cU rfl c5) (Wi rfl (ln (CI M rfl (fun i7 M => ?_) (fun i7 M => ?_))))))))))
  ·refine kn (bg (Wh O (Wn (Wf AG (VB d Mh rfl rfl isAgg89 (bS M fun B h2 M => VQ (mZ (enc := kq) (i := 0) (x0 := B) cU du rfl rfl (c5.DH qu) (kk h2) (kj h2)) (fun q0 j7 => V (jx rfl (jS (nA.hp _) (j7.mono (lR (fun b o p => d.has.2 b o (Mt (Ma (Ma (Ma (Ma (Ml p))))))))) gE du)) (VE (jU d eP (fun o9 a5 d => VO (jK (.agg (kq B).toArray) ((kq B).toArray) d rfl rfl du (zf B) nb rfl (fun p0 d => jT ?_))))))))))))
   let j2 := ((kZ jQ N B.jr).getD [])
   let j1 : Value := (.pointer (some ⟨a5, 0, none⟩))
   let i6 := ((kq B).toArray : Array Value)
   let i5 := ((kZ kU H B.jr.jy).getD [])
   refine jH (sg (Wh O (Wh O (Wn (Wf AG (VB d (Mt Mh) rfl rfl isAgg89 (bS M fun _ g8 M => VQ (Mc (i := 1) cU du rfl rfl qu c5 (uX g8) (uS g8)) (fun q3 h1 => Wn (Wf AG ?_)))))))))
   obtain ⟨f7, g0, rfl⟩ := h1.form
   let g6 : Value := (.slice f7 (a1.drop (Int.toNat 1)).length g0)
   replace d := d.perm (Nb (Pb Pz) Nz)
   refine VO (jK g6 (#[a, c, u, g, g6, (.int .i64 d1)]) d rfl rfl sizeOf89 oc nb rfl (fun p1 d => ln (jL (jL ?_))))
   replace d := d.drew
   have l := d.has.jv (Kb (Kb (Dr (Dr (Kr Sn)))))
   refine kO l kp (X 0 rfl l (jz O) (X 1 rfl l (mT rfl) (X 2 rfl l (jE KX rfl) (XH 3 rfl l (fun _ n => jx rfl (jJ n Mh rfl isAgg132)) (X 4 rfl l (jE xj rfl) (XH 5 rfl l (fun _ n => jx rfl (jD n (Mt Mh) (jA B.jr) rfl bG aS)) ?_))))))
   obtain ⟨l7, c3⟩ := g7
   obtain ⟨o7, f0, k2⟩ := mJ.rowAt jR.1 c3 B.jr
   refine XH 6 rfl l (fun _ n => pd (k := B.jr) (z := (.slice none 0 0)) Ai underlying132 gx rfl rfl c3 (fun b o p => n.2 b o (Mt (Mt (Ml p))))) (X 7 rfl l (kK aH rfl (f0.DH kc)) (X 8 rfl l (jz rfl) (kP kr (jH (CJ M (fun d0 E W => ∃ d6 e5 d7 b5 h6, jX b4 b5 ∧ ST false (keys b8) w W b5 ((I, Ob #[a, c, u, g, e5, (.int .i64 d0.2.2)] 135) :: ((a5, Obj.cells i6 111 (0, 0)) :: (d6 ++ (j ++ (y ++ (t ++ (d7 ++ h6))))))) ∧ E 0 = g5 ∧ E 2 = j1 ∧ lY (fun (x : jr) => (.agg (jA x).toArray)) (lN Value.string (fun (x : Bool) => (Value.bool x))) a d0.1 d6 ∧ pW 111 kq 3 e5 d0.2.1 d7) (fun d0 j6 => ?_) ?_)))))
   ·refine kA (fun i E W => ∃ c7 a3 b1 c8 a4 d2 d3 f9, (E 35 = .int .i64 (i : Nat) ∧ E 34 = .int .i64 (j2.length : Nat)) ∧ jX b4 d3 ∧ ST false (keys b8) w W d3 ((I, Ob #[a, c, u, g, b1, (.int .i64 d2)] 135) :: ((a5, Obj.cells i6 111 (0, 0)) :: (a3 ++ (j ++ (y ++ (t ++ (a4 ++ f9))))))) ∧ E 0 = g5 ∧ E 2 = j1 ∧ E 33 = (rz jQ l7 B.jr (.slice none 0 0)) ∧ lY (fun (x : jr) => (.agg (jA x).toArray)) (lN Value.string (fun (x : Bool) => (Value.bool x))) a c7 a3 ∧ pW 111 kq 3 b1 c8 a4 ∧ oU Q N H B (j2.drop i) c7 c8 d2 = some d0) j2.length (f0.DH kc).len ⟨e3, b7, g6, (a1.drop (Int.toNat 1)), b9, d1, b4, _, ⟨rfl, rfl⟩, (jX.refl _), (d.jv St), O, rfl, rfl, g9, h1, j6⟩ dc dc dc (fun _ _ _ h => by obtain ⟨_, _, _, _, _, _, _, _, s, _⟩ := h; exact s) ?_ ?_
    ·rintro m5 E W j0 ⟨c7, a3, b1, c8, a4, d2, d3, f9, ⟨q, eN⟩, d5, d, e1, e2, g1, f3, f4, T⟩
     obtain ⟨b3, o3, l1, l0, l2⟩ := ku j0
     rw [l1] at T
     refine bg (VQ (mZ (enc := jw) (i := (m5 : Int)) (x0 := b3) aH aN g1 q (f0.DH kc) (aG _) l0) (fun q2 j9 => V (jx rfl (jS (nA.hp _) (j9.mono (lR (fun b o p => d.has.2 b o (Mt (Mt (Ma (Ma (Ml (k2 b o p))))))))) bQ aN)) (VE (jU d cK (fun p5 p9 d => VO (jK (.agg (jw b3).toArray) ((jw b3).toArray) d rfl rfl aN (mH b3) nb rfl (fun p6 d => ln (jG (Wh e1 (VA d Mh (jw b3) bQ aN (V (jx e2 (jD d.has (Mt (Mt Mh)) (kq B) rfl gE du)) (bS T fun g3 k1 T => ?_))))))))))))
     refine VE (eM d (Cb (Pb Pz) (Cr (Qb (Qb Qz)) (Cr (Qb (Qb Qz)) (Cr (Qb (Qb Qz)) (Cr (Qb (Qb Qz)) (Cr (Qb (Qb Qz)) Cn)))))) call147 (fun hh _ => (zc I a c7 a3 c Q j u N y g H t b1 c8 a4 d2 b3 B _ _ hh f3 c1 c3.e c2 f4 k1)) ?_)
     rintro _ q5 n6 o6 d i4 ab L ⟨m1, n4, m2, f6, rfl, l5, l6⟩
     obtain rfl := f6.symm
     replace d := d.perm (Tb (Tr (Tr (Tr (Tr (Tr Tn))))))
     refine jT (kl (jH ?_))
     replace d := d.jv (Kb (Kr (Kr (Kr (Kr (Kr (Db St)))))))
     exact ⟨q, g3.1, m1, n4, g3.2.1, m2, g3.2.2, n6, _, ⟨rfl, eN⟩, (d5.trans i4), (d.jv (Kb (Sb (Pr (Pr (Pr (Pr (Pr Pz))))) St))), e1, e2, g1, l5, l6, (by rw [l2]; exact T)⟩
    rintro E W ⟨c7, a3, b1, c8, a4, d2, d3, f9, ⟨q, eN⟩, d5, d, e1, e2, g1, f3, f4, T⟩
    rw [aM] at T
    refine jH ?_
    obtain rfl := sj T
    exact ⟨a3, b1, a4, d3, _, d5, (d.jv St), e1, e2, f3, f4⟩
   rintro ⟨m6, m7, n1⟩ E W ⟨d6, e5, d7, b5, h6, i1, d, h8, h9, k3, k4⟩ j3
   refine jL ?_
   replace d := d.drew
   have l := d.has.jv (Kb (Kb (Dr (Dr (Dr (Kr Sn))))))
   refine kO l kp (X 0 rfl l (jz h8) (X 1 rfl l (mT rfl) (X 2 rfl l (jE HH rfl) (XH 3 rfl l (fun _ n => jx rfl (jJ n Mh rfl isAgg133)) (X 4 rfl l (jE xj h9) (X 5 rfl l (jE uw rfl) (XH 6 rfl l (fun _ n => jx rfl (jJ n (Mt Mh) rfl bV)) ?_)))))))
   obtain ⟨l8, e9⟩ := c2
   obtain ⟨o8, f1, k5⟩ := mJ.rowAt mg.1 e9 B.jr.jy
   refine XH 7 rfl l (fun _ n => pd (k := B.jr.jy) (z := (.slice none 0 0)) GM underlying133 gx rfl rfl e9 (fun b o p => n.2 b o (Mt (Mt (Ml p))))) (X 8 rfl l (kK aH rfl (f1.DH kc)) (X 9 rfl l (jz rfl) (kP kr (jH (re (CJ j3 (fun c9 E W => ∃ d8 e6 d9 e7 h7, jX b5 e7 ∧ ST false (keys b8) w W e7 ((I, Ob #[a, c, u, g, e6, (.int .i64 c9.2.2)] 135) :: (d8 ++ (j ++ (y ++ (t ++ (d9 ++ h7)))))) ∧ E 0 = g5 ∧ lY (fun (x : jr) => (.agg (jA x).toArray)) (lN Value.string (fun (x : Bool) => (Value.bool x))) a c9.1 d8 ∧ pW 111 kq 3 e6 c9.2.1 d9) (fun c9 j5 => ?_) ?_))))))
   ·refine kA (fun i E W => ∃ a9 Y a2 R Z b2 b6 f8, (E 53 = .int .i64 (i : Nat) ∧ E 52 = .int .i64 (i5.length : Nat)) ∧ jX b5 b6 ∧ ST false (keys b8) w W b6 ((I, Ob #[a, c, u, g, a2, (.int .i64 b2)] 135) :: ((a5, Obj.cells i6 111 (0, 0)) :: (Y ++ (j ++ (y ++ (t ++ (Z ++ f8))))))) ∧ E 0 = g5 ∧ E 2 = j1 ∧ E 51 = (rz kU l8 B.jr.jy (.slice none 0 0)) ∧ lY (fun (x : jr) => (.agg (jA x).toArray)) (lN Value.string (fun (x : Bool) => (Value.bool x))) a a9 Y ∧ pW 111 kq 3 a2 R Z ∧ nQ B Q N H (i5.drop i) a9 R b2 = some c9) i5.length (f1.DH kc).len ⟨m6, d6, e5, m7, d7, n1, b5, _, ⟨rfl, rfl⟩, (jX.refl _), (d.jv St), h8, h9, rfl, k3, k4, j5⟩ dc dc dc (fun _ _ _ h => by obtain ⟨_, _, _, _, _, _, _, _, s, _⟩ := h; exact s) ?_ ?_
    ·rintro m4 E W i9 ⟨a9, Y, a2, R, Z, b2, b6, f8, ⟨q, eN⟩, a8, d, P, c0, e0, f2, c6, J⟩
     obtain ⟨U, o2, k9, k8, h3⟩ := ku i9
     rw [k9] at J
     refine bg (VQ (mZ (enc := jw) (i := (m4 : Int)) (x0 := U) aH aN e0 q (f1.DH kc) (aG _) k8) (fun q1 j8 => V (jx rfl (jS (nA.hp _) (j8.mono (lR (fun b o p => d.has.2 b o (Mt (Mt (Ma (Ma (Ma (Ml (k5 b o p)))))))))) bQ aN)) (VE (jU d cK (fun p2 p8 d => VO (jK (.agg (jw U).toArray) ((jw U).toArray) d rfl rfl aN (mH U) nb rfl (fun p3 d => ln (jL ?_))))))))
     replace d := d.drew
     have l := d.has.jv (Kb (Kb (Kb (Kr Sn))))
     refine kO l kp (X 0 rfl l (jz P) (X 1 rfl l (mT rfl) (X 2 rfl l (jE xk rfl) (XH 3 rfl l (fun _ n => jx rfl (jJ n (Mt Mh) rfl gU)) (X 4 rfl l (jE nz rfl) (XH 5 rfl l (fun _ n => jx rfl (jD n Mh (jA U.B) rfl bG aS)) ?_))))))
     obtain ⟨o0, c4⟩ := f2
     refine XH 6 rfl l (fun _ n => pd (k := U.B) (z := (.map none)) Ai eU fH rfl rfl c4 (fun b o p => n.2 b o (Mt (Mt (Mt (Ml p)))))) (X 7 rfl l (jE xj c0) (X 8 rfl l (jE pn rfl) (XH 9 rfl l (fun _ n => jx rfl (jJ n (Mt (Mt Mh)) rfl bV)) (XH 10 rfl l (fun _ n => zM (k := B.jr.ju) (z := false) (vf := (fun (x : Bool) => (Value.bool x))) GM fM gp rfl rfl (mJ.Dl (μ := hp _) jR.1 c4 U.B (fun b o p => n.2 b o (Mt (Mt (Mt (Ml p))))))) (kP kr (jH (CI J rfl (fun i8 J => ?_) (fun i8 J => ?_))))))))
     ·refine jG (Wh P (Wf qN (VA d Mh (jA U.Head) bG aS (V (jE vY c0) (VB d (Mt (Mt Mh)) rfl rfl bV (bS J fun g2 k0 J => ?_))))))
      refine VE (eM d (Cb (Pb Pz) (Cr (Qb (Qb Qz)) (Cr (Qb (Qb Qz)) (Cr (Qb (Qb Qz)) (Cr (Qb (Qb Qz)) (Cr (Qb (Qb Qz)) Cn)))))) call145 (fun hh _ => kR.lG (qQ I a a9 Y c Q j u N y g H t a2 R Z b2 U.Head B.kE _ _ hh c4.e c1 c3.e e9.e c6 k0)) ?_)
      rintro _ q4 n5 o5 d i3 aa L ⟨l9, n3, m0, f5, rfl, l3, l4⟩
      obtain rfl := f5.symm
      replace d := d.perm (Tb (Tr (Tr (Tr (Tr (Tr Tn))))))
      refine jT (kl (jH ?_))
      replace d := d.jv (Kb (Kr (Kr (Kr (Kr (Kr (Db St)))))))
      exact ⟨q, g2.1, l9, n3, g2.2.1, m0, g2.2.2, n5, _, ⟨rfl, eN⟩, (a8.trans i3), (d.jv (Kb (Sb (Pr (Pr (Pr (Pr (Pr Pz))))) St))), P, c0, e0, l3, l4, (by rw [h3]; exact J)⟩
     refine kQ (kl (jH ?_))
     replace d := d.jv (Db St)
     exact ⟨q, a9, Y, a2, R, Z, b2, b6, _, ⟨rfl, eN⟩, a8, (d.jv St), P, c0, e0, c4.e, c6, (by rw [h3]; exact J)⟩
    rintro E W ⟨a9, Y, a2, R, Z, b2, b6, f8, ⟨q, eN⟩, a8, d, P, c0, e0, f2, c6, J⟩
    rw [aM] at J
    refine jH ?_
    obtain rfl := sj J
    exact ⟨Y, a2, Z, b6, _, a8, (d.jv (Kb (Db St))), P, f2, c6⟩
   rintro ⟨m8, m9, n2⟩ E W ⟨d8, e6, d9, e7, h7, i2, d, m3, k6, k7⟩ j4
   exact kl (jH ⟨n0, bn _, m8, d8, e6, m9, d9, n2, e7, _, ((i0.trans i1).trans i2), (d.jv St), m3, k6, k7, j4⟩)
  refine mW (mK (mK (qG (jH (qy ?_)))))
  obtain rfl := sj M
  exact oN rfl ⟨_, _, rfl, (d.lU (Kb (Kr (Kr (Kr (Kr (Kr Sn))))))), b7, e4, b9, rfl, rfl, g9, c5⟩
theorem DS (H : Nat) (g : Value) (c2 : List (jr × (List (ByteArray × Bool)))) (G : LO) (u : Value) (a7 : List js) (k : LO) (c : Value) (b7 : List (jr × (List js))) (z : LO) (a : Value) (a8 : List (ByteArray × (List js))) (t : LO) (B : Value) (b6 : List jM) (y : LO) (K : Int) (d1 : Value) (p : List js) (r : (Int × (List (jr × (List (ByteArray × Bool)))) × (List js) × (List (jr × (List js))) × (List (ByteArray × (List js))) × (List jM) × Int)) (w : World) {μ0 : jW} (h0 : ny μ0 ((H, Ob #[g, u, c, a, B, (.int .i64 K)] 135) :: (G ++ (k ++ (z ++ (t ++ (y ++ [])))))) w) (d6 : lY (fun (x : jr) => (.agg (jA x).toArray)) (lN Value.string (fun (x : Bool) => (Value.bool x))) g c2 G) (c6 : jV 49 jw 9 u a7 k) (d3 : lY (fun (x : jr) => (.agg (jA x).toArray)) (jV 49 jw 9) c b7 z) (c7 : lY Value.string (jV 49 jw 9) a a8 t) (d2 : pW 111 kq 3 B b6 y) (d7 : Sl (Pl jw) 9 μ0 d1 p) (hm : uf c2 a7 b7 a8 b6 K p = some r) :
  kR false pg0 84 [(.pointer (some ⟨H, 0, none⟩)), d1] w ((H, Ob #[g, u, c, a, B, (.int .i64 K)] 135) :: (G ++ (k ++ (z ++ (t ++ (y ++ [])))))) (fun v L1 W' => ∃ S1 y3 S4 S6 S8 i1 i0, v = (.int .i64 (r.1)) ∧ L1 = ((H, Ob #[g, y3, c, a, i1, (.int .i64 (r.2.2.2.2.2.2))] 135) :: (S1 ++ (S4 ++ (S6 ++ (S8 ++ (i0 ++ [])))))) ∧ lY (fun (x : jr) => (.agg (jA x).toArray)) (lN Value.string (fun (x : Bool) => (Value.bool x))) g r.2.1 S1 ∧ jV 49 jw 9 y3 r.2.2.1 S4 ∧ lY (fun (x : jr) => (.agg (jA x).toArray)) (jV 49 jw 9) c r.2.2.2.1 S6 ∧ lY Value.string (jV 49 jw 9) a r.2.2.2.2.1 S8 ∧ pW 111 kq 3 i1 r.2.2.2.2.2.1 i0) := by
 let b8 := ((H, Ob #[g, u, c, a, B, (.int .i64 K)] 135) :: (G ++ (k ++ (z ++ (t ++ (y ++ []))))))
 refine yF h0 46 func84 rfl (fun d => sg (Wa (lS (Wm (V (xi underlying106 rfl rfl) (ln (tw rfl (kQ ?_))))))))
 refine jH (sg (Wm (Wn (Wf E7 (VB d Mh rfl rfl bR (Wa (lS (Wm (V (kK aH rfl d7) ?_)))))))))
 refine Wm (ln (kA (fun i E W => ∃ a3 N M a4 Q a9 T n U a0 a5 Y a2 c1 d5, (E 16 = .int .i64 (i : Nat) ∧ E 15 = .int .i64 (p.length : Nat)) ∧ jX μ0 c1 ∧ ST false (keys b8) w W c1 ((H, Ob #[g, M, c, a, a0, (.int .i64 a2)] 135) :: (N ++ (Q ++ (T ++ (U ++ (Y ++ d5)))))) ∧ E 0 = (.pointer (some ⟨H, 0, none⟩)) ∧ E 5 = (.int .i64 K) ∧ E 14 = d1 ∧ lY (fun (x : jr) => (.agg (jA x).toArray)) (lN Value.string (fun (x : Bool) => (Value.bool x))) g a3 N ∧ jV 49 jw 9 M a4 Q ∧ lY (fun (x : jr) => (.agg (jA x).toArray)) (jV 49 jw 9) c a9 T ∧ lY Value.string (jV 49 jw 9) a n U ∧ pW 111 kq 3 a0 a5 Y ∧ nK K (p.drop i) a3 a4 a9 n a5 a2 = some r) p.length d7.len ⟨c2, G, u, a7, k, b7, z, a8, t, B, b6, y, K, μ0, _, ⟨rfl, rfl⟩, (jX.refl _), (d.jv St), rfl, rfl, rfl, d6, c6, d3, c7, d2, hm⟩ dc dc dc (fun _ _ _ h => by obtain ⟨_, _, _, _, _, _, _, _, _, _, _, _, _, _, _, aa, _⟩ := h; exact aa) ?_ ?_))
 ·rintro f6 E W g3 ⟨a3, N, M, a4, Q, a9, T, n, U, a0, a5, Y, a2, c1, d5, ⟨eI, eN⟩, b1, d, s, c3, c4, O, q, P, R, b5, D⟩
  obtain ⟨I, j8, h4, h3, d9⟩ := ku g3
  rw [h4] at D
  refine bg (VQ (mZ (enc := jw) (i := (f6 : Int)) (x0 := I) aH aN c4 eI (d7.mono (Pl.mono _) b1) (aG _) h3) (fun l1 g4 => V (jx rfl (jS d.has g4 bQ aN)) (VE (jU d cK (fun k3 e8 d => VO (jK (.agg (jw I).toArray) ((jw I).toArray) d rfl rfl aN (mH I) nb rfl (fun k4 d => ln (jL ?_))))))))
  replace d := d.drew
  have l := d.has.jv (Kb (Kb Sn))
  refine kO l kp (XH 0 rfl l (fun _ hS => jx rfl (jD hS Mh (jw I) rfl bQ aN)) (bS D fun l2 g7 D => XE 1 rfl (Eg d call47 (jZ.lG (yU I _ _  g7)) (fun k5 d => ?_))))
  have l := d.has.jv (Kb (Kb Sn))
  refine ⟨l, (X 2 rfl l (jz rfl) (PJ D (fun f7 E W => ∃ e4, ST false (keys b8) w W c1 ((e8, Ol (jw I) 49) :: ((H, Ob #[g, M, c, a, a0, (.int .i64 a2)] 135) :: (N ++ (Q ++ (T ++ (U ++ (Y ++ e4))))))) ∧ E 0 = (.pointer (some ⟨H, 0, none⟩)) ∧ E 5 = (.int .i64 K) ∧ E 7 = (.pointer (some ⟨e8, 0, none⟩)) ∧ E 14 = d1 ∧ E 15 = (.int .i64 (p.length : Int)) ∧ E 16 = (.int .i64 (f6 : Int)) ∧ E 30 = (.bool f7)) (bm 11 2047) 0 ?_ (fun f7 Z d4 => ?_)))⟩
  ·rintro l7 E W ⟨e4, d, c5, e9, f0, f1, f2, f3, i6⟩ J
   refine kP kr (jH (CI J i6 (fun g2 J => ?_) (fun g2 J => ?_)))
   ·refine sg (Wh c5 (V (jx f0 (jD d.has Mh (jw I) rfl bQ aN)) (bS J fun L g8 J => ?_)))
    refine VE (eM d (Cb (Pb Pz) (Cr (Qb Qz) (Cr (Qb Qz) (Cr (Qb Qz) (Cr (Qb Qz) (Cr (Qb Qz) Cn)))))) call120 (fun hh _ => kR.lG (Dy H g a3 N M a4 Q c a9 T a n U a0 a5 Y a2 I _ _ hh O q P R b5 g8)) ?_)
    rintro _ l4 l8 k0 d f4 ab m ⟨f8, e5, e6, e7, c8, rfl, e0, e1, e2⟩
    obtain rfl := c8.symm
    replace d := d.perm (Tb (Tr (Tr (Tr (Tr (Tr Tn))))))
    refine ln (jG (Wh c5 (V (jx f0 (jD d.has (Mt (Ma (Ma (Ma (Ma (Ma Mh)))))) (jw I) rfl bQ aN)) (bS J fun d8 g9 J => ?_))))
    refine VE (eM d (Cb Pz (Cr Qz (Cr Qz (Cr Qz (Cr Qz (Cr Qz Cn)))))) call121 (fun hh _ => (Cx H g a3 N f8 L.1 e5 c L.2.1 e6 a L.2.2 e7 a0 a5 Y a2 I _ _ hh O e0 e1 e2 b5 g9)) ?_)
    rintro _ l5 j0 k1 d f5 ad m ⟨i2, i8, i3, c9, rfl, h5, h6⟩
    obtain rfl := c9.symm
    replace d := d.perm (Tb (Tr (Tr (Tr (Tr (Tr Tn))))))
    refine jT (kl (jH ?_))
    replace d := d.jv (Kb (Kr (Kr (Kr (Kr (Kr (Db St)))))))
    exact ⟨f3, d8.1, i2, f8, L.1, e5, L.2.1, e6, L.2.2, e7, i8, d8.2.1, i3, d8.2.2, j0, _, ⟨rfl, f2⟩, ((b1.trans f4).trans f5), (d.jv St), c5, e9, f1, h5, e0, e1, e2, h6, (by rw [d9]; exact J)⟩
   refine kQ (kl (jH ?_))
   replace d := d.jv (Db St)
   exact ⟨f3, a3, N, M, a4, Q, a9, T, n, U, a0, a5, Y, a2, c1, _, ⟨rfl, f2⟩, b1, (d.jv St), c5, e9, f1, O, q, P, R, b5, (by rw [d9]; exact J)⟩
  refine bC Z (fun j Z => ?_) (fun j Z => ?_)
  ·refine Xg 3 rfl rfl (cB j) l (jz s) (Xg 4 rfl rfl (cB j) l (mT rfl) (Xg 5 rfl rfl (cB j) l (jE Hu rfl) (sZ 6 rfl rfl (cB j) l (fun _ hS => jx rfl (jJ hS (Mt Mh) rfl dY)) (sZ 7 rfl rfl (cB j) l (fun _ hS => jx rfl (jD hS Mh (jw I) rfl bQ aN)) (bS Z fun l3 h1 Z => BG 8 rfl rfl (cB j) (Eg d call29 (jZ.lG (yI M a4 I _ _ (q.sl kc (fun b o hq => d.at_ (Mt (Mt (Ma (Ml hq)))))) h1)) (fun k8 d => ?_)))))))
   have l := d.has.jv (Kb (Kb Sn))
   refine ⟨l, (Xg 9 rfl rfl (cB j) l (nt rfl) (X 10 rfl l (jO (cB j) rfl) ?_))⟩
   obtain rfl := sj Z
   refine ml kr (d4 _ _ ⟨_, (d.jv St), s, c3, rfl, c4, eN, eI, rfl⟩)
  refine Xn 3 rfl rfl (cB j) l (Xn 4 rfl rfl (cB j) l (Xn 5 rfl rfl (cB j) l (Xn 6 rfl rfl (cB j) l (Xn 7 rfl rfl (cB j) l (Xn 8 rfl rfl (cB j) l (Xn 9 rfl rfl (cB j) l (X 10 rfl l (jP (cB j) rfl) ?_)))))))
  obtain rfl := sj Z
  refine ml kr (d4 _ _ ⟨_, (d.jv St), s, c3, rfl, c4, eN, eI, rfl⟩)
 rintro E W ⟨a3, N, M, a4, Q, a9, T, n, U, a0, a5, Y, a2, c1, d5, ⟨eI, eN⟩, b1, d, s, c3, c4, O, q, P, R, b5, D⟩
 rw [aM] at D
 refine jH (sg (Wh s (bS D fun i7 h2 D => ?_)))
 refine VE (eM d (Cb Pz (Cr Qz (Cr Qz (Cr Qz (Cr Qz (Cr Qz Cn)))))) call122 (fun hh _ => (B0 H g a3 N M a4 Q c a9 T a n U a0 a5 Y a2 _ _ hh O q P R b5 h2)) ?_)
 rintro _ l6 l9 k2 d j6 ae m ⟨i4, i9, i5, d0, rfl, h7, h8⟩
 obtain rfl := d0.symm
 replace d := d.perm (Tb (Tr (Tr (Tr (Tr (Tr Tn))))))
 refine lr (Wh s (Wn (Wf E7 (VB d Mh rfl rfl bR (Wh c3 (Wi rfl (Wa (lt ?_))))))))
 obtain rfl := sj D
 exact lj (v := (.int .i64 (wi0 .i64 (i7.2.2 - K)))) rfl rfl ⟨_, _, rfl, (d.lU (Kb (Kr (Kr (Kr (Kr (Kr Sn))))))), i4, M, Q, T, U, i9, i5, rfl, rfl, h7, q, P, R, h8⟩
theorem G5 (j : Value) (H : List js) (r : ((List (jr × (List (ByteArray × Bool)))) × (List js) × (List (jr × (List js))) × (List (ByteArray × (List js))) × (List jM) × Int)) (w : World) (J : Sl (Pl jw) 9 (hp w) j H) (hm : wW H = some r) :
  kR false pg0 58 [j] w [] (fun v L1 W' => ∃ l n S3 p S6 q S9 D u G y, v = (.pointer (some ⟨l, 0, none⟩)) ∧ L1 = ((l, Ob #[n, p, q, D, G, (.int .i64 (r.2.2.2.2.2))] 135) :: (S3 ++ (S6 ++ (S9 ++ (u ++ (y ++ [])))))) ∧ lY (fun (x : jr) => (.agg (jA x).toArray)) (lN Value.string (fun (x : Bool) => (Value.bool x))) n r.1 S3 ∧ jV 49 jw 9 p r.2.1 S6 ∧ lY (fun (x : jr) => (.agg (jA x).toArray)) (jV 49 jw 9) q r.2.2.1 S9 ∧ lY Value.string (jV 49 jw 9) D r.2.2.2.1 u ∧ pW 111 kq 3 G r.2.2.2.2.1 y) := by
 refine wm 13 func58 rfl (fun b => sg (Wa (lr (VE (CM (P := pg0) (fun (x : jr) => (.agg (jA x).toArray)) (lN Value.string (fun (x : Bool) => (Value.bool x))) b (fun W1 v4 R2 b z => VE (CM (P := pg0) (fun (x : jr) => (.agg (jA x).toArray)) (jV 49 jw 9) b (fun W5 v8 R6 b B => VE (CM (P := pg0) Value.string (jV 49 jw 9) b (fun W9 W Y b t => ?_))))))))))
 obtain ⟨a, rfl⟩ := z.form
 obtain ⟨c, rfl⟩ := B.form
 obtain ⟨g, rfl⟩ := t.form
 refine V (lf (v := (.agg #[(.map (some a)), (.slice none 0 0), (.map (some c)), (.map (some g)), (.slice none 0 0), (.int .i64 0)])) (ER rfl rfl rfl) (kH zeroValue135 eT (SV _ eT) kr)) (VE (kv b rfl (fun c1 k b => Wa (lr (Wm (Wm (bS hm fun R K hm => ?_)))))))
 refine VE (eM b (Cb Pz (Cr (Qr (Qr Qz)) (C0 (Cr (Qr Qz) (Cr Qz (C0 Cn)))))) call84 (fun I h => (DS k (.map (some a)) ([]) R2 (.slice none 0 0) ([]) [] (.map (some c)) ([]) R6 (.map (some g)) ([]) Y (.slice none 0 0) ([]) [] 0 j H _ _ I z (jV.nil _ _ _) B t (pW.nil _ _ _) (J.mono (Pl.mono _) h) K)) ?_)
 rintro _ c5 c6 O b L m d ⟨Z, s, a2, a3, a4, E, a5, i, rfl, M, N, Q, T, U⟩
 obtain rfl := i.symm
 replace b := b.perm (Tb (Tr (Tr (Tr (Tr (Tr Tn))))))
 refine lr (Wm (Wa (lt ?_)))
 obtain rfl := sj hm
 exact lj (v := (.pointer (some ⟨k, 0, none⟩))) rfl rfl ⟨_, _, rfl, (b.Ih (Kb (Kr (Kr (Kr (Kr (Kr Sn))))))), k, (.map (some a)), Z, s, a2, (.map (some c)), a3, (.map (some g)), a4, E, a5, rfl, rfl, M, N, Q, T, U⟩
theorem DD (T : Formula → Int → Option (Int × Int)) (n : ∀ (t : Formula) (j : Value) (I : Int) (r : (Int × Int)) (w : World) (g : Sl jt 5 (hp w) j t.Kids), T t I = some r → jZ false pg0 123 [(.agg #[(.int .i64 t.Op), (.int .i64 t.K), (.string t.jr.ju), (.string t.jr.jy), j]), (.int .i64 I)] w (.tuple #[(.int .i64 r.1), (.int .i64 r.2)])) (t : Formula) (j : Value) (I : Int) (r : (Int × Int)) (w : World) (g : Sl jt 5 (hp w) j t.Kids) (hm : vz T t I = some r) :
  jZ false pg0 123 [(.agg #[(.int .i64 t.Op), (.int .i64 t.K), (.string t.jr.ju), (.string t.jr.jy), j]), (.int .i64 I)] w (.tuple #[(.int .i64 r.1), (.int .i64 r.2)]) := by
 refine cG 40 func123 rfl (fun b => sg ?_)
 obtain ⟨A1, c2, rfl⟩ := g.form
 refine VE (kv b rfl (fun W4 b3 b => Wa (Wa (lr (Wa (Wa (lS (Wf nm ?_))))))))
 refine VB b Mh rfl rfl dH (V (kK aD rfl g) (Wm (ln ?_)))
 replace b := b.jv (Db St)
 refine CJ hm (fun Q E W => ∃ a2, ST false kw w W (hp w) a2 ∧ E 6 = (.int .i64 Q.1) ∧ E 7 = (.int .i64 Q.2)) (fun Q a5 => ?_) ?_
 ·refine kA (fun i E W => ∃ y z J, (E 15 = .int .i64 (i : Nat) ∧ E 14 = .int .i64 (t.Kids.length : Nat)) ∧ ST false kw w W (hp w) J ∧ E 1 = (.int .i64 I) ∧ E 6 = (.int .i64 y) ∧ E 7 = (.int .i64 z) ∧ E 13 = (.slice A1 t.Kids.length c2) ∧ pt I T (t.Kids.drop i) y z = some Q) t.Kids.length g.len ⟨1, 0, _, ⟨rfl, rfl⟩, (b.jv St), rfl, rfl, rfl, rfl, a5⟩ dc dc dc (fun _ _ _ h => by obtain ⟨_, _, _, l, _⟩ := h; exact l) ?_ ?_
  ·rintro O E W a3 ⟨y, z, J, ⟨d, m⟩, b, G, x, H, K, a⟩
   obtain ⟨c, c6, q, p, a9⟩ := ku a3
   rw [q] at a
   refine bg (VQ (lI (i := (O : Int)) (x0 := c) jt.out aD aC K d g (aG _) p) (fun c4 ⟨_, ⟨c5, rfl, N⟩, Y⟩ => V (jx rfl (jS b.has Y aO aC)) (VE (jU b aQ (fun b9 c3 b => ?_)))))
   obtain ⟨B, D, rfl⟩ := N.form
   let a0 := (C1 c.Op c.K c.jr.ju c.jr.jy B c.Kids.length D)
   refine VO (jK (.agg a0.toArray) (a0.toArray) b rfl rfl aC oc nb rfl (fun c0 b => lS (Wh x (Wh G (Wi rfl (ln (CI a rfl (fun U a => ?_) (fun U a => ?_))))))))
   ·refine mW (mK (RU (by simp) (mK (qG (jH ?_)))))
    obtain rfl := sj a
    exact ⟨_, (b.jv (Db St)), x, H⟩
   refine kg (VA b Mh a0 aO aC (Wh G (Wh x (Wi rfl (bS a fun M Z a => VE (Eg b call123 (n c (.slice B c.Kids.length D) (wi0 .i64 (I - y)) _ _ (N.mono jC.mono b.jF) Z) (fun c1 b => Wm (Wx rfl (Wx rfl (Wa (Wa ?_)))))))))))
   refine ln ?_
   replace b := b.jv (Db St)
   exact jG (Wh x (Wm (Wi rfl (Wh H (Wm (V (NI (k := .i64) rfl rfl) (Wa (Wa (jT (kl (jH ⟨d, (wi0 .i64 (y + M.1)), (if M.2 > z then M.2 else z), _, ⟨rfl, m⟩, (b.jv St), G, rfl, rfl, K, (by rw [a9]; exact a)⟩)))))))))))
  rintro E W ⟨y, z, J, ⟨d, m⟩, b, G, x, H, K, a⟩
  rw [aM] at a
  refine jH ?_
  obtain rfl := sj a
  exact ⟨_, (b.jv St), x, H⟩
 rintro ⟨P, R⟩ E W ⟨a2, b, s, L⟩ a4
 refine sg (Wh s (Wh L (Wi rfl (Wa (Wa (lt ?_))))))
 obtain rfl := sj a4
 exact Cf (v := (.int .i64 P)) (u := (.int .i64 (wi0 .i64 (R + 1)))) rfl rfl rfl ⟨rfl, b.ex⟩
theorem Bl : ∀ (n : Nat) (c : Formula) (a : Value) (i : Int) (r : (Int × Int)) (w : World) (g : Sl jt 5 (hp w) a c.Kids) (_ : oh n c i = some r),
  jZ false pg0 123 [(.agg #[(.int .i64 c.Op), (.int .i64 c.K), (.string c.jr.ju), (.string c.jr.jy), a]), (.int .i64 i)] w (.tuple #[(.int .i64 r.1), (.int .i64 r.2)])
 | 0 => by intros; rename_i h; simp only [oh] at h; cases h
 | n + 1 => DD (oh n) (Bl n)
theorem Hy (a : Formula) (g : Value) (r : (Int × Int)) (w : World) (c : Sl jt 5 (hp w) g a.Kids) (hm : xd a = some r) :
  jZ false pg0 85 [(.agg #[(.int .i64 a.Op), (.int .i64 a.K), (.string a.jr.ju), (.string a.jr.jy), g])] w (.tuple #[(.int .i64 r.1), (.int .i64 r.2)]) := by
 refine cG 15 func85 rfl (fun b => sg ?_)
 obtain ⟨i, j, rfl⟩ := c.form
 refine VE (kv b rfl (fun y B b => Wa (Wa (lr (VA b Mh (C1 a.Op a.K a.jr.ju a.jr.jy i a.Kids.length j) aO aC (bS hm fun x t hm => VE (Eg b call123 ((Bl kd) a (.slice i a.Kids.length j) 4096 _ _ (c.mono jC.mono b.jF) t) (fun z b => Wm (Wx rfl (Wx rfl (Wa (Wa ?_))))))))))))
 refine ln ?_
 replace b := b.jv (Db St)
 refine jL (sg (Wm (Wi rfl (ln (CI hm rfl (fun k hm => ?_) (fun k hm => ?_))))))
 ·refine sg (Wa (Wa (lt (ki ?_))))
  obtain rfl := sj hm
  exact Cf (v := (.int .i64 0)) (u := (.int .i64 0)) rfl rfl rfl ⟨rfl, b.ex⟩
 refine kg (Wm (Wm (Wa (Wa (lt ?_)))))
 obtain rfl := sj hm
 exact Cf (v := (.int .i64 x.1)) (u := (.int .i64 x.2)) rfl rfl rfl ⟨rfl, b.ex⟩
theorem Hr (a : Formula) (H : Value) (r : Bool) (w : World) (t : Sl jt 5 (hp w) H a.Kids) (hm : xb a = some r) :
  jZ true pg0 124 [(.agg #[(.int .i64 a.Op), (.int .i64 a.K), (.string a.jr.ju), (.string a.jr.jy), H])] w (.bool r) := by
 refine cG 63 func124 rfl (fun b => sg ?_)
 obtain ⟨A1, c2, rfl⟩ := t.form
 let l := (C1 a.Op a.K a.jr.ju a.jr.jy A1 a.Kids.length c2)
 refine VE (kv b rfl (fun W4 N b => Wa (lr (V (lf (v := (.agg (jA K0).toArray)) pu (kH et dr (Jj _ dr) kr)) (VE (jU b et (fun W6 L b => VO (jK (.agg (jA K0).toArray) ((jA K0).toArray) b rfl rfl aS (vZ K0) nb rfl (fun W7 b => lS (Wf nn ?_))))))))))
 refine VB b (Mt Mh) rfl rfl bR (ln (bg (Wi rfl (Wa (ln (CI hm rfl (fun d9 hm => ?_) (fun d9 hm => ?_)))))))
 ·refine sg (Wf tQ (VA b (Mt Mh) (jA a.jr) bG aS (bS hm fun f7 e5 hm => VE (Eg b call74 (tX a.jr _ _  e5) (fun f5 b => Wm (LJ hm (fun d2 E W => ∃ R, ST true kw w W (hp w) ((N, Ol l 30) :: R) ∧ E 1 = (.pointer (some ⟨N, 0, none⟩)) ∧ E 2 = (.bool false) ∧ E 17 = (.bool d2)) 5 ?_ (fun d2 J a4 => ?_)))))))
  ·rintro f8 E W ⟨R, b, e7, c9, e8⟩ e1
   refine Wh e8 (LJ e1 (fun d1 E W => ∃ c5, ST true kw w W (hp w) c5 ∧ E 2 = (.bool false) ∧ E 22 = (.bool d1)) 4 ?_ (fun d1 I a3 => ?_))
   ·rintro f9 E W ⟨c5, b, f6, e9⟩ e2
    refine Wg e9 (lt (mc (ki ?_)))
    obtain rfl := sj e2
    exact rP b
   refine bC I (fun u I => ?_) (fun u I => ?_)
   ·refine ug u (jE rG e7) (ug u (jx rfl (jJ b.has Mh rfl bR)) (ug u (kh rfl rfl rfl) (V (jO (cB u) rfl) ?_)))
    obtain rfl := sj I
    exact a3 _ _ ⟨_, (b.jv (Db St)), c9, rfl⟩
   refine un u (un u (un u (V (jP (cB u) rfl) ?_)))
   obtain rfl := sj I
   exact a3 _ _ ⟨_, (b.jv (Db St)), c9, rfl⟩
  refine bC J (fun j J => ?_) (fun j J => ?_)
  ·refine ug j (jE nm rfl) (ug j (jx rfl (jJ b.has (Mt Mh) rfl dH)) (ug j (kK aD rfl t) (ug j (kh rfl rfl rfl) (V (jO (cB j) rfl) ?_))))
   obtain rfl := sj J
   exact a4 _ _ ⟨_, (b.jv (Db St)), rfl, rfl, rfl⟩
  refine un j (un j (un j (un j (V (jP (cB j) rfl) ?_))))
  obtain rfl := sj J
  exact a4 _ _ ⟨_, (b.jv (Db St)), rfl, rfl, rfl⟩
 let a0 := (l.toArray : Array Value)
 let d : Value := (.pointer (some ⟨N, 0, none⟩))
 refine jL (CJ hm (fun P E W => ∃ c6, ST true kw w W (hp w) ((L, Ol (jA K0) 27) :: ((N, Obj.cells a0 30 (0, 0)) :: c6)) ∧ E 1 = d ∧ E 3 = (.pointer (some ⟨L, 0, none⟩)) ∧ E 23 = (.bool P)) (fun P G => ?_) ?_)
 ·refine sg (Wi rfl (Wa (ln (CI G rfl (fun b9 G => ?_) (fun b9 G => ?_)))))
  ·refine kn ?_
   obtain rfl := sj G
   exact ⟨_, (b.jv St), rfl, rfl, rfl⟩
  refine jG (Wi rfl (Wa (ln ?_)))
  obtain rfl := sj G
  exact ⟨_, (b.jv St), rfl, rfl, rfl⟩
 rintro g0 E W ⟨c6, b, Q, d0, f0⟩ K
 refine CI K f0 (fun e0 K => ?_) (fun e0 K => ?_)
 ·refine sg (V (jE tQ Q) (VA b (Mt Mh) (jA a.jr) bG aS (V (jx d0 (jD b.has Mh (jA K0) rfl bG aS)) (V (uT rfl rfl (nl dS) (rh (pG _ a.jr K0))) (Wm (LJ K (fun d3 E W => ∃ c7, ST true kw w W (hp w) c7 ∧ E 34 = (.bool d3)) 4 ?_ (fun d3 M a5 => ?_)))))))
  ·rintro g1 E W ⟨c7, b, f1⟩ e3
   refine Wg f1 (lt (mc (ki ?_)))
   obtain rfl := sj e3
   exact rP b
  refine bC M (fun x M => ?_) (fun x M => ?_)
  ·refine ug x (jE rG Q) (ug x (jx rfl (jJ b.has (Mt Mh) rfl bR)) (ug x (kh rfl rfl rfl) (V (jO (cB x) rfl) ?_)))
   obtain rfl := sj M
   exact a5 _ _ ⟨_, (b.jv (Db (Db St))), rfl⟩
  refine un x (un x (un x (V (jP (cB x) rfl) ?_)))
  obtain rfl := sj M
  exact a5 _ _ ⟨_, (b.jv (Db (Db St))), rfl⟩
 refine kQ (kl (jH (sg (V (jE nn Q) (VB b (Mt Mh) rfl rfl bR (Wi rfl (Wm (LJ K (fun O E W => ∃ c8, ST true kw w W (hp w) ((N, Obj.cells a0 30 (0, 0)) :: c8) ∧ E 1 = d ∧ E 43 = (.bool O)) 5 ?_ (fun O D h => ?_)))))))))
 ·rintro g2 E W ⟨c8, b, a2, d4⟩ e4
  refine Wh d4 (LJ e4 (fun s E W => ∃ m, ST true kw w W (hp w) ((N, Obj.cells a0 30 (0, 0)) :: m) ∧ E 1 = d ∧ E 48 = (.bool s)) 4 ?_ (fun s B Z => ?_))
  ·rintro f2 E W ⟨m, b, T, d5⟩ c0
   refine Wh d5 (LJ c0 (fun q E W => ∃ a9, ST true kw w W (hp w) ((N, Obj.cells a0 30 (0, 0)) :: a9) ∧ E 1 = d ∧ E 56 = (.bool q)) 7 ?_ (fun q z Y => ?_))
   ·rintro f3 E W ⟨a9, b, d6, d7⟩ c1
    refine Wh d7 (LJ c1 (fun p E W => ∃ n, ST true kw w W (hp w) n ∧ E 62 = (.bool p)) 5 ?_ (fun p y U => ?_))
    ·rintro f4 E W ⟨n, b, d8⟩ c3
     exact Wg d8 (lt (rQ c3 b))
    refine bC y (fun g y => ?_) (fun g y => ?_)
    ·refine ug g (jE nm d6) (ug g (jx rfl (jJ b.has Mh rfl dH)) (ug g (kK aD rfl t) (ug g (kh rfl rfl rfl) (V (jO (cB g) rfl) ?_))))
     obtain rfl := sj y
     exact U _ _ ⟨_, (b.jv (Db St)), rfl⟩
    refine un g (un g (un g (un g (V (jP (cB g) rfl) ?_))))
    obtain rfl := sj y
    exact U _ _ ⟨_, (b.jv (Db St)), rfl⟩
   refine bC z (fun c z => ?_) (fun c z => ?_)
   ·refine ug c (jE rG T) (ug c (jx rfl (jJ b.has Mh rfl bR)) (ug c (jE nm T) (ug c (jx rfl (jJ b.has Mh rfl dH)) (ug c (kK aD rfl t) (ug c (kh rfl rfl rfl) (V (jO (cB c) rfl) ?_))))))
    obtain rfl := sj z
    exact Y _ _ ⟨_, (b.jv St), T, rfl⟩
   refine un c (un c (un c (un c (un c (un c (V (jP (cB c) rfl) ?_))))))
   obtain rfl := sj z
   exact Y _ _ ⟨_, (b.jv St), T, rfl⟩
  refine bC B (fun i B => ?_) (fun i B => ?_)
  ·refine ug i (jE rG a2) (ug i (jx rfl (jJ b.has Mh rfl bR)) (ug i (kh rfl rfl rfl) (V (jO (cB i) rfl) ?_)))
   obtain rfl := sj B
   exact Z _ _ ⟨_, (b.jv St), a2, rfl⟩
  refine un i (un i (un i (V (jP (cB i) rfl) ?_)))
  obtain rfl := sj B
  exact Z _ _ ⟨_, (b.jv St), a2, rfl⟩
 refine bC D (fun k D => ?_) (fun k D => ?_)
 ·refine ug k (jE tQ Q) (ug k (jx rfl (jD b.has (Mt Mh) (jA a.jr) rfl bG aS)) (ug k (jx d0 (jD b.has Mh (jA K0) rfl bG aS)) (ug k (uT rfl rfl (nl dS) (rh (pG _ a.jr K0))) (V (jO (cB k) rfl) ?_))))
  obtain rfl := sj D
  exact h _ _ ⟨_, (b.jv (Db St)), Q, rfl⟩
 refine un k (un k (un k (un k (V (jP (cB k) rfl) ?_))))
 obtain rfl := sj D
 exact h _ _ ⟨_, (b.jv (Db St)), Q, rfl⟩
theorem Ac (g : Value) (t : List Formula) (j : Value) (z : Formula → Option Bool) (r : Int) (w : World) (c : Sl jt 5 (hp w) g t) (B : xD pg0 j (hp w) (Bg jt) (fun (r : Bool) => (.bool r)) z) (hm : sS t z = some r) :
  jZ false pg0 148 [g, j] w (.int .i64 r) := by
 refine cG 19 func148 rfl (fun b => sg (Wa (lS (Wm (V (kK aD rfl c) (Wm (ln (kA (fun i E W => ∃ k, (E 8 = .int .i64 (i : Nat) ∧ E 7 = .int .i64 (t.length : Nat)) ∧ ST false kw w W (hp w) k ∧ E 0 = g ∧ E 1 = j ∧ nh z (t.drop i) i = some r) t.length c.len ⟨_, ⟨rfl, rfl⟩, (b.jv St), rfl, rfl, hm⟩ dc dc dc (fun _ _ _ h => by obtain ⟨_, l, _⟩ := h; exact l) ?_ ?_))))))))
 ·rintro Q E W G ⟨k, ⟨d, m⟩, b, u, x, a⟩
  obtain ⟨y, U, M, K, N⟩ := ku G
  rw [M] at a
  refine bg (Wh d (Wa (lr (Wh x (Wh u (Wm (VQ (lI (i := (Q : Int)) (x0 := y) jt.out aD aC rfl rfl c (aG _) K) (fun Z ⟨_, ⟨T, rfl, J⟩, H⟩ => V (jx rfl (jS b.has H aO aC)) (bS a fun n I a => ?_)))))))))
  refine VE (yN y b B (jX.refl _) (Bg.mk jC (jt.mk ⟨T, rfl, J⟩) b.jF) rfl (ue rfl) I (fun Y b => ln (CI a rfl (fun D a => ?_) (fun D a => ?_))))
  ·refine sg (Wm (Wa (lt (mc (ki (mc (ki ?_)))))))
   obtain rfl := sj a
   exact rP b
  exact kQ (kl (jH ⟨d, _, ⟨rfl, m⟩, (b.jv St), u, x, (by rw [N]; exact a)⟩))
 rintro E W ⟨k, ⟨d, m⟩, b, u, x, a⟩
 rw [aM] at a
 exact jH (sg (Wa (lt (rQ a b))))
theorem uQ (a : Value) (g : List Formula) (c : Value) (i : Formula → Option Bool) (r : Bool) (w : World) (j : Sl jt 5 (hp w) a g) (k : xD pg0 c (hp w) (Bg jt) (fun (r : Bool) => (.bool r)) i) (hm : nS g i = some r) :
  jZ false pg0 125 [a, c] w (.bool r) := by
 refine cG 9 func125 rfl (fun b => sg (Wa (lr (Wm (Wm (bS hm fun x t hm => VE (Eg b call148 (Ac a g c i _ _ (j.mono jC.mono b.jF) (k.mono b.jF) t) (fun u b => Wi rfl (Wa (jT ?_))))))))))
 exact jH (ke (rQ hm b))
theorem Eb (i : Formula → Option Bool) (t : ∀ (c : Formula) (a : Value) (r : Bool) (w : World) (g : Sl jt 5 (hp w) a c.Kids), i c = some r → jZ false pg0 86 [(.agg #[(.int .i64 c.Op), (.int .i64 c.K), (.string c.jr.ju), (.string c.jr.jy), a])] w (.bool r)) (c : Formula) (a : Value) (r : Bool) (w : World) (g : Sl jt 5 (hp w) a c.Kids) (hm : uz i c = some r) :
  jZ false pg0 126 [(.agg #[(.int .i64 c.Op), (.int .i64 c.K), (.string c.jr.ju), (.string c.jr.jy), a])] w (.bool r) := by
 refine cG 6 func126 rfl (fun b => sg ?_)
 obtain ⟨j, k, rfl⟩ := g.form
 refine VE (kv b rfl (fun x z b => Wa (lr (VA b Mh (C1 c.Op c.K c.jr.ju c.jr.jy j c.Kids.length k) aO aC (bS hm fun B u hm => VE (Eg b call86 (t c (.slice j c.Kids.length k) _ _ (g.mono jC.mono b.jF) u) (fun y b => V (nt rfl) (Wa (ln ?_)))))))))
 exact ke (rQ hm b)
theorem CP (z : Formula → Option Bool) (T : ∀ (a : Formula) (g : Value) (r : Bool) (w : World) (c : Sl jt 5 (hp w) g a.Kids), z a = some r → jZ false pg0 86 [(.agg #[(.int .i64 a.Op), (.int .i64 a.K), (.string a.jr.ju), (.string a.jr.jy), g])] w (.bool r)) (a : Formula) (g : Value) (r : Bool) (w : World) (c : Sl jt 5 (hp w) g a.Kids) (hm : vB z a = some r) :
  jZ false pg0 86 [(.agg #[(.int .i64 a.Op), (.int .i64 a.K), (.string a.jr.ju), (.string a.jr.jy), g])] w (.bool r) := by
 refine cG 17 func86 rfl (fun b => sg ?_)
 obtain ⟨B, D, rfl⟩ := c.form
 let a0 := (C1 a.Op a.K a.jr.ju a.jr.jy B a.Kids.length D)
 refine VE (kv b rfl (fun W4 U b => Wa (lr (VA b Mh a0 aO aC (bS hm fun v a3 hm => VE (Eg b call124 (jZ.lG (Hr a (.slice B a.Kids.length D) _ _ (c.mono jC.mono b.jF) a3)) (fun W7 b => Wm (LJ hm (fun K E W => ∃ G, ST false kw w W (hp w) ((U, Ol a0 30) :: G) ∧ E 1 = (.pointer (some ⟨U, 0, none⟩)) ∧ E 2 = (.bool false) ∧ E 10 = (.bool K)) 5 ?_ (fun K t y => ?_)))))))))
 ·rintro L E W ⟨G, b, Y, I, Z⟩ M
  refine Wh Z (LJ M (fun J E W => ∃ H, ST false kw w W (hp w) H ∧ E 2 = (.bool false) ∧ E 16 = (.bool J)) 5 ?_ (fun J k u => ?_))
  ·rintro q E W ⟨H, b, n, d⟩ N
   exact Wg d (lt (rQ N b))
  refine bC k (fun i k => ?_) (fun i k => ?_)
  ·refine ug i (jE nm Y) (ug i (jx rfl (jJ b.has Mh rfl dH)) (bS k fun p Q k => tM i (Eg b call125 (uQ (.slice B a.Kids.length D) a.Kids (.func (.func 126) #[] #[]) (fun (x : Formula) => uz z x) _ _ (c.mono jC.mono b.jF) ⟨126, #[], #[], rfl, call126, fun W x vs r s h hm => by obtain ⟨_, rfl, a2⟩ := h; obtain ⟨m, rfl, l⟩ := a2.out; exact Eb z T x m r W l hm⟩ Q) (fun a5 b => ug i (nt rfl) (V (jO (cB i) rfl) ?_)))))
   obtain rfl := sj k
   exact u _ _ ⟨_, (b.jv (Db St)), I, rfl⟩
  refine un i (un i (un i (un i (V (jP (cB i) rfl) ?_))))
  obtain rfl := sj k
  exact u _ _ ⟨_, (b.jv (Db St)), I, rfl⟩
 refine bC t (fun j t => ?_) (fun j t => ?_)
 ·refine ug j (jE nm rfl) (ug j (jx rfl (jJ b.has Mh rfl dH)) (ug j (kK aD rfl c) (ug j (kh rfl rfl rfl) (V (jO (cB j) rfl) ?_))))
  obtain rfl := sj t
  exact y _ _ ⟨_, (b.jv St), rfl, rfl, rfl⟩
 refine un j (un j (un j (un j (V (jP (cB j) rfl) ?_))))
 obtain rfl := sj t
 exact y _ _ ⟨_, (b.jv St), rfl, rfl, rfl⟩
theorem BA : ∀ (n : Nat) (c : Formula) (a : Value) (r : Bool) (w : World) (g : Sl jt 5 (hp w) a c.Kids) (_ : qZ n c = some r),
  jZ false pg0 86 [(.agg #[(.int .i64 c.Op), (.int .i64 c.K), (.string c.jr.ju), (.string c.jr.jy), a])] w (.bool r)
 | 0 => by intros; rename_i h; simp only [qZ] at h; cases h
 | n + 1 => CP (qZ n) (BA n)
theorem wh (a : Formula) (k : Value) (r : Bool) (w : World) (c : Sl jt 5 (hp w) k a.Kids) (hm : qY a = some r) :
  jZ false pg0 61 [(.agg #[(.int .i64 a.Op), (.int .i64 a.K), (.string a.jr.ju), (.string a.jr.jy), k])] w (.bool r) := by
 refine cG 24 func61 rfl (fun b => sg ?_)
 obtain ⟨y, z, rfl⟩ := c.form
 let a0 := (C1 a.Op a.K a.jr.ju a.jr.jy y a.Kids.length z)
 refine VE (kv b rfl (fun W4 H b => Wa (lr (VA b Mh a0 aO aC (bS hm fun n a9 hm => VE (Eg b call85 (Hy a (.slice y a.Kids.length z) _ _ (c.mono jC.mono b.jF) a9) (fun W7 b => Wm (Wx rfl (Wx rfl (Wa (Wa (jT ?_))))))))))))
 refine jH (sg (Wm (Wi rfl (Wm (LJ hm (fun Y E W => ∃ I, ST false kw w W (hp w) ((H, Ol a0 30) :: I) ∧ E 1 = (.pointer (some ⟨H, 0, none⟩)) ∧ E 2 = (.bool false) ∧ E 4 = (.int .i64 n.2) ∧ E 15 = (.bool Y)) 3 ?_ (fun Y x G => ?_))))))
 ·rintro O E W ⟨I, b, M, N, a4, a5⟩ Z
  refine Wh a5 (LJ Z (fun U E W => ∃ J, ST false kw w W (hp w) ((H, Ol a0 30) :: J) ∧ E 1 = (.pointer (some ⟨H, 0, none⟩)) ∧ E 2 = (.bool false) ∧ E 19 = (.bool U)) 3 ?_ (fun U u D => ?_))
  ·rintro v E W ⟨J, b, h, Q, l⟩ d
   refine Wh l (LJ d (fun T E W => ∃ K, ST false kw w W (hp w) K ∧ E 2 = (.bool false) ∧ E 23 = (.bool T)) 3 ?_ (fun T j B => ?_))
   ·rintro L E W ⟨K, b, q, m⟩ a2
    exact Wg m (lt (rQ a2 b))
   refine bC j (fun i j => ?_) (fun i j => ?_)
   ·refine ug i (jx h (jD b.has Mh a0 rfl aO aC)) (bS j fun s a3 j => tM i (Eg b call86 ((BA kd) a (.slice y a.Kids.length z) _ _ (c.mono jC.mono b.jF) a3) (fun p b => V (jO (cB i) rfl) ?_)))
    obtain rfl := sj j
    exact B _ _ ⟨_, (b.jv (Db St)), Q, rfl⟩
   refine un i (un i (V (jP (cB i) rfl) ?_))
   obtain rfl := sj j
   exact B _ _ ⟨_, (b.jv (Db St)), Q, rfl⟩
  refine bC u (fun g u => ?_) (fun g u => ?_)
  ·refine ug g (jz a4) (ug g (kh rfl rfl rfl) (V (jO (cB g) rfl) ?_))
   obtain rfl := sj u
   exact D _ _ ⟨_, (b.jv St), M, N, rfl⟩
  refine un g (un g (V (jP (cB g) rfl) ?_))
  obtain rfl := sj u
  exact D _ _ ⟨_, (b.jv St), M, N, rfl⟩
 refine bC x (fun t x => ?_) (fun t x => ?_)
 ·refine ug t (jz rfl) (ug t (kh rfl rfl rfl) (V (jO (cB t) rfl) ?_))
  obtain rfl := sj x
  exact G _ _ ⟨_, (b.jv St), rfl, rfl, rfl, rfl⟩
 refine un t (un t (V (jP (cB t) rfl) ?_))
 obtain rfl := sj x
 exact G _ _ ⟨_, (b.jv St), rfl, rfl, rfl, rfl⟩
theorem CT (Q : Formula → (jr → Option Bool) → Option Bool) (a5 : ∀ (g : Formula) (k : Value) (t : Value) (J : jr → Option Bool) (r : Bool) (w : World) (c : Sl jt 5 (hp w) k g.Kids) (K : zZ pg0 t (hp w) (fun (x : jr) => [(.agg (jA x).toArray)]) (fun (r : Bool) => (.bool r)) J), Q g J = some r → jZ false pg0 62 [(.agg #[(.int .i64 g.Op), (.int .i64 g.K), (.string g.jr.ju), (.string g.jr.jy), k]), t] w (.bool r)) (g : Formula) (k t : Value) (J : jr → Option Bool) (r : Bool) (w : World) (c : Sl jt 5 (hp w) k g.Kids) (K : zZ pg0 t (hp w) (fun (x : jr) => [(.agg (jA x).toArray)]) (fun (r : Bool) => (.bool r)) J) (hm : vA Q g J = some r) :
  jZ false pg0 62 [(.agg #[(.int .i64 g.Op), (.int .i64 g.K), (.string g.jr.ju), (.string g.jr.jy), k]), t] w (.bool r) := by
 refine cG 45 func62 rfl (fun b => sg ?_)
 obtain ⟨A1, c2, rfl⟩ := c.form
 refine VE (kv b rfl (fun W4 n b => Wa (lS (Wf nn (VB b Mh rfl rfl bR (Wi rfl (ln (CI hm rfl (fun a9 hm => ?_) (fun a9 hm => ?_)))))))))
 ·refine sg (Wm (Wf tQ (VA b Mh (jA g.jr) bG aS (bS hm fun r6 v hm => VE (O2 g.jr b K (jX.refl _) rfl (ue rfl) v (fun W8 b => Wa (ln ?_)))))))
  replace b := b.jv (Db St)
  refine ke (ki ?_)
  obtain rfl := sj hm
  exact rP b
 refine kg (Wa (lS (Wf nm (VB b Mh rfl rfl dH (V (kK aD rfl c) (Wm (jT ?_)))))))
 refine jH (kA (fun i E W => ∃ z I, (E 18 = .int .i64 (i : Nat) ∧ E 17 = .int .i64 (g.Kids.length : Nat)) ∧ ST false kw w W (hp w) ((n, Ol (C1 g.Op g.K g.jr.ju g.jr.jy A1 g.Kids.length c2) 30) :: I) ∧ E 1 = t ∧ E 2 = (.pointer (some ⟨n, 0, none⟩)) ∧ E 5 = (.int .i64 z) ∧ E 16 = (.slice A1 g.Kids.length c2) ∧ pq Q J g (g.Kids.drop i) z = some r) g.Kids.length c.len ⟨0, _, ⟨rfl, rfl⟩, (b.jv St), rfl, rfl, rfl, rfl, hm⟩ dc dc dc (fun _ _ _ h => by obtain ⟨_, _, l, _⟩ := h; exact l) ?_ ?_)
 ·rintro L E W a4 ⟨z, I, ⟨d, m⟩, b, G, u, y, H, a⟩
  obtain ⟨j, c1, s, q, N⟩ := ku a4
  rw [s] at a
  refine bg (VQ (lI (i := (L : Int)) (x0 := j) jt.out aD aC H d c (aG _) q) (fun b7 ⟨_, ⟨c0, rfl, M⟩, Z⟩ => V (jx rfl (jS b.has Z aO aC)) (VE (jU b aQ (fun O b6 b => ?_)))))
  obtain ⟨B, D, rfl⟩ := M.form
  let a0 := (C1 j.Op j.K j.jr.ju j.jr.jy B j.Kids.length D)
  refine VO (jK (.agg a0.toArray) (a0.toArray) b rfl rfl aC oc nb rfl (fun P b => lr (VA b Mh a0 aO aC (Wh G (bS a fun b9 p a => VE (Eg b call62 (a5 j (.slice B j.Kids.length D) t J _ _ (M.mono jC.mono b.jF) (K.mono b.jF) p) (fun R b => ln ?_)))))))
  replace b := b.jv (Db St)
  refine CI a rfl (fun T a => ?_) (fun T a => ?_)
  ·exact jG (Wh y (Wi rfl (Wa (jT (kl (jH ⟨d, (wi0 .i64 (z + 1)), _, ⟨rfl, m⟩, (b.jv St), G, u, rfl, H, (by rw [N]; exact a)⟩))))))
  exact kQ (kl (jH ⟨d, z, _, ⟨rfl, m⟩, (b.jv St), G, u, y, H, (by rw [N]; exact a)⟩))
 rintro E W ⟨z, I, ⟨d, m⟩, b, G, u, y, H, a⟩
 rw [aM] at a
 refine jH (jL (sg (V (jE nn u) (VB b Mh rfl rfl bR (ln (bg (Wi rfl (Wa (ln ?_)))))))))
 refine CI a rfl (fun U a => ?_) (fun U a => ?_)
 ·refine sg (Wh y (V (jE nm u) (VB b Mh rfl rfl dH (V (kK aD rfl c) (Wi rfl (Wa (ln ?_)))))))
  replace b := b.jv (Db St)
  refine ke (mc (ki ?_))
  obtain rfl := sj a
  exact rP b
 refine sg (Wi rfl (Wa (ln (CI a rfl (fun Y a => ?_) (fun Y a => ?_)))))
 ·refine sg (Wh y (Wi rfl (Wa (ln ?_))))
  replace b := b.jv (Db St)
  refine ke (mc (ki ?_))
  obtain rfl := sj a
  exact rP b
 refine kQ (kl (jH (sg (Wh y (V (jE rG u) (VB b Mh rfl rfl bR (Wi rfl (Wa (ln ?_)))))))))
 exact ke (rQ a b)
theorem BI : ∀ (n : Nat) (c : Formula) (a : Value) (g : Value) (j : jr → Option Bool) (r : Bool) (w : World) (i : Sl jt 5 (hp w) a c.Kids) (k : zZ pg0 g (hp w) (fun (x : jr) => [(.agg (jA x).toArray)]) (fun (r : Bool) => (.bool r)) j) (_ : pP n c j = some r),
  jZ false pg0 62 [(.agg #[(.int .i64 c.Op), (.int .i64 c.K), (.string c.jr.ju), (.string c.jr.jy), a]), g] w (.bool r)
 | 0 => by intros; rename_i h; simp only [pP] at h; cases h
 | n + 1 => CT (pP n) (BI n)
theorem Ch (a : Formula) (j k : Value) (G : jr → Option Bool) (r : Bool) (w : World) (c : Sl jt 5 (hp w) j a.Kids) (z : zZ pg0 k (hp w) (fun (x : jr) => [(.agg (jA x).toArray)]) (fun (r : Bool) => (.bool r)) G) (hm : vn a G = some r) :
  jZ false pg0 34 [(.agg #[(.int .i64 a.Op), (.int .i64 a.K), (.string a.jr.ju), (.string a.jr.jy), j]), k] w (.bool r) := by
 refine cG 16 func34 rfl (fun b => sg ?_)
 obtain ⟨u, y, rfl⟩ := c.form
 let a0 := (C1 a.Op a.K a.jr.ju a.jr.jy u a.Kids.length y)
 refine VE (kv b rfl (fun U Z b => Wa (lr (Wm (V (Iq underlying77 z.form rfl rfl) (Wm (Vg rfl rfl (jx rfl (jD b.has Mh a0 rfl aO aC)) (bS hm fun d K hm => Lw rfl rfl (Eg b call61 (wh a (.slice u a.Kids.length y) _ _ (c.mono jC.mono b.jF) K) (fun Y b => V (jO rfl rfl) (Wm (LJ hm (fun D E W => ∃ B, ST false kw w W (hp w) B ∧ E 4 = (.bool false) ∧ E 15 = (.bool D)) 4 ?_ (fun D g t => ?_)))))))))))))
 ·rintro T E W ⟨B, b, N, J⟩ H
  exact Wg J (lt (rQ H b))
 refine bC g (fun i g => ?_) (fun i g => ?_)
 ·refine ug i (jx rfl (jD b.has Mh a0 rfl aO aC)) (ug i (jz rfl) (bS g fun Q I g => tM i (Eg b call62 ((BI kd) a (.slice u a.Kids.length y) k G _ _ (c.mono jC.mono b.jF) (z.mono b.jF) I) (fun M b => V (jO (cB i) rfl) ?_))))
  obtain rfl := sj g
  exact t _ _ ⟨_, (b.jv (Db St)), rfl, rfl⟩
 refine un i (un i (un i (V (jP (cB i) rfl) ?_)))
 obtain rfl := sj g
 exact t _ _ ⟨_, (b.jv (Db St)), rfl, rfl⟩
theorem A0 (K : Nat) (a : Value) (G : List (jr × (List (ByteArray × Bool)))) (c : Value) (t : List js) (j : Value) (D : List (jr × (List js))) (g : Value) (u : List (ByteArray × (List js))) (i : Value) (B : List jM) (J : Int) (I : jr) (a2 : ByteArray) (r : Bool) (w : World) (H : pD (fun (x : jr) => (.agg (jA x).toArray)) (lN Value.string (fun (x : Bool) => (Value.bool x))) (hp w) a G) (T : Sl (Pl jw) 9 (hp w) c t) (Z : pD (fun (x : jr) => (.agg (jA x).toArray)) (jV 49 jw 9) (hp w) j D) (U : pD Value.string (jV 49 jw 9) (hp w) g u) (Y : Sl (Pl kq) 3 (hp w) i B) (Q : At (hp w) (.pointer (some ⟨K, 0, none⟩)) [a, c, j, g, i, (.int .i64 J)]) (hm : tT G t D u B J I a2 = some r) :
  jZ true pg0 60 [(.pointer (some ⟨K, 0, none⟩)), (.agg (jA I).toArray), (.string a2)] w (.bool r) := by
 refine cG 19 func60 rfl (fun l => sg (VE (kv l rfl (fun W2 q l => Wa (ln (jL ?_))))))
 replace l := l.drew
 have d := l.has.jv (Kb Sn)
 refine kO d kp (X 0 rfl d (jz rfl) (X 1 rfl d (Dx underlying106 rfl rfl) (X 2 rfl d (jz rfl) (Xg 3 rfl rfl rfl d (jz rfl) (Xg 4 rfl rfl rfl d (mT rfl) (qL 5 rfl kr (.inr ⟨2, true, 9, rfl, rfl, by decide, rfl⟩) rfl dc (fun _ _ h => h) d (qz [a] xk rfl Q rfl) (fun p a3 => sZ 6 rfl rfl rfl d (fun _ m => jx rfl (ni m (y := a) a3 gU)) (sZ 7 rfl rfl rfl d (fun _ m => jx rfl (jD m Mh (jA I) rfl bG aS)) ?_))))))))
 obtain ⟨a4, a5, M, N⟩ := H
 refine sZ 8 rfl rfl rfl d (fun _ m => pd (k := I) (z := (.map none)) Ai eU fH rfl rfl M (fun b o n => m.1 b o (N b o n))) (Xg 9 rfl rfl rfl d (jz rfl) (sZ 10 rfl rfl rfl d (fun _ m => zM (k := a2) (z := false) (vf := (fun (x : Bool) => (Value.bool x))) GM fM gp rfl rfl ((mJ.Dl jR.1 M I N).mono (fun b o n => m.1 b o n))) (X 11 rfl d (jO rfl rfl) (X 12 rfl d (mw rfl) (kP kr (jH ?_))))))
 exact ke (rQ hm l)
theorem DT (a0 : jr) (s d : Nat) (Y : Value) (a4 : List (jr × (List (ByteArray × Bool)))) (B : Value) (Q : List js) (J : Value) (h : List (jr × (List js))) (D : Value) (T : List (ByteArray × (List js))) (I : Value) (Z : List jM) (l : Int) (v : Nat) (N : ByteArray) (k : Value) (H : List kD) (z : Value) (M : List nF) (a : ByteArray) (c : Value) (t : List kD) (g : Value) (G : List nF) (K U : Int) (i : jr) (j : Value) (u : List Formula) (q : Int) (a2 : kT) (a3 n a5 : Int) (m : Value) (p : List Key) (r : Bool) (w : World) (P : pD (fun (x : jr) => (.agg (jA x).toArray)) (lN Value.string (fun (x : Bool) => (Value.bool x))) (hp w) Y a4) (a9 : Sl (Pl jw) 9 (hp w) B Q) (O : pD (fun (x : jr) => (.agg (jA x).toArray)) (jV 49 jw 9) (hp w) J h) (E : pD Value.string (jV 49 jw 9) (hp w) D T) (L : Sl (Pl kq) 3 (hp w) I Z) (R : At (hp w) (.pointer (some ⟨d, 0, none⟩)) [Y, B, J, D, I, (.int .i64 l)]) (W : At (hp w) (.pointer (some ⟨s, 0, none⟩)) [(.pointer (some ⟨d, 0, none⟩))]) (c2 : Sl kz 15 (hp w) k H) (c3 : Sl lF 8 (hp w) z M) (b9 : Sl kz 15 (hp w) c t) (c1 : Sl lF 8 (hp w) g G) (c0 : Sl jt 5 (hp w) j u) (d0 : Sl qt 2 (hp w) m p) (c9 : At (hp w) (.pointer (some ⟨v, 0, none⟩)) [(.string N), k, z, (.string a), c, g, (.int .i64 K), (.int .i64 U), (.string i.ju), (.string i.jy), j, (.int .i64 q), (.int .i64 a2.nT), (.int .i64 a2.nD), (.int .i64 a3), (.int .i64 n), (.int .i64 a5), m]) (hm : ub a0 a4 Q h T Z l N H M a t G K U i u q a2 a3 n a5 p = some r) :
  jZ true pg0 82 [(.agg (jA a0).toArray), (.pointer (some ⟨s, 0, none⟩)), (.pointer (some ⟨v, 0, none⟩))] w (.bool r) := by
 refine cG 11 func82 rfl (fun b => sg (VE (kv b rfl (fun W2 b1 b => Wa (lr (V (jx rfl (ni b.has (y := (.pointer (some ⟨d, 0, none⟩))) W isAgg106)) (VA b Mh (jA a0) bG aS (VQ (qz [(.string a), c, g] AN rfl c9 rfl) (fun p3 d2 => VQ (qz [(.string a)] Cp rfl d2 rfl) (fun p6 d3 => V (jx rfl (ni b.has (y := (.string a)) d3 bV)) (bS hm fun r9 d1 hm => ?_)))))))))))
 refine VE (Eg b call60 (A0 d Y a4 B Q J h D T I Z l a0 a _ _ (P.mono b.jF) (a9.mono (Pl.mono _) b.jF) (O.mono b.jF) (E.mono b.jF) (L.mono (Pl.mono _) b.jF) (R.mono b.jF) d1) (fun d4 b => Wa (ln ?_)))
 exact ke (rQ hm b)
theorem AX (a : na) (y B i u j I K : Value) (m : List js) (r : Bool) (w : World) (t : Sl kz 15 (hp w) y a.ju.jN) (z : Sl lF 8 (hp w) B a.ju.ky) (g : Sl kz 15 (hp w) i a.Client.jN) (k : Sl lF 8 (hp w) u a.Client.ky) (c : Sl jt 5 (hp w) j a.Formula.Kids) (H : Sl qt 2 (hp w) I a.Keys) (a4 : Sl (Pl jw) 9 (hp w) K m) (hm : tZ a m = some r) :
  jZ false pg0 53 [(.agg #[(.string a.ju.Name), y, B, (.string a.Client.Name), i, u, (.int .i64 a.Formula.Op), (.int .i64 a.Formula.K), (.string a.Formula.jr.ju), (.string a.Formula.jr.jy), j, (.int .i64 a.uY), (.int .i64 a.nu.nT), (.int .i64 a.nu.nD), (.int .i64 a.pa), (.int .i64 a.sH), (.int .i64 a.qp), I]), K] w (.bool r) := by
 refine cG 12 func53 rfl (fun d => sg ?_)
 obtain ⟨A1, c2, rfl⟩ := t.form
 obtain ⟨A3, P, rfl⟩ := z.form
 obtain ⟨A5, c6, rfl⟩ := g.form
 obtain ⟨A7, c8, rfl⟩ := k.form
 obtain ⟨U, M, rfl⟩ := c.form
 obtain ⟨Y, Z, rfl⟩ := H.form
 refine VE (kv d rfl (fun d6 N d => Wa (lr (Wm (bS hm fun G a5 hm => ?_)))))
 refine VE (AT d (bT _) call58 (fun _ _ _ _ => (G5 K m _ _ (a4.mono (Pl.mono _) d.jF) a5)) (fun d7 e2 e3 d0 d D p n a3 => ?_) (L0 := []))
 obtain ⟨Q, c1, d1, O, d2, R, d3, c7, d4, c9, d5, J, rfl, s, v, a9, E, L⟩ := a3
 replace J := J.symm; subst J
 replace d := d.perm (Tb (Tr (Tr (Tr (Tr (Tr Tn))))))
 refine VE (jU d zeroValue106 (fun d8 T d => VO (jK (.pointer (some ⟨Q, 0, none⟩)) (#[(.pointer (some ⟨Q, 0, none⟩))]) d rfl rfl sizeOf106 oc nb rfl (fun d9 d => lr (Wf JQ (VA d (Mt (Mt (Ma (Ma (Ma (Ma (Ma Mh))))))) (C1 a.Formula.Op a.Formula.K a.Formula.jr.ju a.Formula.jr.jy U a.Formula.Kids.length M) aO aC (V (qJ (by exact uW rfl rfl) rfl) (bS hm fun e1 q hm => VE (Eg d call34 (Ch a.Formula (.slice U a.Formula.Kids.length M) (.func (.func 82) #[] #[(.pointer (some ⟨T, 0, none⟩)), (.pointer (some ⟨N, 0, none⟩))]) (fun (x : jr) => ub x G.1 G.2.1 G.2.2.1 G.2.2.2.1 G.2.2.2.2.1 G.2.2.2.2.2 a.ju.Name a.ju.jN a.ju.ky a.Client.Name a.Client.jN a.Client.ky a.Formula.Op a.Formula.K a.Formula.jr a.Formula.Kids a.uY a.nu a.pa a.sH a.qp a.Keys) _ _ (c.mono jC.mono (D.trans d.jF)) ⟨82, #[], #[(.pointer (some ⟨T, 0, none⟩)), (.pointer (some ⟨N, 0, none⟩))], rfl, call82, fun W x r l hm => (DT x T Q c1 G.1 O G.2.1 R G.2.2.1 c7 G.2.2.2.1 c9 G.2.2.2.2.1 G.2.2.2.2.2 N a.ju.Name (.slice A1 a.ju.jN.length c2) a.ju.jN (.slice A3 a.ju.ky.length P) a.ju.ky a.Client.Name (.slice A5 a.Client.jN.length c6) a.Client.jN (.slice A7 a.Client.ky.length c8) a.Client.ky a.Formula.Op a.Formula.K a.Formula.jr (.slice U a.Formula.Kids.length M) a.Formula.Kids a.uY a.nu a.pa a.sH a.qp (.slice Y a.Keys.length Z) a.Keys r W (s.at (fun b o h => l _ _ ((fun b o h => d.at_ (Mt (Mt (Ml h)))) b o h))) (v.sl kc (fun b o h => l _ _ ((fun b o h => d.at_ (Mt (Mt (Ma (Ml h))))) b o h))) (a9.at (fun b o h => l _ _ ((fun b o h => d.at_ (Mt (Mt (Ma (Ma (Ml h)))))) b o h))) (E.at (fun b o h => l _ _ ((fun b o h => d.at_ (Mt (Mt (Ma (Ma (Ma (Ml h))))))) b o h))) ((L.DH qu).mono (Pl.mono _) (lR (fun b o h => l _ _ ((fun b o h => d.at_ (Mt (Mt (Ma (Ma (Ma (Ma (Ml h)))))))) b o h)))) (At.of (l _ _ (d.at_ (Mt Mh))) _ rfl) (At.of (l _ _ (d.at_ Mh)) _ rfl) (t.mono kC.mono ((D.trans d.jF).trans l)) (z.mono mI.mono ((D.trans d.jF).trans l)) (g.mono kC.mono ((D.trans d.jF).trans l)) (k.mono mI.mono ((D.trans d.jF).trans l)) (c.mono jC.mono ((D.trans d.jF).trans l)) (H.mono yg.mono ((D.trans d.jF).trans l)) (At.of (l _ _ (d.at_ (Mt (Mt (Ma (Ma (Ma (Ma (Ma Mh))))))))) _ rfl) hm).lG⟩ q) (fun e0 d => Wa (ln ?_)))))))))))
 exact ke (rQ hm d)
theorem wk (a : na) (j k c i g t : Value) (r : (ByteArray × ByteArray × Int × Int × jr × Int × kT × Int × Int × Int)) (w : World) (z : Sl kz 15 (hp w) j a.ju.jN) (B : Sl lF 8 (hp w) k a.ju.ky) (u : Sl kz 15 (hp w) c a.Client.jN) (y : Sl lF 8 (hp w) i a.Client.ky) (x : Sl jt 5 (hp w) g a.Formula.Kids) (D : Sl qt 2 (hp w) t a.Keys) (hm : ol a = some r) :
  kR true pg0 8 [(.agg #[(.string a.ju.Name), j, k, (.string a.Client.Name), c, i, (.int .i64 a.Formula.Op), (.int .i64 a.Formula.K), (.string a.Formula.jr.ju), (.string a.Formula.jr.jy), g, (.int .i64 a.uY), (.int .i64 a.nu.nT), (.int .i64 a.nu.nD), (.int .i64 a.pa), (.int .i64 a.sH), (.int .i64 a.qp), t])] w [] (fun v Y W' => ∃ I, v = (.func (.func 24) #[] #[(.pointer (some ⟨I, 0, none⟩))]) ∧ Y = ((I, Ob #[(.string (r.1)), j, k, (.string (r.2.1)), c, i, (.int .i64 (r.2.2.1)), (.int .i64 (r.2.2.2.1)), (.string ((r.2.2.2.2.1).ju)), (.string ((r.2.2.2.2.1).jy)), g, (.int .i64 (r.2.2.2.2.2.1)), (.int .i64 ((r.2.2.2.2.2.2.1).nT)), (.int .i64 ((r.2.2.2.2.2.2.1).nD)), (.int .i64 (r.2.2.2.2.2.2.2.1)), (.int .i64 (r.2.2.2.2.2.2.2.2.1)), (.int .i64 (r.2.2.2.2.2.2.2.2.2)), t] 34) :: [])) := by
 refine wm 4 func8 rfl (fun b => sg ?_)
 obtain ⟨M, Z, rfl⟩ := z.form
 obtain ⟨N, d, rfl⟩ := B.form
 obtain ⟨Q, h, rfl⟩ := u.form
 obtain ⟨T, l, rfl⟩ := y.form
 obtain ⟨U, J, rfl⟩ := x.form
 obtain ⟨H, K, rfl⟩ := D.form
 refine VE (kv b rfl (fun a4 G b => Wa (lr (V (qJ (by exact ue rfl) rfl) (Wa (lt ?_))))))
 obtain rfl := sj hm
 exact lj (v := (.func (.func 24) #[] #[(.pointer (some ⟨G, 0, none⟩))])) rfl rfl ⟨_, _, rfl, (b.Ih (Kb Sn)), G, rfl, rfl⟩
theorem JT (c : Value) (D : List js) (G : ByteArray) (r : ((List (jr × (List (ByteArray × Bool)))) × (List js) × (List (jr × (List js))) × (List (ByteArray × (List js))) × (List jM) × Int × ByteArray)) (w : World) (I : Sl (Pl jw) 9 (hp w) c D) (hm : vj D G = some r) :
  kR false pg0 43 [c, (.string G)] w [] (fun v L1 W' => ∃ g h l S4 m S7 n j z k B t u, v = (.func (.func 70) #[] #[(.pointer (some ⟨g, 0, none⟩)), (.pointer (some ⟨u, 0, none⟩))]) ∧ L1 = ((g, Ob #[(.pointer (some ⟨h, 0, none⟩))] 106) :: ((h, Ob #[l, m, n, z, B, (.int .i64 (r.2.2.2.2.2.1))] 135) :: ((u, Ob #[(.string (r.2.2.2.2.2.2))] 9) :: (S4 ++ (S7 ++ (j ++ (k ++ (t ++ [])))))))) ∧ lY (fun (x : jr) => (.agg (jA x).toArray)) (lN Value.string (fun (x : Bool) => (Value.bool x))) l r.1 S4 ∧ jV 49 jw 9 m r.2.1 S7 ∧ lY (fun (x : jr) => (.agg (jA x).toArray)) (jV 49 jw 9) n r.2.2.1 j ∧ lY Value.string (jV 49 jw 9) z r.2.2.2.1 k ∧ pW 111 kq 3 B r.2.2.2.2.1 t) := by
 refine wm 9 func43 rfl (fun b => sg (VE (kv b rfl (fun W2 g b => Wa (lr (Wm (bS hm fun r3 p hm => ?_)))))))
 refine VE (AT b (bT _) call58 (fun _ _ _ _ => (G5 c D _ _ (I.mono (Pl.mono _) b.jF) p)) (fun W5 v9 P W b R O d H => ?_) (L0 := []))
 obtain ⟨i, q, T, s, U, a9, Y, E, Z, L, a2, a, rfl, J, K, M, N, Q⟩ := H
 replace a := a.symm; subst a
 replace b := b.perm (Tb (Tr (Tr (Tr (Tr (Tr Tn))))))
 refine VE (jU b zeroValue106 (fun c1 y b => VO (jK (.pointer (some ⟨i, 0, none⟩)) (#[(.pointer (some ⟨i, 0, none⟩))]) b rfl rfl sizeOf106 oc nb rfl (fun c2 b => lr (V (qJ (by exact uW rfl rfl) rfl) (Wa (lt ?_)))))))
 obtain rfl := sj hm
 exact lj (v := (.func (.func 70) #[] #[(.pointer (some ⟨y, 0, none⟩)), (.pointer (some ⟨g, 0, none⟩))])) rfl rfl ⟨_, _, rfl, (b.Ih (Kb (Kb (Sb (Pr (Pr (Pr (Pr (Pr Pz))))) (Kr (Kr (Kr (Kr (Kr Sn))))))))), y, i, q, T, s, U, a9, Y, E, Z, L, a2, g, rfl, rfl, J, K, M, N, Q⟩
theorem Aa (g : Value) (t : List kD) (j : Value) (z : kD → Option Bool) (r : Int) (w : World) (c : Sl kz 15 (hp w) g t) (B : xD pg0 j (hp w) (Bg kz) (fun (r : Bool) => (.bool r)) z) (hm : sV t z = some r) :
  jZ false pg0 91 [g, j] w (.int .i64 r) := by
 refine cG 19 func91 rfl (fun b => sg (Wa (lS (Wm (V (kK er rfl c) (Wm (ln (kA (fun i E W => ∃ k, (E 8 = .int .i64 (i : Nat) ∧ E 7 = .int .i64 (t.length : Nat)) ∧ ST false kw w W (hp w) k ∧ E 0 = g ∧ E 1 = j ∧ ng z (t.drop i) i = some r) t.length c.len ⟨_, ⟨rfl, rfl⟩, (b.jv St), rfl, rfl, hm⟩ dc dc dc (fun _ _ _ h => by obtain ⟨_, l, _⟩ := h; exact l) ?_ ?_))))))))
 ·rintro T E W G ⟨k, ⟨d, m⟩, b, u, x, a⟩
  obtain ⟨y, Z, N, M, Q⟩ := ku G
  rw [N] at a
  refine bg (Wh d (Wa (lr (Wh x (Wh u (Wm (VQ (lI (i := (T : Int)) (x0 := y) kz.out er dT rfl rfl c (aG _) M) (fun a2 ⟨_, ⟨U, Y, rfl, J, K⟩, H⟩ => V (jx rfl (jS b.has H ja dT)) (bS a fun a3 I a => ?_)))))))))
  refine VE (yN y b B (jX.refl _) (Bg.mk kC (kz.mk ⟨U, Y, rfl, J, K⟩) b.jF) rfl (ue rfl) I (fun n b => ln (CI a rfl (fun D a => ?_) (fun D a => ?_))))
  ·refine sg (Wm (Wa (lt (mc (ki (mc (ki ?_)))))))
   obtain rfl := sj a
   exact rP b
  exact kQ (kl (jH ⟨d, _, ⟨rfl, m⟩, (b.jv St), u, x, (by rw [Q]; exact a)⟩))
 rintro E W ⟨k, ⟨d, m⟩, b, u, x, a⟩
 rw [aM] at a
 exact jH (sg (Wa (lt (rQ a b))))
theorem Gl (a : kD) (g c : Value) (k : Nat) (u : js) (r : Bool) (w : World) (j : Sl (Pl (lm .u8)) 1 (hp w) g a.Signed.Tag) (i : Sl jt 5 (hp w) c a.jB.Kids) (t : At (hp w) (.pointer (some ⟨k, 0, none⟩)) (jw u)) (hm : wo a u = some r) :
  jZ true pg0 92 [(.agg #[(.int .i64 a.Signed.js.Kind), (.string a.Signed.js.Head.ju), (.string a.Signed.js.Head.jy), (.string a.Signed.js.kE), (.string a.Signed.js.B.ju), (.string a.Signed.js.B.jy), (.string a.Signed.js.C.ju), (.string a.Signed.js.C.jy), (.string a.Signed.js.kM), g, (.int .i64 a.jB.Op), (.int .i64 a.jB.K), (.string a.jB.jr.ju), (.string a.jB.jr.jy), c]), (.pointer (some ⟨k, 0, none⟩))] w (.bool r) := by
 refine cG 9 func92 rfl (fun b => sg ?_)
 obtain ⟨x, z, rfl⟩ := j.form
 obtain ⟨y, B, rfl⟩ := i.form
 refine VE (kv b rfl (fun D G b => Wa (lr (Wf AK (Wf Bd (VA b Mh (jw a.Signed.js) bQ aN (V (jx rfl (jS b.has t bQ aN)) (V (uT rfl rfl (nl fk) (rh (wO _ a.Signed.js u))) (Wa (ln ?_))))))))))
 exact ke (rQ hm b)
theorem J9 (k : kL) (g j : Value) (D : js) (r : (kD × Bool)) (w : World) {J : jW} (l : ny J [] w) (c : Sl kz 15 J g k.jN) (B : Sl lF 8 J j k.ky) (hm : yH k D = some r) :
  lO false pg0 71 [(.agg #[(.string k.Name), g, j]), (.agg (jw D).toArray)] w J [] (fun v L1 μ1 => ∃ d h, v = (.tuple #[(.agg #[(.int .i64 ((((r.1).Signed).js).Kind)), (.string (((((r.1).Signed).js).Head).ju)), (.string (((((r.1).Signed).js).Head).jy)), (.string ((((r.1).Signed).js).kE)), (.string (((((r.1).Signed).js).B).ju)), (.string (((((r.1).Signed).js).B).jy)), (.string (((((r.1).Signed).js).C).ju)), (.string (((((r.1).Signed).js).C).jy)), (.string ((((r.1).Signed).js).kM)), d, (.int .i64 (((r.1).jB).Op)), (.int .i64 (((r.1).jB).K)), (.string ((((r.1).jB).jr).ju)), (.string ((((r.1).jB).jr).jy)), h]), (.bool (r.2))]) ∧ L1 = [] ∧ Sl (Pl (lm .u8)) 1 μ1 d (((r.1).Signed).Tag) ∧ Sl jt 5 μ1 h (((r.1).jB).Kids)) := by
 refine uB l 19 func71 rfl (fun b => sg ?_)
 obtain ⟨T, U, rfl⟩ := c.form
 obtain ⟨A3, c4, rfl⟩ := B.form
 refine VE (kv b rfl (fun W6 P b => VE (kv b rfl (fun W8 K b => VE (jU b fD (fun L b9 b => Wa (lr (Wf AM (VB b (Mt (Mt Mh)) rfl rfl isAgg22 (V (qJ (by exact ue rfl) rfl) (bS hm fun Z Q hm => VE (Eg b call91 (Aa (.slice T k.jN.length U) k.jN (.func (.func 92) #[] #[(.pointer (some ⟨K, 0, none⟩))]) (fun (x : kD) => wo x D) _ _ (c.mono kC.mono b.jF) ⟨92, #[], #[(.pointer (some ⟨K, 0, none⟩))], rfl, call92, fun W x vs r n m hm => by obtain ⟨_, rfl, Y⟩ := m; obtain ⟨s, E, rfl, p, q⟩ := Y.out; exact (Gl x s E K D r W p q (At.of (n _ _ (b.at_ (Mt Mh))) _ rfl) hm).lG⟩ Q) (fun O b => Wa (jT ?_))))))))))))))
 refine jH ?_
 replace b := b.jv (Kb (Db St))
 refine jL (sg (Wm (Wi rfl (ln (CI hm rfl (fun M hm => ?_) (fun M hm => ?_))))))
 ·refine sg (V (lf (v := (.agg NY.toArray)) pu (kH fD fY (Rw _ fY) kr)) (VO (jK (.agg NY.toArray) (NY.toArray) b rfl rfl dT oc nb rfl (fun R b => Wa (ln ?_)))))
  replace b := b.jv (Kb (Db St))
  refine ke (ki ?_)
  obtain rfl := sj hm
  exact rf (v0 := (.agg NY.toArray)) (v1 := (.bool false)) rfl rfl (jD b.has Mh NY rfl ja dT) rfl ⟨_, _, _, rfl, (b.lU Sn), (jX.refl _), Lo.refl, (ST.kI b (mz.mem Sn)), (.slice none 0 0), (.slice none 0 0), rfl, rfl, (Sl.nil _ _ _), (Sl.nil _ _ _)⟩
 refine kg (Wf AM (VB b (Mt Mh) rfl rfl isAgg22 (Wm (bS hm fun a I hm => VQ (lI (i := Z) (x0 := a) kz.out er dT rfl rfl c (kk I) (kj I)) (fun c1 ⟨_, ⟨c3, c5, rfl, G, H⟩, N⟩ => V (jx rfl (jS b.has N ja dT)) ?_)))))
 obtain ⟨t, y, rfl⟩ := G.form
 obtain ⟨u, z, rfl⟩ := H.form
 let a0 := (C4 a.Signed.js.Kind a.Signed.js.Head.ju a.Signed.js.Head.jy a.Signed.js.kE a.Signed.js.B.ju a.Signed.js.B.jy a.Signed.js.C.ju a.Signed.js.C.jy a.Signed.js.kM t a.Signed.Tag.length y a.jB.Op a.jB.K a.jB.jr.ju a.jB.jr.jy u a.jB.Kids.length z)
 refine VO (jK (.agg a0.toArray) (a0.toArray) b rfl rfl dT oc nb rfl (fun c0 b => Wa (ln ?_)))
 replace b := b.jv (Kb (Db St))
 refine ke ?_
 obtain rfl := sj hm
 exact rf (v0 := (.agg a0.toArray)) (v1 := (.bool true)) rfl rfl (jD b.has Mh a0 rfl ja dT) rfl ⟨_, _, _, rfl, (b.lU Sn), (jX.refl _), Lo.refl, (ST.kI b (mz.mem Sn)), (.slice t a.Signed.Tag.length y), (.slice u a.jB.Kids.length z), rfl, rfl, G, H⟩
theorem Et (c : Value) (u r : List nF) (w : World) {j : jW} (I : ny j [] w) (a : Sl lF 8 j c u) (hm : uF u = some r) :
  lO true pg0 94 [c] w j [] (fun v G J => ∃ z t, v = z ∧ G = (t ++ []) ∧ kB 82 lF 8 J z r t) := by
 unfold uF at hm
 refine uB I 8 func94 rfl (fun b => sg (Wa (lS (Wm ?_))))
 obtain ⟨D, Q, rfl⟩ := a.form
 refine V (Bm dx rfl rfl) (ln ?_)
 rcases D with _ | M
 ·have y := a.isNil
  replace hm : some [] = some r := by rw [y] at hm; simpa [mn, maxLen] using hm
  refine wT (rfl) (sg (Wa (lt (ki ?_))))
  obtain rfl := sj hm
  refine lj (v := (.slice none 0 0)) rfl rfl ?_
  replace b := b.OJ
  exact ⟨_, _, _, rfl, (b.lU (Kr Sn)), (jX.refl _), Lo.refl, (ST.kI b (mz.mem (Kr Sn))), (.slice none 0 0), [], rfl, rfl, (kB.nil _ _ _ _)⟩
 ·refine tw (rfl) (kg (VE (jY (cs := #[]) b pu (xm [] dx ee gV dc rfl (by simp) rfl rfl) (fun N H b => Wm (bS hm fun T x hm => VE (pp (B := [(H, Ob #[] 82)]) mI b dc dx GH.1 GH.2.1 rfl GH.2.2.1 GH.2.2.2 rfl rfl (kB.lit mI (l := []) .nil rfl nb rfl) (xt.sl mI a b.jF) x (fun K g k b i => Wa (lt ?_))))))))
  obtain rfl := sj hm
  exact lj (v := g) rfl rfl ⟨_, _, _, rfl, (b.lU (Kr Sn)), (jX.refl _), Lo.refl, (ST.kI b (mz.mem (Kr Sn))), g, k, rfl, rfl, i⟩
theorem BS (g : Value) (t : List nF) (j : Value) (z : nF → Option Bool) (r : Int) (w : World) (c : Sl lF 8 (hp w) g t) (B : xD pg0 j (hp w) (Bg lF) (fun (r : Bool) => (.bool r)) z) (hm : uO t z = some r) :
  jZ false pg0 133 [g, j] w (.int .i64 r) := by
 refine cG 19 func133 rfl (fun b => sg (Wa (lS (Wm (V (kK dx rfl c) (Wm (ln (kA (fun i E W => ∃ k, (E 8 = .int .i64 (i : Nat) ∧ E 7 = .int .i64 (t.length : Nat)) ∧ ST false kw w W (hp w) k ∧ E 0 = g ∧ E 1 = j ∧ nR z (t.drop i) i = some r) t.length c.len ⟨_, ⟨rfl, rfl⟩, (b.jv St), rfl, rfl, hm⟩ dc dc dc (fun _ _ _ h => by obtain ⟨_, l, _⟩ := h; exact l) ?_ ?_))))))))
 ·rintro T E W G ⟨k, ⟨d, m⟩, b, u, x, a⟩
  obtain ⟨y, Z, N, M, Q⟩ := ku G
  rw [N] at a
  refine bg (Wh d (Wa (lr (Wh x (Wh u (Wm (VQ (lI (i := (T : Int)) (x0 := y) lF.out dx ee rfl rfl c (aG _) M) (fun a2 ⟨_, ⟨U, Y, rfl, J, K⟩, H⟩ => V (jx rfl (jS b.has H jq ee)) (bS a fun a3 I a => ?_)))))))))
  refine VE (yN y b B (jX.refl _) (Bg.mk mI (lF.mk ⟨U, Y, rfl, J, K⟩) b.jF) rfl (ue rfl) I (fun n b => ln (CI a rfl (fun D a => ?_) (fun D a => ?_))))
  ·refine sg (Wm (Wa (lt (mc (ki (mc (ki ?_)))))))
   obtain rfl := sj a
   exact rP b
  exact kQ (kl (jH ⟨d, _, ⟨rfl, m⟩, (b.jv St), u, x, (by rw [Q]; exact a)⟩))
 rintro E W ⟨k, ⟨d, m⟩, b, u, x, a⟩
 rw [aM] at a
 exact jH (sg (Wa (lt (rQ a b))))
theorem Bj (k : Value) (a0 : List nF) (y : LO) (J : Value) (f1 : nF → Option Bool) (r : List nF) (w : World) {Y : jW} (h0 : ny Y (y ++ []) w) (n : kB 82 lF 8 Y k a0 y) (a9 : xD pg0 J Y (Bg lF) (fun (r : Bool) => (.bool r)) f1) (hm : rA a0 f1 = some r) :
  lO false pg0 93 [k, J] w Y (y ++ []) (fun v L1 μ1 => ∃ y1, v = y1 ∧ L1 = [] ∧ Sl lF 8 μ1 y1 (r)) := by
 refine uB h0 42 func93 rfl (fun d => sg (Wa (lr (Wm (Wm (bS hm fun R d7 hm => VE (Eg d call133 (BS k a0 J f1 _ _ (n.sl mI d.jF (fun b o q => d.at_ (Ml q))) (a9.mono d.jF) d7) (fun W3 d => Wa (ln ?_)))))))))
 refine jL (sg (Wm (Wi rfl (ln (CI hm rfl (fun d6 hm => ?_) (fun d6 hm => ?_))))))
 ·refine sg (Wm (Wa (lt (ki ?_))))
  obtain rfl := sj hm
  refine lj (v := k) rfl rfl ?_
  obtain ⟨aa, d, d2, p, d8⟩ := ST.tS mI d n
  exact ⟨_, _, _, rfl, (d.lU Sn), d2, p, (ST.kI d (mz.mem Sn)), k, rfl, rfl, d8⟩
 refine kS (Wm (Wi rfl (Wa (ln (lz (mX (fun m E W => ∃ a2 K G H L, ST false (keys (y ++ [])) w W Y (K ++ L) ∧ E 0 = k ∧ E 1 = J ∧ E 5 = (.int .i64 G) ∧ E 6 = (.int .i64 H) ∧ kB 82 lF 8 Y k a2 K ∧ nG f1 m a2 G H = some r) kd ⟨a0, y, R, (wi0 .i64 (R + 1)), _, (d.jv St), rfl, rfl, rfl, rfl, n, hm⟩ ?_))))))
 rintro m E W ⟨a2, K, G, H, L, d, t, Z, I, N, j, c⟩
 cases m with
 | zero => rw [nG] at c; cases c
 | succ d4 =>
  refine jL (sg (Wh N (Wh t (V (sG dx rfl j) (Wi rfl (ln (CI c rfl (fun b6 c => ?_) (fun b6 c => ?_))))))))
  ·refine kn (jL (CJ c (fun a3 E W => ∃ M O, ST false (keys (y ++ [])) w W Y (M ++ O) ∧ E 0 = k ∧ E 1 = J ∧ E 5 = (.int .i64 a3.2) ∧ E 6 = (.int .i64 H) ∧ kB 82 lF 8 Y k a3.1 M) (fun a3 g => ?_) ?_))
   ·refine bg (Wh t (Wh N (bS g fun a s g => VQ (lg (i := H) lF.out dx ee rfl rfl j (kk s) (kj s)) (fun f5 ⟨_, ⟨f8, f9, rfl, Q, T⟩, c1, e1⟩ => V (jx rfl (jS (nA.hp _) (c1.mono (lR (fun b o q => d.has.2 b o (Ml q)))) jq ee)) (VE (jU d gV (fun e7 f3 d => ?_)))))))
    obtain ⟨u, B, rfl⟩ := Q.form
    obtain ⟨x, D, rfl⟩ := T.form
    let l := (C8 a.jr.ju a.jr.jy a.jB.Op a.jB.K a.jB.jr.ju a.jB.jr.jy u a.jB.Kids.length B x a.mu.length D)
    refine VO (jK (.agg l.toArray) (l.toArray) d rfl rfl ee oc nb rfl (fun e8 d => lr (Wh Z (VA d Mh l jq ee (bS g fun f7 c2 g => VE (yN a d a9 (jX.refl _) (Bg.mk mI (lF.mk ⟨(.slice u a.jB.Kids.length B), (.slice x a.mu.length D), rfl, Q, T⟩) d.jF) rfl (ue rfl) c2 (fun e9 d => V (nt rfl) (ln (CI g rfl (fun b7 g => ?_) (fun b7 g => ?_))))))))))
    ·refine sg (Wh t (Wh I (VA d Mh l jq ee (bS g fun g3 U g => VQ (lg (i := G) lF.out dx ee rfl rfl j (kk U) (kj U)) (fun f6 ⟨_, ⟨g0, g1, rfl, e3, e4⟩, e2, b9⟩ => ?_)))))
     replace d := d.perm (Nr (Qb Qz) Nz)
     refine VO (qI (x1 := a) mI d j rfl rfl (lF.mk ⟨(.slice u a.jB.Kids.length B), (.slice x a.mu.length D), rfl, Q, T⟩) b9 (kj U) ee (fun f0 c7 d b4 => ln ?_))
     replace d := d.jv (Kr (Db St))
     refine jG (Wh I (Wi rfl (Wa (jT (kl (jH ?_))))))
     obtain rfl := sj g
     exact ⟨c7, _, (d.jv St), t, Z, rfl, N, b4⟩
    refine kQ (kl (jH ?_))
    obtain rfl := sj g
    exact ⟨K, _, (d.jv (Db St)), t, Z, I, N, j⟩
   rintro ⟨d3, d5⟩ E W ⟨M, O, d, c8, c9, d0, d1, c3⟩ c0
   exact jG (Wh d1 (Wi rfl (Wa (ln ⟨d4, bn _, d3, M, d5, (wi0 .i64 (H + 1)), _, (d.jv St), c8, c9, d0, rfl, c3, c0⟩))))
  refine mW (mK (mK (qG (jH (sg (Wh t (Wh I (bS c fun _ a4 c => VQ (AP (i := G) dx ee rfl rfl j (uX a4) (uS a4)) (fun g2 c4 => VO (DW (z := (⟨K0, (⟨0, 0, K0, []⟩ : Formula), []⟩ : nF)) (zs := [(.string zS), (.string zS), (.int .i64 0), (.int .i64 0), (.string zS), (.string zS), (.slice none 0 0), (.slice none 0 0)]) mI d j (lF.mk ⟨(.slice none 0 0), (.slice none 0 0), rfl, (Sl.nil _ _ _), (Sl.nil _ _ _)⟩) dx gV c4 rfl rfl (fun f2 e6 d b5 => lr (Wh t ?_))))))))))))
  refine Wh I (bS c fun _ a5 c => VQ (CU (i := G) dx ee rfl rfl b5 (uX a5) (uS a5)) (fun P c5 => Wa (lt ?_)))
  obtain rfl := sj c
  refine lj (v := P) rfl rfl ?_
  obtain ⟨g7, d, b0, h, c6⟩ := ST.tS mI d c5
  exact ⟨_, _, _, rfl, (d.lU Sn), b0, h, (ST.kI d (mz.mem Sn)), P, rfl, rfl, c6⟩
theorem FM (c : nF) (a i : Value) (k : Nat) (u : js) (r : Bool) (w : World) (j : Sl jt 5 (hp w) a c.jB.Kids) (g : Sl (Pl jw) 9 (hp w) i c.mu) (t : At (hp w) (.pointer (some ⟨k, 0, none⟩)) (jw u)) (hm : sa c u = some r) :
  jZ true pg0 95 [(.agg #[(.string c.jr.ju), (.string c.jr.jy), (.int .i64 c.jB.Op), (.int .i64 c.jB.K), (.string c.jB.jr.ju), (.string c.jB.jr.jy), a, i]), (.pointer (some ⟨k, 0, none⟩))] w (.bool r) := by
 refine cG 9 func95 rfl (fun b => sg ?_)
 obtain ⟨B, D, rfl⟩ := j.form
 obtain ⟨x, y, rfl⟩ := g.form
 refine VE (kv b rfl (fun G I b => Wa (lr (Wf J3 (VB b Mh rfl rfl dY (V (jx rfl (jS b.has t bQ aN)) (bS hm fun J z hm => VE (Eg b call29 (yI (.slice x c.mu.length y) c.mu u _ _ (g.mono (Pl.mono _) b.jF) z) (fun H b => V (nt rfl) (Wa (ln ?_)))))))))))
 exact ke (rQ hm b)
theorem IJ (i : kL) (a g : Value) (y : js) (r : List nF) (w : World) {G : jW} (q : ny G [] w) (j : Sl kz 15 G a i.jN) (c : Sl lF 8 G g i.ky) (hm : xU i y = some r) :
  lO false pg0 72 [(.agg #[(.string i.Name), a, g]), (.agg (jw y).toArray)] w G [] (fun v L1 μ1 => ∃ n, v = n ∧ L1 = [] ∧ Sl lF 8 μ1 n (r)) := by
 refine uB q 10 func72 rfl (fun b => sg ?_)
 obtain ⟨A1, c2, rfl⟩ := j.form
 obtain ⟨Y, p, rfl⟩ := c.form
 refine VE (kv b rfl (fun W6 b5 b => VE (kv b rfl (fun W8 z b => Wa (lr (Wf Jx (VB b (Mt Mh) rfl rfl isAgg23 (bS hm fun L N hm => ?_))))))))
 refine VE (eD b (bT _) call94 (fun m => lO.lG (Et (.slice Y i.ky.length p) i.ky _ _ m (c.mono mI.mono (jX.refl _)) N)) ?_ (L0 := []))
 rintro _ c3 c6 b4 b B d ⟨a5, Z, k, rfl, T⟩
 obtain rfl := k.symm
 replace b := b.perm (Tr Tn)
 refine V (qJ (by exact ue rfl) rfl) ?_
 replace b := b.perm (Nb (Pr Pz) Nz)
 obtain ⟨c7, b, u, h, M⟩ := ST.Gh (R := [(z, Ol (jw y) 49)]) b
 have K := At.of (M _ _ (.head _)) _ rfl
 refine bS hm fun c1 Q hm => ?_
 refine VE (eD b (Cr Qz Cn) call93 (fun m => (Bj a5 L Z (.func (.func 95) #[] #[(.pointer (some ⟨z, 0, none⟩))]) (fun (x : nF) => sa x y) _ _ m (T.mono mI u) ⟨95, #[], #[(.pointer (some ⟨z, 0, none⟩))], rfl, call95, fun W x vs r E s hm => by obtain ⟨_, rfl, a3⟩ := s; obtain ⟨O, P, rfl, I, J⟩ := a3.out; exact (FM x O P z y r W I J (K.mono ((jX.refl _).trans E)) hm).lG⟩ Q)) ?_)
 rintro _ c5 c8 b6 b D l ⟨H, t, rfl, U⟩
 obtain rfl := t.symm
 refine Wa (ln ?_)
 replace b := b.jv (Db St)
 refine ke ?_
 obtain rfl := sj hm
 exact lj (v := H) rfl rfl ⟨_, _, _, rfl, (b.lU Sn), ((B.trans u).trans D), ((d.trans h).trans l), (ST.kI b (mz.mem Sn)), H, rfl, rfl, U⟩
theorem zp (i : Formula) (g : Value) (x : Int) (r : Bool) (w : World) (c : Sl jt 5 (hp w) g i.Kids) (hm : tH i x = some r) :
  jZ true pg0 160 [(.agg #[(.int .i64 i.Op), (.int .i64 i.K), (.string i.jr.ju), (.string i.jr.jy), g]), (.int .i64 x)] w (.bool r) := by
 refine cG 15 func160 rfl (fun b => sg ?_)
 obtain ⟨B, D, rfl⟩ := c.form
 refine VE (kv b rfl (fun G H b => Wa (lr (Wf nn (VB b Mh rfl rfl bR (Wm (Wi rfl (Wm (LJ hm (fun t E W => ∃ u, ST true kw w W (hp w) u ∧ E 4 = (.bool false) ∧ E 14 = (.bool t)) 5 ?_ (fun t j k => ?_))))))))))
 ·rintro J E W ⟨u, b, I, y⟩ z
  exact Wg y (lt (rQ z b))
 refine bC j (fun a j => ?_) (fun a j => ?_)
 ·refine ug a (jE nm rfl) (ug a (jx rfl (jJ b.has Mh rfl dH)) (ug a (kK aD rfl c) (ug a (kh rfl rfl rfl) (V (jO (cB a) rfl) ?_))))
  obtain rfl := sj j
  exact k _ _ ⟨_, (b.jv (Db St)), rfl, rfl⟩
 refine un a (un a (un a (un a (V (jP (cB a) rfl) ?_))))
 obtain rfl := sj j
 exact k _ _ ⟨_, (b.jv (Db St)), rfl, rfl⟩
theorem Gg (r : Formula) (w : World) {c : jW} (i : ny c [] w) (hm : yP  = some r) :
  lO true pg0 161 [] w c [] (fun v g j => ∃ a, v = (.agg #[(.int .i64 ((r).Op)), (.int .i64 ((r).K)), (.string (((r).jr).ju)), (.string (((r).jr).jy)), a]) ∧ g = [] ∧ Sl jt 5 j a ((r).Kids)) := by
 refine uB i 2 func161 rfl (fun b => sg (VE (jU b aQ (fun k u b => lr (V (lf (v := (.agg Bk.toArray)) (lM rfl) (kH aQ bA (tq _ bA) kr)) (VO (jK (.agg Bk.toArray) (Bk.toArray) b rfl rfl aC oc nb rfl (fun t b => lt ?_))))))))
 obtain rfl := sj hm
 exact mP (v := (.agg Bk.toArray)) rfl rfl (jD b.has Mh Bk rfl aO aC) ⟨_, _, _, rfl, (b.lU Sn), (jX.refl _), Lo.refl, (ST.kI b (mz.mem Sn)), (.slice none 0 0), rfl, rfl, (Sl.nil _ _ _)⟩
theorem Hp (r : Formula) (w : World) {c : jW} (i : ny c [] w) (hm : zl  = some r) :
  lO true pg0 162 [] w c [] (fun v g j => ∃ a, v = (.agg #[(.int .i64 ((r).Op)), (.int .i64 ((r).K)), (.string (((r).jr).ju)), (.string (((r).jr).jy)), a]) ∧ g = [] ∧ Sl jt 5 j a ((r).Kids)) := by
 refine uB i 2 func162 rfl (fun b => sg (VE (jU b aQ (fun k u b => lr (V (lf (v := (.agg FA.toArray)) (lM rfl) (kH aQ bA (tq _ bA) kr)) (VO (jK (.agg FA.toArray) (FA.toArray) b rfl rfl aC oc nb rfl (fun t b => lt ?_))))))))
 obtain rfl := sj hm
 exact mP (v := (.agg FA.toArray)) rfl rfl (jD b.has Mh FA rfl aO aC) ⟨_, _, _, rfl, (b.lU Sn), (jX.refl _), Lo.refl, (ST.kI b (mz.mem Sn)), (.slice none 0 0), rfl, rfl, (Sl.nil _ _ _)⟩
theorem II (T : Int) (J : Value) (M r : List Formula) (w : World) {Q : jW} (h0 : ny Q [] w) (I : Sl jt 5 Q J M) (hm : Ah T M = some r) :
  lO true pg0 164 [(.int .i64 T), J] w Q [] (fun v L1 μ1 => ∃ q, v = q ∧ L1 = [] ∧ Sl jt 5 μ1 q (r)) := by
 refine uB h0 28 func164 rfl (fun b => sg (Wa (lr (Wa (lS (Wm ?_))))))
 refine V (kK aD rfl I) (Wm (ln (kA (fun i E W => ∃ t G k H, (E 10 = .int .i64 (i : Nat) ∧ E 9 = .int .i64 (M.length : Nat)) ∧ ST true (keys []) w W Q (k ++ H) ∧ E 0 = (.int .i64 T) ∧ E 5 = t ∧ E 8 = J ∧ kB 30 jt 5 Q t G k ∧ qm T (M.drop i) G = some r) M.length I.len ⟨(.slice none 0 0), ([]), [], _, ⟨rfl, rfl⟩, (b.jv St), rfl, rfl, rfl, (kB.nil _ _ _ _), hm⟩ dc dc dc (fun _ _ _ h => by obtain ⟨_, _, _, _, n, _⟩ := h; exact n) ?_ ?_)))
 ·rintro b5 E W a4 ⟨t, G, k, H, ⟨m, p⟩, b, x, y, z, u, c⟩
  obtain ⟨a, b7, O, L, K⟩ := ku a4
  rw [O] at c
  refine bg (VQ (lI (i := (b5 : Int)) (x0 := a) jt.out aD aC z m I (aG _) L) (fun c8 ⟨_, ⟨c9, rfl, D⟩, a5⟩ => V (jx rfl (jS b.has a5 aO aC)) (VE (jU b aQ (fun c0 c5 b => ?_)))))
  obtain ⟨g, j, rfl⟩ := D.form
  let a0 := (C1 a.Op a.K a.jr.ju a.jr.jy g a.Kids.length j)
  refine VO (jK (.agg a0.toArray) (a0.toArray) b rfl rfl aC oc nb rfl (fun c1 b => lr (Wf nn (VB b Mh rfl rfl bR (Wh x (Wi rfl (ln (CI c rfl (fun Z c => ?_) (fun Z c => ?_)))))))))
  ·refine jG (Wh y (Wf nm (VB b Mh rfl rfl dH ?_)))
   replace b := b.perm (Nr (Qb Qz) Nz)
   refine bS c fun R a2 c => VE (pp (B := k) jC b dc aD lL.1 lL.2.1 rfl lL.2.2.1 lL.2.2.2 rfl rfl u (xt.sl jC D b.jF) a2 (fun c2 b3 a9 b U => Wa (jT (kl (jH ?_)))))
   replace b := b.jv (Kr (Db St))
   exact ⟨m, b3, R, a9, _, ⟨rfl, p⟩, (b.jv St), x, rfl, z, U, (by rw [K]; exact c)⟩
  refine jG (Wh y (VA b Mh a0 aO aC (VE (jY (cs := a0.toArray) b (lM rfl) (mf aD aC aQ) (fun c3 c6 b => ?_)))))
  replace b := b.perm (Nr (Qb (Qb Qz)) Nz)
  refine bS c fun b2 a3 c => VE (pp (B := k) jC b dc aD lL.1 lL.2.1 rfl lL.2.2.1 lL.2.2.2 rfl rfl u (xt.lit jC (l := [a]) (.cons (ys := C1 a.Op a.K a.jr.ju a.jr.jy g a.Kids.length j) (jt.mk ⟨(.slice g a.Kids.length j), rfl, D⟩) .nil) rfl nb (b.at_ (Ma Mh))) a3 (fun c4 b4 P b Y => Wa (jT (kl (jH ?_)))))
  replace b := b.jv (Kr (Db (Db St)))
  exact ⟨m, b4, b2, P, _, ⟨rfl, p⟩, (b.jv St), x, rfl, z, Y, (by rw [K]; exact c)⟩
 rintro E W ⟨t, G, k, H, ⟨m, p⟩, b, x, y, z, u, c⟩
 rw [aM] at c
 refine jH (sg (Wh y (Wa (lt ?_))))
 obtain rfl := sj c
 refine lj (v := t) rfl rfl ?_
 obtain ⟨d1, b, N, d, s⟩ := ST.tS jC b u
 exact ⟨_, _, _, rfl, (b.lU Sn), N, d, (ST.kI b (mz.mem Sn)), t, rfl, rfl, s⟩
theorem Ar (a : Formula) (g : Value) (i : Nat) (j : Int) (r : Bool) (w : World) (c : Sl jt 5 (hp w) g a.Kids) (k : At (hp w) (.pointer (some ⟨i, 0, none⟩)) [(.int .i64 j)]) (hm : qD a j = some r) :
  jZ true pg0 165 [(.agg #[(.int .i64 a.Op), (.int .i64 a.K), (.string a.jr.ju), (.string a.jr.jy), g]), (.pointer (some ⟨i, 0, none⟩))] w (.bool r) := by
 refine cG 7 func165 rfl (fun b => sg ?_)
 obtain ⟨t, u, rfl⟩ := c.form
 refine VE (kv b rfl (fun z D b => Wa (lr (VA b Mh (C1 a.Op a.K a.jr.ju a.jr.jy t a.Kids.length u) aO aC (V (jx rfl (ni b.has (y := (.int .i64 j)) k bR)) (bS hm fun G x hm => VE (Eg b call160 (zp a (.slice t a.Kids.length u) j _ _ (c.mono jC.mono b.jF) x) (fun B b => Wa (ln ?_)))))))))
 exact ke (rQ hm b)
theorem BQ (c : Value) (u r : List Formula) (w : World) {j : jW} (I : ny j [] w) (a : Sl jt 5 j c u) (hm : sf u = some r) :
  lO true pg0 171 [c] w j [] (fun v G J => ∃ z t, v = z ∧ G = (t ++ []) ∧ kB 30 jt 5 J z r t) := by
 unfold sf at hm
 refine uB I 8 func171 rfl (fun b => sg (Wa (lS (Wm ?_))))
 obtain ⟨D, Q, rfl⟩ := a.form
 refine V (Bm aD rfl rfl) (ln ?_)
 rcases D with _ | M
 ·have y := a.isNil
  replace hm : some [] = some r := by rw [y] at hm; simpa [mn, maxLen] using hm
  refine wT (rfl) (sg (Wa (lt (ki ?_))))
  obtain rfl := sj hm
  refine lj (v := (.slice none 0 0)) rfl rfl ?_
  replace b := b.OJ
  exact ⟨_, _, _, rfl, (b.lU (Kr Sn)), (jX.refl _), Lo.refl, (ST.kI b (mz.mem (Kr Sn))), (.slice none 0 0), [], rfl, rfl, (kB.nil _ _ _ _)⟩
 ·refine tw (rfl) (kg (VE (jY (cs := #[]) b pu (xm [] aD aC aQ dc rfl (by simp) rfl rfl) (fun N H b => Wm (bS hm fun T x hm => VE (pp (B := [(H, Ob #[] 30)]) jC b dc aD lL.1 lL.2.1 rfl lL.2.2.1 lL.2.2.2 rfl rfl (kB.lit jC (l := []) .nil rfl nb rfl) (xt.sl jC a b.jF) x (fun K g k b i => Wa (lt ?_))))))))
  obtain rfl := sj hm
  exact lj (v := g) rfl rfl ⟨_, _, _, rfl, (b.lU (Kr Sn)), (jX.refl _), Lo.refl, (ST.kI b (mz.mem (Kr Sn))), g, k, rfl, rfl, i⟩
theorem sd (y : Value) (a0 : List Formula) (D : LO) (q a2 : Int) (T : Value) (f3 : (Formula × Formula) → Option Int) (r : List Formula) (w : World) {μ0 : jW} (h0 : ny μ0 (D ++ []) w) (h4 : kB 30 jt 5 μ0 y a0 D) (h5 : xD pg0 T μ0 (vC jt jt) (fun (r : Int) => (.int .i64 r)) f3) (hm : mS a0 q a2 f3 = some r) :
  lO false pg0 188 [y, (.int .i64 q), (.int .i64 a2), T] w μ0 (D ++ []) (fun v L1 μ1 => ∃ S1, v = (.tuple #[]) ∧ L1 = (S1 ++ []) ∧ kB 30 jt 5 μ1 y r S1) := by
 refine uB h0 53 func188 rfl (fun n => sg (Wm (Wi rfl (Wa (ln (re (lz (mX (fun m E W => ∃ Y J x c9, ST false (keys (D ++ [])) w W μ0 (J ++ c9) ∧ E 0 = y ∧ E 1 = (.int .i64 q) ∧ E 2 = (.int .i64 a2) ∧ E 3 = T ∧ E 8 = (.int .i64 x) ∧ kB 30 jt 5 μ0 y Y J ∧ lu a2 q f3 m Y x = some r) kd ⟨a0, D, (wi0 .i64 (q + 1)), _, (n.jv St), rfl, rfl, rfl, rfl, rfl, h4, hm⟩ ?_))))))))
 rintro m E W ⟨Y, J, x, c9, n, f9, g0, d1, g1, P, c6, u⟩
 cases m with
 | zero => rw [lu] at u; cases u
 | succ h2 =>
  refine jL (sg (Wh P (Wh d1 (Wi rfl (ln (CI u rfl (fun e9 u => ?_) (fun e9 u => ?_)))))))
  ·refine kn (jL (bg (Wh P (Wa (ln (re (CJ u (fun R E W => ∃ U d0, ST false (keys (D ++ [])) w W μ0 (U ++ d0) ∧ E 0 = y ∧ E 1 = (.int .i64 q) ∧ E 2 = (.int .i64 a2) ∧ E 3 = T ∧ E 8 = (.int .i64 x) ∧ kB 30 jt 5 μ0 y R U) (fun R f1 => ?_) ?_)))))))
   ·refine lz (mX (fun m E W => ∃ M B j b7, ST false (keys (D ++ [])) w W μ0 (B ++ b7) ∧ E 0 = y ∧ E 1 = (.int .i64 q) ∧ E 2 = (.int .i64 a2) ∧ E 3 = T ∧ E 8 = (.int .i64 x) ∧ E 9 = (.int .i64 j) ∧ kB 30 jt 5 μ0 y M B ∧ lJ q f3 m M j = some R) kd ⟨Y, J, x, _, (n.jv St), f9, g0, d1, g1, P, rfl, c6, f1⟩ ?_)
    rintro m E W ⟨M, B, j, b7, n, K, Z, c0, a3, c1, G, t, I⟩
    cases m with
    | zero => rw [lJ] at I; cases I
    | succ f4 =>
     refine jL (jL ?_)
     replace n := n.drew
     have d := n.has.jv (Kr Sn)
     refine kO d kp (X 0 rfl d (jz G) (X 1 rfl d (jz Z) (X 2 rfl d (kh rfl rfl rfl) (X 3 rfl d (jz rfl) (PJ I (fun c7 E W => ∃ b9, ST false (keys (D ++ [])) w W μ0 (B ++ b9) ∧ E 0 = y ∧ E 1 = (.int .i64 q) ∧ E 2 = (.int .i64 a2) ∧ E 3 = T ∧ E 8 = (.int .i64 x) ∧ E 9 = (.int .i64 j) ∧ E 34 = (.bool c7)) (bm 17 131071) 0 ?_ (fun c7 g a4 => ?_))))))
     ·rintro k2 E W ⟨b9, n, z, c2, c3, c4, c5, H, e8⟩ c
      have d := n.has.jv (Kr Sn)
      refine kP kr (jH (CI c e8 (fun d3 c => ?_) (fun d3 c => ?_)))
      ·refine kn (jL (lz ?_))
       replace n := n.drew
       have d := n.has.jv Sn
       have p := n.has.jv (Kr Sn)
       refine tE 15 d p kp (kf 0 rfl kr (.inl rfl) rfl dc (fun _ _ h => ⟨h.1, km br h.2⟩) ⟨d, fun _ => p⟩ (fun _ _ _ _ => jz z) (kf 1 rfl kr (.inl rfl) rfl dc (fun _ _ h => ⟨h.1, km br h.2⟩) ⟨d, fun _ => p⟩ (fun _ _ _ _ => jz H) (kf 2 rfl kr (.inl rfl) rfl dc (fun _ _ h => ⟨h.1, km br h.2⟩) ⟨d, fun _ => p⟩ (fun _ _ _ _ => jz z) (kf 3 rfl kr (.inl rfl) rfl dc (fun _ _ h => ⟨h.1, km br h.2⟩) ⟨d, fun _ => p⟩ (fun _ _ _ _ => jz H) (kf 4 rfl kr (.inl rfl) rfl dc (fun _ _ h => ⟨h.1, km br h.2⟩) ⟨d, fun _ => p⟩ (fun _ _ _ _ => kh rfl rfl rfl) (kf 5 rfl kr (.inl rfl) rfl dc (fun _ _ h => ⟨h.1, km br h.2⟩) ⟨d, fun _ => p⟩ (fun _ _ _ _ => jz z) (kf 6 rfl kr (.inl rfl) rfl dc (fun _ _ h => ⟨h.1, km br h.2⟩) ⟨d, fun _ => p⟩ (fun _ _ _ _ => jz H) (kf 7 rfl kr (.inl rfl) rfl dc (fun _ _ h => ⟨h.1, km br h.2⟩) ⟨d, fun _ => p⟩ (fun _ _ _ _ => kh rfl rfl rfl) (bS c fun a5 b0 c => qL 8 rfl kr (.inl rfl) rfl dc (fun _ _ h => ⟨h.1, km br h.2⟩) ⟨d, fun _ => p⟩ (lg (i := (wi0 .i64 (j - 1))) jt.out aD aC rfl rfl t (kk b0) (kj b0)) (fun i9 ⟨_, ⟨j8, rfl, a8⟩, d6, h6⟩ => kf 9 rfl kr (.inl rfl) rfl dc (fun _ _ h => ⟨h.1, km br h.2⟩) ⟨d, fun _ => p⟩ (fun l W L hs => have s := (hs.2 (L.Bb 15 [9] kr rfl)); jx rfl (jS (nA.hp _) (d6.mono (lR (fun b o O => s.2 b o (Ml O)))) aO aC)) (kf 10 rfl kr (.inl rfl) rfl dc (fun _ _ h => ⟨h.1, km br h.2⟩) ⟨d, fun _ => p⟩ (fun _ _ _ _ => jz z) (kf 11 rfl kr (.inl rfl) rfl dc (fun _ _ h => ⟨h.1, km br h.2⟩) ⟨d, fun _ => p⟩ (fun _ _ _ _ => jz H) (bS c fun k b1 c => ?_)))))))))))))
       refine qL 12 rfl kr (.inl rfl) rfl dc (fun _ _ h => ⟨h.1, km br h.2⟩) ⟨d, fun _ => p⟩ (lg (i := j) jt.out aD aC rfl rfl t (kk b1) (kj b1)) (fun j0 ⟨_, ⟨j9, rfl, a9⟩, d7, h7⟩ => kf 13 rfl kr (.inl rfl) rfl dc (fun _ _ h => ⟨h.1, km br h.2⟩) ⟨d, fun _ => p⟩ (fun l W L hs => have s := (hs.2 (L.Bb 15 [13] kr rfl)); jx rfl (jS (nA.hp _) (d7.mono (lR (fun b o O => s.2 b o (Ml O)))) aO aC)) (bS c fun k3 N c => qL 14 rfl kr (.inl rfl) rfl dc (fun _ _ h => ⟨h.1, km br h.2⟩) ⟨d, fun _ => p⟩ (lg (i := j) jt.out aD aC rfl rfl t (kk N) (kj N)) (fun j3 ⟨_, ⟨k0, rfl, i2⟩, i0, d4⟩ => ?_)))
       obtain ⟨e3, e6, rfl⟩ := a8.form
       refine XO 15 rfl (qI (x1 := a5) jC n t rfl rfl (jt.mk ⟨(.slice e3 a5.Kids.length e6), rfl, a8⟩) d4 (kj N) aC (fun i6 i4 n a7 => ?_))
       have d := n.has.jv Sn
       refine ⟨⟨d, fun h => xr kr h⟩, (bS c fun k4 Q c => qL 16 rfl kr (.inl rfl) rfl dc (fun _ _ h => ⟨h.1, km br h.2⟩) ⟨d, fun h => xr kr h⟩ (lg (i := (wi0 .i64 (j - 1))) jt.out aD aC rfl rfl a7 (kk Q) (kj Q)) (fun j4 ⟨_, ⟨k1, rfl, i3⟩, i1, d5⟩ => ?_))⟩
       obtain ⟨e4, e7, rfl⟩ := a9.form
       refine XO 17 rfl (qI (x1 := (⟨k.Op, k.K, k.jr, k.Kids⟩ : Formula)) jC n a7 rfl rfl (jt.mk ⟨(.slice e4 k.Kids.length e7), rfl, a9⟩) d5 (kj Q) aC (fun i7 e5 n d2 => ?_))
       have d := n.has.jv Sn
       exact ⟨⟨d, fun h => xr kr h⟩, (kP kr (kl (jH (jG (Wh H (Wi rfl (Wa (ln ⟨f4, bn _, ((M.set (Int.toNat j) a5).set (Int.toNat (wi0 .i64 (j - 1))) (⟨k.Op, k.K, k.jr, k.Kids⟩ : Formula)), e5, (wi0 .i64 (j - 1)), _, (n.jv St), z, c2, c3, c4, c5, rfl, d2, c⟩))))))))⟩
      refine mW (mK (mK (qG (jH ?_))))
      obtain rfl := sj c
      exact ⟨B, _, (n.jv St), z, c2, c3, c4, c5, t⟩
     refine bC g (fun a g => ?_) (fun a g => ?_)
     ·refine Xg 4 rfl rfl (cB a) d (jz a3) (Xg 5 rfl rfl (cB a) d (jz K) (Xg 6 rfl rfl (cB a) d (jz G) (bS g fun f7 b2 g => qL 7 rfl kr (.inr ⟨3, true, 21, rfl, rfl, by decide, (cB a)⟩) rfl dc (fun _ _ h => h) d (lg (i := j) jt.out aD aC rfl rfl t (kk b2) (kj b2)) (fun j5 ⟨_, ⟨f5, rfl, e1⟩, d8, h8⟩ => sZ 8 rfl rfl (cB a) d (fun _ s => jx rfl (jS (nA.hp _) (d8.mono (lR (fun b o O => s.2 b o (Ml O)))) aO aC)) (Xg 9 rfl rfl (cB a) d (jz K) (Xg 10 rfl rfl (cB a) d (jz G) (Xg 11 rfl rfl (cB a) d (kh rfl rfl rfl) (bS g fun f8 b3 g => qL 12 rfl kr (.inr ⟨3, true, 21, rfl, rfl, by decide, (cB a)⟩) rfl dc (fun _ _ h => h) d (lg (i := (wi0 .i64 (j - 1))) jt.out aD aC rfl rfl t (kk b3) (kj b3)) (fun j6 ⟨_, ⟨f6, rfl, e2⟩, d9, h9⟩ => sZ 13 rfl rfl (cB a) d (fun _ s => jx rfl (jS (nA.hp _) (d9.mono (lR (fun b o O => s.2 b o (Ml O)))) aO aC)) (bS g fun j7 e0 g => BG 14 rfl rfl (cB a) (yN (f7, f8) n h5 (jX.refl _) (vC.mk jC jC (jt.mk ⟨f5, rfl, e1⟩) (jt.mk ⟨f6, rfl, e2⟩) n.jF) rfl (uW rfl rfl) e0 (fun i8 n => ?_))))))))))))
      have d := n.has.jv (Kr Sn)
      refine ⟨d, (Xg 15 rfl rfl (cB a) d (kh rfl rfl rfl) (X 16 rfl d (jO (cB a) rfl) ?_))⟩
      obtain rfl := sj g
      refine ml kr (a4 _ _ ⟨_, (n.jv St), K, Z, c0, a3, c1, G, rfl⟩)
     refine Xn 4 rfl rfl (cB a) d (Xn 5 rfl rfl (cB a) d (Xn 6 rfl rfl (cB a) d (Xn 7 rfl rfl (cB a) d (Xn 8 rfl rfl (cB a) d (Xn 9 rfl rfl (cB a) d (Xn 10 rfl rfl (cB a) d (Xn 11 rfl rfl (cB a) d (Xn 12 rfl rfl (cB a) d (Xn 13 rfl rfl (cB a) d (Xn 14 rfl rfl (cB a) d (Xn 15 rfl rfl (cB a) d (X 16 rfl d (jP (cB a) rfl) ?_))))))))))))
     obtain rfl := sj g
     refine ml kr (a4 _ _ ⟨_, (n.jv St), K, Z, c0, a3, c1, G, rfl⟩)
   rintro h1 E W ⟨U, d0, n, g2, g3, g4, g7, g8, f2⟩ f0
   exact kl (jH (jG (Wh g8 (Wi rfl (Wa (ln ⟨h2, bn _, h1, U, (wi0 .i64 (x + 1)), _, (n.jv St), g2, g3, g4, g7, rfl, f2, f0⟩))))))
  refine mW (mK (mK (qG (jH (qy ?_)))))
  obtain rfl := sj u
  exact oN rfl ⟨_, _, _, rfl, (n.lU (Kr Sn)), (jX.refl _), Lo.refl, (ST.kI n (mz.mem (Kr Sn))), J, rfl, rfl, c6⟩
theorem qc (x : Value) (a0 : List Formula) (t : LO) (G H a3 : Int) (a5 : Value) (f4 : (Formula × Formula) → Option Int) (r : List Formula) (w : World) {Y : jW} (h0 : ny Y (t ++ []) w) (c0 : kB 30 jt 5 Y x a0 t) (d5 : xD pg0 a5 Y (vC jt jt) (fun (r : Int) => (.int .i64 r)) f4) (hm : mM a0 G H a3 f4 = some r) :
  lO true pg0 198 [x, (.int .i64 G), (.int .i64 H), (.int .i64 a3), a5] w Y (t ++ []) (fun v L1 μ1 => ∃ S1, v = (.tuple #[]) ∧ L1 = (S1 ++ []) ∧ kB 30 jt 5 μ1 x r S1) := by
 refine uB h0 38 func198 rfl (fun p => sg (Wa (ln (re (lz (mX (fun m E W => ∃ D y c Z, ST true (keys (t ++ [])) w W Y (y ++ Z) ∧ E 0 = x ∧ E 1 = (.int .i64 G) ∧ E 2 = (.int .i64 H) ∧ E 3 = (.int .i64 a3) ∧ E 10 = (.int .i64 c) ∧ kB 30 jt 5 Y x D y ∧ ma a3 H G m D c = some r) kd ⟨a0, t, 0, _, (p.jv St), rfl, rfl, rfl, rfl, rfl, c0, hm⟩ ?_))))))
 rintro m E W ⟨D, y, c, Z, p, u, I, J, a4, k, j, a⟩
 cases m with
 | zero => rw [ma] at a; cases a
 | succ c1 =>
  refine jL (sg (Wh k (Wh a4 (Wi rfl (ln (CI a rfl (fun a8 a => ?_) (fun a8 a => ?_)))))))
  ·refine kn (jL (lz ?_))
   replace p := p.drew
   have d := p.has.jv Sn
   have n := p.has.jv (Kr Sn)
   refine tE 21 d n kp (kf 0 rfl kr (.inl rfl) rfl dc (fun _ _ h => ⟨h.1, km br h.2⟩) ⟨d, fun _ => n⟩ (fun _ _ _ _ => jz u) (kf 1 rfl kr (.inl rfl) rfl dc (fun _ _ h => ⟨h.1, km br h.2⟩) ⟨d, fun _ => n⟩ (fun _ _ _ _ => jz I) (kf 2 rfl kr (.inl rfl) rfl dc (fun _ _ h => ⟨h.1, km br h.2⟩) ⟨d, fun _ => n⟩ (fun _ _ _ _ => jz k) (kf 3 rfl kr (.inl rfl) rfl dc (fun _ _ h => ⟨h.1, km br h.2⟩) ⟨d, fun _ => n⟩ (fun _ _ _ _ => kh rfl rfl rfl) (kf 4 rfl kr (.inl rfl) rfl dc (fun _ _ h => ⟨h.1, km br h.2⟩) ⟨d, fun _ => n⟩ (fun _ _ _ _ => jz u) (kf 5 rfl kr (.inl rfl) rfl dc (fun _ _ h => ⟨h.1, km br h.2⟩) ⟨d, fun _ => n⟩ (fun _ _ _ _ => jz J) (kf 6 rfl kr (.inl rfl) rfl dc (fun _ _ h => ⟨h.1, km br h.2⟩) ⟨d, fun _ => n⟩ (fun _ _ _ _ => jz k) (kf 7 rfl kr (.inl rfl) rfl dc (fun _ _ h => ⟨h.1, km br h.2⟩) ⟨d, fun _ => n⟩ (fun _ _ _ _ => kh rfl rfl rfl) (kf 8 rfl kr (.inl rfl) rfl dc (fun _ _ h => ⟨h.1, km br h.2⟩) ⟨d, fun _ => n⟩ (fun _ _ _ _ => jz u) (kf 9 rfl kr (.inl rfl) rfl dc (fun _ _ h => ⟨h.1, km br h.2⟩) ⟨d, fun _ => n⟩ (fun _ _ _ _ => jz J) (kf 10 rfl kr (.inl rfl) rfl dc (fun _ _ h => ⟨h.1, km br h.2⟩) ⟨d, fun _ => n⟩ (fun _ _ _ _ => jz k) (kf 11 rfl kr (.inl rfl) rfl dc (fun _ _ h => ⟨h.1, km br h.2⟩) ⟨d, fun _ => n⟩ (fun _ _ _ _ => kh rfl rfl rfl) (bS a fun K T a => qL 12 rfl kr (.inl rfl) rfl dc (fun _ _ h => ⟨h.1, km br h.2⟩) ⟨d, fun _ => n⟩ (lg (i := (wi0 .i64 (H + c))) jt.out aD aC rfl rfl j (kk T) (kj T)) (fun d6 ⟨_, ⟨e0, rfl, N⟩, b1, c4⟩ => ?_))))))))))))))
   refine kf 13 rfl kr (.inl rfl) rfl dc (fun _ _ h => ⟨h.1, km br h.2⟩) ⟨d, fun _ => n⟩ (fun l W q O => have s := (O.2 (q.Bb 21 [13] kr rfl)); jx rfl (jS (nA.hp _) (b1.mono (lR (fun b o L => s.2 b o (Ml L)))) aO aC)) (kf 14 rfl kr (.inl rfl) rfl dc (fun _ _ h => ⟨h.1, km br h.2⟩) ⟨d, fun _ => n⟩ (fun _ _ _ _ => jz u) (kf 15 rfl kr (.inl rfl) rfl dc (fun _ _ h => ⟨h.1, km br h.2⟩) ⟨d, fun _ => n⟩ (fun _ _ _ _ => jz I) (kf 16 rfl kr (.inl rfl) rfl dc (fun _ _ h => ⟨h.1, km br h.2⟩) ⟨d, fun _ => n⟩ (fun _ _ _ _ => jz k) (kf 17 rfl kr (.inl rfl) rfl dc (fun _ _ h => ⟨h.1, km br h.2⟩) ⟨d, fun _ => n⟩ (fun _ _ _ _ => kh rfl rfl rfl) (bS a fun g U a => qL 18 rfl kr (.inl rfl) rfl dc (fun _ _ h => ⟨h.1, km br h.2⟩) ⟨d, fun _ => n⟩ (lg (i := (wi0 .i64 (G + c))) jt.out aD aC rfl rfl j (kk U) (kj U)) (fun d7 ⟨_, ⟨e1, rfl, Q⟩, b2, c5⟩ => kf 19 rfl kr (.inl rfl) rfl dc (fun _ _ h => ⟨h.1, km br h.2⟩) ⟨d, fun _ => n⟩ (fun l W q O => have s := (O.2 (q.Bb 21 [19] kr rfl)); jx rfl (jS (nA.hp _) (b2.mono (lR (fun b o L => s.2 b o (Ml L)))) aO aC)) (bS a fun e5 z a => qL 20 rfl kr (.inl rfl) rfl dc (fun _ _ h => ⟨h.1, km br h.2⟩) ⟨d, fun _ => n⟩ (lg (i := (wi0 .i64 (G + c))) jt.out aD aC rfl rfl j (kk z) (kj z)) (fun d8 ⟨_, ⟨e2, rfl, c8⟩, c6, a9⟩ => ?_))))))))
   let P := (⟨g.Op, g.K, g.jr, g.Kids⟩ : Formula)
   obtain ⟨b3, b7, rfl⟩ := N.form
   refine XO 21 rfl (qI (x1 := K) jC p j rfl rfl (jt.mk ⟨(.slice b3 K.Kids.length b7), rfl, N⟩) a9 (kj z) aC (fun d2 d1 p M => ?_))
   have d := p.has.jv Sn
   refine ⟨⟨d, fun h => xr kr h⟩, (bS a fun e6 B a => qL 22 rfl kr (.inl rfl) rfl dc (fun _ _ h => ⟨h.1, km br h.2⟩) ⟨d, fun h => xr kr h⟩ (lg (i := (wi0 .i64 (H + c))) jt.out aD aC rfl rfl M (kk B) (kj B)) (fun d9 ⟨_, ⟨e3, rfl, c9⟩, c7, b0⟩ => ?_))⟩
   obtain ⟨b4, b9, rfl⟩ := Q.form
   refine XO 23 rfl (qI (x1 := P) jC p M rfl rfl (jt.mk ⟨(.slice b4 g.Kids.length b9), rfl, Q⟩) b0 (kj B) aC (fun d3 b5 p R => ?_))
   have d := p.has.jv Sn
   exact ⟨⟨d, fun h => xr kr h⟩, (kP kr (kl (jH (jG (Wh k (Wi rfl (Wa (ln ⟨c1, bn _, ((D.set (Int.toNat (wi0 .i64 (G + c))) K).set (Int.toNat (wi0 .i64 (H + c))) P), b5, (wi0 .i64 (c + 1)), _, (p.jv St), u, I, J, a4, rfl, R, a⟩))))))))⟩
  refine mW (mK (mK (qG (jH (qy ?_)))))
  obtain rfl := sj a
  exact oN rfl ⟨_, _, _, rfl, (p.lU (Kr Sn)), (jX.refl _), Lo.refl, (ST.kI p (mz.mem (Kr Sn))), y, rfl, rfl, j⟩
theorem yE (k : Value) (a0 : List Formula) (y : LO) (q D a3 : Int) (B : Value) (U : (Formula × Formula) → Option Int) (r : List Formula) (w : World) {T : jW} (h0 : ny T (y ++ []) w) (c5 : kB 30 jt 5 T k a0 y) (Q : xD pg0 B T (vC jt jt) (fun (r : Int) => (.int .i64 r)) U) (hm : mG a0 q D a3 U = some r) :
  lO true pg0 195 [k, (.int .i64 q), (.int .i64 D), (.int .i64 a3), B] w T (y ++ []) (fun v L1 μ1 => ∃ S1, v = (.tuple #[]) ∧ L1 = (S1 ++ []) ∧ kB 30 jt 5 μ1 k r S1) := by
 refine uB h0 58 func195 rfl (fun b => sg (Wm (Wm (Wi rfl (Wa (lr (Wm (Wm (Wi rfl (Wa ?_))))))))))
 refine ln (jL (lz (mX (fun m E W => ∃ z x c t I Y, jX T I ∧ Lo (keys (y ++ [])) w T I ∧ ST true (keys (y ++ [])) w W I (x ++ Y) ∧ E 0 = k ∧ E 2 = (.int .i64 D) ∧ E 4 = B ∧ E 10 = (.int .i64 c) ∧ E 11 = (.int .i64 t) ∧ kB 30 jt 5 I k z x ∧ ms D U m z c t = some r) kd ⟨a0, y, (wi0 .i64 (D - q)), (wi0 .i64 (a3 - D)), T, _, (jX.refl _), Lo.refl, (b.jv St), rfl, rfl, rfl, rfl, rfl, c5, hm⟩ ?_)))
 rintro m E W ⟨z, x, c, t, I, Y, i, d, b, G, j, H, g, u, J, a⟩
 let a2 := (wi0 .i64 (D - c))
 cases m with
 | zero => rw [ms] at a; cases a
 | succ s =>
  refine jL (sg (Wh g (Wh u (Wi rfl (ln (CI a rfl (fun L a => ?_) (fun L a => ?_)))))))
  ·refine kn (bg (Wh g (Wh u (Wi rfl (ln (CI a rfl (fun O a => ?_) (fun O a => ?_)))))))
   ·refine sg (Wh G (Wh j (Wh g (Wi rfl (Wh j (Wh u (Wh H (bS a fun c6 P a => ?_))))))))
    refine VE (eD b (Cr Qz Cn) call198 (fun p => (qc k z x a2 D t B U _ _ p J (Q.mono i) P)) ?_)
    rintro _ e0 c8 d2 b Z h ⟨b9, K, rfl, b5⟩
    obtain rfl := K.symm
    replace b := b.perm (Tr Tn)
    exact ln (jG (Wh g (Wh u (Wi rfl (Wa (jT (kl (jH ⟨s, bn _, c6, b9, (wi0 .i64 (c - t)), t, c8, _, (i.trans Z), (d.trans h), (b.jv St), G, j, H, rfl, u, b5, a⟩))))))))
   refine sg (Wh G (Wh j (Wh g (Wi rfl (Wh j (Wh u (Wi rfl (Wh g (Wi rfl (Wh g (Wh H (bS a fun c7 R a => ?_))))))))))))
   refine VE (eD b (Cr Qz Cn) call198 (fun p => (qc k z x a2 (wi0 .i64 ((wi0 .i64 (D + t)) - c)) c B U _ _ p J (Q.mono i) R)) ?_)
   rintro _ e1 c9 d3 b a4 l ⟨c0, M, rfl, b6⟩
   obtain rfl := M.symm
   replace b := b.perm (Tr Tn)
   exact ln (jG (Wh u (Wh g (Wi rfl (Wa (jT (kl (jH ⟨s, bn _, c7, c0, c, (wi0 .i64 (t - c)), c9, _, (i.trans a4), (d.trans l), (b.jv St), G, j, H, g, rfl, b6, a⟩))))))))
  refine mW (mK (mK (qG (jH (jG (Wh G (Wh j (Wh g (Wi rfl (Wh j (Wh g (Wh H (bS a fun d9 b4 a => ?_)))))))))))))
  refine VE (eD b (Cr Qz Cn) call198 (fun p => (qc k z x a2 D c B U _ _ p J (Q.mono i) b4)) ?_)
  rintro _ e2 e4 d4 b a5 n ⟨c1, N, rfl, b7⟩
  obtain rfl := N.symm
  replace b := b.perm (Tr Tn)
  refine jT (qy ?_)
  obtain rfl := sj a
  exact oN rfl ⟨_, _, _, rfl, (b.lU (Kr Sn)), (i.trans a5), (d.trans n), (ST.kI b (mz.mem (Kr Sn))), c1, rfl, rfl, b7⟩
set_option maxHeartbeats 4000000 in
theorem wz (t6 : (List Formula) → Int → Int → Int → ((Formula × Formula) → Option Int) → Option (List Formula)) (s6 : ∀ (t : Value) (a0 : List Formula) (c : LO) (z : Int) (M : Int) (B : Int) (D : Value) (f4 : (Formula × Formula) → Option Int) (r : List Formula) (w : World) {U : jW} (h0 : ny U (c ++ []) w) (a5 : kB 30 jt 5 U t a0 c) (c6 : xD pg0 D U (vC jt jt) (fun (r : Int) => (.int .i64 r)) f4), t6 a0 z M B f4 = some r → lO false pg0 189 [t, (.int .i64 z), (.int .i64 M), (.int .i64 B), D] w U (c ++ []) (fun v L1 μ1 => ∃ S1, v = (.tuple #[]) ∧ L1 = (S1 ++ []) ∧ kB 30 jt 5 μ1 t r S1)) (t : Value) (a0 : List Formula) (c : LO) (z M B : Int) (D : Value) (f4 : (Formula × Formula) → Option Int) (r : List Formula) (w : World) {U : jW} (h0 : ny U (c ++ []) w) (a5 : kB 30 jt 5 U t a0 c) (c6 : xD pg0 D U (vC jt jt) (fun (r : Int) => (.int .i64 r)) f4) (hm : oX t6 a0 z M B f4 = some r) :
  lO false pg0 189 [t, (.int .i64 z), (.int .i64 M), (.int .i64 B), D] w U (c ++ []) (fun v L1 μ1 => ∃ S1, v = (.tuple #[]) ∧ L1 = (S1 ++ []) ∧ kB 30 jt 5 μ1 t r S1) := by
 refine uB h0 220 func189 rfl (fun d => jL (sg (Wm (Wm (Wi rfl (Wi rfl (ln (CI hm rfl (fun ae hm => ?_) (fun ae hm => ?_)))))))))
 ·refine sg (Wm (Wa (lr (Wm (Wa (ln (jL (lz (mX (fun m E W => ∃ T a9 o3, ST false (keys (c ++ [])) w W U (c ++ o3) ∧ E 0 = t ∧ E 1 = (.int .i64 z) ∧ E 4 = D ∧ E 10 = (.int .i64 T) ∧ E 11 = (.int .i64 a9) ∧ kW a0 z f4 m T a9 = some r) kd ⟨M, B, _, (d.jv St), rfl, rfl, rfl, rfl, rfl, hm⟩ ?_)))))))))
  rintro m E W ⟨T, a9, o3, d, e4, h8, k3, h9, k4, y⟩
  cases m with
  | zero => rw [kW] at y; cases y
  | succ t5 =>
   refine jL (sg (Wh h9 (Wh k4 (Wi rfl (ln (CI y rfl (fun w9 y => ?_) (fun w9 y => ?_)))))))
   ·refine kn (bg (Wh h9 (Wh k4 (Wi rfl (V (pT (k' := .i64) (a := (wi0 .i64 (T + a9))) dD fl rfl) (V (G8 (a := (IntKind.u64.wrap (wi0 .i64 (T + a9)))) (b := 1) rfl rfl dc) (V (pT (k' := .u64) (a := (Int.fdiv (IntKind.u64.wrap (wi0 .i64 (T + a9))) (2 ^ min (Int.toNat 1) (IntKind.bits .u64)))) fl dD rfl) (Wa (ln (jL ?_))))))))))
    let e3 := (Int.fdiv (IntKind.u64.wrap (wi0 .i64 (T + a9))) (2 ^ min (Int.toNat 1) (IntKind.bits .u64)))
    replace d := d.drew
    have n := d.has.jv (Kr Sn)
    refine kO n kp (X 0 rfl n (jz k3) (X 1 rfl n (jz e4) (X 2 rfl n (jz rfl) (bS y fun aa n1 y => XQ 3 rfl n (lg (i := (wi0 .i64 e3)) jt.out aD aC rfl rfl a5 (kk n1) (kj n1)) (fun dh ⟨_, ⟨z7, rfl, x7⟩, x4, bo⟩ => XH 4 rfl n (fun _ s => jx rfl (jS (nA.hp _) (x4.mono (lR (fun b o L => s.2 b o (Ml L)))) aO aC)) (X 5 rfl n (jz e4) (X 6 rfl n (jz h8) (bS y fun ab n2 y => XQ 7 rfl n (lg (i := z) jt.out aD aC rfl rfl a5 (kk n2) (kj n2)) (fun di ⟨_, ⟨z8, rfl, x8⟩, x5, bp⟩ => XH 8 rfl n (fun _ s => jx rfl (jS (nA.hp _) (x5.mono (lR (fun b o L => s.2 b o (Ml L)))) aO aC)) (bS y fun dj x6 y => XE 9 rfl (yN (aa, ab) d c6 (jX.refl _) (vC.mk jC jC (jt.mk ⟨z7, rfl, x7⟩) (jt.mk ⟨z8, rfl, x8⟩) d.jF) rfl (uW rfl rfl) x6 (fun df d => ?_))))))))))))
    have n := d.has.jv (Kr Sn)
    refine ⟨n, (X 10 rfl n (kh rfl rfl rfl) (kP kr (jH (CI y rfl (fun x0 y => ?_) (fun x0 y => ?_)))))⟩
    ·exact jG (Wm (Wi rfl (Wa (jT (kl (jH ⟨t5, bn _, (wi0 .i64 ((wi0 .i64 e3) + 1)), a9, _, (d.jv St), e4, h8, k3, rfl, k4, y⟩))))))
    exact jG (Wm (Wa (jT (kl (jH ⟨t5, bn _, T, (wi0 .i64 e3), _, (d.jv St), e4, h8, k3, h9, rfl, y⟩)))))
   refine mW (mK (mK (qG (jH (jL (sg (Wh h8 (Wa (ln (CJ y (fun k5 E W => ∃ f7 o4, ST false (keys (c ++ [])) w W U (f7 ++ o4) ∧ kB 30 jt 5 U t k5 f7) (fun k5 x3 => ?_) ?_))))))))))
   ·refine lz (mX (fun m E W => ∃ i0 f8 b0 k6, ST false (keys (c ++ [])) w W U (f8 ++ k6) ∧ E 0 = t ∧ E 10 = (.int .i64 T) ∧ E 13 = (.int .i64 b0) ∧ kB 30 jt 5 U t i0 f8 ∧ mi T m i0 b0 = some k5) kd ⟨a0, c, z, _, (d.jv St), e4, h9, rfl, a5, x3⟩ ?_)
    rintro m E W ⟨i0, f8, b0, k6, d, c7, l7, c0, d1, u⟩
    cases m with
    | zero => rw [mi] at u; cases u
    | succ y2 =>
     refine jL (sg (Wh c0 (Wh l7 (Wi rfl (Wi rfl (ln (CI u rfl (fun p1 u => ?_) (fun p1 u => ?_))))))))
     ·refine kn (jL (lz ?_))
      replace d := d.drew
      have n := d.has.jv Sn
      have p := d.has.jv (Kr Sn)
      refine tE 15 n p kp (kf 0 rfl kr (.inl rfl) rfl dc (fun _ _ h => ⟨h.1, km (by rfl) h.2⟩) ⟨n, fun _ => p⟩ (fun _ _ _ _ => jz c7) (kf 1 rfl kr (.inl rfl) rfl dc (fun _ _ h => ⟨h.1, km (by rfl) h.2⟩) ⟨n, fun _ => p⟩ (fun _ _ _ _ => jz c0) (kf 2 rfl kr (.inl rfl) rfl dc (fun _ _ h => ⟨h.1, km (by rfl) h.2⟩) ⟨n, fun _ => p⟩ (fun _ _ _ _ => jz c7) (kf 3 rfl kr (.inl rfl) rfl dc (fun _ _ h => ⟨h.1, km (by rfl) h.2⟩) ⟨n, fun _ => p⟩ (fun _ _ _ _ => jz c0) (kf 4 rfl kr (.inl rfl) rfl dc (fun _ _ h => ⟨h.1, km (by rfl) h.2⟩) ⟨n, fun _ => p⟩ (fun _ _ _ _ => kh rfl rfl rfl) (kf 5 rfl kr (.inl rfl) rfl dc (fun _ _ h => ⟨h.1, km (by rfl) h.2⟩) ⟨n, fun _ => p⟩ (fun _ _ _ _ => jz c7) (kf 6 rfl kr (.inl rfl) rfl dc (fun _ _ h => ⟨h.1, km (by rfl) h.2⟩) ⟨n, fun _ => p⟩ (fun _ _ _ _ => jz c0) (kf 7 rfl kr (.inl rfl) rfl dc (fun _ _ h => ⟨h.1, km (by rfl) h.2⟩) ⟨n, fun _ => p⟩ (fun _ _ _ _ => kh rfl rfl rfl) (bS u fun i3 j5 u => qL 8 rfl kr (.inl rfl) rfl dc (fun _ _ h => ⟨h.1, km (by rfl) h.2⟩) ⟨n, fun _ => p⟩ (lg (i := (wi0 .i64 (b0 + 1))) jt.out aD aC rfl rfl d1 (kk j5) (kj j5)) (fun bs ⟨_, ⟨ck, rfl, i7⟩, r3, af⟩ => kf 9 rfl kr (.inl rfl) rfl dc (fun _ _ h => ⟨h.1, km (by rfl) h.2⟩) ⟨n, fun _ => p⟩ (fun l W O hs => have s := (hs.2 (O.Bb 15 [9] kr rfl)); jx rfl (jS (nA.hp _) (r3.mono (lR (fun b o L => s.2 b o (Ml L)))) aO aC)) (kf 10 rfl kr (.inl rfl) rfl dc (fun _ _ h => ⟨h.1, km (by rfl) h.2⟩) ⟨n, fun _ => p⟩ (fun _ _ _ _ => jz c7) (kf 11 rfl kr (.inl rfl) rfl dc (fun _ _ h => ⟨h.1, km (by rfl) h.2⟩) ⟨n, fun _ => p⟩ (fun _ _ _ _ => jz c0) (bS u fun Y j6 u => ?_)))))))))))))
      refine qL 12 rfl kr (.inl rfl) rfl dc (fun _ _ h => ⟨h.1, km (by rfl) h.2⟩) ⟨n, fun _ => p⟩ (lg (i := b0) jt.out aD aC rfl rfl d1 (kk j6) (kj j6)) (fun bt ⟨_, ⟨cl, rfl, i8⟩, r4, ag⟩ => kf 13 rfl kr (.inl rfl) rfl dc (fun _ _ h => ⟨h.1, km (by rfl) h.2⟩) ⟨n, fun _ => p⟩ (fun l W O hs => have s := (hs.2 (O.Bb 15 [13] kr rfl)); jx rfl (jS (nA.hp _) (r4.mono (lR (fun b o L => s.2 b o (Ml L)))) aO aC)) (bS u fun cv e9 u => qL 14 rfl kr (.inl rfl) rfl dc (fun _ _ h => ⟨h.1, km (by rfl) h.2⟩) ⟨n, fun _ => p⟩ (lg (i := b0) jt.out aD aC rfl rfl d1 (kk e9) (kj e9)) (fun bu ⟨_, ⟨cm, rfl, ar⟩, an, q2⟩ => ?_)))
      obtain ⟨t7, u6, rfl⟩ := i7.form
      refine XO 15 rfl (qI (x1 := i3) jC d d1 rfl rfl (jt.mk ⟨(.slice t7 i3.Kids.length u6), rfl, i7⟩) q2 (kj e9) aC (fun bd bb d i5 => ?_))
      have n := d.has.jv Sn
      refine ⟨⟨n, fun h => xr kr h⟩, (bS u fun cw f0 u => qL 16 rfl kr (.inl rfl) rfl dc (fun _ _ h => ⟨h.1, km (by rfl) h.2⟩) ⟨n, fun h => xr kr h⟩ (lg (i := (wi0 .i64 (b0 + 1))) jt.out aD aC rfl rfl i5 (kk f0) (kj f0)) (fun bv ⟨_, ⟨cn, rfl, au⟩, ao, q3⟩ => ?_))⟩
      obtain ⟨t8, u7, rfl⟩ := i8.form
      refine XO 17 rfl (qI (x1 := (⟨Y.Op, Y.K, Y.jr, Y.Kids⟩ : Formula)) jC d i5 rfl rfl (jt.mk ⟨(.slice t8 Y.Kids.length u7), rfl, i8⟩) q3 (kj f0) aC (fun be u1 d o9 => ?_))
      have n := d.has.jv Sn
      exact ⟨⟨n, fun h => xr kr h⟩, (kP kr (kl (jH (jG (Wh c0 (Wi rfl (Wa (ln ⟨y2, bn _, ((i0.set (Int.toNat b0) i3).set (Int.toNat (wi0 .i64 (b0 + 1))) (⟨Y.Op, Y.K, Y.jr, Y.Kids⟩ : Formula)), u1, (wi0 .i64 (b0 + 1)), _, (d.jv St), c7, l7, rfl, o9, u⟩))))))))⟩
     refine mW (mK (mK (qG (jH ?_))))
     have q := sj u; subst q
     exact ⟨f8, _, (d.jv St), d1⟩
   rintro dg E W ⟨f7, o4, d, x9⟩ x2
   refine ke (ki ?_)
   have q := sj x2; subst q
   exact oN rfl ⟨_, _, _, rfl, (d.lU (Kr Sn)), (jX.refl _), Lo.refl, (ST.kI d (mz.mem (Kr Sn))), f7, rfl, rfl, x9⟩
 refine kS (Wm (Wm (Wi rfl (Wi rfl (ln (CI hm rfl (fun p2 hm => ?_) (fun p2 hm => ?_)))))))
 ·refine sg (Wm (Wa (lr (Wm (Wa (ln (jL (lz (mX (fun m E W => ∃ G N k7, ST false (keys (c ++ [])) w W U (c ++ k7) ∧ E 0 = t ∧ E 2 = (.int .i64 M) ∧ E 4 = D ∧ E 14 = (.int .i64 G) ∧ E 15 = (.int .i64 N) ∧ kX a0 M f4 m G N = some r) kd ⟨z, M, _, (d.jv St), rfl, rfl, rfl, rfl, rfl, hm⟩ ?_)))))))))
  rintro m E W ⟨G, N, k7, d, c8, d5, f9, d6, g0, j⟩
  let j1 := (IntKind.u64.wrap (wi0 .i64 (G + N)))
  let b8 := (Int.fdiv j1 (2 ^ min (Int.toNat 1) (IntKind.bits .u64)))
  cases m with
  | zero => rw [kX] at j; cases j
  | succ n3 =>
   refine jL (sg (Wh d6 (Wh g0 (Wi rfl (ln (CI j rfl (fun p3 j => ?_) (fun p3 j => ?_)))))))
   ·refine kn (bg (Wh d6 (Wh g0 (Wi rfl (V (pT (k' := .i64) (a := (wi0 .i64 (G + N))) dD fl rfl) (V (G8 (a := j1) (b := 1) rfl rfl dc) (V (pT (k' := .u64) (a := (Int.fdiv j1 (2 ^ min (Int.toNat 1) (IntKind.bits .u64)))) fl dD rfl) (Wa (ln (jL ?_))))))))))
    replace d := d.drew
    have n := d.has.jv (Kr Sn)
    refine kO n kp (X 0 rfl n (jz f9) (X 1 rfl n (jz c8) (X 2 rfl n (jz d5) (bS j fun y8 j7 j => XQ 3 rfl n (lg (i := M) jt.out aD aC rfl rfl a5 (kk j7) (kj j7)) (fun bw ⟨_, ⟨y4, rfl, s7⟩, r5, ah⟩ => XH 4 rfl n (fun _ s => jx rfl (jS (nA.hp _) (r5.mono (lR (fun b o L => s.2 b o (Ml L)))) aO aC)) (X 5 rfl n (jz c8) (X 6 rfl n (jz rfl) (bS j fun y9 j8 j => XQ 7 rfl n (lg (i := (wi0 .i64 b8)) jt.out aD aC rfl rfl a5 (kk j8) (kj j8)) (fun bx ⟨_, ⟨y5, rfl, s8⟩, r6, ai⟩ => XH 8 rfl n (fun _ s => jx rfl (jS (nA.hp _) (r6.mono (lR (fun b o L => s.2 b o (Ml L)))) aO aC)) (bS j fun cf s1 j => XE 9 rfl (yN (y8, y9) d c6 (jX.refl _) (vC.mk jC jC (jt.mk ⟨y4, rfl, s7⟩) (jt.mk ⟨y5, rfl, s8⟩) d.jF) rfl (uW rfl rfl) s1 (fun bf d => ?_))))))))))))
    have n := d.has.jv (Kr Sn)
    refine ⟨n, (X 10 rfl n (kh rfl rfl rfl) (X 11 rfl n (nt rfl) (kP kr (jH (CI j rfl (fun p4 j => ?_) (fun p4 j => ?_))))))⟩
    ·exact jG (Wm (Wi rfl (Wa (jT (kl (jH ⟨n3, bn _, (wi0 .i64 ((wi0 .i64 b8) + 1)), N, _, (d.jv St), c8, d5, f9, rfl, g0, j⟩))))))
    exact jG (Wm (Wa (jT (kl (jH ⟨n3, bn _, G, (wi0 .i64 b8), _, (d.jv St), c8, d5, f9, d6, rfl, j⟩)))))
   refine mW (mK (mK (qG (jH (jL (sg (Wh d5 (Wa (ln (CJ j (fun i1 E W => ∃ d3 k8, ST false (keys (c ++ [])) w W U (d3 ++ k8) ∧ kB 30 jt 5 U t i1 d3) (fun i1 q7 => ?_) ?_))))))))))
   ·refine lz (mX (fun m E W => ∃ e2 d4 Q k9, ST false (keys (c ++ [])) w W U (d4 ++ k9) ∧ E 0 = t ∧ E 14 = (.int .i64 G) ∧ E 17 = (.int .i64 Q) ∧ kB 30 jt 5 U t e2 d4 ∧ mh G m e2 Q = some i1) kd ⟨a0, c, M, _, (d.jv St), c8, d6, rfl, a5, q7⟩ ?_)
    rintro m E W ⟨e2, d4, Q, k9, d, c9, l8, c1, b6, x⟩
    cases m with
    | zero => rw [mh] at x; cases x
    | succ y3 =>
     refine jL (sg (Wh c1 (Wh l8 (Wi rfl (ln (CI x rfl (fun p5 x => ?_) (fun p5 x => ?_)))))))
     ·refine kn (jL (lz ?_))
      replace d := d.drew
      have n := d.has.jv Sn
      have p := d.has.jv (Kr Sn)
      refine tE 15 n p kp (kf 0 rfl kr (.inl rfl) rfl dc (fun _ _ h => ⟨h.1, km (by rfl) h.2⟩) ⟨n, fun _ => p⟩ (fun _ _ _ _ => jz c9) (kf 1 rfl kr (.inl rfl) rfl dc (fun _ _ h => ⟨h.1, km (by rfl) h.2⟩) ⟨n, fun _ => p⟩ (fun _ _ _ _ => jz c1) (kf 2 rfl kr (.inl rfl) rfl dc (fun _ _ h => ⟨h.1, km (by rfl) h.2⟩) ⟨n, fun _ => p⟩ (fun _ _ _ _ => jz c9) (kf 3 rfl kr (.inl rfl) rfl dc (fun _ _ h => ⟨h.1, km (by rfl) h.2⟩) ⟨n, fun _ => p⟩ (fun _ _ _ _ => jz c1) (kf 4 rfl kr (.inl rfl) rfl dc (fun _ _ h => ⟨h.1, km (by rfl) h.2⟩) ⟨n, fun _ => p⟩ (fun _ _ _ _ => kh rfl rfl rfl) (kf 5 rfl kr (.inl rfl) rfl dc (fun _ _ h => ⟨h.1, km (by rfl) h.2⟩) ⟨n, fun _ => p⟩ (fun _ _ _ _ => jz c9) (kf 6 rfl kr (.inl rfl) rfl dc (fun _ _ h => ⟨h.1, km (by rfl) h.2⟩) ⟨n, fun _ => p⟩ (fun _ _ _ _ => jz c1) (kf 7 rfl kr (.inl rfl) rfl dc (fun _ _ h => ⟨h.1, km (by rfl) h.2⟩) ⟨n, fun _ => p⟩ (fun _ _ _ _ => kh rfl rfl rfl) (bS x fun i4 j9 x => qL 8 rfl kr (.inl rfl) rfl dc (fun _ _ h => ⟨h.1, km (by rfl) h.2⟩) ⟨n, fun _ => p⟩ (lg (i := (wi0 .i64 (Q - 1))) jt.out aD aC rfl rfl b6 (kk j9) (kj j9)) (fun bz ⟨_, ⟨co, rfl, i9⟩, r7, aj⟩ => kf 9 rfl kr (.inl rfl) rfl dc (fun _ _ h => ⟨h.1, km (by rfl) h.2⟩) ⟨n, fun _ => p⟩ (fun l W O hs => have s := (hs.2 (O.Bb 15 [9] kr rfl)); jx rfl (jS (nA.hp _) (r7.mono (lR (fun b o L => s.2 b o (Ml L)))) aO aC)) (kf 10 rfl kr (.inl rfl) rfl dc (fun _ _ h => ⟨h.1, km (by rfl) h.2⟩) ⟨n, fun _ => p⟩ (fun _ _ _ _ => jz c9) (kf 11 rfl kr (.inl rfl) rfl dc (fun _ _ h => ⟨h.1, km (by rfl) h.2⟩) ⟨n, fun _ => p⟩ (fun _ _ _ _ => jz c1) (bS x fun Z k0 x => ?_)))))))))))))
      refine qL 12 rfl kr (.inl rfl) rfl dc (fun _ _ h => ⟨h.1, km (by rfl) h.2⟩) ⟨n, fun _ => p⟩ (lg (i := Q) jt.out aD aC rfl rfl b6 (kk k0) (kj k0)) (fun ca ⟨_, ⟨cp, rfl, j0⟩, r8, ak⟩ => kf 13 rfl kr (.inl rfl) rfl dc (fun _ _ h => ⟨h.1, km (by rfl) h.2⟩) ⟨n, fun _ => p⟩ (fun l W O hs => have s := (hs.2 (O.Bb 15 [13] kr rfl)); jx rfl (jS (nA.hp _) (r8.mono (lR (fun b o L => s.2 b o (Ml L)))) aO aC)) (bS x fun cx f1 x => qL 14 rfl kr (.inl rfl) rfl dc (fun _ _ h => ⟨h.1, km (by rfl) h.2⟩) ⟨n, fun _ => p⟩ (lg (i := Q) jt.out aD aC rfl rfl b6 (kk f1) (kj f1)) (fun cb ⟨_, ⟨cq, rfl, av⟩, ap, q4⟩ => ?_)))
      obtain ⟨t9, u8, rfl⟩ := i9.form
      refine XO 15 rfl (qI (x1 := i4) jC d b6 rfl rfl (jt.mk ⟨(.slice t9 i4.Kids.length u8), rfl, i9⟩) q4 (kj f1) aC (fun bh bc d i6 => ?_))
      have n := d.has.jv Sn
      refine ⟨⟨n, fun h => xr kr h⟩, (bS x fun cy f2 x => qL 16 rfl kr (.inl rfl) rfl dc (fun _ _ h => ⟨h.1, km (by rfl) h.2⟩) ⟨n, fun h => xr kr h⟩ (lg (i := (wi0 .i64 (Q - 1))) jt.out aD aC rfl rfl i6 (kk f2) (kj f2)) (fun cc ⟨_, ⟨cr, rfl, aw⟩, aq, q5⟩ => ?_))⟩
      obtain ⟨u0, u9, rfl⟩ := j0.form
      refine XO 17 rfl (qI (x1 := (⟨Z.Op, Z.K, Z.jr, Z.Kids⟩ : Formula)) jC d i6 rfl rfl (jt.mk ⟨(.slice u0 Z.Kids.length u9), rfl, j0⟩) q5 (kj f2) aC (fun bi u2 d p0 => ?_))
      have n := d.has.jv Sn
      exact ⟨⟨n, fun h => xr kr h⟩, (kP kr (kl (jH (jG (Wh c1 (Wi rfl (Wa (ln ⟨y3, bn _, ((e2.set (Int.toNat Q) i4).set (Int.toNat (wi0 .i64 (Q - 1))) (⟨Z.Op, Z.K, Z.jr, Z.Kids⟩ : Formula)), u2, (wi0 .i64 (Q - 1)), _, (d.jv St), c9, l8, rfl, p0, x⟩))))))))⟩
     refine mW (mK (mK (qG (jH ?_))))
     have q := sj x; subst q
     exact ⟨d4, _, (d.jv St), b6⟩
   rintro bq E W ⟨d3, k8, d, s9⟩ q6
   refine ke (ki ?_)
   have q := sj q6; subst q
   exact oN rfl ⟨_, _, _, rfl, (d.lU (Kr Sn)), (jX.refl _), Lo.refl, (ST.kI d (mz.mem (Kr Sn))), d3, rfl, rfl, s9⟩
 let g5 := (IntKind.u64.wrap (wi0 .i64 (z + B)))
 refine kg (Wm (Wm (Wi rfl (V (pT (k' := .i64) (a := (wi0 .i64 (z + B))) dD fl rfl) (V (G8 (a := g5) (b := 1) rfl rfl dc) (V (pT (k' := .u64) (a := (Int.fdiv g5 (2 ^ min (Int.toNat 1) (IntKind.bits .u64)))) fl dD rfl) (Wa (lr ?_))))))))
 let a1 := (wi0 .i64 (Int.fdiv g5 (2 ^ min (Int.toNat 1) (IntKind.bits .u64))))
 let e5 := (wi0 .i64 (a1 + M))
 refine Wm (Wm (Wi rfl (Wa (lr (Wa (Wa (ln (jL (CJ hm (fun i2 E W => ∃ l0, ST false (keys (c ++ [])) w W U (c ++ l0) ∧ E 0 = t ∧ E 1 = (.int .i64 z) ∧ E 2 = (.int .i64 M) ∧ E 3 = (.int .i64 B) ∧ E 4 = D ∧ E 18 = (.int .i64 a1) ∧ E 19 = (.int .i64 e5) ∧ E 20 = (.int .i64 i2.1) ∧ E 21 = (.int .i64 i2.2)) (fun i2 b5 => ?_) ?_)))))))))
 ·refine sg (Wm (Wm (Wi rfl (ln (CI b5 rfl (fun q1 b5 => ?_) (fun q1 b5 => ?_))))))
  ·refine sg (Wm (Wm (Wi rfl (Wa (ln (jG (Wm (Wa (ln ?_)))))))))
   have q := sj b5; subst q
   exact ⟨_, (d.jv St), rfl, rfl, rfl, rfl, rfl, rfl, rfl, rfl, rfl⟩
  refine sg (Wm (Wa (ln (jG (Wm (Wa (ln ?_)))))))
  have q := sj b5; subst q
  exact ⟨_, (d.jv St), rfl, rfl, rfl, rfl, rfl, rfl, rfl, rfl, rfl⟩
 rintro ⟨z0, z1⟩ E W ⟨l0, d, v0, v1, v2, v3, v4, v5, l9, v6, v7⟩ q8
 refine sg (Wh l9 (Wi rfl (Wa (ln (jL (lz (mX (fun m E W => ∃ g K l1, ST false (keys (c ++ [])) w W U (c ++ l1) ∧ E 0 = t ∧ E 1 = (.int .i64 z) ∧ E 2 = (.int .i64 M) ∧ E 3 = (.int .i64 B) ∧ E 4 = D ∧ E 18 = (.int .i64 a1) ∧ E 19 = (.int .i64 e5) ∧ E 20 = (.int .i64 g) ∧ E 21 = (.int .i64 K) ∧ E 22 = (.int .i64 (wi0 .i64 (e5 - 1))) ∧ kJ a0 z B M f4 t6 m g K = some r) kd ⟨z0, z1, _, (d.jv St), v0, v1, v2, v3, v4, v5, l9, v6, v7, rfl, q8⟩ ?_)))))))
 rintro m E W ⟨g, K, l1, d, c2, d7, c3, d8, d0, d9, g1, b1, g2, g3, k⟩
 let g6 := (IntKind.u64.wrap (wi0 .i64 (g + K)))
 let a3 := (Int.fdiv g6 (2 ^ min (Int.toNat 1) (IntKind.bits .u64)))
 let j2 := (wi0 .i64 a3)
 let a2 := (wi0 .i64 (e5 - g))
 cases m with
 | zero => rw [kJ] at k; cases k
 | succ n4 =>
  refine jL (sg (Wh b1 (Wh g2 (Wi rfl (ln (CI k rfl (fun p6 k => ?_) (fun p6 k => ?_)))))))
  ·refine kn (bg (Wh b1 (Wh g2 (Wi rfl (V (pT (k' := .i64) (a := (wi0 .i64 (g + K))) dD fl rfl) (V (G8 (a := g6) (b := 1) rfl rfl dc) (V (pT (k' := .u64) (a := (Int.fdiv g6 (2 ^ min (Int.toNat 1) (IntKind.bits .u64)))) fl dD rfl) (Wa (ln (jL ?_))))))))))
   replace d := d.drew
   have n := d.has.jv (Kr Sn)
   refine kO n kp (X 0 rfl n (jz d0) (X 1 rfl n (jz c2) (X 2 rfl n (jz g3) (X 3 rfl n (jz rfl) (X 4 rfl n (kh rfl rfl rfl) (bS k fun z2 k1 k => XQ 5 rfl n (lg (i := (wi0 .i64 ((wi0 .i64 (e5 - 1)) - j2))) jt.out aD aC rfl rfl a5 (kk k1) (kj k1)) (fun cd ⟨_, ⟨y6, rfl, t0⟩, r9, al⟩ => XH 6 rfl n (fun _ s => jx rfl (jS (nA.hp _) (r9.mono (lR (fun b o L => s.2 b o (Ml L)))) aO aC)) (X 7 rfl n (jz c2) (X 8 rfl n (jz rfl) (bS k fun z3 k2 k => XQ 9 rfl n (lg (i := (wi0 .i64 a3)) jt.out aD aC rfl rfl a5 (kk k2) (kj k2)) (fun ce ⟨_, ⟨y7, rfl, t1⟩, s0, am⟩ => XH 10 rfl n (fun _ s => jx rfl (jS (nA.hp _) (s0.mono (lR (fun b o L => s.2 b o (Ml L)))) aO aC)) (bS k fun cg s2 k => ?_))))))))))))
   refine XE 11 rfl (yN (z2, z3) d c6 (jX.refl _) (vC.mk jC jC (jt.mk ⟨y6, rfl, t0⟩) (jt.mk ⟨y7, rfl, t1⟩) d.jF) rfl (uW rfl rfl) s2 (fun bj d => ?_))
   have n := d.has.jv (Kr Sn)
   refine ⟨n, (X 12 rfl n (kh rfl rfl rfl) (X 13 rfl n (nt rfl) (kP kr (jH (CI k rfl (fun p7 k => ?_) (fun p7 k => ?_))))))⟩
   ·exact jG (Wm (Wi rfl (Wa (jT (kl (jH ⟨n4, bn _, (wi0 .i64 (j2 + 1)), K, _, (d.jv St), c2, d7, c3, d8, d0, d9, g1, rfl, g2, g3, k⟩))))))
   exact jG (Wm (Wa (jT (kl (jH ⟨n4, bn _, g, j2, _, (d.jv St), c2, d7, c3, d8, d0, d9, g1, b1, rfl, g3, k⟩)))))
  refine mW (mK (mK (qG (jH (sg (Wh g1 (Wh b1 (Wi rfl (Wa (ln (jL (CJ k (fun n8 E W => ∃ b7 a4 l2, jX U a4 ∧ Lo (keys (c ++ [])) w U a4 ∧ ST false (keys (c ++ [])) w W a4 (b7 ++ l2) ∧ E 0 = t ∧ E 1 = (.int .i64 z) ∧ E 3 = (.int .i64 B) ∧ E 4 = D ∧ E 18 = (.int .i64 a1) ∧ E 20 = (.int .i64 g) ∧ E 24 = (.int .i64 a2) ∧ kB 30 jt 5 a4 t n8 b7) (fun n8 r2 => ?_) ?_))))))))))))
  ·refine sg (Wh b1 (Wh c3 (Wi rfl (Wm (LJ r2 (fun n9 E W => ∃ l6, ST false (keys (c ++ [])) w W U (c ++ l6) ∧ E 0 = t ∧ E 1 = (.int .i64 z) ∧ E 2 = (.int .i64 M) ∧ E 3 = (.int .i64 B) ∧ E 4 = D ∧ E 18 = (.int .i64 a1) ∧ E 20 = (.int .i64 g) ∧ E 24 = (.int .i64 a2) ∧ E 185 = (.bool n9)) 4 ?_ (fun n9 b4 f6 => ?_))))))
   ·rintro db E W ⟨l6, d, h4, m8, w7, m9, h5, n0, h6, h7, w8⟩ a8
    refine ln (CI a8 w8 (fun q0 a8 => ?_) (fun q0 a8 => ?_))
    ·refine jG (Wh h4 (Wh h6 (Wh w7 (Wh h7 (Wh h5 (bS a8 fun cj s5 a8 => ?_))))))
     refine VE (eD d (Cr Qz Cn) call195 (fun hh => lO.lG (yE t a0 c g M a2 D f4 _ _ hh a5 (c6.mono (jX.refl _)) s5)) ?_)
     rintro _ cu z5 ba d o2 bl ⟨u5, e8, rfl, t4⟩
     obtain rfl := e8.symm
     replace d := d.perm (Tr Tn)
     refine ln ?_
     have q := sj a8; subst q
     exact ⟨u5, z5, _, o2, bl, (d.jv St), h4, m8, m9, h5, n0, h6, h7, t4⟩
    refine kn ?_
    have q := sj a8; subst q
    exact ⟨c, U, _, (jX.refl _), Lo.refl, (d.jv St), h4, m8, m9, h5, n0, h6, h7, a5⟩
   refine bC b4 (fun J b4 => ?_) (fun J b4 => ?_)
   ·refine ug J (jz c3) (ug J (jz rfl) (ug J (kh rfl rfl rfl) (V (jO (cB J) rfl) ?_)))
    have q := sj b4; subst q
    exact f6 _ _ ⟨_, (d.jv St), c2, d7, c3, d8, d0, d9, b1, rfl, rfl⟩
   refine un J (un J (un J (V (jP (cB J) rfl) ?_)))
   have q := sj b4; subst q
   exact f6 _ _ ⟨_, (d.jv St), c2, d7, c3, d8, d0, d9, b1, rfl, rfl⟩
  rintro y0 E W ⟨b7, a4, l2, c4, P, d, m0, g4, m1, m2, g7, e0, m3, j3⟩ q9
  refine jL (CJ q9 (fun n6 E W => ∃ b9 c5 l3, jX a4 c5 ∧ Lo (keys (c ++ [])) w a4 c5 ∧ ST false (keys (c ++ [])) w W c5 (b9 ++ l3) ∧ E 0 = t ∧ E 3 = (.int .i64 B) ∧ E 4 = D ∧ E 18 = (.int .i64 a1) ∧ E 24 = (.int .i64 a2) ∧ kB 30 jt 5 c5 t n6 b9) (fun n6 r1 => ?_) ?_)
  ·refine sg (Wh g4 (Wh e0 (Wi rfl (Wm (LJ r1 (fun n7 E W => ∃ l5, ST false (keys (c ++ [])) w W a4 (b7 ++ l5) ∧ E 0 = t ∧ E 1 = (.int .i64 z) ∧ E 3 = (.int .i64 B) ∧ E 4 = D ∧ E 18 = (.int .i64 a1) ∧ E 20 = (.int .i64 g) ∧ E 24 = (.int .i64 a2) ∧ E 199 = (.bool n7)) 4 ?_ (fun n7 b3 f5 => ?_))))))
   ·rintro da E W ⟨l5, d, h1, w4, m6, h2, h3, w5, m7, w6⟩ a7
    refine ln (CI a7 w6 (fun p9 a7 => ?_) (fun p9 a7 => ?_))
    ·refine jG (Wh h1 (Wh w4 (Wh w5 (Wh h3 (Wh h2 (bS a7 fun ci s4 a7 => ?_))))))
     refine VE (eD d (Cr Qz Cn) call189 (fun hh => (s6 t y0 b7 z g a1 D f4 _ _ hh j3 (c6.mono c4) s4)) ?_)
     rintro _ ct z4 az d o1 aE ⟨u4, e7, rfl, t3⟩
     obtain rfl := e7.symm
     replace d := d.perm (Tr Tn)
     refine ln ?_
     have q := sj a7; subst q
     exact ⟨u4, z4, _, o1, aE, (d.jv St), h1, m6, h2, h3, m7, t3⟩
    refine kn ?_
    have q := sj a7; subst q
    exact ⟨b7, a4, _, (jX.refl _), Lo.refl, (d.jv St), h1, m6, h2, h3, m7, j3⟩
   refine bC b3 (fun I b3 => ?_) (fun I b3 => ?_)
   ·refine ug I (jz e0) (ug I (jz g7) (ug I (kh rfl rfl rfl) (V (jO (cB I) rfl) ?_)))
    have q := sj b3; subst q
    exact f5 _ _ ⟨_, (d.jv St), m0, g4, m1, m2, g7, e0, m3, rfl⟩
   refine un I (un I (un I (V (jP (cB I) rfl) ?_)))
   have q := sj b3; subst q
   exact f5 _ _ ⟨_, (d.jv St), m0, g4, m1, m2, g7, e0, m3, rfl⟩
  rintro y1 E W ⟨b9, c5, l3, d2, R, d, m4, g8, m5, g9, e1, j4⟩ r0
  refine sg (Wh g9 (Wh e1 (Wi rfl (Wm (LJ r0 (fun n5 E W => ∃ l4, ST false (keys (c ++ [])) w W c5 (b9 ++ l4) ∧ E 0 = t ∧ E 3 = (.int .i64 B) ∧ E 4 = D ∧ E 18 = (.int .i64 a1) ∧ E 24 = (.int .i64 a2) ∧ E 213 = (.bool n5)) 4 ?_ (fun n5 b2 f3 => ?_))))))
  ·rintro cz E W ⟨l4, d, v8, v9, w0, w1, w2, w3⟩ a6
   refine ln (CI a6 w3 (fun p8 a6 => ?_) (fun p8 a6 => ?_))
   ·refine jG (Wh v8 (Wh w1 (Wh w2 (Wh v9 (Wh w0 (bS a6 fun ch s3 a6 => ?_))))))
    refine VE (eD d (Cr Qz Cn) call189 (fun hh => (s6 t y1 b9 a1 a2 B D f4 _ _ hh j4 (c6.mono (c4.trans d2)) s3)) ?_)
    rintro _ cs de ay d o0 ad ⟨u3, e6, rfl, t2⟩
    obtain rfl := e6.symm
    replace d := d.perm (Tr Tn)
    refine jT (qy ?_)
    have q := sj a6; subst q
    exact oN rfl ⟨_, _, _, rfl, (d.lU (Kr Sn)), ((c4.trans d2).trans o0), ((P.trans R).trans ad), (ST.kI d (mz.mem (Kr Sn))), u3, rfl, rfl, t2⟩
   refine kQ (qy ?_)
   have q := sj a6; subst q
   exact oN rfl ⟨_, _, _, rfl, (d.lU (Kr Sn)), (c4.trans d2), (P.trans R), (ST.kI d (mz.mem (Kr Sn))), b9, rfl, rfl, j4⟩
  refine bC b2 (fun H b2 => ?_) (fun H b2 => ?_)
  ·refine ug H (jz e1) (ug H (jz g8) (ug H (kh rfl rfl rfl) (V (jO (cB H) rfl) ?_)))
   have q := sj b2; subst q
   exact f3 _ _ ⟨_, (d.jv St), m4, g8, m5, g9, e1, rfl⟩
  refine un H (un H (un H (V (jP (cB H) rfl) ?_)))
  have q := sj b2; subst q
  exact f3 _ _ ⟨_, (d.jv St), m4, g8, m5, g9, e1, rfl⟩
theorem qh : ∀ (n : Nat) (c : Value) (k : List Formula) (a : LO) (t : Int) (u : Int) (x : Int) (g : Value) (y : (Formula × Formula) → Option Int) (r : List Formula) (w : World) {i : jW} (H : ny i (a ++ []) w) (B : kB 30 jt 5 i c k a) (D : xD pg0 g i (vC jt jt) (fun (r : Int) => (.int .i64 r)) y) (_ : lA n k t u x y = some r),
  lO false pg0 189 [c, (.int .i64 t), (.int .i64 u), (.int .i64 x), g] w i (a ++ []) (fun v z G => ∃ j, v = (.tuple #[]) ∧ z = (j ++ []) ∧ kB 30 jt 5 G c r j)
 | 0 => by intros; rename_i h; simp only [lA] at h; cases h
 | n + 1 => wz (lA n) (qh n)
theorem yS (a : Value) (a0 : List Formula) (c : LO) (Q : Int) (x : Value) (f2 : (Formula × Formula) → Option Int) (r : List Formula) (w : World) {μ0 : jW} (h0 : ny μ0 (c ++ []) w) (k4 : kB 30 jt 5 μ0 a a0 c) (c7 : xD pg0 x μ0 (vC jt jt) (fun (r : Int) => (.int .i64 r)) f2) (hm : qU a0 Q f2 = some r) :
  lO false pg0 177 [a, (.int .i64 Q), x] w μ0 (c ++ []) (fun v L1 μ1 => ∃ S1, v = (.tuple #[]) ∧ L1 = (S1 ++ []) ∧ kB 30 jt 5 μ1 a r S1) := by
 refine uB h0 63 func177 rfl (fun b => sg (Wa (lr (Wm (Wa (Wa (ln (jL (lz (mX (fun m E W => ∃ d4 d0 d5 b1 d6 f1, jX μ0 d6 ∧ Lo (keys (c ++ [])) w μ0 d6 ∧ ST false (keys (c ++ [])) w W d6 (d0 ++ f1) ∧ E 0 = a ∧ E 1 = (.int .i64 Q) ∧ E 2 = x ∧ E 6 = (.int .i64 20) ∧ E 7 = (.int .i64 d5) ∧ E 8 = (.int .i64 b1) ∧ kB 30 jt 5 d6 a d4 d0 ∧ lW Q f2 m d4 d5 b1 = some r) kd ⟨a0, c, 0, 20, μ0, _, (jX.refl _), Lo.refl, (b.jv St), rfl, rfl, rfl, rfl, rfl, rfl, k4, hm⟩ ?_))))))))))
 rintro m E W ⟨d4, d0, d5, b1, d6, f1, z, l, b, b4, b5, b6, d7, f4, b7, h1, i⟩
 cases m with
 | zero => rw [lW] at i; cases i
 | succ k5 =>
  refine jL (sg (Wh b7 (Wh b5 (Wi rfl (ln (CI i rfl (fun i4 i => ?_) (fun i4 i => ?_)))))))
  ·refine kn (bg (Wh b4 (Wh f4 (Wh b7 (Wh b6 (bS i fun k6 i7 i => ?_))))))
   refine VE (eD b (Cr Qz Cn) call188 (fun L => (sd a d4 d0 d5 b1 x f2 _ _ L h1 (c7.mono z) i7)) ?_)
   rintro _ m4 k8 l8 b g0 O ⟨k1, c8, rfl, j0⟩
   obtain rfl := c8.symm
   replace b := b.perm (Tr Tn)
   refine lr (Wh b7 (Wa (ln (jG (Wh b7 (Wh d7 (Wi rfl (Wa (jT (kl ?_))))))))))
   exact jH ⟨k5, bn _, k6, k1, b1, (wi0 .i64 (b1 + 20)), k8, _, (z.trans g0), (l.trans O), (b.jv St), b4, b5, b6, d7, rfl, rfl, j0, i⟩
  refine mW (mK (mK (qG (jH (sg (Wh b4 (Wh f4 (Wh b5 (Wh b6 (bS i fun k7 i8 i => ?_))))))))))
  refine VE (eD b (Cr Qz Cn) call188 (fun L => (sd a d4 d0 d5 Q x f2 _ _ L h1 (c7.mono z) i8)) ?_)
  rintro _ m5 a8 l9 b a5 P ⟨k2, c9, rfl, j3⟩
  obtain rfl := c9.symm
  replace b := b.perm (Tr Tn)
  refine ln (re (CJ i (fun d8 E W => ∃ b2 a9 f3, jX a8 a9 ∧ Lo (keys (c ++ [])) w a8 a9 ∧ ST false (keys (c ++ [])) w W a9 (b2 ++ f3) ∧ kB 30 jt 5 a9 a d8 b2) (fun d8 i6 => ?_) ?_))
  ·refine lz (mX (fun m E W => ∃ a2 I j k e0, jX a8 k ∧ Lo (keys (c ++ [])) w a8 k ∧ ST false (keys (c ++ [])) w W k (I ++ e0) ∧ E 0 = a ∧ E 1 = (.int .i64 Q) ∧ E 2 = x ∧ E 6 = (.int .i64 j) ∧ kB 30 jt 5 k a a2 I ∧ lV Q f2 m a2 j = some d8) kd ⟨k7, k2, 20, a8, _, (jX.refl _), Lo.refl, (b.jv St), b4, b5, b6, d7, j3, i6⟩ ?_)
   rintro m E W ⟨a2, I, j, k, e0, B, d, b, h6, e4, h7, b3, d1, t⟩
   cases m with
   | zero => rw [lV] at t; cases t
   | succ j6 =>
    refine jL (sg (Wh b3 (Wh e4 (Wi rfl (ln (CI t rfl (fun f7 t => ?_) (fun f7 t => ?_)))))))
    ·refine kn (bg (Wh b3 (Wi rfl (Wa (Wa (ln (jL (CJ t (fun a4 E W => ∃ J y e1, jX k y ∧ Lo (keys (c ++ [])) w k y ∧ ST false (keys (c ++ [])) w W y (J ++ e1) ∧ E 0 = a ∧ E 1 = (.int .i64 Q) ∧ E 2 = x ∧ E 6 = (.int .i64 j) ∧ E 7 = (.int .i64 a4.2) ∧ kB 30 jt 5 y a a4.1 J) (fun a4 g4 => ?_) ?_))))))))
     ·refine lz (mX (fun m E W => ∃ a3 K M D H e3, jX k H ∧ Lo (keys (c ++ [])) w k H ∧ ST false (keys (c ++ [])) w W H (K ++ e3) ∧ E 0 = a ∧ E 1 = (.int .i64 Q) ∧ E 2 = x ∧ E 6 = (.int .i64 j) ∧ E 7 = (.int .i64 M) ∧ E 8 = (.int .i64 D) ∧ kB 30 jt 5 H a a3 K ∧ mr Q j f2 m a3 M D = some a4) kd ⟨a2, I, 0, (wi0 .i64 (2 * j)), k, _, (jX.refl _), Lo.refl, (b.jv St), h6, e4, h7, b3, rfl, rfl, d1, g4⟩ ?_)
      rintro m E W ⟨a3, K, M, D, H, e3, N, h, b, c2, c3, c4, Y, c5, Z, d3, g⟩
      cases m with
      | zero => rw [mr] at g; cases g
      | succ j7 =>
       refine jL (sg (Wh Z (Wh c3 (Wi rfl (ln (CI g rfl (fun f9 g => ?_) (fun f9 g => ?_)))))))
       ·refine kn (bg (Wh c2 (Wh c5 (Wh c5 (Wh Y (Wi rfl (Wh Z (Wh c4 (bS g fun j8 g8 g => ?_)))))))))
        refine VE (eD b (Cr Qz Cn) call189 (fun L => ((qh kd) a a3 K M (wi0 .i64 (M + j)) D x f2 _ _ L d3 (c7.mono (((z.trans a5).trans B).trans N)) g8)) ?_)
        rintro _ l6 k0 l1 b f0 s ⟨h5, a7, rfl, h3⟩
        obtain rfl := a7.symm
        replace b := b.perm (Tr Tn)
        refine lr (Wh Z (Wa (ln (jG (Wh Z (Wh Y (Wi rfl (Wi rfl (Wa (jT ?_))))))))))
        exact kl (jH ⟨j7, bn _, j8, h5, D, (wi0 .i64 (D + (wi0 .i64 (2 * j)))), k0, _, (N.trans f0), (h.trans s), (b.jv St), c2, c3, c4, Y, rfl, rfl, h3, g⟩)
       refine mW (mK (mK (qG (jH ?_))))
       obtain rfl := sj g
       exact ⟨K, H, _, N, h, (b.jv St), c2, c3, c4, Y, c5, d3⟩
     rintro ⟨j4, e7⟩ E W ⟨J, y, e1, b0, n, b, b9, U, c0, c1, e5, d2⟩ g2
     refine jL (CJ g2 (fun e6 E W => ∃ T G e2, jX y G ∧ Lo (keys (c ++ [])) w y G ∧ ST false (keys (c ++ [])) w W G (T ++ e2) ∧ E 0 = a ∧ E 1 = (.int .i64 Q) ∧ E 2 = x ∧ E 6 = (.int .i64 j) ∧ kB 30 jt 5 G a e6 T) (fun e6 u => ?_) ?_)
     ·refine sg (Wh e5 (Wh c1 (Wi rfl (Wa (lr (Wm (Wh U (Wi rfl (ln ?_)))))))))
      refine CI u rfl (fun f8 u => ?_) (fun f8 u => ?_)
      ·refine jG (Wh b9 (Wh e5 (Wm (Wh U (Wh c0 (bS u fun l4 g7 u => ?_))))))
       refine VE (eD b (Cr Qz Cn) call189 (fun L => ((qh kd) a j4 J e7 (wi0 .i64 (e7 + j)) Q x f2 _ _ L d2 (c7.mono (((z.trans a5).trans B).trans b0)) g7)) ?_)
       rintro _ l5 j9 l0 b e9 q ⟨h4, a6, rfl, h2⟩
       obtain rfl := a6.symm
       replace b := b.perm (Tr Tn)
       refine ln ?_
       obtain rfl := sj u
       exact ⟨h4, j9, _, e9, q, (b.jv St), b9, U, c0, c1, h2⟩
      refine kn ?_
      obtain rfl := sj u
      exact ⟨J, y, _, (jX.refl _), Lo.refl, (b.jv St), b9, U, c0, c1, d2⟩
     rintro j5 E W ⟨T, G, e2, e8, p, b, h8, h9, i0, i1, g9⟩ g3
     exact jG (Wh i1 (Wi rfl (Wa (jT (kl (jH ⟨j6, bn _, j5, T, (wi0 .i64 (j * 2)), G, _, ((B.trans b0).trans e8), ((d.trans n).trans p), (b.jv St), h8, h9, i0, rfl, g9, g3⟩))))))
    refine mW (mK (mK (qG (jH ?_))))
    obtain rfl := sj t
    exact ⟨I, k, _, B, d, (b.jv St), d1⟩
  rintro m3 E W ⟨b2, a9, f3, g1, R, b, i9⟩ i5
  refine qy ?_
  obtain rfl := sj i5
  exact oN rfl ⟨_, _, _, rfl, (b.lU (Kr Sn)), ((z.trans a5).trans g1), ((l.trans P).trans R), (ST.kI b (mz.mem (Kr Sn))), b2, rfl, rfl, i9⟩
theorem yx (c : Value) (k : List Formula) (a : LO) (i : Value) (u : (Formula × Formula) → Option Int) (r : List Formula) (w : World) {t : jW} (J : ny t (a ++ []) w) (j : kB 30 jt 5 t c k a) (x : xD pg0 i t (vC jt jt) (fun (r : Int) => (.int .i64 r)) u) (hm : oO k u = some r) :
  lO false pg0 172 [c, i] w t (a ++ []) (fun v I K => ∃ B, v = (.tuple #[]) ∧ I = (B ++ []) ∧ kB 30 jt 5 K c r B) := by
 refine uB J 9 func172 rfl (fun b => jG (Wm (Wm (V (sG aD rfl j) (Wm (bS hm fun Q H hm => ?_))))))
 refine VE (eD b (Cr Qz Cn) call177 (fun h => (yS c k a (k.length : Int) i u _ _ h j (x.mono (jX.refl _)) H)) ?_)
 rintro _ T U M b y d ⟨D, g, rfl, z⟩
 obtain rfl := g.symm
 replace b := b.perm (Tr Tn)
 refine jT (qy ?_)
 obtain rfl := sj hm
 exact oN rfl ⟨_, _, _, rfl, (b.lU (Kr Sn)), y, d, (ST.kI b (mz.mem (Kr Sn))), D, rfl, rfl, z⟩
theorem rD (t : Nat) (j : Value) (G : List Int) (i : LO) (h : Int) (r : (Bool × (List Int))) (w : World) {μ0 : jW} (L : ny μ0 ((t, Ob #[j] 168) :: (i ++ [])) w) (y : jV 5 (lm .u8) 1 j G i) (hm : nV G h = some r) :
  kR true pg0 113 [(.pointer (some ⟨t, 0, none⟩)), (.int .i64 h)] w ((t, Ob #[j] 168) :: (i ++ [])) (fun v L1 W' => ∃ n S2, v = (.bool (r.1)) ∧ L1 = ((t, Ob #[n] 168) :: (S2 ++ [])) ∧ jV 5 (lm .u8) 1 n r.2 S2) := by
 refine yF L 38 func113 rfl (fun d => sg (Wa (lS (Wm (V (xi gi rfl rfl) (Wm (Vg rfl rfl (jz rfl) (Vg rfl rfl (kh rfl rfl rfl) (V (jP rfl rfl) ?_)))))))))
 refine ln (CI hm rfl (fun a9 hm => ?_) (fun a9 hm => ?_))
 ·refine sg (Wa (lt (ki ?_)))
  obtain rfl := sj hm
  exact lj (v := (.bool false)) rfl rfl ⟨_, _, rfl, (d.lU (Kb (Kr Sn))), j, i, rfl, rfl, y⟩
 refine kn (jL (lz (mX (fun m E W => ∃ c z U u a0, ST true (keys ((t, Ob #[j] 168) :: (i ++ []))) w W μ0 ((t, Ob #[z] 168) :: (u ++ a0)) ∧ E 0 = (.pointer (some ⟨t, 0, none⟩)) ∧ E 1 = (.int .i64 c) ∧ jV 5 (lm .u8) 1 z U u ∧ pX m c U = some r) kd ⟨h, j, G, i, _, (d.jv St), rfl, rfl, y, hm⟩ ?_)))
 rintro m E W ⟨c, z, U, u, a0, d, x, K, T, g⟩
 cases m with
 | zero => rw [pX] at g; cases g
 | succ s =>
  refine jL (sg (Wh K (Wi rfl (ln (CI g rfl (fun p g => ?_) (fun p g => ?_))))))
  ·refine kn (jL (lz (jG (Wh x (Wh x (Wn (Wf zj (VB d Mh rfl rfl isAgg59 (Wh K (V (pT (k' := .i64) (a := c) dD fi rfl) (V (IS (k := .u8) (a := (IntKind.u8.wrap c)) (b := 128) (v := (.int .u8 (IntKind.u8.wrap (BitVec.ofInt (IntKind.bits .u8) (IntKind.u8.wrap c) ||| BitVec.ofInt (IntKind.bits .u8) 128).toNat))) rfl rfl dc rfl) (VE (jY (cs := [(.int .u8 (IntKind.u8.wrap (BitVec.ofInt (IntKind.bits .u8) (IntKind.u8.wrap c) ||| BitVec.ofInt (IntKind.bits .u8) 128).toNat))].toArray) d (lM rfl) (mf cT sizeOf5 jb) (fun c3 q d => ?_))))))))))))))
   replace d := d.perm (Nr (Qb (Qb Qz)) Nz)
   refine bS g fun Q Y g => VE (mR (enc := (lm .u8)) (v := z) (vs := (.slice (some ⟨q, 0, none⟩) 1 1)) (R := u) d (fun _ => rfl) dc (wQ _) cT sL.1 sL.2.1 rfl sL.2.2.1 sL.2.2.2 rfl rfl T (Sl.lit (enc := (lm .u8)) (l := [(IntKind.u8.wrap (BitVec.ofInt (IntKind.bits .u8) (IntKind.u8.wrap c) ||| BitVec.ofInt (IntKind.bits .u8) 128).toNat)]) (fun _ => rfl) rfl nb rfl (d.at_ (Ma Mh))) Y (fun O c1 a2 d M => Wn (Wf zj ?_)))
   obtain ⟨B, H, rfl⟩ := M.form
   replace d := d.perm (Nb (Pr (Pb Pz)) Nz)
   refine VO (jK (.slice B Q.length H) (#[(.slice B Q.length H)]) d rfl rfl jj oc nb rfl (fun P d => jT (kl (jH ?_))))
   replace d := d.jv (Kb (Kr (Db St)))
   exact jG (Wh K (V (G8 (a := c) (b := 7) rfl rfl dc) (Wa (ln ⟨s, bn _, (Int.fdiv c (2 ^ min (Int.toNat 7) (IntKind.bits .i64))), (.slice B Q.length H), Q, a2, _, (d.jv St), x, rfl, M, g⟩))))
  refine mW (mK (mK (qG (jH (sg (Wh x (Wh x (Wn (Wf zj (VB d Mh rfl rfl isAgg59 (Wh K (V (pT (k' := .i64) (a := c) dD fi rfl) (VE (jY (cs := [(.int .u8 (IntKind.u8.wrap c))].toArray) d (lM rfl) (mf cT sizeOf5 jb) (fun b6 a5 d => ?_)))))))))))))))
  replace d := d.perm (Nr (Qb (Qb Qz)) Nz)
  refine bS g fun J Z g => VE (mR (enc := (lm .u8)) (v := z) (vs := (.slice (some ⟨a5, 0, none⟩) 1 1)) (R := u) d (fun _ => rfl) dc (wQ _) cT sL.1 sL.2.1 rfl sL.2.2.1 sL.2.2.2 rfl rfl T (Sl.lit (enc := (lm .u8)) (l := [(IntKind.u8.wrap c)]) (fun _ => rfl) rfl nb rfl (d.at_ (Ma Mh))) Z (fun b7 c2 a3 d N => Wn (Wf zj ?_)))
  obtain ⟨D, I, rfl⟩ := N.form
  replace d := d.perm (Nb (Pr (Pb Pz)) Nz)
  refine VO (jK (.slice D J.length I) (#[(.slice D J.length I)]) d rfl rfl jj oc nb rfl (fun b9 d => ln ?_))
  replace d := d.jv (Kb (Kr (Db St)))
  refine sg (Wa (lt ?_))
  obtain rfl := sj g
  exact lj (v := (.bool true)) rfl rfl ⟨_, _, rfl, (d.lU (Kb (Kr Sn))), (.slice D J.length I), a3, rfl, rfl, N⟩
theorem Fk (g : Nat) (c : Value) (j : List Int) (a : LO) (u : Value) (D : List Int) (r : (Bool × (List Int))) (w : World) {Z : jW} (h : ny Z ((g, Ob #[c] 168) :: (a ++ [])) w) (i : jV 5 (lm .u8) 1 c j a) (k : Sl (Pl (lm .u8)) 1 Z u D) (hm : xz j D = some r) :
  kR true pg0 142 [(.pointer (some ⟨g, 0, none⟩)), u] w ((g, Ob #[c] 168) :: (a ++ [])) (fun v L1 W' => ∃ U M, v = (.bool (r.1)) ∧ L1 = ((g, Ob #[U] 168) :: (M ++ [])) ∧ jV 5 (lm .u8) 1 U r.2 M) := by
 refine yF h 25 func142 rfl (fun b => sg (Wa (lS (Wm (V (xi gi rfl rfl) (Wm (Vg rfl rfl (jz rfl) (Vg rfl rfl (kK cT rfl k) (Vg rfl rfl (kh rfl rfl rfl) ?_)))))))))
 refine V (jP rfl rfl) (ln (CI hm rfl (fun Q hm => ?_) (fun Q hm => ?_)))
 ·refine sg (Wa (lt (ki ?_)))
  obtain rfl := sj hm
  exact lj (v := (.bool false)) rfl rfl ⟨_, _, rfl, (b.lU (Kb (Kr Sn))), c, a, rfl, rfl, i⟩
 refine kg (Wm (Wm (V (kK cT rfl k) (bS hm fun q T hm => ?_))))
 refine VE (eM b (Cb Pz (Cr Qz Cn)) call113 (fun l _ => (rD g c j a (D.length : Int) _ _ l i T)) ?_)
 rintro _ v8 n a3 b H m d ⟨Y, K, t, rfl, I⟩
 obtain rfl := t.symm
 replace b := b.perm (Tb (Tr Tn))
 refine lr (Wm (Wm (Wn (Wf zj (VB b Mh rfl rfl isAgg59 (Wm ?_))))))
 replace b := b.perm (Nr (Qb Qz) Nz)
 refine bS hm fun B G hm => VE (mR (enc := (lm .u8)) (v := Y) (vs := u) (R := K) b (fun _ => rfl) dc (wQ _) cT sL.1 sL.2.1 rfl sL.2.2.1 sL.2.2.2 rfl rfl I (k.mono (Pl.mono _) (H.trans b.jF)) G (fun a4 p J b z => Wn (Wf zj ?_)))
 obtain ⟨x, y, rfl⟩ := z.form
 replace b := b.perm (Nb (Pr Pz) Nz)
 refine VO (jK (.slice x B.length y) (#[(.slice x B.length y)]) b rfl rfl jj oc nb rfl (fun a5 b => lr (Wa (lt ?_))))
 obtain rfl := sj hm
 exact lj (v := (.bool true)) rfl rfl ⟨_, _, rfl, (b.lU (Kb (Kr Sn))), (.slice x B.length y), J, rfl, rfl, z⟩
theorem yG (j : Nat) (c : Value) (t : List Int) (a : LO) (J : ByteArray) (r : (Bool × (List Int))) (w : World) {Z : jW} (L : ny Z ((j, Ob #[c] 168) :: (a ++ [])) w) (k : jV 5 (lm .u8) 1 c t a) (hm : tV t J = some r) :
  kR true pg0 115 [(.pointer (some ⟨j, 0, none⟩)), (.string J)] w ((j, Ob #[c] 168) :: (a ++ [])) (fun v L1 W' => ∃ n S2, v = (.bool (r.1)) ∧ L1 = ((j, Ob #[n] 168) :: (S2 ++ [])) ∧ jV 5 (lm .u8) 1 n r.2 S2) := by
 refine yF L 17 func115 rfl (fun b => sg (Wa (lr (Wm (V (Dx gi rfl rfl) (Wm (Vg rfl rfl (jz rfl) (bS hm fun r1 a4 hm => Lw rfl rfl (Eg b call75 (wA J _ _  a4) (fun W3 b => V (jO rfl rfl) ?_))))))))))
 refine Wm (LJ hm (fun B E W => ∃ z x D I, jX Z D ∧ ST true (keys ((j, Ob #[c] 168) :: (a ++ []))) w W D ((j, Ob #[z] 168) :: (x ++ I)) ∧ E 4 = (.bool false) ∧ E 16 = (.bool B.1) ∧ jV 5 (lm .u8) 1 z B.2 x) 5 ?_ (fun B g y => ?_))
 ·rintro ⟨q, c0⟩ E W ⟨z, x, D, I, P, b, b9, a3, T⟩ M
  refine Wg a3 (lt ?_)
  obtain rfl := sj M
  exact lj (v := (.bool q)) rfl rfl ⟨_, _, rfl, (b.lU (Kb (Kr Sn))), z, x, rfl, rfl, T⟩
 refine bC g (fun i g => ?_) (fun i g => ?_)
 ·refine ug i (jz rfl) (ug i (jz rfl) (bS g fun a5 N g => tM i (Io b bZ cT fi rfl N (fun b6 p c3 b G l U R => bS g fun c1 Q g => ?_))))
  refine tM i (eM b (Cb Pz (Cr Qz Cn)) call142 (fun O h => (Fk j c t a p a5 _ _ O k (U.mono (Pl.mono _) h) Q)) ?_)
  rintro _ c2 s b5 b H m d ⟨a9, a2, u, rfl, Y⟩
  obtain rfl := u.symm
  replace b := b.perm (Tb (Tr Tn))
  refine V (jO (cB i) rfl) ?_
  obtain rfl := sj g
  exact y _ _ ⟨a9, a2, s, _, (G.trans H), (b.jv St), rfl, rfl, Y⟩
 refine un i (un i (un i (un i (V (jP (cB i) rfl) ?_))))
 obtain rfl := sj g
 exact y _ _ ⟨c, a, Z, _, (jX.refl _), (b.jv St), rfl, rfl, k⟩
theorem vr (c : Nat) (i : Value) (D : List Int) (a : LO) (x : jr) (r : (Bool × (List Int))) (w : World) {μ0 : jW} (h0 : ny μ0 ((c, Ob #[i] 168) :: (a ++ [])) w) (y : jV 5 (lm .u8) 1 i D a) (hm : pY D x = some r) :
  kR true pg0 114 [(.pointer (some ⟨c, 0, none⟩)), (.agg (jA x).toArray)] w ((c, Ob #[i] 168) :: (a ++ [])) (fun v L1 W' => ∃ q S2, v = (.bool (r.1)) ∧ L1 = ((c, Ob #[q] 168) :: (S2 ++ [])) ∧ jV 5 (lm .u8) 1 q r.2 S2) := by
 let l := ((c, Ob #[i] 168) :: (a ++ []))
 refine yF h0 23 func114 rfl (fun b => sg (VE (kv b rfl (fun W2 m b => Wa (lr (Wm (V (Dx gi rfl rfl) (Wm (Vg rfl rfl (jx rfl (jD b.has Mh (jA x) rfl bG aS)) (bS hm fun r3 c4 hm => Lw rfl rfl (Eg b call74 (tX x _ _  c4) (fun W5 b => ?_))))))))))))
 refine V (jO rfl rfl) (Wm (LJ hm (fun T E W => ∃ z u B a0, jX μ0 B ∧ ST true (keys l) w W B ((m, Ol (jA x) 27) :: ((c, Ob #[z] 168) :: (u ++ a0))) ∧ E 0 = (.pointer (some ⟨c, 0, none⟩)) ∧ E 3 = (.pointer (some ⟨m, 0, none⟩)) ∧ E 4 = (.bool false) ∧ E 16 = (.bool T.1) ∧ jV 5 (lm .u8) 1 z T.2 u) 5 ?_ (fun T t K => ?_)))
 ·rintro ⟨e6, c5⟩ E W ⟨z, u, B, a0, d2, b, c0, c1, a3, c2, N⟩ s
  refine Wh c2 (LJ s (fun Q E W => ∃ M I U a2, jX B U ∧ ST true (keys l) w W U ((c, Ob #[M] 168) :: (I ++ a2)) ∧ E 4 = (.bool false) ∧ E 22 = (.bool Q.1) ∧ jV 5 (lm .u8) 1 M Q.2 I) 5 ?_ (fun Q k J => ?_))
  ·rintro ⟨c6, e1⟩ E W ⟨M, I, U, a2, d3, b, e0, c3, P⟩ L
   refine Wg c3 (lt ?_)
   obtain rfl := sj L
   exact lj (v := (.bool c6)) rfl rfl ⟨_, _, rfl, (b.lU (Kb (Kr Sn))), M, I, rfl, rfl, P⟩
  refine bC k (fun g k => ?_) (fun g k => ?_)
  ·refine ug g (jz c0) (ug g (jE uw c1) (ug g (jx rfl (jJ b.has Mh rfl bV)) (bS k fun e2 O k => ?_)))
   refine tM g (eM b (Cb (Pb Pz) (Cr (Qb Qz) Cn)) call115 (fun h _ => (yG c z c5 u x.jy _ _ h N O)) ?_)
   rintro _ e4 d0 d6 b Y n d ⟨c8, b6, G, rfl, R⟩
   obtain rfl := G.symm
   replace b := b.perm (Tb (Tr Tn))
   refine V (jO (cB g) rfl) ?_
   obtain rfl := sj k
   exact J _ _ ⟨c8, b6, d0, _, Y, (b.jv (Kb (Kr (Db St)))), a3, rfl, R⟩
  refine un g (un g (un g (un g (V (jP (cB g) rfl) ?_))))
  obtain rfl := sj k
  exact J _ _ ⟨z, u, B, _, (jX.refl _), (b.jv (Db St)), a3, rfl, N⟩
 refine bC t (fun j t => ?_) (fun j t => ?_)
 ·refine ug j (jz rfl) (ug j (jE pn rfl) (ug j (jx rfl (jJ b.has Mh rfl bV)) (bS t fun e3 a9 t => ?_)))
  refine tM j (eM b (Cb (Pb Pz) (Cr (Qb Qz) Cn)) call115 (fun h _ => (yG c i D a x.ju _ _ h y a9)) ?_)
  rintro _ e5 d1 d7 b Z p d ⟨c9, b7, H, rfl, b3⟩
  obtain rfl := H.symm
  replace b := b.perm (Tb (Tr Tn))
  refine V (jO (cB j) rfl) ?_
  obtain rfl := sj t
  exact K _ _ ⟨c9, b7, d1, _, Z, (b.jv (Sb (Pb (Pr Pz)) St)), rfl, rfl, rfl, rfl, b3⟩
 refine un j (un j (un j (un j (V (jP (cB j) rfl) ?_))))
 obtain rfl := sj t
 exact K _ _ ⟨i, a, μ0, _, (jX.refl _), (b.jv St), rfl, rfl, rfl, rfl, y⟩
theorem Dt (L : (List Int) → Formula → Option (List Int)) (f2 : ∀ (a : Nat) (k : Value) (B : List Int) (g : LO) (j : Formula) (u : Value) (r : List Int) (w : World) {μ0 : jW} (h0 : ny μ0 ((a, Ob #[k] 168) :: (g ++ [])) w) (T : jV 5 (lm .u8) 1 k B g) (t : Sl jt 5 μ0 u j.Kids), L B j = some r → kR false pg0 196 [(.pointer (some ⟨a, 0, none⟩)), (.agg #[(.int .i64 j.Op), (.int .i64 j.K), (.string j.jr.ju), (.string j.jr.jy), u])] w ((a, Ob #[k] 168) :: (g ++ [])) (fun v L1 W' => ∃ m S2, v = (.tuple #[]) ∧ L1 = ((a, Ob #[m] 168) :: (S2 ++ [])) ∧ jV 5 (lm .u8) 1 m r S2)) (a : Nat) (k : Value) (B : List Int) (g : LO) (j : Formula) (u : Value) (r : List Int) (w : World) {μ0 : jW} (h0 : ny μ0 ((a, Ob #[k] 168) :: (g ++ [])) w) (T : jV 5 (lm .u8) 1 k B g) (t : Sl jt 5 μ0 u j.Kids) (hm : vG L B j = some r) :
  kR false pg0 196 [(.pointer (some ⟨a, 0, none⟩)), (.agg #[(.int .i64 j.Op), (.int .i64 j.K), (.string j.jr.ju), (.string j.jr.jy), u])] w ((a, Ob #[k] 168) :: (g ++ [])) (fun v L1 W' => ∃ m S2, v = (.tuple #[]) ∧ L1 = ((a, Ob #[m] 168) :: (S2 ++ [])) ∧ jV 5 (lm .u8) 1 m r S2) := by
 let b0 := ((a, Ob #[k] 168) :: (g ++ []))
 refine yF h0 40 func196 rfl (fun b => sg ?_)
 obtain ⟨A1, c2, rfl⟩ := t.form
 refine VE (kv b rfl (fun W4 b3 b => lr (Wm (Wf nn (VB b Mh rfl rfl bR (bS hm fun r5 g8 hm => ?_))))))
 refine VE (eM b (Cb (Pb Pz) (Cr (Qb Qz) Cn)) call113 (fun l _ => kR.lG (rD a k B g j.Op _ _ l T g8)) ?_)
 rintro _ j8 n j0 b e9 af d ⟨O, a9, a2, rfl, a5⟩
 obtain rfl := a2.symm
 replace b := b.perm (Tb (Tr Tn))
 refine lS (Wf nn (VB b (Mt (Ma Mh)) rfl rfl bR (Wi rfl (ln (CI hm rfl (fun e8 hm => ?_) (fun e8 hm => ?_))))))
 ·refine sg (Wm (Wf tQ (VA b (Mt (Ma Mh)) (jA j.jr) bG aS (bS hm fun j7 f0 hm => ?_))))
  refine VE (eM b (Cb Pz (Cr Qz Cn)) call114 (fun l _ => kR.lG (vr a O r5.2 a9 j.jr _ _ l a5 f0)) ?_)
  rintro _ j9 k1 j3 b h6 ag d ⟨h3, g2, a3, rfl, f4⟩
  obtain rfl := a3.symm
  replace b := b.perm (Tb (Tr Tn))
  refine ln ?_
  replace b := b.jv (Kb (Kr (Db St)))
  refine ke (ki ?_)
  obtain rfl := sj hm
  exact oN rfl ⟨_, _, rfl, (b.lU (Kb (Kr Sn))), h3, g2, rfl, rfl, f4⟩
 refine kn (jL (CJ hm (fun b5 E W => ∃ q p P d6, jX n P ∧ ST false (keys b0) w W P ((a, Ob #[q] 168) :: ((b3, Ol (C1 j.Op j.K j.jr.ju j.jr.jy A1 j.Kids.length c2) 30) :: (p ++ d6))) ∧ E 0 = (.pointer (some ⟨a, 0, none⟩)) ∧ E 3 = (.pointer (some ⟨b3, 0, none⟩)) ∧ jV 5 (lm .u8) 1 q b5 p) (fun b5 y => ?_) ?_))
 ·refine sg (Wf nn (VB b (Mt (Ma Mh)) rfl rfl bR (Wi rfl (ln (CI y rfl (fun c4 y => ?_) (fun c4 y => ?_))))))
  ·refine jG (Wm (Wf rG (VB b (Mt (Ma Mh)) rfl rfl bR (bS y fun i6 d0 y => ?_))))
   refine VE (eM b (Cb Pz (Cr Qz Cn)) call113 (fun l _ => kR.lG (rD a O r5.2 a9 j.K _ _ l a5 d0)) ?_)
   rintro _ i9 g1 h9 b b2 ad d ⟨f9, e3, N, rfl, d5⟩
   obtain rfl := N.symm
   replace b := b.perm (Tb (Tr Tn))
   refine ln ?_
   obtain rfl := sj y
   exact ⟨f9, e3, g1, _, b2, (b.jv (Kb (Sb (Pr Pz) St))), rfl, rfl, d5⟩
  refine kn ?_
  obtain rfl := sj y
  exact ⟨O, a9, n, _, (jX.refl _), (b.jv (Kb (Sb (Pr Pz) St))), rfl, rfl, a5⟩
 rintro g9 E W ⟨q, p, P, d6, c6, b, d7, d8, f3⟩ a0
 refine sg (Wh d7 (V (jE nm d8) (VB b (Mt Mh) rfl rfl dH (V (kK aD rfl t) (bS a0 fun h2 f1 a0 => ?_)))))
 refine VE (eM b (Cb Pz (Cr (Qb Qz) Cn)) call113 (fun l _ => kR.lG (rD a q g9 p (j.Kids.length : Int) _ _ l f3 f1)) ?_)
 rintro _ k0 d9 j4 b c7 ah d ⟨h4, g3, a4, rfl, f5⟩
 obtain rfl := a4.symm
 replace b := b.perm (Tb (Tr Tn))
 refine lr (V (jE nm d8) (VB b (Mt (Ma Mh)) rfl rfl dH (V (kK aD rfl t) (Wm (ln ?_)))))
 replace b := b.jv (Kb (Kr (Db St)))
 refine re (kA (fun i E W => ∃ D H z Q U, (E 32 = .int .i64 (i : Nat) ∧ E 31 = .int .i64 (j.Kids.length : Nat)) ∧ jX d9 Q ∧ ST false (keys b0) w W Q ((a, Ob #[D] 168) :: (z ++ U)) ∧ E 0 = (.pointer (some ⟨a, 0, none⟩)) ∧ E 30 = (.slice A1 j.Kids.length c2) ∧ jV 5 (lm .u8) 1 D H z ∧ qn L (j.Kids.drop i) H = some r) j.Kids.length t.len ⟨h4, h2.2, g3, d9, _, ⟨rfl, rfl⟩, (jX.refl _), (b.jv St), d7, rfl, f5, a0⟩ dc dc dc (fun _ _ _ h => by obtain ⟨_, _, _, _, _, aa, _⟩ := h; exact aa) ?_ ?_)
 ·rintro f6 E W c5 ⟨D, H, z, Q, U, ⟨R, eN⟩, G, b, Y, Z, K, x⟩
  obtain ⟨c, h7, d2, d1, d3⟩ := ku c5
  rw [d2] at x
  refine bg (VQ (lI (i := (f6 : Int)) (x0 := c) jt.out aD aC Z R (t.mono jC.mono (((e9.trans c6).trans c7).trans G)) (aG _) d1) (fun i5 ⟨_, ⟨i7, rfl, a7⟩, c8⟩ => V (jx rfl (jS b.has c8 aO aC)) (VE (jU b aQ (fun i0 i4 b => ?_)))))
  obtain ⟨I, J, rfl⟩ := a7.form
  let s := (C1 c.Op c.K c.jr.ju c.jr.jy I c.Kids.length J)
  refine VO (jK (.agg s.toArray) (s.toArray) b rfl rfl aC oc nb rfl (fun i1 b => ln (jG (Wh Y (VA b Mh s aO aC (bS x fun f7 c9 x => ?_))))))
  refine VE (eM b (Cb (Pb Pz) (Cr (Qb Qz) Cn)) call196 (fun l ae => (f2 a D H z c (.slice I c.Kids.length J) _ _ l K (a7.mono jC.mono ae) c9)) ?_)
  rintro _ i8 g0 h8 b b1 ab d ⟨f8, e2, M, rfl, d4⟩
  obtain rfl := M.symm
  replace b := b.perm (Tb (Tr Tn))
  refine jT (kl (jH ?_))
  replace b := b.jv (Kb (Kr (Db St)))
  exact ⟨R, f8, f7, e2, g0, _, ⟨rfl, eN⟩, (G.trans b1), (b.jv St), Y, Z, d4, (by rw [d3]; exact x)⟩
 rintro E W ⟨D, H, z, Q, U, ⟨R, eN⟩, G, b, Y, Z, K, x⟩
 rw [aM] at x
 refine jH (qy ?_)
 obtain rfl := sj x
 exact oN rfl ⟨_, _, rfl, (b.lU (Kb (Kr Sn))), D, z, rfl, rfl, K⟩
theorem BF : ∀ (n : Nat) (i : Nat) (g : Value) (k : List Int) (c : LO) (j : Formula) (a : Value) (r : List Int) (w : World) {z : jW} (D : ny z ((i, Ob #[g] 168) :: (c ++ [])) w) (x : jV 5 (lm .u8) 1 g k c) (t : Sl jt 5 z a j.Kids) (_ : pN n k j = some r),
  kR false pg0 196 [(.pointer (some ⟨i, 0, none⟩)), (.agg #[(.int .i64 j.Op), (.int .i64 j.K), (.string j.jr.ju), (.string j.jr.jy), a])] w ((i, Ob #[g] 168) :: (c ++ [])) (fun v B W' => ∃ y u, v = (.tuple #[]) ∧ B = ((i, Ob #[y] 168) :: (u ++ [])) ∧ jV 5 (lm .u8) 1 y r u)
 | 0 => by intros; rename_i h; simp only [pN] at h; cases h
 | n + 1 => Dt (pN n) (BF n)
theorem GF (k : Nat) (i : Value) (u : List Int) (c : LO) (a : Formula) (j : Value) (r : (Bool × (List Int))) (w : World) {Q : jW} (Y : ny Q ((k, Ob #[i] 168) :: (c ++ [])) w) (t : jV 5 (lm .u8) 1 i u c) (g : Sl jt 5 Q j a.Kids) (hm : wq u a = some r) :
  kR false pg0 190 [(.pointer (some ⟨k, 0, none⟩)), (.agg #[(.int .i64 a.Op), (.int .i64 a.K), (.string a.jr.ju), (.string a.jr.jy), j])] w ((k, Ob #[i] 168) :: (c ++ [])) (fun v U W' => ∃ M I, v = (.bool (r.1)) ∧ U = ((k, Ob #[M] 168) :: (I ++ [])) ∧ jV 5 (lm .u8) 1 M r.2 I) := by
 refine yF Y 15 func190 rfl (fun b => sg ?_)
 obtain ⟨y, z, rfl⟩ := g.form
 let B := (C1 a.Op a.K a.jr.ju a.jr.jy y a.Kids.length z)
 refine VE (kv b rfl (fun W4 n b => Wa (lS (Wm (V (xi gi rfl rfl) (Wm (Vg rfl rfl (jx rfl (jD b.has Mh B rfl aO aC)) (bS hm fun p K hm => Lw rfl rfl (Eg b call61 (wh a (.slice y a.Kids.length z) _ _ (g.mono jC.mono b.jF) K) (fun W7 b => Vg rfl rfl (nt rfl) (V (jP rfl rfl) ?_)))))))))))
 refine ln (CI hm rfl (fun J hm => ?_) (fun J hm => ?_))
 ·refine sg (Wa (ln ?_))
  replace b := b.jv (Db St)
  refine ke (ki ?_)
  obtain rfl := sj hm
  exact lj (v := (.bool false)) rfl rfl ⟨_, _, rfl, (b.lU (Kb (Kr Sn))), i, c, rfl, rfl, t⟩
 refine kg (Wm (VA b Mh B aO aC (bS hm fun q D hm => ?_)))
 refine VE (eM b (Cb (Pb Pz) (Cr (Qb Qz) Cn)) call196 (fun m h => ((BF kd) k i u c a (.slice y a.Kids.length z) _ _ m t (g.mono jC.mono h) D)) ?_)
 rintro _ a2 a3 Z b T l d ⟨N, H, x, rfl, G⟩
 obtain rfl := x.symm
 replace b := b.perm (Tb (Tr Tn))
 refine ln ?_
 replace b := b.jv (Kb (Kr (Db St)))
 refine sg (Wa (lt ?_))
 obtain rfl := sj hm
 exact lj (v := (.bool true)) rfl rfl ⟨_, _, rfl, (b.lU (Kb (Kr Sn))), N, H, rfl, rfl, G⟩
theorem IB (g : Value) (i r : List Int) (w : World) (a : Sl (Pl (lm .u8)) 1 (hp w) g i) (hm : uu i = some r) :
  lC true pg0 143 [g] w 5 (lm .u8) 1 r := by
 unfold uu at hm
 refine wm 8 func143 rfl (fun b => sg (Wa (lS (Wm ?_))))
 obtain ⟨y, B, rfl⟩ := a.form
 refine V (Bm cT rfl rfl) (ln ?_)
 rcases y with _ | z
 ·have u := a.isNil
  replace hm : some [] = some r := by rw [u] at hm; simpa [mn, maxLen] using hm
  refine wT (rfl) (sg (Wa (lt (ki ?_))))
  obtain rfl := sj hm
  exact lj (v := (.slice none 0 0)) rfl rfl ⟨_, [], rfl, b.oa (fun p d => by cases d) (by simp), jV.nil _ _ _⟩
 ·refine tw (rfl) (kg (VE (jY (cs := #[]) b pu (xm [] cT sizeOf5 jb dc rfl (by simp) rfl rfl) (fun G k b => Wm (bS hm fun H t hm => VE (mR (enc := (lm .u8)) (v := (.slice (some ⟨k, 0, none⟩) 0 0)) (vs := (.slice (some z) i.length B)) (R := [(k, Ob #[] 5)]) b (fun _ => rfl) dc (wQ _) cT sL.1 sL.2.1 rfl sL.2.2.1 sL.2.2.2 rfl rfl (jV.lit (l := []) (enc := (lm .u8)) rfl dc rfl rfl) (a.mono (Pl.mono _) b.jF) t (fun D x j b c => Wa (lt ?_))))))))
  obtain rfl := sj hm
  exact lj (v := x) rfl rfl ⟨_, j, rfl, b.oa (fun p d => (Ml d)) c.nd, c⟩
theorem AR (g : Nat) (a : Value) (c r : List Int) (w : World) (j : Sl (Pl (lm .u8)) 1 (hp w) a c) (k : At (hp w) (.pointer (some ⟨g, 0, none⟩)) [a]) (hm : tU c = some r) :
  lC true pg0 116 [(.pointer (some ⟨g, 0, none⟩))] w 5 (lm .u8) 1 r := by
 refine wm 10 func116 rfl (fun b => sg (Wa (lS (Wm (V (xi gi rfl rfl) (ln (tw rfl (kQ ?_))))))))
 refine jH (sg (Wm (Wn (VQ (qz [a] zj rfl k rfl) (fun G u => V (jx rfl (ni b.has (y := a) u isAgg59)) (bS hm fun H x hm => VE (rH b call143 (IB a c _ _ (j.mono (Pl.mono _) b.jF) x) (fun D z I t b B d i => Wa (lt ?_)))))))))
 obtain rfl := sj hm
 exact lj (v := z) rfl rfl ⟨_, t, rfl, b.oa (fun p h => (Ml h)) i.nd, i⟩
theorem Am (a : Formula) (g : Value) (r : List Int) (w : World) (c : Sl jt 5 (hp w) g a.Kids) (hm : te a = some r) :
  lC false pg0 178 [(.agg #[(.int .i64 a.Op), (.int .i64 a.K), (.string a.jr.ju), (.string a.jr.jy), g])] w 5 (lm .u8) 1 r := by
 refine wm 11 func178 rfl (fun d => sg ?_)
 obtain ⟨k, t, rfl⟩ := c.form
 refine VE (kv d rfl (fun W4 u d => Wa (lr (V (lf (v := (.agg #[(.slice none 0 0)])) pu (kH zeroValue168 gh (PI _ gh) kr)) (VE (kv d rfl (fun W6 B d => Wa (lr (Wm (VA d (Mt Mh) (C1 a.Op a.K a.jr.ju a.jr.jy k a.Kids.length t) aO aC ?_))))))))))
 refine bS hm fun K D hm => ?_
 refine VE (eM d (Cb Pz (C0 Cn)) call190 (fun s m => (GF B (.slice none 0 0) ([]) [] a (.slice k a.Kids.length t) _ _ s (jV.nil _ _ _) (c.mono jC.mono m) D)) ?_)
 rintro _ U Y M d I n h ⟨H, N, i, rfl, y⟩
 obtain rfl := i.symm
 replace d := d.perm (Tb (Tr Tn))
 refine ln ?_
 replace d := d.jv (Kb (Kr (Db St)))
 refine sg (Wm (bS hm fun T x hm => VE (rH d call116 (lC.lG (AR B H K.2 _ _ (y.sl (fun _ => rfl) (fun b o l => d.at_ (Mt (Ml l)))) (At.of (d.at_ Mh) _ rfl) x)) (fun Q G Z z d J q j => Wa (ln ?_)))))
 replace d := d.jv (Kr (Db (Dr St)))
 refine ke ?_
 obtain rfl := sj hm
 exact lj (v := G) rfl rfl ⟨_, z, rfl, d.oa (fun p l => (Ml l)) j.nd, j⟩
theorem QN (w : World) {d g : Value} {a b : List Int} (h1 : Sl (Pl (lm .u8)) 1 (hp w) d a) (h : Sl (Pl (lm .u8)) 1 (hp w) g b) : (callFunc 112 [d, g].toArray).run pg0 w = .ok (.value (.int .i64 (yj a b))) w := OT func112 (by kernel_rfl) (by kernel_rfl) (by kernel_rfl) (by kernel_rfl) h1 h
theorem Bv (a : Value) (g : List Int) (c : Value) (i : List Int) (r : Int) (w : World) (j : Sl (Pl (lm .u8)) 1 (hp w) a g) (k : Sl (Pl (lm .u8)) 1 (hp w) c i) (hm : wy g i = some r) :
  jZ true pg0 79 [a, c] w (.int .i64 r) := by
 exact cG 8 func79 rfl (fun b => sg (Wa (lr (Wm (Wm (VE (Mm (args := [a, c]) (v := .int .i64 (yj g i)) rfl (by exact uW rfl rfl) (QN _ (j.mono (Pl.mono _) b.jF) (k.mono (Pl.mono _) b.jF)) (Wa (lt (rQ hm b))))))))))
theorem Ff (a : Formula) (j : Value) (c : Formula) (k : Value) (r : Int) (w : World) (g : Sl jt 5 (hp w) j a.Kids) (i : Sl jt 5 (hp w) k c.Kids) (hm : ta a c = some r) :
  jZ false pg0 173 [(.agg #[(.int .i64 a.Op), (.int .i64 a.K), (.string a.jr.ju), (.string a.jr.jy), j]), (.agg #[(.int .i64 c.Op), (.int .i64 c.K), (.string c.jr.ju), (.string c.jr.jy), k])] w (.int .i64 r) := by
 refine cG 10 func173 rfl (fun d => sg ?_)
 obtain ⟨x, z, rfl⟩ := g.form
 refine VE (kv d rfl (fun W4 q d => ?_))
 obtain ⟨y, B, rfl⟩ := i.form
 refine VE (kv d rfl (fun W8 s d => Wa (ln (jL ?_))))
 replace d := d.drew
 have h := d.has.jv (Kb (Kb Sn))
 refine kO h kp (XH 0 rfl h (fun _ l => jx rfl (jD l (Mt Mh) (C1 a.Op a.K a.jr.ju a.jr.jy x a.Kids.length z) rfl aO aC)) (XH 2 rfl h (fun _ l => jx rfl (jD l Mh (C1 c.Op c.K c.jr.ju c.jr.jy y c.Kids.length B) rfl aO aC)) (bS hm fun K H hm => XE 1 rfl (rH d call178 (Am a (.slice x a.Kids.length z) _ _ (g.mono jC.mono d.jF) H) (fun Y N a4 T d t n D => ?_)))))
 have h := d.has.qX t (Dr (Kb (Kb Sn)))
 refine ⟨h, (bS hm fun M I hm => XE 3 rfl (rH d call178 (Am c (.slice y c.Kids.length B) _ _ (i.mono jC.mono (t.trans d.jF)) I) (fun Z Q a5 U d u p G => ?_)))⟩
 have h := d.has.qX (t.trans u) (Dr (Dr (Kb (Kb Sn))))
 refine ⟨h, (bS hm fun a3 J hm => XE 4 rfl (Eg d call79 (jZ.lG (Bv N K Q M _ _ (D.sl (fun _ => rfl) (fun b o m => d.at_ (Ma (Ml m)))) (G.sl (fun _ => rfl) (fun b o m => d.at_ (Ml m))) J)) (fun a2 d => ?_)))⟩
 have h := d.has.qX (t.trans u) (Dr (Dr (Kb (Kb Sn))))
 refine ⟨h, (X 5 rfl h (mw rfl) (kP kr (jH ?_)))⟩
 exact ke (rQ hm d)
theorem Cl (g : Value) (k r : List Formula) (w : World) {G : jW} (Y : ny G [] w) (u : Sl jt 5 G g k) (hm : vo k = some r) :
  lO false pg0 163 [g] w G [] (fun v U μ1 => ∃ T I, v = T ∧ U = (I ++ []) ∧ kB 30 jt 5 μ1 T r I) := by
 refine uB Y 9 func163 rfl (fun b => sg (Wa (lr (Wm (bS hm fun Z Q hm => ?_)))))
 refine VE (eD b (bT _) call171 (fun h => lO.lG (BQ g k _ _ h (u.mono jC.mono (jX.refl _)) Q)) ?_ (L0 := []))
 rintro _ v7 s L9 b y l ⟨i, H, a, rfl, B⟩
 obtain rfl := a.symm
 replace b := b.perm (Tr Tn)
 refine Wa (lr (Wm (bS hm fun a5 z hm => ?_)))
 refine VE (eD b (Cr Qz Cn) call172 (fun h => (yx i Z H (.func (.func 173) #[] #[]) (fun (x : (Formula × Formula)) => ta x.1 x.2) _ _ h B ⟨173, #[], #[], rfl, call173, fun W x vs r L m hm => by obtain ⟨_, _, rfl, M, N⟩ := m; obtain ⟨q, rfl, p⟩ := M.out; obtain ⟨t0, rfl, n⟩ := N.out; exact Ff x.1 q x.2 t0 r W p n hm⟩ z)) ?_)
 rintro _ t E a3 b j d ⟨J, c, rfl, D⟩
 obtain rfl := c.symm
 replace b := b.perm (Tr Tn)
 refine lr (Wm (Wa (lt ?_)))
 obtain rfl := sj hm
 exact lj (v := i) rfl rfl ⟨_, _, _, rfl, (b.lU (Kr Sn)), (y.trans j), (l.trans d), (ST.kI b (mz.mem (Kr Sn))), i, J, rfl, rfl, D⟩
end Go.Proofs.YtjjjihkifgdhgaaGreat
