/- a part of a proof of ChangeMoves -/
import Derived.Test.YtjjjihkifgdhgaaGreatDoorDM6Mm
import Derived.Test.YtjjjihkifgdhgaaGreatDoorProg
set_option linter.all false
namespace Go.Proofs.YtjjjihkifgdhgaaGreatDoor
open Go.IntKind renaming wrap → wi0
open Go.Proofs.Tryz renaming prog → pg0
open Go.RowKit
set_option maxRecDepth 10000
open Tryz
def aB := @sizeOf30
def aD := @underlying28
def aI := @isAgg30
def aJ := @sizeOf52
def aN := @sizeOf27
def aO := @zeroValue30
def aP := @underlying45
def bn := @isAgg27
def bD := @underlying30
def bM := @isAgg9
def bR := @isAgg52
def bW := @underlying9
def bY := @isAgg3
def cL := @sizeOf25
def cO := @zeroValue52
def cP := @underlying226
def cQ := @underlying53
def dr := @underlying23
def dt := @isAgg25
def dw := @underlying152
def dx := @sizeOf34
def dA := @underlying27
def dC := @sizeOf285
def dD := @sizeOf57
def dJ := @isAgg28
def dP := @underlying22
def dQ := @sizeOf132
def dR := @isAgg34
def dT := @underlying52
def dV := @eqGuardType27
def ee := @zeroValue27
def ej := @sizeOf9
def ek := @underlying34
def eo := @underlying65
def er := @underlying3
def ey := @eqGuardType52
def eF := @zeroValue285
def eG := @underlying285
def eH := @underlying246
def eJ := @underlying242
def eU := @zeroValue57
def eV := @underlying271
def fk := @underlying25
def fl := @zeroValue247
def fw := @underlying247
def fF := @underlying5
def fJ := @sizeOf3
def fK := @underlying57
def fL := @zeroValue116
def fR := @underlying116
def fS := @underlying193
def fT := @underlying215
def fU := @underlying213
def fZ := @isAgg57
def gr := @isAgg285
def gu := @zeroValue132
def gI := @underlying122
def gM := @isAgg242
def gW := @underlying55
def gY := @underlying91
def gZ := @underlying32
def ib := @sizeOf116
def iy := @sizeOf53
def iK := @isAgg53
def iO := @underlying175
def iP := @underlying224
def iQ := @underlying114
def iW := @sizeOf55
def iX := @isAgg132
def jb := @zeroValue5
def jc := @isAgg22
def jd := @zeroValue4
def je := @underlying66
def jm := @zeroValue45
def jo := @underlying4
def jq := @zeroValue55
def jt := @call206
abbrev K0 : ju := ⟨zS, zS⟩
abbrev K1 : ByteArray := ⟨#[103, 111, 118]⟩
abbrev K2 : ByteArray := ⟨#[105, 100]⟩
abbrev K3 : ByteArray := ⟨#[97, 110, 110]⟩
abbrev K4 : ByteArray := ⟨#[115, 104, 111, 112]⟩
abbrev K5 : sr := ⟨0, 0⟩
abbrev K6 : ByteArray := ⟨#[112, 108, 97, 110]⟩
abbrev K7 : ByteArray := ⟨#[114, 111, 111, 109, 115]⟩
abbrev K9 : ByteArray := ⟨#[116, 105, 109, 101, 111, 117, 116]⟩
abbrev Qt : ByteArray := ⟨#[116, 114, 105, 101, 115]⟩
abbrev Qw : ByteArray := ⟨#[98, 117, 100, 103, 101, 116]⟩
abbrev US : ByteArray := ⟨#[43]⟩
abbrev Ur : kJ := ⟨0⟩
abbrev BS : ju := ⟨K1, K2⟩
abbrev Ud : kD := ⟨K4, [], []⟩
abbrev RZ : kD := ⟨K3, [], []⟩
abbrev UQ : Formula := ⟨2, 0, K0, []⟩
abbrev SF : jv := ⟨0, K0, zS, K0, K0, zS⟩
abbrev ME : jv := ⟨1, BS, K3, K0, K0, zS⟩
abbrev Ua : Formula := ⟨1, 0, BS, []⟩
abbrev Ms : mQ := ⟨Ud, RZ, Ua, 0, K5, 0, 0, 0, []⟩
abbrev C1 (a b : Int) (d g : ByteArray) (h : Option Addr) (i j : Nat) : List Value := [(.int .i64 a), (.int .i64 b), (.string d), (.string g), (.slice h i j)]
abbrev C2 (E : ByteArray) (G : Option Addr) (I J : Nat) (L : Option Addr) (M O : Nat) (P : ByteArray) (Q : Option Addr) (R a : Nat) (b : Option Addr) (d g : Nat) (h i : Int) (j k : ByteArray) (l : Option Addr) (m n : Nat) (p t u v w x : Int) (y : Option Addr) (z A : Nat) : List Value := [(.string E), (.slice G I J), (.slice L M O), (.string P), (.slice Q R a), (.slice b d g), (.int .i64 h), (.int .i64 i), (.string j), (.string k), (.slice l m n), (.int .i64 p), (.int .i64 t), (.int .i64 u), (.int .i64 v), (.int .i64 w), (.int .i64 x), (.slice y z A)]
abbrev C3 (m : Int) (n p t u v w x y : ByteArray) (z : Option Addr) (a b : Nat) (d g : Int) (h i : ByteArray) (j : Option Addr) (k l : Nat) : List Value := [(.int .i64 m), (.string n), (.string p), (.string t), (.string u), (.string v), (.string w), (.string x), (.string y), (.slice z a b), (.int .i64 d), (.int .i64 g), (.string h), (.string i), (.slice j k l)]
abbrev C4 : List Value := [(.string K4), (.slice none 0 0), (.slice none 0 0), (.string K3), (.slice none 0 0), (.slice none 0 0), (.int .i64 1), (.int .i64 0), (.string (BS.jw)), (.string (BS.Word)), (.slice none 0 0), (.int .i64 0), (.int .i64 0), (.int .i64 0), (.int .i64 0), (.int .i64 0), (.int .i64 0), (.slice none 0 0)]
abbrev C5 (a : ByteArray) (b : Option Addr) (d g : Nat) (h : Option Addr) (i j : Nat) : List Value := [(.string a), (.slice b d g), (.slice h i j)]
abbrev C6 : List Value := [(.int .i64 0), (.int .i64 0), (.string zS), (.string zS), (.slice none 0 0)]
abbrev C7 (a : Option Addr) (b d : Nat) : List Value := [(.int .i64 1), (.string (BS.jw)), (.string (BS.Word)), (.string K3), (.string (K0.jw)), (.string (K0.Word)), (.string (K0.jw)), (.string (K0.Word)), (.string zS), (.slice a b d), (.int .i64 2), (.int .i64 0), (.string zS), (.string zS), (.slice none 0 0)]
abbrev C8 (a : Nat) : List Value := [(.string K4), (.slice none 0 0), (.slice none 0 0), (.string K3), (.slice (some ⟨a, 0, none⟩) 1 1), (.slice none 0 0), (.int .i64 1), (.int .i64 0), (.string (BS.jw)), (.string (BS.Word)), (.slice none 0 0), (.int .i64 0), (.int .i64 0), (.int .i64 0), (.int .i64 0), (.int .i64 0), (.int .i64 0), (.slice none 0 0)]
abbrev C9 (d g : ByteArray) (h i : Int) (j k : ByteArray) (l : Option Addr) (m n : Nat) (p : Option Addr) (a b : Nat) : List Value := [(.string d), (.string g), (.int .i64 h), (.int .i64 i), (.string j), (.string k), (.slice l m n), (.slice p a b)]
abbrev O0 (d : Int) (g h i j k l m n : ByteArray) (p : Option Addr) (a b : Nat) : List Value := [(.int .i64 d), (.string g), (.string h), (.string i), (.string j), (.string k), (.string l), (.string m), (.string n), (.slice p a b)]
abbrev OC : List Value := [(.int .i64 0), (.string (K0.jw)), (.string (K0.Word)), (.string zS), (.string (K0.jw)), (.string (K0.Word)), (.string (K0.jw)), (.string (K0.Word)), (.string zS), (.slice none 0 0), (.int .i64 0), (.int .i64 0), (.string zS), (.string zS), (.slice none 0 0)]
abbrev HK (a : Int) : List Value := [(.int .i64 a), (.int .i64 0), (.string zS), (.string zS), (.slice none 0 0)]
abbrev EK : List Value := [(.int .i64 2), (.int .i64 0), (.string zS), (.string zS), (.slice none 0 0)]
abbrev Uf (a : Int) (b : Option Addr) (d g : Nat) : List Value := [(.int .i64 a), (.int .i64 0), (.string zS), (.string zS), (.slice b d g)]
abbrev Ug (a : Int) (b : Option Addr) (d g : Nat) : List Value := [(.int .i64 4), (.int .i64 a), (.string zS), (.string zS), (.slice b d g)]
abbrev Gw : List Value := [(.int .i64 3), (.int .i64 0), (.string zS), (.string zS), (.slice none 0 0)]
theorem kl : Tryz.prog.follows .mixedOrders = true := by rfl
theorem sD : Tryz.prog.info? 5 = some Tryz.t5 ∧ Tryz.t5.zero = some (.int .u8 0) ∧ Tryz.t5.size = 1 ∧ Tryz.t5.bytes = 1 := ⟨by kernel_rfl, by kernel_rfl, by kernel_rfl, by kernel_rfl⟩
theorem AW : Tryz.prog.info? 9 = some Tryz.t9 ∧ Tryz.t9.zero = some (.string ⟨#[]⟩) ∧ Tryz.t9.size = 1 ∧ Tryz.t9.bytes = 16 := ⟨by kernel_rfl, by kernel_rfl, by kernel_rfl, by kernel_rfl⟩
theorem vW : Tryz.prog.info? 27 = some Tryz.t27 ∧ Tryz.t27.zero = some (.agg #[(.string ⟨#[]⟩), (.string ⟨#[]⟩)]) ∧ Tryz.t27.size = 2 ∧ Tryz.t27.bytes = 32 := ⟨by kernel_rfl, by kernel_rfl, by kernel_rfl, by kernel_rfl⟩
theorem lM : Tryz.prog.info? 30 = some Tryz.t30 ∧ Tryz.t30.zero = some (.agg #[(.int .i64 0), (.int .i64 0), (.string ⟨#[]⟩), (.string ⟨#[]⟩), (.slice none 0 0)]) ∧ Tryz.t30.size = 5 ∧ Tryz.t30.bytes = 72 := ⟨by kernel_rfl, by kernel_rfl, by kernel_rfl, by kernel_rfl⟩
theorem nO : Tryz.prog.info? 52 = some Tryz.t52 ∧ Tryz.t52.zero = some (.agg #[(.int .i64 0), (.string ⟨#[]⟩), (.string ⟨#[]⟩), (.string ⟨#[]⟩), (.string ⟨#[]⟩), (.string ⟨#[]⟩), (.string ⟨#[]⟩), (.string ⟨#[]⟩), (.string ⟨#[]⟩)]) ∧ Tryz.t52.size = 9 ∧ Tryz.t52.bytes = 136 := ⟨by kernel_rfl, by kernel_rfl, by kernel_rfl, by kernel_rfl⟩
theorem FR : Tryz.prog.info? 132 = some Tryz.t132 ∧ Tryz.t132.zero = some (.agg #[(.string ⟨#[]⟩), (.string ⟨#[]⟩), (.int .i64 0), (.int .i64 0), (.string ⟨#[]⟩), (.string ⟨#[]⟩), (.slice none 0 0), (.slice none 0 0)]) ∧ Tryz.t132.size = 8 ∧ Tryz.t132.bytes = 128 := ⟨by kernel_rfl, by kernel_rfl, by kernel_rfl, by kernel_rfl⟩
theorem FY : Tryz.prog.info? 193 = some Tryz.t193 ∧ Tryz.t193.zero = some (.agg #[(.int .i64 0), (.string ⟨#[]⟩), (.string ⟨#[]⟩), (.string ⟨#[]⟩), (.string ⟨#[]⟩), (.string ⟨#[]⟩), (.string ⟨#[]⟩), (.string ⟨#[]⟩), (.string ⟨#[]⟩), (.string ⟨#[]⟩), (.string ⟨#[]⟩)]) ∧ Tryz.t193.size = 11 ∧ Tryz.t193.bytes = 168 := ⟨by kernel_rfl, by kernel_rfl, by kernel_rfl, by kernel_rfl⟩
theorem uk : Tryz.prog.info? 285 = some Tryz.t285 ∧ Tryz.t285.zero = some (.agg #[(.string ⟨#[]⟩), (.string ⟨#[]⟩), (.string ⟨#[]⟩)]) ∧ Tryz.t285.size = 3 ∧ Tryz.t285.bytes = 48 := ⟨by kernel_rfl, by kernel_rfl, by kernel_rfl, by kernel_rfl⟩
theorem oM : li pg0 27 0 0 := kF dA rfl ej (by decide) rfl
theorem tG : li pg0 27 1 1 := kF dA rfl ej (by decide) rfl
theorem PO : (Tryz.prog.fieldsOf 27).toList = (match Tryz.prog.underlying 27 with | some (.struct fs) => fs.toList | _ => []) := by rw [dA]; simp [Program.fieldsOf, dA]
theorem pz (d : Nat) (x y : ju) (W : World) : (Op.equalIn (d + 2) 27 (.agg (jE x).toArray) (.agg (jE y).toArray)).run pg0 W = .ok (jY x y) W := by
 rw [run_equalIn_struct W (d + 1) 27 _ _ (by kernel_rfl) Tryz.stoodInHeld27, PO, dA]
 exact (rh (by decide) (pD bM rfl) (pD bM rfl) (Mg bW _ _ _ _) (rh (by decide) (pD bM rfl) (pD bM rfl) (Mg bW _ _ _ _) (EY _ _ _)))
theorem Kc : ∀ fs, Tryz.prog.underlying 27 = some (.struct fs) → ∀ w, (fs.mapM (fun (f : Field) => do pure (f.offset, ← sizeOf f.type)) : Sem (Array (Nat × Nat))).run pg0 w = .ok #[(0, 1), (1, 1)] w := by
 intro fs h w
 rw [dA] at h
 cases h
 kernel_rfl
theorem pR : li pg0 52 0 0 := kF dT rfl fJ (by decide) rfl
theorem qp : li pg0 52 1 1 := kF dT rfl aN (by decide) rfl
theorem vT : li pg0 52 2 3 := kF dT rfl ej (by decide) rfl
theorem nD : li pg0 52 3 4 := kF dT rfl aN (by decide) rfl
theorem rV : li pg0 52 4 6 := kF dT rfl aN (by decide) rfl
theorem uD : li pg0 52 5 8 := kF dT rfl ej (by decide) rfl
theorem Qh : (Tryz.prog.fieldsOf 52).toList = (match Tryz.prog.underlying 52 with | some (.struct fs) => fs.toList | _ => []) := by rw [dT]; simp [Program.fieldsOf, dT]
theorem uT (d : Nat) (x y : jv) (W : World) : (Op.equalIn (d + 3) 52 (.agg (jz x).toArray) (.agg (jz y).toArray)).run pg0 W = .ok (lI x y) W := by
 rw [run_equalIn_struct W (d + 2) 52 _ _ (by kernel_rfl) Tryz.stoodInHeld52, Qh, dT]
 exact (rh (by decide) (pD bY rfl) (pD bY rfl) (U2 er _ _ _ _) (rh (by decide) (zI bn aN rfl) (zI bn aN rfl) (pz _ x.Head y.Head W) (rh (by decide) (pD bM rfl) (pD bM rfl) (Mg bW _ _ _ _) (rh (by decide) (zI bn aN rfl) (zI bn aN rfl) (pz _ x.B y.B W) (rh (by decide) (zI bn aN rfl) (zI bn aN rfl) (pz _ x.C y.C W) (rh (by decide) (pD bM rfl) (pD bM rfl) (Mg bW _ _ _ _) (EY _ _ _)))))))
theorem Ts : ∀ fs, Tryz.prog.underlying 52 = some (.struct fs) → ∀ w, (fs.mapM (fun (f : Field) => do pure (f.offset, ← sizeOf f.type)) : Sem (Array (Nat × Nat))).run pg0 w = .ok #[(0, 1), (1, 2), (3, 1), (4, 2), (6, 2), (8, 1)] w := by
 intro fs h w
 rw [dT] at h
 cases h
 kernel_rfl
theorem QR : Tryz.prog.cellsOf 9 = 1 := by kernel_rfl
theorem Gb (d : Nat) (x y : lK) (W : World) : (Op.equalIn (d + 2) 116 (.agg (mA x).toArray) (.agg (mA y).toArray)).run pg0 W = .ok (BN x y) W :=
 MY fR AW.1 QR (Fv (pD bM rfl) (pD bM rfl) (Mg bW _ _ _ _) (Fv (pD bM rfl) (pD bM rfl) (Mg bW _ _ _ _) (LB _ _ _ _ _)))
theorem MA : li pg0 193 0 0 := kF fS rfl aJ (by decide) rfl
theorem Q5 : li pg0 193 1 9 := kF fS rfl ej (by decide) rfl
theorem Rq : li pg0 193 2 10 := kF fS rfl ej (by decide) rfl
theorem T5 : ∀ fs, Tryz.prog.underlying 193 = some (.struct fs) → ∀ w, (fs.mapM (fun (f : Field) => do pure (f.offset, ← sizeOf f.type)) : Sem (Array (Nat × Nat))).run pg0 w = .ok #[(0, 9), (9, 1), (10, 1)] w := by
 intro fs h w
 rw [fS] at h
 cases h
 kernel_rfl
theorem LR : li pg0 197 0 0 := kF underlying197 rfl aN (by decide) rfl
theorem Iz : li pg0 175 0 0 := kF iO rfl sizeOf4 (by decide) rfl
theorem TD : ∀ fs, Tryz.prog.underlying 175 = some (.struct fs) → ∀ w, (fs.mapM (fun (f : Field) => do pure (f.offset, ← sizeOf f.type)) : Sem (Array (Nat × Nat))).run pg0 w = .ok #[(0, 1)] w := by
 intro fs h w
 rw [iO] at h
 cases h
 kernel_rfl
theorem xw : li pg0 285 0 0 := kF eG rfl aN (by decide) rfl
theorem wk : li pg0 285 1 2 := kF eG rfl ej (by decide) rfl
theorem MP : ∀ fs, Tryz.prog.underlying 285 = some (.struct fs) → ∀ w, (fs.mapM (fun (f : Field) => do pure (f.offset, ← sizeOf f.type)) : Sem (Array (Nat × Nat))).run pg0 w = .ok #[(0, 2), (2, 1)] w := by
 intro fs h w
 rw [eG] at h
 cases h
 kernel_rfl
theorem LU : li pg0 224 0 0 := kF iP rfl sizeOf109 (by decide) rfl
theorem TH : ∀ fs, Tryz.prog.underlying 224 = some (.struct fs) → ∀ w, (fs.mapM (fun (f : Field) => do pure (f.offset, ← sizeOf f.type)) : Sem (Array (Nat × Nat))).run pg0 w = .ok #[(0, 1)] w := by
 intro fs h w
 rw [iP] at h
 cases h
 kernel_rfl
theorem yO : li pg0 55 0 0 := kF gW rfl aJ (by decide) rfl
theorem Sq : li pg0 55 1 9 := kF gW rfl iy (by decide) rfl
theorem Uy : ∀ fs, Tryz.prog.underlying 55 = some (.struct fs) → ∀ w, (fs.mapM (fun (f : Field) => do pure (f.offset, ← sizeOf f.type)) : Sem (Array (Nat × Nat))).run pg0 w = .ok #[(0, 9), (9, 1)] w := by
 intro fs h w
 rw [gW] at h
 cases h
 kernel_rfl
theorem nq : li pg0 30 0 0 := kF bD rfl fJ (by decide) rfl
theorem rr : li pg0 30 1 1 := kF bD rfl fJ (by decide) rfl
theorem tJ : li pg0 30 2 2 := kF bD rfl aN (by decide) rfl
theorem np : li pg0 30 3 4 := kF bD rfl sizeOf28 (by decide) rfl
theorem tS : ∀ fs, Tryz.prog.underlying 30 = some (.struct fs) → ∀ w, (fs.mapM (fun (f : Field) => do pure (f.offset, ← sizeOf f.type)) : Sem (Array (Nat × Nat))).run pg0 w = .ok #[(0, 1), (1, 1), (2, 2), (4, 1)] w := by
 intro fs h w
 rw [bD] at h
 cases h
 kernel_rfl
theorem zj : li pg0 57 0 0 := kF fK rfl iW (by decide) rfl
theorem KG : li pg0 57 1 10 := kF fK rfl aB (by decide) rfl
theorem Sj : ∀ fs, Tryz.prog.underlying 57 = some (.struct fs) → ∀ w, (fs.mapM (fun (f : Field) => do pure (f.offset, ← sizeOf f.type)) : Sem (Array (Nat × Nat))).run pg0 w = .ok #[(0, 10), (10, 5)] w := by
 intro fs h w
 rw [fK] at h
 cases h
 kernel_rfl
theorem IC : li pg0 132 0 0 := kF underlying132 rfl aN (by decide) rfl
theorem Ir : li pg0 132 1 2 := kF underlying132 rfl aB (by decide) rfl
theorem IJ : li pg0 132 2 7 := kF underlying132 rfl sizeOf45 (by decide) rfl
theorem xU : li pg0 25 0 0 := kF fk rfl ej (by decide) rfl
theorem yR : li pg0 25 1 1 := kF fk rfl sizeOf22 (by decide) rfl
theorem E9 : li pg0 25 2 2 := kF fk rfl sizeOf23 (by decide) rfl
theorem Ta : ∀ fs, Tryz.prog.underlying 25 = some (.struct fs) → ∀ w, (fs.mapM (fun (f : Field) => do pure (f.offset, ← sizeOf f.type)) : Sem (Array (Nat × Nat))).run pg0 w = .ok #[(0, 1), (1, 1), (2, 1)] w := by
 intro fs h w
 rw [fk] at h
 cases h
 kernel_rfl
theorem RK : li pg0 119 0 0 := kF underlying119 rfl ej (by decide) rfl
theorem RB : li pg0 119 1 1 := kF underlying119 rfl iy (by decide) rfl
theorem ze : li pg0 34 0 0 := kF ek rfl cL (by decide) rfl
theorem vO : li pg0 34 1 3 := kF ek rfl cL (by decide) rfl
theorem Dm : li pg0 34 2 6 := kF ek rfl aB (by decide) rfl
theorem R4 : li pg0 34 3 11 := kF ek rfl fJ (by decide) rfl
theorem Og : li pg0 34 4 12 := kF ek rfl sizeOf31 (by decide) rfl
theorem RU : li pg0 34 5 14 := kF ek rfl fJ (by decide) rfl
theorem RP : li pg0 34 6 15 := kF ek rfl fJ (by decide) rfl
theorem Sd : li pg0 34 7 16 := kF ek rfl fJ (by decide) rfl
theorem KM : li pg0 34 8 17 := kF ek rfl sizeOf32 (by decide) rfl
theorem UJ : ∀ fs, Tryz.prog.underlying 34 = some (.struct fs) → ∀ w, (fs.mapM (fun (f : Field) => do pure (f.offset, ← sizeOf f.type)) : Sem (Array (Nat × Nat))).run pg0 w = .ok #[(0, 3), (3, 3), (6, 5), (11, 1), (12, 2), (14, 1), (15, 1), (16, 1), (17, 1)] w := by
 intro fs h w
 rw [ek] at h
 cases h
 kernel_rfl
theorem xt : li pg0 246 0 0 := kF eH rfl sizeOf242 (by decide) rfl
theorem Ip : li pg0 246 1 1 := kF eH rfl sizeOf45 (by decide) rfl
theorem LZ : li pg0 246 2 2 := kF eH rfl sizeOf243 (by decide) rfl
theorem Io : li pg0 246 3 3 := kF eH rfl sizeOf244 (by decide) rfl
theorem Bd : li pg0 246 4 4 := kF eH rfl sizeOf226 (by decide) rfl
theorem FU : li pg0 246 5 5 := kF eH rfl fJ (by decide) rfl
theorem TZ : ∀ fs, Tryz.prog.underlying 246 = some (.struct fs) → ∀ w, (fs.mapM (fun (f : Field) => do pure (f.offset, ← sizeOf f.type)) : Sem (Array (Nat × Nat))).run pg0 w = .ok #[(0, 1), (1, 1), (2, 1), (3, 1), (4, 1), (5, 1)] w := by
 intro fs h w
 rw [eH] at h
 cases h
 kernel_rfl
theorem zG : li pg0 215 0 0 := kF fT rfl iy (by decide) rfl
theorem Qv : ∀ fs, Tryz.prog.underlying 215 = some (.struct fs) → ∀ w, (fs.mapM (fun (f : Field) => do pure (f.offset, ← sizeOf f.type)) : Sem (Array (Nat × Nat))).run pg0 w = .ok #[(0, 1)] w := by
 intro fs h w
 rw [fT] at h
 cases h
 kernel_rfl
def tj : qe Signed := fun μ ys x => ∃ (v0 : Value), ys = [.int .i64 x.jv.Kind, .string x.jv.Head.jw, .string x.jv.Head.Word, .string x.jv.kE, .string x.jv.B.jw, .string x.jv.B.Word, .string x.jv.C.jw, .string x.jv.C.Word, .string x.jv.kL, v0] ∧ Sl (Pl (kN .u8)) 1 μ v0 x.Tag
theorem tj.out {μ : km} {ys : List Value} {x : Signed} (h : tj μ ys x) : ∃ (v0 : Value), ys = [.int .i64 x.jv.Kind, .string x.jv.Head.jw, .string x.jv.Head.Word, .string x.jv.kE, .string x.jv.B.jw, .string x.jv.B.Word, .string x.jv.C.jw, .string x.jv.C.Word, .string x.jv.kL, v0] ∧ Sl (Pl (kN .u8)) 1 μ v0 x.Tag := h
theorem tj.mk {μ : km} {ys : List Value} {x : Signed} (h : ∃ (v0 : Value), ys = [.int .i64 x.jv.Kind, .string x.jv.Head.jw, .string x.jv.Head.Word, .string x.jv.kE, .string x.jv.B.jw, .string x.jv.B.Word, .string x.jv.C.jw, .string x.jv.C.Word, .string x.jv.kL, v0] ∧ Sl (Pl (kN .u8)) 1 μ v0 x.Tag) : tj μ ys x := h
theorem A8 : Deep tj 10 where
 mono := by rintro _ _ _ _ b ⟨v0, rfl, a⟩; exact ⟨v0, rfl, a.mono (Pl.mono _) b⟩
 len := by rintro _ _ _ ⟨v0, rfl, a⟩; rfl
 one := by
  rintro _ _ _ ⟨v0, rfl, a⟩
  intro u hu; simp only [aR, dl, fa] at hu; rcases hu with rfl | rfl | rfl | rfl | rfl | rfl | rfl | rfl | rfl | rfl
  ·rfl
  ·rfl
  ·rfl
  ·rfl
  ·rfl
  ·rfl
  ·rfl
  ·rfl
  ·rfl
  ·exact a.AS
def ya : Nat → qe Formula
 | 0 => fun _ _ _ => False
 | n + 1 => fun μ ys x => ∃ (v0 : Value), ys = [.int .i64 x.Op, .int .i64 x.K, .string x.ju.jw, .string x.ju.Word, v0] ∧ Sl (ya n) 5 μ v0 x.Kids
def jx : qe Formula := fun μ ys x => ∃ n, ya n μ ys x
theorem EH : ∀ n, JK (ya n)
 | 0 => fun _ _ _ _ _ h => h
 | n + 1 => by rintro _ _ _ _ b ⟨v0, rfl, a⟩; exact ⟨v0, rfl, a.mono (EH n) b⟩
theorem HD : ∀ n m (μ : km) (ys : List Value) (x : Formula), n ≤ m → ya n μ ys x → ya m μ ys x
 | 0, _, _, _, _, _, h => h.elim
 | n + 1, 0, _, _, _, a, _ => absurd a (by omega)
 | n + 1, m + 1, μ, ys, x, a, h => by
  obtain ⟨v0, rfl, b⟩ := h
  exact ⟨v0, rfl, b.imp fun ys x h => HD n m μ ys x (by omega) h⟩
theorem jx.out {μ : km} {ys : List Value} {x : Formula} (h : jx μ ys x) : ∃ (v0 : Value), ys = [.int .i64 x.Op, .int .i64 x.K, .string x.ju.jw, .string x.ju.Word, v0] ∧ Sl jx 5 μ v0 x.Kids := by
 obtain ⟨n, h⟩ := h
 cases n with
 | zero => exact h.elim
 | succ n =>
  obtain ⟨v0, rfl, a⟩ := h
  exact ⟨v0, rfl, a.imp fun ys x h => ⟨n, h⟩⟩
theorem jx.mk {μ : km} {ys : List Value} {x : Formula} (h : ∃ (v0 : Value), ys = [.int .i64 x.Op, .int .i64 x.K, .string x.ju.jw, .string x.ju.Word, v0] ∧ Sl jx 5 μ v0 x.Kids) : jx μ ys x := by
 obtain ⟨v0, rfl, d⟩ := h
 obtain ⟨n, i⟩ := d.T4 (fun _ _ h => h) (fun a b ys x g h => HD a b _ ys x g h)
 exact ⟨n + 1, v0, rfl, i⟩
theorem jF : Deep jx 5 where
 mono := fun _ _ _ _ b ⟨n, h⟩ => ⟨n, EH n _ _ _ _ b h⟩
 len := by rintro _ _ _ h; obtain ⟨v0, rfl, a⟩ := h.out; rfl
 one := by
  rintro _ _ _ h
  obtain ⟨v0, rfl, a⟩ := h.out
  intro u hu; simp only [aR, dl, fa] at hu; rcases hu with rfl | rfl | rfl | rfl | rfl
  ·rfl
  ·rfl
  ·rfl
  ·rfl
  ·exact a.AS
def jU : qe ke := fun μ ys x => ∃ (v0 : Value) (v1 : Value), ys = [.int .i64 x.Signed.jv.Kind, .string x.Signed.jv.Head.jw, .string x.Signed.jv.Head.Word, .string x.Signed.jv.kE, .string x.Signed.jv.B.jw, .string x.Signed.jv.B.Word, .string x.Signed.jv.C.jw, .string x.Signed.jv.C.Word, .string x.Signed.jv.kL, v0, .int .i64 x.jC.Op, .int .i64 x.jC.K, .string x.jC.ju.jw, .string x.jC.ju.Word, v1] ∧ Sl (Pl (kN .u8)) 1 μ v0 x.Signed.Tag ∧ Sl jx 5 μ v1 x.jC.Kids
theorem jU.out {μ : km} {ys : List Value} {x : ke} (h : jU μ ys x) : ∃ (v0 : Value) (v1 : Value), ys = [.int .i64 x.Signed.jv.Kind, .string x.Signed.jv.Head.jw, .string x.Signed.jv.Head.Word, .string x.Signed.jv.kE, .string x.Signed.jv.B.jw, .string x.Signed.jv.B.Word, .string x.Signed.jv.C.jw, .string x.Signed.jv.C.Word, .string x.Signed.jv.kL, v0, .int .i64 x.jC.Op, .int .i64 x.jC.K, .string x.jC.ju.jw, .string x.jC.ju.Word, v1] ∧ Sl (Pl (kN .u8)) 1 μ v0 x.Signed.Tag ∧ Sl jx 5 μ v1 x.jC.Kids := h
theorem jU.mk {μ : km} {ys : List Value} {x : ke} (h : ∃ (v0 : Value) (v1 : Value), ys = [.int .i64 x.Signed.jv.Kind, .string x.Signed.jv.Head.jw, .string x.Signed.jv.Head.Word, .string x.Signed.jv.kE, .string x.Signed.jv.B.jw, .string x.Signed.jv.B.Word, .string x.Signed.jv.C.jw, .string x.Signed.jv.C.Word, .string x.Signed.jv.kL, v0, .int .i64 x.jC.Op, .int .i64 x.jC.K, .string x.jC.ju.jw, .string x.jC.ju.Word, v1] ∧ Sl (Pl (kN .u8)) 1 μ v0 x.Signed.Tag ∧ Sl jx 5 μ v1 x.jC.Kids) : jU μ ys x := h
theorem jX : Deep jU 15 where
 mono := by rintro _ _ _ _ b ⟨v0, v1, rfl, a, h1⟩; exact ⟨v0, v1, rfl, a.mono (Pl.mono _) b, h1.mono jF.mono b⟩
 len := by rintro _ _ _ ⟨v0, v1, rfl, a, h1⟩; rfl
 one := by
  rintro _ _ _ ⟨v0, v1, rfl, a, h1⟩
  intro u hu; simp only [aR, dl, fa] at hu; rcases hu with rfl | rfl | rfl | rfl | rfl | rfl | rfl | rfl | rfl | rfl | rfl | rfl | rfl | rfl | rfl
  ·rfl
  ·rfl
  ·rfl
  ·rfl
  ·rfl
  ·rfl
  ·rfl
  ·rfl
  ·rfl
  ·exact a.AS
  ·rfl
  ·rfl
  ·rfl
  ·rfl
  ·exact h1.AS
def kH : qe mj := fun μ ys x => ∃ (v0 : Value) (v1 : Value), ys = [.string x.ju.jw, .string x.ju.Word, .int .i64 x.jC.Op, .int .i64 x.jC.K, .string x.jC.ju.jw, .string x.jC.ju.Word, v0, v1] ∧ Sl jx 5 μ v0 x.jC.Kids ∧ Sl (Pl jz) 9 μ v1 x.me
theorem kH.out {μ : km} {ys : List Value} {x : mj} (h : kH μ ys x) : ∃ (v0 : Value) (v1 : Value), ys = [.string x.ju.jw, .string x.ju.Word, .int .i64 x.jC.Op, .int .i64 x.jC.K, .string x.jC.ju.jw, .string x.jC.ju.Word, v0, v1] ∧ Sl jx 5 μ v0 x.jC.Kids ∧ Sl (Pl jz) 9 μ v1 x.me := h
theorem kH.mk {μ : km} {ys : List Value} {x : mj} (h : ∃ (v0 : Value) (v1 : Value), ys = [.string x.ju.jw, .string x.ju.Word, .int .i64 x.jC.Op, .int .i64 x.jC.K, .string x.jC.ju.jw, .string x.jC.ju.Word, v0, v1] ∧ Sl jx 5 μ v0 x.jC.Kids ∧ Sl (Pl jz) 9 μ v1 x.me) : kH μ ys x := h
theorem lx : Deep kH 8 where
 mono := by rintro _ _ _ _ b ⟨v0, v1, rfl, a, h1⟩; exact ⟨v0, v1, rfl, a.mono jF.mono b, h1.mono (Pl.mono _) b⟩
 len := by rintro _ _ _ ⟨v0, v1, rfl, a, h1⟩; rfl
 one := by
  rintro _ _ _ ⟨v0, v1, rfl, a, h1⟩
  intro u hu; simp only [aR, dl, fa] at hu; rcases hu with rfl | rfl | rfl | rfl | rfl | rfl | rfl | rfl
  ·rfl
  ·rfl
  ·rfl
  ·rfl
  ·rfl
  ·rfl
  ·exact a.AS
  ·exact h1.AS
def ol : qe Key := fun μ ys x => ∃ (v0 : Value), ys = [.string x.kE, v0] ∧ Sl (Pl (kN .u8)) 1 μ v0 x.Key
theorem ol.out {μ : km} {ys : List Value} {x : Key} (h : ol μ ys x) : ∃ (v0 : Value), ys = [.string x.kE, v0] ∧ Sl (Pl (kN .u8)) 1 μ v0 x.Key := h
theorem ol.mk {μ : km} {ys : List Value} {x : Key} (h : ∃ (v0 : Value), ys = [.string x.kE, v0] ∧ Sl (Pl (kN .u8)) 1 μ v0 x.Key) : ol μ ys x := h
theorem uN : Deep ol 2 where
 mono := by rintro _ _ _ _ b ⟨v0, rfl, a⟩; exact ⟨v0, rfl, a.mono (Pl.mono _) b⟩
 len := by rintro _ _ _ ⟨v0, rfl, a⟩; rfl
 one := by
  rintro _ _ _ ⟨v0, rfl, a⟩
  intro u hu; simp only [aR, dl, fa] at hu; rcases hu with rfl | rfl
  ·rfl
  ·exact a.AS
theorem HO : pu pg0 9 Value.string kV := pu.string bW
theorem AK : pu pg0 27 (fun (x : ju) => (.agg (jE x).toArray)) jY :=
 pu.struct dA (fun d x y W => pz (d + 8) x y W) (fun b k W => HU dA rfl (gL.2 ⟨fun _ => ⟨.string k.jw, pD bM rfl, zb bW _ _ _ _⟩, (gL.2 ⟨fun _ => ⟨.string k.Word, pD bM rfl, zb bW _ _ _ _⟩, (fun _ h => by cases h)⟩)⟩))
  (fun k x h => (kc.1 h).symm) (fun k => by simp [Instr.sameBits, jE, EM, mf])
theorem vN (g : Value) (t : List ke) (j : Value) (z : ke → Option Bool) (r : Int) (w : World) (c : Sl jU 15 (hp w) g t) (B : uc pg0 j (hp w) (uU jU) (fun (r : Bool) => (.bool r)) z) (hm : qb t z = some r) :
  jV false pg0 142 [g, j] w (.int .i64 r) := by
 refine cG 19 func142 rfl (fun b => sg (Wa (lS (Wm (V (kU dP rfl c) (Wm (ln (kC (fun i E W => ∃ k, (E 8 = .int .i64 (i : Nat) ∧ E 7 = .int .i64 (t.length : Nat)) ∧ ST false kx w W (hp w) k ∧ E 0 = g ∧ E 1 = j ∧ nj z (t.drop i) i = some r) t.length c.len ⟨_, ⟨rfl, rfl⟩, (b.jy St), rfl, rfl, hm⟩ dc dc dc (fun _ _ _ h => by obtain ⟨_, l, _⟩ := h; exact l) ?_ ?_))))))))
 ·rintro T E W G ⟨k, ⟨d, m⟩, b, u, x, a⟩
  obtain ⟨y, Z, N, M, Q⟩ := kp G
  rw [N] at a
  refine bg (Wh d (Wa (lr (Wh x (Wh u (Wm (VQ (lU (i := (T : Int)) (x0 := y) jU.out dP dD rfl rfl c (aG _) M) (fun a2 ⟨_, ⟨U, Y, rfl, J, K⟩, H⟩ => V (jA rfl (kf b.has H fZ dD)) (bS a fun a3 I a => ?_)))))))))
  refine VE (vH y b B (kj.refl _) (uU.mk jX (jU.mk ⟨U, Y, rfl, J, K⟩) b.jB) rfl (qW rfl) I (fun n b => ln (CI a rfl (fun D a => ?_) (fun D a => ?_))))
  ·refine sg (Wm (Wa (lt (mi (kw (mi (kw ?_)))))))
   obtain rfl := sj a
   exact rP b
  exact kX (kA (jI ⟨d, _, ⟨rfl, m⟩, (b.jy St), u, x, (by rw [Q]; exact a)⟩))
 rintro E W ⟨k, ⟨d, m⟩, b, u, x, a⟩
 rw [aH] at a
 exact jI (sg (Wa (lt (rQ a b))))
theorem Al (a : ke) (j g : Value) (t : Nat) (k : Value) (x : ke → Option jv) (u : Nat) (H : jv) (r : Bool) (w : World) (i : Sl (Pl (kN .u8)) 1 (hp w) j a.Signed.Tag) (c : Sl jx 5 (hp w) g a.jC.Kids) (K : uc pg0 k (hp w) (uU jU) (fun (r : jv) => (.agg (jz r).toArray)) x) (z : At (hp w) (.pointer (some ⟨t, 0, none⟩)) [k]) (B : At (hp w) (.pointer (some ⟨u, 0, none⟩)) (jz H)) (hm : sk a x H = some r) :
  jV false pg0 143 [(.agg #[(.int .i64 a.Signed.jv.Kind), (.string a.Signed.jv.Head.jw), (.string a.Signed.jv.Head.Word), (.string a.Signed.jv.kE), (.string a.Signed.jv.B.jw), (.string a.Signed.jv.B.Word), (.string a.Signed.jv.C.jw), (.string a.Signed.jv.C.Word), (.string a.Signed.jv.kL), j, (.int .i64 a.jC.Op), (.int .i64 a.jC.K), (.string a.jC.ju.jw), (.string a.jC.ju.Word), g]), (.pointer (some ⟨t, 0, none⟩)), (.pointer (some ⟨u, 0, none⟩))] w (.bool r) := by
 refine cG 10 func143 rfl (fun b => sg ?_)
 obtain ⟨D, I, rfl⟩ := i.form
 obtain ⟨G, J, rfl⟩ := c.form
 refine VE (kd b rfl (fun T U b => Wa (ln (jM ?_))))
 replace b := b.drew
 have d := b.has.jy (Kb Sn)
 refine kI d kl (XH 0 rfl d (fun _ h => jA rfl (pA h (y := k) z isAgg124)) (XH 1 rfl d (fun _ h => jA rfl (jD h Mh (C3 a.Signed.jv.Kind a.Signed.jv.Head.jw a.Signed.jv.Head.Word a.Signed.jv.kE a.Signed.jv.B.jw a.Signed.jv.B.Word a.Signed.jv.C.jw a.Signed.jv.C.Word a.Signed.jv.kL D a.Signed.Tag.length I a.jC.Op a.jC.K a.jC.ju.jw a.jC.ju.Word G a.jC.Kids.length J) rfl fZ dD)) (XH 3 rfl d (fun _ h => jA rfl (kf h B bR aJ)) (bS hm fun N M hm => XE 2 rfl (vH a b K (kj.refl _) (uU.mk jX (jU.mk ⟨(.slice D a.Signed.Tag.length I), (.slice G a.jC.Kids.length J), rfl, i, c⟩) b.jB) rfl (qW rfl) M (fun Q b => ?_))))))
 have d := b.has.jy (Kb Sn)
 refine ⟨d, (X 4 rfl d (uY rfl rfl (nf ey) (rb (uT _ N H))) (X 5 rfl d (mP rfl) (kT kr (jI ?_))))⟩
 exact kh (rQ hm b)
theorem BO (g : Value) (t : List ke) (j : jv) (a : Nat) (i : Value) (c : ke → Option jv) (r : Int) (w : World) (y : Sl jU 15 (hp w) g t) (z : uc pg0 i (hp w) (uU jU) (fun (r : jv) => (.agg (jz r).toArray)) c) (k : At (hp w) (.pointer (some ⟨a, 0, none⟩)) [i]) (hm : wU t j c = some r) :
  jV false pg0 141 [g, (.agg (jz j).toArray), (.pointer (some ⟨a, 0, none⟩))] w (.int .i64 r) := by
 refine cG 9 func141 rfl (fun b => sg (VE (kd b rfl (fun I u b => Wa (lr (Wm (V (pc (by exact uI rfl rfl) rfl) (bS hm fun K D hm => VE (Eg b call142 (vN g t (.func (.func 143) #[] #[(.pointer (some ⟨a, 0, none⟩)), (.pointer (some ⟨u, 0, none⟩))]) (fun (x : ke) => sk x c j) _ _ (y.mono jX.mono b.jB) ⟨143, #[], #[(.pointer (some ⟨a, 0, none⟩)), (.pointer (some ⟨u, 0, none⟩))], rfl, call143, fun W x vs r d h hm => by obtain ⟨_, rfl, B⟩ := h; obtain ⟨G, H, rfl, l, m⟩ := B.out; exact Al x G H a i c u j r W l m (z.mono (b.jB.trans d)) (k.mono (b.jB.trans d)) (At.of (d _ _ (b.at_ Mh)) _ rfl) hm⟩ D) (fun J b => Wa (kk ?_)))))))))))
 refine jI ?_
 exact kh (rQ hm b)
set_option maxHeartbeats 4000000 in
theorem CS (D : Value) (a0 : List ke) (a8 : Value) (O : List ke) (e4 : Value) (f2 : ke → Option jv) (b9 : Value) (f3 : (ke × ke) → Option Bool) (a9 : Value) (f4 : ke → Option ByteArray) (r : List jO) (w : World) (b6 : Sl jU 15 (hp w) D a0) (b7 : Sl jU 15 (hp w) a8 O) (a6 : uc pg0 e4 (hp w) (uU jU) (fun (r : jv) => (.agg (jz r).toArray)) f2) (i1 : uc pg0 b9 (hp w) (ui jU jU) (fun (r : Bool) => (.bool r)) f3) (g0 : uc pg0 a9 (hp w) (uU jU) (fun (r : ByteArray) => (.string r)) f4) (hm : yF a0 O f2 f3 f4 = some r) :
  lV false pg0 69 [D, a8, e4, b9, a9] w 193 ko 11 r := by
 refine vi 89 func69 rfl (fun b => sg ?_)
 obtain ⟨n, A, L, rfl⟩ := a6.form
 refine VE (kd b rfl (fun W5 P b => Wa (lr (Wa (lr (V (pc (by exact qW rfl) rfl) (Wa (ln ?_))))))))
 refine jM (sg (Wm (V (kU dP rfl b6) (Wm (ln (kC (fun i E W => ∃ a4 a3 a2 b5, (E 21 = .int .i64 (i : Nat) ∧ E 20 = .int .i64 (a0.length : Nat)) ∧ ST false kx w W (hp w) ((P, Ob #[(.func n A L)] 124) :: (a2 ++ b5)) ∧ E 0 = D ∧ E 1 = a8 ∧ E 3 = b9 ∧ E 4 = a9 ∧ E 7 = (.pointer (some ⟨P, 0, none⟩)) ∧ E 11 = a4 ∧ E 12 = (.func (.func 141) #[] #[(.pointer (some ⟨P, 0, none⟩))]) ∧ E 19 = D ∧ jZ 193 ko 11 a4 a3 a2 ∧ tN f2 O f4 f3 a0 (a0.drop i) a3 = some r) a0.length b6.len ⟨(.slice none 0 0), ([]), [], _, ⟨rfl, rfl⟩, (b.jy St), rfl, rfl, rfl, rfl, rfl, rfl, rfl, rfl, (jZ.nil _ _ _), hm⟩ dc dc dc (fun _ _ _ h => by obtain ⟨_, _, _, _, m, _⟩ := h; exact m) ?_ ?_))))))
 ·rintro i2 E W e9 ⟨a4, a3, a2, b5, ⟨eI, eN⟩, b, c4, c5, f7, c6, c7, c8, c9, f8, c1, x⟩
  obtain ⟨i3, i0, f0, h3, h4⟩ := kp e9
  rw [f0] at x
  rw [tN] at x
  cases x
 rintro E W ⟨a4, a3, a2, b5, ⟨eI, eN⟩, b, c4, c5, f7, c6, c7, c8, c9, f8, c1, x⟩
 rw [aH] at x
 refine jI (jM (sg (Wh c5 (V (kU dP rfl b7) (Wm (ln (CJ x (fun a7 E W => ∃ Z M c0, ST false kx w W (hp w) (M ++ c0) ∧ E 11 = Z ∧ jZ 193 ko 11 Z a7 M) (fun a7 d6 => ?_) ?_)))))))
 ·let b1 : Value := (.pointer (some ⟨P, 0, none⟩))
  refine kC (fun i E W => ∃ y K u a5, (E 66 = .int .i64 (i : Nat) ∧ E 65 = .int .i64 (O.length : Nat)) ∧ ST false kx w W (hp w) ((P, Ob #[(.func n A L)] 124) :: (u ++ a5)) ∧ E 0 = D ∧ E 4 = a9 ∧ E 7 = b1 ∧ E 11 = y ∧ E 12 = (.func (.func 141) #[] #[b1]) ∧ E 64 = a8 ∧ jZ 193 ko 11 y K u ∧ qO f2 a0 f4 (O.drop i) K = some a7) O.length b7.len ⟨a4, a3, a2, _, ⟨rfl, rfl⟩, (b.jy St), c4, c6, c7, c8, c9, rfl, c1, d6⟩ dc dc dc (fun _ _ _ h => by obtain ⟨_, _, _, _, m, _⟩ := h; exact m) ?_ ?_
  ·rintro f1 E W d4 ⟨y, K, u, a5, ⟨eI, eN⟩, b, N, Q, G, T, U, Y, H, c⟩
   obtain ⟨a, g1, e3, e2, b3⟩ := kp d4
   rw [e3] at c
   refine bg (VQ (lU (i := (f1 : Int)) (x0 := a) jU.out dP dD Y eI b7 (aG _) e2) (fun h6 ⟨_, ⟨h8, h9, rfl, I, J⟩, d7⟩ => V (jA rfl (kf b.has d7 fZ dD)) (VE (ku b eU (fun g2 h2 b => ?_)))))
   obtain ⟨g, k, rfl⟩ := I.form
   let d0 : Value := (.slice g a.Signed.Tag.length k)
   obtain ⟨j, t, rfl⟩ := J.form
   let b8 : Value := (.slice j a.jC.Kids.length t)
   let b0 := (C3 a.Signed.jv.Kind a.Signed.jv.Head.jw a.Signed.jv.Head.Word a.Signed.jv.kE a.Signed.jv.B.jw a.Signed.jv.B.Word a.Signed.jv.C.jw a.Signed.jv.C.Word a.Signed.jv.kL g a.Signed.Tag.length k a.jC.Op a.jC.K a.jC.ju.jw a.jC.ju.Word j a.jC.Kids.length t)
   refine VO (jR (.agg b0.toArray) (b0.toArray) b rfl rfl dD oc nb rfl (fun g3 b => lr (Wh U (Wh N (V (jA G (jP b.has (Mt Mh) rfl isAgg124)) (VA b Mh b0 fZ dD (bS c fun c2 d8 c => VE (vH a b a6 (kj.refl _) (uU.mk jX (jU.mk ⟨d0, b8, rfl, I, J⟩) b.jB) rfl (qW rfl) d8 (fun g4 b => bS c fun h7 d9 c => VE (Ru (args := [D, (.agg (jz c2).toArray)]) (caps := #[b1]) b rfl call141 (by exact uI rfl rfl) (BO D a0 c2 P (.func n A L) f2 _ _ (b6.mono jX.mono b.jB) (a6.mono b.jB) (At.of (b.at_ (Mt Mh)) _ rfl) d9) (fun g7 b => Wi rfl (kk ?_))))))))))))
   refine jI (CI c rfl (fun d2 c => ?_) (fun d2 c => ?_))
   ·replace b := b.drew
    have d := b.has.jy (Kb (Kb Sn))
    refine kI d kl (X 0 rfl d (jH T) (XH 1 rfl d (fun _ hS => jA G (jP hS (Mt Mh) rfl isAgg124)) (XH 2 rfl d (fun _ hS => jA rfl (jD hS Mh b0 rfl fZ dD)) (X 4 rfl d (jH Q) (XH 5 rfl d (fun _ hS => jA rfl (jD hS Mh b0 rfl fZ dD)) (bS c fun z e0 c => XE 3 rfl (vH a b a6 (kj.refl _) (uU.mk jX (jU.mk ⟨d0, b8, rfl, I, J⟩) b.jB) rfl (qW rfl) e0 (fun g8 b => ?_))))))))
    have d := b.has.jy (Kb (Kb Sn))
    refine ⟨d, (bS c fun B e1 c => XE 6 rfl (vH a b g0 (kj.refl _) (uU.mk jX (jU.mk ⟨d0, b8, rfl, I, J⟩) b.jB) rfl (qW rfl) e1 (fun g9 b => ?_)))⟩
    let c3 := (⟨z, B, US⟩ : jO)
    have d := b.has.jy (Kb (Kb Sn))
    refine ⟨d, (X 7 rfl d (lC (v := (.agg (ko (c3)).toArray)) (Dx rfl rfl rfl) (kW zeroValue193 fS (T5 _ fS) kr)) (XE 8 rfl (kq (cs := (ko (c3)).toArray) b (lW rfl) (mr gI sizeOf193 zeroValue193) (fun h0 e6 b => ?_))))⟩
    have d := b.has.jy (Db (Kb (Kb Sn)))
    refine ⟨d, ?_⟩
    replace b := b.perm (Nr (Qb (Qb (Qb Qz))) Nz)
    refine bS c fun f5 d3 c => XE 9 rfl (nW (enc := ko) (v := y) (vs := (.slice (some ⟨e6, 0, none⟩) 1 1)) (R := u) b xb dc Aq gI FY.1 FY.2.1 rfl FY.2.2.1 FY.2.2.2 rfl rfl H (Sl.lit (enc := ko) (l := [c3]) xb rfl nb rfl (b.at_ (Ma Mh))) d3 (fun h1 f6 e5 b d1 => ?_))
    have d := b.has.jy (Dr (Db (Kb (Kb Sn))))
    refine ⟨d, (X 10 rfl d (mP rfl) (kT kr (kA (jI ?_))))⟩
    replace b := b.jy (Kr (Db (Db St)))
    exact ⟨eI, f6, f5, e5, _, ⟨rfl, eN⟩, (b.jy (Sb (Pr Pz) St)), N, Q, G, rfl, U, Y, d1, (by rw [b3]; exact c)⟩
   refine kX (kA (jI ?_))
   replace b := b.jy (Db St)
   exact ⟨eI, y, K, u, _, ⟨rfl, eN⟩, (b.jy St), N, Q, G, T, U, Y, H, (by rw [b3]; exact c)⟩
  rintro E W ⟨y, K, u, a5, ⟨eI, eN⟩, b, N, Q, G, T, U, Y, H, c⟩
  rw [aH] at c
  refine jI ?_
  obtain rfl := sj c
  exact ⟨y, u, _, (b.jy (Db St)), T, H⟩
 rintro h5 E W ⟨Z, M, c0, b, e7, b2⟩ d5
 refine sg (Wh e7 (Wa (lt ?_)))
 obtain rfl := sj d5
 exact lB (v := Z) rfl rfl ⟨_, M, rfl, b.nM (fun p hq => (Ml hq)) b2.nd, b2⟩
theorem F3 (a : ke) (g c : Value) (r : jv) (w : World) (j : Sl (Pl (kN .u8)) 1 (hp w) g a.Signed.Tag) (i : Sl jx 5 (hp w) c a.jC.Kids) (hm : xN a = some r) :
  jV true pg0 70 [(.agg #[(.int .i64 a.Signed.jv.Kind), (.string a.Signed.jv.Head.jw), (.string a.Signed.jv.Head.Word), (.string a.Signed.jv.kE), (.string a.Signed.jv.B.jw), (.string a.Signed.jv.B.Word), (.string a.Signed.jv.C.jw), (.string a.Signed.jv.C.Word), (.string a.Signed.jv.kL), g, (.int .i64 a.jC.Op), (.int .i64 a.jC.K), (.string a.jC.ju.jw), (.string a.jC.ju.Word), c])] w (.agg (jz r).toArray) := by
 refine cG 6 func70 rfl (fun b => sg ?_)
 obtain ⟨k, u, rfl⟩ := j.form
 obtain ⟨t, x, rfl⟩ := i.form
 refine VE (kd b rfl (fun y D b => VE (ku b cO (fun z G b => lr (Wf zj (Wf yO (VA b (Mt Mh) (jz a.Signed.jv) bR aJ (VO (jR (.agg (jz a.Signed.jv).toArray) ((jz a.Signed.jv).toArray) b rfl rfl aJ (nz a.Signed.jv) nb rfl (fun B b => ln ?_))))))))))
 replace b := b.jy (Kb (Db St))
 refine kh ?_
 obtain rfl := sj hm
 exact mL (v := (.agg (jz a.Signed.jv).toArray)) rfl rfl (jD b.has Mh (jz a.Signed.jv) rfl bR aJ) ⟨rfl, b.ex⟩
theorem qE (G : Value) (N : List Formula) (H : Value) (l : List Formula) (I : Value) (f2 : (Formula × Formula) → Option Bool) (r : Bool) (w : World) (x : Sl jx 5 (hp w) G N) (Q : Sl jx 5 (hp w) H l) (p : uc pg0 I (hp w) (ui jx jx) (fun (r : Bool) => (.bool r)) f2) (hm : mI N l f2 = some r) :
  jV false pg0 136 [G, H, I] w (.bool r) := by
 refine cG 32 func136 rfl (fun b => sg (Wa (lS (Wm (V (kU aD rfl x) (Wm (V (kU aD rfl Q) (Wi rfl (kk ?_)))))))))
 refine jI (CI hm rfl (fun A hm => ?_) (fun A hm => ?_))
 ·refine sg (Wa (lt (kw ?_)))
  obtain rfl := sj hm
  exact rP b
 refine kS (Wm (V (kU aD rfl x) (Wm (ln (kC (fun i E W => ∃ y, (E 17 = .int .i64 (i : Nat) ∧ E 16 = .int .i64 (N.length : Nat)) ∧ ST false kx w W (hp w) y ∧ E 1 = H ∧ E 2 = I ∧ E 15 = G ∧ lg l f2 (N.drop i) i = some r) N.length x.len ⟨_, ⟨rfl, rfl⟩, (b.jy St), rfl, rfl, rfl, hm⟩ dc dc dc (fun _ _ _ h => by obtain ⟨_, m, _⟩ := h; exact m) ?_ ?_)))))
 ·rintro a4 E W U ⟨y, ⟨d, n⟩, b, z, B, D, a⟩
  obtain ⟨g, c5, a9, v, a3⟩ := kp U
  rw [a9] at a
  refine bg (Wh d (VQ (lU (i := (a4 : Int)) (x0 := g) jx.out aD aB D d x (aG _) v) (fun b9 ⟨_, ⟨c2, rfl, J⟩, Y⟩ => V (jA rfl (kf b.has Y aI aB)) (VE (ku b aO (fun L b6 b => Wa ?_))))))
  obtain ⟨j, t, rfl⟩ := J.form
  let a0 := (C1 g.Op g.K g.ju.jw g.ju.Word j g.Kids.length t)
  refine VO (jR (.agg a0.toArray) (a0.toArray) b rfl rfl aB oc nb rfl (fun O b => lr (Wh z (Wm (bS a fun c M a => VQ (lU (i := (a4 : Int)) (x0 := c) jx.out aD aB rfl rfl Q (ky M) (kv M)) (fun c0 ⟨_, ⟨c3, rfl, K⟩, Z⟩ => V (jA rfl (kf b.has Z aI aB)) (VE (ku b aO (fun P b7 b => ?_)))))))))
  obtain ⟨k, u, rfl⟩ := K.form
  let a5 := (C1 c.Op c.K c.ju.jw c.ju.Word k c.Kids.length u)
  refine VO (jR (.agg a5.toArray) (a5.toArray) b rfl rfl aB oc nb rfl (fun R b => lr (Wh B (VA b (Mt Mh) a0 aI aB (VA b Mh a5 aI aB (bS a fun c1 a2 a => VE (vH (g, c) b p (kj.refl _) (ui.mk jF jF (jx.mk ⟨(.slice j g.Kids.length t), rfl, J⟩) (jx.mk ⟨(.slice k c.Kids.length u), rfl, K⟩) b.jB) rfl (uI rfl rfl) a2 (fun b5 b => V (mT rfl) (ln ?_)))))))))
  replace b := b.jy (Db (Db St))
  refine CI a rfl (fun T a => ?_) (fun T a => ?_)
  ·refine sg (Wa (lt (mi (kw (mi (kw ?_))))))
   obtain rfl := sj a
   exact rP b
  exact kX (kA (jI ⟨d, _, ⟨rfl, n⟩, (b.jy St), z, B, D, (by rw [a3]; exact a)⟩))
 rintro E W ⟨y, ⟨d, n⟩, b, z, B, D, a⟩
 rw [aH] at a
 exact jI (sg (Wa (lt (rQ a b))))
theorem Et (M : Formula → Formula → Option Bool) (L : ∀ (a : Formula) (j : Value) (c : Formula) (k : Value) (r : Bool) (w : World) (u : Sl jx 5 (hp w) j a.Kids) (y : Sl jx 5 (hp w) k c.Kids), M a c = some r → jV false pg0 61 [(.agg #[(.int .i64 a.Op), (.int .i64 a.K), (.string a.ju.jw), (.string a.ju.Word), j]), (.agg #[(.int .i64 c.Op), (.int .i64 c.K), (.string c.ju.jw), (.string c.ju.Word), k])] w (.bool r)) (a : Formula) (j : Value) (c : Formula) (k : Value) (r : Bool) (w : World) (u : Sl jx 5 (hp w) j a.Kids) (y : Sl jx 5 (hp w) k c.Kids) (hm : wv M a c = some r) :
  jV false pg0 61 [(.agg #[(.int .i64 a.Op), (.int .i64 a.K), (.string a.ju.jw), (.string a.ju.Word), j]), (.agg #[(.int .i64 c.Op), (.int .i64 c.K), (.string c.ju.jw), (.string c.ju.Word), k])] w (.bool r) := by
 refine cG 31 func61 rfl (fun b => sg ?_)
 obtain ⟨N, Y, rfl⟩ := u.form
 let d := (C1 a.Op a.K a.ju.jw a.ju.Word N a.Kids.length Y)
 refine VE (kd b rfl (fun W4 T b => ?_))
 obtain ⟨Q, Z, rfl⟩ := y.form
 let a0 := (C1 c.Op c.K c.ju.jw c.ju.Word Q c.Kids.length Z)
 refine VE (kd b rfl (fun W8 U b => Wa (lr (Wf nq (VB b (Mt Mh) rfl rfl bY (Wf nq (VB b Mh rfl rfl bY (Wi rfl (Wm (LJ hm (fun a9 E W => ∃ a2, ST false kx w W (hp w) ((U, Ol a0 30) :: ((T, Ol d 30) :: a2)) ∧ E 2 = (.pointer (some ⟨T, 0, none⟩)) ∧ E 3 = (.pointer (some ⟨U, 0, none⟩)) ∧ E 4 = (.bool false) ∧ E 16 = (.bool a9)) 6 ?_ (fun a9 D I => ?_)))))))))))
 ·rintro d1 E W ⟨a2, b, J, K, a5, O⟩ n
  refine Wh O (LJ n (fun m E W => ∃ a3, ST false kx w W (hp w) ((U, Ol a0 30) :: ((T, Ol d 30) :: a3)) ∧ E 2 = (.pointer (some ⟨T, 0, none⟩)) ∧ E 3 = (.pointer (some ⟨U, 0, none⟩)) ∧ E 4 = (.bool false) ∧ E 23 = (.bool m)) 6 ?_ (fun m B H => ?_))
  ·rintro d2 E W ⟨a3, b, P, R, h, c1⟩ p
   refine Wh c1 (LJ p (fun l E W => ∃ a4, ST false kx w W (hp w) a4 ∧ E 4 = (.bool false) ∧ E 30 = (.bool l)) 6 ?_ (fun l z G => ?_))
   ·rintro d3 E W ⟨a4, b, c9, c3⟩ v
    exact Wg c3 (lt (rQ v b))
   refine bC z (fun i z => ?_) (fun i z => ?_)
   ·refine ug i (jG np P) (ug i (jA rfl (jP b.has (Mt Mh) rfl dJ)) (ug i (jG np R) (ug i (jA rfl (jP b.has Mh rfl dJ)) (bS z fun d0 A z => pE i (Eg b call136 (qE (.slice N a.Kids.length Y) a.Kids (.slice Q c.Kids.length Z) c.Kids (.func (.func 61) #[] #[]) (fun (x : (Formula × Formula)) => M x.1 x.2) _ _ (u.mono jF.mono b.jB) (y.mono jF.mono b.jB) ⟨61, #[], #[], rfl, call61, fun W x vs r hs hR hm => by obtain ⟨_, _, rfl, c4, c5⟩ := hR; obtain ⟨u0, rfl, k0⟩ := c4.out; obtain ⟨t0, rfl, j0⟩ := c5.out; exact L x.1 u0 x.2 t0 r W k0 j0 hm⟩ A) (fun c8 b => V (jS (cB i) rfl) ?_))))))
    obtain rfl := sj z
    exact G _ _ ⟨_, (b.jy (Db (Db St))), h, rfl⟩
   refine un i (un i (un i (un i (un i (V (jT (cB i) rfl) ?_)))))
   obtain rfl := sj z
   exact G _ _ ⟨_, (b.jy (Db (Db St))), h, rfl⟩
  refine bC B (fun g B => ?_) (fun g B => ?_)
  ·refine ug g (jG tJ J) (ug g (jA rfl (jD b.has (Mt Mh) (jE a.ju) rfl bn aN)) (ug g (jG tJ K) (ug g (jA rfl (jD b.has Mh (jE c.ju) rfl bn aN)) (ug g (uY rfl rfl (nf dV) (rb (pz _ a.ju c.ju))) (V (jS (cB g) rfl) ?_)))))
   obtain rfl := sj B
   exact H _ _ ⟨_, (b.jy St), J, K, a5, rfl⟩
  refine un g (un g (un g (un g (un g (V (jT (cB g) rfl) ?_)))))
  obtain rfl := sj B
  exact H _ _ ⟨_, (b.jy St), J, K, a5, rfl⟩
 refine bC D (fun t D => ?_) (fun t D => ?_)
 ·refine ug t (jG rr rfl) (ug t (jA rfl (jP b.has (Mt Mh) rfl bY)) (ug t (jG rr rfl) (ug t (jA rfl (jP b.has Mh rfl bY)) (ug t (kG rfl rfl rfl) (V (jS (cB t) rfl) ?_)))))
  obtain rfl := sj D
  exact I _ _ ⟨_, (b.jy St), rfl, rfl, rfl, rfl⟩
 refine un t (un t (un t (un t (un t (V (jT (cB t) rfl) ?_)))))
 obtain rfl := sj D
 exact I _ _ ⟨_, (b.jy St), rfl, rfl, rfl, rfl⟩
theorem zP : ∀ (n : Nat) (g : Formula) (a : Value) (i : Formula) (c : Value) (r : Bool) (w : World) (j : Sl jx 5 (hp w) a g.Kids) (k : Sl jx 5 (hp w) c i.Kids) (_ : nE n g i = some r),
  jV false pg0 61 [(.agg #[(.int .i64 g.Op), (.int .i64 g.K), (.string g.ju.jw), (.string g.ju.Word), a]), (.agg #[(.int .i64 i.Op), (.int .i64 i.K), (.string i.ju.jw), (.string i.ju.Word), c])] w (.bool r)
 | 0 => by intros; rename_i h; simp only [nE] at h; cases h
 | n + 1 => Et (nE n) (zP n)
theorem F6 (j : ke) (g a : Value) (k : ke) (i c : Value) (r : Bool) (w : World) (x : Sl (Pl (kN .u8)) 1 (hp w) g j.Signed.Tag) (t : Sl jx 5 (hp w) a j.jC.Kids) (y : Sl (Pl (kN .u8)) 1 (hp w) i k.Signed.Tag) (u : Sl jx 5 (hp w) c k.jC.Kids) (hm : xP j k = some r) :
  jV false pg0 71 [(.agg #[(.int .i64 j.Signed.jv.Kind), (.string j.Signed.jv.Head.jw), (.string j.Signed.jv.Head.Word), (.string j.Signed.jv.kE), (.string j.Signed.jv.B.jw), (.string j.Signed.jv.B.Word), (.string j.Signed.jv.C.jw), (.string j.Signed.jv.C.Word), (.string j.Signed.jv.kL), g, (.int .i64 j.jC.Op), (.int .i64 j.jC.K), (.string j.jC.ju.jw), (.string j.jC.ju.Word), a]), (.agg #[(.int .i64 k.Signed.jv.Kind), (.string k.Signed.jv.Head.jw), (.string k.Signed.jv.Head.Word), (.string k.Signed.jv.kE), (.string k.Signed.jv.B.jw), (.string k.Signed.jv.B.Word), (.string k.Signed.jv.C.jw), (.string k.Signed.jv.C.Word), (.string k.Signed.jv.kL), i, (.int .i64 k.jC.Op), (.int .i64 k.jC.K), (.string k.jC.ju.jw), (.string k.jC.ju.Word), c])] w (.bool r) := by
 cases hm
theorem Tp (w : World) (s : ByteArray) (c : Int) : (callFunc 282 [Value.string s, .int .u8 c].toArray).run pg0 w = .ok (.value (.int .i64 (xx s c))) w := Im func282 (by kernel_rfl) (by kernel_rfl) (by kernel_rfl) (by kernel_rfl) s c w
theorem yy (a : ByteArray) (c r : Int) (w : World) (hm : ot a c = some r) :
  jV true pg0 220 [(.string a), (.int .u8 c)] w (.int .i64 r) := by
 exact cG 8 func220 rfl (fun b => sg (Wa (lr (Wm (Wm (VE (JP (args := [(.string a), (.int .u8 c)]) (v := .int .i64 (xx a c)) rfl (by exact uI rfl rfl) (Tp _ a c) (Wa (lt (rQ hm b))))))))))
theorem zo (a : ByteArray) (c r : Int) (w : World) (hm : ry a c = some r) :
  jV true pg0 163 [(.string a), (.int .u8 c)] w (.int .i64 r) := by
 refine cG 8 func163 rfl (fun b => sg (Wa (lr (Wm (Wm (bS hm fun j g hm => VE (Eg b call220 (yy a c _ _  g) (fun i b => Wa (ln ?_)))))))))
 exact kh (rQ hm b)
theorem LG (I : ByteArray) (r : Bool) (w : World) (hm : Cp I = some r) :
  jV true pg0 164 [(.string I)] w (.bool r) := by
 refine cG 16 func164 rfl (fun b => sg (Wa (lS (Wm (bS hm fun H J hm => VE (Jn b bW cQ fF rfl J (fun W3 N T b M n j Y => V (kU cQ rfl j) (Wm (kk ?_)))))))))
 refine jI (kC (fun i E W => ∃ c, (E 8 = .int .i64 (i : Nat) ∧ E 7 = .int .i64 (H.length : Nat)) ∧ ST true kx w W T c ∧ E 6 = N ∧ vn (H.drop i) = some r) H.length j.len ⟨_, ⟨rfl, rfl⟩, (b.jy St), rfl, hm⟩ dc dc dc (fun _ _ _ h => by obtain ⟨_, l, _⟩ := h; exact l) ?_ ?_)
 ·rintro K E W u ⟨c, ⟨d, m⟩, b, g, a⟩
  obtain ⟨k, Q, D, B, G⟩ := kp u
  rw [D] at a
  refine bg (VQ (na (enc := (kN .u8)) (i := (K : Int)) (x0 := k) cQ sizeOf5 g d j (aG _) B) (fun Z x => V (jA rfl (pA b.has (y := (.int .u8 k)) x isAgg5)) (Wa (lr (Wm (bS a fun p z a => VE (Eg b call163 (zo (⟨#[97, 98, 99, 100, 101, 102, 103, 104, 105, 106, 107, 108, 109, 110, 111, 112, 113, 114, 115, 116, 117, 118, 119, 120, 121, 122, 48, 49, 50, 51, 52, 53, 54, 55, 56, 57, 45]⟩ : ByteArray) k _ _  z) (fun U b => Wi rfl (kk ?_)))))))))
  refine jI (CI a rfl (fun t a => ?_) (fun t a => ?_))
  ·refine sg (Wa (lt (mi (kw (mi (kw ?_))))))
   obtain rfl := sj a
   exact rP b
  exact kX (kA (jI ⟨d, _, ⟨rfl, m⟩, (b.jy St), g, (by rw [G]; exact a)⟩))
 rintro E W ⟨c, ⟨d, m⟩, b, g, a⟩
 rw [aH] at a
 exact jI (sg (Wa (lt (rQ a b))))
theorem wM (z : ByteArray) (r : Bool) (w : World) (hm : sh z = some r) :
  jV true pg0 93 [(.string z)] w (.bool r) := by
 refine cG 21 func93 rfl (fun b => sg (Wa (lr (Wm (V (nX bW rfl) (Wi rfl (Wm (LJ hm (fun K E W => ∃ Y, ST true kx w W (hp w) Y ∧ E 0 = (.string z) ∧ E 2 = (.bool false) ∧ E 10 = (.bool K)) 4 ?_ (fun K t y => ?_)))))))))
 ·rintro x2 E W ⟨Y, b, M, d, l⟩ a5
  refine Wh l (LJ a5 (fun J E W => ∃ D, ST true kx w W (hp w) D ∧ E 0 = (.string z) ∧ E 2 = (.bool false) ∧ E 16 = (.bool J)) 5 ?_ (fun J a x => ?_))
  ·rintro A E W ⟨D, b, h, H, a2⟩ N
   refine Wh a2 (LJ N (fun I E W => ∃ G, ST true kx w W (hp w) G ∧ E 2 = (.bool false) ∧ E 20 = (.bool I)) 3 ?_ (fun I j u => ?_))
   ·rintro L E W ⟨G, b, a9, a3⟩ Q
    exact Wg a3 (lt (rQ Q b))
   refine bC j (fun g j => ?_) (fun g j => ?_)
   ·refine ug g (jH h) (bS j fun p T j => pE g (Eg b call164 (LG z _ _  T) (fun m b => V (jS (cB g) rfl) ?_)))
    obtain rfl := sj j
    exact u _ _ ⟨_, (b.jy St), H, rfl⟩
   refine un g (un g (V (jT (cB g) rfl) ?_))
   obtain rfl := sj j
   exact u _ _ ⟨_, (b.jy St), H, rfl⟩
  refine bC a (fun c a => ?_) (fun c a => ?_)
  ·refine ug c (jH M) (bS a fun Z B a => ug c (A4 (i := 0) bW rfl rfl (Ad B) (DT B)) (bS a fun v U a => pE c (Eg b call163 (zo (⟨#[97, 98, 99, 100, 101, 102, 103, 104, 105, 106, 107, 108, 109, 110, 111, 112, 113, 114, 115, 116, 117, 118, 119, 120, 121, 122]⟩ : ByteArray) (Z.toNat : Int) _ _  U) (fun n b => ug c (kG rfl rfl rfl) (V (jS (cB c) rfl) ?_)))))
   obtain rfl := sj a
   exact x _ _ ⟨_, (b.jy St), M, d, rfl⟩
  refine un c (un c (un c (un c (V (jT (cB c) rfl) ?_))))
  obtain rfl := sj a
  exact x _ _ ⟨_, (b.jy St), M, d, rfl⟩
 refine bC t (fun k t => ?_) (fun k t => ?_)
 ·refine ug k (jH rfl) (ug k (nX bW rfl) (ug k (kG rfl rfl rfl) (V (jS (cB k) rfl) ?_)))
  obtain rfl := sj t
  exact y _ _ ⟨_, (b.jy St), rfl, rfl, rfl⟩
 refine un k (un k (un k (V (jT (cB k) rfl) ?_)))
 obtain rfl := sj t
 exact y _ _ ⟨_, (b.jy St), rfl, rfl, rfl⟩
theorem tR (i : ju) (r : Bool) (w : World) (hm : pV i = some r) :
  jV true pg0 206 [(.agg (jE i).toArray)] w (.bool r) := by
 refine cG 11 func206 rfl (fun b => sg (VE (kd b rfl (fun H J b => Wa (lr (Wf oM (VB b Mh rfl rfl bM (bS hm fun K y hm => VE (Eg b call93 (wM i.jw _ _  y) (fun I b => Wm (LJ hm (fun k E W => ∃ j, ST true kx w W (hp w) j ∧ E 2 = (.bool false) ∧ E 10 = (.bool k)) 4 ?_ (fun k a g => ?_))))))))))))
 ·rintro G E W ⟨j, b, B, x⟩ t
  exact Wg x (lt (rQ t b))
 refine bC a (fun c a => ?_) (fun c a => ?_)
 ·refine ug c (jG tG rfl) (ug c (jA rfl (jP b.has Mh rfl bM)) (bS a fun D u a => pE c (Eg b call93 (wM i.Word _ _  u) (fun z b => V (jS (cB c) rfl) ?_))))
  obtain rfl := sj a
  exact g _ _ ⟨_, (b.jy (Db St)), rfl, rfl⟩
 refine un c (un c (un c (V (jT (cB c) rfl) ?_)))
 obtain rfl := sj a
 exact g _ _ ⟨_, (b.jy (Db St)), rfl, rfl⟩
theorem SV (w : World) (a b : ByteArray) : (callFunc 273 [Value.string a, .string b].toArray).run pg0 w = .ok (.value (.int .i64 (oX a b))) w := O2 func273 (by kernel_rfl) (by kernel_rfl) (by kernel_rfl) (by kernel_rfl) a b w
theorem yp (a c : ByteArray) (r : Int) (w : World) (hm : ny a c = some r) :
  jV true pg0 215 [(.string a), (.string c)] w (.int .i64 r) := by
 exact cG 8 func215 rfl (fun b => sg (Wa (lr (Wm (Wm (VE (JP (args := [(.string a), (.string c)]) (v := .int .i64 (oX a c)) rfl (by exact uI rfl rfl) (SV _ a c) (Wa (lt (rQ hm b))))))))))
theorem AP (a c : ByteArray) (r : Int) (w : World) (hm : pB a c = some r) :
  jV true pg0 156 [(.string a), (.string c)] w (.int .i64 r) := by
 refine cG 8 func156 rfl (fun b => sg (Wa (lr (Wm (Wm (bS hm fun j g hm => VE (Eg b call215 (yp a c _ _  g) (fun i b => Wa (ln ?_)))))))))
 exact kh (rQ hm b)
theorem KO (g : Value) (t : List Int) (r : Int) (w : World) (c : Sl (Pl (kN .i64)) 1 (hp w) g t) (hm : vc t = some r) :
  jV true pg0 155 [g] w (.int .i64 r) := by
 refine cG 18 func155 rfl (fun b => sg (Wa (lr (Wa (lS (Wm ?_))))))
 refine V (kU underlying257 rfl c) (Wm (ln (kC (fun i E W => ∃ k, (E 8 = .int .i64 (i : Nat) ∧ E 7 = .int .i64 (t.length : Nat)) ∧ ST true kx w W (hp w) k ∧ E 3 = (.int .i64 0) ∧ E 6 = g ∧ sw (t.drop i) = some r) t.length c.len ⟨_, ⟨rfl, rfl⟩, (b.jy St), rfl, rfl, hm⟩ dc dc dc (fun _ _ _ h => by obtain ⟨_, l, _⟩ := h; exact l) ?_ ?_)))
 ·rintro J E W B ⟨k, ⟨d, m⟩, b, j, u, a⟩
  obtain ⟨x, K, H, G, I⟩ := kp B
  rw [H] at a
  refine bg (VQ (na (enc := (kN .i64)) (i := (J : Int)) (x0 := x) underlying257 fJ u d c (aG _) G) (fun M D => V (jA rfl (pA b.has (y := (.int .i64 x)) D bY)) (Wa (lr (Wm (Wh j (Wi rfl (ln ?_))))))))
  refine CI a rfl (fun z a => ?_) (fun z a => ?_)
  ·refine sg (Wm (Wa (lt (mi (kw (mi (kw ?_)))))))
   obtain rfl := sj a
   exact rP b
  exact kX (kA (jI ⟨d, _, ⟨rfl, m⟩, (b.jy St), j, u, (by rw [I]; exact a)⟩))
 rintro E W ⟨k, ⟨d, m⟩, b, j, u, a⟩
 rw [aH] at a
 exact jI (sg (Wh j (Wa (lt (rQ a b)))))
theorem CQ (g i : ju) (r : Int) (w : World) (hm : pn g i = some r) :
  jV true pg0 83 [(.agg (jE g).toArray), (.agg (jE i).toArray)] w (.int .i64 r) := by
 refine cG 17 func83 rfl (fun b => sg (VE (kd b rfl (fun G I b => VE (kd b rfl (fun H J b => Wa (ln (jM ?_))))))))
 replace b := b.drew
 have d := b.has.jy (Kb (Kb Sn))
 refine kI d kl (X 0 rfl d (jG oM rfl) (XH 1 rfl d (fun _ h => jA rfl (jP h (Mt Mh) rfl bM)) (X 2 rfl d (jG oM rfl) (XH 3 rfl d (fun _ h => jA rfl (jP h Mh rfl bM)) (X 5 rfl d (jG tG rfl) (XH 6 rfl d (fun _ h => jA rfl (jP h (Mt Mh) rfl bM)) (X 7 rfl d (jG tG rfl) (XH 8 rfl d (fun _ h => jA rfl (jP h Mh rfl bM)) (bS hm fun a j hm => XE 4 rfl (Eg b call156 (AP g.jw i.jw _ _  j) (fun x b => ?_)))))))))))
 have d := b.has.jy (Kb (Kb Sn))
 refine ⟨d, (bS hm fun c k hm => XE 9 rfl (Eg b call156 (AP g.Word i.Word _ _  k) (fun y b => ?_)))⟩
 have d := b.has.jy (Kb (Kb Sn))
 refine ⟨d, (XE 10 rfl (kq (cs := #[(.int .i64 a), (.int .i64 c)]) b (pw rfl rfl) (mr underlying257 fJ zeroValue3) (fun z u b => ?_)))⟩
 have d := b.has.jy (Db (Kb (Kb Sn)))
 refine ⟨d, (bS hm fun D t hm => XE 11 rfl (Eg b call155 (KO (.slice (some ⟨u, 0, none⟩) 2 2) ([a, c]) _ _ (Sl.lit (enc := (kN .i64)) (l := [a, c]) (fun _ => rfl) rfl nb rfl (b.at_ Mh)) t) (fun B b => ?_)))⟩
 have d := b.has.jy (Db (Kb (Kb Sn)))
 refine ⟨d, (X 12 rfl d (mP rfl) (kT kr (jI ?_)))⟩
 exact kh (rQ hm b)
set_option maxHeartbeats 4000000 in
theorem wZ (a : jv) (r : Bool) (w : World) (hm : si a = some r) :
  jV true pg0 144 [(.agg (jz a).toArray)] w (.bool r) := by
 let m9 := (⟨a.Kind, a.Head, zS, a.B, a.C, zS⟩ : jv)
 let j2 := (⟨a.Kind, a.Head, zS, a.B, K0, a.kL⟩ : jv)
 let j1 : Value := (.agg (jE a.B).toArray)
 let g6 := ((jz (⟨a.Kind, a.Head, zS, a.B, K0, zS⟩ : jv)).toArray)
 let p := (⟨a.Kind, a.Head, zS, K0, K0, zS⟩ : jv)
 refine cG 98 func144 rfl (fun b => sg (VE (kd b rfl (fun W2 N b => Wa (lr (Wf pR (VB b Mh rfl rfl bY (Wf qp (VA b Mh (jE a.Head) bn aN (V (lC (v := (.agg (jz p).toArray)) (pw rfl rfl) (kW cO dT (Ts _ dT) kr)) (VE (ku b cO (fun W4 B b => ?_)))))))))))))
 refine VO (jR (.agg (jz p).toArray) ((jz p).toArray) b rfl rfl aJ (nz p) nb rfl (fun W5 b => lr (Wf qp (VA b (Mt Mh) (jE a.Head) bn aN (bS hm fun n j4 hm => VE (Eg b jt (tR a.Head _ _  j4) (fun W8 b => Wa (ln (jM (Un hm (fun O E W => ∃ b6, ST true kx w W (hp w) ((B, Ol (jz O.2) 52) :: ((N, Ol (jz a) 52) :: b6)) ∧ E 1 = (.pointer (some ⟨N, 0, none⟩)) ∧ E 3 = (.pointer (some ⟨B, 0, none⟩)) ∧ E 4 = (.bool O.1)) (fun O g Z => ?_) ?_))))))))))
 ·let g5 := ((jz m9).toArray : Array Value)
  let b8 := ((jz j2).toArray : Array Value)
  let m : Value := (.pointer (some ⟨B, 0, none⟩))
  let l : Value := (.pointer (some ⟨N, 0, none⟩))
  let a0 := ((jz a).toArray : Array Value)
  refine sg (Wf pR (VB b (Mt Mh) rfl rfl bY (ln (bg (Wi rfl (Wa (ln (CI g rfl (fun e5 g => ?_) (fun e5 g => ?_)))))))))
  ·replace b := b.drew
   have d := b.has.jy (Db (Kb Sn))
   refine kI d kl (X 0 rfl d (jG vT rfl) (XH 1 rfl d (fun _ h => jA rfl (jP h Mh rfl bM)) (X 2 rfl d (jH rfl) (X 3 rfl d (jH rfl) (X 8 rfl d (jG vT rfl) (PJ g (fun d6 E W => ∃ b9, ST true kx w W (hp w) ((B, Ol (jz p) 52) :: ((N, Obj.cells a0 52 (0, 0)) :: b9)) ∧ E 1 = l ∧ E 3 = m ∧ E 4 = (.bool n) ∧ E 18 = (.string a.kE) ∧ E 24 = (.bool d6) ∧ E 25 = (.pointer (some ⟨B, 3, none⟩))) (bm 11 511) 2 ?_ (fun d6 D a2 => ?_)))))))
   ·rintro m1 E W ⟨b9, b, h2, h3, k8, h4, h5, h6⟩ f1
    refine XO 9 rfl (jR (.string a.kE) ((jz (⟨a.Kind, a.Head, a.kE, K0, K0, zS⟩ : jv)).toArray) b h6 h4 ej (Nv a.kE) nb rfl (fun j5 b => ?_))
    have d := b.has.jy (Db (Kb Sn))
    refine ⟨d, (X 10 rfl d (mP h5) (kT kr (kA (jI ?_))))⟩
    obtain rfl := sj f1
    exact ⟨_, rfl, _, (b.jy St), h2, h3, rfl⟩
   refine bC D (fun k D => ?_) (fun k D => ?_)
   ·refine Xg 4 rfl rfl (cB k) d (jG vT rfl) (ub 5 rfl rfl (cB k) d (fun _ h => jA rfl (jP h Mh rfl bM)) (bS D fun l2 f9 D => El 6 rfl rfl (cB k) (Eg b call93 (wM a.kE _ _  f9) (fun j6 b => ?_))))
    have d := b.has.jy (Db (Kb Sn))
    refine ⟨d, (X 7 rfl d (jS (cB k) rfl) ?_)⟩
    obtain rfl := sj D
    refine nu kr (a2 _ _ ⟨_, (b.jy St), rfl, rfl, rfl, rfl, rfl, rfl⟩)
   refine Xn 4 rfl rfl (cB k) d (Xn 5 rfl rfl (cB k) d (Xn 6 rfl rfl (cB k) d (X 7 rfl d (jT (cB k) rfl) ?_)))
   obtain rfl := sj D
   refine nu kr (a2 _ _ ⟨_, (b.jy St), rfl, rfl, rfl, rfl, rfl, rfl⟩)
  refine sg (Wi rfl (Wa (ln (CI g rfl (fun e6 g => ?_) (fun e6 g => ?_)))))
  ·replace b := b.drew
   have d := b.has.jy (Db (Kb Sn))
   refine kI d kl (X 0 rfl d (jG nD rfl) (XH 1 rfl d (fun _ h => jA rfl (jD h Mh (jE a.B) rfl bn aN)) (X 2 rfl d (jH rfl) (X 3 rfl d (jH rfl) (X 8 rfl d (jG nD rfl) (PJ g (fun d7 E W => ∃ c0, ST true kx w W (hp w) ((B, Ol (jz p) 52) :: ((N, Obj.cells a0 52 (0, 0)) :: c0)) ∧ E 1 = l ∧ E 3 = m ∧ E 4 = (.bool n) ∧ E 29 = j1 ∧ E 35 = (.bool d7) ∧ E 36 = (.pointer (some ⟨B, 4, none⟩))) (bm 11 511) 2 ?_ (fun d7 G a3 => ?_)))))))
   ·rintro m2 E W ⟨c0, b, h7, h8, k9, h9, i0, i1⟩ f2
    refine XO 9 rfl (jR j1 g6 b i1 h9 aN (vt a.B) nb rfl (fun j7 b => ?_))
    have d := b.has.jy (Db (Kb Sn))
    refine ⟨d, (X 10 rfl d (mP i0) (kT kr (kA (jI ?_))))⟩
    obtain rfl := sj f2
    exact ⟨_, rfl, _, (b.jy St), h7, h8, rfl⟩
   refine bC G (fun t G => ?_) (fun t G => ?_)
   ·refine Xg 4 rfl rfl (cB t) d (jG nD rfl) (ub 5 rfl rfl (cB t) d (fun _ h => jA rfl (jD h Mh (jE a.B) rfl bn aN)) (bS G fun l3 g0 G => El 6 rfl rfl (cB t) (Eg b jt (tR a.B _ _  g0) (fun j8 b => ?_))))
    have d := b.has.jy (Db (Kb Sn))
    refine ⟨d, (X 7 rfl d (jS (cB t) rfl) ?_)⟩
    obtain rfl := sj G
    refine nu kr (a3 _ _ ⟨_, (b.jy St), rfl, rfl, rfl, rfl, rfl, rfl⟩)
   refine Xn 4 rfl rfl (cB t) d (Xn 5 rfl rfl (cB t) d (Xn 6 rfl rfl (cB t) d (X 7 rfl d (jT (cB t) rfl) ?_)))
   obtain rfl := sj G
   refine nu kr (a3 _ _ ⟨_, (b.jy St), rfl, rfl, rfl, rfl, rfl, rfl⟩)
  refine sg (Wi rfl (Wa (ln (CI g rfl (fun e7 g => ?_) (fun e7 g => ?_)))))
  ·refine jM ?_
   replace b := b.drew
   have d := b.has.jy (Db (Kb Sn))
   refine kI d kl (X 0 rfl d (jG nD rfl) (XH 1 rfl d (fun _ h => jA rfl (jD h Mh (jE a.B) rfl bn aN)) (X 2 rfl d (jG uD rfl) (XH 3 rfl d (fun _ h => jA rfl (jP h Mh rfl bM)) (X 4 rfl d (jG nD rfl) (XO 5 rfl (jR j1 g6 b rfl rfl aN (vt a.B) nb rfl (fun j9 b => ?_))))))))
   have d := b.has.jy (Db (Kb Sn))
   refine ⟨d, (X 6 rfl d (jG uD rfl) (XO 7 rfl (jR (.string a.kL) ((jz j2).toArray) b rfl rfl ej (Nv a.kL) nb rfl (fun k0 b => ?_))))⟩
   have d := b.has.jy (Db (Kb Sn))
   refine ⟨d, (kT kr (jI (jL (Wm (Wm (LJ g (fun e0 E W => ∃ c1, ST true kx w W (hp w) ((B, Obj.cells b8 52 (0, 0)) :: ((N, Obj.cells a0 52 (0, 0)) :: c1)) ∧ E 1 = l ∧ E 3 = m ∧ E 4 = (.bool n) ∧ E 50 = (.bool e0)) 4 ?_ (fun e0 I R => ?_)))))))⟩
   ·rintro m3 E W ⟨c1, b, U, c7, c8, i2⟩ f3
    refine Wh i2 (LJ f3 (fun d9 E W => ∃ c2, ST true kx w W (hp w) ((B, Obj.cells b8 52 (0, 0)) :: ((N, Obj.cells a0 52 (0, 0)) :: c2)) ∧ E 1 = l ∧ E 3 = m ∧ E 4 = (.bool n) ∧ E 59 = (.bool d9)) 8 ?_ (fun d9 T a5 => ?_))
    ·rintro m4 E W ⟨c2, b, A, c9, d0, i3⟩ f4
     refine Wh i3 (LJ f4 (fun d8 E W => ∃ c3, ST true kx w W (hp w) ((B, Obj.cells b8 52 (0, 0)) :: ((N, Obj.cells a0 52 (0, 0)) :: c3)) ∧ E 1 = l ∧ E 3 = m ∧ E 4 = (.bool n) ∧ E 64 = (.bool d8)) 4 ?_ (fun d8 H a4 => ?_))
     ·rintro m5 E W ⟨c3, b, i4, i5, l0, i6⟩ f5
      refine Wg i6 (kk (kA (jI ?_)))
      obtain rfl := sj f5
      exact ⟨_, rfl, _, (b.jy St), i4, i5, rfl⟩
     refine bC H (fun x H => ?_) (fun x H => ?_)
     ·refine ug x (jG uD A) (ug x (jA rfl (jP b.has (Mt Mh) rfl bM)) (bS H fun l4 g1 H => pE x (Eg b call93 (wM a.kL _ _  g1) (fun k1 b => V (jS (cB x) rfl) ?_))))
      obtain rfl := sj H
      exact a4 _ _ ⟨_, (b.jy St), A, c9, d0, rfl⟩
     refine un x (un x (un x (V (jT (cB x) rfl) ?_)))
     obtain rfl := sj H
     exact a4 _ _ ⟨_, (b.jy St), A, c9, d0, rfl⟩
    refine bC T (fun c T => ?_) (fun c T => ?_)
    ·refine ug c (jG nD U) (ug c (jG oM rfl) (ug c (jA rfl (jP b.has (Mt Mh) rfl bM)) (ug c (jG qp U) (ug c (jG oM rfl) (ug c (jA rfl (jP b.has (Mt Mh) rfl bM)) (ug c (pM rfl rfl rfl) (V (jS (cB c) rfl) ?_)))))))
     obtain rfl := sj T
     exact a5 _ _ ⟨_, (b.jy St), U, c7, c8, rfl⟩
    refine un c (un c (un c (un c (un c (un c (un c (V (jT (cB c) rfl) ?_)))))))
    obtain rfl := sj T
    exact a5 _ _ ⟨_, (b.jy St), U, c7, c8, rfl⟩
   refine bC I (fun u I => ?_) (fun u I => ?_)
   ·refine ug u (jG nD rfl) (ug u (jA rfl (jD b.has (Mt Mh) (jE a.B) rfl bn aN)) (bS I fun l5 g2 I => pE u (Eg b jt (tR a.B _ _  g2) (fun k2 b => V (jS (cB u) rfl) ?_))))
    obtain rfl := sj I
    exact R _ _ ⟨_, (b.jy St), rfl, rfl, rfl, rfl⟩
   refine un u (un u (un u (V (jT (cB u) rfl) ?_)))
   obtain rfl := sj I
   exact R _ _ ⟨_, (b.jy St), rfl, rfl, rfl, rfl⟩
  refine sg (Wi rfl (Wa (ln (CI g rfl (fun e8 g => ?_) (fun e8 g => ?_)))))
  ·refine jM ?_
   replace b := b.drew
   have d := b.has.jy (Db (Kb Sn))
   refine kI d kl (X 0 rfl d (jG nD rfl) (XH 1 rfl d (fun _ h => jA rfl (jD h Mh (jE a.B) rfl bn aN)) (X 2 rfl d (jG rV rfl) (XH 3 rfl d (fun _ h => jA rfl (jD h Mh (jE a.C) rfl bn aN)) (X 4 rfl d (jG nD rfl) (XO 5 rfl (jR j1 g6 b rfl rfl aN (vt a.B) nb rfl (fun k3 b => ?_))))))))
   have d := b.has.jy (Db (Kb Sn))
   refine ⟨d, (X 6 rfl d (jG rV rfl) (XO 7 rfl (jR (.agg (jE a.C).toArray) ((jz m9).toArray) b rfl rfl aN (vt a.C) nb rfl (fun k4 b => ?_))))⟩
   have d := b.has.jy (Db (Kb Sn))
   refine ⟨d, (kT kr (jI (jL (Wm (Wm (LJ g (fun e3 E W => ∃ c4, ST true kx w W (hp w) ((B, Obj.cells g5 52 (0, 0)) :: ((N, Obj.cells a0 52 (0, 0)) :: c4)) ∧ E 1 = l ∧ E 3 = m ∧ E 4 = (.bool n) ∧ E 78 = (.bool e3)) 4 ?_ (fun e3 M a9 => ?_)))))))⟩
   ·rintro m6 E W ⟨c4, b, L, d1, d2, i7⟩ f6
    refine Wh i7 (LJ f6 (fun e2 E W => ∃ c5, ST true kx w W (hp w) ((B, Obj.cells g5 52 (0, 0)) :: ((N, Obj.cells a0 52 (0, 0)) :: c5)) ∧ E 1 = l ∧ E 3 = m ∧ E 4 = (.bool n) ∧ E 83 = (.bool e2)) 4 ?_ (fun e2 K a8 => ?_))
    ·rintro m7 E W ⟨c5, b, Y, d3, d4, i8⟩ f7
     refine Wh i8 (LJ f7 (fun e1 E W => ∃ c6, ST true kx w W (hp w) ((B, Obj.cells g5 52 (0, 0)) :: ((N, Obj.cells a0 52 (0, 0)) :: c6)) ∧ E 1 = l ∧ E 3 = m ∧ E 4 = (.bool n) ∧ E 91 = (.bool e1)) 7 ?_ (fun e1 J a7 => ?_))
     ·rintro m8 E W ⟨c6, b, i9, j0, l1, j3⟩ f8
      refine Wg j3 (kk (kA (jI ?_)))
      obtain rfl := sj f8
      exact ⟨_, rfl, _, (b.jy St), i9, j0, rfl⟩
     refine bC J (fun i J => ?_) (fun i J => ?_)
     ·refine ug i (jG nD Y) (ug i (jA rfl (jD b.has (Mt Mh) (jE a.B) rfl bn aN)) (ug i (jG rV Y) (ug i (jA rfl (jD b.has (Mt Mh) (jE a.C) rfl bn aN)) (bS J fun l6 g3 J => pE i (Eg b call83 (CQ a.B a.C _ _  g3) (fun k5 b => ug i (kG rfl rfl rfl) (V (jS (cB i) rfl) ?_)))))))
      obtain rfl := sj J
      exact a7 _ _ ⟨_, (b.jy St), Y, d3, d4, rfl⟩
     refine un i (un i (un i (un i (un i (un i (V (jT (cB i) rfl) ?_))))))
     obtain rfl := sj J
     exact a7 _ _ ⟨_, (b.jy St), Y, d3, d4, rfl⟩
    refine bC K (fun z K => ?_) (fun z K => ?_)
    ·refine ug z (jG rV L) (ug z (jA rfl (jD b.has (Mt Mh) (jE a.C) rfl bn aN)) (bS K fun l7 g4 K => pE z (Eg b jt (tR a.C _ _  g4) (fun k6 b => V (jS (cB z) rfl) ?_))))
     obtain rfl := sj K
     exact a8 _ _ ⟨_, (b.jy St), L, d1, d2, rfl⟩
    refine un z (un z (un z (V (jT (cB z) rfl) ?_)))
    obtain rfl := sj K
    exact a8 _ _ ⟨_, (b.jy St), L, d1, d2, rfl⟩
   refine bC M (fun y M => ?_) (fun y M => ?_)
   ·refine ug y (jG nD rfl) (ug y (jA rfl (jD b.has (Mt Mh) (jE a.B) rfl bn aN)) (bS M fun l8 g7 M => pE y (Eg b jt (tR a.B _ _  g7) (fun k7 b => V (jS (cB y) rfl) ?_))))
    obtain rfl := sj M
    exact a9 _ _ ⟨_, (b.jy St), rfl, rfl, rfl, rfl⟩
   refine un y (un y (un y (V (jT (cB y) rfl) ?_)))
   obtain rfl := sj M
   exact a9 _ _ ⟨_, (b.jy St), rfl, rfl, rfl, rfl⟩
  refine sg (Wa (ln ?_))
  replace b := b.jy (Db (Db St))
  refine kh (mi (kw ?_))
  obtain rfl := sj g
  replace Z : some false = some r := Z
  obtain rfl := sj Z
  exact rP b
 rintro ⟨l9, e4⟩ E W ⟨b6, b, g8, g9, h0⟩ e9
 refine sg (Wh h0 (Wm (LJ e9 (fun d5 E W => ∃ b7, ST true kx w W (hp w) b7 ∧ E 97 = (.bool d5)) 4 ?_ (fun d5 Q P => ?_))))
 ·rintro m0 E W ⟨b7, b, h1⟩ f0
  exact Wg h1 (lt (rQ f0 b))
 refine bC Q (fun j Q => ?_) (fun j Q => ?_)
 ·refine ug j (jA g9 (jD b.has Mh (jz e4) rfl bR aJ)) (ug j (jA g8 (jD b.has (Mt Mh) (jz a) rfl bR aJ)) (ug j (uY rfl rfl (nf ey) (rb (uT _ e4 a))) (V (jS (cB j) rfl) ?_)))
  obtain rfl := sj Q
  exact P _ _ ⟨_, (b.jy (Db (Db St))), rfl⟩
 refine un j (un j (un j (V (jT (cB j) rfl) ?_)))
 obtain rfl := sj Q
 exact P _ _ ⟨_, (b.jy (Db (Db St))), rfl⟩
theorem Ll (a : ju) (r : ByteArray) (w : World) (hm : Gi a = some r) :
  jV true pg0 79 [(.agg (jE a).toArray)] w (.string r) := by
 refine cG 9 func79 rfl (fun b => sg (VE (kd b rfl (fun i j b => Wa (lr (Wf oM (VB b Mh rfl rfl bM (bS hm fun k c hm => V (oR rfl rfl c) (Wf tG (VB b Mh rfl rfl bM ?_))))))))))
 refine bS hm fun t g hm => V (oR rfl rfl g) (Wa (ln ?_))
 exact kh (rQ hm b)
theorem Lq (a : jv) (r : ByteArray) (w : World) (hm : GF a = some r) :
  jV true pg0 145 [(.agg (jz a).toArray)] w (.string r) := by
 refine cG 31 func145 rfl (fun b => sg (VE (kd b rfl (fun g i b => Wa (lS (Wf pR (VB b Mh rfl rfl bY (ln (kZ ?_)))))))))
 refine sg (Wi rfl (Wa (ln (CI hm rfl (fun c hm => ?_) (fun c hm => ?_)))))
 ·refine sg (Wf vT (VB b Mh rfl rfl bM (Wa (ln ?_))))
  replace b := b.jy (Db St)
  refine kh (mi (kw ?_))
  obtain rfl := sj hm
  exact rP b
 cases hm
theorem LD (a : jv) (r : ByteArray) (w : World) (hm : Gz a = some r) :
  jV true pg0 74 [(.agg (jz a).toArray)] w (.string r) := by
 refine cG 13 func74 rfl (fun b => sg (VE (kd b rfl (fun G I b => Wa (lS (VA b Mh (jz a) bR aJ (bS hm fun J t hm => VE (Eg b call144 (wZ a _ _  t) (fun H b => V (mT rfl) (kk ?_))))))))))
 refine jI (CI hm rfl (fun k hm => ?_) (fun k hm => ?_))
 ·refine sg (Wa (ln ?_))
  replace b := b.jy (Db St)
  refine kh (kw ?_)
  obtain rfl := sj hm
  exact rP b
 refine kn (jM ?_)
 replace b := b.drew
 have d := b.has.jy (Kb Sn)
 refine kI d kl (X 0 rfl d (jG qp rfl) (XH 1 rfl d (fun _ h => jA rfl (jD h Mh (jE a.Head) rfl bn aN)) (XH 4 rfl d (fun _ h => jA rfl (jD h Mh (jz a) rfl bR aJ)) (bS hm fun y c hm => XE 2 rfl (Eg b call79 (Ll a.Head _ _  c) (fun u b => ?_))))))
 have d := b.has.jy (Kb Sn)
 refine ⟨d, (bS hm fun B i hm => X 3 rfl d (oR rfl rfl i) (bS hm fun z g hm => XE 5 rfl (Eg b call145 (Lq a _ _  g) (fun x b => ?_))))⟩
 have d := b.has.jy (Kb Sn)
 refine ⟨d, (bS hm fun D j hm => X 6 rfl d (oR rfl rfl j) (X 7 rfl d (mP rfl) (kT kr (jI ?_))))⟩
 exact kh (rQ hm b)
theorem F7 (a : ke) (g c : Value) (r : ByteArray) (w : World) (j : Sl (Pl (kN .u8)) 1 (hp w) g a.Signed.Tag) (i : Sl jx 5 (hp w) c a.jC.Kids) (hm : xI a = some r) :
  jV true pg0 73 [(.agg #[(.int .i64 a.Signed.jv.Kind), (.string a.Signed.jv.Head.jw), (.string a.Signed.jv.Head.Word), (.string a.Signed.jv.kE), (.string a.Signed.jv.B.jw), (.string a.Signed.jv.B.Word), (.string a.Signed.jv.C.jw), (.string a.Signed.jv.C.Word), (.string a.Signed.jv.kL), g, (.int .i64 a.jC.Op), (.int .i64 a.jC.K), (.string a.jC.ju.jw), (.string a.jC.ju.Word), c])] w (.string r) := by
 refine cG 7 func73 rfl (fun b => sg ?_)
 obtain ⟨t, x, rfl⟩ := j.form
 obtain ⟨u, y, rfl⟩ := i.form
 refine VE (kd b rfl (fun z D b => Wa (lr (Wf zj (Wf yO (VA b Mh (jz a.Signed.jv) bR aJ (bS hm fun G k hm => VE (Eg b call74 (LD a.Signed.jv _ _  k) (fun B b => Wa (ln ?_))))))))))
 exact kh (rQ hm b)
theorem Cx (g : Value) (t : List mj) (j : Value) (z : mj → Option Bool) (r : Int) (w : World) (c : Sl kH 8 (hp w) g t) (B : uc pg0 j (hp w) (uU kH) (fun (r : Bool) => (.bool r)) z) (hm : uR t z = some r) :
  jV false pg0 147 [g, j] w (.int .i64 r) := by
 refine cG 19 func147 rfl (fun b => sg (Wa (lS (Wm (V (kU dr rfl c) (Wm (ln (kC (fun i E W => ∃ k, (E 8 = .int .i64 (i : Nat) ∧ E 7 = .int .i64 (t.length : Nat)) ∧ ST false kx w W (hp w) k ∧ E 0 = g ∧ E 1 = j ∧ nN z (t.drop i) i = some r) t.length c.len ⟨_, ⟨rfl, rfl⟩, (b.jy St), rfl, rfl, hm⟩ dc dc dc (fun _ _ _ h => by obtain ⟨_, l, _⟩ := h; exact l) ?_ ?_))))))))
 ·rintro T E W G ⟨k, ⟨d, m⟩, b, u, x, a⟩
  obtain ⟨y, Z, N, M, Q⟩ := kp G
  rw [N] at a
  refine bg (Wh d (Wa (lr (Wh x (Wh u (Wm (VQ (lU (i := (T : Int)) (x0 := y) kH.out dr dQ rfl rfl c (aG _) M) (fun a2 ⟨_, ⟨U, Y, rfl, J, K⟩, H⟩ => V (jA rfl (kf b.has H iX dQ)) (bS a fun a3 I a => ?_)))))))))
  refine VE (vH y b B (kj.refl _) (uU.mk lx (kH.mk ⟨U, Y, rfl, J, K⟩) b.jB) rfl (qW rfl) I (fun n b => ln (CI a rfl (fun D a => ?_) (fun D a => ?_))))
  ·refine sg (Wm (Wa (lt (mi (kw (mi (kw ?_)))))))
   obtain rfl := sj a
   exact rP b
  exact kX (kA (jI ⟨d, _, ⟨rfl, m⟩, (b.jy St), u, x, (by rw [Q]; exact a)⟩))
 rintro E W ⟨k, ⟨d, m⟩, b, u, x, a⟩
 rw [aH] at a
 exact jI (sg (Wa (lt (rQ a b))))
set_option maxHeartbeats 4000000 in
theorem CY (B : Value) (N : List mj) (H : Value) (Z : List mj) (b6 : Value) (f2 : mj → Option ju) (Q : Value) (f3 : (mj × mj) → Option Bool) (I : Value) (f4 : mj → Option ByteArray) (r : List jQ) (w : World) (a9 : Sl kH 8 (hp w) B N) (b0 : Sl kH 8 (hp w) H Z) (d1 : uc pg0 b6 (hp w) (uU kH) (fun (r : ju) => (.agg (jE r).toArray)) f2) (e1 : uc pg0 Q (hp w) (ui kH kH) (fun (r : Bool) => (.bool r)) f3) (e2 : uc pg0 I (hp w) (uU kH) (fun (r : ByteArray) => (.string r)) f4) (hm : yD N Z f2 f3 f4 = some r) :
  lV false pg0 75 [B, H, b6, Q, I] w 197 kQ 4 r := by
 refine vi 89 func75 rfl (fun b => sg ?_)
 obtain ⟨m, n, A, rfl⟩ := d1.form
 refine VE (kd b rfl (fun W5 l b => Wa (lr (Wa (lr (V (pc (by exact qW rfl) rfl) (Wa (ln ?_))))))))
 refine jM (sg (Wm (V (kU dr rfl a9) (Wm (ln (kC (fun i E W => ∃ z y x M, (E 21 = .int .i64 (i : Nat) ∧ E 20 = .int .i64 (N.length : Nat)) ∧ ST false kx w W (hp w) ((l, Ob #[(.func m n A)] 133) :: (x ++ M)) ∧ E 0 = B ∧ E 1 = H ∧ E 3 = Q ∧ E 4 = I ∧ E 7 = (.pointer (some ⟨l, 0, none⟩)) ∧ E 11 = z ∧ E 12 = (.func (.func 146) #[] #[(.pointer (some ⟨l, 0, none⟩))]) ∧ E 19 = B ∧ jZ 197 kQ 4 z y x ∧ tQ f2 Z f4 f3 N (N.drop i) y = some r) N.length a9.len ⟨(.slice none 0 0), ([]), [], _, ⟨rfl, rfl⟩, (b.jy St), rfl, rfl, rfl, rfl, rfl, rfl, rfl, rfl, (jZ.nil _ _ _), hm⟩ dc dc dc (fun _ _ _ h => by obtain ⟨_, _, _, _, d, _⟩ := h; exact d) ?_ ?_))))))
 ·rintro e3 E W c6 ⟨z, y, x, M, ⟨L, O⟩, b, a3, a4, c8, a5, P, R, a8, c9, Y, c⟩
  obtain ⟨e4, e0, c7, d5, d6⟩ := kp c6
  rw [c7] at c
  rw [tQ] at c
  cases c
 rintro E W ⟨z, y, x, M, ⟨L, O⟩, b, a3, a4, c8, a5, P, R, a8, c9, Y, c⟩
 rw [aH] at c
 refine jI (jM (sg (Wh a4 (V (kU dr rfl b0) (Wm (ln (CJ c (fun G E W => ∃ u k T, ST false kx w W (hp w) (k ++ T) ∧ E 11 = u ∧ jZ 197 kQ 4 u G k) (fun G b3 => ?_) ?_)))))))
 ·refine kC (fun i E W => ∃ j t g D, (E 66 = .int .i64 (i : Nat) ∧ E 65 = .int .i64 (Z.length : Nat)) ∧ ST false kx w W (hp w) ((l, Ob #[(.func m n A)] 133) :: (g ++ D)) ∧ E 0 = B ∧ E 4 = I ∧ E 7 = (.pointer (some ⟨l, 0, none⟩)) ∧ E 11 = j ∧ E 12 = (.func (.func 146) #[] #[(.pointer (some ⟨l, 0, none⟩))]) ∧ E 64 = H ∧ jZ 197 kQ 4 j t g ∧ tK f2 N f4 (Z.drop i) t = some G) Z.length b0.len ⟨z, y, x, _, ⟨rfl, rfl⟩, (b.jy St), a3, a5, P, R, a8, rfl, Y, b3⟩ dc dc dc (fun _ _ _ h => by obtain ⟨_, _, _, _, d, _⟩ := h; exact d) ?_ ?_
  ·rintro d7 E W b1 ⟨j, t, g, D, ⟨L, O⟩, b, b9, c0, c1, U, c2, c3, K, a⟩
   obtain ⟨d9, d4, b5, d2, d3⟩ := kp b1
   rw [b5] at a
   rw [tK] at a
   cases a
  rintro E W ⟨j, t, g, D, ⟨L, O⟩, b, b9, c0, c1, U, c2, c3, K, a⟩
  rw [aH] at a
  refine jI ?_
  obtain rfl := sj a
  exact ⟨j, g, _, (b.jy (Db St)), U, K⟩
 rintro d8 E W ⟨u, k, T, b, b7, J⟩ b2
 refine sg (Wh b7 (Wa (lt ?_)))
 obtain rfl := sj b2
 exact lB (v := u) rfl rfl ⟨_, k, rfl, b.nM (fun p hq => (Ml hq)) J.nd, J⟩
theorem Ge (c : mj) (a g : Value) (r : ju) (w : World) (i : Sl jx 5 (hp w) a c.jC.Kids) (j : Sl (Pl jz) 9 (hp w) g c.me) (hm : xM c = some r) :
  jV true pg0 76 [(.agg #[(.string c.ju.jw), (.string c.ju.Word), (.int .i64 c.jC.Op), (.int .i64 c.jC.K), (.string c.jC.ju.jw), (.string c.jC.ju.Word), a, g])] w (.agg (jE r).toArray) := by
 refine cG 5 func76 rfl (fun b => sg ?_)
 obtain ⟨k, u, rfl⟩ := i.form
 obtain ⟨t, x, rfl⟩ := j.form
 refine VE (kd b rfl (fun y D b => VE (ku b ee (fun z G b => lr (Wf IC (VA b (Mt Mh) (jE c.ju) bn aN (VO (jR (.agg (jE c.ju).toArray) ((jE c.ju).toArray) b rfl rfl aN (vt c.ju) nb rfl (fun B b => ln ?_)))))))))
 replace b := b.jy (Kb (Db St))
 refine kh ?_
 obtain rfl := sj hm
 exact mL (v := (.agg (jE c.ju).toArray)) rfl rfl (jD b.has Mh (jE c.ju) rfl bn aN) ⟨rfl, b.ex⟩
theorem zq (t : Value) (y : List jv) (u : Value) (K : List jv) (r : Bool) (w : World) (c : Sl (Pl jz) 9 (hp w) t y) (z : Sl (Pl jz) 9 (hp w) u K) (hm : ru y K = some r) :
  jV true pg0 58 [t, u] w (.bool r) := by
 refine cG 26 func58 rfl (fun d => sg (Wa (lS (Wm (V (kU aP rfl c) (Wm (V (kU aP rfl z) (Wi rfl (kk ?_)))))))))
 refine jI (CI hm rfl (fun U hm => ?_) (fun U hm => ?_))
 ·refine sg (Wa (lt (kw ?_)))
  obtain rfl := sj hm
  exact rP d
 refine kS (Wm (V (kU aP rfl c) (Wm (ln (kC (fun i E W => ∃ g, (E 13 = .int .i64 (i : Nat) ∧ E 12 = .int .i64 (y.length : Nat)) ∧ ST true kx w W (hp w) g ∧ E 0 = t ∧ E 1 = u ∧ pQ K (y.drop i) i = some r) y.length c.len ⟨_, ⟨rfl, rfl⟩, (d.jy St), rfl, rfl, hm⟩ dc dc dc (fun _ _ _ h => by obtain ⟨_, m, _⟩ := h; exact m) ?_ ?_)))))
 ·rintro I E W M ⟨g, ⟨l, p⟩, d, j, k, a⟩
  obtain ⟨J, a3, Q, N, T⟩ := kp M
  rw [Q] at a
  refine bg (Wh l (Wa (ln (jM ?_))))
  replace d := d.drew
  have b := d.has.jy Sn
  refine kI b kl (X 0 rfl b (jH j) (X 1 rfl b (jH rfl) (XQ 2 rfl b (na (enc := jz) (i := (I : Int)) (x0 := J) aP aJ rfl rfl c (aG _) N) (fun Y G => XH 3 rfl b (fun _ n => jA rfl (kf n G bR aJ)) (X 4 rfl b (jH k) (X 5 rfl b (jH rfl) (bS a fun B x a => XQ 6 rfl b (na (enc := jz) (i := (I : Int)) (x0 := B) aP aJ rfl rfl z (ky x) (kv x)) (fun Z H => XH 7 rfl b (fun _ n => jA rfl (kf n H bR aJ)) (X 8 rfl b (D6 rfl rfl (nf ey) (zD (uT _ J B))) (kT kr (jI (CI a rfl (fun D a => ?_) (fun D a => ?_)))))))))))))
  ·refine sg (Wa (lt (mi (kw (mi (kw ?_))))))
   obtain rfl := sj a
   exact rP d
  exact kX (kA (jI ⟨l, _, ⟨rfl, p⟩, (d.jy St), j, k, (by rw [T]; exact a)⟩))
 rintro E W ⟨g, ⟨l, p⟩, d, j, k, a⟩
 rw [aH] at a
 exact jI (sg (Wa (lt (rQ a d))))
theorem F9 (j : mj) (a g : Value) (k : mj) (c i : Value) (r : Bool) (w : World) (t : Sl jx 5 (hp w) a j.jC.Kids) (x : Sl (Pl jz) 9 (hp w) g j.me) (u : Sl jx 5 (hp w) c k.jC.Kids) (y : Sl (Pl jz) 9 (hp w) i k.me) (hm : xG j k = some r) :
  jV false pg0 77 [(.agg #[(.string j.ju.jw), (.string j.ju.Word), (.int .i64 j.jC.Op), (.int .i64 j.jC.K), (.string j.jC.ju.jw), (.string j.jC.ju.Word), a, g]), (.agg #[(.string k.ju.jw), (.string k.ju.Word), (.int .i64 k.jC.Op), (.int .i64 k.jC.K), (.string k.jC.ju.jw), (.string k.jC.ju.Word), c, i])] w (.bool r) := by
 cases hm
theorem Gc (g : mj) (a c : Value) (r : ByteArray) (w : World) (i : Sl jx 5 (hp w) a g.jC.Kids) (j : Sl (Pl jz) 9 (hp w) c g.me) (hm : xO g = some r) :
  jV true pg0 78 [(.agg #[(.string g.ju.jw), (.string g.ju.Word), (.int .i64 g.jC.Op), (.int .i64 g.jC.K), (.string g.jC.ju.jw), (.string g.jC.ju.Word), a, c])] w (.string r) := by
 cases hm
theorem xy (i : Value) (I : List jO) (g : LO) (y D : Int) (t : Value) (J : (jO × jO) → Option Int) (r : List jO) (w : World) {M : km} (d : ni M (g ++ []) w) (K : jZ 193 ko 11 i I g) (a4 : tF pg0 t M (fun (x : (jO × jO)) => [(.agg (ko x.1).toArray), (.agg (ko x.2).toArray)]) (fun (r : Int) => (.int .i64 r)) J) (hm : sG I y D J = some r) :
  kY false pg0 269 [i, (.int .i64 y), (.int .i64 D), t] w (g ++ []) (fun v Z W' => ∃ N, v = (.tuple #[]) ∧ Z = (N ++ []) ∧ jZ 193 ko 11 i r N) := by
 refine wB d 53 func269 rfl (fun b => sg (Wm (Wi rfl (Wa (ln (pk (kZ (mG (fun m E W => ∃ j c k u, ST false (keys (g ++ [])) w W M (c ++ u) ∧ E 0 = i ∧ E 1 = (.int .i64 y) ∧ E 2 = (.int .i64 D) ∧ E 3 = t ∧ E 8 = (.int .i64 k) ∧ jZ 193 ko 11 i j c ∧ oK D y J m j k = some r) ki ⟨I, g, (wi0 .i64 (y + 1)), _, (b.jy St), rfl, rfl, rfl, rfl, rfl, K, hm⟩ ?_))))))))
 rintro m E W ⟨j, c, k, u, b, Q, T, G, U, H, B, a⟩
 cases m with
 | zero => rw [oK] at a; cases a
 | succ Y =>
  refine jM (sg (Wh H (Wh G (Wi rfl (ln (CI a rfl (fun z a => ?_) (fun z a => ?_)))))))
  ·cases a
  refine mF (ml (ml (oU (jI (nQ ?_)))))
  obtain rfl := sj a
  exact nr rfl ⟨_, _, rfl, (b.lO (Kr Sn)), c, rfl, rfl, B⟩
theorem zx (g : Value) (a0 : List jO) (i : LO) (z : Int) (j : Value) (f2 : (jO × jO) → Option Int) (r : List jO) (w : World) {μ0 : km} (h0 : ni μ0 (i ++ []) w) (c5 : jZ 193 ko 11 g a0 i) (c6 : tF pg0 j μ0 (fun (x : (jO × jO)) => [(.agg (ko x.1).toArray), (.agg (ko x.2).toArray)]) (fun (r : Int) => (.int .i64 r)) f2) (hm : uZ a0 z f2 = some r) :
  kY false pg0 210 [g, (.int .i64 z), j] w (i ++ []) (fun v L1 W' => ∃ S1, v = (.tuple #[]) ∧ L1 = (S1 ++ []) ∧ jZ 193 ko 11 g r S1) := by
 refine wB h0 63 func210 rfl (fun b => sg (Wa (lr (Wm (Wa (Wa (ln (jM (kZ (mG (fun m E W => ∃ N M Q d h U, kj μ0 h ∧ ST false (keys (i ++ [])) w W h (M ++ U) ∧ E 0 = g ∧ E 1 = (.int .i64 z) ∧ E 2 = j ∧ E 6 = (.int .i64 20) ∧ E 7 = (.int .i64 Q) ∧ E 8 = (.int .i64 d) ∧ jZ 193 ko 11 g N M ∧ qH z f2 m N Q d = some r) ki ⟨a0, i, 0, 20, μ0, _, (kj.refl _), (b.jy St), rfl, rfl, rfl, rfl, rfl, rfl, c5, hm⟩ ?_))))))))))
 rintro m E W ⟨N, M, Q, d, h, U, a5, b, Z, B, a2, c2, c3, c4, c7, a⟩
 cases m with
 | zero => rw [qH] at a; cases a
 | succ e0 =>
  refine jM (sg (Wh c4 (Wh B (Wi rfl (ln (CI a rfl (fun L a => ?_) (fun L a => ?_)))))))
  ·cases a
  refine mF (ml (ml (oU (jI (sg (Wh Z (Wh c3 (Wh B (Wh a2 (bS a fun c8 R a => ?_))))))))))
  refine VE (eM b (Cr Qz Cn) call269 (fun hh p => (xy g N M Q z j f2 _ _ hh c7 (c6.mono (a5.trans p)) R)) ?_)
  rintro _ e1 I d6 b d0 l n ⟨c0, u, rfl, b7⟩
  obtain rfl := u.symm
  replace b := b.perm (Tr Tn)
  refine ln (pk (CJ a (fun G E W => ∃ k J Y, kj I J ∧ ST false (keys (i ++ [])) w W J (k ++ Y) ∧ jZ 193 ko 11 g G k) (fun G P => ?_) ?_))
  ·refine kZ (mG (fun m E W => ∃ D t H y K, kj I y ∧ ST false (keys (i ++ [])) w W y (t ++ K) ∧ E 0 = g ∧ E 1 = (.int .i64 z) ∧ E 2 = j ∧ E 6 = (.int .i64 H) ∧ jZ 193 ko 11 g D t ∧ qC z f2 m D H = some G) ki ⟨c8, c0, 20, I, _, (kj.refl _), (b.jy St), Z, B, a2, c2, b7, P⟩ ?_)
   rintro m E W ⟨D, t, H, y, K, T, b, d2, A, d3, a9, b6, c⟩
   cases m with
   | zero => rw [qC] at c; cases c
   | succ d4 =>
    refine jM (sg (Wh a9 (Wh A (Wi rfl (ln (CI c rfl (fun a4 c => ?_) (fun a4 c => ?_)))))))
    ·cases c
    refine mF (ml (ml (oU (jI ?_))))
    obtain rfl := sj c
    exact ⟨t, y, _, T, (b.jy St), b6⟩
  rintro d9 E W ⟨k, J, Y, d1, b, b5⟩ O
  refine nQ ?_
  obtain rfl := sj O
  exact nr rfl ⟨_, _, rfl, (b.lO (Kr Sn)), k, rfl, rfl, b5⟩
theorem tZ (c : Value) (k : List jO) (a : LO) (i : Value) (t : (jO × jO) → Option Int) (r : List jO) (w : World) {H : km} (J : ni H (a ++ []) w) (j : jZ 193 ko 11 c k a) (u : tF pg0 i H (fun (x : (jO × jO)) => [(.agg (ko x.1).toArray), (.agg (ko x.2).toArray)]) (fun (r : Int) => (.int .i64 r)) t) (hm : pf k t = some r) :
  kY false pg0 149 [c, i] w (a ++ []) (fun v I W' => ∃ z, v = (.tuple #[]) ∧ I = (z ++ []) ∧ jZ 193 ko 11 c r z) := by
 refine wB J 9 func149 rfl (fun b => jL (Wm (Wm (V (nw gI rfl j) (Wm (bS hm fun Q G hm => ?_))))))
 refine VE (eM b (Cr Qz Cn) call210 (fun l h => (zx c k a (k.length : Int) i t _ _ l j (u.mono h) G)) ?_)
 rintro _ T U M b K m d ⟨B, g, rfl, y⟩
 obtain rfl := g.symm
 replace b := b.perm (Tr Tn)
 refine kk (nQ ?_)
 obtain rfl := sj hm
 exact nr rfl ⟨_, _, rfl, (b.lO (Kr Sn)), B, rfl, rfl, y⟩
theorem CL (c g : jO) (i : Nat) (a : Value) (j : (jv × jv) → Option Int) (r : Int) (w : World) (t : tF pg0 a (hp w) (fun (x : (jv × jv)) => [(.agg (jz x.1).toArray), (.agg (jz x.2).toArray)]) (fun (r : Int) => (.int .i64 r)) j) (k : At (hp w) (.pointer (some ⟨i, 0, none⟩)) [a]) (hm : uS c g j = some r) :
  jV false pg0 150 [(.agg (ko c).toArray), (.agg (ko g).toArray), (.pointer (some ⟨i, 0, none⟩))] w (.int .i64 r) := by
 refine cG 12 func150 rfl (fun b => sg (VE (kd b rfl (fun z G b => VE (kd b rfl (fun B H b => Wa (lr (V (jA rfl (pA b.has (y := a) k isAgg138)) (Wf MA (VA b (Mt Mh) (jz c.key) bR aJ (Wf MA (VA b Mh (jz g.key) bR aJ ?_))))))))))))
 refine bS hm fun I u hm => VE (La (c.key, g.key) b t (kj.refl _) rfl (uI rfl rfl) u (fun D b => Wa (ln ?_)))
 exact kh (rQ hm b)
theorem Qe : li pg0 93 0 0 := kF underlying93 rfl sizeOf91 (by decide) rfl
theorem Nw : li pg0 93 1 1 := kF underlying93 rfl iy (by decide) rfl
theorem Na : Tryz.prog.info? 5 = some Tryz.t5 ∧ Tryz.t5.zero = some (.int .u8 0) ∧ Tryz.t5.size = 1 ∧ Tryz.t5.bytes = 1 := ⟨by kernel_rfl, rfl, rfl, rfl⟩
theorem KF : Tryz.prog.info? 93 = some Tryz.t93 ∧ Tryz.t93.size ≠ 0 := ⟨by kernel_rfl, by decide⟩
theorem TN : liesAt pg0 Tryz.prog.depth 93 (2 / Tryz.prog.cellsOf 93) 0 93 1 = true := by kernel_rfl
theorem SQ (x : Value) (w : World) : (callFunc 189 [x].toArray).run pg0 w = .ok (.value x) w := by
 rw [fO (e := Extern.AbiNoEscape.same) func189 (by kernel_rfl) (by kernel_rfl) (by kernel_rfl) (by kernel_rfl)]
 rfl
theorem NB (b : Nat) (a u : Value) (w : World) {i : km} (g : ni i ((b, Ob #[a, u] 93) :: []) w) (ha : a = .pointer none ∨ a = .pointer (some ⟨b, 0, none⟩)) :
  kY true pg0 121 [(.pointer (some ⟨b, 0, none⟩))] w ((b, Ob #[a, u] 93) :: []) (fun v c W' => v = (.tuple #[]) ∧ c = ((b, Ob #[(.pointer (some ⟨b, 0, none⟩)), u] 93) :: [])) := by
 let k : Value := (.pointer (some ⟨b, 0, none⟩))
 refine wB g 20 func121 rfl (fun d => sg (Wm (Wn (Wf Qe (VB d Mh rfl rfl isAgg91 ?_)))))
 rcases ha with rfl | rfl
 ·refine V (uH gY rfl rfl) (ln (xg rfl (jL (Wm (Wm ?_)))))
  have h := (d.box b _ (.head _)).1
  exact V (OW rfl (Go.Lib.run_to_unsafe (P := pg0) _ ⟨b, 0, none⟩ gY underlying233 KF.1 KF.2 (GN h) nb)) (VE (JP (args := [k]) rfl (by exact qW rfl) (SQ _ _) (V (OW rfl (Go.Lib.run_from_unsafe (P := pg0) _ ⟨b, 0, none⟩ underlying233 gY KF.1 (GN h) TN)) (Wn (Wf Qe (VO (jR k (#[k, u]) d rfl rfl sizeOf91 oc nb rfl (fun j d => kk (nQ (nr rfl ⟨_, _, rfl, (d.lO (Kb Sn)), rfl, rfl⟩))))))))))
 ·refine V (uH gY rfl rfl) (ln (qI rfl (sg (Wm (Wn (Wf Qe (VB d Mh rfl rfl isAgg91 (Wm (V (Lu gY sizeOf93 rfl rfl) (ln (qI rfl ?_)))))))))))
  exact kX (nQ (nr rfl ⟨_, _, rfl, (d.lO (Kb Sn)), rfl, rfl⟩))
theorem Nl (k : Value) (D : ByteArray) (i : LO) (z r : ByteArray) (w : World) {K : km} (I : ni K (i ++ []) w) (B : IB 93 5 k D i) (hm : IZ D z = some r) :
  kY true pg0 49 [k, (.string z)] w (i ++ []) (fun v H W' => ∃ y S, v = y ∧ H = S ++ [] ∧ IB 93 5 k r S) := by
 obtain ⟨b, a, u, S, rfl, ha, rfl, A, P⟩ := B
 have d := ST.H9 (dd := true) I
 have p := fun h => PK (r := r) hm h
 have hm := Pe hm
 refine cF 19 func49 rfl (sg (Wa (Wa (lr (Wm ?_)))))
 refine VE (eM d (Cb Pz Cn) call121 (fun L _ => (NB b a u _ L ha)) ?_)
 rintro _ Y Z M d J O n ⟨j, rfl⟩
 obtain rfl := j.symm
 replace d := d.perm (Tb Tn)
 refine lr (Wm (Wm (Wn (Wf Nw (VB d Mh rfl rfl iK (Wm (VE (LC (v := u) (str := z) [(b, Ob #[(.pointer (some ⟨b, 0, none⟩)), u] 93)] d cQ bW Na.1 Na.2.1 Na.2.2.1 Na.2.2.2 rfl rfl A hm (fun N T t d x l => Wn (Wf Nw ?_))))))))))
 have m := fun h : r.size = 0 => l (P (p h).1) (p h).2
 obtain ⟨c, g, rfl⟩ := x.form
 let U : Value := (.slice c (mz r).length g)
 let G := (#[(.pointer (some ⟨b, 0, none⟩)), U] : Array Value)
 let a0 := ((b, Obj.cells G 93 (0, 0)) :: (t ++ []))
 refine VO (jR U (#[(.pointer (some ⟨b, 0, none⟩)), U]) d rfl rfl iy oc nb rfl (fun Q d => lr (Wm (V (nX bW rfl) (Wa (Wa (lt (ER (v := .int .i64 (z.size : Int)) (u := .nilIface) rfl rfl rfl ?_))))))))
 have E : mB a0 a0 := Kb (Kr Sn)
 exact ⟨_, _, rfl, d.lO E, _, ((b, Obj.cells G 93 (0, 0)) :: t), rfl, rfl, ⟨b, _, _, _, rfl, .inr rfl, rfl, x, m⟩⟩
theorem Gv (k : Value) (i : ByteArray) (g : LO) (r : ByteArray) (w : World) {D : km} (t : ni D (g ++ []) w) (x : IB 93 5 k i g) (hm : Pn i = some r) :
  kY true pg0 51 [k] w (g ++ []) (fun v z W' => v = (.string r) ∧ z = []) := by
 obtain ⟨b, a, u, S, rfl, ha, rfl, n, E⟩ := x
 obtain rfl := fq hm
 have h := ST.H9 (dd := true) t
 obtain ⟨A, c, rfl⟩ := n.form
 refine cF 14 func51 rfl (sg (Wa (ln (jM ?_))))
 replace h := h.drew
 have d := h.has.jy (A := [(b, Ob #[a, .slice A (mz i).length c] 93)]) (Kb Sn)
 have m : A = none ∨ c ≠ 0 := by
  by_cases t : i.size = 0
  ·have E := E t
   injection E with j
   exact .inl j
  ·rcases n with ⟨j, _, _⟩ | ⟨J, cap, I, j, _, B, _, _, _⟩
   ·injection j with y; exact .inl y
   ·injection j with _ _ y
    rw [mX] at B
    exact .inr (by omega)
 refine kI d kl (X 0 rfl d (jH rfl) (X 1 rfl d (mN rfl) (X 2 rfl d (jG Nw rfl) (XH 3 rfl d (fun _ p => jA rfl (jP p Mh rfl iK)) (X 4 rfl d (PW rfl ⟨A, _, c, rfl, m, rfl⟩) (X 5 rfl d (jH rfl) (X 6 rfl d (mN rfl) (X 7 rfl d (jG Nw rfl) (XH 8 rfl d (fun _ p => jA rfl (jP p Mh rfl iK)) (X 9 rfl d (nw cQ rfl n) ?_))))))))))
 replace h := h.perm (L' := S ++ [(b, Ob #[a, .slice A (mz i).length c] 93)]) (by rw [bI]; exact et (l₁ := [_]) (l₂ := S))
 refine XE 10 rfl (Lt (l := i) h underlying179 kr rfl rfl n (fun G h => ?_))
 have d := h.has
 exact ⟨d, X 11 rfl d (mP rfl) (kT kr (jI (kh (lB (v := .string i) rfl rfl ⟨_, _, rfl, (h.lO Sn), rfl, rfl⟩))))⟩
theorem Ez (t : Value) (a0 : List jO) (j : LO) (U : Value) (Y : (jv × jv) → Option Int) (r : (ByteArray × (List jO))) (w : World) {μ0 : km} (h0 : ni μ0 (j ++ []) w) (c1 : jZ 193 ko 11 t a0 j) (Q : tF pg0 U μ0 (fun (x : (jv × jv)) => [(.agg (jz x.1).toArray), (.agg (jz x.2).toArray)]) (fun (r : Int) => (.int .i64 r)) Y) (hm : zp a0 Y = some r) :
  kY false pg0 80 [t, U] w (j ++ []) (fun v L1 W' => ∃ S1, v = (.string (r.1)) ∧ L1 = (S1 ++ []) ∧ jZ 193 ko 11 t r.2 S1) := by
 refine wB h0 27 func80 rfl (fun b => sg ?_)
 obtain ⟨aa, ab, ad, rfl⟩ := Q.form
 refine VE (kd b rfl (fun W5 O b => Wa (lr (Wm (V (pc (by exact qW rfl) rfl) (bS hm fun L d0 hm => ?_))))))
 refine VE (yH b (Cr (Qb Qz) Cn) call149 (fun hH n m l => (tZ t a0 j (.func (.func 150) #[] #[(.pointer (some ⟨O, 0, none⟩))]) (fun (x : (jO × jO)) => uS x.1 x.2 Y) _ _ ⟨hH, n, kj.refl _⟩ c1 ⟨150, #[], #[(.pointer (some ⟨O, 0, none⟩))], rfl, call150, fun W x r hs hm => CL x.1 x.2 O (.func aa ab ad) Y r W (Q.mono (m.trans hs)) (At.of (hs _ _ (l _ _ Mh)) _ rfl) hm⟩ d0)) (fun W8 f4 A f2 b d3 ag d b9 => ?_))
 obtain ⟨b3, K, rfl, k⟩ := b9
 replace K := K.symm; subst K
 replace b := b.perm (Tr Tn)
 refine ln ?_
 replace b := b.jy (Kr (Db St))
 refine sg (VE (Hn (e := 5) b zeroValue93 (fun f3 N c7 b c0 => lS (Wm (V (nw gI rfl k) (Wm (ln (kC (fun i E W => ∃ g c G I, (E 13 = .int .i64 (i : Nat) ∧ E 12 = .int .i64 (L.length : Nat)) ∧ kj A G ∧ ST false (keys (j ++ [])) w W G (c ++ (b3 ++ I)) ∧ E 5 = N ∧ E 11 = t ∧ IB 93 5 N g c ∧ uL L (L.drop i) g = some r) L.length k.len ⟨zS, c7, A, _, ⟨rfl, rfl⟩, (kj.refl _), (b.jy St), rfl, rfl, c0, hm⟩ dc dc dc (fun _ _ _ h => by obtain ⟨_, _, _, _, R, _⟩ := h; exact R) ?_ ?_))))))))
 ·rintro c2 E W a2 ⟨g, c, G, I, ⟨P, eN⟩, H, b, u, J, y, a⟩
  obtain ⟨D, d4, a9, M, b0⟩ := kp a2
  rw [a9] at a
  refine bg (VQ (nU (i := (c2 : Int)) (x0 := D) gI sizeOf193 J P k (aG _) M) (fun e4 a3 => V (jA rfl (sP b.has (fun p hq => (Ma (Ml hq))) k xb a3 M isAgg193 sizeOf193)) (VE (ku b zeroValue193 (fun d8 e2 b => VO (jR (.agg (ko D).toArray) ((ko D).toArray) b rfl rfl sizeOf193 (Aq D) nb rfl (fun d9 b => ln (jL (Wf Rq (VB b Mh rfl rfl bM (bS a fun e5 a6 a => V (oR rfl rfl a6) (Wf Q5 ?_))))))))))))
  refine VB b Mh rfl rfl bM (bS a fun e6 a7 a => V (oR rfl rfl a7) (bS a fun c5 a8 a => V (oR rfl rfl a8) (bS a fun c3 a4 a => ?_)))
  refine VE (yH b (Cr (Qb Qz) Cn) call49 (fun hH n m l => kY.lE (Nl N g c c5 _ _ ⟨hH, n, kj.refl _⟩ y a4)) (fun e0 e7 c6 d6 b T ae d Z => ?_) (ha := Ui u rfl))
  obtain ⟨e9, b5, z, rfl, b1⟩ := Z
  replace z := z.symm; subst z
  replace b := b.perm (Tr Tn)
  refine kk (kA (jI ?_))
  replace b := b.jy (Kr (Db St))
  exact ⟨P, c3, b5, c6, _, ⟨rfl, eN⟩, (H.trans T), (b.jy St), u, J, b1, (by rw [b0]; exact a)⟩
 rintro E W ⟨g, c, G, I, ⟨P, eN⟩, H, b, u, J, y, a⟩
 rw [aH] at a
 refine jI (sg (bS a fun c4 a5 a => ?_))
 refine VE (yH b (Cr Qz Cn) call51 (fun hH n m l => kY.lE (Gv N g c _ _ ⟨hH, n, kj.refl _⟩ y a5)) (fun e1 e8 f0 d7 b c9 af d a1 => ?_) (ha := MO u))
 obtain ⟨B, rfl⟩ := a1
 replace B := B.symm; subst B
 replace b := b.perm Tn
 refine Wa (lt ?_)
 obtain rfl := sj a
 exact lB (v := (.string c4)) rfl rfl ⟨_, _, rfl, (b.lO (Kr Sn)), b3, rfl, rfl, k⟩
theorem rp (t : Nat) (j : Value) (G : List Int) (i : LO) (h : Int) (r : (Bool × (List Int))) (w : World) {μ0 : km} (O : ni μ0 ((t, Ob #[j] 215) :: (i ++ [])) w) (y : jZ 5 (kN .u8) 1 j G i) (hm : nT G h = some r) :
  kY true pg0 170 [(.pointer (some ⟨t, 0, none⟩)), (.int .i64 h)] w ((t, Ob #[j] 215) :: (i ++ [])) (fun v L1 W' => ∃ n S2, v = (.bool (r.1)) ∧ L1 = ((t, Ob #[n] 215) :: (S2 ++ [])) ∧ jZ 5 (kN .u8) 1 n r.2 S2) := by
 refine wB O 38 func170 rfl (fun d => sg (Wa (lS (Wm (V (uH fU rfl rfl) (Wm (Vg rfl rfl (jH rfl) (Vg rfl rfl (kG rfl rfl rfl) (V (jT rfl rfl) ?_)))))))))
 refine ln (CI hm rfl (fun a9 hm => ?_) (fun a9 hm => ?_))
 ·refine sg (Wa (lt (kw ?_)))
  obtain rfl := sj hm
  exact lB (v := (.bool false)) rfl rfl ⟨_, _, rfl, (d.lO (Kb (Kr Sn))), j, i, rfl, rfl, y⟩
 refine kn (jM (kZ (mG (fun m E W => ∃ c z U u a0, ST true (keys ((t, Ob #[j] 215) :: (i ++ []))) w W μ0 ((t, Ob #[z] 215) :: (u ++ a0)) ∧ E 0 = (.pointer (some ⟨t, 0, none⟩)) ∧ E 1 = (.int .i64 c) ∧ jZ 5 (kN .u8) 1 z U u ∧ pT m c U = some r) ki ⟨h, j, G, i, _, (d.jy St), rfl, rfl, y, hm⟩ ?_)))
 rintro m E W ⟨c, z, U, u, a0, d, x, K, T, g⟩
 cases m with
 | zero => rw [pT] at g; cases g
 | succ L =>
  refine jM (sg (Wh K (Wi rfl (ln (CI g rfl (fun p g => ?_) (fun p g => ?_))))))
  ·refine kn (jM (kZ (jL (Wh x (Wh x (Wn (Wf zG (VB d Mh rfl rfl iK (Wh K (V (ri (k' := .i64) (a := c) er fF rfl) (V (JN (k := .u8) (a := (IntKind.u8.wrap c)) (b := 128) (v := (.int .u8 (IntKind.u8.wrap (BitVec.ofInt (IntKind.bits .u8) (IntKind.u8.wrap c) ||| BitVec.ofInt (IntKind.bits .u8) 128).toNat))) rfl rfl dc rfl) (VE (kq (cs := [(.int .u8 (IntKind.u8.wrap (BitVec.ofInt (IntKind.bits .u8) (IntKind.u8.wrap c) ||| BitVec.ofInt (IntKind.bits .u8) 128).toNat))].toArray) d (lW rfl) (mr cQ sizeOf5 jb) (fun c3 A d => ?_))))))))))))))
   replace d := d.perm (Nr (Qb (Qb Qz)) Nz)
   refine bS g fun Q Y g => VE (nW (enc := (kN .u8)) (v := z) (vs := (.slice (some ⟨A, 0, none⟩) 1 1)) (R := u) d (fun _ => rfl) dc (Hk _) cQ sD.1 sD.2.1 rfl sD.2.2.1 sD.2.2.2 rfl rfl T (Sl.lit (enc := (kN .u8)) (l := [(IntKind.u8.wrap (BitVec.ofInt (IntKind.bits .u8) (IntKind.u8.wrap c) ||| BitVec.ofInt (IntKind.bits .u8) 128).toNat)]) (fun _ => rfl) rfl nb rfl (d.at_ (Ma Mh))) Y (fun P c1 a2 d M => Wn (Wf zG ?_)))
   obtain ⟨B, H, rfl⟩ := M.form
   replace d := d.perm (Nb (Pr (Pb Pz)) Nz)
   refine VO (jR (.slice B Q.length H) (#[(.slice B Q.length H)]) d rfl rfl iy oc nb rfl (fun b5 d => kk (kA (jI ?_))))
   replace d := d.jy (Kb (Kr (Db St)))
   exact jL (Wh K (V (Ia (a := c) (b := 7) rfl rfl dc) (Wa (ln ⟨L, bG _, (Int.fdiv c (2 ^ min (Int.toNat 7) (IntKind.bits .i64))), (.slice B Q.length H), Q, a2, _, (d.jy St), x, rfl, M, g⟩))))
  refine mF (ml (ml (oU (jI (sg (Wh x (Wh x (Wn (Wf zG (VB d Mh rfl rfl iK (Wh K (V (ri (k' := .i64) (a := c) er fF rfl) (VE (kq (cs := [(.int .u8 (IntKind.u8.wrap c))].toArray) d (lW rfl) (mr cQ sizeOf5 jb) (fun b6 a5 d => ?_)))))))))))))))
  replace d := d.perm (Nr (Qb (Qb Qz)) Nz)
  refine bS g fun J Z g => VE (nW (enc := (kN .u8)) (v := z) (vs := (.slice (some ⟨a5, 0, none⟩) 1 1)) (R := u) d (fun _ => rfl) dc (Hk _) cQ sD.1 sD.2.1 rfl sD.2.2.1 sD.2.2.2 rfl rfl T (Sl.lit (enc := (kN .u8)) (l := [(IntKind.u8.wrap c)]) (fun _ => rfl) rfl nb rfl (d.at_ (Ma Mh))) Z (fun b7 c2 a3 d N => Wn (Wf zG ?_)))
  obtain ⟨D, I, rfl⟩ := N.form
  replace d := d.perm (Nb (Pr (Pb Pz)) Nz)
  refine VO (jR (.slice D J.length I) (#[(.slice D J.length I)]) d rfl rfl iy oc nb rfl (fun b9 d => ln ?_))
  replace d := d.jy (Kb (Kr (Db St)))
  refine sg (Wa (lt ?_))
  obtain rfl := sj g
  exact lB (v := (.bool true)) rfl rfl ⟨_, _, rfl, (d.lO (Kb (Kr Sn))), (.slice D J.length I), a3, rfl, rfl, N⟩
theorem Gh (g : Nat) (c : Value) (j : List Int) (a : LO) (u : Value) (D : List Int) (r : (Bool × (List Int))) (w : World) {Z : km} (h : ni Z ((g, Ob #[c] 215) :: (a ++ [])) w) (i : jZ 5 (kN .u8) 1 c j a) (k : Sl (Pl (kN .u8)) 1 Z u D) (hm : xQ j D = some r) :
  kY true pg0 171 [(.pointer (some ⟨g, 0, none⟩)), u] w ((g, Ob #[c] 215) :: (a ++ [])) (fun v L1 W' => ∃ U M, v = (.bool (r.1)) ∧ L1 = ((g, Ob #[U] 215) :: (M ++ [])) ∧ jZ 5 (kN .u8) 1 U r.2 M) := by
 refine wB h 25 func171 rfl (fun b => sg (Wa (lS (Wm (V (uH fU rfl rfl) (Wm (Vg rfl rfl (jH rfl) (Vg rfl rfl (kU cQ rfl k) (Vg rfl rfl (kG rfl rfl rfl) ?_)))))))))
 refine V (jT rfl rfl) (ln (CI hm rfl (fun Q hm => ?_) (fun Q hm => ?_)))
 ·refine sg (Wa (lt (kw ?_)))
  obtain rfl := sj hm
  exact lB (v := (.bool false)) rfl rfl ⟨_, _, rfl, (b.lO (Kb (Kr Sn))), c, a, rfl, rfl, i⟩
 refine kg (Wm (Wm (V (kU cQ rfl k) (bS hm fun A T hm => ?_))))
 refine VE (eM b (Cb Pz (Cr Qz Cn)) call170 (fun l _ => (rp g c j a (D.length : Int) _ _ l i T)) ?_)
 rintro _ v8 n a3 b H m d ⟨Y, K, t, rfl, I⟩
 obtain rfl := t.symm
 replace b := b.perm (Tb (Tr Tn))
 refine lr (Wm (Wm (Wn (Wf zG (VB b Mh rfl rfl iK (Wm ?_))))))
 replace b := b.perm (Nr (Qb Qz) Nz)
 refine bS hm fun B G hm => VE (nW (enc := (kN .u8)) (v := Y) (vs := u) (R := K) b (fun _ => rfl) dc (Hk _) cQ sD.1 sD.2.1 rfl sD.2.2.1 sD.2.2.2 rfl rfl I (k.mono (Pl.mono _) (H.trans b.jB)) G (fun a4 p J b z => Wn (Wf zG ?_)))
 obtain ⟨x, y, rfl⟩ := z.form
 replace b := b.perm (Nb (Pr Pz) Nz)
 refine VO (jR (.slice x B.length y) (#[(.slice x B.length y)]) b rfl rfl iy oc nb rfl (fun a5 b => lr (Wa (lt ?_))))
 obtain rfl := sj hm
 exact lB (v := (.bool true)) rfl rfl ⟨_, _, rfl, (b.lO (Kb (Kr Sn))), (.slice x B.length y), J, rfl, rfl, z⟩
theorem yU (j : Nat) (c : Value) (t : List Int) (a : LO) (J : ByteArray) (r : (Bool × (List Int))) (w : World) {Z : km} (O : ni Z ((j, Ob #[c] 215) :: (a ++ [])) w) (k : jZ 5 (kN .u8) 1 c t a) (hm : tP t J = some r) :
  kY true pg0 213 [(.pointer (some ⟨j, 0, none⟩)), (.string J)] w ((j, Ob #[c] 215) :: (a ++ [])) (fun v L1 W' => ∃ n S2, v = (.bool (r.1)) ∧ L1 = ((j, Ob #[n] 215) :: (S2 ++ [])) ∧ jZ 5 (kN .u8) 1 n r.2 S2) := by
 refine wB O 17 func213 rfl (fun b => sg (Wa (lr (Wm (V (D5 fU rfl rfl) (Wm (Vg rfl rfl (jH rfl) (bS hm fun r1 a4 hm => OO rfl rfl (Eg b call93 (wM J _ _  a4) (fun W3 b => V (jS rfl rfl) ?_))))))))))
 refine Wm (LJ hm (fun B E W => ∃ z x D I, kj Z D ∧ ST true (keys ((j, Ob #[c] 215) :: (a ++ []))) w W D ((j, Ob #[z] 215) :: (x ++ I)) ∧ E 4 = (.bool false) ∧ E 16 = (.bool B.1) ∧ jZ 5 (kN .u8) 1 z B.2 x) 5 ?_ (fun B g y => ?_))
 ·rintro ⟨A, c0⟩ E W ⟨z, x, D, I, R, b, b9, a3, T⟩ M
  refine Wg a3 (lt ?_)
  obtain rfl := sj M
  exact lB (v := (.bool A)) rfl rfl ⟨_, _, rfl, (b.lO (Kb (Kr Sn))), z, x, rfl, rfl, T⟩
 refine bC g (fun i g => ?_) (fun i g => ?_)
 ·refine ug i (jH rfl) (ug i (jH rfl) (bS g fun a5 N g => pE i (Jn b bW cQ fF rfl N (fun b6 p c3 b G l U b4 => bS g fun c1 Q g => ?_))))
  refine pE i (eM b (Cb Pz (Cr Qz Cn)) call171 (fun P h => (Gh j c t a p a5 _ _ P k (U.mono (Pl.mono _) h) Q)) ?_)
  rintro _ c2 L b5 b H m d ⟨a9, a2, u, rfl, Y⟩
  obtain rfl := u.symm
  replace b := b.perm (Tb (Tr Tn))
  refine V (jS (cB i) rfl) ?_
  obtain rfl := sj g
  exact y _ _ ⟨a9, a2, L, _, (G.trans H), (b.jy St), rfl, rfl, Y⟩
 refine un i (un i (un i (un i (V (jT (cB i) rfl) ?_))))
 obtain rfl := sj g
 exact y _ _ ⟨c, a, Z, _, (kj.refl _), (b.jy St), rfl, rfl, k⟩
theorem vu (c : Nat) (i : Value) (D : List Int) (a : LO) (x : ju) (r : (Bool × (List Int))) (w : World) {μ0 : km} (h0 : ni μ0 ((c, Ob #[i] 215) :: (a ++ [])) w) (y : jZ 5 (kN .u8) 1 i D a) (hm : pU D x = some r) :
  kY true pg0 212 [(.pointer (some ⟨c, 0, none⟩)), (.agg (jE x).toArray)] w ((c, Ob #[i] 215) :: (a ++ [])) (fun v L1 W' => ∃ A S2, v = (.bool (r.1)) ∧ L1 = ((c, Ob #[A] 215) :: (S2 ++ [])) ∧ jZ 5 (kN .u8) 1 A r.2 S2) := by
 let l := ((c, Ob #[i] 215) :: (a ++ []))
 refine wB h0 23 func212 rfl (fun b => sg (VE (kd b rfl (fun W2 m b => Wa (lr (Wm (V (D5 fU rfl rfl) (Wm (Vg rfl rfl (jA rfl (jD b.has Mh (jE x) rfl bn aN)) (bS hm fun r3 c4 hm => OO rfl rfl (Eg b jt (tR x _ _  c4) (fun W5 b => ?_))))))))))))
 refine V (jS rfl rfl) (Wm (LJ hm (fun T E W => ∃ z u B a0, kj μ0 B ∧ ST true (keys l) w W B ((m, Ol (jE x) 27) :: ((c, Ob #[z] 215) :: (u ++ a0))) ∧ E 0 = (.pointer (some ⟨c, 0, none⟩)) ∧ E 3 = (.pointer (some ⟨m, 0, none⟩)) ∧ E 4 = (.bool false) ∧ E 16 = (.bool T.1) ∧ jZ 5 (kN .u8) 1 z T.2 u) 5 ?_ (fun T t K => ?_)))
 ·rintro ⟨e6, c5⟩ E W ⟨z, u, B, a0, d2, b, c0, c1, a3, c2, N⟩ L
  refine Wh c2 (LJ L (fun Q E W => ∃ M I U a2, kj B U ∧ ST true (keys l) w W U ((c, Ob #[M] 215) :: (I ++ a2)) ∧ E 4 = (.bool false) ∧ E 22 = (.bool Q.1) ∧ jZ 5 (kN .u8) 1 M Q.2 I) 5 ?_ (fun Q k J => ?_))
  ·rintro ⟨c6, e1⟩ E W ⟨M, I, U, a2, d3, b, e0, c3, R⟩ O
   refine Wg c3 (lt ?_)
   obtain rfl := sj O
   exact lB (v := (.bool c6)) rfl rfl ⟨_, _, rfl, (b.lO (Kb (Kr Sn))), M, I, rfl, rfl, R⟩
  refine bC k (fun g k => ?_) (fun g k => ?_)
  ·refine ug g (jH c0) (ug g (jG tG c1) (ug g (jA rfl (jP b.has Mh rfl bM)) (bS k fun e2 P k => ?_)))
   refine pE g (eM b (Cb (Pb Pz) (Cr (Qb Qz) Cn)) call213 (fun h _ => (yU c z c5 u x.Word _ _ h N P)) ?_)
   rintro _ e4 d0 d6 b Y n d ⟨c8, b6, G, rfl, b2⟩
   obtain rfl := G.symm
   replace b := b.perm (Tb (Tr Tn))
   refine V (jS (cB g) rfl) ?_
   obtain rfl := sj k
   exact J _ _ ⟨c8, b6, d0, _, Y, (b.jy (Kb (Kr (Db St)))), a3, rfl, b2⟩
  refine un g (un g (un g (un g (V (jT (cB g) rfl) ?_))))
  obtain rfl := sj k
  exact J _ _ ⟨z, u, B, _, (kj.refl _), (b.jy (Db St)), a3, rfl, N⟩
 refine bC t (fun j t => ?_) (fun j t => ?_)
 ·refine ug j (jH rfl) (ug j (jG oM rfl) (ug j (jA rfl (jP b.has Mh rfl bM)) (bS t fun e3 a9 t => ?_)))
  refine pE j (eM b (Cb (Pb Pz) (Cr (Qb Qz) Cn)) call213 (fun h _ => (yU c i D a x.jw _ _ h y a9)) ?_)
  rintro _ e5 d1 d7 b Z p d ⟨c9, b7, H, rfl, b3⟩
  obtain rfl := H.symm
  replace b := b.perm (Tb (Tr Tn))
  refine V (jS (cB j) rfl) ?_
  obtain rfl := sj t
  exact K _ _ ⟨c9, b7, d1, _, Z, (b.jy (Sb (Pb (Pr Pz)) St)), rfl, rfl, rfl, rfl, b3⟩
 refine un j (un j (un j (un j (V (jT (cB j) rfl) ?_))))
 obtain rfl := sj t
 exact K _ _ ⟨i, a, μ0, _, (kj.refl _), (b.jy St), rfl, rfl, rfl, rfl, y⟩
theorem Jz (g : Value) (i r : List Int) (w : World) (a : Sl (Pl (kN .u8)) 1 (hp w) g i) (hm : ur i = some r) :
  lV true pg0 234 [g] w 5 (kN .u8) 1 r := by
 unfold ur at hm
 refine vi 8 func234 rfl (fun b => sg (Wa (lS (Wm ?_))))
 obtain ⟨y, B, rfl⟩ := a.form
 refine V (BV cQ rfl rfl) (ln ?_)
 rcases y with _ | z
 ·have u := a.isNil
  replace hm : some [] = some r := by rw [u] at hm; simpa [mE, maxLen] using hm
  refine xg (rfl) (sg (Wa (lt (kw ?_))))
  obtain rfl := sj hm
  exact lB (v := (.slice none 0 0)) rfl rfl ⟨_, [], rfl, b.nM (fun p d => by cases d) (by simp), jZ.nil _ _ _⟩
 ·refine qI (rfl) (kg (VE (kq (cs := #[]) b qt (Bi [] cQ sizeOf5 jb dc rfl (by simp) rfl rfl) (fun G k b => Wm (bS hm fun H t hm => VE (nW (enc := (kN .u8)) (v := (.slice (some ⟨k, 0, none⟩) 0 0)) (vs := (.slice (some z) i.length B)) (R := [(k, Ob #[] 5)]) b (fun _ => rfl) dc (Hk _) cQ sD.1 sD.2.1 rfl sD.2.2.1 sD.2.2.2 rfl rfl (jZ.lit (l := []) (enc := (kN .u8)) rfl dc rfl rfl) (a.mono (Pl.mono _) b.jB) t (fun D x j b c => Wa (lt ?_))))))))
  obtain rfl := sj hm
  exact lB (v := x) rfl rfl ⟨_, j, rfl, b.nM (fun p d => (Ml d)) c.nd, c⟩
theorem Br (g : Nat) (a : Value) (c r : List Int) (w : World) (j : Sl (Pl (kN .u8)) 1 (hp w) a c) (k : At (hp w) (.pointer (some ⟨g, 0, none⟩)) [a]) (hm : tO c = some r) :
  lV true pg0 173 [(.pointer (some ⟨g, 0, none⟩))] w 5 (kN .u8) 1 r := by
 refine vi 10 func173 rfl (fun b => sg (Wa (lS (Wm (V (uH fU rfl rfl) (ln (qI rfl (kX ?_))))))))
 refine jI (sg (Wm (Wn (VQ (Cl [a] zG rfl k rfl) (fun G u => V (jA rfl (pA b.has (y := a) u iK)) (bS hm fun H x hm => VE (tU b call234 (Jz a c _ _ (j.mono (Pl.mono _) b.jB) x) (fun D z I t b B d i => Wa (lt ?_)))))))))
 obtain rfl := sj hm
 exact lB (v := z) rfl rfl ⟨_, t, rfl, b.nM (fun p h => (Ml h)) i.nd, i⟩
theorem FF (c : jv) (r : List Int) (w : World) (hm : wT c = some r) :
  lV true pg0 152 [(.agg (jz c).toArray)] w 5 (kN .u8) 1 r := by
 refine vi 53 func152 rfl (fun d => sg (VE (kd d rfl (fun W2 b1 d => Wa (lS (VA d Mh (jz c) bR aJ (bS hm fun r3 g3 hm => VE (Eg d call144 (wZ c _ _  g3) (fun W5 d => V (mT rfl) (kk ?_))))))))))
 refine jI (CI hm rfl (fun g0 hm => ?_) (fun g0 hm => ?_))
 ·refine sg (Wa (ln ?_))
  replace d := d.jy (Db St)
  refine kh (kw ?_)
  obtain rfl := sj hm
  exact lB (v := (.slice none 0 0)) rfl rfl ⟨_, [], rfl, d.nM (fun p m => by cases m) (by simp), jZ.nil _ _ _⟩
 refine kg (V (lC (v := (.agg #[(.slice none 0 0)])) qt (kW zeroValue215 fT (Qv _ fT) kr)) (VE (kd d rfl (fun W8 g d => Wa (lr (Wm (Wf pR (VB d (Mt Mh) rfl rfl bY (bS hm fun r9 e2 hm => ?_)))))))))
 refine VE (eM d (Cb Pz (C0 Cn)) call170 (fun l _ => (rp g (.slice none 0 0) ([]) [] c.Kind _ _ l (jZ.nil _ _ _) e2)) ?_)
 rintro _ k3 k5 j9 d g7 a7 h ⟨g4, f9, I, rfl, e4⟩
 obtain rfl := I.symm
 replace d := d.perm (Tb (Tr Tn))
 refine lr (Wm (Wf qp (VA d (Mt (Ma Mh)) (jE c.Head) bn aN (bS hm fun N e3 hm => ?_))))
 refine VE (eM d (Cb Pz (Cr Qz Cn)) call212 (fun l _ => (vu g g4 r9.2 f9 c.Head _ _ l e4 e3)) ?_)
 rintro _ k4 d1 k0 d g8 a8 h ⟨G, D, J, rfl, i⟩
 obtain rfl := J.symm
 replace d := d.perm (Tb (Tr Tn))
 refine ln (jM (CJ hm (fun a3 E W => ∃ B H K Q, kj d1 K ∧ ST true kx w W K ((g, Ob #[B] 215) :: (H ++ Q)) ∧ E 3 = (.pointer (some ⟨g, 0, none⟩)) ∧ jZ 5 (kN .u8) 1 B a3 H) (fun a3 a => ?_) ?_))
 ·refine sg (Wf pR (VB d (Mt (Ma Mh)) rfl rfl bY (ln (bg (Wi rfl (Wa (ln (CI a rfl (fun b0 a => ?_) (fun b0 a => ?_)))))))))
  ·refine jL (Wm (Wf vT (VB d (Mt (Ma Mh)) rfl rfl bM (bS a fun i3 b6 a => ?_))))
   refine VE (eM d (Cb Pz (Cr Qz Cn)) call213 (fun l _ => (yU g G N.2 D c.kE _ _ l i b6)) ?_)
   rintro _ i8 f5 g9 d T A h ⟨e9, d3, k, rfl, c5⟩
   obtain rfl := k.symm
   replace d := d.perm (Tb (Tr Tn))
   refine kk (kA (jI ?_))
   obtain rfl := sj a
   exact ⟨e9, d3, f5, _, T, (d.jy (Kb (Kr (Db St)))), rfl, c5⟩
  refine sg (Wi rfl (Wa (ln (CI a rfl (fun b2 a => ?_) (fun b2 a => ?_)))))
  ·refine jL (Wm (Wf nD (VA d (Mt (Ma Mh)) (jE c.B) bn aN (bS a fun i4 b9 a => ?_))))
   refine VE (eM d (Cb Pz (Cr Qz Cn)) call212 (fun l _ => (vu g G N.2 D c.B _ _ l i b9)) ?_)
   rintro _ i9 f6 h0 d U L h ⟨f0, d4, t, rfl, c6⟩
   obtain rfl := t.symm
   replace d := d.perm (Tb (Tr Tn))
   refine kk (kA (jI ?_))
   obtain rfl := sj a
   exact ⟨f0, d4, f6, _, U, (d.jy (Kb (Kr (Db St)))), rfl, c6⟩
  refine sg (Wi rfl (Wa (ln (CI a rfl (fun b3 a => ?_) (fun b3 a => ?_)))))
  ·refine sg (Wm (Wf nD (VA d (Mt (Ma Mh)) (jE c.B) bn aN (bS a fun e6 c0 a => ?_))))
   refine VE (eM d (Cb Pz (Cr Qz Cn)) call212 (fun l _ => (vu g G N.2 D c.B _ _ l i c0)) ?_)
   rintro _ j0 j7 h1 d Y O h ⟨f1, d5, u, rfl, c7⟩
   obtain rfl := u.symm
   replace d := d.perm (Tb (Tr Tn))
   refine ln (jL (Wm (Wf uD (VB d (Mt (Ma Mh)) rfl rfl bM (bS a fun i5 c1 a => ?_)))))
   refine VE (eM d (Cb Pz (Cr Qz Cn)) call213 (fun l _ => (yU g f1 e6.2 d5 c.kL _ _ l c7 c1)) ?_)
   rintro _ j3 f7 h2 d Z P h ⟨f2, d6, x, rfl, c8⟩
   obtain rfl := x.symm
   replace d := d.perm (Tb (Tr Tn))
   refine kk (kA (jI ?_))
   obtain rfl := sj a
   exact ⟨f2, d6, f7, _, (Y.trans Z), (d.jy (Kb (Kr (Db St)))), rfl, c8⟩
  refine sg (Wi rfl (Wa (ln (CI a rfl (fun b4 a => ?_) (fun b4 a => ?_)))))
  ·refine sg (Wm (Wf nD (VA d (Mt (Ma Mh)) (jE c.B) bn aN (bS a fun e7 c2 a => ?_))))
   refine VE (eM d (Cb Pz (Cr Qz Cn)) call212 (fun l _ => (vu g G N.2 D c.B _ _ l i c2)) ?_)
   rintro _ j4 j8 h3 d a1 R h ⟨f3, d7, y, rfl, c9⟩
   obtain rfl := y.symm
   replace d := d.perm (Tb (Tr Tn))
   refine ln (jL (Wm (Wf rV (VA d (Mt (Ma Mh)) (jE c.C) bn aN (bS a fun i6 c3 a => ?_)))))
   refine VE (eM d (Cb Pz (Cr Qz Cn)) call212 (fun l _ => (vu g f3 e7.2 d7 c.C _ _ l c9 c3)) ?_)
   rintro _ j5 f8 h4 d a2 a6 h ⟨f4, d8, z, rfl, d0⟩
   obtain rfl := z.symm
   replace d := d.perm (Tb (Tr Tn))
   refine kk (kA (jI ?_))
   obtain rfl := sj a
   exact ⟨f4, d8, f8, _, (a1.trans a2), (d.jy (Kb (Kr (Db St)))), rfl, d0⟩
  refine kX (kA (jI ?_))
  obtain rfl := sj a
  exact ⟨G, D, d1, _, (kj.refl _), (d.jy (Kb (Kr (Db St)))), rfl, i⟩
 rintro e5 E W ⟨B, H, K, Q, g1, d, d9, c4⟩ j
 refine sg (Wh d9 (bS j fun i2 b5 j => VE (tU d call173 (Br g B e5 _ _ (c4.sl (fun _ => rfl) (fun b o m => d.at_ (Mt (Ml m)))) (At.of (d.at_ Mh) _ rfl) b5) (fun h5 e8 j6 d2 d g2 n M => Wa (ln ?_)))))
 replace d := d.jy (Kr (Db (Dr St)))
 refine kh ?_
 obtain rfl := sj j
 exact lB (v := e8) rfl rfl ⟨_, d2, rfl, d.nM (fun p m => (Ml m)) M.nd, M⟩
theorem SY (w : World) {d g : Value} {a b : List Int} (h1 : Sl (Pl (kN .u8)) 1 (hp w) d a) (h : Sl (Pl (kN .u8)) 1 (hp w) g b) : (callFunc 211 [d, g].toArray).run pg0 w = .ok (.value (.int .i64 (yB a b))) w := PU func211 (by kernel_rfl) (by kernel_rfl) (by kernel_rfl) (by kernel_rfl) h1 h
theorem B3 (a : Value) (g : List Int) (c : Value) (i : List Int) (r : Int) (w : World) (j : Sl (Pl (kN .u8)) 1 (hp w) a g) (k : Sl (Pl (kN .u8)) 1 (hp w) c i) (hm : wK g i = some r) :
  jV true pg0 151 [a, c] w (.int .i64 r) := by
 exact cG 8 func151 rfl (fun b => sg (Wa (lr (Wm (Wm (VE (JP (args := [a, c]) (v := .int .i64 (yB g i)) rfl (by exact uI rfl rfl) (SY _ (j.mono (Pl.mono _) b.jB) (k.mono (Pl.mono _) b.jB)) (Wa (lt (rQ hm b))))))))))
theorem CT (g i : jv) (r : Int) (w : World) (hm : qv g i = some r) :
  jV true pg0 81 [(.agg (jz g).toArray), (.agg (jz i).toArray)] w (.int .i64 r) := by
 refine cG 10 func81 rfl (fun d => sg (VE (kd d rfl (fun T Y d => VE (kd d rfl (fun U Z d => Wa (ln (jM ?_))))))))
 replace d := d.drew
 have h := d.has.jy (Kb (Kb Sn))
 refine kI h kl (XH 0 rfl h (fun _ l => jA rfl (jD l (Mt Mh) (jz g) rfl bR aJ)) (XH 2 rfl h (fun _ l => jA rfl (jD l Mh (jz i) rfl bR aJ)) (bS hm fun y t hm => XE 1 rfl (tU d call152 (FF g _ _  t) (fun I B N G d a n j => ?_)))))
 have h := d.has.wV a (Dr (Kb (Kb Sn)))
 refine ⟨h, (bS hm fun z u hm => XE 3 rfl (tU d call152 (FF i _ _  u) (fun J D Q H d c p k => ?_)))⟩
 have h := d.has.wV (a.trans c) (Dr (Dr (Kb (Kb Sn))))
 refine ⟨h, (bS hm fun M x hm => XE 4 rfl (Eg d call151 (B3 B y D z _ _ (j.sl (fun _ => rfl) (fun b o m => d.at_ (Ma (Ml m)))) (k.sl (fun _ => rfl) (fun b o m => d.at_ (Ml m))) x) (fun K d => ?_)))⟩
 have h := d.has.wV (a.trans c) (Dr (Dr (Kb (Kb Sn))))
 refine ⟨h, (X 5 rfl h (mP rfl) (kT kr (jI ?_)))⟩
 exact kh (rQ hm d)
theorem xu (i : Value) (I : List jQ) (g : LO) (y D : Int) (t : Value) (J : (jQ × jQ) → Option Int) (r : List jQ) (w : World) {M : km} (d : ni M (g ++ []) w) (K : jZ 197 kQ 4 i I g) (a4 : tF pg0 t M (fun (x : (jQ × jQ)) => [(.agg (kQ x.1).toArray), (.agg (kQ x.2).toArray)]) (fun (r : Int) => (.int .i64 r)) J) (hm : su I y D J = some r) :
  kY false pg0 271 [i, (.int .i64 y), (.int .i64 D), t] w (g ++ []) (fun v Z W' => ∃ N, v = (.tuple #[]) ∧ Z = (N ++ []) ∧ jZ 197 kQ 4 i r N) := by
 refine wB d 53 func271 rfl (fun b => sg (Wm (Wi rfl (Wa (ln (pk (kZ (mG (fun m E W => ∃ j c k u, ST false (keys (g ++ [])) w W M (c ++ u) ∧ E 0 = i ∧ E 1 = (.int .i64 y) ∧ E 2 = (.int .i64 D) ∧ E 3 = t ∧ E 8 = (.int .i64 k) ∧ jZ 197 kQ 4 i j c ∧ oJ D y J m j k = some r) ki ⟨I, g, (wi0 .i64 (y + 1)), _, (b.jy St), rfl, rfl, rfl, rfl, rfl, K, hm⟩ ?_))))))))
 rintro m E W ⟨j, c, k, u, b, Q, T, G, U, H, B, a⟩
 cases m with
 | zero => rw [oJ] at a; cases a
 | succ Y =>
  refine jM (sg (Wh H (Wh G (Wi rfl (ln (CI a rfl (fun z a => ?_) (fun z a => ?_)))))))
  ·cases a
  refine mF (ml (ml (oU (jI (nQ ?_)))))
  obtain rfl := sj a
  exact nr rfl ⟨_, _, rfl, (b.lO (Kr Sn)), c, rfl, rfl, B⟩
theorem zJ (g : Value) (a0 : List jQ) (i : LO) (z : Int) (j : Value) (f2 : (jQ × jQ) → Option Int) (r : List jQ) (w : World) {μ0 : km} (h0 : ni μ0 (i ++ []) w) (c5 : jZ 197 kQ 4 g a0 i) (c6 : tF pg0 j μ0 (fun (x : (jQ × jQ)) => [(.agg (kQ x.1).toArray), (.agg (kQ x.2).toArray)]) (fun (r : Int) => (.int .i64 r)) f2) (hm : ve a0 z f2 = some r) :
  kY false pg0 214 [g, (.int .i64 z), j] w (i ++ []) (fun v L1 W' => ∃ S1, v = (.tuple #[]) ∧ L1 = (S1 ++ []) ∧ jZ 197 kQ 4 g r S1) := by
 refine wB h0 63 func214 rfl (fun b => sg (Wa (lr (Wm (Wa (Wa (ln (jM (kZ (mG (fun m E W => ∃ N M Q d h U, kj μ0 h ∧ ST false (keys (i ++ [])) w W h (M ++ U) ∧ E 0 = g ∧ E 1 = (.int .i64 z) ∧ E 2 = j ∧ E 6 = (.int .i64 20) ∧ E 7 = (.int .i64 Q) ∧ E 8 = (.int .i64 d) ∧ jZ 197 kQ 4 g N M ∧ qG z f2 m N Q d = some r) ki ⟨a0, i, 0, 20, μ0, _, (kj.refl _), (b.jy St), rfl, rfl, rfl, rfl, rfl, rfl, c5, hm⟩ ?_))))))))))
 rintro m E W ⟨N, M, Q, d, h, U, a5, b, Z, B, a2, c2, c3, c4, c7, a⟩
 cases m with
 | zero => rw [qG] at a; cases a
 | succ e0 =>
  refine jM (sg (Wh c4 (Wh B (Wi rfl (ln (CI a rfl (fun L a => ?_) (fun L a => ?_)))))))
  ·cases a
  refine mF (ml (ml (oU (jI (sg (Wh Z (Wh c3 (Wh B (Wh a2 (bS a fun c8 R a => ?_))))))))))
  refine VE (eM b (Cr Qz Cn) call271 (fun hh p => (xu g N M Q z j f2 _ _ hh c7 (c6.mono (a5.trans p)) R)) ?_)
  rintro _ e1 I d6 b d0 l n ⟨c0, u, rfl, b7⟩
  obtain rfl := u.symm
  replace b := b.perm (Tr Tn)
  refine ln (pk (CJ a (fun G E W => ∃ k J Y, kj I J ∧ ST false (keys (i ++ [])) w W J (k ++ Y) ∧ jZ 197 kQ 4 g G k) (fun G P => ?_) ?_))
  ·refine kZ (mG (fun m E W => ∃ D t H y K, kj I y ∧ ST false (keys (i ++ [])) w W y (t ++ K) ∧ E 0 = g ∧ E 1 = (.int .i64 z) ∧ E 2 = j ∧ E 6 = (.int .i64 H) ∧ jZ 197 kQ 4 g D t ∧ qD z f2 m D H = some G) ki ⟨c8, c0, 20, I, _, (kj.refl _), (b.jy St), Z, B, a2, c2, b7, P⟩ ?_)
   rintro m E W ⟨D, t, H, y, K, T, b, d2, A, d3, a9, b6, c⟩
   cases m with
   | zero => rw [qD] at c; cases c
   | succ d4 =>
    refine jM (sg (Wh a9 (Wh A (Wi rfl (ln (CI c rfl (fun a4 c => ?_) (fun a4 c => ?_)))))))
    ·cases c
    refine mF (ml (ml (oU (jI ?_))))
    obtain rfl := sj c
    exact ⟨t, y, _, T, (b.jy St), b6⟩
  rintro d9 E W ⟨k, J, Y, d1, b, b5⟩ O
  refine nQ ?_
  obtain rfl := sj O
  exact nr rfl ⟨_, _, rfl, (b.lO (Kr Sn)), k, rfl, rfl, b5⟩
theorem ua (c : Value) (k : List jQ) (a : LO) (i : Value) (t : (jQ × jQ) → Option Int) (r : List jQ) (w : World) {H : km} (J : ni H (a ++ []) w) (j : jZ 197 kQ 4 c k a) (u : tF pg0 i H (fun (x : (jQ × jQ)) => [(.agg (kQ x.1).toArray), (.agg (kQ x.2).toArray)]) (fun (r : Int) => (.int .i64 r)) t) (hm : pg k t = some r) :
  kY false pg0 153 [c, i] w (a ++ []) (fun v I W' => ∃ z, v = (.tuple #[]) ∧ I = (z ++ []) ∧ jZ 197 kQ 4 c r z) := by
 refine wB J 9 func153 rfl (fun b => jL (Wm (Wm (V (nw underlying129 rfl j) (Wm (bS hm fun Q G hm => ?_))))))
 refine VE (eM b (Cr Qz Cn) call214 (fun l h => (zJ c k a (k.length : Int) i t _ _ l j (u.mono h) G)) ?_)
 rintro _ T U M b K m d ⟨B, g, rfl, y⟩
 obtain rfl := g.symm
 replace b := b.perm (Tr Tn)
 refine kk (nQ ?_)
 obtain rfl := sj hm
 exact nr rfl ⟨_, _, rfl, (b.lO (Kr Sn)), B, rfl, rfl, y⟩
theorem CH (c g : jQ) (i : Nat) (a : Value) (j : (ju × ju) → Option Int) (r : Int) (w : World) (t : tF pg0 a (hp w) (fun (x : (ju × ju)) => [(.agg (jE x.1).toArray), (.agg (jE x.2).toArray)]) (fun (r : Int) => (.int .i64 r)) j) (k : At (hp w) (.pointer (some ⟨i, 0, none⟩)) [a]) (hm : uO c g j = some r) :
  jV false pg0 154 [(.agg (kQ c).toArray), (.agg (kQ g).toArray), (.pointer (some ⟨i, 0, none⟩))] w (.int .i64 r) := by
 refine cG 12 func154 rfl (fun b => sg (VE (kd b rfl (fun z G b => VE (kd b rfl (fun B H b => Wa (lr (V (jA rfl (pA b.has (y := a) k isAgg140)) (Wf LR (VA b (Mt Mh) (jE c.key) bn aN (Wf LR (VA b Mh (jE g.key) bn aN ?_))))))))))))
 refine bS hm fun I u hm => VE (La (c.key, g.key) b t (kj.refl _) rfl (uI rfl rfl) u (fun D b => Wa (ln ?_)))
 exact kh (rQ hm b)
theorem Ey (k : Value) (a0 : List jQ) (g : LO) (K : Value) (M : (ju × ju) → Option Int) (r : (ByteArray × (List jQ))) (w : World) {μ0 : km} (h0 : ni μ0 (g ++ []) w) (a6 : jZ 197 kQ 4 k a0 g) (H : tF pg0 K μ0 (fun (x : (ju × ju)) => [(.agg (jE x.1).toArray), (.agg (jE x.2).toArray)]) (fun (r : Int) => (.int .i64 r)) M) (hm : zu a0 M = some r) :
  kY false pg0 82 [k, K] w (g ++ []) (fun v L1 W' => ∃ S1, v = (.string (r.1)) ∧ L1 = (S1 ++ []) ∧ jZ 197 kQ 4 k r.2 S1) := by
 refine wB h0 27 func82 rfl (fun b => sg ?_)
 obtain ⟨L, O, P, rfl⟩ := H.form
 refine VE (kd b rfl (fun W5 p b => Wa (lr (Wm (V (pc (by exact qW rfl) rfl) (bS hm fun Y b1 hm => ?_))))))
 refine VE (yH b (Cr (Qb Qz) Cn) call153 (fun hH R m l => (ua k a0 g (.func (.func 154) #[] #[(.pointer (some ⟨p, 0, none⟩))]) (fun (x : (jQ × jQ)) => uO x.1 x.2 M) _ _ ⟨hH, R, kj.refl _⟩ a6 ⟨154, #[], #[(.pointer (some ⟨p, 0, none⟩))], rfl, call154, fun W x r hs hm => CH x.1 x.2 p (.func L O P) M r W (H.mono (m.trans hs)) (At.of (hs _ _ (l _ _ Mh)) _ rfl) hm⟩ b1)) (fun W8 d0 n c8 b b5 aa d a4 => ?_))
 obtain ⟨Z, z, rfl, B⟩ := a4
 replace z := z.symm; subst z
 replace b := b.perm (Tr Tn)
 refine ln ?_
 replace b := b.jy (Kr (Db St))
 refine sg (VE (Hn (e := 5) b zeroValue93 (fun c9 J a8 b a5 => lS (Wm (V (nw underlying129 rfl B) (Wm (ln (kC (fun i E W => ∃ j c u y, (E 13 = .int .i64 (i : Nat) ∧ E 12 = .int .i64 (Y.length : Nat)) ∧ kj n u ∧ ST false (keys (g ++ [])) w W u (c ++ (Z ++ y)) ∧ E 5 = J ∧ E 11 = k ∧ IB 93 5 J j c ∧ rR Y (Y.drop i) j = some r) Y.length B.len ⟨zS, a8, n, _, ⟨rfl, rfl⟩, (kj.refl _), (b.jy St), rfl, rfl, a5, hm⟩ dc dc dc (fun _ _ _ h => by obtain ⟨_, _, _, _, A, _⟩ := h; exact A) ?_ ?_))))))))
 ·rintro c4 E W Q ⟨j, c, u, y, ⟨eI, eN⟩, I, b, G, a3, D, a⟩
  obtain ⟨c6, b9, U, b6, b7⟩ := kp Q
  rw [U] at a
  rw [rR] at a
  cases a
 rintro E W ⟨j, c, u, y, ⟨eI, eN⟩, I, b, G, a3, D, a⟩
 rw [aH] at a
 rw [rR] at a
 refine jI (sg (bS a fun a7 T a => ?_))
 refine VE (yH b (Cr Qz Cn) call51 (fun hH R m l => kY.lE (Gv J j c _ _ ⟨hH, R, kj.refl _⟩ D T)) (fun c2 c5 c7 c1 b b0 a1 d N => ?_) (ha := MO G))
 obtain ⟨t, rfl⟩ := N
 replace t := t.symm; subst t
 replace b := b.perm Tn
 refine Wa (lt ?_)
 obtain rfl := sj a
 exact lB (v := (.string a7)) rfl rfl ⟨_, _, rfl, (b.lO (Kr Sn)), Z, rfl, rfl, B⟩
theorem Da (z : kD) (i u : Value) (B : kD) (j y : Value) (r : ByteArray) (w : World) (c : Sl jU 15 (hp w) i z.jJ) (k : Sl kH 8 (hp w) u z.jW) (g : Sl jU 15 (hp w) j B.jJ) (t : Sl kH 8 (hp w) y B.jW) (hm : xm z B = some r) :
  jV false pg0 27 [(.agg #[(.string z.Name), i, u]), (.agg #[(.string B.Name), j, y])] w (.string r) := by
 refine cG 22 func27 rfl (fun b => sg ?_)
 obtain ⟨A1, c2, rfl⟩ := c.form
 obtain ⟨A3, c4, rfl⟩ := k.form
 refine VE (kd b rfl (fun W6 b5 b => ?_))
 obtain ⟨A7, c8, rfl⟩ := g.form
 obtain ⟨A9, M, rfl⟩ := t.form
 refine VE (kd b rfl (fun d2 d7 b => Wa (lr (Wf yR (VB b (Mt Mh) rfl rfl jc (Wf yR (VB b Mh rfl rfl jc (bS hm fun Q Y hm => VE (tU b call69 (CS (.slice A1 z.jJ.length c2) z.jJ (.slice A7 B.jJ.length c8) B.jJ (.func (.func 70) #[] #[]) (fun (x : ke) => xN x) (.func (.func 71) #[] #[]) (fun (x : (ke × ke)) => xP x.1 x.2) (.func (.func 73) #[] #[]) (fun (x : ke) => xI x) _ _ (c.mono jX.mono b.jB) (g.mono jX.mono b.jB) ⟨70, #[], #[], rfl, call70, fun W x vs r n d hm => by obtain ⟨_, rfl, a⟩ := d; obtain ⟨D, G, rfl, h, l⟩ := a.out; exact (F3 x D G r W h l hm).lE⟩ ⟨71, #[], #[], rfl, call71, fun W x vs r n d hm => by obtain ⟨_, _, rfl, a, K⟩ := d; obtain ⟨D, G, rfl, h, l⟩ := a.out; obtain ⟨t0, t1, rfl, v, j1⟩ := K.out; exact F6 x.1 D G x.2 t0 t1 r W h l v j1 hm⟩ ⟨73, #[], #[], rfl, call73, fun W x vs r n d hm => by obtain ⟨_, rfl, a⟩ := d; obtain ⟨D, G, rfl, h, l⟩ := a.out; exact (F7 x D G r W h l hm).lE⟩ Y) (fun d3 b7 e3 a9 b J A T => Wa (ln ?_)))))))))))
 refine sg (Wf E9 (VB b (Ma (Mt Mh)) rfl rfl isAgg23 (Wf E9 (VB b (Ma Mh) rfl rfl isAgg23 (bS hm fun R Z hm => VE (tU b call75 (CY (.slice A3 z.jW.length c4) z.jW (.slice A9 B.jW.length M) B.jW (.func (.func 76) #[] #[]) (fun (x : mj) => xM x) (.func (.func 77) #[] #[]) (fun (x : (mj × mj)) => xG x.1 x.2) (.func (.func 78) #[] #[]) (fun (x : mj) => xO x) _ _ (k.mono lx.mono (J.trans b.jB)) (t.mono lx.mono (J.trans b.jB)) ⟨76, #[], #[], rfl, call76, fun W x vs r n d hm => by obtain ⟨_, rfl, a⟩ := d; obtain ⟨D, G, rfl, h, l⟩ := a.out; exact (Ge x D G r W h l hm).lE⟩ ⟨77, #[], #[], rfl, call77, fun W x vs r n d hm => by obtain ⟨_, _, rfl, a, K⟩ := d; obtain ⟨D, G, rfl, h, l⟩ := a.out; obtain ⟨t0, t1, rfl, v, j1⟩ := K.out; exact F9 x.1 D G x.2 t0 t1 r W h l v j1 hm⟩ ⟨78, #[], #[], rfl, call78, fun W x vs r n d hm => by obtain ⟨_, rfl, a⟩ := d; obtain ⟨D, G, rfl, h, l⟩ := a.out; exact (Gc x D G r W h l hm).lE⟩ Z) (fun d4 b9 e4 P b c0 E U => Wa (ln ?_))))))))
 replace b := b.jy (Kr (Kr (Db (Db St))))
 refine sg (Wm (bS hm fun d8 a2 hm => ?_))
 refine VE (eM b (Cr (Qr Qz) Cn) call80 (fun p _ => (Ez b7 Q a9 (.func (.func 81) #[] #[]) (fun (x : (jv × jv)) => qv x.1 x.2) _ _ p T ⟨81, #[], #[], rfl, call81, fun W x r n hm => (CT x.1 x.2 r W  hm).lE⟩ a2)) ?_)
 rintro _ e1 e5 c7 b c1 L m ⟨d0, H, rfl, c5⟩
 obtain rfl := H.symm
 replace b := b.perm (Tr Tn)
 refine Wm (bS hm fun d9 a3 hm => ?_)
 refine VE (eM b (Cr (Qr Qz) Cn) call82 (fun p _ => (Ey b9 R P (.func (.func 83) #[] #[]) (fun (x : (ju × ju)) => pn x.1 x.2) _ _ p U ⟨83, #[], #[], rfl, call83, fun W x r n hm => (CQ x.1 x.2 r W  hm).lE⟩ a3)) ?_)
 rintro _ e2 e6 c9 b c3 O m ⟨d1, I, rfl, c6⟩
 obtain rfl := I.symm
 replace b := b.perm (Tr Tn)
 refine bS hm fun e0 a4 hm => V (oR rfl rfl a4) (Wa (ln ?_))
 exact kh (rQ hm b)
theorem Ed (Y : ByteArray) (u : kD) (k z : Value) (g : kD) (t B : Value) (r : ByteArray) (w : World) (i : Sl jU 15 (hp w) k u.jJ) (x : Sl kH 8 (hp w) z u.jW) (j : Sl jU 15 (hp w) t g.jJ) (y : Sl kH 8 (hp w) B g.jW) (hm : Az Y u g = some r) :
  jV false pg0 60 [(.string Y), (.agg #[(.string u.Name), k, z]), (.agg #[(.string g.Name), t, B])] w (.string r) := by
 refine cG 28 func60 rfl (fun b => sg ?_)
 obtain ⟨T, Z, rfl⟩ := i.form
 obtain ⟨U, d, rfl⟩ := x.form
 refine VE (kd b rfl (fun W6 O b => ?_))
 obtain ⟨I, K, rfl⟩ := j.form
 obtain ⟨J, G, rfl⟩ := y.form
 let a0 := (C5 g.Name I g.jJ.length K J g.jW.length G)
 refine VE (kd b rfl (fun P N b => Wa (lr (VA b (Mt Mh) (C5 u.Name T u.jJ.length Z U u.jW.length d) dt cL (VA b Mh a0 dt cL (bS hm fun L a5 hm => VE (Eg b call27 (Da u (.slice T u.jJ.length Z) (.slice U u.jW.length d) g (.slice I g.jJ.length K) (.slice J g.jW.length G) _ _ (i.mono jX.mono b.jB) (x.mono lx.mono b.jB) (j.mono jX.mono b.jB) (y.mono lx.mono b.jB) a5) (fun R b => Wa (ln (jM (jM ?_)))))))))))
 refine jL (Wm (V (pM rfl rfl rfl) (Wm (LJ hm (fun Q E W => ∃ M, ST false kx w W (hp w) ((N, Ol a0 25) :: M) ∧ E 0 = (.string Y) ∧ E 5 = (.pointer (some ⟨N, 0, none⟩)) ∧ E 7 = (.string L) ∧ E 19 = (.bool Q)) 6 ?_ (fun Q D H => ?_)))))
 ·rintro c5 E W ⟨M, b, n, p, v, A⟩ c
  refine ln (CI c A (fun a4 c => ?_) (fun a4 c => ?_))
  ·refine sg (Wa (ln ?_))
   replace b := b.jy (Db St)
   refine kh (kw ?_)
   obtain rfl := sj c
   exact rP b
  refine kg (Wh n (bS c fun b9 h c => V (oR rfl rfl h) (V (jG xU p) (VB b Mh rfl rfl bM (bS c fun c0 l c => V (oR rfl rfl l) (bS c fun c1 m c => V (oR rfl rfl m) (Wh v (bS c fun c3 a9 c => ?_))))))))
  refine V (oR rfl rfl a9) (Wa (ln ?_))
  exact kh (rQ c b)
 refine bC D (fun a D => ?_) (fun a D => ?_)
 ·refine ug a (jG xU rfl) (ug a (jA rfl (jP b.has (Mt Mh) rfl bM)) (ug a (jG xU rfl) (ug a (jA rfl (jP b.has Mh rfl bM)) (ug a (pM rfl rfl rfl) (V (jS (cB a) rfl) ?_)))))
  obtain rfl := sj D
  exact H _ _ ⟨_, (b.jy (Kb (Db St))), rfl, rfl, rfl, rfl⟩
 refine un a (un a (un a (un a (un a (V (jT (cB a) rfl) ?_)))))
 obtain rfl := sj D
 exact H _ _ ⟨_, (b.jy (Kb (Db St))), rfl, rfl, rfl, rfl⟩
theorem Ec (T : Formula → Int → Option (Int × Int)) (n : ∀ (t : Formula) (j : Value) (I : Int) (r : (Int × Int)) (w : World) (g : Sl jx 5 (hp w) j t.Kids), T t I = some r → jV false pg0 264 [(.agg #[(.int .i64 t.Op), (.int .i64 t.K), (.string t.ju.jw), (.string t.ju.Word), j]), (.int .i64 I)] w (.tuple #[(.int .i64 r.1), (.int .i64 r.2)])) (t : Formula) (j : Value) (I : Int) (r : (Int × Int)) (w : World) (g : Sl jx 5 (hp w) j t.Kids) (hm : vC T t I = some r) :
  jV false pg0 264 [(.agg #[(.int .i64 t.Op), (.int .i64 t.K), (.string t.ju.jw), (.string t.ju.Word), j]), (.int .i64 I)] w (.tuple #[(.int .i64 r.1), (.int .i64 r.2)]) := by
 refine cG 40 func264 rfl (fun b => sg ?_)
 obtain ⟨A1, c2, rfl⟩ := g.form
 refine VE (kd b rfl (fun W4 b3 b => Wa (Wa (lr (Wa (Wa (lS (Wf np ?_))))))))
 refine VB b Mh rfl rfl dJ (V (kU aD rfl g) (Wm (ln ?_)))
 replace b := b.jy (Db St)
 refine CJ hm (fun Q E W => ∃ a2, ST false kx w W (hp w) a2 ∧ E 6 = (.int .i64 Q.1) ∧ E 7 = (.int .i64 Q.2)) (fun Q a5 => ?_) ?_
 ·refine kC (fun i E W => ∃ y z J, (E 15 = .int .i64 (i : Nat) ∧ E 14 = .int .i64 (t.Kids.length : Nat)) ∧ ST false kx w W (hp w) J ∧ E 1 = (.int .i64 I) ∧ E 6 = (.int .i64 y) ∧ E 7 = (.int .i64 z) ∧ E 13 = (.slice A1 t.Kids.length c2) ∧ pa I T (t.Kids.drop i) y z = some Q) t.Kids.length g.len ⟨1, 0, _, ⟨rfl, rfl⟩, (b.jy St), rfl, rfl, rfl, rfl, a5⟩ dc dc dc (fun _ _ _ h => by obtain ⟨_, _, _, l, _⟩ := h; exact l) ?_ ?_
  ·rintro P E W a3 ⟨y, z, J, ⟨d, m⟩, b, G, x, H, K, a⟩
   obtain ⟨c, c6, A, p, a9⟩ := kp a3
   rw [A] at a
   refine bg (VQ (lU (i := (P : Int)) (x0 := c) jx.out aD aB K d g (aG _) p) (fun c4 ⟨_, ⟨c5, rfl, N⟩, Y⟩ => V (jA rfl (kf b.has Y aI aB)) (VE (ku b aO (fun b9 c3 b => ?_)))))
   obtain ⟨B, D, rfl⟩ := N.form
   let a0 := (C1 c.Op c.K c.ju.jw c.ju.Word B c.Kids.length D)
   refine VO (jR (.agg a0.toArray) (a0.toArray) b rfl rfl aB oc nb rfl (fun c0 b => lS (Wh x (Wh G (Wi rfl (ln (CI a rfl (fun U a => ?_) (fun U a => ?_))))))))
   ·refine mF (ml (Tk (by simp) (ml (oU (jI ?_)))))
    obtain rfl := sj a
    exact ⟨_, (b.jy (Db St)), x, H⟩
   refine kg (VA b Mh a0 aI aB (Wh G (Wh x (Wi rfl (bS a fun M Z a => VE (Eg b call264 (n c (.slice B c.Kids.length D) (wi0 .i64 (I - y)) _ _ (N.mono jF.mono b.jB) Z) (fun c1 b => Wm (Wx rfl (Wx rfl (Wa (Wa ?_)))))))))))
   refine ln ?_
   replace b := b.jy (Db St)
   exact jL (Wh x (Wm (Wi rfl (Wh H (Wm (V (OG (k := .i64) rfl rfl) (Wa (Wa (kk (kA (jI ⟨d, (wi0 .i64 (y + M.1)), (if M.2 > z then M.2 else z), _, ⟨rfl, m⟩, (b.jy St), G, rfl, rfl, K, (by rw [a9]; exact a)⟩)))))))))))
  rintro E W ⟨y, z, J, ⟨d, m⟩, b, G, x, H, K, a⟩
  rw [aH] at a
  refine jI ?_
  obtain rfl := sj a
  exact ⟨_, (b.jy St), x, H⟩
 rintro ⟨R, b7⟩ E W ⟨a2, b, L, O⟩ a4
 refine sg (Wh L (Wh O (Wi rfl (Wa (Wa (lt ?_))))))
 obtain rfl := sj a4
 exact ER (v := (.int .i64 R)) (u := (.int .i64 (wi0 .i64 (b7 + 1)))) rfl rfl rfl ⟨rfl, b.ex⟩
theorem BU : ∀ (n : Nat) (c : Formula) (a : Value) (i : Int) (r : (Int × Int)) (w : World) (g : Sl jx 5 (hp w) a c.Kids) (_ : od n c i = some r),
  jV false pg0 264 [(.agg #[(.int .i64 c.Op), (.int .i64 c.K), (.string c.ju.jw), (.string c.ju.Word), a]), (.int .i64 i)] w (.tuple #[(.int .i64 r.1), (.int .i64 r.2)])
 | 0 => by intros; rename_i h; simp only [od] at h; cases h
 | n + 1 => Ec (od n) (BU n)
theorem IH (a : Formula) (g : Value) (r : (Int × Int)) (w : World) (c : Sl jx 5 (hp w) g a.Kids) (hm : xo a = some r) :
  jV false pg0 201 [(.agg #[(.int .i64 a.Op), (.int .i64 a.K), (.string a.ju.jw), (.string a.ju.Word), g])] w (.tuple #[(.int .i64 r.1), (.int .i64 r.2)]) := by
 refine cG 15 func201 rfl (fun b => sg ?_)
 obtain ⟨i, j, rfl⟩ := c.form
 refine VE (kd b rfl (fun y B b => Wa (Wa (lr (VA b Mh (C1 a.Op a.K a.ju.jw a.ju.Word i a.Kids.length j) aI aB (bS hm fun x t hm => VE (Eg b call264 ((BU ki) a (.slice i a.Kids.length j) 4096 _ _ (c.mono jF.mono b.jB) t) (fun z b => Wm (Wx rfl (Wx rfl (Wa (Wa ?_))))))))))))
 refine ln ?_
 replace b := b.jy (Db St)
 refine jM (sg (Wm (Wi rfl (ln (CI hm rfl (fun k hm => ?_) (fun k hm => ?_))))))
 ·refine sg (Wa (Wa (lt (kw ?_))))
  obtain rfl := sj hm
  exact ER (v := (.int .i64 0)) (u := (.int .i64 0)) rfl rfl rfl ⟨rfl, b.ex⟩
 refine kg (Wm (Wm (Wa (Wa (lt ?_)))))
 obtain rfl := sj hm
 exact ER (v := (.int .i64 x.1)) (u := (.int .i64 x.2)) rfl rfl rfl ⟨rfl, b.ex⟩
theorem Iw (a : Formula) (H : Value) (r : Bool) (w : World) (t : Sl jx 5 (hp w) H a.Kids) (hm : xn a = some r) :
  jV true pg0 265 [(.agg #[(.int .i64 a.Op), (.int .i64 a.K), (.string a.ju.jw), (.string a.ju.Word), H])] w (.bool r) := by
 refine cG 63 func265 rfl (fun b => sg ?_)
 obtain ⟨A1, c2, rfl⟩ := t.form
 let l := (C1 a.Op a.K a.ju.jw a.ju.Word A1 a.Kids.length c2)
 refine VE (kd b rfl (fun W4 N b => Wa (lr (V (lC (v := (.agg (jE K0).toArray)) qt (kW ee dA (Kc _ dA) kr)) (VE (ku b ee (fun W6 O b => VO (jR (.agg (jE K0).toArray) ((jE K0).toArray) b rfl rfl aN (vt K0) nb rfl (fun W7 b => lS (Wf nq ?_))))))))))
 refine VB b (Mt Mh) rfl rfl bY (ln (bg (Wi rfl (Wa (ln (CI hm rfl (fun d9 hm => ?_) (fun d9 hm => ?_)))))))
 ·refine sg (Wf tJ (VA b (Mt Mh) (jE a.ju) bn aN (bS hm fun f7 e5 hm => VE (Eg b jt (tR a.ju _ _  e5) (fun f5 b => Wm (LJ hm (fun d2 E W => ∃ c4, ST true kx w W (hp w) ((N, Ol l 30) :: c4) ∧ E 1 = (.pointer (some ⟨N, 0, none⟩)) ∧ E 2 = (.bool false) ∧ E 17 = (.bool d2)) 5 ?_ (fun d2 J a4 => ?_)))))))
  ·rintro f8 E W ⟨c4, b, e7, c9, e8⟩ e1
   refine Wh e8 (LJ e1 (fun d1 E W => ∃ c5, ST true kx w W (hp w) c5 ∧ E 2 = (.bool false) ∧ E 22 = (.bool d1)) 4 ?_ (fun d1 I a3 => ?_))
   ·rintro f9 E W ⟨c5, b, f6, e9⟩ e2
    refine Wg e9 (lt (mi (kw ?_)))
    obtain rfl := sj e2
    exact rP b
   refine bC I (fun u I => ?_) (fun u I => ?_)
   ·refine ug u (jG rr e7) (ug u (jA rfl (jP b.has Mh rfl bY)) (ug u (kG rfl rfl rfl) (V (jS (cB u) rfl) ?_)))
    obtain rfl := sj I
    exact a3 _ _ ⟨_, (b.jy (Db St)), c9, rfl⟩
   refine un u (un u (un u (V (jT (cB u) rfl) ?_)))
   obtain rfl := sj I
   exact a3 _ _ ⟨_, (b.jy (Db St)), c9, rfl⟩
  refine bC J (fun j J => ?_) (fun j J => ?_)
  ·refine ug j (jG np rfl) (ug j (jA rfl (jP b.has (Mt Mh) rfl dJ)) (ug j (kU aD rfl t) (ug j (kG rfl rfl rfl) (V (jS (cB j) rfl) ?_))))
   obtain rfl := sj J
   exact a4 _ _ ⟨_, (b.jy (Db St)), rfl, rfl, rfl⟩
  refine un j (un j (un j (un j (V (jT (cB j) rfl) ?_))))
  obtain rfl := sj J
  exact a4 _ _ ⟨_, (b.jy (Db St)), rfl, rfl, rfl⟩
 let a0 := (l.toArray : Array Value)
 let d : Value := (.pointer (some ⟨N, 0, none⟩))
 refine jM (CJ hm (fun R E W => ∃ c6, ST true kx w W (hp w) ((O, Ol (jE K0) 27) :: ((N, Obj.cells a0 30 (0, 0)) :: c6)) ∧ E 1 = d ∧ E 3 = (.pointer (some ⟨O, 0, none⟩)) ∧ E 23 = (.bool R)) (fun R G => ?_) ?_)
 ·refine sg (Wi rfl (Wa (ln (CI G rfl (fun b9 G => ?_) (fun b9 G => ?_)))))
  ·refine kn ?_
   obtain rfl := sj G
   exact ⟨_, (b.jy St), rfl, rfl, rfl⟩
  refine jL (Wi rfl (Wa (ln ?_)))
  obtain rfl := sj G
  exact ⟨_, (b.jy St), rfl, rfl, rfl⟩
 rintro g0 E W ⟨c6, b, Q, d0, f0⟩ K
 refine CI K f0 (fun e0 K => ?_) (fun e0 K => ?_)
 ·refine sg (V (jG tJ Q) (VA b (Mt Mh) (jE a.ju) bn aN (V (jA d0 (jD b.has Mh (jE K0) rfl bn aN)) (V (uY rfl rfl (nf dV) (rb (pz _ a.ju K0))) (Wm (LJ K (fun d3 E W => ∃ c7, ST true kx w W (hp w) c7 ∧ E 34 = (.bool d3)) 4 ?_ (fun d3 M a5 => ?_)))))))
  ·rintro g1 E W ⟨c7, b, f1⟩ e3
   refine Wg f1 (lt (mi (kw ?_)))
   obtain rfl := sj e3
   exact rP b
  refine bC M (fun x M => ?_) (fun x M => ?_)
  ·refine ug x (jG rr Q) (ug x (jA rfl (jP b.has (Mt Mh) rfl bY)) (ug x (kG rfl rfl rfl) (V (jS (cB x) rfl) ?_)))
   obtain rfl := sj M
   exact a5 _ _ ⟨_, (b.jy (Db (Db St))), rfl⟩
  refine un x (un x (un x (V (jT (cB x) rfl) ?_)))
  obtain rfl := sj M
  exact a5 _ _ ⟨_, (b.jy (Db (Db St))), rfl⟩
 refine kX (kA (jI (sg (V (jG nq Q) (VB b (Mt Mh) rfl rfl bY (Wi rfl (Wm (LJ K (fun P E W => ∃ c8, ST true kx w W (hp w) ((N, Obj.cells a0 30 (0, 0)) :: c8) ∧ E 1 = d ∧ E 43 = (.bool P)) 5 ?_ (fun P D h => ?_)))))))))
 ·rintro g2 E W ⟨c8, b, a2, d4⟩ e4
  refine Wh d4 (LJ e4 (fun L E W => ∃ m, ST true kx w W (hp w) ((N, Obj.cells a0 30 (0, 0)) :: m) ∧ E 1 = d ∧ E 48 = (.bool L)) 4 ?_ (fun L B Z => ?_))
  ·rintro f2 E W ⟨m, b, T, d5⟩ c0
   refine Wh d5 (LJ c0 (fun A E W => ∃ a9, ST true kx w W (hp w) ((N, Obj.cells a0 30 (0, 0)) :: a9) ∧ E 1 = d ∧ E 56 = (.bool A)) 7 ?_ (fun A z Y => ?_))
   ·rintro f3 E W ⟨a9, b, d6, d7⟩ c1
    refine Wh d7 (LJ c1 (fun p E W => ∃ n, ST true kx w W (hp w) n ∧ E 62 = (.bool p)) 5 ?_ (fun p y U => ?_))
    ·rintro f4 E W ⟨n, b, d8⟩ c3
     exact Wg d8 (lt (rQ c3 b))
    refine bC y (fun g y => ?_) (fun g y => ?_)
    ·refine ug g (jG np d6) (ug g (jA rfl (jP b.has Mh rfl dJ)) (ug g (kU aD rfl t) (ug g (kG rfl rfl rfl) (V (jS (cB g) rfl) ?_))))
     obtain rfl := sj y
     exact U _ _ ⟨_, (b.jy (Db St)), rfl⟩
    refine un g (un g (un g (un g (V (jT (cB g) rfl) ?_))))
    obtain rfl := sj y
    exact U _ _ ⟨_, (b.jy (Db St)), rfl⟩
   refine bC z (fun c z => ?_) (fun c z => ?_)
   ·refine ug c (jG rr T) (ug c (jA rfl (jP b.has Mh rfl bY)) (ug c (jG np T) (ug c (jA rfl (jP b.has Mh rfl dJ)) (ug c (kU aD rfl t) (ug c (kG rfl rfl rfl) (V (jS (cB c) rfl) ?_))))))
    obtain rfl := sj z
    exact Y _ _ ⟨_, (b.jy St), T, rfl⟩
   refine un c (un c (un c (un c (un c (un c (V (jT (cB c) rfl) ?_))))))
   obtain rfl := sj z
   exact Y _ _ ⟨_, (b.jy St), T, rfl⟩
  refine bC B (fun i B => ?_) (fun i B => ?_)
  ·refine ug i (jG rr a2) (ug i (jA rfl (jP b.has Mh rfl bY)) (ug i (kG rfl rfl rfl) (V (jS (cB i) rfl) ?_)))
   obtain rfl := sj B
   exact Z _ _ ⟨_, (b.jy St), a2, rfl⟩
  refine un i (un i (un i (V (jT (cB i) rfl) ?_)))
  obtain rfl := sj B
  exact Z _ _ ⟨_, (b.jy St), a2, rfl⟩
 refine bC D (fun k D => ?_) (fun k D => ?_)
 ·refine ug k (jG tJ Q) (ug k (jA rfl (jD b.has (Mt Mh) (jE a.ju) rfl bn aN)) (ug k (jA d0 (jD b.has Mh (jE K0) rfl bn aN)) (ug k (uY rfl rfl (nf dV) (rb (pz _ a.ju K0))) (V (jS (cB k) rfl) ?_))))
  obtain rfl := sj D
  exact h _ _ ⟨_, (b.jy (Db St)), Q, rfl⟩
 refine un k (un k (un k (un k (V (jT (cB k) rfl) ?_))))
 obtain rfl := sj D
 exact h _ _ ⟨_, (b.jy (Db St)), Q, rfl⟩
theorem AE (g : Value) (t : List Formula) (j : Value) (z : Formula → Option Bool) (r : Int) (w : World) (c : Sl jx 5 (hp w) g t) (B : uc pg0 j (hp w) (uU jx) (fun (r : Bool) => (.bool r)) z) (hm : sN t z = some r) :
  jV false pg0 324 [g, j] w (.int .i64 r) := by
 refine cG 19 func324 rfl (fun b => sg (Wa (lS (Wm (V (kU aD rfl c) (Wm (ln (kC (fun i E W => ∃ k, (E 8 = .int .i64 (i : Nat) ∧ E 7 = .int .i64 (t.length : Nat)) ∧ ST false kx w W (hp w) k ∧ E 0 = g ∧ E 1 = j ∧ nk z (t.drop i) i = some r) t.length c.len ⟨_, ⟨rfl, rfl⟩, (b.jy St), rfl, rfl, hm⟩ dc dc dc (fun _ _ _ h => by obtain ⟨_, l, _⟩ := h; exact l) ?_ ?_))))))))
 ·rintro Q E W G ⟨k, ⟨d, m⟩, b, u, x, a⟩
  obtain ⟨y, U, M, K, N⟩ := kp G
  rw [M] at a
  refine bg (Wh d (Wa (lr (Wh x (Wh u (Wm (VQ (lU (i := (Q : Int)) (x0 := y) jx.out aD aB rfl rfl c (aG _) K) (fun Z ⟨_, ⟨T, rfl, J⟩, H⟩ => V (jA rfl (kf b.has H aI aB)) (bS a fun n I a => ?_)))))))))
  refine VE (vH y b B (kj.refl _) (uU.mk jF (jx.mk ⟨T, rfl, J⟩) b.jB) rfl (qW rfl) I (fun Y b => ln (CI a rfl (fun D a => ?_) (fun D a => ?_))))
  ·refine sg (Wm (Wa (lt (mi (kw (mi (kw ?_)))))))
   obtain rfl := sj a
   exact rP b
  exact kX (kA (jI ⟨d, _, ⟨rfl, m⟩, (b.jy St), u, x, (by rw [N]; exact a)⟩))
 rintro E W ⟨k, ⟨d, m⟩, b, u, x, a⟩
 rw [aH] at a
 exact jI (sg (Wa (lt (rQ a b))))
theorem uV (a : Value) (g : List Formula) (c : Value) (i : Formula → Option Bool) (r : Bool) (w : World) (j : Sl jx 5 (hp w) a g) (k : uc pg0 c (hp w) (uU jx) (fun (r : Bool) => (.bool r)) i) (hm : nP g i = some r) :
  jV false pg0 266 [a, c] w (.bool r) := by
 refine cG 9 func266 rfl (fun b => sg (Wa (lr (Wm (Wm (bS hm fun x t hm => VE (Eg b call324 (AE a g c i _ _ (j.mono jF.mono b.jB) (k.mono b.jB) t) (fun u b => Wi rfl (Wa (kk ?_))))))))))
 exact jI (kh (rQ hm b))
theorem EV (i : Formula → Option Bool) (t : ∀ (c : Formula) (a : Value) (r : Bool) (w : World) (g : Sl jx 5 (hp w) a c.Kids), i c = some r → jV false pg0 202 [(.agg #[(.int .i64 c.Op), (.int .i64 c.K), (.string c.ju.jw), (.string c.ju.Word), a])] w (.bool r)) (c : Formula) (a : Value) (r : Bool) (w : World) (g : Sl jx 5 (hp w) a c.Kids) (hm : uw i c = some r) :
  jV false pg0 267 [(.agg #[(.int .i64 c.Op), (.int .i64 c.K), (.string c.ju.jw), (.string c.ju.Word), a])] w (.bool r) := by
 refine cG 6 func267 rfl (fun b => sg ?_)
 obtain ⟨j, k, rfl⟩ := g.form
 refine VE (kd b rfl (fun x z b => Wa (lr (VA b Mh (C1 c.Op c.K c.ju.jw c.ju.Word j c.Kids.length k) aI aB (bS hm fun B u hm => VE (Eg b call202 (t c (.slice j c.Kids.length k) _ _ (g.mono jF.mono b.jB) u) (fun y b => V (mT rfl) (Wa (ln ?_)))))))))
 exact kh (rQ hm b)
theorem DH (z : Formula → Option Bool) (T : ∀ (a : Formula) (g : Value) (r : Bool) (w : World) (c : Sl jx 5 (hp w) g a.Kids), z a = some r → jV false pg0 202 [(.agg #[(.int .i64 a.Op), (.int .i64 a.K), (.string a.ju.jw), (.string a.ju.Word), g])] w (.bool r)) (a : Formula) (g : Value) (r : Bool) (w : World) (c : Sl jx 5 (hp w) g a.Kids) (hm : vI z a = some r) :
  jV false pg0 202 [(.agg #[(.int .i64 a.Op), (.int .i64 a.K), (.string a.ju.jw), (.string a.ju.Word), g])] w (.bool r) := by
 refine cG 17 func202 rfl (fun b => sg ?_)
 obtain ⟨B, D, rfl⟩ := c.form
 let a0 := (C1 a.Op a.K a.ju.jw a.ju.Word B a.Kids.length D)
 refine VE (kd b rfl (fun W4 U b => Wa (lr (VA b Mh a0 aI aB (bS hm fun L a3 hm => VE (Eg b call265 (jV.lE (Iw a (.slice B a.Kids.length D) _ _ (c.mono jF.mono b.jB) a3)) (fun W7 b => Wm (LJ hm (fun K E W => ∃ G, ST false kx w W (hp w) ((U, Ol a0 30) :: G) ∧ E 1 = (.pointer (some ⟨U, 0, none⟩)) ∧ E 2 = (.bool false) ∧ E 10 = (.bool K)) 5 ?_ (fun K t y => ?_)))))))))
 ·rintro O E W ⟨G, b, Y, I, Z⟩ M
  refine Wh Z (LJ M (fun J E W => ∃ H, ST false kx w W (hp w) H ∧ E 2 = (.bool false) ∧ E 16 = (.bool J)) 5 ?_ (fun J k u => ?_))
  ·rintro v E W ⟨H, b, n, d⟩ N
   exact Wg d (lt (rQ N b))
  refine bC k (fun i k => ?_) (fun i k => ?_)
  ·refine ug i (jG np Y) (ug i (jA rfl (jP b.has Mh rfl dJ)) (bS k fun p Q k => pE i (Eg b call266 (uV (.slice B a.Kids.length D) a.Kids (.func (.func 267) #[] #[]) (fun (x : Formula) => uw z x) _ _ (c.mono jF.mono b.jB) ⟨267, #[], #[], rfl, call267, fun W x vs r A h hm => by obtain ⟨_, rfl, a2⟩ := h; obtain ⟨m, rfl, l⟩ := a2.out; exact EV z T x m r W l hm⟩ Q) (fun a5 b => ug i (mT rfl) (V (jS (cB i) rfl) ?_)))))
   obtain rfl := sj k
   exact u _ _ ⟨_, (b.jy (Db St)), I, rfl⟩
  refine un i (un i (un i (un i (V (jT (cB i) rfl) ?_))))
  obtain rfl := sj k
  exact u _ _ ⟨_, (b.jy (Db St)), I, rfl⟩
 refine bC t (fun j t => ?_) (fun j t => ?_)
 ·refine ug j (jG np rfl) (ug j (jA rfl (jP b.has Mh rfl dJ)) (ug j (kU aD rfl c) (ug j (kG rfl rfl rfl) (V (jS (cB j) rfl) ?_))))
  obtain rfl := sj t
  exact y _ _ ⟨_, (b.jy St), rfl, rfl, rfl⟩
 refine un j (un j (un j (un j (V (jT (cB j) rfl) ?_))))
 obtain rfl := sj t
 exact y _ _ ⟨_, (b.jy St), rfl, rfl, rfl⟩
theorem B9 : ∀ (n : Nat) (c : Formula) (a : Value) (r : Bool) (w : World) (g : Sl jx 5 (hp w) a c.Kids) (_ : qY n c = some r),
  jV false pg0 202 [(.agg #[(.int .i64 c.Op), (.int .i64 c.K), (.string c.ju.jw), (.string c.ju.Word), a])] w (.bool r)
 | 0 => by intros; rename_i h; simp only [qY] at h; cases h
 | n + 1 => DH (qY n) (B9 n)
theorem wz (a : Formula) (k : Value) (r : Bool) (w : World) (c : Sl jx 5 (hp w) k a.Kids) (hm : qX a = some r) :
  jV false pg0 129 [(.agg #[(.int .i64 a.Op), (.int .i64 a.K), (.string a.ju.jw), (.string a.ju.Word), k])] w (.bool r) := by
 refine cG 24 func129 rfl (fun b => sg ?_)
 obtain ⟨y, z, rfl⟩ := c.form
 let a0 := (C1 a.Op a.K a.ju.jw a.ju.Word y a.Kids.length z)
 refine VE (kd b rfl (fun W4 H b => Wa (lr (VA b Mh a0 aI aB (bS hm fun n a9 hm => VE (Eg b call201 (IH a (.slice y a.Kids.length z) _ _ (c.mono jF.mono b.jB) a9) (fun W7 b => Wm (Wx rfl (Wx rfl (Wa (Wa (kk ?_))))))))))))
 refine jI (sg (Wm (Wi rfl (Wm (LJ hm (fun Y E W => ∃ I, ST false kx w W (hp w) ((H, Ol a0 30) :: I) ∧ E 1 = (.pointer (some ⟨H, 0, none⟩)) ∧ E 2 = (.bool false) ∧ E 4 = (.int .i64 n.2) ∧ E 15 = (.bool Y)) 3 ?_ (fun Y x G => ?_))))))
 ·rintro P E W ⟨I, b, M, N, a4, a5⟩ Z
  refine Wh a5 (LJ Z (fun U E W => ∃ J, ST false kx w W (hp w) ((H, Ol a0 30) :: J) ∧ E 1 = (.pointer (some ⟨H, 0, none⟩)) ∧ E 2 = (.bool false) ∧ E 19 = (.bool U)) 3 ?_ (fun U u D => ?_))
  ·rintro L E W ⟨J, b, h, Q, l⟩ d
   refine Wh l (LJ d (fun T E W => ∃ K, ST false kx w W (hp w) K ∧ E 2 = (.bool false) ∧ E 23 = (.bool T)) 3 ?_ (fun T j B => ?_))
   ·rintro O E W ⟨K, b, v, m⟩ a2
    exact Wg m (lt (rQ a2 b))
   refine bC j (fun i j => ?_) (fun i j => ?_)
   ·refine ug i (jA h (jD b.has Mh a0 rfl aI aB)) (bS j fun A a3 j => pE i (Eg b call202 ((B9 ki) a (.slice y a.Kids.length z) _ _ (c.mono jF.mono b.jB) a3) (fun p b => V (jS (cB i) rfl) ?_)))
    obtain rfl := sj j
    exact B _ _ ⟨_, (b.jy (Db St)), Q, rfl⟩
   refine un i (un i (V (jT (cB i) rfl) ?_))
   obtain rfl := sj j
   exact B _ _ ⟨_, (b.jy (Db St)), Q, rfl⟩
  refine bC u (fun g u => ?_) (fun g u => ?_)
  ·refine ug g (jH a4) (ug g (kG rfl rfl rfl) (V (jS (cB g) rfl) ?_))
   obtain rfl := sj u
   exact D _ _ ⟨_, (b.jy St), M, N, rfl⟩
  refine un g (un g (V (jT (cB g) rfl) ?_))
  obtain rfl := sj u
  exact D _ _ ⟨_, (b.jy St), M, N, rfl⟩
 refine bC x (fun t x => ?_) (fun t x => ?_)
 ·refine ug t (jH rfl) (ug t (kG rfl rfl rfl) (V (jS (cB t) rfl) ?_))
  obtain rfl := sj x
  exact G _ _ ⟨_, (b.jy St), rfl, rfl, rfl, rfl⟩
 refine un t (un t (V (jT (cB t) rfl) ?_))
 obtain rfl := sj x
 exact G _ _ ⟨_, (b.jy St), rfl, rfl, rfl, rfl⟩
theorem zK (c : Int) (r : ByteArray) (w : World) (a : Cm pg0 (hp w)) (hm : AT c = some r) :
  jV true pg0 50 [(.int .i64 c)] w (.string r) := NJ Se rfl a hm
theorem BH (a : mQ) (k t c j g G : Value) (r : List lK) (w : World) (D : Cm pg0 (hp w)) (z : Sl jU 15 (hp w) k a.jw.jJ) (B : Sl kH 8 (hp w) t a.jw.jW) (u : Sl jU 15 (hp w) c a.Client.jJ) (y : Sl kH 8 (hp w) j a.Client.jW) (x : Sl jx 5 (hp w) g a.Formula.Kids) (N : Sl ol 2 (hp w) G a.Keys) (hm : yr a = some r) :
  lV true pg0 63 [(.agg #[(.string a.jw.Name), k, t, (.string a.Client.Name), c, j, (.int .i64 a.Formula.Op), (.int .i64 a.Formula.K), (.string a.Formula.ju.jw), (.string a.Formula.ju.Word), g, (.int .i64 a.rZ), (.int .i64 a.my.uy), (.int .i64 a.my.uF), (.int .i64 a.nB), (.int .i64 a.pG), (.int .i64 a.oh), G])] w 116 mA 2 r := by
 refine vi 38 func63 rfl (fun d => sg ?_)
 obtain ⟨A1, c2, rfl⟩ := z.form
 obtain ⟨A3, W, rfl⟩ := B.form
 obtain ⟨A5, c6, rfl⟩ := u.form
 obtain ⟨A7, c8, rfl⟩ := y.form
 obtain ⟨A9, A, rfl⟩ := x.form
 obtain ⟨a5, E, rfl⟩ := N.form
 refine VE (kd d rfl (fun L d0 d => Wa (lr (Wa (ln (jM ?_))))))
 replace d := d.drew
 have b := d.has.jy (Kb Sn)
 refine kI b kl (X 0 rfl b (jH rfl) (X 1 rfl b (jG R4 rfl) (XH 2 rfl b (fun _ h => jA rfl (jP h Mh rfl bY)) (X 5 rfl b (jH rfl) (X 6 rfl b (jG Og rfl) (X 7 rfl b (HL (i := 0) underlying31 fJ rfl rfl dc dc) (XH 8 rfl b (fun _ h => jA rfl (jP h Mh rfl bY)) (X 11 rfl b (jH rfl) (X 12 rfl b (jG Og rfl) (X 13 rfl b (HL (i := 1) underlying31 fJ rfl rfl dc dc) (XH 14 rfl b (fun _ h => jA rfl (jP h Mh rfl bY)) (X 18 rfl b (jH rfl) (X 19 rfl b (jG RU rfl) (XH 20 rfl b (fun _ h => jA rfl (jP h Mh rfl bY)) ?_))))))))))))))
 refine X 23 rfl b (jH rfl) (X 24 rfl b (jG RP rfl) (XH 25 rfl b (fun _ h => jA rfl (jP h Mh rfl bY)) (X 28 rfl b (jH rfl) (X 29 rfl b (jG Sd rfl) (XH 30 rfl b (fun _ h => jA rfl (jP h Mh rfl bY)) (bS hm fun H T hm => XE 3 rfl (Eg d call50 (zK a.rZ _ _ (D.mono d.jB) T) (fun O d => ?_))))))))
 have b := d.has.jy (Kb Sn)
 refine ⟨b, (X 4 rfl b (lC (v := (.agg (mA (⟨K6, H⟩ : lK)).toArray)) (pw rfl rfl) (yY fL fR ej kr)) (bS hm fun d1 U hm => XE 9 rfl (Eg d call50 (zK a.my.uy _ _ (D.mono d.jB) U) (fun P d => ?_))))⟩
 have b := d.has.jy (Kb Sn)
 refine ⟨b, (bS hm fun d3 a3 hm => X 10 rfl b (oR rfl rfl a3) (bS hm fun d2 Y hm => XE 15 rfl (Eg d call50 (zK a.my.uF _ _ (D.mono d.jB) Y) (fun c1 d => ?_))))⟩
 have b := d.has.jy (Kb Sn)
 refine ⟨b, (bS hm fun M a4 hm => X 16 rfl b (oR rfl rfl a4) (X 17 rfl b (lC (v := (.agg (mA (⟨K7, M⟩ : lK)).toArray)) (pw rfl rfl) (yY fL fR ej kr)) (bS hm fun I Z hm => XE 21 rfl (Eg d call50 (zK a.nB _ _ (D.mono d.jB) Z) (fun R d => ?_)))))⟩
 have b := d.has.jy (Kb Sn)
 refine ⟨b, (X 22 rfl b (lC (v := (.agg (mA (⟨K9, I⟩ : lK)).toArray)) (pw rfl rfl) (yY fL fR ej kr)) (bS hm fun J n hm => XE 26 rfl (Eg d call50 (zK a.pG _ _ (D.mono d.jB) n) (fun c5 d => ?_))))⟩
 have b := d.has.jy (Kb Sn)
 refine ⟨b, (X 27 rfl b (lC (v := (.agg (mA (⟨Qt, J⟩ : lK)).toArray)) (pw rfl rfl) (yY fL fR ej kr)) (bS hm fun K a2 hm => XE 31 rfl (Eg d call50 (zK a.oh _ _ (D.mono d.jB) a2) (fun c7 d => ?_))))⟩
 have b := d.has.jy (Kb Sn)
 refine ⟨b, (X 32 rfl b (lC (v := (.agg (mA (⟨Qw, K⟩ : lK)).toArray)) (pw rfl rfl) (yY fL fR ej kr)) (XE 33 rfl (kq (cs := #[(.string K6), (.string H), (.string K7), (.string M), (.string K9), (.string I), (.string Qt), (.string J), (.string Qw), (.string K)]) d (SR rfl rfl rfl rfl rfl) (mr iQ ib fL) (fun c9 Q d => ?_))))⟩
 have b := d.has.jy (Db (Kb Sn))
 refine ⟨b, (X 34 rfl b (mP rfl) (kT kr (jI ?_)))⟩
 replace d := d.jy (Kb (Db St))
 refine kh ?_
 obtain rfl := sj hm
 exact lB (v := (.slice (some ⟨Q, 0, none⟩) 5 5)) rfl rfl ⟨_, [(Q, Ob #[(.string K6), (.string H), (.string K7), (.string M), (.string K9), (.string I), (.string Qt), (.string J), (.string Qw), (.string K)] 116)], rfl, d.nM (fun p m => by rw [bP] at m; subst m; exact Mh) (by simp), (jZ.lit (l := [(⟨K6, H⟩ : lK), (⟨K7, M⟩ : lK), (⟨K9, I⟩ : lK), (⟨Qt, J⟩ : lK), (⟨Qw, K⟩ : lK)]) (enc := mA) rfl dc rfl rfl)⟩
theorem ue (j : Value) (u : List Key) (k : Value) (y : List Key) (t : Value) (G : (Key × Key) → Option Bool) (r : Bool) (w : World) (g : Sl ol 2 (hp w) j u) (H : Sl ol 2 (hp w) k y) (M : uc pg0 t (hp w) (ui ol ol) (fun (r : Bool) => (.bool r)) G) (hm : pv u y G = some r) :
  jV false pg0 64 [j, k, t] w (.bool r) := by
 refine cG 32 func64 rfl (fun b => sg (Wa (lS (Wm (V (kU gZ rfl g) (Wm (V (kU gZ rfl H) (Wi rfl (kk ?_)))))))))
 refine jI (CI hm rfl (fun J hm => ?_) (fun J hm => ?_))
 ·refine sg (Wa (lt (kw ?_)))
  obtain rfl := sj hm
  exact rP b
 refine kS (Wm (V (kU gZ rfl g) (Wm (ln (kC (fun i E W => ∃ c, (E 17 = .int .i64 (i : Nat) ∧ E 16 = .int .i64 (u.length : Nat)) ∧ ST false kx w W (hp w) c ∧ E 1 = k ∧ E 2 = t ∧ E 15 = j ∧ ns y G (u.drop i) i = some r) u.length g.len ⟨_, ⟨rfl, rfl⟩, (b.jy St), rfl, rfl, rfl, hm⟩ dc dc dc (fun _ _ _ h => by obtain ⟨_, d, _⟩ := h; exact d) ?_ ?_)))))
 ·rintro T E W x ⟨c, ⟨l, m⟩, b, z, B, D, a⟩
  obtain ⟨U, Q, I, N, K⟩ := kp x
  rw [I] at a
  rw [ns] at a
  cases a
 rintro E W ⟨c, ⟨l, m⟩, b, z, B, D, a⟩
 rw [aH] at a
 exact jI (sg (Wa (lt (rQ a b))))
theorem GS (g : Key) (a : Value) (i : Key) (c : Value) (r : Bool) (w : World) (j : Sl (Pl (kN .u8)) 1 (hp w) a g.Key) (k : Sl (Pl (kN .u8)) 1 (hp w) c i.Key) (hm : yz g i = some r) :
  jV true pg0 65 [(.agg #[(.string g.kE), a]), (.agg #[(.string i.kE), c])] w (.bool r) := by
 cases hm
set_option maxHeartbeats 4000000 in
theorem JA (a : mQ) (T Z I Q J a8 : Value) (c : mQ) (Y a2 K U M a9 : Value) (r : ByteArray) (w : World) (f5 : Cm pg0 (hp w)) (z : Sl jU 15 (hp w) T a.jw.jJ) (G : Sl kH 8 (hp w) Z a.jw.jW) (j : Sl jU 15 (hp w) I a.Client.jJ) (y : Sl kH 8 (hp w) Q a.Client.jW) (k : Sl jx 5 (hp w) J a.Formula.Kids) (a5 : Sl ol 2 (hp w) a8 a.Keys) (D : Sl jU 15 (hp w) Y c.jw.jJ) (H : Sl kH 8 (hp w) a2 c.jw.jW) (t : Sl jU 15 (hp w) K c.Client.jJ) (B : Sl kH 8 (hp w) U c.Client.jW) (u : Sl jx 5 (hp w) M c.Formula.Kids) (a6 : Sl ol 2 (hp w) a9 c.Keys) (hm : AH a c = some r) :
  jV false pg0 25 [(.agg #[(.string a.jw.Name), T, Z, (.string a.Client.Name), I, Q, (.int .i64 a.Formula.Op), (.int .i64 a.Formula.K), (.string a.Formula.ju.jw), (.string a.Formula.ju.Word), J, (.int .i64 a.rZ), (.int .i64 a.my.uy), (.int .i64 a.my.uF), (.int .i64 a.nB), (.int .i64 a.pG), (.int .i64 a.oh), a8]), (.agg #[(.string c.jw.Name), Y, a2, (.string c.Client.Name), K, U, (.int .i64 c.Formula.Op), (.int .i64 c.Formula.K), (.string c.Formula.ju.jw), (.string c.Formula.ju.Word), M, (.int .i64 c.rZ), (.int .i64 c.my.uy), (.int .i64 c.my.uF), (.int .i64 c.nB), (.int .i64 c.pG), (.int .i64 c.oh), a9])] w (.string r) := by
 refine cG 74 func25 rfl (fun b => sg ?_)
 obtain ⟨A1, c2, rfl⟩ := z.form
 obtain ⟨A3, c4, rfl⟩ := G.form
 obtain ⟨A5, c6, rfl⟩ := j.form
 obtain ⟨A7, c8, rfl⟩ := y.form
 obtain ⟨A9, b5, rfl⟩ := k.form
 obtain ⟨c7, d0, rfl⟩ := a5.form
 let a1 := (C2 a.jw.Name A1 a.jw.jJ.length c2 A3 a.jw.jW.length c4 a.Client.Name A5 a.Client.jJ.length c6 A7 a.Client.jW.length c8 a.Formula.Op a.Formula.K a.Formula.ju.jw a.Formula.ju.Word A9 a.Formula.Kids.length b5 a.rZ a.my.uy a.my.uF a.nB a.pG a.oh c7 a.Keys.length d0)
 refine VE (kd b rfl (fun l0 e9 b => ?_))
 obtain ⟨A, b6, rfl⟩ := D.form
 obtain ⟨L, b7, rfl⟩ := H.form
 obtain ⟨O, b9, rfl⟩ := t.form
 obtain ⟨P, c0, rfl⟩ := B.form
 obtain ⟨R, c1, rfl⟩ := u.form
 obtain ⟨c9, d1, rfl⟩ := a6.form
 let a0 := (C2 c.jw.Name A c.jw.jJ.length b6 L c.jw.jW.length b7 c.Client.Name O c.Client.jJ.length b9 P c.Client.jW.length c0 c.Formula.Op c.Formula.K c.Formula.ju.jw c.Formula.ju.Word R c.Formula.Kids.length c1 c.rZ c.my.uy c.my.uF c.nB c.pG c.oh c9 c.Keys.length d1)
 refine VE (kd b rfl (fun l1 f0 b => Wa (ln (jM ?_))))
 replace b := b.drew
 have d := b.has.jy (Kb (Kb Sn))
 refine kI d kl (X 0 rfl d (jG ze rfl) (XH 1 rfl d (fun _ l => jA rfl (jD l (Mt Mh) (C5 a.jw.Name A1 a.jw.jJ.length c2 A3 a.jw.jW.length c4) rfl dt cL)) (X 2 rfl d (jG ze rfl) (XH 3 rfl d (fun _ l => jA rfl (jD l Mh (C5 c.jw.Name A c.jw.jJ.length b6 L c.jw.jW.length b7) rfl dt cL)) (X 5 rfl d (jG vO rfl) (XH 6 rfl d (fun _ l => jA rfl (jD l (Mt Mh) (C5 a.Client.Name A5 a.Client.jJ.length c6 A7 a.Client.jW.length c8) rfl dt cL)) (X 7 rfl d (jG vO rfl) (XH 8 rfl d (fun _ l => jA rfl (jD l Mh (C5 c.Client.Name O c.Client.jJ.length b9 P c.Client.jW.length c0) rfl dt cL)) (bS hm fun l6 h9 hm => XE 4 rfl (Eg b call60 (Ed (⟨#[111, 119, 110, 101, 114]⟩ : ByteArray) a.jw (.slice A1 a.jw.jJ.length c2) (.slice A3 a.jw.jW.length c4) c.jw (.slice A c.jw.jJ.length b6) (.slice L c.jw.jW.length b7) _ _ (z.mono jX.mono b.jB) (G.mono lx.mono b.jB) (D.mono jX.mono b.jB) (H.mono lx.mono b.jB) h9) (fun l2 b => ?_)))))))))))
 have d := b.has.jy (Kb (Kb Sn))
 refine ⟨d, (bS hm fun l7 i0 hm => XE 9 rfl (Eg b call60 (Ed (⟨#[99, 108, 105, 101, 110, 116]⟩ : ByteArray) a.Client (.slice A5 a.Client.jJ.length c6) (.slice A7 a.Client.jW.length c8) c.Client (.slice O c.Client.jJ.length b9) (.slice P c.Client.jW.length c0) _ _ (j.mono jX.mono b.jB) (y.mono lx.mono b.jB) (t.mono jX.mono b.jB) (B.mono lx.mono b.jB) i0) (fun l3 b => ?_)))⟩
 have d := b.has.jy (Kb (Kb Sn))
 refine ⟨d, (bS hm fun l8 i3 hm => X 10 rfl d (oR rfl rfl i3) (X 11 rfl d (mP rfl) (kT kr (jI (jM (CJ hm (fun f9 E W => ∃ h4, ST false kx w W (hp w) ((f0, Ol a0 34) :: ((e9, Ol a1 34) :: h4)) ∧ E 2 = (.pointer (some ⟨e9, 0, none⟩)) ∧ E 3 = (.pointer (some ⟨f0, 0, none⟩)) ∧ E 5 = (.string f9)) (fun f9 a4 => ?_) ?_))))))⟩
 ·refine sg (Wf Dm (VA b (Mt Mh) (C1 a.Formula.Op a.Formula.K a.Formula.ju.jw a.Formula.ju.Word A9 a.Formula.Kids.length b5) aI aB (Wf Dm (VA b Mh (C1 c.Formula.Op c.Formula.K c.Formula.ju.jw c.Formula.ju.Word R c.Formula.Kids.length c1) aI aB (bS a4 fun k6 h1 a4 => VE (Eg b call61 ((zP ki) a.Formula (.slice A9 a.Formula.Kids.length b5) c.Formula (.slice R c.Formula.Kids.length c1) _ _ (k.mono jF.mono b.jB) (u.mono jF.mono b.jB) h1) (fun k1 b => V (mT rfl) (ln (CI a4 rfl (fun g3 a4 => ?_) (fun g3 a4 => ?_))))))))))
  ·cases a4
  refine kn ?_
  obtain rfl := sj a4
  exact ⟨_, (b.jy St), rfl, rfl, rfl⟩
 rintro j5 E W ⟨h4, b, h5, h6, i6⟩ n
 refine sg (V (jA h5 (jD b.has (Mt Mh) a1 rfl dR dx)) (bS n fun i9 i1 n => VE (tU b call63 (lV.lE (BH a (.slice A1 a.jw.jJ.length c2) (.slice A3 a.jw.jW.length c4) (.slice A5 a.Client.jJ.length c6) (.slice A7 a.Client.jW.length c8) (.slice A9 a.Formula.Kids.length b5) (.slice c7 a.Keys.length d0) _ _ (f5.mono b.jB) (z.mono jX.mono b.jB) (G.mono lx.mono b.jB) (j.mono jX.mono b.jB) (y.mono lx.mono b.jB) (k.mono jF.mono b.jB) (a5.mono uN.mono b.jB) i1)) (fun l4 j3 l9 i4 b N ab f4 => Wa (lS (V (jA h6 (jD b.has (Ma Mh) a0 rfl dR dx)) (bS n fun f7 i2 n => VE (tU b call63 (lV.lE (BH c (.slice A c.jw.jJ.length b6) (.slice L c.jw.jW.length b7) (.slice O c.Client.jJ.length b9) (.slice P c.Client.jW.length c0) (.slice R c.Formula.Kids.length c1) (.slice c9 c.Keys.length d1) _ _ (f5.mono (N.trans b.jB)) (D.mono jX.mono (N.trans b.jB)) (H.mono lx.mono (N.trans b.jB)) (t.mono jX.mono (N.trans b.jB)) (B.mono lx.mono (N.trans b.jB)) (u.mono jF.mono (N.trans b.jB)) (a6.mono uN.mono (N.trans b.jB)) i2)) (fun l5 j4 h7 i5 b f1 ad d2 => V (nw iQ rfl d2) ?_)))))))))
 refine Wm (ln (kC (fun i E W => ∃ v d9, (E 38 = .int .i64 (i : Nat) ∧ E 37 = .int .i64 (f7.length : Nat)) ∧ ST false kx w W h7 ((f0, Ol a0 34) :: ((e9, Ol a1 34) :: (i5 ++ (i4 ++ d9)))) ∧ E 2 = (.pointer (some ⟨e9, 0, none⟩)) ∧ E 3 = (.pointer (some ⟨f0, 0, none⟩)) ∧ E 5 = (.string v) ∧ E 6 = j3 ∧ E 36 = j4 ∧ yu i9 a c (f7.drop i) i v = some r) f7.length d2.len ⟨j5, _, ⟨rfl, rfl⟩, (b.jy (Sb (Pr (Pr Pz)) (Sb (Pr (Pr Pz)) St))), h5, h6, i6, rfl, rfl, n⟩ dc dc dc (fun _ _ _ h => by obtain ⟨_, _, aa, _⟩ := h; exact aa) ?_ ?_))
 ·rintro f6 E W g4 ⟨v, d9, ⟨eI, eN⟩, b, e4, e5, e6, e7, e8, g⟩
  obtain ⟨m, j6, h2, f2, h3⟩ := kp g4
  rw [h2] at g
  refine bg (Wh eI (VQ (nU (i := (f6 : Int)) (x0 := m) iQ ib e8 eI d2 (aG _) f2) (fun k3 g8 => V (jA rfl (sP b.has (fun p hq => (Mt (Mt (Ml hq)))) d2 By g8 f2 isAgg116 ib)) (VE (ku b fL (fun j7 k2 b => Wa (VO (jR (.agg (mA m).toArray) ((mA m).toArray) b rfl rfl ib (GL m) nb rfl (fun j8 b => ln (jM ?_))))))))))
  replace b := b.drew
  have d := b.has.jy (Kb (Db (Db (Dr (Kr Sn)))))
  refine kI d kl (XH 0 rfl d (fun _ l => jA rfl (jD l Mh (mA m) rfl isAgg116 ib)) (X 1 rfl d (jH e7) (X 2 rfl d (jH rfl) (bS g fun g0 d3 g => XQ 3 rfl d (nU (i := (f6 : Int)) (x0 := g0) iQ ib rfl rfl f4 (ky d3) (kv d3)) (fun k4 g9 => XH 4 rfl d (fun _ l => jA rfl (sP l (fun p hq => (Mt (Ml hq))) f4 By g9 (kv d3) isAgg116 ib)) (X 5 rfl d (D6 rfl rfl (nf eqGuardType116) (zD (Gb _ m g0))) (kT kr (jI (CI g rfl (fun g1 g => ?_) (fun g1 g => ?_))))))))))
  ·cases g
  refine kX (kA (jI ?_))
  replace b := b.jy (Db St)
  exact ⟨eI, v, _, ⟨rfl, eN⟩, (b.jy St), e4, e5, e6, e7, e8, (by rw [h3]; exact g)⟩
 rintro E W ⟨v, d9, ⟨eI, eN⟩, b, e4, e5, e6, e7, e8, g⟩
 rw [aH] at g
 refine jI ?_
 replace b := b.jy (Kb (Kb (Dr (Dr St))))
 refine jM (CJ g (fun f8 E W => ∃ f3, ST false kx w W h7 f3 ∧ E 5 = (.string f8)) (fun f8 a3 => ?_) ?_)
 ·refine sg (V (jG KM e4) (VB b (Mt Mh) rfl rfl isAgg32 (V (jG KM e5) (VB b Mh rfl rfl isAgg32 (bS a3 fun k5 h0 a3 => VE (Eg b call64 (ue (.slice c7 a.Keys.length d0) a.Keys (.slice c9 c.Keys.length d1) c.Keys (.func (.func 65) #[] #[]) (fun (x : (Key × Key)) => yz x.1 x.2) _ _ (a5.mono uN.mono ((N.trans f1).trans b.jB)) (a6.mono uN.mono ((N.trans f1).trans b.jB)) ⟨65, #[], #[], rfl, call65, fun W x vs r hs hR hm => by obtain ⟨_, _, rfl, i7, i8⟩ := hR; obtain ⟨u0, rfl, k0⟩ := i7.out; obtain ⟨t0, rfl, j0⟩ := i8.out; exact (GS x.1 u0 x.2 t0 r W k0 j0 hm).lE⟩ h0) (fun j9 b => V (mT rfl) (ln ?_))))))))
  replace b := b.jy (Kb (Db St))
  refine CI a3 rfl (fun g2 a3 => ?_) (fun g2 a3 => ?_)
  ·cases a3
  refine kn ?_
  obtain rfl := sj a3
  exact ⟨_, (b.jy (Db St)), e6⟩
 rintro k9 E W ⟨f3, b, h8⟩ g7
 exact sg (Wh h8 (Wa (lt (rQ g7 b))))
theorem Ev (j : Value) (t : List jv) (c : jv) (r : Int) (w : World) (g : Sl (Pl jz) 9 (hp w) j t) (hm : wy t c = some r) :
  jV true pg0 242 [j, (.agg (jz c).toArray)] w (.int .i64 r) := by
 refine cG 19 func242 rfl (fun b => sg (VE (kd b rfl (fun Q J b => Wa (lS (Wm (V (kU aP rfl g) (Wm (ln ?_)))))))))
 refine kC (fun i E W => ∃ k, (E 8 = .int .i64 (i : Nat) ∧ E 7 = .int .i64 (t.length : Nat)) ∧ ST true kx w W (hp w) ((J, Ol (jz c) 52) :: k) ∧ E 0 = j ∧ E 3 = (.pointer (some ⟨J, 0, none⟩)) ∧ pO c (t.drop i) i = some r) t.length g.len ⟨_, ⟨rfl, rfl⟩, (b.jy St), rfl, rfl, hm⟩ dc dc dc (fun _ _ _ h => by obtain ⟨_, m, _⟩ := h; exact m) ?_ ?_
 ·rintro K E W B ⟨k, ⟨l, p⟩, b, u, x, a⟩
  obtain ⟨y, M, H, G, I⟩ := kp B
  rw [H] at a
  refine bg (Wh l (Wa (ln (jM ?_))))
  replace b := b.drew
  have d := b.has.jy (Kb Sn)
  refine kI d kl (XH 0 rfl d (fun _ n => jA x (jD n Mh (jz c) rfl bR aJ)) (X 1 rfl d (jH u) (X 2 rfl d (jH rfl) (XQ 3 rfl d (na (enc := jz) (i := (K : Int)) (x0 := y) aP aJ rfl rfl g (aG _) G) (fun N D => XH 4 rfl d (fun _ n => jA rfl (kf n D bR aJ)) (X 5 rfl d (uY rfl rfl (nf ey) (rb (uT _ c y))) (kT kr (jI (CI a rfl (fun z a => ?_) (fun z a => ?_))))))))))
  ·refine sg (Wm (Wa (ln ?_)))
   replace b := b.jy (Db St)
   refine kh (mi (kw (mi (kw ?_))))
   obtain rfl := sj a
   exact rP b
  exact kX (kA (jI ⟨l, _, ⟨rfl, p⟩, (b.jy St), u, x, (by rw [I]; exact a)⟩))
 rintro E W ⟨k, ⟨l, p⟩, b, u, x, a⟩
 rw [aH] at a
 refine jI ?_
 replace b := b.jy (Db St)
 exact sg (Wa (lt (rQ a b)))
theorem Co (a : Value) (g : List jv) (c : jv) (r : Bool) (w : World) (i : Sl (Pl jz) 9 (hp w) a g) (hm : rS g c = some r) :
  jV true pg0 179 [a, (.agg (jz c).toArray)] w (.bool r) := by
 refine cG 9 func179 rfl (fun b => sg (VE (kd b rfl (fun k u b => Wa (lr (Wm (VA b Mh (jz c) bR aJ (bS hm fun x j hm => VE (Eg b call242 (Ev a g c _ _ (i.mono (Pl.mono _) b.jB) j) (fun t b => Wi rfl (Wa ?_)))))))))))
 refine ln ?_
 exact kh (rQ hm b)
theorem DK (a : Value) (g : List jv) (c : jv) (r : Bool) (w : World) (i : Sl (Pl jz) 9 (hp w) a g) (hm : th g c = some r) :
  jV true pg0 111 [a, (.agg (jz c).toArray)] w (.bool r) := by
 refine cG 8 func111 rfl (fun b => sg (VE (kd b rfl (fun k u b => Wa (lr (Wm (VA b Mh (jz c) bR aJ (bS hm fun x j hm => VE (Eg b call179 (Co a g c _ _ (i.mono (Pl.mono _) b.jB) j) (fun t b => Wa (kk ?_)))))))))))
 refine jI ?_
 exact kh (rQ hm b)
theorem Ld (a : jv) (r : List ju) (w : World) (hm : za a = some r) :
  lV true pg0 320 [(.agg (jz a).toArray)] w 27 jE 2 r := by
 refine vi 27 func320 rfl (fun b => sg (VE (kd b rfl (fun W2 h b => Wa (lS (VA b Mh (jz a) bR aJ (bS hm fun r3 A hm => VE (Eg b call144 (wZ a _ _  A) (fun W5 b => V (mT rfl) (kk ?_))))))))))
 refine jI (CI hm rfl (fun n hm => ?_) (fun n hm => ?_))
 ·refine sg (Wa (ln ?_))
  replace b := b.jy (Db St)
  refine kh (kw ?_)
  obtain rfl := sj hm
  exact lB (v := (.slice none 0 0)) rfl rfl ⟨_, [], rfl, b.nM (fun p d => by cases d) (by simp), jZ.nil _ _ _⟩
 refine kg (Wf qp (VA b Mh (jE a.Head) bn aN (VE (kq (cs := (jE a.Head).toArray) b (lW rfl) (mr eo aN ee) (fun W8 y b => Wa (ln (jM (CJ hm (fun I E W => ∃ j i z, ST true kx w W (hp w) ((h, Ol (jz a) 52) :: (i ++ z)) ∧ E 1 = (.pointer (some ⟨h, 0, none⟩)) ∧ E 3 = j ∧ jZ 27 jE 2 j I i) (fun I g => ?_) ?_))))))))
 ·refine sg (Wf pR (VB b (Mt Mh) rfl rfl bY (Wi rfl (ln (CI g rfl (fun Q g => ?_) (fun Q g => ?_))))))
  ·refine jL (Wm (Wf nD (VA b (Mt Mh) (jE a.B) bn aN (VE (kq (cs := (jE a.B).toArray) b (lW rfl) (mr eo aN ee) (fun b3 a4 b => ?_))))))
   replace b := b.perm (Nb (Pb Pz) Nz)
   refine bS g fun c0 T g => VE (nW (enc := jE) (v := (.slice (some ⟨y, 0, none⟩) 1 1)) (vs := (.slice (some ⟨a4, 0, none⟩) 1 1)) (R := [(y, Ol (jE a.Head) 27)]) b xq dc vt eo vW.1 vW.2.1 rfl vW.2.2.1 vW.2.2.2 rfl rfl (jZ.lit (l := [a.Head]) (enc := jE) rfl dc rfl rfl) (Sl.lit (enc := jE) (l := [a.B]) xq rfl nb rfl (b.at_ (Mt Mh))) T (fun b4 a9 m b K => Wa (ln ?_)))
   obtain rfl := sj g
   exact ⟨a9, m, _, (b.jy (Sb (Pr (Pb Pz)) (Kr (Db St)))), rfl, rfl, K⟩
  refine kn ?_
  obtain rfl := sj g
  replace b := b.Fk
  exact ⟨(.slice (some ⟨y, 0, none⟩) 1 1), [(y, Ol (jE a.Head) 27)], _, (b.jy (Sb (Pr Pz) St)), rfl, rfl, (jZ.lit (l := [a.Head]) (enc := jE) rfl dc rfl rfl)⟩
 rintro b5 E W ⟨j, i, z, b, D, G, u⟩ U
 refine jM (CJ U (fun H E W => ∃ t k B, ST true kx w W (hp w) (k ++ B) ∧ E 3 = t ∧ jZ 27 jE 2 t H k) (fun H c => ?_) ?_)
 ·refine sg (V (jG pR D) (VB b Mh rfl rfl bY (Wi rfl (ln (CI c rfl (fun M c => ?_) (fun M c => ?_))))))
  ·refine jL (Wh G (V (jG rV D) (VA b Mh (jE a.C) bn aN (VE (kq (cs := (jE a.C).toArray) b (lW rfl) (mr eo aN ee) (fun O a3 b => ?_))))))
   replace b := b.perm (Nr (Qb (Qb Qz)) Nz)
   refine bS c fun b9 N c => VE (nW (enc := jE) (v := j) (vs := (.slice (some ⟨a3, 0, none⟩) 1 1)) (R := i) b xq dc vt eo vW.1 vW.2.1 rfl vW.2.2.1 vW.2.2.2 rfl rfl u (Sl.lit (enc := jE) (l := [a.C]) xq rfl nb rfl (b.at_ (Ma Mh))) N (fun P L Z b J => Wa (ln ?_)))
   obtain rfl := sj c
   exact ⟨L, Z, _, (b.jy (Kr (Db (Db St)))), rfl, J⟩
  refine kn ?_
  obtain rfl := sj c
  exact ⟨j, i, _, (b.jy (Db St)), G, u⟩
 rintro b6 E W ⟨t, k, B, b, a5, x⟩ Y
 refine sg (Wh a5 (Wa (lt ?_)))
 obtain rfl := sj Y
 exact lB (v := t) rfl rfl ⟨_, k, rfl, b.nM (fun p d => (Ml d)) x.nd, x⟩
theorem D7 (M : Nat) (u : Value) (a9 : List (ju × (List (ByteArray × Bool)))) (G : LO) (D : Value) (a0 : List jv) (B : LO) (a : Value) (Y : List (ju × (List jv))) (I : LO) (c : Value) (K : List (ByteArray × (List jv))) (t : LO) (j : Value) (a4 : List jN) (y : LO) (J : Int) (H : jv) (r : ((List jv) × (List (ju × (List jv))) × (List (ByteArray × (List jv))))) (w : World) {μ0 : km} (h0 : ni μ0 ((M, Ob #[u, D, a, c, j, (.int .i64 J)] 246) :: (G ++ (B ++ (I ++ (t ++ (y ++ [])))))) w) (e9 : lP (fun (x : ju) => (.agg (jE x).toArray)) (lN Value.string (fun (x : Bool) => (Value.bool x))) u a9 G) (a6 : jZ 52 jz 9 D a0 B) (b2 : lP (fun (x : ju) => (.agg (jE x).toArray)) (jZ 52 jz 9) a Y I) (T : lP Value.string (jZ 52 jz 9) c K t) (e1 : pH 285 kz 3 j a4 y) (hm : tg a9 a0 Y K a4 J H = some r) :
  kY true pg0 261 [(.pointer (some ⟨M, 0, none⟩)), (.agg (jz H).toArray)] w ((M, Ob #[u, D, a, c, j, (.int .i64 J)] 246) :: (G ++ (B ++ (I ++ (t ++ (y ++ [])))))) (fun v L1 W' => ∃ y1 S2 S4 S6, v = (.tuple #[]) ∧ L1 = ((M, Ob #[u, y1, a, c, j, (.int .i64 J)] 246) :: (G ++ (S2 ++ (S4 ++ (S6 ++ (y ++ [])))))) ∧ jZ 52 jz 9 y1 r.1 S2 ∧ lP (fun (x : ju) => (.agg (jE x).toArray)) (jZ 52 jz 9) a r.2.1 S4 ∧ lP Value.string (jZ 52 jz 9) c r.2.2 S6) := by
 refine wB h0 55 func261 rfl (fun d => sg (VE (kd d rfl (fun W2 b1 d => ln (jM ?_)))))
 replace d := d.drew
 have m := d.has.jy (Kb Sn)
 have n := d.has.jy (Db (Kb Sn))
 refine vx 10 m n kl (lf 0 rfl kr (.inl rfl) rfl dc (fun _ _ h => ⟨h.1, lJ br h.2⟩) ⟨m, fun _ => n⟩ (fun _ _ _ _ => jH rfl) (lf 1 rfl kr (.inl rfl) rfl dc (fun _ _ h => ⟨h.1, lJ br h.2⟩) ⟨m, fun _ => n⟩ (fun _ _ _ _ => jH rfl) (lf 2 rfl kr (.inl rfl) rfl dc (fun _ _ h => ⟨h.1, lJ br h.2⟩) ⟨m, fun _ => n⟩ (fun _ _ _ _ => mN rfl) (lf 3 rfl kr (.inl rfl) rfl dc (fun _ _ h => ⟨h.1, lJ br h.2⟩) ⟨m, fun _ => n⟩ (fun _ _ _ _ => jG Ip rfl) (lf 4 rfl kr (.inl rfl) rfl dc (fun _ _ h => ⟨h.1, lJ br h.2⟩) ⟨m, fun _ => n⟩ (fun l W A L => have p := (L.2 (A.Em 10 [4] kr rfl)); jA rfl (jP p Mh rfl isAgg45)) (lf 5 rfl kr (.inl rfl) rfl dc (fun _ _ h => ⟨h.1, lJ br h.2⟩) ⟨m, fun _ => n⟩ (fun l W A L => have p := L.1; jA rfl (jD p Mh (jz H) rfl bR aJ)) (XE 6 rfl (kq (cs := (jz H).toArray) d (lW rfl) (mr aP aJ cO) (fun k0 g0 d => ?_)))))))))
 have m := d.has.jy (Db (Kb Sn))
 have n := d.has.jy (Db (Db (Kb Sn)))
 refine ⟨⟨m, fun _ => n⟩, ?_⟩
 replace d := d.perm (Nr (Qb (Qb (Qb (Qr Qz)))) Nz)
 refine bS hm fun a5 f0 hm => XE 7 rfl (nW (enc := jz) (v := D) (vs := (.slice (some ⟨g0, 0, none⟩) 1 1)) (R := B) d kM dc nz aP nO.1 nO.2.1 rfl nO.2.2.1 nO.2.2.2 rfl rfl a6 (Sl.lit (enc := jz) (l := [H]) kM rfl nb rfl (d.at_ (Ma Mh))) f0 (fun k1 k4 b7 d b5 => ?_))
 have m := d.has.jy (Dr (Db (Kb Sn)))
 have n := d.has.jy (Dr (Db (Db (Kb Sn))))
 refine ⟨⟨m, fun _ => n⟩, (lf 8 rfl kr (.inl rfl) rfl dc (fun _ _ h => ⟨h.1, lJ br h.2⟩) ⟨m, fun _ => n⟩ (fun _ _ _ _ => mN rfl) (lf 9 rfl kr (.inl rfl) rfl dc (fun _ _ h => ⟨h.1, lJ br h.2⟩) ⟨m, fun _ => n⟩ (fun _ _ _ _ => jG Ip rfl) ?_))⟩
 obtain ⟨a8, b0, rfl⟩ := b5.form
 let O : Value := (.slice a8 a5.length b0)
 replace d := d.perm (Nb (Pr (Pb (Pb Pz))) Nz)
 refine XO 10 rfl (jR O (#[u, O, a, c, j, (.int .i64 J)]) d rfl rfl sizeOf45 oc nb rfl (fun k2 d => ?_))
 have m := d.has.jy (Db (Dr (Db (Kb Sn))))
 refine ⟨⟨m, fun h => Ar kr h⟩, (kT kr (jI ?_))⟩
 replace d := d.jy (Kb (Kr (Db St)))
 refine jM (sg (VA d (Mt (Ma Mh)) (jz H) bR aJ (bS hm fun c1 f1 hm => VE (tU d call320 (Ld H _ _  f1) (fun k3 k5 k6 j9 d g4 ab e8 => ?_)))))
 let b8 := (c1.drop (Int.toNat 1))
 obtain ⟨g3, d, g7, ad, f2⟩ := ST.Pk d e8 xq
 refine bS hm fun _ b9 hm => VQ (CD (i := 1) eo aN rfl rfl f2 (vL b9) (vE b9)) (fun g1 b6 => V (kU eo rfl b6.1) (Wm (ln (kC (fun i E W => ∃ a3 U b3, (E 20 = .int .i64 (i : Nat) ∧ E 19 = .int .i64 (b8.length : Nat)) ∧ ST true (keys ((M, Ob #[u, D, a, c, j, (.int .i64 J)] 246) :: (G ++ (B ++ (I ++ (t ++ (y ++ []))))))) w W g3 ((M, Ob #[u, O, a, c, j, (.int .i64 J)] 246) :: ((b1, Ol (jz H) 52) :: (U ++ (b7 ++ (G ++ (t ++ (y ++ b3))))))) ∧ E 0 = (.pointer (some ⟨M, 0, none⟩)) ∧ E 3 = (.pointer (some ⟨b1, 0, none⟩)) ∧ E 18 = g1 ∧ lP (fun (x : ju) => (.agg (jE x).toArray)) (jZ 52 jz 9) a a3 U ∧ oq H K a5 (b8.drop i) a3 = some r) b8.length b6.1.len ⟨Y, I, _, ⟨rfl, rfl⟩, (d.jy (Kb (Sb (Pr Pz) (Sr (Qr (Qr Qz)) St)))), rfl, rfl, rfl, b2, hm⟩ dc dc dc (fun _ _ _ h => by obtain ⟨_, _, _, aa, _⟩ := h; exact aa) ?_ ?_))))
 ·rintro f3 E W d3 ⟨a3, U, b3, ⟨eI, eN⟩, d, a2, N, b4, Z, g⟩
  obtain ⟨Q, h4, d8, d7, d9⟩ := kp d3
  rw [d8] at g
  refine bg (VQ (na (enc := jE) (i := (f3 : Int)) (x0 := Q) eo aN b4 eI b6.1 (aG _) d7) (fun j4 d4 => V (jA rfl (kf d.has d4 bn aN)) (VE (ku d ee (fun i1 j0 d => VO (jR (.agg (jE Q).toArray) ((jE Q).toArray) d rfl rfl aN (vt Q) nb rfl (fun i2 d => ln ?_)))))))
  replace d := d.drew
  have m := d.has.jy (Kb (Kb (Kb Sn)))
  refine kI m kl (X 0 rfl m (jH a2) (X 1 rfl m (mN rfl) (X 2 rfl m (jG LZ rfl) (XH 3 rfl m (fun _ p => jA rfl (jP p (Mt Mh) rfl isAgg243)) (XH 4 rfl m (fun _ p => jA rfl (jD p Mh (jE Q) rfl bn aN)) (XH 5 rfl m (fun _ p => jA N (jD p (Mt (Mt Mh)) (jz H) rfl bR aJ)) (XE 6 rfl (kq (cs := (jz H).toArray) d (lW rfl) (mr aP aJ cO) (fun i3 e6 d => ?_)))))))))
  have m := d.has.jy (Db (Kb (Kb (Kb Sn))))
  refine ⟨m, ?_⟩
  obtain ⟨h1, d1⟩ := Z
  replace d := d.perm (Nr (Qb (Qb (Qb (Qb Qz)))) Nz)
  refine XE 7 rfl (Nh (k := Q) (x0 := [])  kc AK underlying243 jm (jZ.nil _ _ _) d d1 rfl rfl (fun i4 f5 h3 h6 e2 d c3 c2 => ?_))
  have m := d.has.jy (Dr (Dr (Db (Kb (Kb (Kb Sn))))))
  refine ⟨m, (X 8 rfl m (Fw rfl rfl) (X 10 rfl m (Fw rfl rfl) ?_))⟩
  replace d := d.perm (Nr (Qr Qz) Nz)
  refine bS g fun c0 c8 g => XE 9 rfl (nW (enc := jz) (v := f5) (vs := (.slice (some ⟨e6, 0, none⟩) 1 1)) (R := e2) d kM dc nz aP nO.1 nO.2.1 rfl nO.2.2.1 nO.2.2.2 rfl rfl c3 (Sl.lit (enc := jz) (l := [H]) kM rfl nb rfl (d.at_ (Ma (Ma Mh)))) c8 (fun i5 j5 h7 d c4 => ?_))
  have m := d.has.jy (Dr (Dr (Db (Kb (Kb (Kb Sn))))))
  refine ⟨m, ?_⟩
  replace d := d.perm (Nr (Qr Qz) Nz)
  refine XO 11 rfl (KZ (e := 0) (z := c0)  kc AK d c2 rfl rfl rfl c4 (fun i6 h2 e3 d c5 => ?_))
  have m := d.has.jy (Dr (Db (Kb (Kb (Kb Sn)))))
  refine ⟨m, (kT kr (kA (jI ?_)))⟩
  replace d := d.jy (Kr (Db (Db St)))
  exact ⟨eI, (nZ jY a3 Q c0), e3, _, ⟨rfl, eN⟩, (d.jy (Sb (Pr Pz) (Sb (Pr Pz) St))), a2, N, b4, c5.e, (by rw [d9]; exact g)⟩
 rintro E W ⟨a3, U, b3, ⟨eI, eN⟩, d, a2, N, b4, Z, g⟩
 rw [aH] at g
 refine jI (sg (V (jG pR N) (VB d (Mt Mh) rfl rfl bY (Wi rfl (ln (CI g rfl (fun c9 g => ?_) (fun c9 g => ?_)))))))
 ·replace d := d.drew
  have m := d.has.jy (Kb (Kb Sn))
  have n := d.has.jy (Db (Db (Dr (Dr (Dr (Kr Sn))))))
  refine vx 15 m n kl (lf 0 rfl kr (.inl rfl) rfl dc (fun _ _ h => ⟨h.1, lJ br h.2⟩) ⟨m, fun _ => n⟩ (fun _ _ _ _ => jH a2) (lf 1 rfl kr (.inl rfl) rfl dc (fun _ _ h => ⟨h.1, lJ br h.2⟩) ⟨m, fun _ => n⟩ (fun _ _ _ _ => mN rfl) (lf 2 rfl kr (.inl rfl) rfl dc (fun _ _ h => ⟨h.1, lJ br h.2⟩) ⟨m, fun _ => n⟩ (fun _ _ _ _ => jG Io rfl) (lf 3 rfl kr (.inl rfl) rfl dc (fun _ _ h => ⟨h.1, lJ br h.2⟩) ⟨m, fun _ => n⟩ (fun l W A L => have p := L.1; jA rfl (jP p Mh rfl isAgg244)) (lf 4 rfl kr (.inl rfl) rfl dc (fun _ _ h => ⟨h.1, lJ br h.2⟩) ⟨m, fun _ => n⟩ (fun _ _ _ _ => jG uD N) (lf 5 rfl kr (.inl rfl) rfl dc (fun _ _ h => ⟨h.1, lJ br h.2⟩) ⟨m, fun _ => n⟩ (fun l W A L => have p := L.1; jA rfl (jP p (Mt Mh) rfl bM)) (lf 6 rfl kr (.inl rfl) rfl dc (fun _ _ h => ⟨h.1, lJ br h.2⟩) ⟨m, fun _ => n⟩ (fun _ _ _ _ => jH a2) (lf 7 rfl kr (.inl rfl) rfl dc (fun _ _ h => ⟨h.1, lJ br h.2⟩) ⟨m, fun _ => n⟩ (fun _ _ _ _ => mN rfl) (lf 8 rfl kr (.inl rfl) rfl dc (fun _ _ h => ⟨h.1, lJ br h.2⟩) ⟨m, fun _ => n⟩ (fun _ _ _ _ => jG Io rfl) (lf 9 rfl kr (.inl rfl) rfl dc (fun _ _ h => ⟨h.1, lJ br h.2⟩) ⟨m, fun _ => n⟩ (fun l W A L => have p := L.1; jA rfl (jP p Mh rfl isAgg244)) (lf 10 rfl kr (.inl rfl) rfl dc (fun _ _ h => ⟨h.1, lJ br h.2⟩) ⟨m, fun _ => n⟩ (fun _ _ _ _ => jG uD N) (lf 11 rfl kr (.inl rfl) rfl dc (fun _ _ h => ⟨h.1, lJ br h.2⟩) ⟨m, fun _ => n⟩ (fun l W A L => have p := L.1; jA rfl (jP p (Mt Mh) rfl bM)) ?_))))))))))))
  obtain ⟨e0, P⟩ := T
  obtain ⟨h8, g8, g9⟩ := mO.rowAt mf.1 P H.kL
  refine lf 12 rfl kr (.inl rfl) rfl dc (fun _ _ h => ⟨h.1, lJ br h.2⟩) ⟨m, fun _ => n⟩ (fun l W A L => have p := (L.2 (A.Em 15 [12] kr rfl)); oT (k := H.kL) (z := (.slice none 0 0)) HO underlying244 jm rfl rfl P (fun b o hq => p.2 b o (Ml hq))) (lf 13 rfl kr (.inl rfl) rfl dc (fun _ _ h => ⟨h.1, lJ br h.2⟩) ⟨m, fun _ => n⟩ (fun l W A L => have p := L.1; jA N (jD p (Mt Mh) (jz H) rfl bR aJ)) (XE 14 rfl (kq (cs := (jz H).toArray) d (lW rfl) (mr aP aJ cO) (fun i7 e7 d => ?_))))
  have m := d.has.jy (Db (Kb (Kb Sn)))
  have n := d.has.jy (Db (Db (Db (Dr (Dr (Dr (Kr Sn)))))))
  refine ⟨⟨m, fun _ => n⟩, ?_⟩
  replace d := d.perm (Nr (Qb (Qb (Qb (Qr (Qr (Qr Qz)))))) Nz)
  obtain ⟨h9, e4, d5, d6, d2⟩ := mO.open mf.1 (jZ.nil _ _ _) P H.kL
  replace d := d.perm (UT d5)
  replace d := d.perm (Nr (Qr Qz) Nz)
  refine bS g fun f4 d0 g => XE 15 rfl (nW (enc := jz) (v := (rk kV e0 H.kL (.slice none 0 0))) (vs := (.slice (some ⟨e7, 0, none⟩) 1 1)) (R := e4) d kM dc nz aP nO.1 nO.2.1 rfl nO.2.2.1 nO.2.2.2 rfl rfl d6 (Sl.lit (enc := jz) (l := [H]) kM rfl nb rfl (d.at_ (Ma (Ma Mh)))) d0 (fun i8 j6 i0 d c6 => ?_))
  have m := d.has.jy (Dr (Dr (Db (Kb (Kb Sn)))))
  refine ⟨⟨m, fun h => Ar kr h⟩, ?_⟩
  replace d := d.perm (Nr (Qr Qz) Nz)
  refine XO 16 rfl (R3 (k := H.kL) (z := f4)  HO underlying244 d d2 rfl rfl rfl c6 (fun i9 e5 d c7 => ?_))
  have m := d.has.jy (Dr (Db (Kb (Kb Sn))))
  refine ⟨⟨m, fun h => Ar kr h⟩, (kT kr (nQ ?_))⟩
  obtain rfl := sj g
  exact nr rfl ⟨_, _, rfl, (d.lO (Sb (Pr (Pb Pz)) (Sr (Qr (Qb (Qb (Qr (Qr Qz))))) (Sr (Qr (Qb (Qb (Qr Qz)))) (Sr (Qr (Qb (Qb Qz))) (Kr (Db (Db (Kr Sn))))))))), O, b7, U, e5, rfl, rfl, b5, Z, c7.e⟩
 refine kX (nQ ?_)
 obtain rfl := sj g
 exact nr rfl ⟨_, _, rfl, (d.lO (Kb (Db (Sr (Qr (Qr Qz)) (Sr (Qr Qz) (Kr (Kr (Kr Sn)))))))), O, b7, U, t, rfl, rfl, b5, Z, T⟩
theorem qR (J : Nat) (g : Value) (a0 : List (ju × (List (ByteArray × Bool)))) (D : LO) (a : Value) (M : List jv) (u : LO) (j : Value) (Z : List (ju × (List jv))) (B : LO) (c : Value) (N : List (ByteArray × (List jv))) (y : LO) (i : Value) (Y : List jN) (t : LO) (H : Int) (G : ju) (U : ByteArray) (r : ((List (ju × (List (ByteArray × Bool)))) × (List jN) × Int)) (w : World) {μ0 : km} (h0 : ni μ0 ((J, Ob #[g, a, j, c, i, (.int .i64 H)] 246) :: (D ++ (u ++ (B ++ (y ++ (t ++ [])))))) w) (a5 : lP (fun (x : ju) => (.agg (jE x).toArray)) (lN Value.string (fun (x : Bool) => (Value.bool x))) g a0 D) (b5 : jZ 52 jz 9 a M u) (c3 : lP (fun (x : ju) => (.agg (jE x).toArray)) (jZ 52 jz 9) j Z B) (b6 : lP Value.string (jZ 52 jz 9) c N y) (K : pH 285 kz 3 i Y t) (hm : nH a0 M Z N Y H G U = some r) :
  kY true pg0 321 [(.pointer (some ⟨J, 0, none⟩)), (.agg (jE G).toArray), (.string U)] w ((J, Ob #[g, a, j, c, i, (.int .i64 H)] 246) :: (D ++ (u ++ (B ++ (y ++ (t ++ [])))))) (fun v L1 W' => ∃ S1 y3 S4, v = (.tuple #[]) ∧ L1 = ((J, Ob #[g, a, j, c, y3, (.int .i64 (r.2.2))] 246) :: (S1 ++ (u ++ (B ++ (y ++ (S4 ++ [])))))) ∧ lP (fun (x : ju) => (.agg (jE x).toArray)) (lN Value.string (fun (x : Bool) => (Value.bool x))) g r.1 S1 ∧ pH 285 kz 3 y3 r.2.1 S4) := by
 let a1 := (#[g, a, j, c, i, (.int .i64 H)] : Array Value)
 refine wB h0 53 func321 rfl (fun m => sg (VE (kd m rfl (fun W2 b1 m => ln (jM (jM ?_))))))
 replace m := m.drew
 have d := m.has.jy (Kb (Kb (Kr Sn)))
 refine kI d kl (X 0 rfl d (jH rfl) (X 1 rfl d (mN rfl) (X 2 rfl d (jG xt rfl) (XH 3 rfl d (fun _ p => jA rfl (jP p (Mt Mh) rfl gM)) (XH 4 rfl d (fun _ p => jA rfl (jD p Mh (jE G) rfl bn aN)) ?_)))))
 obtain ⟨f4, Q⟩ := a5
 refine XH 5 rfl d (fun _ p => oT (k := G) (z := (.map none)) AK eJ fl rfl rfl Q (fun b o O => p.2 b o (Mt (Mt (Ml O))))) (X 6 rfl d (jH rfl) (XH 7 rfl d (fun _ p => Am (k := U) (z := false) (vf := (fun (x : Bool) => (Value.bool x))) HO fw jd rfl rfl (mO.DW (μ := hp _) kc.1 Q G (fun b o O => p.2 b o (Mt (Mt (Ml O)))))) (kT kr (jI (CI hm rfl (fun d5 hm => ?_) (fun d5 hm => ?_))))))
 ·refine kh (kw ?_)
  obtain rfl := sj hm
  exact nr rfl ⟨_, _, rfl, (m.lO (Db (Kb (Kr (Kr (Kr (Kr (Kr Sn)))))))), D, i, t, rfl, rfl, Q.e, K⟩
 refine kn (jM (CJ hm (fun b2 E W => ∃ a8 c0, ST true (keys ((J, Obj.cells a1 246 (0, 0)) :: (D ++ (u ++ (B ++ (y ++ (t ++ []))))))) w W μ0 ((b1, Ol (jE G) 27) :: ((J, Obj.cells a1 246 (0, 0)) :: (a8 ++ (u ++ (B ++ (y ++ (t ++ c0))))))) ∧ E 0 = (.pointer (some ⟨J, 0, none⟩)) ∧ E 2 = (.string U) ∧ E 4 = (.pointer (some ⟨b1, 0, none⟩)) ∧ lP (fun (x : ju) => (.agg (jE x).toArray)) (lN Value.string (fun (x : Bool) => (Value.bool x))) g b2 a8) (fun b2 I => ?_) ?_))
 ·refine jM ?_
  replace m := m.drew
  have d := m.has.jy (Kb (Kb (Kr Sn)))
  refine kI d kl (X 0 rfl d (jH rfl) (X 1 rfl d (mN rfl) (X 2 rfl d (jG xt rfl) (XH 3 rfl d (fun _ p => jA rfl (jP p (Mt Mh) rfl gM)) (XH 4 rfl d (fun _ p => jA rfl (jD p Mh (jE G) rfl bn aN)) (XH 5 rfl d (fun _ p => oT (k := G) (z := (.map none)) AK eJ fl rfl rfl Q (fun b o O => p.2 b o (Mt (Mt (Ml O))))) (X 6 rfl d (Lx kc.1 fw Q rfl rfl) (kT kr (jI (CI I rfl (fun b7 I => ?_) (fun b7 I => ?_)))))))))))
  ·replace m := m.drew
   have d := m.has.jy (Kb (Kb Sn))
   refine kI d kl (X 0 rfl d (jH rfl) (X 1 rfl d (mN rfl) (X 2 rfl d (jG xt rfl) (XH 3 rfl d (fun _ p => jA rfl (jP p (Mt Mh) rfl gM)) (XH 4 rfl d (fun _ p => jA rfl (jD p Mh (jE G) rfl bn aN)) (XE 5 rfl (I5 (P := pg0) Value.string (fun (x : Bool) => (Value.bool x)) m (fun e1 e7 d9 m b3 => ?_))))))))
   have d := m.has.jy (Dr (Kb (Kb Sn)))
   refine ⟨d, ?_⟩
   replace m := m.perm (Nr (Qr (Qb (Qb Qz))) Nz)
   refine bS I fun e4 b9 I => XO 6 rfl (O1 (k := G) (z := ([]))  AK eJ m Q rfl rfl rfl b3 b9 (fun e2 c4 m b4 => ?_))
   have d := m.has.jy (Dr (Kb (Kb Sn)))
   refine ⟨d, (kT kr (jI ?_))⟩
   obtain rfl := sj I
   exact ⟨c4, _, (m.jy (Sb (Pr Pz) (Sb (Pr Pz) St))), rfl, rfl, rfl, b4.e⟩
  refine kn ?_
  obtain rfl := sj I
  exact ⟨D, _, (m.jy St), rfl, rfl, rfl, Q.e⟩
 rintro f2 E W ⟨a8, c0, m, a6, c1, c2, c8⟩ T
 refine jM ?_
 replace m := m.drew
 have d := m.has.jy (Kb (Kb Sn))
 have n := m.has.jy (Db (Db (Kr Sn)))
 refine vx 7 d n kl (lf 0 rfl kr (.inl rfl) rfl dc (fun _ _ h => ⟨h.1, lJ br h.2⟩) ⟨d, fun _ => n⟩ (fun _ _ _ _ => jH a6) (lf 1 rfl kr (.inl rfl) rfl dc (fun _ _ h => ⟨h.1, lJ br h.2⟩) ⟨d, fun _ => n⟩ (fun _ _ _ _ => mN rfl) (lf 2 rfl kr (.inl rfl) rfl dc (fun _ _ h => ⟨h.1, lJ br h.2⟩) ⟨d, fun _ => n⟩ (fun _ _ _ _ => jG xt rfl) (lf 3 rfl kr (.inl rfl) rfl dc (fun _ _ h => ⟨h.1, lJ br h.2⟩) ⟨d, fun _ => n⟩ (fun l W A L => have p := L.1; jA rfl (jP p (Mt Mh) rfl gM)) (lf 4 rfl kr (.inl rfl) rfl dc (fun _ _ h => ⟨h.1, lJ br h.2⟩) ⟨d, fun _ => n⟩ (fun l W A L => have p := L.1; jA c2 (jD p Mh (jE G) rfl bn aN)) ?_)))))
 obtain ⟨e5, a9⟩ := c8
 refine lf 5 rfl kr (.inl rfl) rfl dc (fun _ _ h => ⟨h.1, lJ br h.2⟩) ⟨d, fun _ => n⟩ (fun l W A L => have p := (L.2 (A.Em 7 [5] kr rfl)); oT (k := G) (z := (.map none)) AK eJ fl rfl rfl a9 (fun b o O => p.2 b o (Ml O))) (lf 6 rfl kr (.inl rfl) rfl dc (fun _ _ h => ⟨h.1, lJ br h.2⟩) ⟨d, fun _ => n⟩ (fun _ _ _ _ => jH c1) ?_)
 replace m := m.perm (Nr (Qb (Qb Qz)) Nz)
 refine bS T fun f3 c7 T => XO 7 rfl (NM (k := G) (v := true) (vf := (fun (x : Bool) => (Value.bool x)))  kc.1 HO fw m a9 rfl rfl rfl c7 (fun e8 c9 m c5 => ?_))
 have d := m.has.jy (Dr (Kb (Kb Sn)))
 refine ⟨⟨d, fun h => Ar kr h⟩, (kT kr (jI (sg (Wh a6 (Wn (Wf FU (VB m (Ma (Mt Mh)) rfl rfl bY (Wi rfl (Wn (Wf FU ?_))))))))))⟩
 replace m := m.perm (Nb (Pr (Pb Pz)) Nz)
 refine VO (jR (.int .i64 (wi0 .i64 (H + 1))) (#[g, a, j, c, i, (.int .i64 (wi0 .i64 (H + 1)))]) m rfl rfl fJ (Hk _ (wi0 .i64 (H + 1))) nb rfl (fun e9 m => ln ?_))
 replace m := m.drew
 have d := m.has.jy (Db (Dr (Kb Sn)))
 have n := m.has.jy (Kb Sn)
 refine vx 12 d n kl (lf 0 rfl kr (.inl rfl) rfl dc (fun _ _ h => ⟨h.1, lJ br h.2⟩) ⟨d, fun _ => n⟩ (fun _ _ _ _ => jH a6) (lf 1 rfl kr (.inl rfl) rfl dc (fun _ _ h => ⟨h.1, lJ br h.2⟩) ⟨d, fun _ => n⟩ (fun _ _ _ _ => jH a6) (lf 2 rfl kr (.inl rfl) rfl dc (fun _ _ h => ⟨h.1, lJ br h.2⟩) ⟨d, fun _ => n⟩ (fun _ _ _ _ => mN rfl) (lf 3 rfl kr (.inl rfl) rfl dc (fun _ _ h => ⟨h.1, lJ br h.2⟩) ⟨d, fun _ => n⟩ (fun _ _ _ _ => jG Bd rfl) (lf 4 rfl kr (.inl rfl) rfl dc (fun _ _ h => ⟨h.1, lJ br h.2⟩) ⟨d, fun _ => n⟩ (fun l W A L => have p := (L.2 (A.Em 12 [4] kr rfl)); jA rfl (jP p Mh rfl isAgg226)) (lf 5 rfl kr (.inl rfl) rfl dc (fun _ _ h => ⟨h.1, lJ br h.2⟩) ⟨d, fun _ => n⟩ (fun l W A L => have p := L.1; jA c2 (jD p Mh (jE G) rfl bn aN)) (lf 6 rfl kr (.inl rfl) rfl dc (fun _ _ h => ⟨h.1, lJ br h.2⟩) ⟨d, fun _ => n⟩ (fun _ _ _ _ => jH c1) (lf 7 rfl kr (.inl rfl) rfl dc (fun _ _ h => ⟨h.1, lJ br h.2⟩) ⟨d, fun _ => n⟩ (fun _ _ _ _ => lC (v := (.agg (kz (⟨G, U⟩ : jN)).toArray)) (pw rfl rfl) (kW eF eG (MP _ eG) kr)) (XE 8 rfl (kq (cs := (kz (⟨G, U⟩ : jN)).toArray) m (lW rfl) (mr cP dC eF) (fun f0 d4 m => ?_)))))))))))
 have d := m.has.jy (Db (Db (Dr (Kb Sn))))
 have n := m.has.jy (Db (Kb Sn))
 refine ⟨⟨d, fun _ => n⟩, ?_⟩
 replace m := m.perm (Nr (Qb (Qb (Qr (Qb (Qr (Qr (Qr Qz))))))) Nz)
 refine bS T fun b0 c6 T => XE 9 rfl (LF (enc := kz) (v := i) (vs := (.slice (some ⟨d4, 0, none⟩) 1 1)) (R := t) m pN dc zB cP uk.1 uk.2.1 rfl uk.2.2.1 uk.2.2.2 rfl rfl K (Sl.lit (enc := kz) (l := [(⟨G, U⟩ : jN)]) pN rfl nb rfl (m.at_ (Ma Mh))) c6 (fun f1 e6 d0 m a7 => ?_))
 have d := m.has.jy (Dr (Db (Db (Dr (Kb Sn)))))
 have n := m.has.jy (Dr (Db (Kb Sn)))
 refine ⟨⟨d, fun _ => n⟩, (lf 10 rfl kr (.inl rfl) rfl dc (fun _ _ h => ⟨h.1, lJ br h.2⟩) ⟨d, fun _ => n⟩ (fun _ _ _ _ => mN rfl) (lf 11 rfl kr (.inl rfl) rfl dc (fun _ _ h => ⟨h.1, lJ br h.2⟩) ⟨d, fun _ => n⟩ (fun _ _ _ _ => jG Bd rfl) ?_))⟩
 obtain ⟨a3, a4, rfl⟩ := a7.form
 let a2 : Value := (.slice a3 b0.length a4)
 replace m := m.perm (Nb (Pr (Pb Pz)) Nz)
 refine XO 12 rfl (jR a2 (#[g, a, j, c, a2, (.int .i64 (wi0 .i64 (H + 1)))]) m rfl rfl sizeOf226 oc nb rfl (fun e0 m => ?_))
 have d := m.has.jy (Db (Dr (Db (Dr (Kb Sn)))))
 refine ⟨⟨d, fun h => Ar kr h⟩, (kT kr (nQ ?_))⟩
 obtain rfl := sj T
 exact nr rfl ⟨_, _, rfl, (m.lO (Kb (Sr (Qr (Qb Qz)) (Sr (Qr (Qb (Qb Qz))) (Sr (Qr (Qb (Qb Qz))) (Sr (Qr (Qb (Qb Qz))) (Kr Sn))))))), c9, a2, d0, rfl, rfl, c5.e, a7⟩
theorem vS (a : Value) (g : List (ByteArray × Bool)) (r : Unit) (w : World) (c : wH Value.string (fun (x : Bool) => (Value.bool x)) (hp w) a g) (hm : oz g = some r) :
  kY true pg0 362 [a] w [] (fun v k W' => ∃ i, v = (.func (.func 380) #[] #[(.pointer (some ⟨i, 0, none⟩))]) ∧ k = ((i, Ob #[a] 247) :: [])) := by
 refine vi 4 func362 rfl (fun b => sg ?_)
 obtain ⟨t, rfl⟩ := c.form
 refine VE (kd b rfl (fun u j b => Wa (lr (V (pc (by exact qW rfl) rfl) (Wa (lt ?_))))))
 obtain rfl := sj hm
 exact lB (v := (.func (.func 380) #[] #[(.pointer (some ⟨j, 0, none⟩))])) rfl rfl ⟨_, _, rfl, (b.Kp (Kb Sn)), j, rfl, rfl⟩
theorem IU {β : Type} {vf : β → Value} {l : List (ByteArray × β)} {b : Nat} {a : Value} {W : World} {r : List ByteArray} (d : W.heap[b]? = some (.cells #[a] 247 (0, 0))) (hm : wH Value.string vf (hp W) a l) (hk : Hr l = some r) : lV false pg0 361 [.func (.func 380) #[] #[.pointer (some ⟨b, 0, none⟩)]] W 9 tb 1 r := Lj (P := pg0) RE QS Sf rfl bW call380 call379 d hm hk
theorem yA (T : Nat) (a : Value) (u : List (ju × (List (ByteArray × Bool)))) (c : Value) (t : List jv) (j : Value) (G : List (ju × (List jv))) (g : Value) (B : List (ByteArray × (List jv))) (i : Value) (D : List jN) (Q : Int) (H : ju) (r : List ByteArray) (w : World) (J : qo (fun (x : ju) => (.agg (jE x).toArray)) (lN Value.string (fun (x : Bool) => (Value.bool x))) (hp w) a u) (Z : Sl (Pl jz) 9 (hp w) c t) (a4 : qo (fun (x : ju) => (.agg (jE x).toArray)) (jZ 52 jz 9) (hp w) j G) (a0 : qo Value.string (jZ 52 jz 9) (hp w) g B) (a3 : Sl (Pl kz) 3 (hp w) i D) (Y : At (hp w) (.pointer (some ⟨T, 0, none⟩)) [a, c, j, g, i, (.int .i64 Q)]) (hm : qu u t G B D Q H = some r) :
  lV false pg0 322 [(.pointer (some ⟨T, 0, none⟩)), (.agg (jE H).toArray)] w 9 tb 1 r := by
 refine vi 15 func322 rfl (fun d => sg (VE (kd d rfl (fun W2 b1 d => Wa (lS (Wm (V (uH underlying183 rfl rfl) (ln (qI rfl ?_)))))))))
 refine kn (jM ?_)
 replace d := d.drew
 have h := d.has.jy (Kb Sn)
 refine kI h kl (X 0 rfl h (jH rfl) (X 1 rfl h (mN rfl) (XQ 2 rfl h (Cl [a] xt rfl Y rfl) (fun b9 L => XH 3 rfl h (fun _ l => jA rfl (pA l (y := a) L gM)) (XH 4 rfl h (fun _ l => jA rfl (jD l Mh (jE H) rfl bn aN)) ?_)))))
 obtain ⟨a9, b4, K, M⟩ := J
 refine XH 5 rfl h (fun _ l => oT (k := H) (z := (.map none)) AK eJ fl rfl rfl K (fun b o m => l.1 b o (M b o m))) (bS hm fun c0 O hm => ?_)
 refine XE 6 rfl (yH d (bT _) call362 (fun _ _ _ _ => kY.lE (vS (rk jY a9 H (.map none)) ((lm jY u H).getD []) _ _ ((mO.DW kc.1 K H M).mono d.jB) O)) (fun b5 c2 c3 b3 d I A n a5 => ?_) (L0 := []))
 obtain ⟨b7, N, rfl⟩ := a5
 replace N := N.symm; subst N
 replace d := d.perm (Tb Tn)
 have h := d.has.wV I (Db (Kb Sn))
 refine ⟨h, (bS hm fun c1 P hm => XE 7 rfl (tU d call361 (IU (vf := (fun (x : Bool) => (Value.bool x))) (d.has.2 _ _ Mh) ((mO.DW kc.1 K H M).mono (fun b o m => d.has.1 b o (I b o m))) P) (fun b6 W c4 R d a2 E U => ?_)))⟩
 have h := d.has.wV (I.trans a2) (Dr (Db (Kb Sn)))
 refine ⟨h, (X 8 rfl h (mP rfl) (kT kr (jI ?_)))⟩
 replace d := d.jy (Kr (Db (Db St)))
 refine kh ?_
 obtain rfl := sj hm
 exact lB (v := W) rfl rfl ⟨_, R, rfl, d.nM (fun p m => (Ml m)) U.nd, U⟩
theorem Es (K : Nat) (g : Value) (N : List (ju × (List (ByteArray × Bool)))) (G : LO) (a : Value) (H : List jv) (k : LO) (j : Value) (J : List (ju × (List jv))) (u : LO) (c : Value) (I : List (ByteArray × (List jv))) (t : LO) (z : Value) (M : List jN) (B : LO) (Z : Int) (O a2 : ju) (r : ((List (ju × (List (ByteArray × Bool)))) × (List jN) × Int)) (w : World) {μ0 : km} (h0 : ni μ0 ((K, Ob #[g, a, j, c, z, (.int .i64 Z)] 246) :: (G ++ (k ++ (u ++ (t ++ (B ++ [])))))) w) (a5 : lP (fun (x : ju) => (.agg (jE x).toArray)) (lN Value.string (fun (x : Bool) => (Value.bool x))) g N G) (Q : jZ 52 jz 9 a H k) (a4 : lP (fun (x : ju) => (.agg (jE x).toArray)) (jZ 52 jz 9) j J u) (T : lP Value.string (jZ 52 jz 9) c I t) (a3 : pH 285 kz 3 z M B) (hm : tY N H J I M Z O a2 = some r) :
  kY false pg0 363 [(.pointer (some ⟨K, 0, none⟩)), (.agg (jE O).toArray), (.agg (jE a2).toArray)] w ((K, Ob #[g, a, j, c, z, (.int .i64 Z)] 246) :: (G ++ (k ++ (u ++ (t ++ (B ++ [])))))) (fun v L1 W' => ∃ S1 y3 S4, v = (.tuple #[]) ∧ L1 = ((K, Ob #[g, a, j, c, y3, (.int .i64 (r.2.2))] 246) :: (S1 ++ (k ++ (u ++ (t ++ (S4 ++ [])))))) ∧ lP (fun (x : ju) => (.agg (jE x).toArray)) (lN Value.string (fun (x : Bool) => (Value.bool x))) g r.1 S1 ∧ pH 285 kz 3 y3 r.2.1 S4) := by
 refine wB h0 21 func363 rfl (fun d => sg (VE (kd d rfl (fun W2 b1 d => VE (kd d rfl (fun W4 b3 d => lr (Wm (VA d (Mt Mh) (jE O) bn aN (bS hm fun r5 e6 hm => VE (tU d call322 (yA K g N a H j J c I z M Z O _ _ (a5.at (fun b o l => d.at_ (Mt (Mt (Mt (Ml l)))))) (Q.sl kM (fun b o l => d.at_ (Mt (Mt (Mt (Ma (Ml l))))))) (a4.at (fun b o l => d.at_ (Mt (Mt (Mt (Ma (Ma (Ml l)))))))) (T.at (fun b o l => d.at_ (Mt (Mt (Mt (Ma (Ma (Ma (Ml l))))))))) ((a3.Ej pN).mono (Pl.mono _) (lR (fun b o l => d.at_ (Mt (Mt (Mt (Ma (Ma (Ma (Ma (Ml l))))))))))) (At.of (d.at_ (Mt (Mt Mh))) _ rfl) e6) (fun W7 e7 L e2 d f5 ae a9 => V (nw dw rfl a9) (Wm ?_))))))))))))
 refine ln ?_
 replace d := d.jy (Kr (Kb (Db St)))
 refine pk (kC (fun i E W => ∃ m U a0 n Y A P b7, (E 12 = .int .i64 (i : Nat) ∧ E 11 = .int .i64 (r5.length : Nat)) ∧ kj L P ∧ ST false (keys ((K, Ob #[g, a, j, c, z, (.int .i64 Z)] 246) :: (G ++ (k ++ (u ++ (t ++ (B ++ []))))))) w W P ((K, Ob #[g, a, j, c, a0, (.int .i64 A)] 246) :: ((b3, Ol (jE a2) 27) :: (U ++ (k ++ (u ++ (t ++ (Y ++ (e2 ++ b7)))))))) ∧ E 0 = (.pointer (some ⟨K, 0, none⟩)) ∧ E 5 = (.pointer (some ⟨b3, 0, none⟩)) ∧ E 10 = e7 ∧ lP (fun (x : ju) => (.agg (jE x).toArray)) (lN Value.string (fun (x : Bool) => (Value.bool x))) g m U ∧ pH 285 kz 3 a0 n Y ∧ pP H J I a2 (r5.drop i) m n A = some r) r5.length a9.len ⟨N, G, z, M, B, Z, L, _, ⟨rfl, rfl⟩, (kj.refl _), (d.jy (Sb (Pr (Pb Pz)) (Sb (Pr Pz) (Sr (Qr Qz) (Sr (Qr Qz) (Sr (Qr Qz) (Sr (Qr Qz) (Sr (Qr Qz) St)))))))), rfl, rfl, rfl, a5, a3, hm⟩ dc dc dc (fun _ _ _ h => by obtain ⟨_, _, _, _, _, _, _, _, aa, _⟩ := h; exact aa) ?_ ?_)
 ·rintro d8 E W c9 ⟨m, U, a0, n, Y, A, P, b7, ⟨eI, eN⟩, b6, d, c0, c1, c2, R, b2, D⟩
  obtain ⟨c4, f0, d2, c5, d3⟩ := kp c9
  rw [d2] at D
  refine bg (VQ (nU (i := (d8 : Int)) (x0 := c4) dw ej c2 eI a9 (aG _) c5) (fun f6 d0 => V (jA rfl (DB d.has (fun p l => (Mt (Mt (Ma (Ma (Ma (Ma (Ma (Ml l))))))))) a9 (fun _ => rfl) d0 c5 (y := (.string c4)) rfl bM)) (Wa (ln (jL (Wh c0 (V (jA c1 (jD d.has (Mt Mh) (jE a2) rfl bn aN)) (Wm (bS D fun c3 d1 D => ?_)))))))))
  refine VE (eM d (Cb Pz (Cr (Qb Qz) (Cr (Qb Qz) (Cr (Qb Qz) (Cr (Qb Qz) (Cr (Qb Qz) Cn)))))) call321 (fun hh _ => kY.lE (qR K g m U a H k j J u c I t a0 n Y A a2 c4 _ _ hh R Q a4 T b2 d1)) ?_)
  rintro _ f7 e1 f2 d c7 ab ad ⟨d6, e0, d7, b4, rfl, d4, d5⟩
  obtain rfl := b4.symm
  replace d := d.perm (Tb (Tr (Tr (Tr (Tr (Tr Tn))))))
  exact kk (kA (jI ⟨eI, c3.1, d6, e0, c3.2.1, d7, c3.2.2, e1, _, ⟨rfl, eN⟩, (b6.trans c7), (d.jy (Kb (Sb (Pr (Pr (Pr (Pr (Pr Pz))))) St))), c0, c1, c2, d4, d5, (by rw [d3]; exact D)⟩))
 rintro E W ⟨m, U, a0, n, Y, A, P, b7, ⟨eI, eN⟩, b6, d, c0, c1, c2, R, b2, D⟩
 rw [aH] at D
 refine jI ?_
 replace d := d.jy (Kb (Db (Kr (Kr (Kr (Kr (Kr (Dr St))))))))
 refine nQ ?_
 obtain rfl := sj D
 exact nr rfl ⟨_, _, rfl, (d.lO (Kb (Kr (Kr (Kr (Kr (Kr Sn))))))), U, a0, Y, rfl, rfl, R, b2⟩
theorem zw (K : Nat) (G : Value) (Z : List (ju × (List (ByteArray × Bool)))) (D : LO) (g : Value) (I : List jv) (a : LO) (B : Value) (N : List (ju × (List jv))) (y : LO) (i : Value) (J : List (ByteArray × (List jv))) (c : LO) (t : Value) (M : List jN) (j : LO) (a0 : Int) (Q : jv) (a2 : jN) (r : ((List (ju × (List (ByteArray × Bool)))) × (List jN) × Int)) (w : World) {μ0 : km} (h0 : ni μ0 ((K, Ob #[G, g, B, i, t, (.int .i64 a0)] 246) :: (D ++ (a ++ (y ++ (c ++ (j ++ [])))))) w) (U : lP (fun (x : ju) => (.agg (jE x).toArray)) (lN Value.string (fun (x : Bool) => (Value.bool x))) G Z D) (T : jZ 52 jz 9 g I a) (a3 : lP (fun (x : ju) => (.agg (jE x).toArray)) (jZ 52 jz 9) B N y) (Y : lP Value.string (jZ 52 jz 9) i J c) (H : pH 285 kz 3 t M j) (hm : rn Z I N J M a0 Q a2 = some r) :
  kY false pg0 323 [(.pointer (some ⟨K, 0, none⟩)), (.agg (jz Q).toArray), (.agg (kz a2).toArray)] w ((K, Ob #[G, g, B, i, t, (.int .i64 a0)] 246) :: (D ++ (a ++ (y ++ (c ++ (j ++ [])))))) (fun v L1 W' => ∃ S1 y3 S4, v = (.tuple #[]) ∧ L1 = ((K, Ob #[G, g, B, i, y3, (.int .i64 (r.2.2))] 246) :: (S1 ++ (a ++ (y ++ (c ++ (S4 ++ [])))))) ∧ lP (fun (x : ju) => (.agg (jE x).toArray)) (lN Value.string (fun (x : Bool) => (Value.bool x))) G r.1 S1 ∧ pH 285 kz 3 y3 r.2.1 S4) := by
 let L := (#[G, g, B, i, t, (.int .i64 a0)] : Array Value)
 refine wB h0 57 func323 rfl (fun d => sg (VE (kd d rfl (fun W2 O d => VE (kd d rfl (fun W4 R d => lr (Wf pR (VB d (Mt Mh) rfl rfl bY (ln (kZ (jM ?_)))))))))))
 refine jL (Wi rfl (Wa (ln (CI hm rfl (fun e5 hm => ?_) (fun e5 hm => ?_)))))
 ·refine jL (Wm (Wf qp (VA d (Mt Mh) (jE Q.Head) bn aN (Wf wk (VB d Mh rfl rfl bM (bS hm fun r6 e6 hm => ?_))))))
  refine VE (eM d (Cb (Pb (Pb Pz)) (Cr (Qb (Qb Qz)) (Cr (Qb (Qb Qz)) (Cr (Qb (Qb Qz)) (Cr (Qb (Qb Qz)) (Cr (Qb (Qb Qz)) Cn)))))) call321 (fun A _ => kY.lE (qR K G Z D g I a B N y i J c t M j a0 Q.Head a2.kE _ _ A U T a3 Y H e6)) ?_)
  rintro _ g7 ad f8 d f2 a6 m ⟨d2, e7, d3, a8, rfl, c5, c6⟩
  obtain rfl := a8.symm
  replace d := d.perm (Tb (Tr (Tr (Tr (Tr (Tr Tn))))))
  refine kk (kA (nQ ?_))
  obtain rfl := sj hm
  exact nr rfl ⟨_, _, rfl, (d.lO (Kb (Kr (Kr (Kr (Kr (Kr Sn))))))), d2, e7, d3, rfl, rfl, c5, c6⟩
 refine sg (Wi rfl (Wa (ln (CI hm rfl (fun c0 hm => ?_) (fun c0 hm => ?_)))))
 ·refine jL (Wm (Wf wk (VB d Mh rfl rfl bM (Wf uD (VB d (Mt Mh) rfl rfl bM (V (lC (v := (.agg (jE (⟨a2.kE, Q.kL⟩ : ju)).toArray)) (pw rfl rfl) (kW ee dA (Kc _ dA) kr)) (Wf qp (VA d (Mt Mh) (jE Q.Head) bn aN (bS hm fun g3 c3 hm => ?_)))))))))
  refine VE (eM d (Cb (Pb (Pb Pz)) (Cr (Qb (Qb Qz)) (Cr (Qb (Qb Qz)) (Cr (Qb (Qb Qz)) (Cr (Qb (Qb Qz)) (Cr (Qb (Qb Qz)) Cn)))))) call363 (fun A _ => (Es K G Z D g I a B N y i J c t M j a0 (⟨a2.kE, Q.kL⟩ : ju) Q.Head _ _ A U T a3 Y H c3)) ?_)
  rintro _ g8 h2 f9 d f3 aa m ⟨d4, e9, d5, a9, rfl, c7, c8⟩
  obtain rfl := a9.symm
  replace d := d.perm (Tb (Tr (Tr (Tr (Tr (Tr Tn))))))
  refine kk (kA (nQ ?_))
  obtain rfl := sj hm
  exact nr rfl ⟨_, _, rfl, (d.lO (Kb (Kr (Kr (Kr (Kr (Kr Sn))))))), d4, e9, d5, rfl, rfl, c7, c8⟩
 refine sg (Wi rfl (Wa (ln (CI hm rfl (fun c1 hm => ?_) (fun c1 hm => ?_)))))
 ·refine jM ?_
  replace d := d.drew
  have h := d.has.jy (Kb (Kb (Kb (Kr Sn))))
  refine kI h kl (X 0 rfl h (jH rfl) (X 1 rfl h (mN rfl) (X 2 rfl h (jG xt rfl) (XH 3 rfl h (fun _ l => jA rfl (jP l (Mt (Mt Mh)) rfl gM)) (X 4 rfl h (jG nD rfl) (XH 5 rfl h (fun _ l => jA rfl (jD l (Mt Mh) (jE Q.B) rfl bn aN)) ?_))))))
  obtain ⟨f7, a5⟩ := U
  refine XH 6 rfl h (fun _ l => oT (k := Q.B) (z := (.map none)) AK eJ fl rfl rfl a5 (fun b o n => l.2 b o (Mt (Mt (Mt (Ml n)))))) (X 7 rfl h (jG wk rfl) (XH 8 rfl h (fun _ l => jA rfl (jP l Mh rfl bM)) (XH 9 rfl h (fun _ l => Am (k := a2.kE) (z := false) (vf := (fun (x : Bool) => (Value.bool x))) HO fw jd rfl rfl (mO.DW (μ := hp _) kc.1 a5 Q.B (fun b o n => l.2 b o (Mt (Mt (Mt (Ml n))))))) (X 10 rfl h (jH rfl) (PJ hm (fun b5 E W => ∃ b4, ST false (keys ((K, Obj.cells L 246 (0, 0)) :: (D ++ (a ++ (y ++ (c ++ (j ++ []))))))) w W μ0 ((R, Ol (kz a2) 285) :: ((O, Ol (jz Q) 52) :: ((K, Obj.cells L 246 (0, 0)) :: (D ++ (a ++ (y ++ (c ++ (j ++ b4)))))))) ∧ E 0 = (.pointer (some ⟨K, 0, none⟩)) ∧ E 4 = (.pointer (some ⟨O, 0, none⟩)) ∧ E 5 = (.pointer (some ⟨R, 0, none⟩)) ∧ E 50 = (.bool b5)) (bm 22 4194303) 0 ?_ (fun b5 p P => ?_))))))
  ·rintro h1 E W ⟨b4, d, e1, e2, e3, e4⟩ a4
   refine kT kr (jI (CI a4 e4 (fun c2 a4 => ?_) (fun c2 a4 => ?_)))
   ·refine jL (Wh e1 (V (jG qp e2) (VA d (Mt Mh) (jE Q.Head) bn aN (V (jG wk e3) (VB d Mh rfl rfl bM (bS a4 fun g4 c4 a4 => ?_))))))
    refine VE (eM d (Cb (Pb (Pb Pz)) (Cr (Qb (Qb Qz)) (Cr (Qb (Qb Qz)) (Cr (Qb (Qb Qz)) (Cr (Qb (Qb Qz)) (Cr (Qb (Qb Qz)) Cn)))))) call321 (fun A _ => kY.lE (qR K G Z D g I a B N y i J c t M j a0 Q.Head a2.kE _ _ A a5.e T a3 Y H c4)) ?_)
    rintro _ g9 h3 g0 d f4 ab m ⟨d7, f0, d8, b0, rfl, c9, d0⟩
    obtain rfl := b0.symm
    replace d := d.perm (Tb (Tr (Tr (Tr (Tr (Tr Tn))))))
    refine kk (kA (nQ ?_))
    obtain rfl := sj a4
    exact nr rfl ⟨_, _, rfl, (d.lO (Kb (Kr (Kr (Kr (Kr (Kr Sn))))))), d7, f0, d8, rfl, rfl, c9, d0⟩
   refine kX (kA (nQ ?_))
   obtain rfl := sj a4
   exact nr rfl ⟨_, _, rfl, (d.lO (Db (Db (Kb (Kr (Kr (Kr (Kr (Kr Sn))))))))), D, t, j, rfl, rfl, a5.e, H⟩
  refine bC p (fun u p => ?_) (fun u p => ?_)
  ·refine Xg 11 rfl rfl (cB u) h (jH rfl) (Xg 12 rfl rfl (cB u) h (mN rfl) (Xg 13 rfl rfl (cB u) h (jG xt rfl) (ub 14 rfl rfl (cB u) h (fun _ l => jA rfl (jP l (Mt (Mt Mh)) rfl gM)) (Xg 15 rfl rfl (cB u) h (jG rV rfl) (ub 16 rfl rfl (cB u) h (fun _ l => jA rfl (jD l (Mt Mh) (jE Q.C) rfl bn aN)) (ub 17 rfl rfl (cB u) h (fun _ l => oT (k := Q.C) (z := (.map none)) AK eJ fl rfl rfl a5 (fun b o n => l.2 b o (Mt (Mt (Mt (Ml n)))))) (Xg 18 rfl rfl (cB u) h (jG wk rfl) (ub 19 rfl rfl (cB u) h (fun _ l => jA rfl (jP l Mh rfl bM)) (ub 20 rfl rfl (cB u) h (fun _ l => Am (k := a2.kE) (z := false) (vf := (fun (x : Bool) => (Value.bool x))) HO fw jd rfl rfl (mO.DW (μ := hp _) kc.1 a5 Q.C (fun b o n => l.2 b o (Mt (Mt (Mt (Ml n))))))) (X 21 rfl h (jS (cB u) rfl) ?_))))))))))
   obtain rfl := sj p
   refine nu kr (P _ _ ⟨_, (d.jy St), rfl, rfl, rfl, rfl⟩)
  refine Xn 11 rfl rfl (cB u) h (Xn 12 rfl rfl (cB u) h (Xn 13 rfl rfl (cB u) h (Xn 14 rfl rfl (cB u) h (Xn 15 rfl rfl (cB u) h (Xn 16 rfl rfl (cB u) h (Xn 17 rfl rfl (cB u) h (Xn 18 rfl rfl (cB u) h (Xn 19 rfl rfl (cB u) h (Xn 20 rfl rfl (cB u) h (X 21 rfl h (jT (cB u) rfl) ?_))))))))))
  obtain rfl := sj p
  refine nu kr (P _ _ ⟨_, (d.jy St), rfl, rfl, rfl, rfl⟩)
 refine kX (kA (nQ ?_))
 obtain rfl := sj hm
 exact nr rfl ⟨_, _, rfl, (d.lO (Db (Db (Kb (Kr (Kr (Kr (Kr (Kr Sn))))))))), D, t, j, rfl, rfl, U, H⟩
theorem Dq (K : Nat) (g : Value) (T : List (ju × (List (ByteArray × Bool)))) (D : LO) (a : Value) (G : List jv) (j : LO) (t : Value) (J : List (ju × (List jv))) (u : LO) (c : Value) (H : List (ByteArray × (List jv))) (k : LO) (z : Value) (M : List jN) (B : LO) (a0 : Int) (Z : jv) (r : ((List (ju × (List (ByteArray × Bool)))) × (List jN) × Int)) (w : World) {μ0 : km} (h0 : ni μ0 ((K, Ob #[g, a, t, c, z, (.int .i64 a0)] 246) :: (D ++ (j ++ (u ++ (k ++ (B ++ [])))))) w) (a2 : lP (fun (x : ju) => (.agg (jE x).toArray)) (lN Value.string (fun (x : Bool) => (Value.bool x))) g T D) (N : jZ 52 jz 9 a G j) (Y : lP (fun (x : ju) => (.agg (jE x).toArray)) (jZ 52 jz 9) t J u) (Q : lP Value.string (jZ 52 jz 9) c H k) (U : pH 285 kz 3 z M B) (hm : sC T G J H M a0 Z = some r) :
  kY false pg0 262 [(.pointer (some ⟨K, 0, none⟩)), (.agg (jz Z).toArray)] w ((K, Ob #[g, a, t, c, z, (.int .i64 a0)] 246) :: (D ++ (j ++ (u ++ (k ++ (B ++ [])))))) (fun v L1 W' => ∃ S1 y3 S4, v = (.tuple #[]) ∧ L1 = ((K, Ob #[g, a, t, c, y3, (.int .i64 (r.2.2))] 246) :: (S1 ++ (j ++ (u ++ (k ++ (S4 ++ [])))))) ∧ lP (fun (x : ju) => (.agg (jE x).toArray)) (lN Value.string (fun (x : Bool) => (Value.bool x))) g r.1 S1 ∧ pH 285 kz 3 y3 r.2.1 S4) := by
 refine wB h0 33 func262 rfl (fun d => sg (VE (kd d rfl (fun W2 b1 d => lr (Wf pR (VB d Mh rfl rfl bY (ln (bg ?_))))))))
 refine Wi rfl (Wa (ln (CI hm rfl (fun f1 hm => ?_) (fun f1 hm => ?_))))
 ·refine jL (Wm (Wf qp (VA d Mh (jE Z.Head) bn aN (Wf vT (VB d Mh rfl rfl bM (bS hm fun r4 f2 hm => ?_))))))
  refine VE (eM d (Cb (Pb Pz) (Cr (Qb Qz) (Cr (Qb Qz) (Cr (Qb Qz) (Cr (Qb Qz) (Cr (Qb Qz) Cn)))))) call321 (fun hh _ => kY.lE (qR K g T D a G j t J u c H k z M B a0 Z.Head Z.kE _ _ hh a2 N Y Q U f2)) ?_)
  rintro _ h1 ae g8 d g2 ad m ⟨e7, f4, e8, c2, rfl, e0, e1⟩
  obtain rfl := c2.symm
  replace d := d.perm (Tb (Tr (Tr (Tr (Tr (Tr Tn))))))
  refine kk (kA (nQ ?_))
  obtain rfl := sj hm
  exact nr rfl ⟨_, _, rfl, (d.lO (Kb (Kr (Kr (Kr (Kr (Kr Sn))))))), e7, f4, e8, rfl, rfl, e0, e1⟩
 refine sg (Wm (Wf nD (VA d Mh (jE Z.B) bn aN (bS hm fun c6 d9 hm => VE (tU d call322 (yA K g T a G t J c H z M a0 Z.B _ _ (a2.at (fun b o l => d.at_ (Mt (Mt (Ml l))))) (N.sl kM (fun b o l => d.at_ (Mt (Mt (Ma (Ml l)))))) (Y.at (fun b o l => d.at_ (Mt (Mt (Ma (Ma (Ml l))))))) (Q.at (fun b o l => d.at_ (Mt (Mt (Ma (Ma (Ma (Ml l)))))))) ((U.Ej pN).mono (Pl.mono _) (lR (fun b o l => d.at_ (Mt (Mt (Ma (Ma (Ma (Ma (Ml l)))))))))) (At.of (d.at_ (Mt Mh)) _ rfl) d9) (fun g9 f3 d5 e5 d f6 ab P => V (nw dw rfl P) (Wm (ln (pk (kC (fun i E W => ∃ n a3 a5 A a4 a9 R b9, (E 13 = .int .i64 (i : Nat) ∧ E 12 = .int .i64 (c6.length : Nat)) ∧ kj d5 R ∧ ST false (keys ((K, Ob #[g, a, t, c, z, (.int .i64 a0)] 246) :: (D ++ (j ++ (u ++ (k ++ (B ++ []))))))) w W R ((K, Ob #[g, a, t, c, a5, (.int .i64 a9)] 246) :: ((b1, Ol (jz Z) 52) :: (a3 ++ (j ++ (u ++ (k ++ (a4 ++ (e5 ++ b9)))))))) ∧ E 0 = (.pointer (some ⟨K, 0, none⟩)) ∧ E 3 = (.pointer (some ⟨b1, 0, none⟩)) ∧ E 11 = f3 ∧ lP (fun (x : ju) => (.agg (jE x).toArray)) (lN Value.string (fun (x : Bool) => (Value.bool x))) g n a3 ∧ pH 285 kz 3 a5 A a4 ∧ oV G J H Z (c6.drop i) n A a9 = some r) c6.length P.len ⟨T, D, z, M, B, a0, d5, _, ⟨rfl, rfl⟩, (kj.refl _), (d.jy (Sb (Pr (Pb Pz)) (Sb (Pr Pz) (Sr (Qr Qz) (Sr (Qr Qz) (Sr (Qr Qz) (Sr (Qr Qz) (Sr (Qr Qz) St)))))))), rfl, rfl, rfl, a2, U, hm⟩ dc dc dc (fun _ _ _ h => by obtain ⟨_, _, _, _, _, _, _, _, a1, _⟩ := h; exact a1) ?_ ?_))))))))))
 ·rintro e2 E W c8 ⟨n, a3, a5, A, a4, a9, R, b9, ⟨eI, eN⟩, b7, d, c0, O, c1, b3, b4, I⟩
  obtain ⟨L, f7, d1, c4, d2⟩ := kp c8
  rw [d1] at I
  refine bg (VQ (nU (i := (e2 : Int)) (x0 := L) dw ej c1 eI P (aG _) c4) (fun g3 c9 => V (jA rfl (DB d.has (fun p l => (Mt (Mt (Ma (Ma (Ma (Ma (Ma (Ml l))))))))) P (fun _ => rfl) c9 c4 (y := (.string L)) rfl bM)) (Wa (ln (jL (Wh c0 (V (jA O (jD d.has (Mt Mh) (jz Z) rfl bR aJ)) (V (jG nD O) (VA d (Mt Mh) (jE Z.B) bn aN (Wm (V (lC (v := (.agg (kz (⟨Z.B, L⟩ : jN)).toArray)) (pw rfl rfl) (kW eF eG (MP _ eG) kr)) ?_)))))))))))
  refine bS I fun c3 d0 I => ?_
  refine VE (eM d (Cb Pz (Cr (Qb Qz) (Cr (Qb Qz) (Cr (Qb Qz) (Cr (Qb Qz) (Cr (Qb Qz) Cn)))))) call323 (fun hh _ => (zw K g n a3 a G j t J u c H k a5 A a4 a9 Z (⟨Z.B, L⟩ : jN) _ _ hh b3 N Y Q b4 d0)) ?_)
  rintro _ g4 e4 f9 d c5 aa m ⟨d6, e3, d7, b5, rfl, d3, d4⟩
  obtain rfl := b5.symm
  replace d := d.perm (Tb (Tr (Tr (Tr (Tr (Tr Tn))))))
  exact kk (kA (jI ⟨eI, c3.1, d6, e3, c3.2.1, d7, c3.2.2, e4, _, ⟨rfl, eN⟩, (b7.trans c5), (d.jy (Kb (Sb (Pr (Pr (Pr (Pr (Pr Pz))))) St))), c0, O, c1, d3, d4, (by rw [d2]; exact I)⟩))
 rintro E W ⟨n, a3, a5, A, a4, a9, R, b9, ⟨eI, eN⟩, b7, d, c0, O, c1, b3, b4, I⟩
 rw [aH] at I
 refine jI ?_
 replace d := d.jy (Kb (Db (Kr (Kr (Kr (Kr (Kr (Dr St))))))))
 refine kA (nQ ?_)
 obtain rfl := sj I
 exact nr rfl ⟨_, _, rfl, (d.lO (Kb (Kr (Kr (Kr (Kr (Kr Sn))))))), a3, a5, a4, rfl, rfl, b3, b4⟩
theorem CG (I : Nat) (a : Value) (e8 : List (ju × (List (ByteArray × Bool)))) (K : LO) (c : Value) (Q : List jv) (j : LO) (u : Value) (N : List (ju × (List jv))) (y : LO) (g : Value) (H : List (ByteArray × (List jv))) (t : LO) (G : Value) (d4 : List jN) (D : LO) (a0 : Int) (r : ((List (ju × (List (ByteArray × Bool)))) × (List jN) × Int)) (w : World) {μ0 : km} (h0 : ni μ0 ((I, Ob #[a, c, u, g, G, (.int .i64 a0)] 246) :: (K ++ (j ++ (y ++ (t ++ (D ++ [])))))) w) (h4 : lP (fun (x : ju) => (.agg (jE x).toArray)) (lN Value.string (fun (x : Bool) => (Value.bool x))) a e8 K) (c1 : jZ 52 jz 9 c Q j) (g7 : lP (fun (x : ju) => (.agg (jE x).toArray)) (jZ 52 jz 9) u N y) (c2 : lP Value.string (jZ 52 jz 9) g H t) (g4 : pH 285 kz 3 G d4 D) (hm : uM e8 Q N H d4 a0 = some r) :
  kY false pg0 263 [(.pointer (some ⟨I, 0, none⟩))] w ((I, Ob #[a, c, u, g, G, (.int .i64 a0)] 246) :: (K ++ (j ++ (y ++ (t ++ (D ++ [])))))) (fun v L1 W' => ∃ S1 y3 S4, v = (.tuple #[]) ∧ L1 = ((I, Ob #[a, c, u, g, y3, (.int .i64 (r.2.2))] 246) :: (S1 ++ (j ++ (y ++ (t ++ (S4 ++ [])))))) ∧ lP (fun (x : ju) => (.agg (jE x).toArray)) (lN Value.string (fun (x : Bool) => (Value.bool x))) a r.1 S1 ∧ pH 285 kz 3 y3 r.2.1 S4) := by
 let g5 : Value := (.pointer (some ⟨I, 0, none⟩))
 let b8 := ((I, Ob #[a, c, u, g, G, (.int .i64 a0)] 246) :: (K ++ (j ++ (y ++ (t ++ (D ++ []))))))
 refine wB h0 75 func263 rfl (fun d => pk (kZ (mG (fun m E W => ∃ e3 b7 e4 a1 b9 d1 b4 h5, kj μ0 b4 ∧ ST false (keys b8) w W b4 ((I, Ob #[a, c, u, g, e4, (.int .i64 d1)] 246) :: (b7 ++ (j ++ (y ++ (t ++ (b9 ++ h5)))))) ∧ E 0 = g5 ∧ lP (fun (x : ju) => (.agg (jE x).toArray)) (lN Value.string (fun (x : Bool) => (Value.bool x))) a e3 b7 ∧ pH 285 kz 3 e4 a1 b9 ∧ nl Q N H m e3 a1 d1 = some r) ki ⟨e8, K, G, d4, D, a0, μ0, _, (kj.refl _), (d.jy St), rfl, h4, g4, hm⟩ ?_)))
 rintro m E W ⟨e3, b7, e4, a1, b9, d1, b4, h5, i0, d, P, g9, c5, M⟩
 cases m with
 | zero => rw [nl] at M; cases M
 | succ n0 =>
  refine jM (sg (Wh P (Wn (Wf Bd (VB d Mh rfl rfl isAgg226 (V (Qg cP rfl c5) (Wi rfl (ln (CI M rfl (fun i7 M => ?_) (fun i7 M => ?_))))))))))
  ·refine kn (bg (Wh P (Wn (Wf Bd (VB d Mh rfl rfl isAgg226 (bS M fun B h2 M => VQ (na (enc := kz) (i := 0) (x0 := B) cP dC rfl rfl (c5.Ej pN) (ky h2) (kv h2)) (fun q0 j7 => V (jA rfl (kf (nC.hp _) (j7.mono (lR (fun b o p => d.has.2 b o (Mt (Ma (Ma (Ma (Ma (Ml p))))))))) gr dC)) (VE (ku d eF (fun o9 a5 d => VO (jR (.agg (kz B).toArray) ((kz B).toArray) d rfl rfl dC (zB B) nb rfl (fun p0 d => kk ?_))))))))))))
   let j2 := ((lm jY N B.ju).getD [])
   let j1 : Value := (.pointer (some ⟨a5, 0, none⟩))
   let i6 := ((kz B).toArray : Array Value)
   let i5 := ((lm kV H B.ju.Word).getD [])
   refine jI (sg (Wh P (Wh P (Wn (Wf Bd (VB d (Mt Mh) rfl rfl isAgg226 (bS M fun _ g8 M => VQ (Nd (i := 1) cP dC rfl rfl pN c5 (vL g8) (vE g8)) (fun q3 h1 => Wn (Wf Bd ?_)))))))))
   obtain ⟨f7, g0, rfl⟩ := h1.form
   let g6 : Value := (.slice f7 (a1.drop (Int.toNat 1)).length g0)
   replace d := d.perm (Nb (Pb Pz) Nz)
   refine VO (jR g6 (#[a, c, u, g, g6, (.int .i64 d1)]) d rfl rfl sizeOf226 oc nb rfl (fun p1 d => ln (jM (jM ?_))))
   replace d := d.drew
   have l := d.has.jy (Kb (Kb (Dr (Dr (Kr Sn)))))
   refine kI l kl (X 0 rfl l (jH P) (X 1 rfl l (mN rfl) (X 2 rfl l (jG LZ rfl) (XH 3 rfl l (fun _ n => jA rfl (jP n Mh rfl isAgg243)) (X 4 rfl l (jG xw rfl) (XH 5 rfl l (fun _ n => jA rfl (jD n (Mt Mh) (jE B.ju) rfl bn aN)) ?_))))))
   obtain ⟨l7, c3⟩ := g7
   obtain ⟨o7, f0, k2⟩ := mO.rowAt kc.1 c3 B.ju
   refine XH 6 rfl l (fun _ n => oT (k := B.ju) (z := (.slice none 0 0)) AK underlying243 jm rfl rfl c3 (fun b o p => n.2 b o (Mt (Mt (Ml p))))) (X 7 rfl l (kU aP rfl (f0.Ej kM)) (X 8 rfl l (jH rfl) (kT kr (jI (CJ M (fun d0 E W => ∃ d6 e5 d7 b5 h6, kj b4 b5 ∧ ST false (keys b8) w W b5 ((I, Ob #[a, c, u, g, e5, (.int .i64 d0.2.2)] 246) :: ((a5, Obj.cells i6 285 (0, 0)) :: (d6 ++ (j ++ (y ++ (t ++ (d7 ++ h6))))))) ∧ E 0 = g5 ∧ E 2 = j1 ∧ lP (fun (x : ju) => (.agg (jE x).toArray)) (lN Value.string (fun (x : Bool) => (Value.bool x))) a d0.1 d6 ∧ pH 285 kz 3 e5 d0.2.1 d7) (fun d0 j6 => ?_) ?_)))))
   ·refine kC (fun i E W => ∃ c7 a3 b1 c8 a4 d2 d3 f9, (E 35 = .int .i64 (i : Nat) ∧ E 34 = .int .i64 (j2.length : Nat)) ∧ kj b4 d3 ∧ ST false (keys b8) w W d3 ((I, Ob #[a, c, u, g, b1, (.int .i64 d2)] 246) :: ((a5, Obj.cells i6 285 (0, 0)) :: (a3 ++ (j ++ (y ++ (t ++ (a4 ++ f9))))))) ∧ E 0 = g5 ∧ E 2 = j1 ∧ E 33 = (rk jY l7 B.ju (.slice none 0 0)) ∧ lP (fun (x : ju) => (.agg (jE x).toArray)) (lN Value.string (fun (x : Bool) => (Value.bool x))) a c7 a3 ∧ pH 285 kz 3 b1 c8 a4 ∧ oL Q N H B (j2.drop i) c7 c8 d2 = some d0) j2.length (f0.Ej kM).len ⟨e3, b7, g6, (a1.drop (Int.toNat 1)), b9, d1, b4, _, ⟨rfl, rfl⟩, (kj.refl _), (d.jy St), P, rfl, rfl, g9, h1, j6⟩ dc dc dc (fun _ _ _ h => by obtain ⟨_, _, _, _, _, _, _, _, L, _⟩ := h; exact L) ?_ ?_
    ·rintro m5 E W j0 ⟨c7, a3, b1, c8, a4, d2, d3, f9, ⟨A, eN⟩, d5, d, e1, e2, g1, f3, f4, T⟩
     obtain ⟨b3, o3, l1, l0, l2⟩ := kp j0
     rw [l1] at T
     refine bg (VQ (na (enc := jz) (i := (m5 : Int)) (x0 := b3) aP aJ g1 A (f0.Ej kM) (aG _) l0) (fun q2 j9 => V (jA rfl (kf (nC.hp _) (j9.mono (lR (fun b o p => d.has.2 b o (Mt (Mt (Ma (Ma (Ml (k2 b o p))))))))) bR aJ)) (VE (ku d cO (fun p5 p9 d => VO (jR (.agg (jz b3).toArray) ((jz b3).toArray) d rfl rfl aJ (nz b3) nb rfl (fun p6 d => ln (jL (Wh e1 (VA d Mh (jz b3) bR aJ (V (jA e2 (jD d.has (Mt (Mt Mh)) (kz B) rfl gr dC)) (bS T fun g3 k1 T => ?_))))))))))))
     refine VE (eM d (Cb (Pb Pz) (Cr (Qb (Qb Qz)) (Cr (Qb (Qb Qz)) (Cr (Qb (Qb Qz)) (Cr (Qb (Qb Qz)) (Cr (Qb (Qb Qz)) Cn)))))) call323 (fun hh _ => (zw I a c7 a3 c Q j u N y g H t b1 c8 a4 d2 b3 B _ _ hh f3 c1 c3.e c2 f4 k1)) ?_)
     rintro _ q5 n6 o6 d i4 ab O ⟨m1, n4, m2, f6, rfl, l5, l6⟩
     obtain rfl := f6.symm
     replace d := d.perm (Tb (Tr (Tr (Tr (Tr (Tr Tn))))))
     refine kk (kA (jI ?_))
     replace d := d.jy (Kb (Kr (Kr (Kr (Kr (Kr (Db St)))))))
     exact ⟨A, g3.1, m1, n4, g3.2.1, m2, g3.2.2, n6, _, ⟨rfl, eN⟩, (d5.trans i4), (d.jy (Kb (Sb (Pr (Pr (Pr (Pr (Pr Pz))))) St))), e1, e2, g1, l5, l6, (by rw [l2]; exact T)⟩
    rintro E W ⟨c7, a3, b1, c8, a4, d2, d3, f9, ⟨A, eN⟩, d5, d, e1, e2, g1, f3, f4, T⟩
    rw [aH] at T
    refine jI ?_
    obtain rfl := sj T
    exact ⟨a3, b1, a4, d3, _, d5, (d.jy St), e1, e2, f3, f4⟩
   rintro ⟨m6, m7, n1⟩ E W ⟨d6, e5, d7, b5, h6, i1, d, h8, h9, k3, k4⟩ j3
   refine jM ?_
   replace d := d.drew
   have l := d.has.jy (Kb (Kb (Dr (Dr (Dr (Kr Sn))))))
   refine kI l kl (X 0 rfl l (jH h8) (X 1 rfl l (mN rfl) (X 2 rfl l (jG Io rfl) (XH 3 rfl l (fun _ n => jA rfl (jP n Mh rfl isAgg244)) (X 4 rfl l (jG xw h9) (X 5 rfl l (jG tG rfl) (XH 6 rfl l (fun _ n => jA rfl (jP n (Mt Mh) rfl bM)) ?_)))))))
   obtain ⟨l8, e9⟩ := c2
   obtain ⟨o8, f1, k5⟩ := mO.rowAt mf.1 e9 B.ju.Word
   refine XH 7 rfl l (fun _ n => oT (k := B.ju.Word) (z := (.slice none 0 0)) HO underlying244 jm rfl rfl e9 (fun b o p => n.2 b o (Mt (Mt (Ml p))))) (X 8 rfl l (kU aP rfl (f1.Ej kM)) (X 9 rfl l (jH rfl) (kT kr (jI (pk (CJ j3 (fun c9 E W => ∃ d8 e6 d9 e7 h7, kj b5 e7 ∧ ST false (keys b8) w W e7 ((I, Ob #[a, c, u, g, e6, (.int .i64 c9.2.2)] 246) :: (d8 ++ (j ++ (y ++ (t ++ (d9 ++ h7)))))) ∧ E 0 = g5 ∧ lP (fun (x : ju) => (.agg (jE x).toArray)) (lN Value.string (fun (x : Bool) => (Value.bool x))) a c9.1 d8 ∧ pH 285 kz 3 e6 c9.2.1 d9) (fun c9 j5 => ?_) ?_))))))
   ·refine kC (fun i E W => ∃ a9 Y a2 b0 Z b2 b6 f8, (E 53 = .int .i64 (i : Nat) ∧ E 52 = .int .i64 (i5.length : Nat)) ∧ kj b5 b6 ∧ ST false (keys b8) w W b6 ((I, Ob #[a, c, u, g, a2, (.int .i64 b2)] 246) :: ((a5, Obj.cells i6 285 (0, 0)) :: (Y ++ (j ++ (y ++ (t ++ (Z ++ f8))))))) ∧ E 0 = g5 ∧ E 2 = j1 ∧ E 51 = (rk kV l8 B.ju.Word (.slice none 0 0)) ∧ lP (fun (x : ju) => (.agg (jE x).toArray)) (lN Value.string (fun (x : Bool) => (Value.bool x))) a a9 Y ∧ pH 285 kz 3 a2 b0 Z ∧ nL B Q N H (i5.drop i) a9 b0 b2 = some c9) i5.length (f1.Ej kM).len ⟨m6, d6, e5, m7, d7, n1, b5, _, ⟨rfl, rfl⟩, (kj.refl _), (d.jy St), h8, h9, rfl, k3, k4, j5⟩ dc dc dc (fun _ _ _ h => by obtain ⟨_, _, _, _, _, _, _, _, L, _⟩ := h; exact L) ?_ ?_
    ·rintro m4 E W i9 ⟨a9, Y, a2, b0, Z, b2, b6, f8, ⟨A, eN⟩, a8, d, R, c0, e0, f2, c6, J⟩
     obtain ⟨U, o2, k9, k8, h3⟩ := kp i9
     rw [k9] at J
     refine bg (VQ (na (enc := jz) (i := (m4 : Int)) (x0 := U) aP aJ e0 A (f1.Ej kM) (aG _) k8) (fun q1 j8 => V (jA rfl (kf (nC.hp _) (j8.mono (lR (fun b o p => d.has.2 b o (Mt (Mt (Ma (Ma (Ma (Ml (k5 b o p)))))))))) bR aJ)) (VE (ku d cO (fun p2 p8 d => VO (jR (.agg (jz U).toArray) ((jz U).toArray) d rfl rfl aJ (nz U) nb rfl (fun p3 d => ln (jM ?_))))))))
     replace d := d.drew
     have l := d.has.jy (Kb (Kb (Kb (Kr Sn))))
     refine kI l kl (X 0 rfl l (jH R) (X 1 rfl l (mN rfl) (X 2 rfl l (jG xt rfl) (XH 3 rfl l (fun _ n => jA rfl (jP n (Mt Mh) rfl gM)) (X 4 rfl l (jG nD rfl) (XH 5 rfl l (fun _ n => jA rfl (jD n Mh (jE U.B) rfl bn aN)) ?_))))))
     obtain ⟨o0, c4⟩ := f2
     refine XH 6 rfl l (fun _ n => oT (k := U.B) (z := (.map none)) AK eJ fl rfl rfl c4 (fun b o p => n.2 b o (Mt (Mt (Mt (Ml p)))))) (X 7 rfl l (jG xw c0) (X 8 rfl l (jG oM rfl) (XH 9 rfl l (fun _ n => jA rfl (jP n (Mt (Mt Mh)) rfl bM)) (XH 10 rfl l (fun _ n => Am (k := B.ju.jw) (z := false) (vf := (fun (x : Bool) => (Value.bool x))) HO fw jd rfl rfl (mO.DW (μ := hp _) kc.1 c4 U.B (fun b o p => n.2 b o (Mt (Mt (Mt (Ml p))))))) (kT kr (jI (CI J rfl (fun i8 J => ?_) (fun i8 J => ?_))))))))
     ·refine jL (Wh R (Wf qp (VA d Mh (jE U.Head) bn aN (V (jG wk c0) (VB d (Mt (Mt Mh)) rfl rfl bM (bS J fun g2 k0 J => ?_))))))
      refine VE (eM d (Cb (Pb Pz) (Cr (Qb (Qb Qz)) (Cr (Qb (Qb Qz)) (Cr (Qb (Qb Qz)) (Cr (Qb (Qb Qz)) (Cr (Qb (Qb Qz)) Cn)))))) call321 (fun hh _ => kY.lE (qR I a a9 Y c Q j u N y g H t a2 b0 Z b2 U.Head B.kE _ _ hh c4.e c1 c3.e e9.e c6 k0)) ?_)
      rintro _ q4 n5 o5 d i3 aa O ⟨l9, n3, m0, f5, rfl, l3, l4⟩
      obtain rfl := f5.symm
      replace d := d.perm (Tb (Tr (Tr (Tr (Tr (Tr Tn))))))
      refine kk (kA (jI ?_))
      replace d := d.jy (Kb (Kr (Kr (Kr (Kr (Kr (Db St)))))))
      exact ⟨A, g2.1, l9, n3, g2.2.1, m0, g2.2.2, n5, _, ⟨rfl, eN⟩, (a8.trans i3), (d.jy (Kb (Sb (Pr (Pr (Pr (Pr (Pr Pz))))) St))), R, c0, e0, l3, l4, (by rw [h3]; exact J)⟩
     refine kX (kA (jI ?_))
     replace d := d.jy (Db St)
     exact ⟨A, a9, Y, a2, b0, Z, b2, b6, _, ⟨rfl, eN⟩, a8, (d.jy St), R, c0, e0, c4.e, c6, (by rw [h3]; exact J)⟩
    rintro E W ⟨a9, Y, a2, b0, Z, b2, b6, f8, ⟨A, eN⟩, a8, d, R, c0, e0, f2, c6, J⟩
    rw [aH] at J
    refine jI ?_
    obtain rfl := sj J
    exact ⟨Y, a2, Z, b6, _, a8, (d.jy (Kb (Db St))), R, f2, c6⟩
   rintro ⟨m8, m9, n2⟩ E W ⟨d8, e6, d9, e7, h7, i2, d, m3, k6, k7⟩ j4
   exact kA (jI ⟨n0, bG _, m8, d8, e6, m9, d9, n2, e7, _, ((i0.trans i1).trans i2), (d.jy St), m3, k6, k7, j4⟩)
  refine mF (ml (ml (oU (jI (nQ ?_)))))
  obtain rfl := sj M
  exact nr rfl ⟨_, _, rfl, (d.lO (Kb (Kr (Kr (Kr (Kr (Kr Sn))))))), b7, e4, b9, rfl, rfl, g9, c5⟩
theorem Ew (H : Nat) (g : Value) (c2 : List (ju × (List (ByteArray × Bool)))) (G : LO) (u : Value) (a7 : List jv) (k : LO) (c : Value) (b7 : List (ju × (List jv))) (z : LO) (a : Value) (a8 : List (ByteArray × (List jv))) (t : LO) (B : Value) (b6 : List jN) (y : LO) (K : Int) (d1 : Value) (p : List jv) (r : (Int × (List (ju × (List (ByteArray × Bool)))) × (List jv) × (List (ju × (List jv))) × (List (ByteArray × (List jv))) × (List jN) × Int)) (w : World) {μ0 : km} (h0 : ni μ0 ((H, Ob #[g, u, c, a, B, (.int .i64 K)] 246) :: (G ++ (k ++ (z ++ (t ++ (y ++ [])))))) w) (d6 : lP (fun (x : ju) => (.agg (jE x).toArray)) (lN Value.string (fun (x : Bool) => (Value.bool x))) g c2 G) (c6 : jZ 52 jz 9 u a7 k) (d3 : lP (fun (x : ju) => (.agg (jE x).toArray)) (jZ 52 jz 9) c b7 z) (c7 : lP Value.string (jZ 52 jz 9) a a8 t) (d2 : pH 285 kz 3 B b6 y) (d7 : Sl (Pl jz) 9 μ0 d1 p) (hm : tX c2 a7 b7 a8 b6 K p = some r) :
  kY false pg0 200 [(.pointer (some ⟨H, 0, none⟩)), d1] w ((H, Ob #[g, u, c, a, B, (.int .i64 K)] 246) :: (G ++ (k ++ (z ++ (t ++ (y ++ [])))))) (fun v L1 W' => ∃ S1 y3 S4 S6 S8 i1 i0, v = (.int .i64 (r.1)) ∧ L1 = ((H, Ob #[g, y3, c, a, i1, (.int .i64 (r.2.2.2.2.2.2))] 246) :: (S1 ++ (S4 ++ (S6 ++ (S8 ++ (i0 ++ [])))))) ∧ lP (fun (x : ju) => (.agg (jE x).toArray)) (lN Value.string (fun (x : Bool) => (Value.bool x))) g r.2.1 S1 ∧ jZ 52 jz 9 y3 r.2.2.1 S4 ∧ lP (fun (x : ju) => (.agg (jE x).toArray)) (jZ 52 jz 9) c r.2.2.2.1 S6 ∧ lP Value.string (jZ 52 jz 9) a r.2.2.2.2.1 S8 ∧ pH 285 kz 3 i1 r.2.2.2.2.2.1 i0) := by
 let b8 := ((H, Ob #[g, u, c, a, B, (.int .i64 K)] 246) :: (G ++ (k ++ (z ++ (t ++ (y ++ []))))))
 refine wB h0 46 func200 rfl (fun d => sg (Wa (lS (Wm (V (uH underlying183 rfl rfl) (ln (qI rfl (kX ?_))))))))
 refine jI (sg (Wm (Wn (Wf FU (VB d Mh rfl rfl bY (Wa (lS (Wm (V (kU aP rfl d7) ?_)))))))))
 refine Wm (ln (kC (fun i E W => ∃ a3 N M a4 Q a9 T n U a0 a5 Y a2 c1 d5, (E 16 = .int .i64 (i : Nat) ∧ E 15 = .int .i64 (p.length : Nat)) ∧ kj μ0 c1 ∧ ST false (keys b8) w W c1 ((H, Ob #[g, M, c, a, a0, (.int .i64 a2)] 246) :: (N ++ (Q ++ (T ++ (U ++ (Y ++ d5)))))) ∧ E 0 = (.pointer (some ⟨H, 0, none⟩)) ∧ E 5 = (.int .i64 K) ∧ E 14 = d1 ∧ lP (fun (x : ju) => (.agg (jE x).toArray)) (lN Value.string (fun (x : Bool) => (Value.bool x))) g a3 N ∧ jZ 52 jz 9 M a4 Q ∧ lP (fun (x : ju) => (.agg (jE x).toArray)) (jZ 52 jz 9) c a9 T ∧ lP Value.string (jZ 52 jz 9) a n U ∧ pH 285 kz 3 a0 a5 Y ∧ nJ K (p.drop i) a3 a4 a9 n a5 a2 = some r) p.length d7.len ⟨c2, G, u, a7, k, b7, z, a8, t, B, b6, y, K, μ0, _, ⟨rfl, rfl⟩, (kj.refl _), (d.jy St), rfl, rfl, rfl, d6, c6, d3, c7, d2, hm⟩ dc dc dc (fun _ _ _ h => by obtain ⟨_, _, _, _, _, _, _, _, _, _, _, _, _, _, _, aa, _⟩ := h; exact aa) ?_ ?_))
 ·rintro f6 E W g3 ⟨a3, N, M, a4, Q, a9, T, n, U, a0, a5, Y, a2, c1, d5, ⟨eI, eN⟩, b1, d, L, c3, c4, P, A, R, b4, b5, D⟩
  obtain ⟨I, j8, h4, h3, d9⟩ := kp g3
  rw [h4] at D
  refine bg (VQ (na (enc := jz) (i := (f6 : Int)) (x0 := I) aP aJ c4 eI (d7.mono (Pl.mono _) b1) (aG _) h3) (fun l1 g4 => V (jA rfl (kf d.has g4 bR aJ)) (VE (ku d cO (fun k3 e8 d => VO (jR (.agg (jz I).toArray) ((jz I).toArray) d rfl rfl aJ (nz I) nb rfl (fun k4 d => ln (jM ?_))))))))
  replace d := d.drew
  have l := d.has.jy (Kb (Kb Sn))
  refine kI l kl (XH 0 rfl l (fun _ hS => jA rfl (jD hS Mh (jz I) rfl bR aJ)) (bS D fun l2 g7 D => XE 1 rfl (Eg d call144 (jV.lE (wZ I _ _  g7)) (fun k5 d => ?_))))
  have l := d.has.jy (Kb (Kb Sn))
  refine ⟨l, (X 2 rfl l (jH rfl) (PJ D (fun f7 E W => ∃ e4, ST false (keys b8) w W c1 ((e8, Ol (jz I) 52) :: ((H, Ob #[g, M, c, a, a0, (.int .i64 a2)] 246) :: (N ++ (Q ++ (T ++ (U ++ (Y ++ e4))))))) ∧ E 0 = (.pointer (some ⟨H, 0, none⟩)) ∧ E 5 = (.int .i64 K) ∧ E 7 = (.pointer (some ⟨e8, 0, none⟩)) ∧ E 14 = d1 ∧ E 15 = (.int .i64 (p.length : Int)) ∧ E 16 = (.int .i64 (f6 : Int)) ∧ E 30 = (.bool f7)) (bm 11 2047) 0 ?_ (fun f7 Z d4 => ?_)))⟩
  ·rintro l7 E W ⟨e4, d, c5, e9, f0, f1, f2, f3, i6⟩ J
   refine kT kr (jI (CI J i6 (fun g2 J => ?_) (fun g2 J => ?_)))
   ·refine sg (Wh c5 (V (jA f0 (jD d.has Mh (jz I) rfl bR aJ)) (bS J fun O g8 J => ?_)))
    refine VE (eM d (Cb (Pb Pz) (Cr (Qb Qz) (Cr (Qb Qz) (Cr (Qb Qz) (Cr (Qb Qz) (Cr (Qb Qz) Cn)))))) call261 (fun hh _ => kY.lE (D7 H g a3 N M a4 Q c a9 T a n U a0 a5 Y a2 I _ _ hh P A R b4 b5 g8)) ?_)
    rintro _ l4 l8 k0 d f4 ab m ⟨f8, e5, e6, e7, c8, rfl, e0, e1, e2⟩
    obtain rfl := c8.symm
    replace d := d.perm (Tb (Tr (Tr (Tr (Tr (Tr Tn))))))
    refine ln (jL (Wh c5 (V (jA f0 (jD d.has (Mt (Ma (Ma (Ma (Ma (Ma Mh)))))) (jz I) rfl bR aJ)) (bS J fun d8 g9 J => ?_))))
    refine VE (eM d (Cb Pz (Cr Qz (Cr Qz (Cr Qz (Cr Qz (Cr Qz Cn)))))) call262 (fun hh _ => (Dq H g a3 N f8 O.1 e5 c O.2.1 e6 a O.2.2 e7 a0 a5 Y a2 I _ _ hh P e0 e1 e2 b5 g9)) ?_)
    rintro _ l5 j0 k1 d f5 ad m ⟨i2, i8, i3, c9, rfl, h5, h6⟩
    obtain rfl := c9.symm
    replace d := d.perm (Tb (Tr (Tr (Tr (Tr (Tr Tn))))))
    refine kk (kA (jI ?_))
    replace d := d.jy (Kb (Kr (Kr (Kr (Kr (Kr (Db St)))))))
    exact ⟨f3, d8.1, i2, f8, O.1, e5, O.2.1, e6, O.2.2, e7, i8, d8.2.1, i3, d8.2.2, j0, _, ⟨rfl, f2⟩, ((b1.trans f4).trans f5), (d.jy St), c5, e9, f1, h5, e0, e1, e2, h6, (by rw [d9]; exact J)⟩
   refine kX (kA (jI ?_))
   replace d := d.jy (Db St)
   exact ⟨f3, a3, N, M, a4, Q, a9, T, n, U, a0, a5, Y, a2, c1, _, ⟨rfl, f2⟩, b1, (d.jy St), c5, e9, f1, P, A, R, b4, b5, (by rw [d9]; exact J)⟩
  refine bC Z (fun j Z => ?_) (fun j Z => ?_)
  ·refine Xg 3 rfl rfl (cB j) l (jH L) (Xg 4 rfl rfl (cB j) l (mN rfl) (Xg 5 rfl rfl (cB j) l (jG Ip rfl) (ub 6 rfl rfl (cB j) l (fun _ hS => jA rfl (jP hS (Mt Mh) rfl isAgg45)) (ub 7 rfl rfl (cB j) l (fun _ hS => jA rfl (jD hS Mh (jz I) rfl bR aJ)) (bS Z fun l3 h1 Z => El 8 rfl rfl (cB j) (Eg d call111 (jV.lE (DK M a4 I _ _ (A.sl kM (fun b o hq => d.at_ (Mt (Mt (Ma (Ml hq)))))) h1)) (fun k8 d => ?_)))))))
   have l := d.has.jy (Kb (Kb Sn))
   refine ⟨l, (Xg 9 rfl rfl (cB j) l (mT rfl) (X 10 rfl l (jS (cB j) rfl) ?_))⟩
   obtain rfl := sj Z
   refine nu kr (d4 _ _ ⟨_, (d.jy St), L, c3, rfl, c4, eN, eI, rfl⟩)
  refine Xn 3 rfl rfl (cB j) l (Xn 4 rfl rfl (cB j) l (Xn 5 rfl rfl (cB j) l (Xn 6 rfl rfl (cB j) l (Xn 7 rfl rfl (cB j) l (Xn 8 rfl rfl (cB j) l (Xn 9 rfl rfl (cB j) l (X 10 rfl l (jT (cB j) rfl) ?_)))))))
  obtain rfl := sj Z
  refine nu kr (d4 _ _ ⟨_, (d.jy St), L, c3, rfl, c4, eN, eI, rfl⟩)
 rintro E W ⟨a3, N, M, a4, Q, a9, T, n, U, a0, a5, Y, a2, c1, d5, ⟨eI, eN⟩, b1, d, L, c3, c4, P, A, R, b4, b5, D⟩
 rw [aH] at D
 refine jI (sg (Wh L (bS D fun i7 h2 D => ?_)))
 refine VE (eM d (Cb Pz (Cr Qz (Cr Qz (Cr Qz (Cr Qz (Cr Qz Cn)))))) call263 (fun hh _ => (CG H g a3 N M a4 Q c a9 T a n U a0 a5 Y a2 _ _ hh P A R b4 b5 h2)) ?_)
 rintro _ l6 l9 k2 d j6 ae m ⟨i4, i9, i5, d0, rfl, h7, h8⟩
 obtain rfl := d0.symm
 replace d := d.perm (Tb (Tr (Tr (Tr (Tr (Tr Tn))))))
 refine lr (Wh L (Wn (Wf FU (VB d Mh rfl rfl bY (Wh c3 (Wi rfl (Wa (lt ?_))))))))
 obtain rfl := sj D
 exact lB (v := (.int .i64 (wi0 .i64 (i7.2.2 - K)))) rfl rfl ⟨_, _, rfl, (d.lO (Kb (Kr (Kr (Kr (Kr (Kr Sn))))))), i4, M, Q, T, U, i9, i5, rfl, rfl, h7, A, R, b4, h8⟩
theorem H6 (j : Value) (H : List jv) (r : ((List (ju × (List (ByteArray × Bool)))) × (List jv) × (List (ju × (List jv))) × (List (ByteArray × (List jv))) × (List jN) × Int)) (w : World) (J : Sl (Pl jz) 9 (hp w) j H) (hm : xh H = some r) :
  kY false pg0 126 [j] w [] (fun v L1 W' => ∃ l n S3 p S6 A S9 D u G y, v = (.pointer (some ⟨l, 0, none⟩)) ∧ L1 = ((l, Ob #[n, p, A, D, G, (.int .i64 (r.2.2.2.2.2))] 246) :: (S3 ++ (S6 ++ (S9 ++ (u ++ (y ++ [])))))) ∧ lP (fun (x : ju) => (.agg (jE x).toArray)) (lN Value.string (fun (x : Bool) => (Value.bool x))) n r.1 S3 ∧ jZ 52 jz 9 p r.2.1 S6 ∧ lP (fun (x : ju) => (.agg (jE x).toArray)) (jZ 52 jz 9) A r.2.2.1 S9 ∧ lP Value.string (jZ 52 jz 9) D r.2.2.2.1 u ∧ pH 285 kz 3 G r.2.2.2.2.1 y) := by
 refine vi 13 func126 rfl (fun b => sg (Wa (lr (VE (DF (P := pg0) (fun (x : ju) => (.agg (jE x).toArray)) (lN Value.string (fun (x : Bool) => (Value.bool x))) b (fun W1 v4 R2 b z => VE (DF (P := pg0) (fun (x : ju) => (.agg (jE x).toArray)) (jZ 52 jz 9) b (fun W5 v8 R6 b B => VE (DF (P := pg0) Value.string (jZ 52 jz 9) b (fun W9 c4 Y b t => ?_))))))))))
 obtain ⟨a, rfl⟩ := z.form
 obtain ⟨c, rfl⟩ := B.form
 obtain ⟨g, rfl⟩ := t.form
 refine V (lC (v := (.agg #[(.map (some a)), (.slice none 0 0), (.map (some c)), (.map (some g)), (.slice none 0 0), (.int .i64 0)])) (Dx rfl rfl rfl) (kW zeroValue246 eH (TZ _ eH) kr)) (VE (kd b rfl (fun c1 k b => Wa (lr (Wm (Wm (bS hm fun W K hm => ?_)))))))
 refine VE (eM b (Cb Pz (Cr (Qr (Qr Qz)) (C0 (Cr (Qr Qz) (Cr Qz (C0 Cn)))))) call200 (fun L h => (Ew k (.map (some a)) ([]) R2 (.slice none 0 0) ([]) [] (.map (some c)) ([]) R6 (.map (some g)) ([]) Y (.slice none 0 0) ([]) [] 0 j H _ _ L z (jZ.nil _ _ _) B t (pH.nil _ _ _) (J.mono (Pl.mono _) h) K)) ?_)
 rintro _ c5 c6 R b O m d ⟨Z, E, a2, a3, a4, I, a5, i, rfl, M, N, Q, T, U⟩
 obtain rfl := i.symm
 replace b := b.perm (Tb (Tr (Tr (Tr (Tr (Tr Tn))))))
 refine lr (Wm (Wa (lt ?_)))
 obtain rfl := sj hm
 exact lB (v := (.pointer (some ⟨k, 0, none⟩))) rfl rfl ⟨_, _, rfl, (b.Kp (Kb (Kr (Kr (Kr (Kr (Kr Sn))))))), k, (.map (some a)), Z, E, a2, (.map (some c)), a3, (.map (some g)), a4, I, a5, rfl, rfl, M, N, Q, T, U⟩
theorem KJ (c : Value) (D : List jv) (G : ByteArray) (r : ((List (ju × (List (ByteArray × Bool)))) × (List jv) × (List (ju × (List jv))) × (List (ByteArray × (List jv))) × (List jN) × Int × ByteArray)) (w : World) (I : Sl (Pl jz) 9 (hp w) c D) (hm : vl D G = some r) :
  kY false pg0 123 [c, (.string G)] w [] (fun v L1 W' => ∃ g h l S4 m S7 n j z k B t u, v = (.func (.func 191) #[] #[(.pointer (some ⟨g, 0, none⟩)), (.pointer (some ⟨u, 0, none⟩))]) ∧ L1 = ((g, Ob #[(.pointer (some ⟨h, 0, none⟩))] 183) :: ((h, Ob #[l, m, n, z, B, (.int .i64 (r.2.2.2.2.2.1))] 246) :: ((u, Ob #[(.string (r.2.2.2.2.2.2))] 9) :: (S4 ++ (S7 ++ (j ++ (k ++ (t ++ [])))))))) ∧ lP (fun (x : ju) => (.agg (jE x).toArray)) (lN Value.string (fun (x : Bool) => (Value.bool x))) l r.1 S4 ∧ jZ 52 jz 9 m r.2.1 S7 ∧ lP (fun (x : ju) => (.agg (jE x).toArray)) (jZ 52 jz 9) n r.2.2.1 j ∧ lP Value.string (jZ 52 jz 9) z r.2.2.2.1 k ∧ pH 285 kz 3 B r.2.2.2.2.1 t) := by
 refine vi 9 func123 rfl (fun b => sg (VE (kd b rfl (fun W2 g b => Wa (lr (Wm (bS hm fun r3 p hm => ?_)))))))
 refine VE (yH b (bT _) call126 (fun _ _ _ _ => (H6 c D _ _ (I.mono (Pl.mono _) b.jB) p)) (fun W5 v9 R c0 b W P d H => ?_) (L0 := []))
 obtain ⟨i, A, T, E, U, a9, Y, L, Z, O, a2, a, rfl, J, K, M, N, Q⟩ := H
 replace a := a.symm; subst a
 replace b := b.perm (Tb (Tr (Tr (Tr (Tr (Tr Tn))))))
 refine VE (ku b zeroValue183 (fun c1 y b => VO (jR (.pointer (some ⟨i, 0, none⟩)) (#[(.pointer (some ⟨i, 0, none⟩))]) b rfl rfl sizeOf183 oc nb rfl (fun c2 b => lr (V (pc (by exact uI rfl rfl) rfl) (Wa (lt ?_)))))))
 obtain rfl := sj hm
 exact lB (v := (.func (.func 191) #[] #[(.pointer (some ⟨y, 0, none⟩)), (.pointer (some ⟨g, 0, none⟩))])) rfl rfl ⟨_, _, rfl, (b.Kp (Kb (Kb (Sb (Pr (Pr (Pr (Pr (Pr Pz))))) (Kr (Kr (Kr (Kr (Kr Sn))))))))), y, i, A, T, E, U, a9, Y, L, Z, O, a2, g, rfl, rfl, J, K, M, N, Q⟩
theorem Hu (a : ke) (g c : Value) (k : Nat) (u : jv) (r : Bool) (w : World) (j : Sl (Pl (kN .u8)) 1 (hp w) g a.Signed.Tag) (i : Sl jx 5 (hp w) c a.jC.Kids) (t : At (hp w) (.pointer (some ⟨k, 0, none⟩)) (jz u)) (hm : wD a u = some r) :
  jV true pg0 254 [(.agg #[(.int .i64 a.Signed.jv.Kind), (.string a.Signed.jv.Head.jw), (.string a.Signed.jv.Head.Word), (.string a.Signed.jv.kE), (.string a.Signed.jv.B.jw), (.string a.Signed.jv.B.Word), (.string a.Signed.jv.C.jw), (.string a.Signed.jv.C.Word), (.string a.Signed.jv.kL), g, (.int .i64 a.jC.Op), (.int .i64 a.jC.K), (.string a.jC.ju.jw), (.string a.jC.ju.Word), c]), (.pointer (some ⟨k, 0, none⟩))] w (.bool r) := by
 refine cG 9 func254 rfl (fun b => sg ?_)
 obtain ⟨x, z, rfl⟩ := j.form
 obtain ⟨y, B, rfl⟩ := i.form
 refine VE (kd b rfl (fun D G b => Wa (lr (Wf zj (Wf yO (VA b Mh (jz a.Signed.jv) bR aJ (V (jA rfl (kf b.has t bR aJ)) (V (uY rfl rfl (nf ey) (rb (uT _ a.Signed.jv u))) (Wa (ln ?_))))))))))
 exact kh (rQ hm b)
theorem KY (k : kD) (g j : Value) (D : jv) (r : (ke × Bool)) (w : World) {J : km} (l : ni J [] w) (c : Sl jU 15 J g k.jJ) (B : Sl kH 8 J j k.jW) (hm : yV k D = some r) :
  lT false pg0 192 [(.agg #[(.string k.Name), g, j]), (.agg (jz D).toArray)] w J [] (fun v L1 μ1 => ∃ d h, v = (.tuple #[(.agg #[(.int .i64 ((((r.1).Signed).jv).Kind)), (.string (((((r.1).Signed).jv).Head).jw)), (.string (((((r.1).Signed).jv).Head).Word)), (.string ((((r.1).Signed).jv).kE)), (.string (((((r.1).Signed).jv).B).jw)), (.string (((((r.1).Signed).jv).B).Word)), (.string (((((r.1).Signed).jv).C).jw)), (.string (((((r.1).Signed).jv).C).Word)), (.string ((((r.1).Signed).jv).kL)), d, (.int .i64 (((r.1).jC).Op)), (.int .i64 (((r.1).jC).K)), (.string ((((r.1).jC).ju).jw)), (.string ((((r.1).jC).ju).Word)), h]), (.bool (r.2))]) ∧ L1 = [] ∧ Sl (Pl (kN .u8)) 1 μ1 d (((r.1).Signed).Tag) ∧ Sl jx 5 μ1 h (((r.1).jC).Kids)) := by
 refine uW l 19 func192 rfl (fun b => sg ?_)
 obtain ⟨T, U, rfl⟩ := c.form
 obtain ⟨A3, c4, rfl⟩ := B.form
 refine VE (kd b rfl (fun W6 R b => VE (kd b rfl (fun W8 K b => VE (ku b eU (fun O b9 b => Wa (lr (Wf yR (VB b (Mt (Mt Mh)) rfl rfl jc (V (pc (by exact qW rfl) rfl) (bS hm fun Z Q hm => VE (Eg b call142 (vN (.slice T k.jJ.length U) k.jJ (.func (.func 254) #[] #[(.pointer (some ⟨K, 0, none⟩))]) (fun (x : ke) => wD x D) _ _ (c.mono jX.mono b.jB) ⟨254, #[], #[(.pointer (some ⟨K, 0, none⟩))], rfl, call254, fun W x vs r n m hm => by obtain ⟨_, rfl, Y⟩ := m; obtain ⟨E, L, rfl, p, A⟩ := Y.out; exact (Hu x E L K D r W p A (At.of (n _ _ (b.at_ (Mt Mh))) _ rfl) hm).lE⟩ Q) (fun P b => Wa (kk ?_))))))))))))))
 refine jI ?_
 replace b := b.jy (Kb (Db St))
 refine jM (sg (Wm (Wi rfl (ln (CI hm rfl (fun M hm => ?_) (fun M hm => ?_))))))
 ·refine sg (V (lC (v := (.agg OC.toArray)) qt (kW eU fK (Sj _ fK) kr)) (VO (jR (.agg OC.toArray) (OC.toArray) b rfl rfl dD oc nb rfl (fun b6 b => Wa (ln ?_)))))
  replace b := b.jy (Kb (Db St))
  refine kh (kw ?_)
  obtain rfl := sj hm
  exact ra (v0 := (.agg OC.toArray)) (v1 := (.bool false)) rfl rfl (jD b.has Mh OC rfl fZ dD) rfl ⟨_, _, _, rfl, (b.lO Sn), (kj.refl _), Lo.refl, (ST.kR b (mB.mem Sn)), (.slice none 0 0), (.slice none 0 0), rfl, rfl, (Sl.nil _ _ _), (Sl.nil _ _ _)⟩
 refine kg (Wf yR (VB b (Mt Mh) rfl rfl jc (Wm (bS hm fun a I hm => VQ (lU (i := Z) (x0 := a) jU.out dP dD rfl rfl c (ky I) (kv I)) (fun c1 ⟨_, ⟨c3, c5, rfl, G, H⟩, N⟩ => V (jA rfl (kf b.has N fZ dD)) ?_)))))
 obtain ⟨t, y, rfl⟩ := G.form
 obtain ⟨u, z, rfl⟩ := H.form
 let a0 := (C3 a.Signed.jv.Kind a.Signed.jv.Head.jw a.Signed.jv.Head.Word a.Signed.jv.kE a.Signed.jv.B.jw a.Signed.jv.B.Word a.Signed.jv.C.jw a.Signed.jv.C.Word a.Signed.jv.kL t a.Signed.Tag.length y a.jC.Op a.jC.K a.jC.ju.jw a.jC.ju.Word u a.jC.Kids.length z)
 refine VO (jR (.agg a0.toArray) (a0.toArray) b rfl rfl dD oc nb rfl (fun c0 b => Wa (ln ?_)))
 replace b := b.jy (Kb (Db St))
 refine kh ?_
 obtain rfl := sj hm
 exact ra (v0 := (.agg a0.toArray)) (v1 := (.bool true)) rfl rfl (jD b.has Mh a0 rfl fZ dD) rfl ⟨_, _, _, rfl, (b.lO Sn), (kj.refl _), Lo.refl, (ST.kR b (mB.mem Sn)), (.slice t a.Signed.Tag.length y), (.slice u a.jC.Kids.length z), rfl, rfl, G, H⟩
theorem Fg (c : Value) (u r : List mj) (w : World) {j : km} (I : ni j [] w) (a : Sl kH 8 j c u) (hm : uC u = some r) :
  lT true pg0 256 [c] w j [] (fun v G J => ∃ z t, v = z ∧ G = (t ++ []) ∧ kK 132 kH 8 J z r t) := by
 unfold uC at hm
 refine uW I 8 func256 rfl (fun b => sg (Wa (lS (Wm ?_))))
 obtain ⟨D, Q, rfl⟩ := a.form
 refine V (BV dr rfl rfl) (ln ?_)
 rcases D with _ | M
 ·have y := a.isNil
  replace hm : some [] = some r := by rw [y] at hm; simpa [mE, maxLen] using hm
  refine xg (rfl) (sg (Wa (lt (kw ?_))))
  obtain rfl := sj hm
  refine lB (v := (.slice none 0 0)) rfl rfl ?_
  replace b := b.Sz
  exact ⟨_, _, _, rfl, (b.lO (Kr Sn)), (kj.refl _), Lo.refl, (ST.kR b (mB.mem (Kr Sn))), (.slice none 0 0), [], rfl, rfl, (kK.nil _ _ _ _)⟩
 ·refine qI (rfl) (kg (VE (kq (cs := #[]) b qt (Bi [] dr dQ gu dc rfl (by simp) rfl rfl) (fun N H b => Wm (bS hm fun T x hm => VE (pJ (B := [(H, Ob #[] 132)]) lx b dc dr FR.1 FR.2.1 rfl FR.2.2.1 FR.2.2.2 rfl rfl (kK.lit lx (l := []) .nil rfl nb rfl) (xZ.sl lx a b.jB) x (fun K g k b i => Wa (lt ?_))))))))
  obtain rfl := sj hm
  exact lB (v := g) rfl rfl ⟨_, _, _, rfl, (b.lO (Kr Sn)), (kj.refl _), Lo.refl, (ST.kR b (mB.mem (Kr Sn))), g, k, rfl, rfl, i⟩
theorem BQ (k : Value) (a0 : List mj) (y : LO) (J : Value) (f1 : mj → Option Bool) (r : List mj) (w : World) {Y : km} (h0 : ni Y (y ++ []) w) (n : kK 132 kH 8 Y k a0 y) (a9 : uc pg0 J Y (uU kH) (fun (r : Bool) => (.bool r)) f1) (hm : rl a0 f1 = some r) :
  lT false pg0 255 [k, J] w Y (y ++ []) (fun v L1 μ1 => ∃ y1, v = y1 ∧ L1 = [] ∧ Sl kH 8 μ1 y1 (r)) := by
 refine uW h0 42 func255 rfl (fun d => sg (Wa (lr (Wm (Wm (bS hm fun r1 d7 hm => VE (Eg d call147 (Cx k a0 J f1 _ _ (n.sl lx d.jB (fun b o A => d.at_ (Ml A))) (a9.mono d.jB) d7) (fun W3 d => Wa (ln ?_)))))))))
 refine jM (sg (Wm (Wi rfl (ln (CI hm rfl (fun d6 hm => ?_) (fun d6 hm => ?_))))))
 ·refine sg (Wm (Wa (lt (kw ?_))))
  obtain rfl := sj hm
  refine lB (v := k) rfl rfl ?_
  obtain ⟨aa, d, d2, p, d8⟩ := ST.uf lx d n
  exact ⟨_, _, _, rfl, (d.lO Sn), d2, p, (ST.kR d (mB.mem Sn)), k, rfl, rfl, d8⟩
 refine kS (Wm (Wi rfl (Wa (ln (kZ (mG (fun m E W => ∃ a2 K G H O, ST false (keys (y ++ [])) w W Y (K ++ O) ∧ E 0 = k ∧ E 1 = J ∧ E 5 = (.int .i64 G) ∧ E 6 = (.int .i64 H) ∧ kK 132 kH 8 Y k a2 K ∧ nF f1 m a2 G H = some r) ki ⟨a0, y, r1, (wi0 .i64 (r1 + 1)), _, (d.jy St), rfl, rfl, rfl, rfl, n, hm⟩ ?_))))))
 rintro m E W ⟨a2, K, G, H, O, d, t, Z, I, N, j, c⟩
 cases m with
 | zero => rw [nF] at c; cases c
 | succ d4 =>
  refine jM (sg (Wh N (Wh t (V (so dr rfl j) (Wi rfl (ln (CI c rfl (fun b6 c => ?_) (fun b6 c => ?_))))))))
  ·refine kn (jM (CJ c (fun a3 E W => ∃ M P, ST false (keys (y ++ [])) w W Y (M ++ P) ∧ E 0 = k ∧ E 1 = J ∧ E 5 = (.int .i64 a3.2) ∧ E 6 = (.int .i64 H) ∧ kK 132 kH 8 Y k a3.1 M) (fun a3 g => ?_) ?_))
   ·refine bg (Wh t (Wh N (bS g fun a L g => VQ (lu (i := H) kH.out dr dQ rfl rfl j (ky L) (kv L)) (fun f5 ⟨_, ⟨f8, f9, rfl, Q, T⟩, c1, e1⟩ => V (jA rfl (kf (nC.hp _) (c1.mono (lR (fun b o A => d.has.2 b o (Ml A)))) iX dQ)) (VE (ku d gu (fun e7 f3 d => ?_)))))))
    obtain ⟨u, B, rfl⟩ := Q.form
    obtain ⟨x, D, rfl⟩ := T.form
    let l := (C9 a.ju.jw a.ju.Word a.jC.Op a.jC.K a.jC.ju.jw a.jC.ju.Word u a.jC.Kids.length B x a.me.length D)
    refine VO (jR (.agg l.toArray) (l.toArray) d rfl rfl dQ oc nb rfl (fun e8 d => lr (Wh Z (VA d Mh l iX dQ (bS g fun f7 c2 g => VE (vH a d a9 (kj.refl _) (uU.mk lx (kH.mk ⟨(.slice u a.jC.Kids.length B), (.slice x a.me.length D), rfl, Q, T⟩) d.jB) rfl (qW rfl) c2 (fun e9 d => V (mT rfl) (ln (CI g rfl (fun b7 g => ?_) (fun b7 g => ?_))))))))))
    ·refine sg (Wh t (Wh I (VA d Mh l iX dQ (bS g fun g3 U g => VQ (lu (i := G) kH.out dr dQ rfl rfl j (ky U) (kv U)) (fun f6 ⟨_, ⟨g0, g1, rfl, e3, e4⟩, e2, b9⟩ => ?_)))))
     replace d := d.perm (Nr (Qb Qz) Nz)
     refine VO (qJ (x1 := a) lx d j rfl rfl (kH.mk ⟨(.slice u a.jC.Kids.length B), (.slice x a.me.length D), rfl, Q, T⟩) b9 (kv U) dQ (fun f0 c7 d b4 => ln ?_))
     replace d := d.jy (Kr (Db St))
     refine jL (Wh I (Wi rfl (Wa (kk (kA (jI ?_))))))
     obtain rfl := sj g
     exact ⟨c7, _, (d.jy St), t, Z, rfl, N, b4⟩
    refine kX (kA (jI ?_))
    obtain rfl := sj g
    exact ⟨K, _, (d.jy (Db St)), t, Z, I, N, j⟩
   rintro ⟨d3, d5⟩ E W ⟨M, P, d, c8, c9, d0, d1, c3⟩ c0
   exact jL (Wh d1 (Wi rfl (Wa (ln ⟨d4, bG _, d3, M, d5, (wi0 .i64 (H + 1)), _, (d.jy St), c8, c9, d0, rfl, c3, c0⟩))))
  refine mF (ml (ml (oU (jI (sg (Wh t (Wh I (bS c fun _ a4 c => VQ (Bp (i := G) dr dQ rfl rfl j (vL a4) (vE a4)) (fun g2 c4 => VO (ED (z := (⟨K0, (⟨0, 0, K0, []⟩ : Formula), []⟩ : mj)) (zs := [(.string zS), (.string zS), (.int .i64 0), (.int .i64 0), (.string zS), (.string zS), (.slice none 0 0), (.slice none 0 0)]) lx d j (kH.mk ⟨(.slice none 0 0), (.slice none 0 0), rfl, (Sl.nil _ _ _), (Sl.nil _ _ _)⟩) dr gu c4 rfl rfl (fun f2 e6 d b5 => lr (Wh t ?_))))))))))))
  refine Wh I (bS c fun _ a5 c => VQ (DM (i := G) dr dQ rfl rfl b5 (vL a5) (vE a5)) (fun R c5 => Wa (lt ?_)))
  obtain rfl := sj c
  refine lB (v := R) rfl rfl ?_
  obtain ⟨g7, d, b0, h, c6⟩ := ST.uf lx d c5
  exact ⟨_, _, _, rfl, (d.lO Sn), b0, h, (ST.kR d (mB.mem Sn)), R, rfl, rfl, c6⟩
theorem GM (c : mj) (a i : Value) (k : Nat) (u : jv) (r : Bool) (w : World) (j : Sl jx 5 (hp w) a c.jC.Kids) (g : Sl (Pl jz) 9 (hp w) i c.me) (t : At (hp w) (.pointer (some ⟨k, 0, none⟩)) (jz u)) (hm : rM c u = some r) :
  jV true pg0 257 [(.agg #[(.string c.ju.jw), (.string c.ju.Word), (.int .i64 c.jC.Op), (.int .i64 c.jC.K), (.string c.jC.ju.jw), (.string c.jC.ju.Word), a, i]), (.pointer (some ⟨k, 0, none⟩))] w (.bool r) := by
 refine cG 9 func257 rfl (fun b => sg ?_)
 obtain ⟨B, D, rfl⟩ := j.form
 obtain ⟨x, y, rfl⟩ := g.form
 refine VE (kd b rfl (fun G I b => Wa (lr (Wf IJ (VB b Mh rfl rfl isAgg45 (V (jA rfl (kf b.has t bR aJ)) (bS hm fun J z hm => VE (Eg b call111 (DK (.slice x c.me.length y) c.me u _ _ (g.mono (Pl.mono _) b.jB) z) (fun H b => V (mT rfl) (Wa (ln ?_)))))))))))
 exact kh (rQ hm b)
theorem JF (i : kD) (a g : Value) (y : jv) (r : List mj) (w : World) {G : km} (A : ni G [] w) (j : Sl jU 15 G a i.jJ) (c : Sl kH 8 G g i.jW) (hm : yl i y = some r) :
  lT false pg0 193 [(.agg #[(.string i.Name), a, g]), (.agg (jz y).toArray)] w G [] (fun v L1 μ1 => ∃ n, v = n ∧ L1 = [] ∧ Sl kH 8 μ1 n (r)) := by
 refine uW A 10 func193 rfl (fun b => sg ?_)
 obtain ⟨A1, c2, rfl⟩ := j.form
 obtain ⟨Y, p, rfl⟩ := c.form
 refine VE (kd b rfl (fun W6 b5 b => VE (kd b rfl (fun W8 z b => Wa (lr (Wf E9 (VB b (Mt Mh) rfl rfl isAgg23 (bS hm fun O N hm => ?_))))))))
 refine VE (eD b (bT _) call256 (fun m => lT.lE (Fg (.slice Y i.jW.length p) i.jW _ _ m (c.mono lx.mono (kj.refl _)) N)) ?_ (L0 := []))
 rintro _ c3 c6 b4 b B d ⟨a5, Z, k, rfl, T⟩
 obtain rfl := k.symm
 replace b := b.perm (Tr Tn)
 refine V (pc (by exact qW rfl) rfl) ?_
 replace b := b.perm (Nb (Pr Pz) Nz)
 obtain ⟨c7, b, u, h, M⟩ := ST.J1 (R := [(z, Ol (jz y) 52)]) b
 have K := At.of (M _ _ (.head _)) _ rfl
 refine bS hm fun c1 Q hm => ?_
 refine VE (eD b (Cr Qz Cn) call255 (fun m => (BQ a5 O Z (.func (.func 257) #[] #[(.pointer (some ⟨z, 0, none⟩))]) (fun (x : mj) => rM x y) _ _ m (T.mono lx u) ⟨257, #[], #[(.pointer (some ⟨z, 0, none⟩))], rfl, call257, fun W x vs r I E hm => by obtain ⟨_, rfl, a3⟩ := E; obtain ⟨P, u1, rfl, J, L⟩ := a3.out; exact (GM x P u1 z y r W J L (K.mono ((kj.refl _).trans I)) hm).lE⟩ Q)) ?_)
 rintro _ c5 c8 b6 b D l ⟨H, t, rfl, U⟩
 obtain rfl := t.symm
 refine Wa (ln ?_)
 replace b := b.jy (Db St)
 refine kh ?_
 obtain rfl := sj hm
 exact lB (v := H) rfl rfl ⟨_, _, _, rfl, (b.lO Sn), ((B.trans u).trans D), ((d.trans h).trans l), (ST.kR b (mB.mem Sn)), H, rfl, rfl, U⟩
theorem zV (i : Formula) (g : Value) (x : Int) (r : Bool) (w : World) (c : Sl jx 5 (hp w) g i.Kids) (hm : tw i x = some r) :
  jV true pg0 297 [(.agg #[(.int .i64 i.Op), (.int .i64 i.K), (.string i.ju.jw), (.string i.ju.Word), g]), (.int .i64 x)] w (.bool r) := by
 refine cG 15 func297 rfl (fun b => sg ?_)
 obtain ⟨B, D, rfl⟩ := c.form
 refine VE (kd b rfl (fun G H b => Wa (lr (Wf nq (VB b Mh rfl rfl bY (Wm (Wi rfl (Wm (LJ hm (fun t E W => ∃ u, ST true kx w W (hp w) u ∧ E 4 = (.bool false) ∧ E 14 = (.bool t)) 5 ?_ (fun t j k => ?_))))))))))
 ·rintro J E W ⟨u, b, I, y⟩ z
  exact Wg y (lt (rQ z b))
 refine bC j (fun a j => ?_) (fun a j => ?_)
 ·refine ug a (jG np rfl) (ug a (jA rfl (jP b.has Mh rfl dJ)) (ug a (kU aD rfl c) (ug a (kG rfl rfl rfl) (V (jS (cB a) rfl) ?_))))
  obtain rfl := sj j
  exact k _ _ ⟨_, (b.jy (Db St)), rfl, rfl⟩
 refine un a (un a (un a (un a (V (jT (cB a) rfl) ?_))))
 obtain rfl := sj j
 exact k _ _ ⟨_, (b.jy (Db St)), rfl, rfl⟩
theorem Hq (r : Formula) (w : World) {c : km} (i : ni c [] w) (hm : zg  = some r) :
  lT true pg0 115 [] w c [] (fun v g j => ∃ a, v = (.agg #[(.int .i64 ((r).Op)), (.int .i64 ((r).K)), (.string (((r).ju).jw)), (.string (((r).ju).Word)), a]) ∧ g = [] ∧ Sl jx 5 j a ((r).Kids)) := by
 refine uW i 2 func115 rfl (fun b => sg (VE (ku b aO (fun k u b => lr (V (lC (v := (.agg EK.toArray)) (lW rfl) (kW aO bD (tS _ bD) kr)) (VO (jR (.agg EK.toArray) (EK.toArray) b rfl rfl aB oc nb rfl (fun t b => lt ?_))))))))
 obtain rfl := sj hm
 exact mL (v := (.agg EK.toArray)) rfl rfl (jD b.has Mh EK rfl aI aB) ⟨_, _, _, rfl, (b.lO Sn), (kj.refl _), Lo.refl, (ST.kR b (mB.mem Sn)), (.slice none 0 0), rfl, rfl, (Sl.nil _ _ _)⟩
theorem Iu (r : Formula) (w : World) {c : km} (i : ni c [] w) (hm : zO  = some r) :
  lT true pg0 298 [] w c [] (fun v g j => ∃ a, v = (.agg #[(.int .i64 ((r).Op)), (.int .i64 ((r).K)), (.string (((r).ju).jw)), (.string (((r).ju).Word)), a]) ∧ g = [] ∧ Sl jx 5 j a ((r).Kids)) := by
 refine uW i 2 func298 rfl (fun b => sg (VE (ku b aO (fun k u b => lr (V (lC (v := (.agg Gw.toArray)) (lW rfl) (kW aO bD (tS _ bD) kr)) (VO (jR (.agg Gw.toArray) (Gw.toArray) b rfl rfl aB oc nb rfl (fun t b => lt ?_))))))))
 obtain rfl := sj hm
 exact mL (v := (.agg Gw.toArray)) rfl rfl (jD b.has Mh Gw rfl aI aB) ⟨_, _, _, rfl, (b.lO Sn), (kj.refl _), Lo.refl, (ST.kR b (mB.mem Sn)), (.slice none 0 0), rfl, rfl, (Sl.nil _ _ _)⟩
theorem JE (T : Int) (J : Value) (M r : List Formula) (w : World) {Q : km} (h0 : ni Q [] w) (I : Sl jx 5 Q J M) (hm : AJ T M = some r) :
  lT true pg0 300 [(.int .i64 T), J] w Q [] (fun v L1 μ1 => ∃ A, v = A ∧ L1 = [] ∧ Sl jx 5 μ1 A (r)) := by
 refine uW h0 28 func300 rfl (fun b => sg (Wa (lr (Wa (lS (Wm ?_))))))
 refine V (kU aD rfl I) (Wm (ln (kC (fun i E W => ∃ t G k H, (E 10 = .int .i64 (i : Nat) ∧ E 9 = .int .i64 (M.length : Nat)) ∧ ST true (keys []) w W Q (k ++ H) ∧ E 0 = (.int .i64 T) ∧ E 5 = t ∧ E 8 = J ∧ kK 30 jx 5 Q t G k ∧ qm T (M.drop i) G = some r) M.length I.len ⟨(.slice none 0 0), ([]), [], _, ⟨rfl, rfl⟩, (b.jy St), rfl, rfl, rfl, (kK.nil _ _ _ _), hm⟩ dc dc dc (fun _ _ _ h => by obtain ⟨_, _, _, _, n, _⟩ := h; exact n) ?_ ?_)))
 ·rintro b5 E W a4 ⟨t, G, k, H, ⟨m, p⟩, b, x, y, z, u, c⟩
  obtain ⟨a, b7, P, O, K⟩ := kp a4
  rw [P] at c
  refine bg (VQ (lU (i := (b5 : Int)) (x0 := a) jx.out aD aB z m I (aG _) O) (fun c8 ⟨_, ⟨c9, rfl, D⟩, a5⟩ => V (jA rfl (kf b.has a5 aI aB)) (VE (ku b aO (fun c0 c5 b => ?_)))))
  obtain ⟨g, j, rfl⟩ := D.form
  let a0 := (C1 a.Op a.K a.ju.jw a.ju.Word g a.Kids.length j)
  refine VO (jR (.agg a0.toArray) (a0.toArray) b rfl rfl aB oc nb rfl (fun c1 b => lr (Wf nq (VB b Mh rfl rfl bY (Wh x (Wi rfl (ln (CI c rfl (fun Z c => ?_) (fun Z c => ?_)))))))))
  ·refine jL (Wh y (Wf np (VB b Mh rfl rfl dJ ?_)))
   replace b := b.perm (Nr (Qb Qz) Nz)
   refine bS c fun b1 a2 c => VE (pJ (B := k) jF b dc aD lM.1 lM.2.1 rfl lM.2.2.1 lM.2.2.2 rfl rfl u (xZ.sl jF D b.jB) a2 (fun c2 b3 a9 b U => Wa (kk (kA (jI ?_)))))
   replace b := b.jy (Kr (Db St))
   exact ⟨m, b3, b1, a9, _, ⟨rfl, p⟩, (b.jy St), x, rfl, z, U, (by rw [K]; exact c)⟩
  refine jL (Wh y (VA b Mh a0 aI aB (VE (kq (cs := a0.toArray) b (lW rfl) (mr aD aB aO) (fun c3 c6 b => ?_)))))
  replace b := b.perm (Nr (Qb (Qb Qz)) Nz)
  refine bS c fun b2 a3 c => VE (pJ (B := k) jF b dc aD lM.1 lM.2.1 rfl lM.2.2.1 lM.2.2.2 rfl rfl u (xZ.lit jF (l := [a]) (.cons (ys := C1 a.Op a.K a.ju.jw a.ju.Word g a.Kids.length j) (jx.mk ⟨(.slice g a.Kids.length j), rfl, D⟩) .nil) rfl nb (b.at_ (Ma Mh))) a3 (fun c4 b4 R b Y => Wa (kk (kA (jI ?_)))))
  replace b := b.jy (Kr (Db (Db St)))
  exact ⟨m, b4, b2, R, _, ⟨rfl, p⟩, (b.jy St), x, rfl, z, Y, (by rw [K]; exact c)⟩
 rintro E W ⟨t, G, k, H, ⟨m, p⟩, b, x, y, z, u, c⟩
 rw [aH] at c
 refine jI (sg (Wh y (Wa (lt ?_))))
 obtain rfl := sj c
 refine lB (v := t) rfl rfl ?_
 obtain ⟨d1, b, N, d, L⟩ := ST.uf jF b u
 exact ⟨_, _, _, rfl, (b.lO Sn), N, d, (ST.kR b (mB.mem Sn)), t, rfl, rfl, L⟩
theorem AV (a : Formula) (g : Value) (i : Nat) (j : Int) (r : Bool) (w : World) (c : Sl jx 5 (hp w) g a.Kids) (k : At (hp w) (.pointer (some ⟨i, 0, none⟩)) [(.int .i64 j)]) (hm : qx a j = some r) :
  jV true pg0 301 [(.agg #[(.int .i64 a.Op), (.int .i64 a.K), (.string a.ju.jw), (.string a.ju.Word), g]), (.pointer (some ⟨i, 0, none⟩))] w (.bool r) := by
 refine cG 7 func301 rfl (fun b => sg ?_)
 obtain ⟨t, u, rfl⟩ := c.form
 refine VE (kd b rfl (fun z D b => Wa (lr (VA b Mh (C1 a.Op a.K a.ju.jw a.ju.Word t a.Kids.length u) aI aB (V (jA rfl (pA b.has (y := (.int .i64 j)) k bY)) (bS hm fun G x hm => VE (Eg b call297 (zV a (.slice t a.Kids.length u) j _ _ (c.mono jF.mono b.jB) x) (fun B b => Wa (ln ?_)))))))))
 exact kh (rQ hm b)
end Go.Proofs.YtjjjihkifgdhgaaGreatDoor
