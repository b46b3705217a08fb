/- a part of a proof of ThriftHides -/
import Derived.Test.YtklbhegeiijbjaaGreatTHMq
import Derived.Test.YtklbhegeiijbjaaGreatProg
set_option linter.all false
namespace Go.Proofs.YtklbhegeiijbjaaGreat
open Go.IntKind renaming wrap → wi0
open Go.Proofs.Tryz renaming prog → pg0
open Go.RowKit
set_option maxRecDepth 10000
open Tryz
def aC := @sizeOf58
def aG := @sizeOf50
def aH := @underlying56
def aJ := @sizeOf52
def aK := @underlying28
def aM := @underlying34
def aT := @isAgg50
def aV := @isAgg58
def bD := @isAgg52
def bG := @zeroValue58
def bO := @isAgg9
def bQ := @underlying9
def cD := @underlying23
def cH := @isAgg3
def cL := @zeroValue52
def cO := @underlying53
def cP := @underlying58
def cV := @underlying187
def cW := @underlying50
def dA := @sizeOf87
def dB := @zeroValue50
def dC := @underlying22
def dD := @sizeOf36
def dH := @sizeOf60
def dK := @eqGuardType50
def dL := @underlying261
def dR := @underlying52
def dS := @sizeOf111
def dX := @isAgg36
def eH := @isAgg28
def eK := @underlying3
def eL := @sizeOf55
def eP := @zeroValue60
def eQ := @zeroValue55
def eX := @underlying78
def eY := @underlying45
def fD := @underlying36
def fE := @sizeOf25
def fH := @isAgg56
def fM := @underlying55
def fN := @eqGuardType52
def fT := @underlying25
def fU := @zeroValue111
def fW := @underlying111
def fX := @underlying189
def fY := @zeroValue87
def fZ := @underlying184
def gC := @underlying190
def gK := @sizeOf9
def gS := @underlying60
def gT := @underlying5
def gU := @isAgg25
def gV := @isAgg34
def gW := @zeroValue78
def gZ := @underlying232
def iv := @zeroValue190
def iz := @sizeOf78
def iA := @underlying208
def iB := @underlying215
def iM := @sizeOf28
def iN := @zeroValue4
def iS := @underlying74
def iZ := @underlying239
def ja := @underlying237
def jq := @sizeOf3
def jr := @sizeOf34
def js := @isAgg87
def jt := @isAgg111
def jE := @isAgg22
def jF := @isAgg60
def jG := @underlying191
def jL := @zeroValue28
def jM := @isAgg184
def jN := @zeroValue25
def jZ := @isAgg53
def kz := @zeroValue5
def kT := @call153
def kU := @zeroValue36
def kV := @isAgg55
def kZ := @underlying249
def lj := @underlying64
def lx := @sizeOf53
def lz := @sizeOf5
def lA := @isAgg23
def lB := @isAgg74
abbrev K0 : lC := ⟨zS, zS⟩
abbrev K1 : ByteArray := ⟨#[120]⟩
abbrev K2 : ByteArray := ⟨#[121]⟩
abbrev K3 : ByteArray := ⟨#[122]⟩
abbrev K4 : ByteArray := ⟨#[109, 101]⟩
abbrev K5 : ByteArray := ⟨#[121, 111, 117]⟩
abbrev K6 : nk := ⟨0⟩
abbrev K7 : lC := ⟨K1, K2⟩
abbrev K9 : lC := ⟨K1, K3⟩
abbrev Tq : lD := ⟨0, K0, zS, K0, K0, zS⟩
abbrev Lz : lD := ⟨1, K7, K4, K0, K0, zS⟩
abbrev M2 : lD := ⟨1, K9, K5, K0, K0, zS⟩
abbrev Xc : Formula := ⟨1, 0, K9, []⟩
abbrev C1 (a b : Int) (c d : ByteArray) (g : Option Addr) (h i : Nat) : List Value := [(.int .i64 a), (.int .i64 b), (.string c), (.string d), (.slice g h i)]
abbrev C2 (n : ByteArray) (o : Option Addr) (q r : Nat) (s : Option Addr) (t u : Nat) (v : ByteArray) (w : Int) (x : Option Addr) (a b : Nat) (c : Option Addr) (d g : Nat) (h : Option Addr) (i j : Nat) (k : Option Addr) (l m : Nat) : List Value := [(.string n), (.slice o q r), (.slice s t u), (.string v), (.int .i64 w), (.slice x a b), (.slice c d g), (.slice h i j), (.slice k l m)]
abbrev C3 (l : Int) (m n o q r s t u : ByteArray) (v : Option Addr) (a b : Nat) (c d : Int) (g h : ByteArray) (i : Option Addr) (j k : Nat) : List Value := [(.int .i64 l), (.string m), (.string n), (.string o), (.string q), (.string r), (.string s), (.string t), (.string u), (.slice v a b), (.int .i64 c), (.int .i64 d), (.string g), (.string h), (.slice i j k)]
abbrev C4 (c : Int) (d g h i j k l m : ByteArray) (n : Option Addr) (a b : Nat) : List Value := [(.int .i64 c), (.string d), (.string g), (.string h), (.string i), (.string j), (.string k), (.string l), (.string m), (.slice n a b)]
abbrev C5 (a : Option Addr) (b c : Nat) : List Value := [(.int .i64 1), (.string (K7.lK)), (.string (K7.lN)), (.string K4), (.string (K0.lK)), (.string (K0.lN)), (.string (K0.lK)), (.string (K0.lN)), (.string zS), (.slice a b c), (.int .i64 1), (.int .i64 0), (.string K1), (.string K3), (.slice none 0 0)]
abbrev C6 (c d : ByteArray) (g h : Int) (i j : ByteArray) (k : Option Addr) (l m : Nat) (n : Option Addr) (a b : Nat) : List Value := [(.string c), (.string d), (.int .i64 g), (.int .i64 h), (.string i), (.string j), (.slice k l m), (.slice n a b)]
abbrev C7 (a : ByteArray) (b : Option Addr) (c d : Nat) (g : Option Addr) (h i : Nat) : List Value := [(.string a), (.slice b c d), (.slice g h i)]
abbrev C8 : List Value := [(.int .i64 0), (.int .i64 0), (.string zS), (.string zS), (.slice none 0 0)]
abbrev C9 : List Value := [(.int .i64 1), (.int .i64 0), (.string K1), (.string K3), (.slice none 0 0)]
abbrev RQ : List Value := [(.int .i64 0), (.string (K0.lK)), (.string (K0.lN)), (.string zS), (.string (K0.lK)), (.string (K0.lN)), (.string (K0.lK)), (.string (K0.lN)), (.string zS), (.slice none 0 0), (.int .i64 0), (.int .i64 0), (.string zS), (.string zS), (.slice none 0 0)]
abbrev O4 : List Value := [(.int .i64 0), (.string (K0.lK)), (.string (K0.lN)), (.string zS), (.string (K0.lK)), (.string (K0.lN)), (.string (K0.lK)), (.string (K0.lN)), (.string zS), (.slice none 0 0)]
abbrev Nd : List Value := [(.string zS), (.slice none 0 0), (.slice none 0 0), (.string zS), (.int .i64 0), (.slice none 0 0), (.slice none 0 0), (.slice none 0 0), (.slice none 0 0)]
abbrev WQ (a b c : Int) (d : ByteArray) (g : Option Addr) (h i : Nat) (j : Option Addr) (k l : Nat) : List Value := [(.int .i64 a), (.int .i64 b), (.int .i64 c), (.string d), (.slice g h i), (.slice j k l)]
abbrev It : List Value := [(.int .i64 0), (.int .i64 0), (.int .i64 0), (.string zS), (.slice none 0 0), (.slice none 0 0)]
abbrev XM (a : ByteArray) (b : Option Addr) (c d : Nat) (g : Option Addr) (h i : Nat) (j : ByteArray) (k : Int) : List Value := [(.string a), (.slice b c d), (.slice g h i), (.string j), (.int .i64 k), (.slice none 0 0), (.slice none 0 0), (.slice none 0 0), (.slice none 0 0)]
abbrev WY (a : Option Addr) (b c : Nat) : List Value := [(.int .i64 1), (.string (K7.lK)), (.string (K7.lN)), (.string K4), (.string (K0.lK)), (.string (K0.lN)), (.string (K0.lK)), (.string (K0.lN)), (.string zS), (.slice a b c)]
abbrev XC (a : Option Addr) (b c : Nat) (d : Option Addr) (g h : Nat) : List Value := [(.int .i64 2), (.int .i64 0), (.int .i64 0), (.string zS), (.slice a b c), (.slice d g h)]
abbrev Ve (a : Int) : List Value := [(.int .i64 a), (.int .i64 0), (.string zS), (.string zS), (.slice none 0 0)]
abbrev RT : List Value := [(.int .i64 2), (.int .i64 0), (.string zS), (.string zS), (.slice none 0 0)]
abbrev Q9 : List Value := [(.int .i64 3), (.int .i64 0), (.string zS), (.string zS), (.slice none 0 0)]
theorem mB : Tryz.prog.follows .mixedOrders = true := by rfl
theorem rC : Tryz.prog.info? 5 = some Tryz.t5 ∧ Tryz.t5.zero = some (.int .u8 0) ∧ Tryz.t5.size = 1 ∧ Tryz.t5.bytes = 1 := ⟨by kernel_rfl, by kernel_rfl, by kernel_rfl, by kernel_rfl⟩
theorem EH : Tryz.prog.info? 9 = some Tryz.t9 ∧ Tryz.t9.zero = some (.string ⟨#[]⟩) ∧ Tryz.t9.size = 1 ∧ Tryz.t9.bytes = 16 := ⟨by kernel_rfl, by kernel_rfl, by kernel_rfl, by kernel_rfl⟩
theorem oz : Tryz.prog.info? 50 = some Tryz.t50 ∧ Tryz.t50.zero = some (.agg #[(.string ⟨#[]⟩), (.string ⟨#[]⟩)]) ∧ Tryz.t50.size = 2 ∧ Tryz.t50.bytes = 32 := ⟨by kernel_rfl, by kernel_rfl, by kernel_rfl, by kernel_rfl⟩
theorem oA : Tryz.prog.info? 52 = some Tryz.t52 ∧ Tryz.t52.zero = some (.agg #[(.int .i64 0), (.string ⟨#[]⟩), (.string ⟨#[]⟩), (.string ⟨#[]⟩), (.string ⟨#[]⟩), (.string ⟨#[]⟩), (.string ⟨#[]⟩), (.string ⟨#[]⟩), (.string ⟨#[]⟩)]) ∧ Tryz.t52.size = 9 ∧ Tryz.t52.bytes = 136 := ⟨by kernel_rfl, by kernel_rfl, by kernel_rfl, by kernel_rfl⟩
theorem Jt : Tryz.prog.info? 55 = some Tryz.t55 ∧ Tryz.t55.zero = some (.agg #[(.int .i64 0), (.string ⟨#[]⟩), (.string ⟨#[]⟩), (.string ⟨#[]⟩), (.string ⟨#[]⟩), (.string ⟨#[]⟩), (.string ⟨#[]⟩), (.string ⟨#[]⟩), (.string ⟨#[]⟩), (.slice none 0 0)]) ∧ Tryz.t55.size = 10 ∧ Tryz.t55.bytes = 160 := ⟨by kernel_rfl, by kernel_rfl, by kernel_rfl, by kernel_rfl⟩
theorem rq : Tryz.prog.info? 58 = some Tryz.t58 ∧ Tryz.t58.zero = some (.agg #[(.int .i64 0), (.int .i64 0), (.string ⟨#[]⟩), (.string ⟨#[]⟩), (.slice none 0 0)]) ∧ Tryz.t58.size = 5 ∧ Tryz.t58.bytes = 72 := ⟨by kernel_rfl, by kernel_rfl, by kernel_rfl, by kernel_rfl⟩
theorem Kj : Tryz.prog.info? 60 = some Tryz.t60 ∧ Tryz.t60.zero = some (.agg #[(.int .i64 0), (.string ⟨#[]⟩), (.string ⟨#[]⟩), (.string ⟨#[]⟩), (.string ⟨#[]⟩), (.string ⟨#[]⟩), (.string ⟨#[]⟩), (.string ⟨#[]⟩), (.string ⟨#[]⟩), (.slice none 0 0), (.int .i64 0), (.int .i64 0), (.string ⟨#[]⟩), (.string ⟨#[]⟩), (.slice none 0 0)]) ∧ Tryz.t60.size = 15 ∧ Tryz.t60.bytes = 232 := ⟨by kernel_rfl, by kernel_rfl, by kernel_rfl, by kernel_rfl⟩
theorem CD : Tryz.prog.info? 87 = some Tryz.t87 ∧ Tryz.t87.zero = some (.agg #[(.string ⟨#[]⟩), (.string ⟨#[]⟩), (.int .i64 0), (.int .i64 0), (.string ⟨#[]⟩), (.string ⟨#[]⟩), (.slice none 0 0), (.slice none 0 0)]) ∧ Tryz.t87.size = 8 ∧ Tryz.t87.bytes = 128 := ⟨by kernel_rfl, by kernel_rfl, by kernel_rfl, by kernel_rfl⟩
theorem xd : Tryz.prog.info? 111 = some Tryz.t111 ∧ Tryz.t111.zero = some (.agg #[(.string ⟨#[]⟩), (.string ⟨#[]⟩), (.string ⟨#[]⟩)]) ∧ Tryz.t111.size = 3 ∧ Tryz.t111.bytes = 48 := ⟨by kernel_rfl, by kernel_rfl, by kernel_rfl, by kernel_rfl⟩
theorem rn : ny pg0 50 0 0 := mY cW rfl gK (by decide) rfl
theorem vS : ny pg0 50 1 1 := mY cW rfl gK (by decide) rfl
theorem SP : (Tryz.prog.fieldsOf 50).toList = (match Tryz.prog.underlying 50 with | some (.struct a) => a.toList | _ => []) := by rw [cW]; simp [Program.fieldsOf, cW]
theorem pX (d : Nat) (x y : lC) (W : World) : (Op.equalIn (d + 2) 50 (.agg (lG x).toArray) (.agg (lG y).toArray)).run pg0 W = .ok (me x y) W := by
 rw [run_equalIn_struct W (d + 1) 50 _ _ (by kernel_rfl) Tryz.stoodInHeld50, SP, cW]
 exact (um (by decide) (pZ bO rfl) (pZ bO rfl) (Tu bQ _ _ _ _) (um (by decide) (pZ bO rfl) (pZ bO rfl) (Tu bQ _ _ _ _) (G5 _ _ _)))
theorem KQ : ∀ a, Tryz.prog.underlying 50 = some (.struct a) → ∀ w, (a.mapM (fun (f : Field) => do pure (f.offset, ← sizeOf f.type)) : Sem (Array (Nat × Nat))).run pg0 w = .ok #[(0, 1), (1, 1)] w := by
 intro a h w
 rw [cW] at h
 cases h
 kernel_rfl
theorem sx : ny pg0 52 0 0 := mY dR rfl jq (by decide) rfl
theorem sD : ny pg0 52 1 1 := mY dR rfl aG (by decide) rfl
theorem zz : ny pg0 52 2 3 := mY dR rfl gK (by decide) rfl
theorem pK : ny pg0 52 3 4 := mY dR rfl aG (by decide) rfl
theorem vk : ny pg0 52 4 6 := mY dR rfl aG (by decide) rfl
theorem wK : ny pg0 52 5 8 := mY dR rfl gK (by decide) rfl
theorem S0 : (Tryz.prog.fieldsOf 52).toList = (match Tryz.prog.underlying 52 with | some (.struct a) => a.toList | _ => []) := by rw [dR]; simp [Program.fieldsOf, dR]
theorem wP (d : Nat) (x y : lD) (W : World) : (Op.equalIn (d + 3) 52 (.agg (lE x).toArray) (.agg (lE y).toArray)).run pg0 W = .ok (mO x y) W := by
 rw [run_equalIn_struct W (d + 2) 52 _ _ (by kernel_rfl) Tryz.stoodInHeld52, S0, dR]
 exact (um (by decide) (pZ cH rfl) (pZ cH rfl) (XR eK _ _ _ _) (um (by decide) (yu aT aG rfl) (yu aT aG rfl) (pX _ x.Head y.Head W) (um (by decide) (pZ bO rfl) (pZ bO rfl) (Tu bQ _ _ _ _) (um (by decide) (yu aT aG rfl) (yu aT aG rfl) (pX _ x.B y.B W) (um (by decide) (yu aT aG rfl) (yu aT aG rfl) (pX _ x.C y.C W) (um (by decide) (pZ bO rfl) (pZ bO rfl) (Tu bQ _ _ _ _) (G5 _ _ _)))))))
theorem SZ : ∀ a, Tryz.prog.underlying 52 = some (.struct a) → ∀ w, (a.mapM (fun (f : Field) => do pure (f.offset, ← sizeOf f.type)) : Sem (Array (Nat × Nat))).run pg0 w = .ok #[(0, 1), (1, 2), (3, 1), (4, 2), (6, 2), (8, 1)] w := by
 intro a h w
 rw [dR] at h
 cases h
 kernel_rfl
theorem Ad : ny pg0 111 0 0 := mY fW rfl aG (by decide) rfl
theorem yU : ny pg0 111 1 2 := mY fW rfl gK (by decide) rfl
theorem Qa : ∀ a, Tryz.prog.underlying 111 = some (.struct a) → ∀ w, (a.mapM (fun (f : Field) => do pure (f.offset, ← sizeOf f.type)) : Sem (Array (Nat × Nat))).run pg0 w = .ok #[(0, 2), (2, 1)] w := by
 intro a h w
 rw [fW] at h
 cases h
 kernel_rfl
theorem Ou : ny pg0 249 0 0 := mY kZ rfl sizeOf40 (by decide) rfl
theorem Wd : ∀ a, Tryz.prog.underlying 249 = some (.struct a) → ∀ w, (a.mapM (fun (f : Field) => do pure (f.offset, ← sizeOf f.type)) : Sem (Array (Nat × Nat))).run pg0 w = .ok #[(0, 1)] w := by
 intro a h w
 rw [kZ] at h
 cases h
 kernel_rfl
theorem xh : ny pg0 55 0 0 := mY fM rfl aJ (by decide) rfl
theorem Hd : ny pg0 55 1 9 := mY fM rfl lx (by decide) rfl
theorem PL : ∀ a, Tryz.prog.underlying 55 = some (.struct a) → ∀ w, (a.mapM (fun (f : Field) => do pure (f.offset, ← sizeOf f.type)) : Sem (Array (Nat × Nat))).run pg0 w = .ok #[(0, 9), (9, 1)] w := by
 intro a h w
 rw [fM] at h
 cases h
 kernel_rfl
theorem rK : ny pg0 58 0 0 := mY cP rfl jq (by decide) rfl
theorem xr : ny pg0 58 1 1 := mY cP rfl jq (by decide) rfl
theorem wM : ny pg0 58 2 2 := mY cP rfl aG (by decide) rfl
theorem rH : ny pg0 58 3 4 := mY cP rfl sizeOf56 (by decide) rfl
theorem DI : ∀ a, Tryz.prog.underlying 58 = some (.struct a) → ∀ w, (a.mapM (fun (f : Field) => do pure (f.offset, ← sizeOf f.type)) : Sem (Array (Nat × Nat))).run pg0 w = .ok #[(0, 1), (1, 1), (2, 2), (4, 1)] w := by
 intro a h w
 rw [cP] at h
 cases h
 kernel_rfl
theorem xZ : ny pg0 60 0 0 := mY gS rfl eL (by decide) rfl
theorem Nu : ny pg0 60 1 10 := mY gS rfl aC (by decide) rfl
theorem Sp : ∀ a, Tryz.prog.underlying 60 = some (.struct a) → ∀ w, (a.mapM (fun (f : Field) => do pure (f.offset, ← sizeOf f.type)) : Sem (Array (Nat × Nat))).run pg0 w = .ok #[(0, 10), (10, 5)] w := by
 intro a h w
 rw [gS] at h
 cases h
 kernel_rfl
theorem GZ : ny pg0 87 0 0 := mY underlying87 rfl aG (by decide) rfl
theorem D9 : ny pg0 87 1 2 := mY underlying87 rfl aC (by decide) rfl
theorem Ea : ny pg0 87 2 7 := mY underlying87 rfl iM (by decide) rfl
theorem QR : ny pg0 25 0 0 := mY fT rfl gK (by decide) rfl
theorem xT : ny pg0 25 1 1 := mY fT rfl sizeOf22 (by decide) rfl
theorem DP : ny pg0 25 2 2 := mY fT rfl sizeOf23 (by decide) rfl
theorem SI : ∀ a, Tryz.prog.underlying 25 = some (.struct a) → ∀ w, (a.mapM (fun (f : Field) => do pure (f.offset, ← sizeOf f.type)) : Sem (Array (Nat × Nat))).run pg0 w = .ok #[(0, 1), (1, 1), (2, 1)] w := by
 intro a h w
 rw [fT] at h
 cases h
 kernel_rfl
theorem wH : ny pg0 36 0 0 := mY fD rfl fE (by decide) rfl
theorem HJ : ny pg0 36 1 3 := mY fD rfl gK (by decide) rfl
theorem RO : ny pg0 36 2 4 := mY fD rfl jq (by decide) rfl
theorem D4 : ny pg0 36 3 5 := mY fD rfl iM (by decide) rfl
theorem Ax : ny pg0 36 4 6 := mY fD rfl iM (by decide) rfl
theorem Ft : ny pg0 36 5 7 := mY fD rfl jr (by decide) rfl
theorem CK : ny pg0 36 6 8 := mY fD rfl jr (by decide) rfl
theorem VF : ∀ a, Tryz.prog.underlying 36 = some (.struct a) → ∀ w, (a.mapM (fun (f : Field) => do pure (f.offset, ← sizeOf f.type)) : Sem (Array (Nat × Nat))).run pg0 w = .ok #[(0, 3), (3, 1), (4, 1), (5, 1), (6, 1), (7, 1), (8, 1)] w := by
 intro a h w
 rw [fD] at h
 cases h
 kernel_rfl
theorem T7 : ny pg0 118 0 0 := mY underlying118 rfl gK (by decide) rfl
theorem Ud : ny pg0 118 1 1 := mY underlying118 rfl lx (by decide) rfl
theorem QQ : ny pg0 78 0 0 := mY eX rfl jq (by decide) rfl
theorem QH : ny pg0 78 1 1 := mY eX rfl jq (by decide) rfl
theorem Q2 : ny pg0 78 2 2 := mY eX rfl jq (by decide) rfl
theorem Qx : ny pg0 78 3 3 := mY eX rfl gK (by decide) rfl
theorem Ju : ny pg0 78 4 4 := mY eX rfl jr (by decide) rfl
theorem Ks : ny pg0 78 5 5 := mY eX rfl sizeOf45 (by decide) rfl
theorem SD : ∀ a, Tryz.prog.underlying 78 = some (.struct a) → ∀ w, (a.mapM (fun (f : Field) => do pure (f.offset, ← sizeOf f.type)) : Sem (Array (Nat × Nat))).run pg0 w = .ok #[(0, 1), (1, 1), (2, 1), (3, 1), (4, 1), (5, 1)] w := by
 intro a h w
 rw [eX] at h
 cases h
 kernel_rfl
theorem zW : ny pg0 189 0 0 := mY fX rfl sizeOf184 (by decide) rfl
theorem Ld : ny pg0 189 1 1 := mY fX rfl iM (by decide) rfl
theorem OP : ny pg0 189 2 2 := mY fX rfl sizeOf185 (by decide) rfl
theorem Kw : ny pg0 189 3 3 := mY fX rfl sizeOf186 (by decide) rfl
theorem Dz : ny pg0 189 4 4 := mY fX rfl sizeOf187 (by decide) rfl
theorem HU : ny pg0 189 5 5 := mY fX rfl jq (by decide) rfl
theorem WA : ∀ a, Tryz.prog.underlying 189 = some (.struct a) → ∀ w, (a.mapM (fun (f : Field) => do pure (f.offset, ← sizeOf f.type)) : Sem (Array (Nat × Nat))).run pg0 w = .ok #[(0, 1), (1, 1), (2, 1), (3, 1), (4, 1), (5, 1)] w := by
 intro a h w
 rw [fX] at h
 cases h
 kernel_rfl
theorem OG : ny pg0 208 0 0 := mY iA rfl iM (by decide) rfl
theorem KM : ny pg0 208 1 1 := mY iA rfl sizeOf75 (by decide) rfl
theorem Oz : ny pg0 208 2 2 := mY iA rfl sizeOf190 (by decide) rfl
theorem Cf : ny pg0 208 3 3 := mY iA rfl sizeOf74 (by decide) rfl
theorem We : ∀ a, Tryz.prog.underlying 208 = some (.struct a) → ∀ w, (a.mapM (fun (f : Field) => do pure (f.offset, ← sizeOf f.type)) : Sem (Array (Nat × Nat))).run pg0 w = .ok #[(0, 1), (1, 1), (2, 1), (3, 1)] w := by
 intro a h w
 rw [iA] at h
 cases h
 kernel_rfl
theorem BS : ny pg0 239 0 0 := mY iZ rfl lx (by decide) rfl
theorem Tk : ∀ a, Tryz.prog.underlying 239 = some (.struct a) → ∀ w, (a.mapM (fun (f : Field) => do pure (f.offset, ← sizeOf f.type)) : Sem (Array (Nat × Nat))).run pg0 w = .ok #[(0, 1)] w := by
 intro a h w
 rw [iZ] at h
 cases h
 kernel_rfl
def oY : sO Signed := fun μ ys x => ∃ (v0 : Value), ys = [.int .i64 x.lD.Kind, .string x.lD.Head.lK, .string x.lD.Head.lN, .string x.lD.mX, .string x.lD.B.lK, .string x.lD.B.lN, .string x.lD.C.lK, .string x.lD.C.lN, .string x.lD.mQ, v0] ∧ Sl (Pl (ns .u8)) 1 μ v0 x.Tag
theorem oY.out {μ : mN} {ys : List Value} {x : Signed} (h : oY μ ys x) : ∃ (v0 : Value), ys = [.int .i64 x.lD.Kind, .string x.lD.Head.lK, .string x.lD.Head.lN, .string x.lD.mX, .string x.lD.B.lK, .string x.lD.B.lN, .string x.lD.C.lK, .string x.lD.C.lN, .string x.lD.mQ, v0] ∧ Sl (Pl (ns .u8)) 1 μ v0 x.Tag := h
theorem oY.mk {μ : mN} {ys : List Value} {x : Signed} (h : ∃ (v0 : Value), ys = [.int .i64 x.lD.Kind, .string x.lD.Head.lK, .string x.lD.Head.lN, .string x.lD.mX, .string x.lD.B.lK, .string x.lD.B.lN, .string x.lD.C.lK, .string x.lD.C.lN, .string x.lD.mQ, v0] ∧ Sl (Pl (ns .u8)) 1 μ v0 x.Tag) : oY μ ys x := h
theorem rV : Deep oY 10 where
 mono := by rintro _ _ _ _ b ⟨v0, rfl, a⟩; exact ⟨v0, rfl, a.mono (Pl.mono _) b⟩
 len := by rintro _ _ _ ⟨v0, rfl, a⟩; rfl
 one := by
  rintro _ _ _ ⟨v0, rfl, a⟩
  intro u hu; simp only [aS, dY, iY] at hu; rcases hu with rfl | rfl | rfl | rfl | rfl | rfl | rfl | rfl | rfl | rfl
  ·rfl
  ·rfl
  ·rfl
  ·rfl
  ·rfl
  ·rfl
  ·rfl
  ·rfl
  ·rfl
  ·exact a.Er
def AB : Nat → sO Formula
 | 0 => fun _ _ _ => False
 | n + 1 => fun μ ys x => ∃ (v0 : Value), ys = [.int .i64 x.Op, .int .i64 x.K, .string x.lC.lK, .string x.lC.lN, v0] ∧ Sl (AB n) 5 μ v0 x.Kids
def lI : sO Formula := fun μ ys x => ∃ n, AB n μ ys x
theorem GS : ∀ n, JE (AB n)
 | 0 => fun _ _ _ _ _ h => h
 | n + 1 => by rintro _ _ _ _ b ⟨v0, rfl, a⟩; exact ⟨v0, rfl, a.mono (GS n) b⟩
theorem JK : ∀ n m (μ : mN) (ys : List Value) (x : Formula), n ≤ m → AB n μ ys x → AB m μ ys x
 | 0, _, _, _, _, _, h => h.elim
 | n + 1, 0, _, _, _, a, _ => absurd a (by omega)
 | n + 1, m + 1, μ, ys, x, a, h => by
  obtain ⟨v0, rfl, b⟩ := h
  exact ⟨v0, rfl, b.imp fun ys x h => JK n m μ ys x (by omega) h⟩
theorem lI.out {μ : mN} {ys : List Value} {x : Formula} (h : lI μ ys x) : ∃ (v0 : Value), ys = [.int .i64 x.Op, .int .i64 x.K, .string x.lC.lK, .string x.lC.lN, v0] ∧ Sl lI 5 μ v0 x.Kids := by
 obtain ⟨n, h⟩ := h
 cases n with
 | zero => exact h.elim
 | succ n =>
  obtain ⟨v0, rfl, a⟩ := h
  exact ⟨v0, rfl, a.imp fun ys x h => ⟨n, h⟩⟩
theorem lI.mk {μ : mN} {ys : List Value} {x : Formula} (h : ∃ (v0 : Value), ys = [.int .i64 x.Op, .int .i64 x.K, .string x.lC.lK, .string x.lC.lN, v0] ∧ Sl lI 5 μ v0 x.Kids) : lI μ ys x := by
 obtain ⟨v0, rfl, c⟩ := h
 obtain ⟨n, g⟩ := c.WI (fun _ _ h => h) (fun a b ys x d h => JK a b _ ys x d h)
 exact ⟨n + 1, v0, rfl, g⟩
theorem mg : Deep lI 5 where
 mono := fun _ _ _ _ b ⟨n, h⟩ => ⟨n, GS n _ _ _ _ b h⟩
 len := by rintro _ _ _ h; obtain ⟨v0, rfl, a⟩ := h.out; rfl
 one := by
  rintro _ _ _ h
  obtain ⟨v0, rfl, a⟩ := h.out
  intro u hu; simp only [aS, dY, iY] at hu; rcases hu with rfl | rfl | rfl | rfl | rfl
  ·rfl
  ·rfl
  ·rfl
  ·rfl
  ·exact a.Er
def mC : sO mI := fun μ ys x => ∃ (v0 : Value) (v1 : Value), ys = [.int .i64 x.Signed.lD.Kind, .string x.Signed.lD.Head.lK, .string x.Signed.lD.Head.lN, .string x.Signed.lD.mX, .string x.Signed.lD.B.lK, .string x.Signed.lD.B.lN, .string x.Signed.lD.C.lK, .string x.Signed.lD.C.lN, .string x.Signed.lD.mQ, v0, .int .i64 x.lM.Op, .int .i64 x.lM.K, .string x.lM.lC.lK, .string x.lM.lC.lN, v1] ∧ Sl (Pl (ns .u8)) 1 μ v0 x.Signed.Tag ∧ Sl lI 5 μ v1 x.lM.Kids
theorem mC.out {μ : mN} {ys : List Value} {x : mI} (h : mC μ ys x) : ∃ (v0 : Value) (v1 : Value), ys = [.int .i64 x.Signed.lD.Kind, .string x.Signed.lD.Head.lK, .string x.Signed.lD.Head.lN, .string x.Signed.lD.mX, .string x.Signed.lD.B.lK, .string x.Signed.lD.B.lN, .string x.Signed.lD.C.lK, .string x.Signed.lD.C.lN, .string x.Signed.lD.mQ, v0, .int .i64 x.lM.Op, .int .i64 x.lM.K, .string x.lM.lC.lK, .string x.lM.lC.lN, v1] ∧ Sl (Pl (ns .u8)) 1 μ v0 x.Signed.Tag ∧ Sl lI 5 μ v1 x.lM.Kids := h
theorem mC.mk {μ : mN} {ys : List Value} {x : mI} (h : ∃ (v0 : Value) (v1 : Value), ys = [.int .i64 x.Signed.lD.Kind, .string x.Signed.lD.Head.lK, .string x.Signed.lD.Head.lN, .string x.Signed.lD.mX, .string x.Signed.lD.B.lK, .string x.Signed.lD.B.lN, .string x.Signed.lD.C.lK, .string x.Signed.lD.C.lN, .string x.Signed.lD.mQ, v0, .int .i64 x.lM.Op, .int .i64 x.lM.K, .string x.lM.lC.lK, .string x.lM.lC.lN, v1] ∧ Sl (Pl (ns .u8)) 1 μ v0 x.Signed.Tag ∧ Sl lI 5 μ v1 x.lM.Kids) : mC μ ys x := h
theorem mK : Deep mC 15 where
 mono := by rintro _ _ _ _ b ⟨v0, v1, rfl, a, h1⟩; exact ⟨v0, v1, rfl, a.mono (Pl.mono _) b, h1.mono mg.mono b⟩
 len := by rintro _ _ _ ⟨v0, v1, rfl, a, h1⟩; rfl
 one := by
  rintro _ _ _ ⟨v0, v1, rfl, a, h1⟩
  intro u hu; simp only [aS, dY, iY] at hu; rcases hu with rfl | rfl | rfl | rfl | rfl | rfl | rfl | rfl | rfl | rfl | rfl | rfl | rfl | rfl | rfl
  ·rfl
  ·rfl
  ·rfl
  ·rfl
  ·rfl
  ·rfl
  ·rfl
  ·rfl
  ·rfl
  ·exact a.Er
  ·rfl
  ·rfl
  ·rfl
  ·rfl
  ·exact h1.Er
def mZ : sO nx := fun μ ys x => ∃ (v0 : Value) (v1 : Value), ys = [.string x.lC.lK, .string x.lC.lN, .int .i64 x.lM.Op, .int .i64 x.lM.K, .string x.lM.lC.lK, .string x.lM.lC.lN, v0, v1] ∧ Sl lI 5 μ v0 x.lM.Kids ∧ Sl (Pl lE) 9 μ v1 x.nj
theorem mZ.out {μ : mN} {ys : List Value} {x : nx} (h : mZ μ ys x) : ∃ (v0 : Value) (v1 : Value), ys = [.string x.lC.lK, .string x.lC.lN, .int .i64 x.lM.Op, .int .i64 x.lM.K, .string x.lM.lC.lK, .string x.lM.lC.lN, v0, v1] ∧ Sl lI 5 μ v0 x.lM.Kids ∧ Sl (Pl lE) 9 μ v1 x.nj := h
theorem mZ.mk {μ : mN} {ys : List Value} {x : nx} (h : ∃ (v0 : Value) (v1 : Value), ys = [.string x.lC.lK, .string x.lC.lN, .int .i64 x.lM.Op, .int .i64 x.lM.K, .string x.lM.lC.lK, .string x.lM.lC.lN, v0, v1] ∧ Sl lI 5 μ v0 x.lM.Kids ∧ Sl (Pl lE) 9 μ v1 x.nj) : mZ μ ys x := h
theorem nH : Deep mZ 8 where
 mono := by rintro _ _ _ _ b ⟨v0, v1, rfl, a, h1⟩; exact ⟨v0, v1, rfl, a.mono mg.mono b, h1.mono (Pl.mono _) b⟩
 len := by rintro _ _ _ ⟨v0, v1, rfl, a, h1⟩; rfl
 one := by
  rintro _ _ _ ⟨v0, v1, rfl, a, h1⟩
  intro u hu; simp only [aS, dY, iY] at hu; rcases hu with rfl | rfl | rfl | rfl | rfl | rfl | rfl | rfl
  ·rfl
  ·rfl
  ·rfl
  ·rfl
  ·rfl
  ·rfl
  ·exact a.Er
  ·exact h1.Er
def Fp : sO Key := fun μ ys x => ∃ (v0 : Value), ys = [.string x.mX, v0] ∧ Sl (Pl (ns .u8)) 1 μ v0 x.Key
theorem Fp.out {μ : mN} {ys : List Value} {x : Key} (h : Fp μ ys x) : ∃ (v0 : Value), ys = [.string x.mX, v0] ∧ Sl (Pl (ns .u8)) 1 μ v0 x.Key := h
theorem Fp.mk {μ : mN} {ys : List Value} {x : Key} (h : ∃ (v0 : Value), ys = [.string x.mX, v0] ∧ Sl (Pl (ns .u8)) 1 μ v0 x.Key) : Fp μ ys x := h
theorem Hp : qR pg0 9 Value.string np := qR.string bQ
theorem A0 : qR pg0 50 (fun (x : lC) => (.agg (lG x).toArray)) me :=
 qR.struct cW (fun d x y W => pX (d + 8) x y W) (fun b k W => xx cW rfl (cE.2 ⟨fun _ => ⟨.string k.lK, pZ bO rfl, pU bQ _ _ _ _⟩, (cE.2 ⟨fun _ => ⟨.string k.lN, pZ bO rfl, pU bQ _ _ _ _⟩, (fun _ h => by cases h)⟩)⟩))
  (fun k x h => (mn.1 h).symm) (fun k => by simp [Instr.sameBits, lG, Ed, nU])
theorem RV : qR pg0 52 (fun (x : lD) => (.agg (lE x).toArray)) mO :=
 qR.struct dR (fun d x y W => wP (d + 7) x y W) (fun b k W => xx dR rfl (cE.2 ⟨fun _ => ⟨.int .i64 k.Kind, pZ cH rfl, MJ eK _ _ _ _ _⟩, (cE.2 ⟨fun _ => ⟨.agg (lG k.Head).toArray, yu aT aG rfl, xx cW rfl (cE.2 ⟨fun _ => ⟨.string k.Head.lK, pZ bO rfl, pU bQ _ _ _ _⟩, (cE.2 ⟨fun _ => ⟨.string k.Head.lN, pZ bO rfl, pU bQ _ _ _ _⟩, (fun _ h => by cases h)⟩)⟩)⟩, (cE.2 ⟨fun _ => ⟨.string k.mX, pZ bO rfl, pU bQ _ _ _ _⟩, (cE.2 ⟨fun _ => ⟨.agg (lG k.B).toArray, yu aT aG rfl, xx cW rfl (cE.2 ⟨fun _ => ⟨.string k.B.lK, pZ bO rfl, pU bQ _ _ _ _⟩, (cE.2 ⟨fun _ => ⟨.string k.B.lN, pZ bO rfl, pU bQ _ _ _ _⟩, (fun _ h => by cases h)⟩)⟩)⟩, (cE.2 ⟨fun _ => ⟨.agg (lG k.C).toArray, yu aT aG rfl, xx cW rfl (cE.2 ⟨fun _ => ⟨.string k.C.lK, pZ bO rfl, pU bQ _ _ _ _⟩, (cE.2 ⟨fun _ => ⟨.string k.C.lN, pZ bO rfl, pU bQ _ _ _ _⟩, (fun _ h => by cases h)⟩)⟩)⟩, (cE.2 ⟨fun _ => ⟨.string k.mQ, pZ bO rfl, pU bQ _ _ _ _⟩, (fun _ h => by cases h)⟩)⟩)⟩)⟩)⟩)⟩))
  (fun k x h => (ou.1 h).symm) (fun k => by simp [Instr.sameBits, lE, Ed, nU])
theorem Vd (w : World) (s : ByteArray) (c : Int) : (callFunc 242 [Value.string s, .int .u8 c].toArray).run pg0 w = .ok (.value (.int .i64 (Ae s c))) w := Kv func242 (by kernel_rfl) (by kernel_rfl) (by kernel_rfl) (by kernel_rfl) s c w
theorem A6 (a : ByteArray) (c r : Int) (w : World) (hm : qP a c = some r) :
  mo true pg0 185 [(.string a), (.int .u8 c)] w (.int .i64 r) := by
 exact cG 8 func185 rfl (fun b => sg (Wa (lr (Wm (Wm (VE (PM (args := [(.string a), (.int .u8 c)]) (v := .int .i64 (Ae a c)) rfl (by exact yA rfl rfl) (Vd _ a c) (Wa (lt (rQ hm b))))))))))
theorem BK (a : ByteArray) (c r : Int) (w : World) (hm : uC a c = some r) :
  mo true pg0 121 [(.string a), (.int .u8 c)] w (.int .i64 r) := by
 refine cG 8 func121 rfl (fun b => sg (Wa (lr (Wm (Wm (bS hm fun j g hm => VE (Eg b call185 (A6 a c _ _  g) (fun i b => Wa (ln ?_)))))))))
 exact mu (rQ hm b)
theorem Oe (I : ByteArray) (r : Bool) (w : World) (hm : EK I = some r) :
  mo true pg0 122 [(.string I)] w (.bool r) := by
 refine cG 16 func122 rfl (fun b => sg (Wa (lS (Wm (bS hm fun H J hm => VE (LR b bQ cO gT rfl J (fun W3 N T b M n j Y => V (mV cO rfl j) (Wm (mz ?_)))))))))
 refine lU (mM (fun i E W => ∃ c, (E 8 = .int .i64 (i : Nat) ∧ E 7 = .int .i64 (H.length : Nat)) ∧ ST true mD w W T c ∧ E 6 = N ∧ ya (H.drop i) = some r) H.length j.len ⟨_, ⟨rfl, rfl⟩, (b.lF St), rfl, hm⟩ dc dc dc (fun _ _ _ h => by obtain ⟨_, l, _⟩ := h; exact l) ?_ ?_)
 ·rintro K E W u ⟨c, ⟨d, m⟩, b, g, a⟩
  obtain ⟨k, Q, D, B, G⟩ := mE u
  rw [D] at a
  refine bg (VQ (og (enc := (ns .u8)) (i := (K : Int)) (x0 := k) cO lz g d j (aF _) B) (fun Z x => V (lJ rfl (po b.has (y := (.int .u8 k)) x isAgg5)) (Wa (lr (Wm (bS a fun o z a => VE (Eg b call121 (BK (⟨#[97, 98, 99, 100, 101, 102, 103, 104, 105, 106, 107, 108, 109, 110, 111, 112, 113, 114, 115, 116, 117, 118, 119, 120, 121, 122, 48, 49, 50, 51, 52, 53, 54, 55, 56, 57, 45]⟩ : ByteArray) k _ _  z) (fun U b => Wi rfl (mz ?_)))))))))
  refine lU (CI a rfl (fun t a => ?_) (fun t a => ?_))
  ·refine sg (Wa (lt (nY (mL (nY (mL ?_))))))
   obtain rfl := sj a
   exact rP b
  exact nf (mJ (lU ⟨d, _, ⟨rfl, m⟩, (b.lF St), g, (by rw [G]; exact a)⟩))
 rintro E W ⟨c, ⟨d, m⟩, b, g, a⟩
 rw [aI] at a
 exact lU (sg (Wa (lt (rQ a b))))
theorem vj (z : ByteArray) (r : Bool) (w : World) (hm : rM z = some r) :
  mo true pg0 57 [(.string z)] w (.bool r) := by
 refine cG 21 func57 rfl (fun b => sg (Wa (lr (Wm (V (pL bQ rfl) (Wi rfl (Wm (LJ hm (fun K E W => ∃ Y, ST true mD w W (hp w) Y ∧ E 0 = (.string z) ∧ E 2 = (.bool false) ∧ E 10 = (.bool K)) 4 ?_ (fun K t y => ?_)))))))))
 ·rintro x2 E W ⟨Y, b, M, d, l⟩ a5
  refine Wh l (LJ a5 (fun J E W => ∃ D, ST true mD w W (hp w) D ∧ E 0 = (.string z) ∧ E 2 = (.bool false) ∧ E 16 = (.bool J)) 5 ?_ (fun J a x => ?_))
  ·rintro s E W ⟨D, b, h, H, a2⟩ N
   refine Wh a2 (LJ N (fun I E W => ∃ G, ST true mD w W (hp w) G ∧ E 2 = (.bool false) ∧ E 20 = (.bool I)) 3 ?_ (fun I j u => ?_))
   ·rintro v E W ⟨G, b, a9, a3⟩ Q
    exact Wg a3 (lt (rQ Q b))
   refine bC j (fun g j => ?_) (fun g j => ?_)
   ·refine ug g (lP h) (bS j fun o T j => sa g (Eg b call122 (Oe z _ _  T) (fun m b => V (mh (cB g) rfl) ?_)))
    obtain rfl := sj j
    exact u _ _ ⟨_, (b.lF St), H, rfl⟩
   refine un g (un g (V (mi (cB g) rfl) ?_))
   obtain rfl := sj j
   exact u _ _ ⟨_, (b.lF St), H, rfl⟩
  refine bC a (fun c a => ?_) (fun c a => ?_)
  ·refine ug c (lP M) (bS a fun Z B a => ug c (Du (i := 0) bQ rfl rfl (Cu B) (F9 B)) (bS a fun q U a => sa c (Eg b call121 (BK (⟨#[97, 98, 99, 100, 101, 102, 103, 104, 105, 106, 107, 108, 109, 110, 111, 112, 113, 114, 115, 116, 117, 118, 119, 120, 121, 122]⟩ : ByteArray) (Z.toNat : Int) _ _  U) (fun n b => ug c (mP rfl rfl rfl) (V (mh (cB c) rfl) ?_)))))
   obtain rfl := sj a
   exact x _ _ ⟨_, (b.lF St), M, d, rfl⟩
  refine un c (un c (un c (un c (V (mi (cB c) rfl) ?_))))
  obtain rfl := sj a
  exact x _ _ ⟨_, (b.lF St), M, d, rfl⟩
 refine bC t (fun k t => ?_) (fun k t => ?_)
 ·refine ug k (lP rfl) (ug k (pL bQ rfl) (ug k (mP rfl rfl rfl) (V (mh (cB k) rfl) ?_)))
  obtain rfl := sj t
  exact y _ _ ⟨_, (b.lF St), rfl, rfl, rfl⟩
 refine un k (un k (un k (V (mi (cB k) rfl) ?_)))
 obtain rfl := sj t
 exact y _ _ ⟨_, (b.lF St), rfl, rfl, rfl⟩
theorem Av (g : Value) (t : List nx) (j : Value) (z : nx → Option Bool) (r : Int) (w : World) (c : Sl mZ 8 (hp w) g t) (B : zh pg0 j (hp w) (Cg mZ) (fun (r : Bool) => (.bool r)) z) (hm : rc t z = some r) :
  mo false pg0 190 [g, j] w (.int .i64 r) := by
 refine cG 19 func190 rfl (fun b => sg (Wa (lS (Wm (V (mV cD rfl c) (Wm (ln (mM (fun i E W => ∃ k, (E 8 = .int .i64 (i : Nat) ∧ E 7 = .int .i64 (t.length : Nat)) ∧ ST false mD w W (hp w) k ∧ E 0 = g ∧ E 1 = j ∧ qb z (t.drop i) i = some r) t.length c.len ⟨_, ⟨rfl, rfl⟩, (b.lF St), rfl, rfl, hm⟩ dc dc dc (fun _ _ _ h => by obtain ⟨_, l, _⟩ := h; exact l) ?_ ?_))))))))
 ·rintro T E W G ⟨k, ⟨d, m⟩, b, u, x, a⟩
  obtain ⟨y, Z, N, M, Q⟩ := mE G
  rw [N] at a
  refine bg (Wh d (Wa (lr (Wh x (Wh u (Wm (VQ (nS (i := (T : Int)) (x0 := y) mZ.out cD dA rfl rfl c (aF _) M) (fun a2 ⟨_, ⟨U, Y, rfl, J, K⟩, H⟩ => V (lJ rfl (mr b.has H js dA)) (bS a fun a3 I a => ?_)))))))))
  refine VE (AN y b B (mx.refl _) (Cg.mk nH (mZ.mk ⟨U, Y, rfl, J, K⟩) b.lL) rfl (vc rfl) I (fun n b => ln (CI a rfl (fun D a => ?_) (fun D a => ?_))))
  ·refine sg (Wm (Wa (lt (nY (mL (nY (mL ?_)))))))
   obtain rfl := sj a
   exact rP b
  exact nf (mJ (lU ⟨d, _, ⟨rfl, m⟩, (b.lF St), u, x, (by rw [Q]; exact a)⟩))
 rintro E W ⟨k, ⟨d, m⟩, b, u, x, a⟩
 rw [aI] at a
 exact lU (sg (Wa (lt (rQ a b))))
theorem Dl (a : Value) (g : List nx) (c : Value) (i : nx → Option Bool) (r : Bool) (w : World) (j : Sl mZ 8 (hp w) a g) (k : zh pg0 c (hp w) (Cg mZ) (fun (r : Bool) => (.bool r)) i) (hm : tz g i = some r) :
  mo false pg0 199 [a, c] w (.bool r) := by
 refine cG 9 func199 rfl (fun b => sg (Wa (lr (Wm (Wm (bS hm fun x t hm => VE (Eg b call190 (Av a g c i _ _ (j.mono nH.mono b.lL) (k.mono b.lL) t) (fun u b => Wi rfl (Wa (mz ?_))))))))))
 exact lU (mu (rQ hm b))
theorem JF (c : nx) (a i : Value) (r : Bool) (w : World) (j : Sl lI 5 (hp w) a c.lM.Kids) (g : Sl (Pl lE) 9 (hp w) i c.nj) (hm : zg c = some r) :
  mo true pg0 200 [(.agg #[(.string c.lC.lK), (.string c.lC.lN), (.int .i64 c.lM.Op), (.int .i64 c.lM.K), (.string c.lM.lC.lK), (.string c.lM.lC.lN), a, i])] w (.bool r) := by
 refine cG 7 func200 rfl (fun b => sg ?_)
 obtain ⟨k, u, rfl⟩ := j.form
 obtain ⟨t, x, rfl⟩ := g.form
 refine VE (mG b rfl (fun y z b => Wa (lr (Wf Ea (VB b Mh rfl rfl eH (V (mV aK rfl g) (Wi rfl (Wa (ln ?_)))))))))
 exact mu (rQ hm b)
theorem Nc (u : lH) (k t : Value) (r : Bool) (w : World) (j : Sl mC 15 (hp w) k u.lZ) (c : Sl mZ 8 (hp w) t u.mq) (hm : BC u = some r) :
  mo false pg0 140 [(.agg #[(.string u.Name), k, t])] w (.bool r) := by
 refine cG 18 func140 rfl (fun b => sg ?_)
 obtain ⟨T, Z, rfl⟩ := j.form
 obtain ⟨J, K, rfl⟩ := c.form
 refine VE (mG b rfl (fun W6 Y b => Wa (lr (Wf xT (VB b Mh rfl rfl jE (V (mV dC rfl j) (Wi rfl (Wm (LJ hm (fun I E W => ∃ U, ST false mD w W (hp w) ((Y, Ol (C7 u.Name T u.lZ.length Z J u.mq.length K) 25) :: U) ∧ E 1 = (.pointer (some ⟨Y, 0, none⟩)) ∧ E 2 = (.bool false) ∧ E 12 = (.bool I)) 5 ?_ (fun I y B => ?_))))))))))
 ·rintro x8 E W ⟨U, b, d, G, a2⟩ M
  refine Wh a2 (LJ M (fun H E W => ∃ D, ST false mD w W (hp w) D ∧ E 2 = (.bool false) ∧ E 17 = (.bool H)) 4 ?_ (fun H i z => ?_))
  ·rintro v E W ⟨D, b, s, a3⟩ N
   exact Wg a3 (lt (rQ N b))
  refine bC i (fun a i => ?_) (fun a i => ?_)
  ·refine un a (un a (un a (V (mh (cB a) rfl) ?_)))
   obtain rfl := sj i
   exact z _ _ ⟨_, (b.lF (Db St)), G, rfl⟩
  refine ug a (lO DP d) (ug a (lJ rfl (lX b.has Mh rfl lA)) (bS i fun a9 Q i => sa a (Eg b call199 (Dl (.slice J u.mq.length K) u.mq (.func (.func 200) #[] #[]) (fun (x : nx) => zg x) _ _ (c.mono nH.mono b.lL) ⟨200, #[], #[], rfl, call200, fun W x vs r A h hm => by obtain ⟨_, rfl, a4⟩ := h; obtain ⟨n, o, rfl, l, m⟩ := a4.out; exact (JF x n o r W l m hm).nz⟩ Q) (fun q b => V (mi (cB a) rfl) ?_))))
  obtain rfl := sj i
  exact z _ _ ⟨_, (b.lF (Db St)), G, rfl⟩
 refine bC y (fun g y => ?_) (fun g y => ?_)
 ·refine un g (un g (un g (un g (V (mh (cB g) rfl) ?_))))
  obtain rfl := sj y
  exact B _ _ ⟨_, (b.lF St), rfl, rfl, rfl⟩
 refine ug g (lO DP rfl) (ug g (lJ rfl (lX b.has Mh rfl lA)) (ug g (mV cD rfl c) (ug g (mP rfl rfl rfl) (V (mi (cB g) rfl) ?_))))
 obtain rfl := sj y
 exact B _ _ ⟨_, (b.lF St), rfl, rfl, rfl⟩
theorem Gs (T : Formula → Int → Option (Int × Int)) (n : ∀ (t : Formula) (j : Value) (I : Int) (r : (Int × Int)) (w : World) (g : Sl lI 5 (hp w) j t.Kids), T t I = some r → mo false pg0 192 [(.agg #[(.int .i64 t.Op), (.int .i64 t.K), (.string t.lC.lK), (.string t.lC.lN), j]), (.int .i64 I)] w (.tuple #[(.int .i64 r.1), (.int .i64 r.2)])) (t : Formula) (j : Value) (I : Int) (r : (Int × Int)) (w : World) (g : Sl lI 5 (hp w) j t.Kids) (hm : yp T t I = some r) :
  mo false pg0 192 [(.agg #[(.int .i64 t.Op), (.int .i64 t.K), (.string t.lC.lK), (.string t.lC.lN), j]), (.int .i64 I)] w (.tuple #[(.int .i64 r.1), (.int .i64 r.2)]) := by
 refine cG 40 func192 rfl (fun b => sg ?_)
 obtain ⟨A1, c2, rfl⟩ := g.form
 refine VE (mG b rfl (fun W4 P b => Wa (Wa (lr (Wa (Wa (lS (Wf rH ?_))))))))
 refine VB b Mh rfl rfl fH (V (mV aH rfl g) (Wm (ln ?_)))
 replace b := b.lF (Db St)
 refine CJ hm (fun Q E W => ∃ a2, ST false mD w W (hp w) a2 ∧ E 6 = (.int .i64 Q.1) ∧ E 7 = (.int .i64 Q.2)) (fun Q a5 => ?_) ?_
 ·refine mM (fun i E W => ∃ y z J, (E 15 = .int .i64 (i : Nat) ∧ E 14 = .int .i64 (t.Kids.length : Nat)) ∧ ST false mD w W (hp w) J ∧ E 1 = (.int .i64 I) ∧ E 6 = (.int .i64 y) ∧ E 7 = (.int .i64 z) ∧ E 13 = (.slice A1 t.Kids.length c2) ∧ rO I T (t.Kids.drop i) y z = some Q) t.Kids.length g.len ⟨1, 0, _, ⟨rfl, rfl⟩, (b.lF St), rfl, rfl, rfl, rfl, a5⟩ dc dc dc (fun _ _ _ h => by obtain ⟨_, _, _, l, _⟩ := h; exact l) ?_ ?_
  ·rintro F E W a3 ⟨y, z, J, ⟨d, m⟩, b, G, x, H, K, a⟩
   obtain ⟨c, c6, q, o, a9⟩ := mE a3
   rw [q] at a
   refine bg (VQ (nS (i := (F : Int)) (x0 := c) lI.out aH aC K d g (aF _) o) (fun c4 ⟨_, ⟨c5, rfl, N⟩, Y⟩ => V (lJ rfl (mr b.has Y aV aC)) (VE (my b bG (fun R c3 b => ?_)))))
   obtain ⟨B, D, rfl⟩ := N.form
   let a0 := (C1 c.Op c.K c.lC.lK c.lC.lN B c.Kids.length D)
   refine VO (mj (.agg a0.toArray) (a0.toArray) b rfl rfl aC oc nb rfl (fun c0 b => lS (Wh x (Wh G (Wi rfl (ln (CI a rfl (fun U a => ?_) (fun U a => ?_))))))))
   ·refine pk (oR (VW (by simp) (oR (tE (lU ?_)))))
    obtain rfl := sj a
    exact ⟨_, (b.lF (Db St)), x, H⟩
   refine kg (VA b Mh a0 aV aC (Wh G (Wh x (Wi rfl (bS a fun M Z a => VE (Eg b call192 (n c (.slice B c.Kids.length D) (wi0 .i64 (I - y)) _ _ (N.mono mg.mono b.lL) Z) (fun c1 b => Wm (Wx rfl (Wx rfl (Wa (Wa ?_)))))))))))
   refine ln ?_
   replace b := b.lF (Db St)
   exact ma (Wh x (Wm (Wi rfl (Wh H (Wm (V (Rr (k := .i64) rfl rfl) (Wa (Wa (mz (mJ (lU ⟨d, (wi0 .i64 (y + M.1)), (if M.2 > z then M.2 else z), _, ⟨rfl, m⟩, (b.lF St), G, rfl, rfl, K, (by rw [a9]; exact a)⟩)))))))))))
  rintro E W ⟨y, z, J, ⟨d, m⟩, b, G, x, H, K, a⟩
  rw [aI] at a
  refine lU ?_
  obtain rfl := sj a
  exact ⟨_, (b.lF St), x, H⟩
 rintro ⟨L, O⟩ E W ⟨a2, b, s, A⟩ a4
 refine sg (Wh s (Wh A (Wi rfl (Wa (Wa (lt ?_))))))
 obtain rfl := sj a4
 exact G1 (v := (.int .i64 L)) (u := (.int .i64 (wi0 .i64 (O + 1)))) rfl rfl rfl ⟨rfl, b.ex⟩
theorem Ee : ∀ (n : Nat) (c : Formula) (a : Value) (i : Int) (r : (Int × Int)) (w : World) (g : Sl lI 5 (hp w) a c.Kids) (_ : qy n c i = some r),
  mo false pg0 192 [(.agg #[(.int .i64 c.Op), (.int .i64 c.K), (.string c.lC.lK), (.string c.lC.lN), a]), (.int .i64 i)] w (.tuple #[(.int .i64 r.1), (.int .i64 r.2)])
 | 0 => by intros; rename_i h; simp only [qy] at h; cases h
 | n + 1 => Gs (qy n) (Ee n)
theorem KL (a : Formula) (g : Value) (r : (Int × Int)) (w : World) (c : Sl lI 5 (hp w) g a.Kids) (hm : zZ a = some r) :
  mo false pg0 134 [(.agg #[(.int .i64 a.Op), (.int .i64 a.K), (.string a.lC.lK), (.string a.lC.lN), g])] w (.tuple #[(.int .i64 r.1), (.int .i64 r.2)]) := by
 refine cG 15 func134 rfl (fun b => sg ?_)
 obtain ⟨i, j, rfl⟩ := c.form
 refine VE (mG b rfl (fun y B b => Wa (Wa (lr (VA b Mh (C1 a.Op a.K a.lC.lK a.lC.lN i a.Kids.length j) aV aC (bS hm fun x t hm => VE (Eg b call192 ((Ee mR) a (.slice i a.Kids.length j) 4096 _ _ (c.mono mg.mono b.lL) t) (fun z b => Wm (Wx rfl (Wx rfl (Wa (Wa ?_))))))))))))
 refine ln ?_
 replace b := b.lF (Db St)
 refine mf (sg (Wm (Wi rfl (ln (CI hm rfl (fun k hm => ?_) (fun k hm => ?_))))))
 ·refine sg (Wa (Wa (lt (mL ?_))))
  obtain rfl := sj hm
  exact G1 (v := (.int .i64 0)) (u := (.int .i64 0)) rfl rfl rfl ⟨rfl, b.ex⟩
 refine kg (Wm (Wm (Wa (Wa (lt ?_)))))
 obtain rfl := sj hm
 exact G1 (v := (.int .i64 x.1)) (u := (.int .i64 x.2)) rfl rfl rfl ⟨rfl, b.ex⟩
theorem tZ (i : lC) (r : Bool) (w : World) (hm : qT i = some r) :
  mo true pg0 153 [(.agg (lG i).toArray)] w (.bool r) := by
 refine cG 11 func153 rfl (fun b => sg (VE (mG b rfl (fun H J b => Wa (lr (Wf rn (VB b Mh rfl rfl bO (bS hm fun K y hm => VE (Eg b call57 (vj i.lK _ _  y) (fun I b => Wm (LJ hm (fun k E W => ∃ j, ST true mD w W (hp w) j ∧ E 2 = (.bool false) ∧ E 10 = (.bool k)) 4 ?_ (fun k a g => ?_))))))))))))
 ·rintro G E W ⟨j, b, B, x⟩ t
  exact Wg x (lt (rQ t b))
 refine bC a (fun c a => ?_) (fun c a => ?_)
 ·refine ug c (lO vS rfl) (ug c (lJ rfl (lX b.has Mh rfl bO)) (bS a fun D u a => sa c (Eg b call57 (vj i.lN _ _  u) (fun z b => V (mh (cB c) rfl) ?_))))
  obtain rfl := sj a
  exact g _ _ ⟨_, (b.lF (Db St)), rfl, rfl⟩
 refine un c (un c (un c (V (mi (cB c) rfl) ?_)))
 obtain rfl := sj a
 exact g _ _ ⟨_, (b.lF (Db St)), rfl, rfl⟩
theorem KC (a : Formula) (H : Value) (r : Bool) (w : World) (t : Sl lI 5 (hp w) H a.Kids) (hm : zY a = some r) :
  mo true pg0 193 [(.agg #[(.int .i64 a.Op), (.int .i64 a.K), (.string a.lC.lK), (.string a.lC.lN), H])] w (.bool r) := by
 refine cG 63 func193 rfl (fun b => sg ?_)
 obtain ⟨A1, c2, rfl⟩ := t.form
 let l := (C1 a.Op a.K a.lC.lK a.lC.lN A1 a.Kids.length c2)
 refine VE (mG b rfl (fun W4 N b => Wa (lr (V (nW (v := (.agg (lG K0).toArray)) sM (nw dB cW (KQ _ cW) kr)) (VE (my b dB (fun W6 A b => VO (mj (.agg (lG K0).toArray) ((lG K0).toArray) b rfl rfl aG (pJ K0) nb rfl (fun W7 b => lS (Wf rK ?_))))))))))
 refine VB b (Mt Mh) rfl rfl cH (ln (bg (Wi rfl (Wa (ln (CI hm rfl (fun d9 hm => ?_) (fun d9 hm => ?_)))))))
 ·refine sg (Wf wM (VA b (Mt Mh) (lG a.lC) aT aG (bS hm fun f7 e5 hm => VE (Eg b kT (tZ a.lC _ _  e5) (fun f5 b => Wm (LJ hm (fun d2 E W => ∃ O, ST true mD w W (hp w) ((N, Ol l 58) :: O) ∧ E 1 = (.pointer (some ⟨N, 0, none⟩)) ∧ E 2 = (.bool false) ∧ E 17 = (.bool d2)) 5 ?_ (fun d2 J a4 => ?_)))))))
  ·rintro f8 E W ⟨O, b, e7, c9, e8⟩ e1
   refine Wh e8 (LJ e1 (fun d1 E W => ∃ P, ST true mD w W (hp w) P ∧ E 2 = (.bool false) ∧ E 22 = (.bool d1)) 4 ?_ (fun d1 I a3 => ?_))
   ·rintro f9 E W ⟨P, b, f6, e9⟩ e2
    refine Wg e9 (lt (nY (mL ?_)))
    obtain rfl := sj e2
    exact rP b
   refine bC I (fun u I => ?_) (fun u I => ?_)
   ·refine ug u (lO xr e7) (ug u (lJ rfl (lX b.has Mh rfl cH)) (ug u (mP rfl rfl rfl) (V (mh (cB u) rfl) ?_)))
    obtain rfl := sj I
    exact a3 _ _ ⟨_, (b.lF (Db St)), c9, rfl⟩
   refine un u (un u (un u (V (mi (cB u) rfl) ?_)))
   obtain rfl := sj I
   exact a3 _ _ ⟨_, (b.lF (Db St)), c9, rfl⟩
  refine bC J (fun j J => ?_) (fun j J => ?_)
  ·refine ug j (lO rH rfl) (ug j (lJ rfl (lX b.has (Mt Mh) rfl fH)) (ug j (mV aH rfl t) (ug j (mP rfl rfl rfl) (V (mh (cB j) rfl) ?_))))
   obtain rfl := sj J
   exact a4 _ _ ⟨_, (b.lF (Db St)), rfl, rfl, rfl⟩
  refine un j (un j (un j (un j (V (mi (cB j) rfl) ?_))))
  obtain rfl := sj J
  exact a4 _ _ ⟨_, (b.lF (Db St)), rfl, rfl, rfl⟩
 let a0 := (l.toArray : Array Value)
 let d : Value := (.pointer (some ⟨N, 0, none⟩))
 refine mf (CJ hm (fun L E W => ∃ R, ST true mD w W (hp w) ((A, Ol (lG K0) 50) :: ((N, Obj.cells a0 58 (0, 0)) :: R)) ∧ E 1 = d ∧ E 3 = (.pointer (some ⟨A, 0, none⟩)) ∧ E 23 = (.bool L)) (fun L G => ?_) ?_)
 ·refine sg (Wi rfl (Wa (ln (CI G rfl (fun b9 G => ?_) (fun b9 G => ?_)))))
  ·refine kn ?_
   obtain rfl := sj G
   exact ⟨_, (b.lF St), rfl, rfl, rfl⟩
  refine ma (Wi rfl (Wa (ln ?_)))
  obtain rfl := sj G
  exact ⟨_, (b.lF St), rfl, rfl, rfl⟩
 rintro g0 E W ⟨R, b, Q, d0, f0⟩ K
 refine CI K f0 (fun e0 K => ?_) (fun e0 K => ?_)
 ·refine sg (V (lO wM Q) (VA b (Mt Mh) (lG a.lC) aT aG (V (lJ d0 (lQ b.has Mh (lG K0) rfl aT aG)) (V (vx rfl rfl (oI dK) (rA (pX _ a.lC K0))) (Wm (LJ K (fun d3 E W => ∃ c7, ST true mD w W (hp w) c7 ∧ E 34 = (.bool d3)) 4 ?_ (fun d3 M a5 => ?_)))))))
  ·rintro g1 E W ⟨c7, b, f1⟩ e3
   refine Wg f1 (lt (nY (mL ?_)))
   obtain rfl := sj e3
   exact rP b
  refine bC M (fun x M => ?_) (fun x M => ?_)
  ·refine ug x (lO xr Q) (ug x (lJ rfl (lX b.has (Mt Mh) rfl cH)) (ug x (mP rfl rfl rfl) (V (mh (cB x) rfl) ?_)))
   obtain rfl := sj M
   exact a5 _ _ ⟨_, (b.lF (Db (Db St))), rfl⟩
  refine un x (un x (un x (V (mi (cB x) rfl) ?_)))
  obtain rfl := sj M
  exact a5 _ _ ⟨_, (b.lF (Db (Db St))), rfl⟩
 refine nf (mJ (lU (sg (V (lO rK Q) (VB b (Mt Mh) rfl rfl cH (Wi rfl (Wm (LJ K (fun F E W => ∃ c8, ST true mD w W (hp w) ((N, Obj.cells a0 58 (0, 0)) :: c8) ∧ E 1 = d ∧ E 43 = (.bool F)) 5 ?_ (fun F D h => ?_)))))))))
 ·rintro g2 E W ⟨c8, b, a2, d4⟩ e4
  refine Wh d4 (LJ e4 (fun s E W => ∃ m, ST true mD w W (hp w) ((N, Obj.cells a0 58 (0, 0)) :: m) ∧ E 1 = d ∧ E 48 = (.bool s)) 4 ?_ (fun s B Z => ?_))
  ·rintro f2 E W ⟨m, b, T, d5⟩ c0
   refine Wh d5 (LJ c0 (fun q E W => ∃ a9, ST true mD w W (hp w) ((N, Obj.cells a0 58 (0, 0)) :: a9) ∧ E 1 = d ∧ E 56 = (.bool q)) 7 ?_ (fun q z Y => ?_))
   ·rintro f3 E W ⟨a9, b, d6, d7⟩ c1
    refine Wh d7 (LJ c1 (fun o E W => ∃ n, ST true mD w W (hp w) n ∧ E 62 = (.bool o)) 5 ?_ (fun o y U => ?_))
    ·rintro f4 E W ⟨n, b, d8⟩ c3
     exact Wg d8 (lt (rQ c3 b))
    refine bC y (fun g y => ?_) (fun g y => ?_)
    ·refine ug g (lO rH d6) (ug g (lJ rfl (lX b.has Mh rfl fH)) (ug g (mV aH rfl t) (ug g (mP rfl rfl rfl) (V (mh (cB g) rfl) ?_))))
     obtain rfl := sj y
     exact U _ _ ⟨_, (b.lF (Db St)), rfl⟩
    refine un g (un g (un g (un g (V (mi (cB g) rfl) ?_))))
    obtain rfl := sj y
    exact U _ _ ⟨_, (b.lF (Db St)), rfl⟩
   refine bC z (fun c z => ?_) (fun c z => ?_)
   ·refine ug c (lO xr T) (ug c (lJ rfl (lX b.has Mh rfl cH)) (ug c (lO rH T) (ug c (lJ rfl (lX b.has Mh rfl fH)) (ug c (mV aH rfl t) (ug c (mP rfl rfl rfl) (V (mh (cB c) rfl) ?_))))))
    obtain rfl := sj z
    exact Y _ _ ⟨_, (b.lF St), T, rfl⟩
   refine un c (un c (un c (un c (un c (un c (V (mi (cB c) rfl) ?_))))))
   obtain rfl := sj z
   exact Y _ _ ⟨_, (b.lF St), T, rfl⟩
  refine bC B (fun i B => ?_) (fun i B => ?_)
  ·refine ug i (lO xr a2) (ug i (lJ rfl (lX b.has Mh rfl cH)) (ug i (mP rfl rfl rfl) (V (mh (cB i) rfl) ?_)))
   obtain rfl := sj B
   exact Z _ _ ⟨_, (b.lF St), a2, rfl⟩
  refine un i (un i (un i (V (mi (cB i) rfl) ?_)))
  obtain rfl := sj B
  exact Z _ _ ⟨_, (b.lF St), a2, rfl⟩
 refine bC D (fun k D => ?_) (fun k D => ?_)
 ·refine ug k (lO wM Q) (ug k (lJ rfl (lQ b.has (Mt Mh) (lG a.lC) rfl aT aG)) (ug k (lJ d0 (lQ b.has Mh (lG K0) rfl aT aG)) (ug k (vx rfl rfl (oI dK) (rA (pX _ a.lC K0))) (V (mh (cB k) rfl) ?_))))
  obtain rfl := sj D
  exact h _ _ ⟨_, (b.lF (Db St)), Q, rfl⟩
 refine un k (un k (un k (un k (V (mi (cB k) rfl) ?_))))
 obtain rfl := sj D
 exact h _ _ ⟨_, (b.lF (Db St)), Q, rfl⟩
theorem CS (g : Value) (t : List Formula) (j : Value) (z : Formula → Option Bool) (r : Int) (w : World) (c : Sl lI 5 (hp w) g t) (B : zh pg0 j (hp w) (Cg lI) (fun (r : Bool) => (.bool r)) z) (hm : vQ t z = some r) :
  mo false pg0 249 [g, j] w (.int .i64 r) := by
 refine cG 19 func249 rfl (fun b => sg (Wa (lS (Wm (V (mV aH rfl c) (Wm (ln (mM (fun i E W => ∃ k, (E 8 = .int .i64 (i : Nat) ∧ E 7 = .int .i64 (t.length : Nat)) ∧ ST false mD w W (hp w) k ∧ E 0 = g ∧ E 1 = j ∧ px z (t.drop i) i = some r) t.length c.len ⟨_, ⟨rfl, rfl⟩, (b.lF St), rfl, rfl, hm⟩ dc dc dc (fun _ _ _ h => by obtain ⟨_, l, _⟩ := h; exact l) ?_ ?_))))))))
 ·rintro Q E W G ⟨k, ⟨d, m⟩, b, u, x, a⟩
  obtain ⟨y, U, M, K, N⟩ := mE G
  rw [M] at a
  refine bg (Wh d (Wa (lr (Wh x (Wh u (Wm (VQ (nS (i := (Q : Int)) (x0 := y) lI.out aH aC rfl rfl c (aF _) K) (fun Z ⟨_, ⟨T, rfl, J⟩, H⟩ => V (lJ rfl (mr b.has H aV aC)) (bS a fun n I a => ?_)))))))))
  refine VE (AN y b B (mx.refl _) (Cg.mk mg (lI.mk ⟨T, rfl, J⟩) b.lL) rfl (vc rfl) I (fun Y b => ln (CI a rfl (fun D a => ?_) (fun D a => ?_))))
  ·refine sg (Wm (Wa (lt (nY (mL (nY (mL ?_)))))))
   obtain rfl := sj a
   exact rP b
  exact nf (mJ (lU ⟨d, _, ⟨rfl, m⟩, (b.lF St), u, x, (by rw [N]; exact a)⟩))
 rintro E W ⟨k, ⟨d, m⟩, b, u, x, a⟩
 rw [aI] at a
 exact lU (sg (Wa (lt (rQ a b))))
theorem xL (a : Value) (g : List Formula) (c : Value) (i : Formula → Option Bool) (r : Bool) (w : World) (j : Sl lI 5 (hp w) a g) (k : zh pg0 c (hp w) (Cg lI) (fun (r : Bool) => (.bool r)) i) (hm : qf g i = some r) :
  mo false pg0 194 [a, c] w (.bool r) := by
 refine cG 9 func194 rfl (fun b => sg (Wa (lr (Wm (Wm (bS hm fun x t hm => VE (Eg b call249 (CS a g c i _ _ (j.mono mg.mono b.lL) (k.mono b.lL) t) (fun u b => Wi rfl (Wa (mz ?_))))))))))
 exact lU (mu (rQ hm b))
theorem G4 (i : Formula → Option Bool) (t : ∀ (c : Formula) (a : Value) (r : Bool) (w : World) (g : Sl lI 5 (hp w) a c.Kids), i c = some r → mo false pg0 135 [(.agg #[(.int .i64 c.Op), (.int .i64 c.K), (.string c.lC.lK), (.string c.lC.lN), a])] w (.bool r)) (c : Formula) (a : Value) (r : Bool) (w : World) (g : Sl lI 5 (hp w) a c.Kids) (hm : xl i c = some r) :
  mo false pg0 195 [(.agg #[(.int .i64 c.Op), (.int .i64 c.K), (.string c.lC.lK), (.string c.lC.lN), a])] w (.bool r) := by
 refine cG 6 func195 rfl (fun b => sg ?_)
 obtain ⟨j, k, rfl⟩ := g.form
 refine VE (mG b rfl (fun x z b => Wa (lr (VA b Mh (C1 c.Op c.K c.lC.lK c.lC.lN j c.Kids.length k) aV aC (bS hm fun B u hm => VE (Eg b call135 (t c (.slice j c.Kids.length k) _ _ (g.mono mg.mono b.lL) u) (fun y b => V (oy rfl) (Wa (ln ?_)))))))))
 exact mu (rQ hm b)
theorem FV (z : Formula → Option Bool) (T : ∀ (a : Formula) (g : Value) (r : Bool) (w : World) (c : Sl lI 5 (hp w) g a.Kids), z a = some r → mo false pg0 135 [(.agg #[(.int .i64 a.Op), (.int .i64 a.K), (.string a.lC.lK), (.string a.lC.lN), g])] w (.bool r)) (a : Formula) (g : Value) (r : Bool) (w : World) (c : Sl lI 5 (hp w) g a.Kids) (hm : yv z a = some r) :
  mo false pg0 135 [(.agg #[(.int .i64 a.Op), (.int .i64 a.K), (.string a.lC.lK), (.string a.lC.lN), g])] w (.bool r) := by
 refine cG 17 func135 rfl (fun b => sg ?_)
 obtain ⟨B, D, rfl⟩ := c.form
 let a0 := (C1 a.Op a.K a.lC.lK a.lC.lN B a.Kids.length D)
 refine VE (mG b rfl (fun W4 U b => Wa (lr (VA b Mh a0 aV aC (bS hm fun v a3 hm => VE (Eg b call193 (mo.nz (KC a (.slice B a.Kids.length D) _ _ (c.mono mg.mono b.lL) a3)) (fun W7 b => Wm (LJ hm (fun K E W => ∃ G, ST false mD w W (hp w) ((U, Ol a0 58) :: G) ∧ E 1 = (.pointer (some ⟨U, 0, none⟩)) ∧ E 2 = (.bool false) ∧ E 10 = (.bool K)) 5 ?_ (fun K t y => ?_)))))))))
 ·rintro A E W ⟨G, b, Y, I, Z⟩ M
  refine Wh Z (LJ M (fun J E W => ∃ H, ST false mD w W (hp w) H ∧ E 2 = (.bool false) ∧ E 16 = (.bool J)) 5 ?_ (fun J k u => ?_))
  ·rintro q E W ⟨H, b, n, d⟩ N
   exact Wg d (lt (rQ N b))
  refine bC k (fun i k => ?_) (fun i k => ?_)
  ·refine ug i (lO rH Y) (ug i (lJ rfl (lX b.has Mh rfl fH)) (bS k fun o Q k => sa i (Eg b call194 (xL (.slice B a.Kids.length D) a.Kids (.func (.func 195) #[] #[]) (fun (x : Formula) => xl z x) _ _ (c.mono mg.mono b.lL) ⟨195, #[], #[], rfl, call195, fun W x vs r s h hm => by obtain ⟨_, rfl, a2⟩ := h; obtain ⟨m, rfl, l⟩ := a2.out; exact G4 z T x m r W l hm⟩ Q) (fun a5 b => ug i (oy rfl) (V (mh (cB i) rfl) ?_)))))
   obtain rfl := sj k
   exact u _ _ ⟨_, (b.lF (Db St)), I, rfl⟩
  refine un i (un i (un i (un i (V (mi (cB i) rfl) ?_))))
  obtain rfl := sj k
  exact u _ _ ⟨_, (b.lF (Db St)), I, rfl⟩
 refine bC t (fun j t => ?_) (fun j t => ?_)
 ·refine ug j (lO rH rfl) (ug j (lJ rfl (lX b.has Mh rfl fH)) (ug j (mV aH rfl c) (ug j (mP rfl rfl rfl) (V (mh (cB j) rfl) ?_))))
  obtain rfl := sj t
  exact y _ _ ⟨_, (b.lF St), rfl, rfl, rfl⟩
 refine un j (un j (un j (un j (V (mi (cB j) rfl) ?_))))
 obtain rfl := sj t
 exact y _ _ ⟨_, (b.lF St), rfl, rfl, rfl⟩
theorem Eu : ∀ (n : Nat) (c : Formula) (a : Value) (r : Bool) (w : World) (g : Sl lI 5 (hp w) a c.Kids) (_ : ua n c = some r),
  mo false pg0 135 [(.agg #[(.int .i64 c.Op), (.int .i64 c.K), (.string c.lC.lK), (.string c.lC.lN), a])] w (.bool r)
 | 0 => by intros; rename_i h; simp only [ua] at h; cases h
 | n + 1 => FV (ua n) (Eu n)
theorem vu (a : Formula) (k : Value) (r : Bool) (w : World) (c : Sl lI 5 (hp w) k a.Kids) (hm : rr a = some r) :
  mo false pg0 72 [(.agg #[(.int .i64 a.Op), (.int .i64 a.K), (.string a.lC.lK), (.string a.lC.lN), k])] w (.bool r) := by
 refine cG 24 func72 rfl (fun b => sg ?_)
 obtain ⟨y, z, rfl⟩ := c.form
 let a0 := (C1 a.Op a.K a.lC.lK a.lC.lN y a.Kids.length z)
 refine VE (mG b rfl (fun W4 H b => Wa (lr (VA b Mh a0 aV aC (bS hm fun n a9 hm => VE (Eg b call134 (KL a (.slice y a.Kids.length z) _ _ (c.mono mg.mono b.lL) a9) (fun W7 b => Wm (Wx rfl (Wx rfl (Wa (Wa (mz ?_))))))))))))
 refine lU (sg (Wm (Wi rfl (Wm (LJ hm (fun Y E W => ∃ I, ST false mD w W (hp w) ((H, Ol a0 58) :: I) ∧ E 1 = (.pointer (some ⟨H, 0, none⟩)) ∧ E 2 = (.bool false) ∧ E 4 = (.int .i64 n.2) ∧ E 15 = (.bool Y)) 3 ?_ (fun Y x G => ?_))))))
 ·rintro F E W ⟨I, b, M, N, a4, a5⟩ Z
  refine Wh a5 (LJ Z (fun U E W => ∃ J, ST false mD w W (hp w) ((H, Ol a0 58) :: J) ∧ E 1 = (.pointer (some ⟨H, 0, none⟩)) ∧ E 2 = (.bool false) ∧ E 19 = (.bool U)) 3 ?_ (fun U u D => ?_))
  ·rintro v E W ⟨J, b, h, Q, l⟩ d
   refine Wh l (LJ d (fun T E W => ∃ K, ST false mD w W (hp w) K ∧ E 2 = (.bool false) ∧ E 23 = (.bool T)) 3 ?_ (fun T j B => ?_))
   ·rintro A E W ⟨K, b, q, m⟩ a2
    exact Wg m (lt (rQ a2 b))
   refine bC j (fun i j => ?_) (fun i j => ?_)
   ·refine ug i (lJ h (lQ b.has Mh a0 rfl aV aC)) (bS j fun s a3 j => sa i (Eg b call135 ((Eu mR) a (.slice y a.Kids.length z) _ _ (c.mono mg.mono b.lL) a3) (fun o b => V (mh (cB i) rfl) ?_)))
    obtain rfl := sj j
    exact B _ _ ⟨_, (b.lF (Db St)), Q, rfl⟩
   refine un i (un i (V (mi (cB i) rfl) ?_))
   obtain rfl := sj j
   exact B _ _ ⟨_, (b.lF (Db St)), Q, rfl⟩
  refine bC u (fun g u => ?_) (fun g u => ?_)
  ·refine ug g (lP a4) (ug g (mP rfl rfl rfl) (V (mh (cB g) rfl) ?_))
   obtain rfl := sj u
   exact D _ _ ⟨_, (b.lF St), M, N, rfl⟩
  refine un g (un g (V (mi (cB g) rfl) ?_))
  obtain rfl := sj u
  exact D _ _ ⟨_, (b.lF St), M, N, rfl⟩
 refine bC x (fun t x => ?_) (fun t x => ?_)
 ·refine ug t (lP rfl) (ug t (mP rfl rfl rfl) (V (mh (cB t) rfl) ?_))
  obtain rfl := sj x
  exact G _ _ ⟨_, (b.lF St), rfl, rfl, rfl, rfl⟩
 refine un t (un t (V (mi (cB t) rfl) ?_))
 obtain rfl := sj x
 exact G _ _ ⟨_, (b.lF St), rfl, rfl, rfl, rfl⟩
theorem BL (g : Value) (i r : List lD) (w : World) (a : Sl (Pl lE) 9 (hp w) g i) (hm : sn i = some r) :
  nq true pg0 61 [g] w 52 lE 9 r := by
 unfold sn at hm
 refine uk 8 func61 rfl (fun b => sg (Wa (lS (Wm ?_))))
 obtain ⟨y, B, rfl⟩ := a.form
 refine V (Bc aK rfl rfl) (ln ?_)
 rcases y with _ | z
 ·have u := a.isNil
  replace hm : some [] = some r := by rw [u] at hm; simpa [oH, maxLen] using hm
  refine vX (rfl) (sg (Wa (lt (mL ?_))))
  obtain rfl := sj hm
  exact nc (v := (.slice none 0 0)) rfl rfl ⟨_, [], rfl, b.oa (fun p d => by cases d) (by simp), mw.nil _ _ _⟩
 ·refine qx (rfl) (kg (VE (mH (cs := #[]) b sM (Bf [] aK aJ cL dc rfl (by simp) rfl rfl) (fun G k b => Wm (bS hm fun H t hm => VE (oK (enc := lE) (v := (.slice (some ⟨k, 0, none⟩) 0 0)) (vs := (.slice (some z) i.length B)) (R := [(k, Ob #[] 52)]) b nl dc pc aK oA.1 oA.2.1 rfl oA.2.2.1 oA.2.2.2 rfl rfl (mw.lit (l := []) (enc := lE) rfl dc rfl rfl) (a.mono (Pl.mono _) b.lL) t (fun D x j b c => Wa (lt ?_))))))))
  obtain rfl := sj hm
  exact nc (v := x) rfl rfl ⟨_, j, rfl, b.oa (fun p d => (Ml d)) c.nd, c⟩
theorem Ai (g : Value) (t : List lD) (j : Value) (B : lD → Option Bool) (r : Int) (w : World) (c : Sl (Pl lE) 9 (hp w) g t) (D : Al pg0 j (hp w) (fun (x : lD) => [(.agg (lE x).toArray)]) (fun (r : Bool) => (.bool r)) B) (hm : sb t B = some r) :
  mo false pg0 145 [g, j] w (.int .i64 r) := by
 refine cG 19 func145 rfl (fun b => sg (Wa (lS (Wm (V (mV aK rfl c) (Wm (ln (mM (fun i E W => ∃ k, (E 8 = .int .i64 (i : Nat) ∧ E 7 = .int .i64 (t.length : Nat)) ∧ ST false mD w W (hp w) k ∧ E 0 = g ∧ E 1 = j ∧ qQ B (t.drop i) i = some r) t.length c.len ⟨_, ⟨rfl, rfl⟩, (b.lF St), rfl, rfl, hm⟩ dc dc dc (fun _ _ _ h => by obtain ⟨_, l, _⟩ := h; exact l) ?_ ?_))))))))
 ·rintro Q E W H ⟨k, ⟨d, m⟩, b, u, y, a⟩
  obtain ⟨z, T, M, K, N⟩ := mE H
  rw [M] at a
  refine bg (Wh d (Wa (lr (Wh y (Wh u (Wm (VQ (og (enc := lE) (i := (Q : Int)) (x0 := z) aK aJ rfl rfl c (aF _) K) (fun Y I => V (lJ rfl (mr b.has I bD aJ)) (bS a fun Z J a => ?_)))))))))
  refine VE (NP z b D (mx.refl _) rfl (vc rfl) J (fun U b => ln (CI a rfl (fun G a => ?_) (fun G a => ?_))))
  ·refine sg (Wm (Wa (lt (nY (mL (nY (mL ?_)))))))
   obtain rfl := sj a
   exact rP b
  exact nf (mJ (lU ⟨d, _, ⟨rfl, m⟩, (b.lF St), u, y, (by rw [N]; exact a)⟩))
 rintro E W ⟨k, ⟨d, m⟩, b, u, y, a⟩
 rw [aI] at a
 exact lU (sg (Wa (lt (rQ a b))))
theorem ud (j : Value) (a0 : List lD) (t : LO) (H : Value) (f1 : lD → Option Bool) (r : List lD) (w : World) {μ0 : mN} (h0 : pC μ0 (t ++ []) w) (T : mw 52 lE 9 j a0 t) (a4 : Al pg0 H μ0 (fun (x : lD) => [(.agg (lE x).toArray)]) (fun (r : Bool) => (.bool r)) f1) (hm : pE a0 f1 = some r) :
  nJ false pg0 111 [j, H] w (t ++ []) (fun v L1 W' => ∃ q S2, v = q ∧ L1 = (S2 ++ []) ∧ mw 52 lE 9 q r S2) := by
 refine Bo h0 42 func111 rfl (fun d => sg (Wa (lr (Wm (Wm (bS hm fun n d3 hm => VE (Eg d call145 (Ai j a0 H f1 _ _ (T.sl nl (fun b o h => d.at_ (Ml h))) (a4.mono d.lL) d3) (fun W3 d => Wa (ln ?_)))))))))
 refine mf (sg (Wm (Wi rfl (ln (CI hm rfl (fun d2 hm => ?_) (fun d2 hm => ?_))))))
 ·refine sg (Wm (Wa (lt (mL ?_))))
  obtain rfl := sj hm
  exact nc (v := j) rfl rfl ⟨_, _, rfl, (d.ov (Kr Sn)), j, t, rfl, rfl, T⟩
 refine kS (Wm (Wi rfl (Wa (ln (nL (pn (fun m E W => ∃ U I B D a2, ST false (keys (t ++ [])) w W μ0 (I ++ a2) ∧ E 0 = j ∧ E 1 = H ∧ E 5 = (.int .i64 B) ∧ E 6 = (.int .i64 D) ∧ mw 52 lE 9 j U I ∧ pH f1 m U B D = some r) mR ⟨a0, t, n, (wi0 .i64 (n + 1)), _, (d.lF St), rfl, rfl, rfl, rfl, T, hm⟩ ?_))))))
 rintro m E W ⟨U, I, B, D, a2, d, y, Q, G, K, g, a⟩
 cases m with
 | zero => rw [pH] at a; cases a
 | succ c8 =>
  refine mf (sg (Wh K (Wh y (V (oZ aK rfl g) (Wi rfl (ln (CI a rfl (fun A a => ?_) (fun A a => ?_))))))))
  ·refine kn (mf (CJ a (fun Y E W => ∃ J a3, ST false (keys (t ++ [])) w W μ0 (J ++ a3) ∧ E 0 = j ∧ E 1 = H ∧ E 5 = (.int .i64 Y.2) ∧ E 6 = (.int .i64 D) ∧ mw 52 lE 9 j Y.1 J) (fun Y c => ?_) ?_))
   ·refine bg (Wh y (Wh K (bS c fun k M c => VQ (oS (i := D) (x0 := k) aK aJ rfl rfl g (mF M) (mA M)) (fun e4 O => V (lJ rfl (qp d.has (fun p h => (Ml h)) g nl O (mA M) bD aJ)) (VE (my d cL (fun d7 e2 d => VO (mj (.agg (lE k).toArray) ((lE k).toArray) d rfl rfl aJ (pc k) nb rfl (fun d8 d => lr (Wh Q ?_))))))))))
    refine VA d Mh (lE k) bD aJ (bS c fun e6 R c => VE (NP k d a4 (mx.refl _) rfl (vc rfl) R (fun d9 d => V (oy rfl) (ln (CI c rfl (fun F c => ?_) (fun F c => ?_))))))
    ·refine sg (Wh y (Wh G (VA d Mh (lE k) bD aJ (bS c fun d0 N c => VQ (oS (i := B) (x0 := d0) aK aJ rfl rfl g (mF N) (mA N)) (fun e5 P => ?_)))))
     replace d := d.perm (Nr (Qb Qz) Nz)
     refine VO (Bj (u := (.agg (lE k).toArray)) (x1 := k)  d g nl pc rfl rfl rfl P (mA N) aJ (fun e0 c1 d s => ln ?_))
     replace d := d.lF (Kr (Db St))
     refine ma (Wh G (Wi rfl (Wa (mz (mJ (lU ?_))))))
     obtain rfl := sj c
     exact ⟨c1, _, (d.lF St), y, Q, rfl, K, s⟩
    refine nf (mJ (lU ?_))
    obtain rfl := sj c
    exact ⟨I, _, (d.lF (Db St)), y, Q, G, K, g⟩
   rintro ⟨c7, c9⟩ E W ⟨J, a3, d, c3, c4, c5, c6, b6⟩ L
   exact ma (Wh c6 (Wi rfl (Wa (ln ⟨c8, bF _, c7, J, c9, (wi0 .i64 (D + 1)), _, (d.lF St), c3, c4, c5, rfl, b6, L⟩))))
  refine pk (oR (oR (tE (lU (sg (Wh y (Wh G (bS a fun _ Z a => VQ (xG (i := B) aK aJ rfl rfl g (ue Z) (tL Z)) (fun e7 b7 => VO (AG (z := Tq)  d g nl pc aK cL b7 rfl rfl (fun e1 c2 d a9 => lr (Wh y ?_))))))))))))
  refine Wh G (bS a fun _ l a => VQ (xn (i := B) aK aJ rfl rfl a9 nl (ue l) (tL l)) (fun a5 b9 => Wa (lt ?_)))
  obtain rfl := sj a
  exact nc (v := a5) rfl rfl ⟨_, _, rfl, (d.ov (Kr Sn)), a5, c2, rfl, rfl, b9⟩
theorem Vw (w : World) (a b : ByteArray) : (callFunc 296 [Value.string a, .string b].toArray).run pg0 w = .ok (.value (.int .i64 (rJ a b))) w := RU func296 (by kernel_rfl) (by kernel_rfl) (by kernel_rfl) (by kernel_rfl) a b w
theorem AY (a c : ByteArray) (r : Int) (w : World) (hm : pF a c = some r) :
  mo true pg0 260 [(.string a), (.string c)] w (.int .i64 r) := by
 exact cG 8 func260 rfl (fun b => sg (Wa (lr (Wm (Wm (VE (PM (args := [(.string a), (.string c)]) (v := .int .i64 (rJ a c)) rfl (by exact yA rfl rfl) (Vw _ a c) (Wa (lt (rQ hm b))))))))))
theorem Dg (a c : ByteArray) (r : Int) (w : World) (hm : sc a c = some r) :
  mo true pg0 210 [(.string a), (.string c)] w (.int .i64 r) := by
 refine cG 8 func210 rfl (fun b => sg (Wa (lr (Wm (Wm (bS hm fun j g hm => VE (Eg b call260 (AY a c _ _  g) (fun i b => Wa (ln ?_)))))))))
 exact mu (rQ hm b)
theorem ND (g : Value) (t : List Int) (r : Int) (w : World) (c : Sl (Pl (ns .i64)) 1 (hp w) g t) (hm : xV t = some r) :
  mo true pg0 209 [g] w (.int .i64 r) := by
 refine cG 18 func209 rfl (fun b => sg (Wa (lr (Wa (lS (Wm ?_))))))
 refine V (mV underlying162 rfl c) (Wm (ln (mM (fun i E W => ∃ k, (E 8 = .int .i64 (i : Nat) ∧ E 7 = .int .i64 (t.length : Nat)) ∧ ST true mD w W (hp w) k ∧ E 3 = (.int .i64 0) ∧ E 6 = g ∧ vy (t.drop i) = some r) t.length c.len ⟨_, ⟨rfl, rfl⟩, (b.lF St), rfl, rfl, hm⟩ dc dc dc (fun _ _ _ h => by obtain ⟨_, l, _⟩ := h; exact l) ?_ ?_)))
 ·rintro J E W B ⟨k, ⟨d, m⟩, b, j, u, a⟩
  obtain ⟨x, K, H, G, I⟩ := mE B
  rw [H] at a
  refine bg (VQ (og (enc := (ns .i64)) (i := (J : Int)) (x0 := x) underlying162 jq u d c (aF _) G) (fun M D => V (lJ rfl (po b.has (y := (.int .i64 x)) D cH)) (Wa (lr (Wm (Wh j (Wi rfl (ln ?_))))))))
  refine CI a rfl (fun z a => ?_) (fun z a => ?_)
  ·refine sg (Wm (Wa (lt (nY (mL (nY (mL ?_)))))))
   obtain rfl := sj a
   exact rP b
  exact nf (mJ (lU ⟨d, _, ⟨rfl, m⟩, (b.lF St), j, u, (by rw [I]; exact a)⟩))
 rintro E W ⟨k, ⟨d, m⟩, b, j, u, a⟩
 rw [aI] at a
 exact lU (sg (Wh j (Wa (lt (rQ a b)))))
theorem BR (g i : lC) (r : Int) (w : World) (hm : pQ g i = some r) :
  mo true pg0 155 [(.agg (lG g).toArray), (.agg (lG i).toArray)] w (.int .i64 r) := by
 refine cG 17 func155 rfl (fun b => sg (VE (mG b rfl (fun G I b => VE (mG b rfl (fun H J b => Wa (ln (mf ?_))))))))
 replace b := b.drew
 have d := b.has.lF (Kb (Kb Sn))
 refine mT d mB (X 0 rfl d (lO rn rfl) (XH 1 rfl d (fun _ h => lJ rfl (lX h (Mt Mh) rfl bO)) (X 2 rfl d (lO rn rfl) (XH 3 rfl d (fun _ h => lJ rfl (lX h Mh rfl bO)) (X 5 rfl d (lO vS rfl) (XH 6 rfl d (fun _ h => lJ rfl (lX h (Mt Mh) rfl bO)) (X 7 rfl d (lO vS rfl) (XH 8 rfl d (fun _ h => lJ rfl (lX h Mh rfl bO)) (bS hm fun a j hm => XE 4 rfl (Eg b call210 (Dg g.lK i.lK _ _  j) (fun x b => ?_)))))))))))
 have d := b.has.lF (Kb (Kb Sn))
 refine ⟨d, (bS hm fun c k hm => XE 9 rfl (Eg b call210 (Dg g.lN i.lN _ _  k) (fun y b => ?_)))⟩
 have d := b.has.lF (Kb (Kb Sn))
 refine ⟨d, (XE 10 rfl (mH (cs := #[(.int .i64 a), (.int .i64 c)]) b (qV rfl rfl) (ot underlying162 jq zeroValue3) (fun z u b => ?_)))⟩
 have d := b.has.lF (Db (Kb (Kb Sn)))
 refine ⟨d, (bS hm fun D t hm => XE 11 rfl (Eg b call209 (ND (.slice (some ⟨u, 0, none⟩) 2 2) ([a, c]) _ _ (Sl.lit (enc := (ns .i64)) (l := [a, c]) (fun _ => rfl) rfl nb rfl (b.at_ Mh)) t) (fun B b => ?_)))⟩
 have d := b.has.lF (Db (Kb (Kb Sn)))
 refine ⟨d, (X 12 rfl d (oD rfl) (nh kr (lU ?_)))⟩
 exact mu (rQ hm b)
set_option maxHeartbeats 1000000 in
theorem BD (a : lD) (r : Bool) (w : World) (hm : wL a = some r) :
  mo true pg0 113 [(.agg (lE a).toArray)] w (.bool r) := by
 let m9 := (⟨a.Kind, a.Head, zS, a.B, a.C, zS⟩ : lD)
 let j2 := (⟨a.Kind, a.Head, zS, a.B, K0, a.mQ⟩ : lD)
 let j1 : Value := (.agg (lG a.B).toArray)
 let g6 := ((lE (⟨a.Kind, a.Head, zS, a.B, K0, zS⟩ : lD)).toArray)
 let o := (⟨a.Kind, a.Head, zS, K0, K0, zS⟩ : lD)
 refine cG 98 func113 rfl (fun b => sg (VE (mG b rfl (fun W2 N b => Wa (lr (Wf sx (VB b Mh rfl rfl cH (Wf sD (VA b Mh (lG a.Head) aT aG (V (nW (v := (.agg (lE o).toArray)) (qV rfl rfl) (nw cL dR (SZ _ dR) kr)) (VE (my b cL (fun W4 B b => ?_)))))))))))))
 refine VO (mj (.agg (lE o).toArray) ((lE o).toArray) b rfl rfl aJ (pc o) nb rfl (fun W5 b => lr (Wf sD (VA b (Mt Mh) (lG a.Head) aT aG (bS hm fun n j4 hm => VE (Eg b kT (tZ a.Head _ _  j4) (fun W8 b => Wa (ln (mf (VJ hm (fun A E W => ∃ R, ST true mD w W (hp w) ((B, Ol (lE A.2) 52) :: ((N, Ol (lE a) 52) :: R)) ∧ E 1 = (.pointer (some ⟨N, 0, none⟩)) ∧ E 3 = (.pointer (some ⟨B, 0, none⟩)) ∧ E 4 = (.bool A.1)) (fun A g Z => ?_) ?_))))))))))
 ·let g5 := ((lE m9).toArray : Array Value)
  let b8 := ((lE j2).toArray : Array Value)
  let m : Value := (.pointer (some ⟨B, 0, none⟩))
  let l : Value := (.pointer (some ⟨N, 0, none⟩))
  let a0 := ((lE a).toArray : Array Value)
  refine sg (Wf sx (VB b (Mt Mh) rfl rfl cH (ln (bg (Wi rfl (Wa (ln (CI g rfl (fun e5 g => ?_) (fun e5 g => ?_)))))))))
  ·replace b := b.drew
   have d := b.has.lF (Db (Kb Sn))
   refine mT d mB (X 0 rfl d (lO zz rfl) (XH 1 rfl d (fun _ h => lJ rfl (lX h Mh rfl bO)) (X 2 rfl d (lP rfl) (X 3 rfl d (lP rfl) (X 8 rfl d (lO zz rfl) (PJ g (fun d6 E W => ∃ b9, ST true mD w W (hp w) ((B, Ol (lE o) 52) :: ((N, Obj.cells a0 52 (0, 0)) :: b9)) ∧ E 1 = l ∧ E 3 = m ∧ E 4 = (.bool n) ∧ E 18 = (.string a.mX) ∧ E 24 = (.bool d6) ∧ E 25 = (.pointer (some ⟨B, 3, none⟩))) (bm 11 511) 2 ?_ (fun d6 D a2 => ?_)))))))
   ·rintro m1 E W ⟨b9, b, h2, h3, k8, h4, h5, h6⟩ f1
    refine XO 9 rfl (mj (.string a.mX) ((lE (⟨a.Kind, a.Head, a.mX, K0, K0, zS⟩ : lD)).toArray) b h6 h4 gK (PT a.mX) nb rfl (fun j5 b => ?_))
    have d := b.has.lF (Db (Kb Sn))
    refine ⟨d, (X 10 rfl d (oD h5) (nh kr (mJ (lU ?_))))⟩
    obtain rfl := sj f1
    exact ⟨_, rfl, _, (b.lF St), h2, h3, rfl⟩
   refine bC D (fun k D => ?_) (fun k D => ?_)
   ·refine Xg 4 rfl rfl (cB k) d (lO zz rfl) (rz 5 rfl rfl (cB k) d (fun _ h => lJ rfl (lX h Mh rfl bO)) (bS D fun l2 f9 D => zG 6 rfl rfl (cB k) (Eg b call57 (vj a.mX _ _  f9) (fun j6 b => ?_))))
    have d := b.has.lF (Db (Kb Sn))
    refine ⟨d, (X 7 rfl d (mh (cB k) rfl) ?_)⟩
    obtain rfl := sj D
    refine nu kr (a2 _ _ ⟨_, (b.lF St), rfl, rfl, rfl, rfl, rfl, rfl⟩)
   refine Xn 4 rfl rfl (cB k) d (Xn 5 rfl rfl (cB k) d (Xn 6 rfl rfl (cB k) d (X 7 rfl d (mi (cB k) rfl) ?_)))
   obtain rfl := sj D
   refine nu kr (a2 _ _ ⟨_, (b.lF St), rfl, rfl, rfl, rfl, rfl, rfl⟩)
  refine sg (Wi rfl (Wa (ln (CI g rfl (fun e6 g => ?_) (fun e6 g => ?_)))))
  ·replace b := b.drew
   have d := b.has.lF (Db (Kb Sn))
   refine mT d mB (X 0 rfl d (lO pK rfl) (XH 1 rfl d (fun _ h => lJ rfl (lQ h Mh (lG a.B) rfl aT aG)) (X 2 rfl d (lP rfl) (X 3 rfl d (lP rfl) (X 8 rfl d (lO pK rfl) (PJ g (fun d7 E W => ∃ c0, ST true mD w W (hp w) ((B, Ol (lE o) 52) :: ((N, Obj.cells a0 52 (0, 0)) :: c0)) ∧ E 1 = l ∧ E 3 = m ∧ E 4 = (.bool n) ∧ E 29 = j1 ∧ E 35 = (.bool d7) ∧ E 36 = (.pointer (some ⟨B, 4, none⟩))) (bm 11 511) 2 ?_ (fun d7 G a3 => ?_)))))))
   ·rintro m2 E W ⟨c0, b, h7, h8, k9, h9, i0, i1⟩ f2
    refine XO 9 rfl (mj j1 g6 b i1 h9 aG (pJ a.B) nb rfl (fun j7 b => ?_))
    have d := b.has.lF (Db (Kb Sn))
    refine ⟨d, (X 10 rfl d (oD i0) (nh kr (mJ (lU ?_))))⟩
    obtain rfl := sj f2
    exact ⟨_, rfl, _, (b.lF St), h7, h8, rfl⟩
   refine bC G (fun t G => ?_) (fun t G => ?_)
   ·refine Xg 4 rfl rfl (cB t) d (lO pK rfl) (rz 5 rfl rfl (cB t) d (fun _ h => lJ rfl (lQ h Mh (lG a.B) rfl aT aG)) (bS G fun l3 g0 G => zG 6 rfl rfl (cB t) (Eg b kT (tZ a.B _ _  g0) (fun j8 b => ?_))))
    have d := b.has.lF (Db (Kb Sn))
    refine ⟨d, (X 7 rfl d (mh (cB t) rfl) ?_)⟩
    obtain rfl := sj G
    refine nu kr (a3 _ _ ⟨_, (b.lF St), rfl, rfl, rfl, rfl, rfl, rfl⟩)
   refine Xn 4 rfl rfl (cB t) d (Xn 5 rfl rfl (cB t) d (Xn 6 rfl rfl (cB t) d (X 7 rfl d (mi (cB t) rfl) ?_)))
   obtain rfl := sj G
   refine nu kr (a3 _ _ ⟨_, (b.lF St), rfl, rfl, rfl, rfl, rfl, rfl⟩)
  refine sg (Wi rfl (Wa (ln (CI g rfl (fun e7 g => ?_) (fun e7 g => ?_)))))
  ·refine mf ?_
   replace b := b.drew
   have d := b.has.lF (Db (Kb Sn))
   refine mT d mB (X 0 rfl d (lO pK rfl) (XH 1 rfl d (fun _ h => lJ rfl (lQ h Mh (lG a.B) rfl aT aG)) (X 2 rfl d (lO wK rfl) (XH 3 rfl d (fun _ h => lJ rfl (lX h Mh rfl bO)) (X 4 rfl d (lO pK rfl) (XO 5 rfl (mj j1 g6 b rfl rfl aG (pJ a.B) nb rfl (fun j9 b => ?_))))))))
   have d := b.has.lF (Db (Kb Sn))
   refine ⟨d, (X 6 rfl d (lO wK rfl) (XO 7 rfl (mj (.string a.mQ) ((lE j2).toArray) b rfl rfl gK (PT a.mQ) nb rfl (fun k0 b => ?_))))⟩
   have d := b.has.lF (Db (Kb Sn))
   refine ⟨d, (nh kr (lU (ma (Wm (Wm (LJ g (fun e0 E W => ∃ c1, ST true mD w W (hp w) ((B, Obj.cells b8 52 (0, 0)) :: ((N, Obj.cells a0 52 (0, 0)) :: c1)) ∧ E 1 = l ∧ E 3 = m ∧ E 4 = (.bool n) ∧ E 50 = (.bool e0)) 4 ?_ (fun e0 I L => ?_)))))))⟩
   ·rintro m3 E W ⟨c1, b, U, c7, c8, i2⟩ f3
    refine Wh i2 (LJ f3 (fun d9 E W => ∃ c2, ST true mD w W (hp w) ((B, Obj.cells b8 52 (0, 0)) :: ((N, Obj.cells a0 52 (0, 0)) :: c2)) ∧ E 1 = l ∧ E 3 = m ∧ E 4 = (.bool n) ∧ E 59 = (.bool d9)) 8 ?_ (fun d9 T a5 => ?_))
    ·rintro m4 E W ⟨c2, b, q, c9, d0, i3⟩ f4
     refine Wh i3 (LJ f4 (fun d8 E W => ∃ c3, ST true mD w W (hp w) ((B, Obj.cells b8 52 (0, 0)) :: ((N, Obj.cells a0 52 (0, 0)) :: c3)) ∧ E 1 = l ∧ E 3 = m ∧ E 4 = (.bool n) ∧ E 64 = (.bool d8)) 4 ?_ (fun d8 H a4 => ?_))
     ·rintro m5 E W ⟨c3, b, i4, i5, l0, i6⟩ f5
      refine Wg i6 (mz (mJ (lU ?_)))
      obtain rfl := sj f5
      exact ⟨_, rfl, _, (b.lF St), i4, i5, rfl⟩
     refine bC H (fun x H => ?_) (fun x H => ?_)
     ·refine ug x (lO wK q) (ug x (lJ rfl (lX b.has (Mt Mh) rfl bO)) (bS H fun l4 g1 H => sa x (Eg b call57 (vj a.mQ _ _  g1) (fun k1 b => V (mh (cB x) rfl) ?_))))
      obtain rfl := sj H
      exact a4 _ _ ⟨_, (b.lF St), q, c9, d0, rfl⟩
     refine un x (un x (un x (V (mi (cB x) rfl) ?_)))
     obtain rfl := sj H
     exact a4 _ _ ⟨_, (b.lF St), q, c9, d0, rfl⟩
    refine bC T (fun c T => ?_) (fun c T => ?_)
    ·refine ug c (lO pK U) (ug c (lO rn rfl) (ug c (lJ rfl (lX b.has (Mt Mh) rfl bO)) (ug c (lO sD U) (ug c (lO rn rfl) (ug c (lJ rfl (lX b.has (Mt Mh) rfl bO)) (ug c (ux rfl rfl rfl) (V (mh (cB c) rfl) ?_)))))))
     obtain rfl := sj T
     exact a5 _ _ ⟨_, (b.lF St), U, c7, c8, rfl⟩
    refine un c (un c (un c (un c (un c (un c (un c (V (mi (cB c) rfl) ?_)))))))
    obtain rfl := sj T
    exact a5 _ _ ⟨_, (b.lF St), U, c7, c8, rfl⟩
   refine bC I (fun u I => ?_) (fun u I => ?_)
   ·refine ug u (lO pK rfl) (ug u (lJ rfl (lQ b.has (Mt Mh) (lG a.B) rfl aT aG)) (bS I fun l5 g2 I => sa u (Eg b kT (tZ a.B _ _  g2) (fun k2 b => V (mh (cB u) rfl) ?_))))
    obtain rfl := sj I
    exact L _ _ ⟨_, (b.lF St), rfl, rfl, rfl, rfl⟩
   refine un u (un u (un u (V (mi (cB u) rfl) ?_)))
   obtain rfl := sj I
   exact L _ _ ⟨_, (b.lF St), rfl, rfl, rfl, rfl⟩
  refine sg (Wi rfl (Wa (ln (CI g rfl (fun e8 g => ?_) (fun e8 g => ?_)))))
  ·refine mf ?_
   replace b := b.drew
   have d := b.has.lF (Db (Kb Sn))
   refine mT d mB (X 0 rfl d (lO pK rfl) (XH 1 rfl d (fun _ h => lJ rfl (lQ h Mh (lG a.B) rfl aT aG)) (X 2 rfl d (lO vk rfl) (XH 3 rfl d (fun _ h => lJ rfl (lQ h Mh (lG a.C) rfl aT aG)) (X 4 rfl d (lO pK rfl) (XO 5 rfl (mj j1 g6 b rfl rfl aG (pJ a.B) nb rfl (fun k3 b => ?_))))))))
   have d := b.has.lF (Db (Kb Sn))
   refine ⟨d, (X 6 rfl d (lO vk rfl) (XO 7 rfl (mj (.agg (lG a.C).toArray) ((lE m9).toArray) b rfl rfl aG (pJ a.C) nb rfl (fun k4 b => ?_))))⟩
   have d := b.has.lF (Db (Kb Sn))
   refine ⟨d, (nh kr (lU (ma (Wm (Wm (LJ g (fun e3 E W => ∃ c4, ST true mD w W (hp w) ((B, Obj.cells g5 52 (0, 0)) :: ((N, Obj.cells a0 52 (0, 0)) :: c4)) ∧ E 1 = l ∧ E 3 = m ∧ E 4 = (.bool n) ∧ E 78 = (.bool e3)) 4 ?_ (fun e3 M a9 => ?_)))))))⟩
   ·rintro m6 E W ⟨c4, b, s, d1, d2, i7⟩ f6
    refine Wh i7 (LJ f6 (fun e2 E W => ∃ c5, ST true mD w W (hp w) ((B, Obj.cells g5 52 (0, 0)) :: ((N, Obj.cells a0 52 (0, 0)) :: c5)) ∧ E 1 = l ∧ E 3 = m ∧ E 4 = (.bool n) ∧ E 83 = (.bool e2)) 4 ?_ (fun e2 K P => ?_))
    ·rintro m7 E W ⟨c5, b, Y, d3, d4, i8⟩ f7
     refine Wh i8 (LJ f7 (fun e1 E W => ∃ c6, ST true mD w W (hp w) ((B, Obj.cells g5 52 (0, 0)) :: ((N, Obj.cells a0 52 (0, 0)) :: c6)) ∧ E 1 = l ∧ E 3 = m ∧ E 4 = (.bool n) ∧ E 91 = (.bool e1)) 7 ?_ (fun e1 J O => ?_))
     ·rintro m8 E W ⟨c6, b, i9, j0, l1, j3⟩ f8
      refine Wg j3 (mz (mJ (lU ?_)))
      obtain rfl := sj f8
      exact ⟨_, rfl, _, (b.lF St), i9, j0, rfl⟩
     refine bC J (fun i J => ?_) (fun i J => ?_)
     ·refine ug i (lO pK Y) (ug i (lJ rfl (lQ b.has (Mt Mh) (lG a.B) rfl aT aG)) (ug i (lO vk Y) (ug i (lJ rfl (lQ b.has (Mt Mh) (lG a.C) rfl aT aG)) (bS J fun l6 g3 J => sa i (Eg b call155 (BR a.B a.C _ _  g3) (fun k5 b => ug i (mP rfl rfl rfl) (V (mh (cB i) rfl) ?_)))))))
      obtain rfl := sj J
      exact O _ _ ⟨_, (b.lF St), Y, d3, d4, rfl⟩
     refine un i (un i (un i (un i (un i (un i (V (mi (cB i) rfl) ?_))))))
     obtain rfl := sj J
     exact O _ _ ⟨_, (b.lF St), Y, d3, d4, rfl⟩
    refine bC K (fun z K => ?_) (fun z K => ?_)
    ·refine ug z (lO vk s) (ug z (lJ rfl (lQ b.has (Mt Mh) (lG a.C) rfl aT aG)) (bS K fun l7 g4 K => sa z (Eg b kT (tZ a.C _ _  g4) (fun k6 b => V (mh (cB z) rfl) ?_))))
     obtain rfl := sj K
     exact P _ _ ⟨_, (b.lF St), s, d1, d2, rfl⟩
    refine un z (un z (un z (V (mi (cB z) rfl) ?_)))
    obtain rfl := sj K
    exact P _ _ ⟨_, (b.lF St), s, d1, d2, rfl⟩
   refine bC M (fun y M => ?_) (fun y M => ?_)
   ·refine ug y (lO pK rfl) (ug y (lJ rfl (lQ b.has (Mt Mh) (lG a.B) rfl aT aG)) (bS M fun l8 g7 M => sa y (Eg b kT (tZ a.B _ _  g7) (fun k7 b => V (mh (cB y) rfl) ?_))))
    obtain rfl := sj M
    exact a9 _ _ ⟨_, (b.lF St), rfl, rfl, rfl, rfl⟩
   refine un y (un y (un y (V (mi (cB y) rfl) ?_)))
   obtain rfl := sj M
   exact a9 _ _ ⟨_, (b.lF St), rfl, rfl, rfl, rfl⟩
  refine sg (Wa (ln ?_))
  replace b := b.lF (Db (Db St))
  refine mu (nY (mL ?_))
  obtain rfl := sj g
  replace Z : some false = some r := Z
  obtain rfl := sj Z
  exact rP b
 rintro ⟨l9, e4⟩ E W ⟨R, b, g8, g9, h0⟩ e9
 refine sg (Wh h0 (Wm (LJ e9 (fun d5 E W => ∃ b7, ST true mD w W (hp w) b7 ∧ E 97 = (.bool d5)) 4 ?_ (fun d5 Q F => ?_))))
 ·rintro m0 E W ⟨b7, b, h1⟩ f0
  exact Wg h1 (lt (rQ f0 b))
 refine bC Q (fun j Q => ?_) (fun j Q => ?_)
 ·refine ug j (lJ g9 (lQ b.has Mh (lE e4) rfl bD aJ)) (ug j (lJ g8 (lQ b.has (Mt Mh) (lE a) rfl bD aJ)) (ug j (vx rfl rfl (oI fN) (rA (wP _ e4 a))) (V (mh (cB j) rfl) ?_)))
  obtain rfl := sj Q
  exact F _ _ ⟨_, (b.lF (Db (Db St))), rfl⟩
 refine un j (un j (un j (V (mi (cB j) rfl) ?_)))
 obtain rfl := sj Q
 exact F _ _ ⟨_, (b.lF (Db (Db St))), rfl⟩
theorem L5 (a : lD) (r : Bool) (w : World) (hm : AL a = some r) :
  mo true pg0 112 [(.agg (lE a).toArray)] w (.bool r) := by
 refine cG 6 func112 rfl (fun b => sg (VE (mG b rfl (fun g j b => Wa (lr (VA b Mh (lE a) bD aJ (bS hm fun k c hm => VE (Eg b call113 (BD a _ _  c) (fun i b => V (oy rfl) (Wa (mz ?_)))))))))))
 refine lU ?_
 exact mu (rQ hm b)
theorem P4 (c : Value) (k : List lD) (a : LO) (g : Value) (t : (lD × lD) → Option Int) (r : List lD) (w : World) {y : mN} (u : pC y (a ++ []) w) (i : mw 52 lE 9 c k a) (j : Vt pg0 g y (fun (x : (lD × lD)) => [(.agg (lE x.1).toArray), (.agg (lE x.2).toArray)]) (fun (r : Int) => (.int .i64 r)) t) (hm : AT t k = some r) :
  nJ true pg0 114 [c, g] w (a ++ []) (fun v z W' => ∃ S, v = (.tuple #[]) ∧ z = (S ++ []) ∧ mw 52 lE 9 c r S) := IE (P := pg0) (ρ := QB) UG 9 bD aJ lE nl pc u.H u.S i j hm
theorem uB (t : Nat) (j : Value) (G : List Int) (i : LO) (h : Int) (r : (Bool × (List Int))) (w : World) {μ0 : mN} (A : pC μ0 ((t, Ob #[j] 239) :: (i ++ [])) w) (y : mw 5 (ns .u8) 1 j G i) (hm : qi G h = some r) :
  nJ true pg0 181 [(.pointer (some ⟨t, 0, none⟩)), (.int .i64 h)] w ((t, Ob #[j] 239) :: (i ++ [])) (fun v L1 W' => ∃ n S2, v = (.bool (r.1)) ∧ L1 = ((t, Ob #[n] 239) :: (S2 ++ [])) ∧ mw 5 (ns .u8) 1 n r.2 S2) := by
 refine Bo A 38 func181 rfl (fun d => sg (Wa (lS (Wm (V (uc ja rfl rfl) (Wm (Vg rfl rfl (lP rfl) (Vg rfl rfl (mP rfl rfl rfl) (V (mi rfl rfl) ?_)))))))))
 refine ln (CI hm rfl (fun a9 hm => ?_) (fun a9 hm => ?_))
 ·refine sg (Wa (lt (mL ?_)))
  obtain rfl := sj hm
  exact nc (v := (.bool false)) rfl rfl ⟨_, _, rfl, (d.ov (Kb (Kr Sn))), j, i, rfl, rfl, y⟩
 refine kn (mf (nL (pn (fun m E W => ∃ c z U u a0, ST true (keys ((t, Ob #[j] 239) :: (i ++ []))) w W μ0 ((t, Ob #[z] 239) :: (u ++ a0)) ∧ E 0 = (.pointer (some ⟨t, 0, none⟩)) ∧ E 1 = (.int .i64 c) ∧ mw 5 (ns .u8) 1 z U u ∧ sH m c U = some r) mR ⟨h, j, G, i, _, (d.lF St), rfl, rfl, y, hm⟩ ?_)))
 rintro m E W ⟨c, z, U, u, a0, d, x, K, T, g⟩
 cases m with
 | zero => rw [sH] at g; cases g
 | succ s =>
  refine mf (sg (Wh K (Wi rfl (ln (CI g rfl (fun o g => ?_) (fun o g => ?_))))))
  ·refine kn (mf (nL (ma (Wh x (Wh x (Wn (Wf BS (VB d Mh rfl rfl jZ (Wh K (V (ur (k' := .i64) (a := c) eK gT rfl) (V (MB (k := .u8) (a := (IntKind.u8.wrap c)) (b := 128) (v := (.int .u8 (IntKind.u8.wrap (BitVec.ofInt (IntKind.bits .u8) (IntKind.u8.wrap c) ||| BitVec.ofInt (IntKind.bits .u8) 128).toNat))) rfl rfl dc rfl) (VE (mH (cs := [(.int .u8 (IntKind.u8.wrap (BitVec.ofInt (IntKind.bits .u8) (IntKind.u8.wrap c) ||| BitVec.ofInt (IntKind.bits .u8) 128).toNat))].toArray) d (oE rfl) (ot cO lz kz) (fun c3 q d => ?_))))))))))))))
   replace d := d.perm (Nr (Qb (Qb Qz)) Nz)
   refine bS g fun Q Y g => VE (oK (enc := (ns .u8)) (v := z) (vs := (.slice (some ⟨q, 0, none⟩) 1 1)) (R := u) d (fun _ => rfl) dc (HO _) cO rC.1 rC.2.1 rfl rC.2.2.1 rC.2.2.2 rfl rfl T (Sl.lit (enc := (ns .u8)) (l := [(IntKind.u8.wrap (BitVec.ofInt (IntKind.bits .u8) (IntKind.u8.wrap c) ||| BitVec.ofInt (IntKind.bits .u8) 128).toNat)]) (fun _ => rfl) rfl nb rfl (d.at_ (Ma Mh))) Y (fun F c1 a2 d M => Wn (Wf BS ?_)))
   obtain ⟨B, H, rfl⟩ := M.form
   replace d := d.perm (Nb (Pr (Pb Pz)) Nz)
   refine VO (mj (.slice B Q.length H) (#[(.slice B Q.length H)]) d rfl rfl lx oc nb rfl (fun L d => mz (mJ (lU ?_))))
   replace d := d.lF (Kb (Kr (Db St)))
   exact ma (Wh K (V (Km (a := c) (b := 7) rfl rfl dc) (Wa (ln ⟨s, bF _, (Int.fdiv c (2 ^ min (Int.toNat 7) (IntKind.bits .i64))), (.slice B Q.length H), Q, a2, _, (d.lF St), x, rfl, M, g⟩))))
  refine pk (oR (oR (tE (lU (sg (Wh x (Wh x (Wn (Wf BS (VB d Mh rfl rfl jZ (Wh K (V (ur (k' := .i64) (a := c) eK gT rfl) (VE (mH (cs := [(.int .u8 (IntKind.u8.wrap c))].toArray) d (oE rfl) (ot cO lz kz) (fun O a5 d => ?_)))))))))))))))
  replace d := d.perm (Nr (Qb (Qb Qz)) Nz)
  refine bS g fun J Z g => VE (oK (enc := (ns .u8)) (v := z) (vs := (.slice (some ⟨a5, 0, none⟩) 1 1)) (R := u) d (fun _ => rfl) dc (HO _) cO rC.1 rC.2.1 rfl rC.2.2.1 rC.2.2.2 rfl rfl T (Sl.lit (enc := (ns .u8)) (l := [(IntKind.u8.wrap c)]) (fun _ => rfl) rfl nb rfl (d.at_ (Ma Mh))) Z (fun P c2 a3 d N => Wn (Wf BS ?_)))
  obtain ⟨D, I, rfl⟩ := N.form
  replace d := d.perm (Nb (Pr (Pb Pz)) Nz)
  refine VO (mj (.slice D J.length I) (#[(.slice D J.length I)]) d rfl rfl lx oc nb rfl (fun b9 d => ln ?_))
  replace d := d.lF (Kb (Kr (Db St)))
  refine sg (Wa (lt ?_))
  obtain rfl := sj g
  exact nc (v := (.bool true)) rfl rfl ⟨_, _, rfl, (d.ov (Kb (Kr Sn))), (.slice D J.length I), a3, rfl, rfl, N⟩
theorem Ie (g : Nat) (c : Value) (j : List Int) (a : LO) (u : Value) (D : List Int) (r : (Bool × (List Int))) (w : World) {Z : mN} (h : pC Z ((g, Ob #[c] 239) :: (a ++ [])) w) (i : mw 5 (ns .u8) 1 c j a) (k : Sl (Pl (ns .u8)) 1 Z u D) (hm : As j D = some r) :
  nJ true pg0 241 [(.pointer (some ⟨g, 0, none⟩)), u] w ((g, Ob #[c] 239) :: (a ++ [])) (fun v L1 W' => ∃ U M, v = (.bool (r.1)) ∧ L1 = ((g, Ob #[U] 239) :: (M ++ [])) ∧ mw 5 (ns .u8) 1 U r.2 M) := by
 refine Bo h 25 func241 rfl (fun b => sg (Wa (lS (Wm (V (uc ja rfl rfl) (Wm (Vg rfl rfl (lP rfl) (Vg rfl rfl (mV cO rfl k) (Vg rfl rfl (mP rfl rfl rfl) ?_)))))))))
 refine V (mi rfl rfl) (ln (CI hm rfl (fun Q hm => ?_) (fun Q hm => ?_)))
 ·refine sg (Wa (lt (mL ?_)))
  obtain rfl := sj hm
  exact nc (v := (.bool false)) rfl rfl ⟨_, _, rfl, (b.ov (Kb (Kr Sn))), c, a, rfl, rfl, i⟩
 refine kg (Wm (Wm (V (mV cO rfl k) (bS hm fun q T hm => ?_))))
 refine VE (eM b (Cb Pz (Cr Qz Cn)) call181 (fun l _ => (uB g c j a (D.length : Int) _ _ l i T)) ?_)
 rintro _ v8 n a3 b H m d ⟨Y, K, t, rfl, I⟩
 obtain rfl := t.symm
 replace b := b.perm (Tb (Tr Tn))
 refine lr (Wm (Wm (Wn (Wf BS (VB b Mh rfl rfl jZ (Wm ?_))))))
 replace b := b.perm (Nr (Qb Qz) Nz)
 refine bS hm fun B G hm => VE (oK (enc := (ns .u8)) (v := Y) (vs := u) (R := K) b (fun _ => rfl) dc (HO _) cO rC.1 rC.2.1 rfl rC.2.2.1 rC.2.2.2 rfl rfl I (k.mono (Pl.mono _) (H.trans b.lL)) G (fun a4 o J b z => Wn (Wf BS ?_)))
 obtain ⟨x, y, rfl⟩ := z.form
 replace b := b.perm (Nb (Pr Pz) Nz)
 refine VO (mj (.slice x B.length y) (#[(.slice x B.length y)]) b rfl rfl lx oc nb rfl (fun a5 b => lr (Wa (lt ?_))))
 obtain rfl := sj hm
 exact nc (v := (.bool true)) rfl rfl ⟨_, _, rfl, (b.ov (Kb (Kr Sn))), (.slice x B.length y), J, rfl, rfl, z⟩
theorem Bp (j : Nat) (c : Value) (t : List Int) (a : LO) (J : ByteArray) (r : (Bool × (List Int))) (w : World) {Z : mN} (A : pC Z ((j, Ob #[c] 239) :: (a ++ [])) w) (k : mw 5 (ns .u8) 1 c t a) (hm : wJ t J = some r) :
  nJ true pg0 183 [(.pointer (some ⟨j, 0, none⟩)), (.string J)] w ((j, Ob #[c] 239) :: (a ++ [])) (fun v L1 W' => ∃ n S2, v = (.bool (r.1)) ∧ L1 = ((j, Ob #[n] 239) :: (S2 ++ [])) ∧ mw 5 (ns .u8) 1 n r.2 S2) := by
 refine Bo A 17 func183 rfl (fun b => sg (Wa (lr (Wm (V (Dt ja rfl rfl) (Wm (Vg rfl rfl (lP rfl) (bS hm fun r1 a4 hm => RA rfl rfl (Eg b call57 (vj J _ _  a4) (fun W3 b => V (mh rfl rfl) ?_))))))))))
 refine Wm (LJ hm (fun B E W => ∃ z x D I, mx Z D ∧ ST true (keys ((j, Ob #[c] 239) :: (a ++ []))) w W D ((j, Ob #[z] 239) :: (x ++ I)) ∧ E 4 = (.bool false) ∧ E 16 = (.bool B.1) ∧ mw 5 (ns .u8) 1 z B.2 x) 5 ?_ (fun B g y => ?_))
 ·rintro ⟨q, c0⟩ E W ⟨z, x, D, I, L, b, b9, a3, T⟩ M
  refine Wg a3 (lt ?_)
  obtain rfl := sj M
  exact nc (v := (.bool q)) rfl rfl ⟨_, _, rfl, (b.ov (Kb (Kr Sn))), z, x, rfl, rfl, T⟩
 refine bC g (fun i g => ?_) (fun i g => ?_)
 ·refine ug i (lP rfl) (ug i (lP rfl) (bS g fun a5 N g => sa i (LR b bQ cO gT rfl N (fun R o c3 b G l U O => bS g fun c1 Q g => ?_))))
  refine sa i (eM b (Cb Pz (Cr Qz Cn)) call241 (fun F h => (Ie j c t a o a5 _ _ F k (U.mono (Pl.mono _) h) Q)) ?_)
  rintro _ c2 s P b H m d ⟨a9, a2, u, rfl, Y⟩
  obtain rfl := u.symm
  replace b := b.perm (Tb (Tr Tn))
  refine V (mh (cB i) rfl) ?_
  obtain rfl := sj g
  exact y _ _ ⟨a9, a2, s, _, (G.trans H), (b.lF St), rfl, rfl, Y⟩
 refine un i (un i (un i (un i (V (mi (cB i) rfl) ?_))))
 obtain rfl := sj g
 exact y _ _ ⟨c, a, Z, _, (mx.refl _), (b.lF St), rfl, rfl, k⟩
theorem ye (c : Nat) (i : Value) (D : List Int) (a : LO) (x : lC) (r : (Bool × (List Int))) (w : World) {μ0 : mN} (h0 : pC μ0 ((c, Ob #[i] 239) :: (a ++ [])) w) (y : mw 5 (ns .u8) 1 i D a) (hm : sI D x = some r) :
  nJ true pg0 182 [(.pointer (some ⟨c, 0, none⟩)), (.agg (lG x).toArray)] w ((c, Ob #[i] 239) :: (a ++ [])) (fun v L1 W' => ∃ q S2, v = (.bool (r.1)) ∧ L1 = ((c, Ob #[q] 239) :: (S2 ++ [])) ∧ mw 5 (ns .u8) 1 q r.2 S2) := by
 let l := ((c, Ob #[i] 239) :: (a ++ []))
 refine Bo h0 23 func182 rfl (fun b => sg (VE (mG b rfl (fun W2 m b => Wa (lr (Wm (V (Dt ja rfl rfl) (Wm (Vg rfl rfl (lJ rfl (lQ b.has Mh (lG x) rfl aT aG)) (bS hm fun r3 c4 hm => RA rfl rfl (Eg b kT (tZ x _ _  c4) (fun W5 b => ?_))))))))))))
 refine V (mh rfl rfl) (Wm (LJ hm (fun T E W => ∃ z u B a0, mx μ0 B ∧ ST true (keys l) w W B ((m, Ol (lG x) 50) :: ((c, Ob #[z] 239) :: (u ++ a0))) ∧ E 0 = (.pointer (some ⟨c, 0, none⟩)) ∧ E 3 = (.pointer (some ⟨m, 0, none⟩)) ∧ E 4 = (.bool false) ∧ E 16 = (.bool T.1) ∧ mw 5 (ns .u8) 1 z T.2 u) 5 ?_ (fun T t K => ?_)))
 ·rintro ⟨e6, c5⟩ E W ⟨z, u, B, a0, d2, b, c0, c1, a3, c2, N⟩ s
  refine Wh c2 (LJ s (fun Q E W => ∃ M I U a2, mx B U ∧ ST true (keys l) w W U ((c, Ob #[M] 239) :: (I ++ a2)) ∧ E 4 = (.bool false) ∧ E 22 = (.bool Q.1) ∧ mw 5 (ns .u8) 1 M Q.2 I) 5 ?_ (fun Q k J => ?_))
  ·rintro ⟨c6, e1⟩ E W ⟨M, I, U, a2, d3, b, e0, c3, L⟩ A
   refine Wg c3 (lt ?_)
   obtain rfl := sj A
   exact nc (v := (.bool c6)) rfl rfl ⟨_, _, rfl, (b.ov (Kb (Kr Sn))), M, I, rfl, rfl, L⟩
  refine bC k (fun g k => ?_) (fun g k => ?_)
  ·refine ug g (lP c0) (ug g (lO vS c1) (ug g (lJ rfl (lX b.has Mh rfl bO)) (bS k fun e2 F k => ?_)))
   refine sa g (eM b (Cb (Pb Pz) (Cr (Qb Qz) Cn)) call183 (fun h _ => (Bp c z c5 u x.lN _ _ h N F)) ?_)
   rintro _ e4 d0 d6 b Y n d ⟨c8, R, G, rfl, O⟩
   obtain rfl := G.symm
   replace b := b.perm (Tb (Tr Tn))
   refine V (mh (cB g) rfl) ?_
   obtain rfl := sj k
   exact J _ _ ⟨c8, R, d0, _, Y, (b.lF (Kb (Kr (Db St)))), a3, rfl, O⟩
  refine un g (un g (un g (un g (V (mi (cB g) rfl) ?_))))
  obtain rfl := sj k
  exact J _ _ ⟨z, u, B, _, (mx.refl _), (b.lF (Db St)), a3, rfl, N⟩
 refine bC t (fun j t => ?_) (fun j t => ?_)
 ·refine ug j (lP rfl) (ug j (lO rn rfl) (ug j (lJ rfl (lX b.has Mh rfl bO)) (bS t fun e3 a9 t => ?_)))
  refine sa j (eM b (Cb (Pb Pz) (Cr (Qb Qz) Cn)) call183 (fun h _ => (Bp c i D a x.lK _ _ h y a9)) ?_)
  rintro _ e5 d1 d7 b Z o d ⟨c9, b7, H, rfl, P⟩
  obtain rfl := H.symm
  replace b := b.perm (Tb (Tr Tn))
  refine V (mh (cB j) rfl) ?_
  obtain rfl := sj t
  exact K _ _ ⟨c9, b7, d1, _, Z, (b.lF (Sb (Pb (Pr Pz)) St)), rfl, rfl, rfl, rfl, P⟩
 refine un j (un j (un j (un j (V (mi (cB j) rfl) ?_))))
 obtain rfl := sj t
 exact K _ _ ⟨i, a, μ0, _, (mx.refl _), (b.lF St), rfl, rfl, rfl, rfl, y⟩
theorem Mj (g : Value) (i r : List Int) (w : World) (a : Sl (Pl (ns .u8)) 1 (hp w) g i) (hm : xf i = some r) :
  nq true pg0 58 [g] w 5 (ns .u8) 1 r := by
 unfold xf at hm
 refine uk 8 func58 rfl (fun b => sg (Wa (lS (Wm ?_))))
 obtain ⟨y, B, rfl⟩ := a.form
 refine V (Bc cO rfl rfl) (ln ?_)
 rcases y with _ | z
 ·have u := a.isNil
  replace hm : some [] = some r := by rw [u] at hm; simpa [oH, maxLen] using hm
  refine vX (rfl) (sg (Wa (lt (mL ?_))))
  obtain rfl := sj hm
  exact nc (v := (.slice none 0 0)) rfl rfl ⟨_, [], rfl, b.oa (fun p d => by cases d) (by simp), mw.nil _ _ _⟩
 ·refine qx (rfl) (kg (VE (mH (cs := #[]) b sM (Bf [] cO lz kz dc rfl (by simp) rfl rfl) (fun G k b => Wm (bS hm fun H t hm => VE (oK (enc := (ns .u8)) (v := (.slice (some ⟨k, 0, none⟩) 0 0)) (vs := (.slice (some z) i.length B)) (R := [(k, Ob #[] 5)]) b (fun _ => rfl) dc (HO _) cO rC.1 rC.2.1 rfl rC.2.2.1 rC.2.2.2 rfl rfl (mw.lit (l := []) (enc := (ns .u8)) rfl dc rfl rfl) (a.mono (Pl.mono _) b.lL) t (fun D x j b c => Wa (lt ?_))))))))
  obtain rfl := sj hm
  exact nc (v := x) rfl rfl ⟨_, j, rfl, b.oa (fun p d => (Ml d)) c.nd, c⟩
theorem DM (g : Nat) (a : Value) (c r : List Int) (w : World) (j : Sl (Pl (ns .u8)) 1 (hp w) a c) (k : At (hp w) (.pointer (some ⟨g, 0, none⟩)) [a]) (hm : wI c = some r) :
  nq true pg0 184 [(.pointer (some ⟨g, 0, none⟩))] w 5 (ns .u8) 1 r := by
 refine uk 10 func184 rfl (fun b => sg (Wa (lS (Wm (V (uc ja rfl rfl) (ln (qx rfl (nf ?_))))))))
 refine lU (sg (Wm (Wn (VQ (uq [a] BS rfl k rfl) (fun G u => V (lJ rfl (po b.has (y := a) u jZ)) (bS hm fun H x hm => VE (pA b call58 (Mj a c _ _ (j.mono (Pl.mono _) b.lL) x) (fun D z I t b B d i => Wa (lt ?_)))))))))
 obtain rfl := sj hm
 exact nc (v := z) rfl rfl ⟨_, t, rfl, b.oa (fun p h => (Ml h)) i.nd, i⟩
theorem HM (c : lD) (r : List Int) (w : World) (hm : zD c = some r) :
  nq true pg0 119 [(.agg (lE c).toArray)] w 5 (ns .u8) 1 r := by
 refine uk 53 func119 rfl (fun d => sg (VE (mG d rfl (fun W2 b1 d => Wa (lS (VA d Mh (lE c) bD aJ (bS hm fun r3 g3 hm => VE (Eg d call113 (BD c _ _  g3) (fun W5 d => V (oy rfl) (mz ?_))))))))))
 refine lU (CI hm rfl (fun g0 hm => ?_) (fun g0 hm => ?_))
 ·refine sg (Wa (ln ?_))
  replace d := d.lF (Db St)
  refine mu (mL ?_)
  obtain rfl := sj hm
  exact nc (v := (.slice none 0 0)) rfl rfl ⟨_, [], rfl, d.oa (fun p m => by cases m) (by simp), mw.nil _ _ _⟩
 refine kg (V (nW (v := (.agg #[(.slice none 0 0)])) sM (nw zeroValue239 iZ (Tk _ iZ) kr)) (VE (mG d rfl (fun W8 g d => Wa (lr (Wm (Wf sx (VB d (Mt Mh) rfl rfl cH (bS hm fun r9 e2 hm => ?_)))))))))
 refine VE (eM d (Cb Pz (C0 Cn)) call181 (fun l _ => (uB g (.slice none 0 0) ([]) [] c.Kind _ _ l (mw.nil _ _ _) e2)) ?_)
 rintro _ k3 k5 j9 d g7 P h ⟨g4, f9, I, rfl, e4⟩
 obtain rfl := I.symm
 replace d := d.perm (Tb (Tr Tn))
 refine lr (Wm (Wf sD (VA d (Mt (Ma Mh)) (lG c.Head) aT aG (bS hm fun N e3 hm => ?_))))
 refine VE (eM d (Cb Pz (Cr Qz Cn)) call182 (fun l _ => (ye g g4 r9.2 f9 c.Head _ _ l e4 e3)) ?_)
 rintro _ k4 d1 k0 d g8 R h ⟨G, D, J, rfl, i⟩
 obtain rfl := J.symm
 replace d := d.perm (Tb (Tr Tn))
 refine ln (mf (CJ hm (fun a3 E W => ∃ B H K Q, mx d1 K ∧ ST true mD w W K ((g, Ob #[B] 239) :: (H ++ Q)) ∧ E 3 = (.pointer (some ⟨g, 0, none⟩)) ∧ mw 5 (ns .u8) 1 B a3 H) (fun a3 a => ?_) ?_))
 ·refine sg (Wf sx (VB d (Mt (Ma Mh)) rfl rfl cH (ln (bg (Wi rfl (Wa (ln (CI a rfl (fun b0 a => ?_) (fun b0 a => ?_)))))))))
  ·refine ma (Wm (Wf zz (VB d (Mt (Ma Mh)) rfl rfl bO (bS a fun i3 b6 a => ?_))))
   refine VE (eM d (Cb Pz (Cr Qz Cn)) call183 (fun l _ => (Bp g G N.2 D c.mX _ _ l i b6)) ?_)
   rintro _ i8 f5 g9 d T q h ⟨e9, d3, k, rfl, c5⟩
   obtain rfl := k.symm
   replace d := d.perm (Tb (Tr Tn))
   refine mz (mJ (lU ?_))
   obtain rfl := sj a
   exact ⟨e9, d3, f5, _, T, (d.lF (Kb (Kr (Db St)))), rfl, c5⟩
  refine sg (Wi rfl (Wa (ln (CI a rfl (fun b2 a => ?_) (fun b2 a => ?_)))))
  ·refine ma (Wm (Wf pK (VA d (Mt (Ma Mh)) (lG c.B) aT aG (bS a fun i4 b9 a => ?_))))
   refine VE (eM d (Cb Pz (Cr Qz Cn)) call182 (fun l _ => (ye g G N.2 D c.B _ _ l i b9)) ?_)
   rintro _ i9 f6 h0 d U s h ⟨f0, d4, t, rfl, c6⟩
   obtain rfl := t.symm
   replace d := d.perm (Tb (Tr Tn))
   refine mz (mJ (lU ?_))
   obtain rfl := sj a
   exact ⟨f0, d4, f6, _, U, (d.lF (Kb (Kr (Db St)))), rfl, c6⟩
  refine sg (Wi rfl (Wa (ln (CI a rfl (fun b3 a => ?_) (fun b3 a => ?_)))))
  ·refine sg (Wm (Wf pK (VA d (Mt (Ma Mh)) (lG c.B) aT aG (bS a fun e6 c0 a => ?_))))
   refine VE (eM d (Cb Pz (Cr Qz Cn)) call182 (fun l _ => (ye g G N.2 D c.B _ _ l i c0)) ?_)
   rintro _ j0 j7 h1 d Y A h ⟨f1, d5, u, rfl, c7⟩
   obtain rfl := u.symm
   replace d := d.perm (Tb (Tr Tn))
   refine ln (ma (Wm (Wf wK (VB d (Mt (Ma Mh)) rfl rfl bO (bS a fun i5 c1 a => ?_)))))
   refine VE (eM d (Cb Pz (Cr Qz Cn)) call183 (fun l _ => (Bp g f1 e6.2 d5 c.mQ _ _ l c7 c1)) ?_)
   rintro _ j3 f7 h2 d Z F h ⟨f2, d6, x, rfl, c8⟩
   obtain rfl := x.symm
   replace d := d.perm (Tb (Tr Tn))
   refine mz (mJ (lU ?_))
   obtain rfl := sj a
   exact ⟨f2, d6, f7, _, (Y.trans Z), (d.lF (Kb (Kr (Db St)))), rfl, c8⟩
  refine sg (Wi rfl (Wa (ln (CI a rfl (fun b4 a => ?_) (fun b4 a => ?_)))))
  ·refine sg (Wm (Wf pK (VA d (Mt (Ma Mh)) (lG c.B) aT aG (bS a fun e7 c2 a => ?_))))
   refine VE (eM d (Cb Pz (Cr Qz Cn)) call182 (fun l _ => (ye g G N.2 D c.B _ _ l i c2)) ?_)
   rintro _ j4 j8 h3 d a1 L h ⟨f3, d7, y, rfl, c9⟩
   obtain rfl := y.symm
   replace d := d.perm (Tb (Tr Tn))
   refine ln (ma (Wm (Wf vk (VA d (Mt (Ma Mh)) (lG c.C) aT aG (bS a fun i6 c3 a => ?_)))))
   refine VE (eM d (Cb Pz (Cr Qz Cn)) call182 (fun l _ => (ye g f3 e7.2 d7 c.C _ _ l c9 c3)) ?_)
   rintro _ j5 f8 h4 d a2 O h ⟨f4, d8, z, rfl, d0⟩
   obtain rfl := z.symm
   replace d := d.perm (Tb (Tr Tn))
   refine mz (mJ (lU ?_))
   obtain rfl := sj a
   exact ⟨f4, d8, f8, _, (a1.trans a2), (d.lF (Kb (Kr (Db St)))), rfl, d0⟩
  refine nf (mJ (lU ?_))
  obtain rfl := sj a
  exact ⟨G, D, d1, _, (mx.refl _), (d.lF (Kb (Kr (Db St)))), rfl, i⟩
 rintro e5 E W ⟨B, H, K, Q, g1, d, d9, c4⟩ j
 refine sg (Wh d9 (bS j fun i2 b5 j => VE (pA d call184 (DM g B e5 _ _ (c4.sl (fun _ => rfl) (fun b o m => d.at_ (Mt (Ml m)))) (At.of (d.at_ Mh) _ rfl) b5) (fun h5 e8 j6 d2 d g2 n M => Wa (ln ?_)))))
 replace d := d.lF (Kr (Db (Dr St)))
 refine mu ?_
 obtain rfl := sj j
 exact nc (v := e8) rfl rfl ⟨_, d2, rfl, d.oa (fun p m => (Ml m)) M.nd, M⟩
theorem UU (w : World) {c d : Value} {a b : List Int} (h1 : Sl (Pl (ns .u8)) 1 (hp w) c a) (g : Sl (Pl (ns .u8)) 1 (hp w) d b) : (callFunc 240 [c, d].toArray).run pg0 w = .ok (.value (.int .i64 (Ba a b))) w := SH func240 (by kernel_rfl) (by kernel_rfl) (by kernel_rfl) (by kernel_rfl) h1 g
theorem Em (a : Value) (g : List Int) (c : Value) (i : List Int) (r : Int) (w : World) (j : Sl (Pl (ns .u8)) 1 (hp w) a g) (k : Sl (Pl (ns .u8)) 1 (hp w) c i) (hm : zo g i = some r) :
  mo true pg0 178 [a, c] w (.int .i64 r) := by
 exact cG 8 func178 rfl (fun b => sg (Wa (lr (Wm (Wm (VE (PM (args := [a, c]) (v := .int .i64 (Ba g i)) rfl (by exact yA rfl rfl) (UU _ (j.mono (Pl.mono _) b.lL) (k.mono (Pl.mono _) b.lL)) (Wa (lt (rQ hm b))))))))))
theorem KH (g i : lD) (r : Int) (w : World) (hm : wu g i = some r) :
  mo true pg0 115 [(.agg (lE g).toArray), (.agg (lE i).toArray)] w (.int .i64 r) := by
 refine cG 10 func115 rfl (fun d => sg (VE (mG d rfl (fun T Y d => VE (mG d rfl (fun U Z d => Wa (ln (mf ?_))))))))
 replace d := d.drew
 have h := d.has.lF (Kb (Kb Sn))
 refine mT h mB (XH 0 rfl h (fun _ l => lJ rfl (lQ l (Mt Mh) (lE g) rfl bD aJ)) (XH 2 rfl h (fun _ l => lJ rfl (lQ l Mh (lE i) rfl bD aJ)) (bS hm fun y t hm => XE 1 rfl (pA d call119 (HM g _ _  t) (fun I B N G d a n j => ?_)))))
 have h := d.has.pN a (Dr (Kb (Kb Sn)))
 refine ⟨h, (bS hm fun z u hm => XE 3 rfl (pA d call119 (HM i _ _  u) (fun J D Q H d c q k => ?_)))⟩
 have h := d.has.pN (a.trans c) (Dr (Dr (Kb (Kb Sn))))
 refine ⟨h, (bS hm fun M x hm => XE 4 rfl (Eg d call178 (Em B y D z _ _ (j.sl (fun _ => rfl) (fun b o m => d.at_ (Ma (Ml m)))) (k.sl (fun _ => rfl) (fun b o m => d.at_ (Ml m))) x) (fun K d => ?_)))⟩
 have h := d.has.pN (a.trans c) (Dr (Dr (Kb (Kb Sn))))
 refine ⟨h, (X 5 rfl h (oD rfl) (nh kr (lU ?_)))⟩
 exact mu (rQ hm d)
theorem FC (j : Value) (a0 : List lD) (x : LO) (r : List lD) (w : World) {μ0 : mN} (h0 : pC μ0 (x ++ []) w) (B : mw 52 lE 9 j a0 x) (hm : vA a0 = some r) :
  nJ true pg0 116 [j] w (x ++ []) (fun v L1 W' => ∃ y1 S2, v = y1 ∧ L1 = (S2 ++ []) ∧ mw 52 lE 9 y1 r S2) := by
 refine Bo h0 61 func116 rfl (fun b => sg (Wa (lS (Wm (V (oZ aK rfl B) (Wi rfl (ln (CI hm rfl (fun g0 hm => ?_) (fun g0 hm => ?_)))))))))
 ·refine sg (Wm (Wa (lt (mL ?_))))
  obtain rfl := sj hm
  exact nc (v := j) rfl rfl ⟨_, _, rfl, (b.ov (Kr Sn)), j, x, rfl, rfl, B⟩
 refine kS (Wa (ln (nL (pn (fun m E W => ∃ t P, ST true (keys (x ++ [])) w W μ0 (x ++ P) ∧ E 0 = j ∧ E 3 = (.int .i64 t) ∧ qw a0 m t = some r) mR ⟨1, _, (b.lF St), rfl, rfl, hm⟩ ?_))))
 rintro m E W ⟨t, P, b, D, H, a⟩
 cases m with
 | zero => rw [qw] at a; cases a
 | succ f5 =>
  refine mf (sg (Wh H (Wh D (V (oZ aK rfl B) (Wi rfl (ln (CI a rfl (fun d0 a => ?_) (fun d0 a => ?_))))))))
  ·refine kn (mf (nL (mf ?_)))
   replace b := b.drew
   have d := b.has.lF (Kr Sn)
   refine mT d mB (X 0 rfl d (lP D) (X 1 rfl d (lP H) (bS a fun c3 Z a => XQ 2 rfl d (oS (i := t) (x0 := c3) aK aJ rfl rfl B (mF Z) (mA Z)) (fun g7 d6 => XH 3 rfl d (fun _ l => lJ rfl (qp l (fun p h => (Ml h)) B nl d6 (mA Z) bD aJ)) (X 4 rfl d (lP D) (X 5 rfl d (lP H) (X 6 rfl d (mP rfl rfl rfl) (bS a fun c4 n a => XQ 7 rfl d (oS (i := (wi0 .i64 (t - 1))) (x0 := c4) aK aJ rfl rfl B (mF n) (mA n)) (fun g8 d7 => XH 8 rfl d (fun _ l => lJ rfl (qp l (fun p h => (Ml h)) B nl d7 (mA n) bD aJ)) (X 9 rfl d (vx rfl rfl (oI fN) (rA (wP _ c3 c4))) (nh kr (lU ?_))))))))))))
   refine CI a rfl (fun d1 a => ?_) (fun d1 a => ?_)
   ·refine sg (Wh D (Wh H (bS a fun _ A a => VQ (xG (i := t) aK aJ rfl rfl B (ue A) (tL A)) (fun c1 M => Wa (lS (Wa (ln ?_)))))))
    refine CJ a (fun U E W => ∃ o R, ST true (keys (x ++ [])) w W μ0 (o ++ R) ∧ E 0 = j ∧ E 3 = (.int .i64 U.2) ∧ mw 52 lE 9 j U.1 o) (fun U d4 => ?_) ?_
    ·refine nL (pn (fun m E W => ∃ q K Y y b6, ST true (keys (x ++ [])) w W μ0 (K ++ b6) ∧ E 0 = j ∧ E 3 = (.int .i64 Y) ∧ E 4 = c1 ∧ E 5 = (.int .i64 y) ∧ mw 52 lE 9 j q K ∧ qn t m q Y y = some U) mR ⟨a0, x, t, 1, _, (b.lF St), D, H, rfl, rfl, B, d4⟩ ?_)
     rintro m E W ⟨q, K, Y, y, b6, b, Q, T, I, J, g, k⟩
     cases m with
     | zero => rw [qn] at k; cases k
     | succ f6 =>
      refine mf (sg (Wh J (Wh I (V (G0 aK rfl M g) (Wi rfl (ln (CI k rfl (fun d2 k => ?_) (fun d2 k => ?_))))))))
      ·refine kn (mf (CJ k (fun s E W => ∃ N b7, ST true (keys (x ++ [])) w W μ0 (N ++ b7) ∧ E 0 = j ∧ E 3 = (.int .i64 s.2) ∧ E 4 = c1 ∧ E 5 = (.int .i64 y) ∧ mw 52 lE 9 j s.1 N) (fun s c => ?_) ?_))
       ·refine nL (mf ?_)
        replace b := b.drew
        have d := b.has.lF (Kr Sn)
        refine mT d mB (X 0 rfl d (lP I) (X 1 rfl d (lP J) (bS c fun c6 a2 c => XQ 2 rfl d (xJ (i := y) (x0 := c6) aK aJ rfl rfl g M (mF a2) (mA a2)) (fun g9 d8 => XH 3 rfl d (fun _ l => lJ rfl (qp l (fun p h => (Ml h)) g nl d8 (zI (mA a2)) bD aJ)) (X 4 rfl d (lP I) (X 5 rfl d (lP J) (X 6 rfl d (mP rfl rfl rfl) (bS c fun c7 a3 c => XQ 7 rfl d (xJ (i := (wi0 .i64 (y - 1))) (x0 := c7) aK aJ rfl rfl g M (mF a3) (mA a3)) (fun h1 d9 => XH 8 rfl d (fun _ l => lJ rfl (qp l (fun p h => (Ml h)) g nl d9 (zI (mA a3)) bD aJ)) (X 9 rfl d (Gk rfl rfl (oI fN) (BW (wP _ c6 c7))) (nh kr (lU ?_))))))))))))
        refine CI c rfl (fun d3 c => ?_) (fun d3 c => ?_)
        ·refine sg (Wh Q (Wh T (Wh I (Wh J (bS c fun a9 a4 c => VQ (xJ (i := y) (x0 := a9) aK aJ rfl rfl g M (mF a4) (mA a4)) (fun h2 e0 => V (lJ rfl (qp b.has (fun p h => (Ml h)) g nl e0 (zI (mA a4)) bD aJ)) (bS c fun f8 a5 c => VQ (oS (i := Y) (x0 := f8) aK aJ rfl rfl g (mF a5) (mA a5)) (fun h3 e1 => VO (Bj (u := (.agg (lE a9).toArray)) (x1 := a9)  b g nl pc rfl rfl rfl e1 (mA a5) aJ (fun g3 e8 b c9 => ln (ma ?_)))))))))))
         refine Wh T (Wi rfl (Wa (mz (mJ (lU ?_)))))
         obtain rfl := sj c
         exact ⟨e8, _, (b.lF St), Q, rfl, I, J, c9⟩
        refine nf (mJ (lU ?_))
        obtain rfl := sj c
        exact ⟨K, _, (b.lF St), Q, T, I, J, g⟩
       rintro ⟨f4, f7⟩ E W ⟨N, b7, b, f0, f1, f2, f3, e4⟩ d5
       exact ma (Wh f3 (Wi rfl (Wa (ln ⟨f6, bF _, f4, N, f7, (wi0 .i64 (y + 1)), _, (b.lF St), f0, f1, f2, rfl, e4, d5⟩))))
      refine pk (oR (oR (tE (lU ?_))))
      obtain rfl := sj k
      exact ⟨K, _, (b.lF St), Q, T, g⟩
    rintro ⟨g4, c5⟩ E W ⟨o, R, b, b9, c0, O⟩ G
    refine sg (Wh b9 (Wh c0 (bS G fun _ F G => VQ (xG (i := c5) aK aJ rfl rfl O (ue F) (tL F)) (fun h4 e2 => VO (AG (z := Tq)  b O nl pc aK cL e2 rfl rfl (fun g2 e7 b c8 => lr (Wh b9 (Wh c0 (bS G fun _ L G => VQ (xn (i := c5) aK aJ rfl rfl c8 nl (ue L) (tL L)) (fun c2 e3 => ?_))))))))))
    refine Wa (lt (nY (mL (mL (nY (mL ?_))))))
    obtain rfl := sj G
    exact nc (v := c2) rfl rfl ⟨_, _, rfl, (b.ov (Kr Sn)), c2, e7, rfl, rfl, e3⟩
   exact nf (mJ (lU (ma (Wh H (Wi rfl (Wa (ln ⟨f5, bF _, (wi0 .i64 (t + 1)), _, (b.lF St), D, rfl, a⟩)))))))
  refine pk (oR (oR (tE (lU (sg (Wh D (Wa (lt ?_))))))))
  obtain rfl := sj a
  exact nc (v := j) rfl rfl ⟨_, _, rfl, (b.ov (Kr Sn)), j, x, rfl, rfl, B⟩
theorem xp (i : Value) (t r : List lD) (w : World) (B : Sl (Pl lE) 9 (hp w) i t) (hm : pj t = some r) :
  nq false pg0 52 [i] w 52 lE 9 r := by
 refine uk 11 func52 rfl (fun b => sg (Wa (lr (Wm (bS hm fun u T hm => VE (pA b call61 (nq.nz (BL i t _ _ (B.mono (Pl.mono _) b.lL) T)) (fun W3 v7 y R8 b a5 o Q => bS hm fun U D hm => ?_)))))))
 refine VE (eM b (Cr Qz Cn) call111 (fun h _ => (ud v7 u R8 (.func (.func 112) #[] #[]) (fun (x : lD) => AL x) _ _ h Q ⟨112, #[], #[], rfl, call112, fun W x r s hm => (L5 x r W  hm).nz⟩ D)) ?_)
 rintro _ O b9 A b z l d ⟨k, K, a, rfl, I⟩
 obtain rfl := a.symm
 replace b := b.perm (Tr Tn)
 refine Wa (lr (Wm (bS hm fun Y G hm => ?_)))
 refine VE (eM b (Cr Qz Cn) call114 (fun h _ => nJ.nz (P4 k U K (.func (.func 115) #[] #[]) (fun (x : (lD × lD)) => wu x.1 x.2) _ _ h I ⟨115, #[], rfl, call115, fun W x r s hm => KH x.1 x.2 r W  hm⟩ G)) ?_)
 rintro _ P c0 a9 b a2 m d ⟨M, c, rfl, J⟩
 obtain rfl := c.symm
 replace b := b.perm (Tr Tn)
 refine lr (Wm (bS hm fun L H hm => ?_))
 refine VE (eM b (Cr Qz Cn) call116 (fun h _ => nJ.nz (FC k Y M _ _ h J H)) ?_)
 rintro _ R c1 F b a3 n d ⟨Z, N, g, rfl, j⟩
 obtain rfl := g.symm
 replace b := b.perm (Tr Tn)
 refine Wa (lt ?_)
 obtain rfl := sj hm
 exact nc (v := Z) rfl rfl ⟨_, N, rfl, b.oa (fun p q => (Ml q)) j.nd, j⟩
theorem yY (t : Value) (y : List lD) (u : Value) (K : List lD) (r : Bool) (w : World) (c : Sl (Pl lE) 9 (hp w) t y) (z : Sl (Pl lE) 9 (hp w) u K) (hm : rj y K = some r) :
  mo true pg0 144 [t, u] w (.bool r) := by
 refine cG 26 func144 rfl (fun d => sg (Wa (lS (Wm (V (mV aK rfl c) (Wm (V (mV aK rfl z) (Wi rfl (mz ?_)))))))))
 refine lU (CI hm rfl (fun U hm => ?_) (fun U hm => ?_))
 ·refine sg (Wa (lt (mL ?_)))
  obtain rfl := sj hm
  exact rP d
 refine kS (Wm (V (mV aK rfl c) (Wm (ln (mM (fun i E W => ∃ g, (E 13 = .int .i64 (i : Nat) ∧ E 12 = .int .i64 (y.length : Nat)) ∧ ST true mD w W (hp w) g ∧ E 0 = t ∧ E 1 = u ∧ sw K (y.drop i) i = some r) y.length c.len ⟨_, ⟨rfl, rfl⟩, (d.lF St), rfl, rfl, hm⟩ dc dc dc (fun _ _ _ h => by obtain ⟨_, m, _⟩ := h; exact m) ?_ ?_)))))
 ·rintro I E W M ⟨g, ⟨l, o⟩, d, j, k, a⟩
  obtain ⟨J, a3, Q, N, T⟩ := mE M
  rw [Q] at a
  refine bg (Wh l (Wa (ln (mf ?_))))
  replace d := d.drew
  have b := d.has.lF Sn
  refine mT b mB (X 0 rfl b (lP j) (X 1 rfl b (lP rfl) (XQ 2 rfl b (og (enc := lE) (i := (I : Int)) (x0 := J) aK aJ rfl rfl c (aF _) N) (fun Y G => XH 3 rfl b (fun _ n => lJ rfl (mr n G bD aJ)) (X 4 rfl b (lP k) (X 5 rfl b (lP rfl) (bS a fun B x a => XQ 6 rfl b (og (enc := lE) (i := (I : Int)) (x0 := B) aK aJ rfl rfl z (mF x) (mA x)) (fun Z H => XH 7 rfl b (fun _ n => lJ rfl (mr n H bD aJ)) (X 8 rfl b (Gk rfl rfl (oI fN) (BW (wP _ J B))) (nh kr (lU (CI a rfl (fun D a => ?_) (fun D a => ?_)))))))))))))
  ·refine sg (Wa (lt (nY (mL (nY (mL ?_))))))
   obtain rfl := sj a
   exact rP d
  exact nf (mJ (lU ⟨l, _, ⟨rfl, o⟩, (d.lF St), j, k, (by rw [T]; exact a)⟩))
 rintro E W ⟨g, ⟨l, o⟩, d, j, k, a⟩
 rw [aI] at a
 exact lU (sg (Wa (lt (rQ a d))))
theorem FA (a : Value) (g : List lD) (r : Bool) (w : World) (c : Sl (Pl lE) 9 (hp w) a g) (hm : xY g = some r) :
  mo false pg0 201 [a] w (.bool r) := by
 refine cG 7 func201 rfl (fun d => sg (Wa (lr (Wm (bS hm fun u t hm => VE (pA d call52 (xp a g _ _ (c.mono (Pl.mono _) d.lL) t) (fun D x G B d i h k => Wm (bS hm fun z j hm => VE (Eg d call144 (mo.nz (yY x u a g _ _ (k.sl nl (fun b o l => d.at_ (Ml l))) (c.mono (Pl.mono _) (i.trans d.lL)) j)) (fun y d => Wa ?_))))))))))
 refine ln ?_
 exact mu (rQ hm d)
theorem LZ (z : lH) (x B : Value) (r : Bool) (w : World) (g : Sl mC 15 (hp w) x z.lZ) (M : Sl mZ 8 (hp w) B z.mq) (hm : CX z = some r) :
  mo false pg0 141 [(.agg #[(.string z.Name), x, B])] w (.bool r) := by
 refine cG 33 func141 rfl (fun d => sg ?_)
 obtain ⟨A1, c2, rfl⟩ := g.form
 obtain ⟨A3, c4, rfl⟩ := M.form
 refine VE (mG d rfl (fun W6 b5 d => Wa (lr (Wa (lS (Wf xT (VB d Mh rfl rfl jE (V (mV dC rfl g) ?_))))))))
 refine Wm (ln ?_)
 replace d := d.lF (Db St)
 refine mM (fun i E W => ∃ u H y T, (E 9 = .int .i64 (i : Nat) ∧ E 8 = .int .i64 (z.lZ.length : Nat)) ∧ ST false mD w W (hp w) (y ++ T) ∧ E 3 = u ∧ E 7 = (.slice A1 z.lZ.length c2) ∧ mw 52 lE 9 u H y ∧ uD (z.lZ.drop i) H = some r) z.lZ.length g.len ⟨(.slice none 0 0), ([]), [], _, ⟨rfl, rfl⟩, (d.lF St), rfl, rfl, (mw.nil _ _ _), hm⟩ dc dc dc (fun _ _ _ h => by obtain ⟨_, _, _, _, n, _⟩ := h; exact n) ?_ ?_
 ·rintro a3 E W L ⟨u, H, y, T, ⟨m, q⟩, d, I, J, K, j⟩
  obtain ⟨a, d1, b3, b2, b4⟩ := mE L
  rw [b3] at j
  refine bg (VQ (nS (i := (a3 : Int)) (x0 := a) mC.out dC dH J m g (aF _) b2) (fun e0 ⟨_, ⟨e3, e4, rfl, Y, Z⟩, a9⟩ => V (lJ rfl (mr d.has a9 jF dH)) (VE (my d eP (fun d3 a2 d => ?_)))))
  obtain ⟨Q, U, rfl⟩ := Y.form
  obtain ⟨D, G, rfl⟩ := Z.form
  let a0 := (C3 a.Signed.lD.Kind a.Signed.lD.Head.lK a.Signed.lD.Head.lN a.Signed.lD.mX a.Signed.lD.B.lK a.Signed.lD.B.lN a.Signed.lD.C.lK a.Signed.lD.C.lN a.Signed.lD.mQ Q a.Signed.Tag.length U a.lM.Op a.lM.K a.lM.lC.lK a.lM.lC.lN D a.lM.Kids.length G)
  refine VO (mj (.agg a0.toArray) (a0.toArray) d rfl rfl dH oc nb rfl (fun d4 d => lS (Wf xZ (Wf Hd (VB d Mh rfl rfl jZ (V (mV cO rfl Y) (Wi rfl (Wm (LJ j (fun a4 E W => ∃ s, ST false mD w W (hp w) ((a2, Ol a0 60) :: (y ++ s)) ∧ E 3 = u ∧ E 5 = (.pointer (some ⟨a2, 0, none⟩)) ∧ E 7 = (.slice A1 z.lZ.length c2) ∧ E 8 = (.int .i64 (z.lZ.length : Int)) ∧ E 9 = (.int .i64 (a3 : Int)) ∧ E 23 = (.bool a4)) 5 ?_ (fun a4 t N => ?_))))))))))
  ·rintro e5 E W ⟨s, d, c1, c3, c5, c6, c7, c8⟩ k
   refine ln (CI k c8 (fun A k => ?_) (fun A k => ?_))
   ·refine sg (Wa (ln ?_))
    replace d := d.lF (Db (Dr St))
    refine mu (mL (nY (mL (nY (mL ?_)))))
    obtain rfl := sj k
    exact rP d
   refine kn (ma (Wh c1 (V (lO xZ c3) (Wf xh (VA d Mh (lE a.Signed.lD) bD aJ (VE (mH (cs := (lE a.Signed.lD).toArray) d (oE rfl) (ot aK aJ cL) (fun d5 b9 d => ?_))))))))
   replace d := d.perm (Nr (Qb (Qb Qz)) Nz)
   refine bS k fun c9 F k => VE (oK (enc := lE) (v := u) (vs := (.slice (some ⟨b9, 0, none⟩) 1 1)) (R := y) d nl dc pc aK oA.1 oA.2.1 rfl oA.2.2.1 oA.2.2.2 rfl rfl K (Sl.lit (enc := lE) (l := [a.Signed.lD]) nl rfl nb rfl (d.at_ (Ma Mh))) F (fun d6 d0 b7 d a5 => Wa (mz (mJ (lU ?_)))))
   replace d := d.lF (Kr (Db (Db St)))
   exact ⟨c7, d0, c9, b7, _, ⟨rfl, c6⟩, (d.lF St), rfl, c5, a5, (by rw [b4]; exact k)⟩
  refine bC t (fun c t => ?_) (fun c t => ?_)
  ·refine un c (un c (un c (un c (V (mh (cB c) rfl) ?_))))
   obtain rfl := sj t
   exact N _ _ ⟨_, (d.lF St), I, rfl, J, q, m, rfl⟩
  refine ug c (lO Nu rfl) (ug c (lJ rfl (lQ d.has Mh (C1 a.lM.Op a.lM.K a.lM.lC.lK a.lM.lC.lN D a.lM.Kids.length G) rfl aV aC)) (bS t fun e1 O t => sa c (Eg d call72 (vu a.lM (.slice D a.lM.Kids.length G) _ _ (Z.mono mg.mono d.lL) O) (fun d7 d => ug c (oy rfl) (V (mi (cB c) rfl) ?_)))))
  obtain rfl := sj t
  exact N _ _ ⟨_, (d.lF St), I, rfl, J, q, m, rfl⟩
 rintro E W ⟨u, H, y, T, ⟨m, q⟩, d, I, J, K, j⟩
 rw [aI] at j
 refine lU (sg (Wh I (bS j fun e2 P j => VE (Eg d call201 (FA u H _ _ (K.sl nl (fun b o hq => d.at_ (Ml hq))) P) (fun d8 d => Wa (ln ?_))))))
 exact mu (rQ j d)
theorem NU (x : Value) (T : List nx) (r : Bool) (w : World) (n : Sl mZ 8 (hp w) x T) (hm : DE T = some r) :
  mo false pg0 142 [x] w (.bool r) := by
 refine cG 45 func142 rfl (fun d => sg (Wa (lS (Wm (V (mV cD rfl n) (Wm (ln (mM (fun i E W => ∃ a2, (E 7 = .int .i64 (i : Nat) ∧ E 6 = .int .i64 (T.length : Nat)) ∧ ST false mD w W (hp w) a2 ∧ E 0 = x ∧ E 5 = x ∧ vL T (T.drop i) i = some r) T.length n.len ⟨_, ⟨rfl, rfl⟩, (d.lF St), rfl, rfl, hm⟩ dc dc dc (fun _ _ _ h => by obtain ⟨_, s, _⟩ := h; exact s) ?_ ?_))))))))
 ·rintro G E W c9 ⟨a2, ⟨m, v⟩, d, a3, N, t⟩
  obtain ⟨a, g0, e1, e0, e2⟩ := mE c9
  rw [e1] at t
  refine bg (Wh m (VQ (nS (i := (G : Int)) (x0 := a) mZ.out cD dA N m n (aF _) e0) (fun g9 ⟨_, ⟨h6, h7, rfl, F, L⟩, d3⟩ => V (lJ rfl (mr d.has d3 js dA)) (VE (my d fY (fun g1 M d => Wa ?_))))))
  let g5 : Value := (.int .i64 (T.length : Int))
  let b8 : Value := (.int .i64 (G : Int))
  obtain ⟨B, D, rfl⟩ := F.form
  obtain ⟨H, I, rfl⟩ := L.form
  let a0 := (C6 a.lC.lK a.lC.lN a.lM.Op a.lM.K a.lM.lC.lK a.lM.lC.lN B a.lM.Kids.length D H a.nj.length I)
  refine VO (mj (.agg a0.toArray) (a0.toArray) d rfl rfl dA oc nb rfl (fun g2 d => ln (mf ?_)))
  replace d := d.drew
  have b := d.has.lF (Kb Sn)
  refine mT b mB (X 0 rfl b (lO GZ rfl) (XH 1 rfl b (fun _ l => lJ rfl (lQ l Mh (lG a.lC) rfl aT aG)) (bS t fun h2 d6 t => XE 2 rfl (Eg d kT (mo.nz (tZ a.lC _ _  d6)) (fun g3 d => ?_)))))
  have b := d.has.lF (Kb Sn)
  refine ⟨b, (X 3 rfl b (oy rfl) (X 4 rfl b (lP rfl) (PJ t (fun c7 E W => ∃ P, ST false mD w W (hp w) ((M, Ol a0 87) :: P) ∧ E 0 = x ∧ E 3 = b8 ∧ E 4 = (.pointer (some ⟨M, 0, none⟩)) ∧ E 5 = x ∧ E 6 = g5 ∧ E 7 = b8 ∧ E 21 = (.bool c7)) (bm 32 1023) 22 ?_ (fun c7 z A => ?_))))⟩
  ·rintro i0 E W ⟨P, d, b7, b9, a4, c0, c1, c2, e3⟩ d0
   have b := d.has.lF (Kb Sn)
   refine X 10 rfl b (lP e3) (PJ d0 (fun c6 E W => ∃ R, ST false mD w W (hp w) ((M, Ol a0 87) :: R) ∧ E 0 = x ∧ E 3 = b8 ∧ E 4 = (.pointer (some ⟨M, 0, none⟩)) ∧ E 5 = x ∧ E 6 = g5 ∧ E 7 = b8 ∧ E 27 = (.bool c6)) (bm 32 65535) 16 ?_ (fun c6 y Z => ?_))
   ·rintro f7 E W ⟨R, d, Q, c3, e4, a5, o, q, e5⟩ d1
    have b := d.has.lF (Kb Sn)
    refine X 16 rfl b (lP e5) (PJ d1 (fun c4 E W => ∃ b5, ST false mD w W (hp w) ((M, Ol a0 87) :: b5) ∧ E 0 = x ∧ E 5 = x ∧ E 6 = g5 ∧ E 7 = b8 ∧ E 43 = (.bool c4)) (bm 32 4294967295) 0 ?_ (fun c4 K U => ?_))
    ·rintro i1 E W ⟨b5, d, e6, e7, e8, e9, f0⟩ J
     refine nh kr (lU ?_)
     replace d := d.lF (Db St)
     refine CI J f0 (fun c8 J => ?_) (fun c8 J => ?_)
     ·refine sg (Wa (lt (nY (mL (nY (mL ?_))))))
      obtain rfl := sj J
      exact rP d
     exact nf (mJ (lU ⟨e9, _, ⟨rfl, e8⟩, (d.lF St), e6, e7, (by rw [e2]; exact J)⟩))
    refine bC K (fun g K => ?_) (fun g K => ?_)
    ·refine Xn 17 rfl rfl (cB g) b (Xn 18 rfl rfl (cB g) b (Xn 19 rfl rfl (cB g) b (Xu 20 rfl rfl rfl b (Xu 21 rfl rfl rfl b (Xu 22 rfl rfl rfl b (Xu 23 rfl rfl rfl b (Xu 24 rfl rfl rfl b (Xu 25 rfl rfl rfl b (Xu 26 rfl rfl rfl b (Xu 27 rfl rfl rfl b (Xu 28 rfl rfl rfl b (Xu 29 rfl rfl rfl b (Xn 30 rfl rfl (cB g) b (X 31 rfl b (mh (cB g) rfl) ?_))))))))))))))
     obtain rfl := sj K
     refine nu kr (U _ _ ⟨_, (d.lF St), Q, a5, o, q, rfl⟩)
    refine Xg 17 rfl rfl (cB g) b (lP c3) (Xg 18 rfl rfl (cB g) b (mP rfl rfl rfl) (Xg 19 rfl rfl (cB g) b (lP rfl) (PJ K (fun c5 E W => ∃ b6, ST false mD w W (hp w) ((M, Ol a0 87) :: b6) ∧ E 0 = x ∧ E 5 = x ∧ E 6 = g5 ∧ E 7 = b8 ∧ E 28 = (.bool f7) ∧ E 42 = (.bool c5)) (bm 32 2147483647) 1 ?_ (fun c5 u Y => ?_))))
    ·rintro i2 E W ⟨b6, d, f1, f2, f3, f4, f5, f6⟩ d2
     have b := d.has.lF (Kb Sn)
     refine X 31 rfl b (mi (f5.trans (cB g)) f6) ?_
     obtain rfl := sj d2
     refine nu kr (U _ _ ⟨_, (d.lF St), f1, f2, f3, f4, rfl⟩)
    refine bC u (fun c u => ?_) (fun c u => ?_)
    ·refine Xg 20 rfl rfl (cB c) b (lP Q) (Xg 21 rfl rfl (cB c) b (lP c3) (Xg 22 rfl rfl (cB c) b (mP rfl rfl rfl) (bS u fun a9 O u => uE 23 rfl kr (.inr ⟨19, true, 31, rfl, rfl, by decide, (cB c)⟩) rfl dc (fun _ _ h => h) b (nS (i := (wi0 .i64 ((G : Int) - 1))) (x0 := a9) mZ.out cD dA rfl rfl n (mF O) (mA O)) (fun h0 ⟨_, ⟨h8, h9, rfl, f8, f9⟩, d4⟩ => uE 24 rfl kr (.inr ⟨19, true, 31, rfl, rfl, by decide, (cB c)⟩) rfl dc (fun _ _ h => h) b (uq (lG a9.lC) GZ rfl d4 rfl) (fun h1 d5 => rz 25 rfl rfl (cB c) b (fun _ l => lJ rfl (mr l d5 aT aG)) (Xg 26 rfl rfl (cB c) b (lO GZ e4) (rz 27 rfl rfl (cB c) b (fun _ l => lJ rfl (lQ l Mh (lG a.lC) rfl aT aG)) (bS u fun h3 d7 u => zG 28 rfl rfl (cB c) (Eg d call155 (mo.nz (BR a9.lC a.lC _ _  d7)) (fun g4 d => ?_))))))))))
     have b := d.has.lF (Kb Sn)
     refine ⟨b, (Xg 29 rfl rfl (cB c) b (mP rfl rfl rfl) (Xg 30 rfl rfl (cB g) b (mh (cB c) rfl) ?_))⟩
     obtain rfl := sj u
     refine nu kr (Y _ _ ⟨_, (d.lF St), Q, a5, o, q, rfl, rfl⟩)
    refine Xn 20 rfl rfl (cB c) b (Xn 21 rfl rfl (cB c) b (Xn 22 rfl rfl (cB c) b (Xn 23 rfl rfl (cB c) b (Xn 24 rfl rfl (cB c) b (Xn 25 rfl rfl (cB c) b (Xn 26 rfl rfl (cB c) b (Xn 27 rfl rfl (cB c) b (Xn 28 rfl rfl (cB c) b (Xn 29 rfl rfl (cB c) b (Xg 30 rfl rfl (cB g) b (mi (cB c) rfl) ?_))))))))))
    obtain rfl := sj u
    refine nu kr (Y _ _ ⟨_, (d.lF St), Q, a5, o, q, rfl, rfl⟩)
   refine bC y (fun k y => ?_) (fun k y => ?_)
   ·refine Xn 11 rfl rfl (cB k) b (Xn 12 rfl rfl (cB k) b (Xn 13 rfl rfl (cB k) b (Xn 14 rfl rfl (cB k) b (X 15 rfl b (mh (cB k) rfl) ?_))))
    obtain rfl := sj y
    refine nu kr (Z _ _ ⟨_, (d.lF St), b7, b9, a4, c0, c1, c2, rfl⟩)
   refine Xg 11 rfl rfl (cB k) b (lO Ea a4) (rz 12 rfl rfl (cB k) b (fun _ l => lJ rfl (lX l Mh rfl eH)) (bS y fun h4 d8 y => zG 13 rfl rfl (cB k) (Eg d call201 (FA (.slice H a.nj.length I) a.nj _ _ (L.mono (Pl.mono _) d.lL) d8) (fun g7 d => ?_))))
   have b := d.has.lF (Kb Sn)
   refine ⟨b, (Xg 14 rfl rfl (cB k) b (oy rfl) (X 15 rfl b (mi (cB k) rfl) ?_))⟩
   obtain rfl := sj y
   refine nu kr (Z _ _ ⟨_, (d.lF St), b7, b9, a4, c0, c1, c2, rfl⟩)
  refine bC z (fun j z => ?_) (fun j z => ?_)
  ·refine Xn 5 rfl rfl (cB j) b (Xn 6 rfl rfl (cB j) b (Xn 7 rfl rfl (cB j) b (Xn 8 rfl rfl (cB j) b (X 9 rfl b (mh (cB j) rfl) ?_))))
   obtain rfl := sj z
   refine nu kr (A _ _ ⟨_, (d.lF St), a3, rfl, rfl, N, v, m, rfl⟩)
  refine Xg 5 rfl rfl (cB j) b (lO D9 rfl) (rz 6 rfl rfl (cB j) b (fun _ l => lJ rfl (lQ l Mh (C1 a.lM.Op a.lM.K a.lM.lC.lK a.lM.lC.lN B a.lM.Kids.length D) rfl aV aC)) (bS z fun h5 d9 z => zG 7 rfl rfl (cB j) (Eg d call72 (vu a.lM (.slice B a.lM.Kids.length D) _ _ (F.mono mg.mono d.lL) d9) (fun g8 d => ?_))))
  have b := d.has.lF (Kb Sn)
  refine ⟨b, (Xg 8 rfl rfl (cB j) b (oy rfl) (X 9 rfl b (mi (cB j) rfl) ?_))⟩
  obtain rfl := sj z
  refine nu kr (A _ _ ⟨_, (d.lF St), a3, rfl, rfl, N, v, m, rfl⟩)
 rintro E W ⟨a2, ⟨m, v⟩, d, a3, N, t⟩
 rw [aI] at t
 exact lU (sg (Wa (lt (rQ t d))))
theorem yI (g : Value) (t : List mI) (j : Value) (z : mI → Option Bool) (r : Int) (w : World) (c : Sl mC 15 (hp w) g t) (B : zh pg0 j (hp w) (Cg mC) (fun (r : Bool) => (.bool r)) z) (hm : qX t z = some r) :
  mo false pg0 127 [g, j] w (.int .i64 r) := by
 refine cG 19 func127 rfl (fun b => sg (Wa (lS (Wm (V (mV dC rfl c) (Wm (ln (mM (fun i E W => ∃ k, (E 8 = .int .i64 (i : Nat) ∧ E 7 = .int .i64 (t.length : Nat)) ∧ ST false mD w W (hp w) k ∧ E 0 = g ∧ E 1 = j ∧ pw z (t.drop i) i = some r) t.length c.len ⟨_, ⟨rfl, rfl⟩, (b.lF St), rfl, rfl, hm⟩ dc dc dc (fun _ _ _ h => by obtain ⟨_, l, _⟩ := h; exact l) ?_ ?_))))))))
 ·rintro T E W G ⟨k, ⟨d, m⟩, b, u, x, a⟩
  obtain ⟨y, Z, N, M, Q⟩ := mE G
  rw [N] at a
  refine bg (Wh d (Wa (lr (Wh x (Wh u (Wm (VQ (nS (i := (T : Int)) (x0 := y) mC.out dC dH rfl rfl c (aF _) M) (fun a2 ⟨_, ⟨U, Y, rfl, J, K⟩, H⟩ => V (lJ rfl (mr b.has H jF dH)) (bS a fun a3 I a => ?_)))))))))
  refine VE (AN y b B (mx.refl _) (Cg.mk mK (mC.mk ⟨U, Y, rfl, J, K⟩) b.lL) rfl (vc rfl) I (fun n b => ln (CI a rfl (fun D a => ?_) (fun D a => ?_))))
  ·refine sg (Wm (Wa (lt (nY (mL (nY (mL ?_)))))))
   obtain rfl := sj a
   exact rP b
  exact nf (mJ (lU ⟨d, _, ⟨rfl, m⟩, (b.lF St), u, x, (by rw [Q]; exact a)⟩))
 rintro E W ⟨k, ⟨d, m⟩, b, u, x, a⟩
 rw [aI] at a
 exact lU (sg (Wa (lt (rQ a b))))
theorem BJ (a : Value) (g : List mI) (c : Value) (i : mI → Option Bool) (r : Bool) (w : World) (j : Sl mC 15 (hp w) a g) (k : zh pg0 c (hp w) (Cg mC) (fun (r : Bool) => (.bool r)) i) (hm : rD g i = some r) :
  mo false pg0 202 [a, c] w (.bool r) := by
 refine cG 9 func202 rfl (fun b => sg (Wa (lr (Wm (Wm (bS hm fun x t hm => VE (Eg b call127 (yI a g c i _ _ (j.mono mK.mono b.lL) (k.mono b.lL) t) (fun u b => Wi rfl (Wa (mz ?_))))))))))
 exact lU (mu (rQ hm b))
theorem JC (a : mI) (g c : Value) (k : Nat) (u : lD) (r : Bool) (w : World) (j : Sl (Pl (ns .u8)) 1 (hp w) g a.Signed.Tag) (i : Sl lI 5 (hp w) c a.lM.Kids) (t : At (hp w) (.pointer (some ⟨k, 0, none⟩)) (lE u)) (hm : zi a u = some r) :
  mo true pg0 128 [(.agg #[(.int .i64 a.Signed.lD.Kind), (.string a.Signed.lD.Head.lK), (.string a.Signed.lD.Head.lN), (.string a.Signed.lD.mX), (.string a.Signed.lD.B.lK), (.string a.Signed.lD.B.lN), (.string a.Signed.lD.C.lK), (.string a.Signed.lD.C.lN), (.string a.Signed.lD.mQ), g, (.int .i64 a.lM.Op), (.int .i64 a.lM.K), (.string a.lM.lC.lK), (.string a.lM.lC.lN), c]), (.pointer (some ⟨k, 0, none⟩))] w (.bool r) := by
 refine cG 9 func128 rfl (fun b => sg ?_)
 obtain ⟨x, z, rfl⟩ := j.form
 obtain ⟨y, B, rfl⟩ := i.form
 refine VE (mG b rfl (fun D G b => Wa (lr (Wf xZ (Wf xh (VA b Mh (lE a.Signed.lD) bD aJ (V (lJ rfl (mr b.has t bD aJ)) (V (vx rfl rfl (oI fN) (rA (wP _ a.Signed.lD u))) (Wa (ln ?_))))))))))
 exact mu (rQ hm b)
theorem NN (k : lH) (g j : Value) (D : lD) (r : (mI × Bool)) (w : World) {J : mN} (l : pC J [] w) (c : Sl mC 15 J g k.lZ) (B : Sl mZ 8 J j k.mq) (hm : Bq k D = some r) :
  nO false pg0 69 [(.agg #[(.string k.Name), g, j]), (.agg (lE D).toArray)] w J [] (fun v L1 μ1 => ∃ d h, v = (.tuple #[(.agg #[(.int .i64 ((((r.1).Signed).lD).Kind)), (.string (((((r.1).Signed).lD).Head).lK)), (.string (((((r.1).Signed).lD).Head).lN)), (.string ((((r.1).Signed).lD).mX)), (.string (((((r.1).Signed).lD).B).lK)), (.string (((((r.1).Signed).lD).B).lN)), (.string (((((r.1).Signed).lD).C).lK)), (.string (((((r.1).Signed).lD).C).lN)), (.string ((((r.1).Signed).lD).mQ)), d, (.int .i64 (((r.1).lM).Op)), (.int .i64 (((r.1).lM).K)), (.string ((((r.1).lM).lC).lK)), (.string ((((r.1).lM).lC).lN)), h]), (.bool (r.2))]) ∧ L1 = [] ∧ Sl (Pl (ns .u8)) 1 μ1 d (((r.1).Signed).Tag) ∧ Sl lI 5 μ1 h (((r.1).lM).Kids)) := by
 refine wj l 19 func69 rfl (fun b => sg ?_)
 obtain ⟨T, U, rfl⟩ := c.form
 obtain ⟨A3, c4, rfl⟩ := B.form
 refine VE (mG b rfl (fun W6 O b => VE (mG b rfl (fun W8 K b => VE (my b eP (fun F R b => Wa (lr (Wf xT (VB b (Mt (Mt Mh)) rfl rfl jE (V (qz (by exact vc rfl) rfl) (bS hm fun Z Q hm => VE (Eg b call127 (yI (.slice T k.lZ.length U) k.lZ (.func (.func 128) #[] #[(.pointer (some ⟨K, 0, none⟩))]) (fun (x : mI) => zi x D) _ _ (c.mono mK.mono b.lL) ⟨128, #[], #[(.pointer (some ⟨K, 0, none⟩))], rfl, call128, fun W x vs r n m hm => by obtain ⟨_, rfl, Y⟩ := m; obtain ⟨s, A, rfl, o, q⟩ := Y.out; exact (JC x s A K D r W o q (At.of (n _ _ (b.at_ (Mt Mh))) _ rfl) hm).nz⟩ Q) (fun L b => Wa (mz ?_))))))))))))))
 refine lU ?_
 replace b := b.lF (Kb (Db St))
 refine mf (sg (Wm (Wi rfl (ln (CI hm rfl (fun M hm => ?_) (fun M hm => ?_))))))
 ·refine sg (V (nW (v := (.agg RQ.toArray)) sM (nw eP gS (Sp _ gS) kr)) (VO (mj (.agg RQ.toArray) (RQ.toArray) b rfl rfl dH oc nb rfl (fun P b => Wa (ln ?_)))))
  replace b := b.lF (Kb (Db St))
  refine mu (mL ?_)
  obtain rfl := sj hm
  exact tk (v0 := (.agg RQ.toArray)) (v1 := (.bool false)) rfl rfl (lQ b.has Mh RQ rfl jF dH) rfl ⟨_, _, _, rfl, (b.ov Sn), (mx.refl _), Lo.refl, (ST.nt b (oT.mem Sn)), (.slice none 0 0), (.slice none 0 0), rfl, rfl, (Sl.nil _ _ _), (Sl.nil _ _ _)⟩
 refine kg (Wf xT (VB b (Mt Mh) rfl rfl jE (Wm (bS hm fun a I hm => VQ (nS (i := Z) (x0 := a) mC.out dC dH rfl rfl c (mF I) (mA I)) (fun c1 ⟨_, ⟨c3, c5, rfl, G, H⟩, N⟩ => V (lJ rfl (mr b.has N jF dH)) ?_)))))
 obtain ⟨t, y, rfl⟩ := G.form
 obtain ⟨u, z, rfl⟩ := H.form
 let a0 := (C3 a.Signed.lD.Kind a.Signed.lD.Head.lK a.Signed.lD.Head.lN a.Signed.lD.mX a.Signed.lD.B.lK a.Signed.lD.B.lN a.Signed.lD.C.lK a.Signed.lD.C.lN a.Signed.lD.mQ t a.Signed.Tag.length y a.lM.Op a.lM.K a.lM.lC.lK a.lM.lC.lN u a.lM.Kids.length z)
 refine VO (mj (.agg a0.toArray) (a0.toArray) b rfl rfl dH oc nb rfl (fun c0 b => Wa (ln ?_)))
 replace b := b.lF (Kb (Db St))
 refine mu ?_
 obtain rfl := sj hm
 exact tk (v0 := (.agg a0.toArray)) (v1 := (.bool true)) rfl rfl (lQ b.has Mh a0 rfl jF dH) rfl ⟨_, _, _, rfl, (b.ov Sn), (mx.refl _), Lo.refl, (ST.nt b (oT.mem Sn)), (.slice t a.Signed.Tag.length y), (.slice u a.lM.Kids.length z), rfl, rfl, G, H⟩
theorem zA (c : Value) (u r : List nx) (w : World) {j : mN} (I : pC j [] w) (a : Sl mZ 8 j c u) (hm : qH u = some r) :
  nO true pg0 130 [c] w j [] (fun v G J => ∃ z t, v = z ∧ G = (t ++ []) ∧ nm 87 mZ 8 J z r t) := by
 unfold qH at hm
 refine wj I 8 func130 rfl (fun b => sg (Wa (lS (Wm ?_))))
 obtain ⟨D, Q, rfl⟩ := a.form
 refine V (Bc cD rfl rfl) (ln ?_)
 rcases D with _ | M
 ·have y := a.isNil
  replace hm : some [] = some r := by rw [y] at hm; simpa [oH, maxLen] using hm
  refine vX (rfl) (sg (Wa (lt (mL ?_))))
  obtain rfl := sj hm
  refine nc (v := (.slice none 0 0)) rfl rfl ?_
  replace b := b.Vl
  exact ⟨_, _, _, rfl, (b.ov (Kr Sn)), (mx.refl _), Lo.refl, (ST.nt b (oT.mem (Kr Sn))), (.slice none 0 0), [], rfl, rfl, (nm.nil _ _ _ _)⟩
 ·refine qx (rfl) (kg (VE (mH (cs := #[]) b sM (Bf [] cD dA fY dc rfl (by simp) rfl rfl) (fun N H b => Wm (bS hm fun T x hm => VE (wk (B := [(H, Ob #[] 87)]) nH b dc cD CD.1 CD.2.1 rfl CD.2.2.1 CD.2.2.2 rfl rfl (nm.lit nH (l := []) .nil rfl nb rfl) (D5.sl nH a b.lL) x (fun K g k b i => Wa (lt ?_))))))))
  obtain rfl := sj hm
  exact nc (v := g) rfl rfl ⟨_, _, _, rfl, (b.ov (Kr Sn)), (mx.refl _), Lo.refl, (ST.nt b (oT.mem (Kr Sn))), g, k, rfl, rfl, i⟩
theorem wY (k : Value) (a0 : List nx) (y : LO) (J : Value) (f1 : nx → Option Bool) (r : List nx) (w : World) {Y : mN} (h0 : pC Y (y ++ []) w) (n : nm 87 mZ 8 Y k a0 y) (a9 : zh pg0 J Y (Cg mZ) (fun (r : Bool) => (.bool r)) f1) (hm : pd a0 f1 = some r) :
  nO false pg0 129 [k, J] w Y (y ++ []) (fun v L1 μ1 => ∃ R, v = R ∧ L1 = [] ∧ Sl mZ 8 μ1 R (r)) := by
 refine wj h0 42 func129 rfl (fun d => sg (Wa (lr (Wm (Wm (bS hm fun P d7 hm => VE (Eg d call190 (Av k a0 J f1 _ _ (n.sl nH d.lL (fun b o s => d.at_ (Ml s))) (a9.mono d.lL) d7) (fun W3 d => Wa (ln ?_)))))))))
 refine mf (sg (Wm (Wi rfl (ln (CI hm rfl (fun d6 hm => ?_) (fun d6 hm => ?_))))))
 ·refine sg (Wm (Wa (lt (mL ?_))))
  obtain rfl := sj hm
  refine nc (v := k) rfl rfl ?_
  obtain ⟨aa, d, d2, q, d8⟩ := ST.yZ nH d n
  exact ⟨_, _, _, rfl, (d.ov Sn), d2, q, (ST.nt d (oT.mem Sn)), k, rfl, rfl, d8⟩
 refine kS (Wm (Wi rfl (Wa (ln (nL (pn (fun m E W => ∃ a2 K G H F, ST false (keys (y ++ [])) w W Y (K ++ F) ∧ E 0 = k ∧ E 1 = J ∧ E 5 = (.int .i64 G) ∧ E 6 = (.int .i64 H) ∧ nm 87 mZ 8 Y k a2 K ∧ pR f1 m a2 G H = some r) mR ⟨a0, y, P, (wi0 .i64 (P + 1)), _, (d.lF St), rfl, rfl, rfl, rfl, n, hm⟩ ?_))))))
 rintro m E W ⟨a2, K, G, H, F, d, t, Z, I, N, j, c⟩
 cases m with
 | zero => rw [pR] at c; cases c
 | succ d4 =>
  refine mf (sg (Wh N (Wh t (V (Bg cD rfl j) (Wi rfl (ln (CI c rfl (fun b6 c => ?_) (fun b6 c => ?_))))))))
  ·refine kn (mf (CJ c (fun a3 E W => ∃ M L, ST false (keys (y ++ [])) w W Y (M ++ L) ∧ E 0 = k ∧ E 1 = J ∧ E 5 = (.int .i64 a3.2) ∧ E 6 = (.int .i64 H) ∧ nm 87 mZ 8 Y k a3.1 M) (fun a3 g => ?_) ?_))
   ·refine bg (Wh t (Wh N (bS g fun a A g => VQ (nR (i := H) mZ.out cD dA rfl rfl j (mF A) (mA A)) (fun f5 ⟨_, ⟨f8, f9, rfl, Q, T⟩, c1, e1⟩ => V (lJ rfl (mr (qc.hp _) (c1.mono (oB (fun b o s => d.has.2 b o (Ml s)))) js dA)) (VE (my d fY (fun e7 f3 d => ?_)))))))
    obtain ⟨u, B, rfl⟩ := Q.form
    obtain ⟨x, D, rfl⟩ := T.form
    let l := (C6 a.lC.lK a.lC.lN a.lM.Op a.lM.K a.lM.lC.lK a.lM.lC.lN u a.lM.Kids.length B x a.nj.length D)
    refine VO (mj (.agg l.toArray) (l.toArray) d rfl rfl dA oc nb rfl (fun e8 d => lr (Wh Z (VA d Mh l js dA (bS g fun f7 c2 g => VE (AN a d a9 (mx.refl _) (Cg.mk nH (mZ.mk ⟨(.slice u a.lM.Kids.length B), (.slice x a.nj.length D), rfl, Q, T⟩) d.lL) rfl (vc rfl) c2 (fun e9 d => V (oy rfl) (ln (CI g rfl (fun b7 g => ?_) (fun b7 g => ?_))))))))))
    ·refine sg (Wh t (Wh I (VA d Mh l js dA (bS g fun g3 U g => VQ (nR (i := G) mZ.out cD dA rfl rfl j (mF U) (mA U)) (fun f6 ⟨_, ⟨g0, g1, rfl, e3, e4⟩, e2, b9⟩ => ?_)))))
     replace d := d.perm (Nr (Qb Qz) Nz)
     refine VO (tI (x1 := a) nH d j rfl rfl (mZ.mk ⟨(.slice u a.lM.Kids.length B), (.slice x a.nj.length D), rfl, Q, T⟩) b9 (mA U) dA (fun f0 c7 d b4 => ln ?_))
     replace d := d.lF (Kr (Db St))
     refine ma (Wh I (Wi rfl (Wa (mz (mJ (lU ?_))))))
     obtain rfl := sj g
     exact ⟨c7, _, (d.lF St), t, Z, rfl, N, b4⟩
    refine nf (mJ (lU ?_))
    obtain rfl := sj g
    exact ⟨K, _, (d.lF (Db St)), t, Z, I, N, j⟩
   rintro ⟨d3, d5⟩ E W ⟨M, L, d, c8, c9, d0, d1, c3⟩ c0
   exact ma (Wh d1 (Wi rfl (Wa (ln ⟨d4, bF _, d3, M, d5, (wi0 .i64 (H + 1)), _, (d.lF St), c8, c9, d0, rfl, c3, c0⟩))))
  refine pk (oR (oR (tE (lU (sg (Wh t (Wh I (bS c fun _ a4 c => VQ (DK (i := G) cD dA rfl rfl j (ue a4) (tL a4)) (fun g2 c4 => VO (GQ (z := (⟨K0, (⟨0, 0, K0, []⟩ : Formula), []⟩ : nx)) (zs := [(.string zS), (.string zS), (.int .i64 0), (.int .i64 0), (.string zS), (.string zS), (.slice none 0 0), (.slice none 0 0)]) nH d j (mZ.mk ⟨(.slice none 0 0), (.slice none 0 0), rfl, (Sl.nil _ _ _), (Sl.nil _ _ _)⟩) cD fY c4 rfl rfl (fun f2 e6 d b5 => lr (Wh t ?_))))))))))))
  refine Wh I (bS c fun _ a5 c => VQ (JH (i := G) cD dA rfl rfl b5 (ue a5) (tL a5)) (fun O c5 => Wa (lt ?_)))
  obtain rfl := sj c
  refine nc (v := O) rfl rfl ?_
  obtain ⟨g7, d, b0, h, c6⟩ := ST.yZ nH d c5
  exact ⟨_, _, _, rfl, (d.ov Sn), b0, h, (ST.nt d (oT.mem Sn)), O, rfl, rfl, c6⟩
theorem GJ (j : Value) (t : List lD) (c : lD) (r : Int) (w : World) (g : Sl (Pl lE) 9 (hp w) j t) (hm : zd t c = some r) :
  mo true pg0 186 [j, (.agg (lE c).toArray)] w (.int .i64 r) := by
 refine cG 19 func186 rfl (fun b => sg (VE (mG b rfl (fun Q J b => Wa (lS (Wm (V (mV aK rfl g) (Wm (ln ?_)))))))))
 refine mM (fun i E W => ∃ k, (E 8 = .int .i64 (i : Nat) ∧ E 7 = .int .i64 (t.length : Nat)) ∧ ST true mD w W (hp w) ((J, Ol (lE c) 52) :: k) ∧ E 0 = j ∧ E 3 = (.pointer (some ⟨J, 0, none⟩)) ∧ su c (t.drop i) i = some r) t.length g.len ⟨_, ⟨rfl, rfl⟩, (b.lF St), rfl, rfl, hm⟩ dc dc dc (fun _ _ _ h => by obtain ⟨_, m, _⟩ := h; exact m) ?_ ?_
 ·rintro K E W B ⟨k, ⟨l, o⟩, b, u, x, a⟩
  obtain ⟨y, M, H, G, I⟩ := mE B
  rw [H] at a
  refine bg (Wh l (Wa (ln (mf ?_))))
  replace b := b.drew
  have d := b.has.lF (Kb Sn)
  refine mT d mB (XH 0 rfl d (fun _ n => lJ x (lQ n Mh (lE c) rfl bD aJ)) (X 1 rfl d (lP u) (X 2 rfl d (lP rfl) (XQ 3 rfl d (og (enc := lE) (i := (K : Int)) (x0 := y) aK aJ rfl rfl g (aF _) G) (fun N D => XH 4 rfl d (fun _ n => lJ rfl (mr n D bD aJ)) (X 5 rfl d (vx rfl rfl (oI fN) (rA (wP _ c y))) (nh kr (lU (CI a rfl (fun z a => ?_) (fun z a => ?_))))))))))
  ·refine sg (Wm (Wa (ln ?_)))
   replace b := b.lF (Db St)
   refine mu (nY (mL (nY (mL ?_))))
   obtain rfl := sj a
   exact rP b
  exact nf (mJ (lU ⟨l, _, ⟨rfl, o⟩, (b.lF St), u, x, (by rw [I]; exact a)⟩))
 rintro E W ⟨k, ⟨l, o⟩, b, u, x, a⟩
 rw [aI] at a
 refine lU ?_
 replace b := b.lF (Db St)
 exact sg (Wa (lt (rQ a b)))
theorem EJ (a : Value) (g : List lD) (c : lD) (r : Bool) (w : World) (i : Sl (Pl lE) 9 (hp w) a g) (hm : vd g c = some r) :
  mo true pg0 124 [a, (.agg (lE c).toArray)] w (.bool r) := by
 refine cG 9 func124 rfl (fun b => sg (VE (mG b rfl (fun k u b => Wa (lr (Wm (VA b Mh (lE c) bD aJ (bS hm fun x j hm => VE (Eg b call186 (GJ a g c _ _ (i.mono (Pl.mono _) b.lL) j) (fun t b => Wi rfl (Wa ?_)))))))))))
 refine ln ?_
 exact mu (rQ hm b)
theorem Br (a : Value) (g : List lD) (c : lD) (r : Bool) (w : World) (i : Sl (Pl lE) 9 (hp w) a g) (hm : rZ g c = some r) :
  mo true pg0 60 [a, (.agg (lE c).toArray)] w (.bool r) := by
 refine cG 8 func60 rfl (fun b => sg (VE (mG b rfl (fun k u b => Wa (lr (Wm (VA b Mh (lE c) bD aJ (bS hm fun x j hm => VE (Eg b call124 (EJ a g c _ _ (i.mono (Pl.mono _) b.lL) j) (fun t b => Wa (mz ?_)))))))))))
 refine lU ?_
 exact mu (rQ hm b)
theorem IN (c : nx) (a i : Value) (k : Nat) (u : lD) (r : Bool) (w : World) (j : Sl lI 5 (hp w) a c.lM.Kids) (g : Sl (Pl lE) 9 (hp w) i c.nj) (t : At (hp w) (.pointer (some ⟨k, 0, none⟩)) (lE u)) (hm : uV c u = some r) :
  mo true pg0 131 [(.agg #[(.string c.lC.lK), (.string c.lC.lN), (.int .i64 c.lM.Op), (.int .i64 c.lM.K), (.string c.lM.lC.lK), (.string c.lM.lC.lN), a, i]), (.pointer (some ⟨k, 0, none⟩))] w (.bool r) := by
 refine cG 9 func131 rfl (fun b => sg ?_)
 obtain ⟨B, D, rfl⟩ := j.form
 obtain ⟨x, y, rfl⟩ := g.form
 refine VE (mG b rfl (fun G I b => Wa (lr (Wf Ea (VB b Mh rfl rfl eH (V (lJ rfl (mr b.has t bD aJ)) (bS hm fun J z hm => VE (Eg b call60 (Br (.slice x c.nj.length y) c.nj u _ _ (g.mono (Pl.mono _) b.lL) z) (fun H b => V (oy rfl) (Wa (ln ?_)))))))))))
 exact mu (rQ hm b)
theorem Mr (i : lH) (a g : Value) (y : lD) (r : List nx) (w : World) {G : mN} (q : pC G [] w) (j : Sl mC 15 G a i.lZ) (c : Sl mZ 8 G g i.mq) (hm : AP i y = some r) :
  nO false pg0 70 [(.agg #[(.string i.Name), a, g]), (.agg (lE y).toArray)] w G [] (fun v L1 μ1 => ∃ n, v = n ∧ L1 = [] ∧ Sl mZ 8 μ1 n (r)) := by
 refine wj q 10 func70 rfl (fun b => sg ?_)
 obtain ⟨A1, c2, rfl⟩ := j.form
 obtain ⟨Y, o, rfl⟩ := c.form
 refine VE (mG b rfl (fun W6 b5 b => VE (mG b rfl (fun W8 z b => Wa (lr (Wf DP (VB b (Mt Mh) rfl rfl lA (bS hm fun J N hm => ?_))))))))
 refine VE (eD b (bI _) call130 (fun m => nO.nz (zA (.slice Y i.mq.length o) i.mq _ _ m (c.mono nH.mono (mx.refl _)) N)) ?_ (L0 := []))
 rintro _ c3 c6 P b B d ⟨a5, Z, k, rfl, T⟩
 obtain rfl := k.symm
 replace b := b.perm (Tr Tn)
 refine V (qz (by exact vc rfl) rfl) ?_
 replace b := b.perm (Nb (Pr Pz) Nz)
 obtain ⟨c7, b, u, h, M⟩ := ST.yH (R := [(z, Ol (lE y) 52)]) b
 have K := At.of (M _ _ (.head _)) _ rfl
 refine bS hm fun c1 Q hm => ?_
 refine VE (eD b (Cr Qz Cn) call129 (fun m => (wY a5 J Z (.func (.func 131) #[] #[(.pointer (some ⟨z, 0, none⟩))]) (fun (x : nx) => uV x y) _ _ m (T.mono nH u) ⟨131, #[], #[(.pointer (some ⟨z, 0, none⟩))], rfl, call131, fun W x vs r A s hm => by obtain ⟨_, rfl, a3⟩ := s; obtain ⟨L, O, rfl, F, I⟩ := a3.out; exact (IN x L O z y r W F I (K.mono ((mx.refl _).trans A)) hm).nz⟩ Q)) ?_)
 rintro _ c5 c8 b6 b D l ⟨H, t, rfl, U⟩
 obtain rfl := t.symm
 refine Wa (ln ?_)
 replace b := b.lF (Db St)
 refine mu ?_
 obtain rfl := sj hm
 exact nc (v := H) rfl rfl ⟨_, _, _, rfl, (b.ov Sn), ((B.trans u).trans D), ((d.trans h).trans l), (ST.nt b (oT.mem Sn)), H, rfl, rfl, U⟩
theorem Ce (i : Formula) (g : Value) (x : Int) (r : Bool) (w : World) (c : Sl lI 5 (hp w) g i.Kids) (hm : wo i x = some r) :
  mo true pg0 285 [(.agg #[(.int .i64 i.Op), (.int .i64 i.K), (.string i.lC.lK), (.string i.lC.lN), g]), (.int .i64 x)] w (.bool r) := by
 refine cG 15 func285 rfl (fun b => sg ?_)
 obtain ⟨B, D, rfl⟩ := c.form
 refine VE (mG b rfl (fun G H b => Wa (lr (Wf rK (VB b Mh rfl rfl cH (Wm (Wi rfl (Wm (LJ hm (fun t E W => ∃ u, ST true mD w W (hp w) u ∧ E 4 = (.bool false) ∧ E 14 = (.bool t)) 5 ?_ (fun t j k => ?_))))))))))
 ·rintro J E W ⟨u, b, I, y⟩ z
  exact Wg y (lt (rQ z b))
 refine bC j (fun a j => ?_) (fun a j => ?_)
 ·refine ug a (lO rH rfl) (ug a (lJ rfl (lX b.has Mh rfl fH)) (ug a (mV aH rfl c) (ug a (mP rfl rfl rfl) (V (mh (cB a) rfl) ?_))))
  obtain rfl := sj j
  exact k _ _ ⟨_, (b.lF (Db St)), rfl, rfl⟩
 refine un a (un a (un a (un a (V (mi (cB a) rfl) ?_))))
 obtain rfl := sj j
 exact k _ _ ⟨_, (b.lF (Db St)), rfl, rfl⟩
theorem Jx (r : Formula) (w : World) {c : mN} (i : pC c [] w) (hm : Bx  = some r) :
  nO true pg0 286 [] w c [] (fun v g j => ∃ a, v = (.agg #[(.int .i64 ((r).Op)), (.int .i64 ((r).K)), (.string (((r).lC).lK)), (.string (((r).lC).lN)), a]) ∧ g = [] ∧ Sl lI 5 j a ((r).Kids)) := by
 refine wj i 2 func286 rfl (fun b => sg (VE (my b bG (fun k u b => lr (V (nW (v := (.agg RT.toArray)) (oE rfl) (nw bG cP (DI _ cP) kr)) (VO (mj (.agg RT.toArray) (RT.toArray) b rfl rfl aC oc nb rfl (fun t b => lt ?_))))))))
 obtain rfl := sj hm
 exact tj (v := (.agg RT.toArray)) rfl rfl (lQ b.has Mh RT rfl aV aC) ⟨_, _, _, rfl, (b.ov Sn), (mx.refl _), Lo.refl, (ST.nt b (oT.mem Sn)), (.slice none 0 0), rfl, rfl, (Sl.nil _ _ _)⟩
theorem KB (r : Formula) (w : World) {c : mN} (i : pC c [] w) (hm : B7  = some r) :
  nO true pg0 287 [] w c [] (fun v g j => ∃ a, v = (.agg #[(.int .i64 ((r).Op)), (.int .i64 ((r).K)), (.string (((r).lC).lK)), (.string (((r).lC).lN)), a]) ∧ g = [] ∧ Sl lI 5 j a ((r).Kids)) := by
 refine wj i 2 func287 rfl (fun b => sg (VE (my b bG (fun k u b => lr (V (nW (v := (.agg Q9.toArray)) (oE rfl) (nw bG cP (DI _ cP) kr)) (VO (mj (.agg Q9.toArray) (Q9.toArray) b rfl rfl aC oc nb rfl (fun t b => lt ?_))))))))
 obtain rfl := sj hm
 exact tj (v := (.agg Q9.toArray)) rfl rfl (lQ b.has Mh Q9 rfl aV aC) ⟨_, _, _, rfl, (b.ov Sn), (mx.refl _), Lo.refl, (ST.nt b (oT.mem Sn)), (.slice none 0 0), rfl, rfl, (Sl.nil _ _ _)⟩
theorem Mq (T : Int) (J : Value) (M r : List Formula) (w : World) {Q : mN} (h0 : pC Q [] w) (I : Sl lI 5 Q J M) (hm : CY T M = some r) :
  nO true pg0 289 [(.int .i64 T), J] w Q [] (fun v L1 μ1 => ∃ q, v = q ∧ L1 = [] ∧ Sl lI 5 μ1 q (r)) := by
 refine wj h0 28 func289 rfl (fun b => sg (Wa (lr (Wa (lS (Wm ?_))))))
 refine V (mV aH rfl I) (Wm (ln (mM (fun i E W => ∃ t G k H, (E 10 = .int .i64 (i : Nat) ∧ E 9 = .int .i64 (M.length : Nat)) ∧ ST true (keys []) w W Q (k ++ H) ∧ E 0 = (.int .i64 T) ∧ E 5 = t ∧ E 8 = J ∧ nm 58 lI 5 Q t G k ∧ tf T (M.drop i) G = some r) M.length I.len ⟨(.slice none 0 0), ([]), [], _, ⟨rfl, rfl⟩, (b.lF St), rfl, rfl, rfl, (nm.nil _ _ _ _), hm⟩ dc dc dc (fun _ _ _ h => by obtain ⟨_, _, _, _, n, _⟩ := h; exact n) ?_ ?_)))
 ·rintro b5 E W a4 ⟨t, G, k, H, ⟨m, o⟩, b, x, y, z, u, c⟩
  obtain ⟨a, b7, F, A, K⟩ := mE a4
  rw [F] at c
  refine bg (VQ (nS (i := (b5 : Int)) (x0 := a) lI.out aH aC z m I (aF _) A) (fun c8 ⟨_, ⟨c9, rfl, D⟩, a5⟩ => V (lJ rfl (mr b.has a5 aV aC)) (VE (my b bG (fun c0 c5 b => ?_)))))
  obtain ⟨g, j, rfl⟩ := D.form
  let a0 := (C1 a.Op a.K a.lC.lK a.lC.lN g a.Kids.length j)
  refine VO (mj (.agg a0.toArray) (a0.toArray) b rfl rfl aC oc nb rfl (fun c1 b => lr (Wf rK (VB b Mh rfl rfl cH (Wh x (Wi rfl (ln (CI c rfl (fun Z c => ?_) (fun Z c => ?_)))))))))
  ·refine ma (Wh y (Wf rH (VB b Mh rfl rfl fH ?_)))
   replace b := b.perm (Nr (Qb Qz) Nz)
   refine bS c fun O a2 c => VE (wk (B := k) mg b dc aH rq.1 rq.2.1 rfl rq.2.2.1 rq.2.2.2 rfl rfl u (D5.sl mg D b.lL) a2 (fun c2 R a9 b U => Wa (mz (mJ (lU ?_)))))
   replace b := b.lF (Kr (Db St))
   exact ⟨m, R, O, a9, _, ⟨rfl, o⟩, (b.lF St), x, rfl, z, U, (by rw [K]; exact c)⟩
  refine ma (Wh y (VA b Mh a0 aV aC (VE (mH (cs := a0.toArray) b (oE rfl) (ot aH aC bG) (fun c3 c6 b => ?_)))))
  replace b := b.perm (Nr (Qb (Qb Qz)) Nz)
  refine bS c fun P a3 c => VE (wk (B := k) mg b dc aH rq.1 rq.2.1 rfl rq.2.2.1 rq.2.2.2 rfl rfl u (D5.lit mg (l := [a]) (.cons (ys := C1 a.Op a.K a.lC.lK a.lC.lN g a.Kids.length j) (lI.mk ⟨(.slice g a.Kids.length j), rfl, D⟩) .nil) rfl nb (b.at_ (Ma Mh))) a3 (fun c4 b4 L b Y => Wa (mz (mJ (lU ?_)))))
  replace b := b.lF (Kr (Db (Db St)))
  exact ⟨m, b4, P, L, _, ⟨rfl, o⟩, (b.lF St), x, rfl, z, Y, (by rw [K]; exact c)⟩
 rintro E W ⟨t, G, k, H, ⟨m, o⟩, b, x, y, z, u, c⟩
 rw [aI] at c
 refine lU (sg (Wh y (Wa (lt ?_))))
 obtain rfl := sj c
 refine nc (v := t) rfl rfl ?_
 obtain ⟨d1, b, N, d, s⟩ := ST.yZ mg b u
 exact ⟨_, _, _, rfl, (b.ov Sn), N, d, (ST.nt b (oT.mem Sn)), t, rfl, rfl, s⟩
theorem Dm (a : Formula) (g : Value) (i : Nat) (j : Int) (r : Bool) (w : World) (c : Sl lI 5 (hp w) g a.Kids) (k : At (hp w) (.pointer (some ⟨i, 0, none⟩)) [(.int .i64 j)]) (hm : tu a j = some r) :
  mo true pg0 290 [(.agg #[(.int .i64 a.Op), (.int .i64 a.K), (.string a.lC.lK), (.string a.lC.lN), g]), (.pointer (some ⟨i, 0, none⟩))] w (.bool r) := by
 refine cG 7 func290 rfl (fun b => sg ?_)
 obtain ⟨t, u, rfl⟩ := c.form
 refine VE (mG b rfl (fun z D b => Wa (lr (VA b Mh (C1 a.Op a.K a.lC.lK a.lC.lN t a.Kids.length u) aV aC (V (lJ rfl (po b.has (y := (.int .i64 j)) k cH)) (bS hm fun G x hm => VE (Eg b call285 (Ce a (.slice t a.Kids.length u) j _ _ (c.mono mg.mono b.lL) x) (fun B b => Wa (ln ?_)))))))))
 exact mu (rQ hm b)
theorem EO (c : Value) (u r : List Formula) (w : World) {j : mN} (I : pC j [] w) (a : Sl lI 5 j c u) (hm : uZ u = some r) :
  nO true pg0 320 [c] w j [] (fun v G J => ∃ z t, v = z ∧ G = (t ++ []) ∧ nm 58 lI 5 J z r t) := by
 unfold uZ at hm
 refine wj I 8 func320 rfl (fun b => sg (Wa (lS (Wm ?_))))
 obtain ⟨D, Q, rfl⟩ := a.form
 refine V (Bc aH rfl rfl) (ln ?_)
 rcases D with _ | M
 ·have y := a.isNil
  replace hm : some [] = some r := by rw [y] at hm; simpa [oH, maxLen] using hm
  refine vX (rfl) (sg (Wa (lt (mL ?_))))
  obtain rfl := sj hm
  refine nc (v := (.slice none 0 0)) rfl rfl ?_
  replace b := b.Vl
  exact ⟨_, _, _, rfl, (b.ov (Kr Sn)), (mx.refl _), Lo.refl, (ST.nt b (oT.mem (Kr Sn))), (.slice none 0 0), [], rfl, rfl, (nm.nil _ _ _ _)⟩
 ·refine qx (rfl) (kg (VE (mH (cs := #[]) b sM (Bf [] aH aC bG dc rfl (by simp) rfl rfl) (fun N H b => Wm (bS hm fun T x hm => VE (wk (B := [(H, Ob #[] 58)]) mg b dc aH rq.1 rq.2.1 rfl rq.2.2.1 rq.2.2.2 rfl rfl (nm.lit mg (l := []) .nil rfl nb rfl) (D5.sl mg a b.lL) x (fun K g k b i => Wa (lt ?_))))))))
  obtain rfl := sj hm
  exact nc (v := g) rfl rfl ⟨_, _, _, rfl, (b.ov (Kr Sn)), (mx.refl _), Lo.refl, (ST.nt b (oT.mem (Kr Sn))), g, k, rfl, rfl, i⟩
theorem uW (y : Value) (a0 : List Formula) (D : LO) (s a2 : Int) (T : Value) (f3 : (Formula × Formula) → Option Int) (r : List Formula) (w : World) {μ0 : mN} (h0 : pC μ0 (D ++ []) w) (h4 : nm 58 lI 5 μ0 y a0 D) (h5 : zh pg0 T μ0 (xH lI lI) (fun (r : Int) => (.int .i64 r)) f3) (hm : pe a0 s a2 f3 = some r) :
  nO false pg0 356 [y, (.int .i64 s), (.int .i64 a2), T] w μ0 (D ++ []) (fun v L1 μ1 => ∃ S1, v = (.tuple #[]) ∧ L1 = (S1 ++ []) ∧ nm 58 lI 5 μ1 y r S1) := by
 refine wj h0 53 func356 rfl (fun n => sg (Wm (Wi rfl (Wa (ln (vv (nL (pn (fun m E W => ∃ Y J x c9, ST false (keys (D ++ [])) w W μ0 (J ++ c9) ∧ E 0 = y ∧ E 1 = (.int .i64 s) ∧ E 2 = (.int .i64 a2) ∧ E 3 = T ∧ E 8 = (.int .i64 x) ∧ nm 58 lI 5 μ0 y Y J ∧ nI a2 s f3 m Y x = some r) mR ⟨a0, D, (wi0 .i64 (s + 1)), _, (n.lF St), rfl, rfl, rfl, rfl, rfl, h4, hm⟩ ?_))))))))
 rintro m E W ⟨Y, J, x, c9, n, f9, g0, d1, g1, O, c6, u⟩
 cases m with
 | zero => rw [nI] at u; cases u
 | succ h2 =>
  refine mf (sg (Wh O (Wh d1 (Wi rfl (ln (CI u rfl (fun e9 u => ?_) (fun e9 u => ?_)))))))
  ·refine kn (mf (bg (Wh O (Wa (ln (vv (CJ u (fun P E W => ∃ U d0, ST false (keys (D ++ [])) w W μ0 (U ++ d0) ∧ E 0 = y ∧ E 1 = (.int .i64 s) ∧ E 2 = (.int .i64 a2) ∧ E 3 = T ∧ E 8 = (.int .i64 x) ∧ nm 58 lI 5 μ0 y P U) (fun P f1 => ?_) ?_)))))))
   ·refine nL (pn (fun m E W => ∃ M B j b7, ST false (keys (D ++ [])) w W μ0 (B ++ b7) ∧ E 0 = y ∧ E 1 = (.int .i64 s) ∧ E 2 = (.int .i64 a2) ∧ E 3 = T ∧ E 8 = (.int .i64 x) ∧ E 9 = (.int .i64 j) ∧ nm 58 lI 5 μ0 y M B ∧ nT s f3 m M j = some P) mR ⟨Y, J, x, _, (n.lF St), f9, g0, d1, g1, O, rfl, c6, f1⟩ ?_)
    rintro m E W ⟨M, B, j, b7, n, K, Z, c0, a3, c1, G, t, I⟩
    cases m with
    | zero => rw [nT] at I; cases I
    | succ f4 =>
     refine mf (mf ?_)
     replace n := n.drew
     have d := n.has.lF (Kr Sn)
     refine mT d mB (X 0 rfl d (lP G) (X 1 rfl d (lP Z) (X 2 rfl d (mP rfl rfl rfl) (X 3 rfl d (lP rfl) (PJ I (fun c7 E W => ∃ b9, ST false (keys (D ++ [])) w W μ0 (B ++ b9) ∧ E 0 = y ∧ E 1 = (.int .i64 s) ∧ E 2 = (.int .i64 a2) ∧ E 3 = T ∧ E 8 = (.int .i64 x) ∧ E 9 = (.int .i64 j) ∧ E 34 = (.bool c7)) (bm 17 131071) 0 ?_ (fun c7 g a4 => ?_))))))
     ·rintro k2 E W ⟨b9, n, z, c2, c3, c4, c5, H, e8⟩ c
      have d := n.has.lF (Kr Sn)
      refine nh kr (lU (CI c e8 (fun d3 c => ?_) (fun d3 c => ?_)))
      ·refine kn (mf (nL ?_))
       replace n := n.drew
       have d := n.has.lF Sn
       have q := n.has.lF (Kr Sn)
       refine yi 15 d q mB (nv 0 rfl kr (.inl rfl) rfl dc (fun _ _ h => ⟨h.1, nQ br h.2⟩) ⟨d, fun _ => q⟩ (fun _ _ _ _ => lP z) (nv 1 rfl kr (.inl rfl) rfl dc (fun _ _ h => ⟨h.1, nQ br h.2⟩) ⟨d, fun _ => q⟩ (fun _ _ _ _ => lP H) (nv 2 rfl kr (.inl rfl) rfl dc (fun _ _ h => ⟨h.1, nQ br h.2⟩) ⟨d, fun _ => q⟩ (fun _ _ _ _ => lP z) (nv 3 rfl kr (.inl rfl) rfl dc (fun _ _ h => ⟨h.1, nQ br h.2⟩) ⟨d, fun _ => q⟩ (fun _ _ _ _ => lP H) (nv 4 rfl kr (.inl rfl) rfl dc (fun _ _ h => ⟨h.1, nQ br h.2⟩) ⟨d, fun _ => q⟩ (fun _ _ _ _ => mP rfl rfl rfl) (nv 5 rfl kr (.inl rfl) rfl dc (fun _ _ h => ⟨h.1, nQ br h.2⟩) ⟨d, fun _ => q⟩ (fun _ _ _ _ => lP z) (nv 6 rfl kr (.inl rfl) rfl dc (fun _ _ h => ⟨h.1, nQ br h.2⟩) ⟨d, fun _ => q⟩ (fun _ _ _ _ => lP H) (nv 7 rfl kr (.inl rfl) rfl dc (fun _ _ h => ⟨h.1, nQ br h.2⟩) ⟨d, fun _ => q⟩ (fun _ _ _ _ => mP rfl rfl rfl) (bS c fun a5 b0 c => uE 8 rfl kr (.inl rfl) rfl dc (fun _ _ h => ⟨h.1, nQ br h.2⟩) ⟨d, fun _ => q⟩ (nR (i := (wi0 .i64 (j - 1))) lI.out aH aC rfl rfl t (mF b0) (mA b0)) (fun i9 ⟨_, ⟨j8, rfl, a8⟩, d6, h6⟩ => nv 9 rfl kr (.inl rfl) rfl dc (fun _ _ h => ⟨h.1, nQ br h.2⟩) ⟨d, fun _ => q⟩ (fun l W F R => have A := (R.2 (F.GB 15 [9] kr rfl)); lJ rfl (mr (qc.hp _) (d6.mono (oB (fun b o L => A.2 b o (Ml L)))) aV aC)) (nv 10 rfl kr (.inl rfl) rfl dc (fun _ _ h => ⟨h.1, nQ br h.2⟩) ⟨d, fun _ => q⟩ (fun _ _ _ _ => lP z) (nv 11 rfl kr (.inl rfl) rfl dc (fun _ _ h => ⟨h.1, nQ br h.2⟩) ⟨d, fun _ => q⟩ (fun _ _ _ _ => lP H) (bS c fun k b1 c => ?_)))))))))))))
       refine uE 12 rfl kr (.inl rfl) rfl dc (fun _ _ h => ⟨h.1, nQ br h.2⟩) ⟨d, fun _ => q⟩ (nR (i := j) lI.out aH aC rfl rfl t (mF b1) (mA b1)) (fun j0 ⟨_, ⟨j9, rfl, a9⟩, d7, h7⟩ => nv 13 rfl kr (.inl rfl) rfl dc (fun _ _ h => ⟨h.1, nQ br h.2⟩) ⟨d, fun _ => q⟩ (fun l W F R => have A := (R.2 (F.GB 15 [13] kr rfl)); lJ rfl (mr (qc.hp _) (d7.mono (oB (fun b o L => A.2 b o (Ml L)))) aV aC)) (bS c fun k3 N c => uE 14 rfl kr (.inl rfl) rfl dc (fun _ _ h => ⟨h.1, nQ br h.2⟩) ⟨d, fun _ => q⟩ (nR (i := j) lI.out aH aC rfl rfl t (mF N) (mA N)) (fun j3 ⟨_, ⟨k0, rfl, i2⟩, i0, d4⟩ => ?_)))
       obtain ⟨e3, e6, rfl⟩ := a8.form
       refine XO 15 rfl (tI (x1 := a5) mg n t rfl rfl (lI.mk ⟨(.slice e3 a5.Kids.length e6), rfl, a8⟩) d4 (mA N) aC (fun i6 i4 n a7 => ?_))
       have d := n.has.lF Sn
       refine ⟨⟨d, fun h => CC kr h⟩, (bS c fun k4 Q c => uE 16 rfl kr (.inl rfl) rfl dc (fun _ _ h => ⟨h.1, nQ br h.2⟩) ⟨d, fun h => CC kr h⟩ (nR (i := (wi0 .i64 (j - 1))) lI.out aH aC rfl rfl a7 (mF Q) (mA Q)) (fun j4 ⟨_, ⟨k1, rfl, i3⟩, i1, d5⟩ => ?_))⟩
       obtain ⟨e4, e7, rfl⟩ := a9.form
       refine XO 17 rfl (tI (x1 := (⟨k.Op, k.K, k.lC, k.Kids⟩ : Formula)) mg n a7 rfl rfl (lI.mk ⟨(.slice e4 k.Kids.length e7), rfl, a9⟩) d5 (mA Q) aC (fun i7 e5 n d2 => ?_))
       have d := n.has.lF Sn
       exact ⟨⟨d, fun h => CC kr h⟩, (nh kr (mJ (lU (ma (Wh H (Wi rfl (Wa (ln ⟨f4, bF _, ((M.set (Int.toNat j) a5).set (Int.toNat (wi0 .i64 (j - 1))) (⟨k.Op, k.K, k.lC, k.Kids⟩ : Formula)), e5, (wi0 .i64 (j - 1)), _, (n.lF St), z, c2, c3, c4, c5, rfl, d2, c⟩))))))))⟩
      refine pk (oR (oR (tE (lU ?_))))
      obtain rfl := sj c
      exact ⟨B, _, (n.lF St), z, c2, c3, c4, c5, t⟩
     refine bC g (fun a g => ?_) (fun a g => ?_)
     ·refine Xg 4 rfl rfl (cB a) d (lP a3) (Xg 5 rfl rfl (cB a) d (lP K) (Xg 6 rfl rfl (cB a) d (lP G) (bS g fun f7 b2 g => uE 7 rfl kr (.inr ⟨3, true, 21, rfl, rfl, by decide, (cB a)⟩) rfl dc (fun _ _ h => h) d (nR (i := j) lI.out aH aC rfl rfl t (mF b2) (mA b2)) (fun j5 ⟨_, ⟨f5, rfl, e1⟩, d8, h8⟩ => rz 8 rfl rfl (cB a) d (fun _ A => lJ rfl (mr (qc.hp _) (d8.mono (oB (fun b o L => A.2 b o (Ml L)))) aV aC)) (Xg 9 rfl rfl (cB a) d (lP K) (Xg 10 rfl rfl (cB a) d (lP G) (Xg 11 rfl rfl (cB a) d (mP rfl rfl rfl) (bS g fun f8 b3 g => uE 12 rfl kr (.inr ⟨3, true, 21, rfl, rfl, by decide, (cB a)⟩) rfl dc (fun _ _ h => h) d (nR (i := (wi0 .i64 (j - 1))) lI.out aH aC rfl rfl t (mF b3) (mA b3)) (fun j6 ⟨_, ⟨f6, rfl, e2⟩, d9, h9⟩ => rz 13 rfl rfl (cB a) d (fun _ A => lJ rfl (mr (qc.hp _) (d9.mono (oB (fun b o L => A.2 b o (Ml L)))) aV aC)) (bS g fun j7 e0 g => zG 14 rfl rfl (cB a) (AN (f7, f8) n h5 (mx.refl _) (xH.mk mg mg (lI.mk ⟨f5, rfl, e1⟩) (lI.mk ⟨f6, rfl, e2⟩) n.lL) rfl (yA rfl rfl) e0 (fun i8 n => ?_))))))))))))
      have d := n.has.lF (Kr Sn)
      refine ⟨d, (Xg 15 rfl rfl (cB a) d (mP rfl rfl rfl) (X 16 rfl d (mh (cB a) rfl) ?_))⟩
      obtain rfl := sj g
      refine nu kr (a4 _ _ ⟨_, (n.lF St), K, Z, c0, a3, c1, G, rfl⟩)
     refine Xn 4 rfl rfl (cB a) d (Xn 5 rfl rfl (cB a) d (Xn 6 rfl rfl (cB a) d (Xn 7 rfl rfl (cB a) d (Xn 8 rfl rfl (cB a) d (Xn 9 rfl rfl (cB a) d (Xn 10 rfl rfl (cB a) d (Xn 11 rfl rfl (cB a) d (Xn 12 rfl rfl (cB a) d (Xn 13 rfl rfl (cB a) d (Xn 14 rfl rfl (cB a) d (Xn 15 rfl rfl (cB a) d (X 16 rfl d (mi (cB a) rfl) ?_))))))))))))
     obtain rfl := sj g
     refine nu kr (a4 _ _ ⟨_, (n.lF St), K, Z, c0, a3, c1, G, rfl⟩)
   rintro h1 E W ⟨U, d0, n, g2, g3, g4, g7, g8, f2⟩ f0
   exact mJ (lU (ma (Wh g8 (Wi rfl (Wa (ln ⟨h2, bF _, h1, U, (wi0 .i64 (x + 1)), _, (n.lF St), g2, g3, g4, g7, rfl, f2, f0⟩))))))
  refine pk (oR (oR (tE (lU (rR ?_)))))
  obtain rfl := sj u
  exact qv rfl ⟨_, _, _, rfl, (n.ov (Kr Sn)), (mx.refl _), Lo.refl, (ST.nt n (oT.mem (Kr Sn))), J, rfl, rfl, c6⟩
theorem sL (x : Value) (a0 : List Formula) (t : LO) (G H a3 : Int) (a5 : Value) (f4 : (Formula × Formula) → Option Int) (r : List Formula) (w : World) {Y : mN} (h0 : pC Y (t ++ []) w) (c0 : nm 58 lI 5 Y x a0 t) (d5 : zh pg0 a5 Y (xH lI lI) (fun (r : Int) => (.int .i64 r)) f4) (hm : pb a0 G H a3 f4 = some r) :
  nO true pg0 367 [x, (.int .i64 G), (.int .i64 H), (.int .i64 a3), a5] w Y (t ++ []) (fun v L1 μ1 => ∃ S1, v = (.tuple #[]) ∧ L1 = (S1 ++ []) ∧ nm 58 lI 5 μ1 x r S1) := by
 refine wj h0 38 func367 rfl (fun q => sg (Wa (ln (vv (nL (pn (fun m E W => ∃ D y c Z, ST true (keys (t ++ [])) w W Y (y ++ Z) ∧ E 0 = x ∧ E 1 = (.int .i64 G) ∧ E 2 = (.int .i64 H) ∧ E 3 = (.int .i64 a3) ∧ E 10 = (.int .i64 c) ∧ nm 58 lI 5 Y x D y ∧ oq a3 H G m D c = some r) mR ⟨a0, t, 0, _, (q.lF St), rfl, rfl, rfl, rfl, rfl, c0, hm⟩ ?_))))))
 rintro m E W ⟨D, y, c, Z, q, u, I, J, a4, k, j, a⟩
 cases m with
 | zero => rw [oq] at a; cases a
 | succ c1 =>
  refine mf (sg (Wh k (Wh a4 (Wi rfl (ln (CI a rfl (fun R a => ?_) (fun R a => ?_)))))))
  ·refine kn (mf (nL ?_))
   replace q := q.drew
   have d := q.has.lF Sn
   have n := q.has.lF (Kr Sn)
   refine yi 21 d n mB (nv 0 rfl kr (.inl rfl) rfl dc (fun _ _ h => ⟨h.1, nQ br h.2⟩) ⟨d, fun _ => n⟩ (fun _ _ _ _ => lP u) (nv 1 rfl kr (.inl rfl) rfl dc (fun _ _ h => ⟨h.1, nQ br h.2⟩) ⟨d, fun _ => n⟩ (fun _ _ _ _ => lP I) (nv 2 rfl kr (.inl rfl) rfl dc (fun _ _ h => ⟨h.1, nQ br h.2⟩) ⟨d, fun _ => n⟩ (fun _ _ _ _ => lP k) (nv 3 rfl kr (.inl rfl) rfl dc (fun _ _ h => ⟨h.1, nQ br h.2⟩) ⟨d, fun _ => n⟩ (fun _ _ _ _ => mP rfl rfl rfl) (nv 4 rfl kr (.inl rfl) rfl dc (fun _ _ h => ⟨h.1, nQ br h.2⟩) ⟨d, fun _ => n⟩ (fun _ _ _ _ => lP u) (nv 5 rfl kr (.inl rfl) rfl dc (fun _ _ h => ⟨h.1, nQ br h.2⟩) ⟨d, fun _ => n⟩ (fun _ _ _ _ => lP J) (nv 6 rfl kr (.inl rfl) rfl dc (fun _ _ h => ⟨h.1, nQ br h.2⟩) ⟨d, fun _ => n⟩ (fun _ _ _ _ => lP k) (nv 7 rfl kr (.inl rfl) rfl dc (fun _ _ h => ⟨h.1, nQ br h.2⟩) ⟨d, fun _ => n⟩ (fun _ _ _ _ => mP rfl rfl rfl) (nv 8 rfl kr (.inl rfl) rfl dc (fun _ _ h => ⟨h.1, nQ br h.2⟩) ⟨d, fun _ => n⟩ (fun _ _ _ _ => lP u) (nv 9 rfl kr (.inl rfl) rfl dc (fun _ _ h => ⟨h.1, nQ br h.2⟩) ⟨d, fun _ => n⟩ (fun _ _ _ _ => lP J) (nv 10 rfl kr (.inl rfl) rfl dc (fun _ _ h => ⟨h.1, nQ br h.2⟩) ⟨d, fun _ => n⟩ (fun _ _ _ _ => lP k) (nv 11 rfl kr (.inl rfl) rfl dc (fun _ _ h => ⟨h.1, nQ br h.2⟩) ⟨d, fun _ => n⟩ (fun _ _ _ _ => mP rfl rfl rfl) (bS a fun K T a => uE 12 rfl kr (.inl rfl) rfl dc (fun _ _ h => ⟨h.1, nQ br h.2⟩) ⟨d, fun _ => n⟩ (nR (i := (wi0 .i64 (H + c))) lI.out aH aC rfl rfl j (mF T) (mA T)) (fun d6 ⟨_, ⟨e0, rfl, N⟩, b1, c4⟩ => ?_))))))))))))))
   refine nv 13 rfl kr (.inl rfl) rfl dc (fun _ _ h => ⟨h.1, nQ br h.2⟩) ⟨d, fun _ => n⟩ (fun l W s L => have A := (L.2 (s.GB 21 [13] kr rfl)); lJ rfl (mr (qc.hp _) (b1.mono (oB (fun b o F => A.2 b o (Ml F)))) aV aC)) (nv 14 rfl kr (.inl rfl) rfl dc (fun _ _ h => ⟨h.1, nQ br h.2⟩) ⟨d, fun _ => n⟩ (fun _ _ _ _ => lP u) (nv 15 rfl kr (.inl rfl) rfl dc (fun _ _ h => ⟨h.1, nQ br h.2⟩) ⟨d, fun _ => n⟩ (fun _ _ _ _ => lP I) (nv 16 rfl kr (.inl rfl) rfl dc (fun _ _ h => ⟨h.1, nQ br h.2⟩) ⟨d, fun _ => n⟩ (fun _ _ _ _ => lP k) (nv 17 rfl kr (.inl rfl) rfl dc (fun _ _ h => ⟨h.1, nQ br h.2⟩) ⟨d, fun _ => n⟩ (fun _ _ _ _ => mP rfl rfl rfl) (bS a fun g U a => uE 18 rfl kr (.inl rfl) rfl dc (fun _ _ h => ⟨h.1, nQ br h.2⟩) ⟨d, fun _ => n⟩ (nR (i := (wi0 .i64 (G + c))) lI.out aH aC rfl rfl j (mF U) (mA U)) (fun d7 ⟨_, ⟨e1, rfl, Q⟩, b2, c5⟩ => nv 19 rfl kr (.inl rfl) rfl dc (fun _ _ h => ⟨h.1, nQ br h.2⟩) ⟨d, fun _ => n⟩ (fun l W s L => have A := (L.2 (s.GB 21 [19] kr rfl)); lJ rfl (mr (qc.hp _) (b2.mono (oB (fun b o F => A.2 b o (Ml F)))) aV aC)) (bS a fun e5 z a => uE 20 rfl kr (.inl rfl) rfl dc (fun _ _ h => ⟨h.1, nQ br h.2⟩) ⟨d, fun _ => n⟩ (nR (i := (wi0 .i64 (G + c))) lI.out aH aC rfl rfl j (mF z) (mA z)) (fun d8 ⟨_, ⟨e2, rfl, c8⟩, c6, a9⟩ => ?_))))))))
   let O := (⟨g.Op, g.K, g.lC, g.Kids⟩ : Formula)
   obtain ⟨b3, b7, rfl⟩ := N.form
   refine XO 21 rfl (tI (x1 := K) mg q j rfl rfl (lI.mk ⟨(.slice b3 K.Kids.length b7), rfl, N⟩) a9 (mA z) aC (fun d2 d1 q M => ?_))
   have d := q.has.lF Sn
   refine ⟨⟨d, fun h => CC kr h⟩, (bS a fun e6 B a => uE 22 rfl kr (.inl rfl) rfl dc (fun _ _ h => ⟨h.1, nQ br h.2⟩) ⟨d, fun h => CC kr h⟩ (nR (i := (wi0 .i64 (H + c))) lI.out aH aC rfl rfl M (mF B) (mA B)) (fun d9 ⟨_, ⟨e3, rfl, c9⟩, c7, b0⟩ => ?_))⟩
   obtain ⟨b4, b9, rfl⟩ := Q.form
   refine XO 23 rfl (tI (x1 := O) mg q M rfl rfl (lI.mk ⟨(.slice b4 g.Kids.length b9), rfl, Q⟩) b0 (mA B) aC (fun d3 b5 q P => ?_))
   have d := q.has.lF Sn
   exact ⟨⟨d, fun h => CC kr h⟩, (nh kr (mJ (lU (ma (Wh k (Wi rfl (Wa (ln ⟨c1, bF _, ((D.set (Int.toNat (wi0 .i64 (G + c))) K).set (Int.toNat (wi0 .i64 (H + c))) O), b5, (wi0 .i64 (c + 1)), _, (q.lF St), u, I, J, a4, rfl, P, a⟩))))))))⟩
  refine pk (oR (oR (tE (lU (rR ?_)))))
  obtain rfl := sj a
  exact qv rfl ⟨_, _, _, rfl, (q.ov (Kr Sn)), (mx.refl _), Lo.refl, (ST.nt q (oT.mem (Kr Sn))), y, rfl, rfl, j⟩
theorem Bn (k : Value) (a0 : List Formula) (y : LO) (q D a3 : Int) (B : Value) (U : (Formula × Formula) → Option Int) (r : List Formula) (w : World) {T : mN} (h0 : pC T (y ++ []) w) (c5 : nm 58 lI 5 T k a0 y) (Q : zh pg0 B T (xH lI lI) (fun (r : Int) => (.int .i64 r)) U) (hm : oQ a0 q D a3 U = some r) :
  nO true pg0 364 [k, (.int .i64 q), (.int .i64 D), (.int .i64 a3), B] w T (y ++ []) (fun v L1 μ1 => ∃ S1, v = (.tuple #[]) ∧ L1 = (S1 ++ []) ∧ nm 58 lI 5 μ1 k r S1) := by
 refine wj h0 58 func364 rfl (fun b => sg (Wm (Wm (Wi rfl (Wa (lr (Wm (Wm (Wi rfl (Wa ?_))))))))))
 refine ln (mf (nL (pn (fun m E W => ∃ z x c t I Y, mx T I ∧ Lo (keys (y ++ [])) w T I ∧ ST true (keys (y ++ [])) w W I (x ++ Y) ∧ E 0 = k ∧ E 2 = (.int .i64 D) ∧ E 4 = B ∧ E 10 = (.int .i64 c) ∧ E 11 = (.int .i64 t) ∧ nm 58 lI 5 I k z x ∧ oF D U m z c t = some r) mR ⟨a0, y, (wi0 .i64 (D - q)), (wi0 .i64 (a3 - D)), T, _, (mx.refl _), Lo.refl, (b.lF St), rfl, rfl, rfl, rfl, rfl, c5, hm⟩ ?_)))
 rintro m E W ⟨z, x, c, t, I, Y, i, d, b, G, j, H, g, u, J, a⟩
 let a2 := (wi0 .i64 (D - c))
 cases m with
 | zero => rw [oF] at a; cases a
 | succ s =>
  refine mf (sg (Wh g (Wh u (Wi rfl (ln (CI a rfl (fun A a => ?_) (fun A a => ?_)))))))
  ·refine kn (bg (Wh g (Wh u (Wi rfl (ln (CI a rfl (fun F a => ?_) (fun F a => ?_)))))))
   ·refine sg (Wh G (Wh j (Wh g (Wi rfl (Wh j (Wh u (Wh H (bS a fun c6 L a => ?_))))))))
    refine VE (eD b (Cr Qz Cn) call367 (fun o => (sL k z x a2 D t B U _ _ o J (Q.mono i) L)) ?_)
    rintro _ e0 c8 d2 b Z h ⟨b9, K, rfl, R⟩
    obtain rfl := K.symm
    replace b := b.perm (Tr Tn)
    exact ln (ma (Wh g (Wh u (Wi rfl (Wa (mz (mJ (lU ⟨s, bF _, c6, b9, (wi0 .i64 (c - t)), t, c8, _, (i.trans Z), (d.trans h), (b.lF St), G, j, H, rfl, u, R, a⟩))))))))
   refine sg (Wh G (Wh j (Wh g (Wi rfl (Wh j (Wh u (Wi rfl (Wh g (Wi rfl (Wh g (Wh H (bS a fun c7 O a => ?_))))))))))))
   refine VE (eD b (Cr Qz Cn) call367 (fun o => (sL k z x a2 (wi0 .i64 ((wi0 .i64 (D + t)) - c)) c B U _ _ o J (Q.mono i) O)) ?_)
   rintro _ e1 c9 d3 b a4 l ⟨c0, M, rfl, b6⟩
   obtain rfl := M.symm
   replace b := b.perm (Tr Tn)
   exact ln (ma (Wh u (Wh g (Wi rfl (Wa (mz (mJ (lU ⟨s, bF _, c7, c0, c, (wi0 .i64 (t - c)), c9, _, (i.trans a4), (d.trans l), (b.lF St), G, j, H, g, rfl, b6, a⟩))))))))
  refine pk (oR (oR (tE (lU (ma (Wh G (Wh j (Wh g (Wi rfl (Wh j (Wh g (Wh H (bS a fun d9 P a => ?_)))))))))))))
  refine VE (eD b (Cr Qz Cn) call367 (fun o => (sL k z x a2 D c B U _ _ o J (Q.mono i) P)) ?_)
  rintro _ e2 e4 d4 b a5 n ⟨c1, N, rfl, b7⟩
  obtain rfl := N.symm
  replace b := b.perm (Tr Tn)
  refine mz (rR ?_)
  obtain rfl := sj a
  exact qv rfl ⟨_, _, _, rfl, (b.ov (Kr Sn)), (i.trans a5), (d.trans n), (ST.nt b (oT.mem (Kr Sn))), c1, rfl, rfl, b7⟩
set_option maxHeartbeats 1000000 in
theorem zp (t6 : (List Formula) → Int → Int → Int → ((Formula × Formula) → Option Int) → Option (List Formula)) (s6 : ∀ (t : Value) (a0 : List Formula) (c : LO) (z : Int) (M : Int) (B : Int) (D : Value) (f4 : (Formula × Formula) → Option Int) (r : List Formula) (w : World) {U : mN} (h0 : pC U (c ++ []) w) (a5 : nm 58 lI 5 U t a0 c) (c6 : zh pg0 D U (xH lI lI) (fun (r : Int) => (.int .i64 r)) f4), t6 a0 z M B f4 = some r → nO false pg0 357 [t, (.int .i64 z), (.int .i64 M), (.int .i64 B), D] w U (c ++ []) (fun v L1 μ1 => ∃ S1, v = (.tuple #[]) ∧ L1 = (S1 ++ []) ∧ nm 58 lI 5 μ1 t r S1)) (t : Value) (a0 : List Formula) (c : LO) (z M B : Int) (D : Value) (f4 : (Formula × Formula) → Option Int) (r : List Formula) (w : World) {U : mN} (h0 : pC U (c ++ []) w) (a5 : nm 58 lI 5 U t a0 c) (c6 : zh pg0 D U (xH lI lI) (fun (r : Int) => (.int .i64 r)) f4) (hm : ry t6 a0 z M B f4 = some r) :
  nO false pg0 357 [t, (.int .i64 z), (.int .i64 M), (.int .i64 B), D] w U (c ++ []) (fun v L1 μ1 => ∃ S1, v = (.tuple #[]) ∧ L1 = (S1 ++ []) ∧ nm 58 lI 5 μ1 t r S1) := by
 refine wj h0 220 func357 rfl (fun d => mf (sg (Wm (Wm (Wi rfl (Wi rfl (ln (CI hm rfl (fun ae hm => ?_) (fun ae hm => ?_)))))))))
 ·refine sg (Wm (Wa (lr (Wm (Wa (ln (mf (nL (pn (fun m E W => ∃ T a9 o3, ST false (keys (c ++ [])) w W U (c ++ o3) ∧ E 0 = t ∧ E 1 = (.int .i64 z) ∧ E 4 = D ∧ E 10 = (.int .i64 T) ∧ E 11 = (.int .i64 a9) ∧ nB a0 z f4 m T a9 = some r) mR ⟨M, B, _, (d.lF St), rfl, rfl, rfl, rfl, rfl, hm⟩ ?_)))))))))
  rintro m E W ⟨T, a9, o3, d, e4, h8, k3, h9, k4, y⟩
  cases m with
  | zero => rw [nB] at y; cases y
  | succ t5 =>
   refine mf (sg (Wh h9 (Wh k4 (Wi rfl (ln (CI y rfl (fun w9 y => ?_) (fun w9 y => ?_)))))))
   ·refine kn (bg (Wh h9 (Wh k4 (Wi rfl (V (ur (k' := .i64) (a := (wi0 .i64 (T + a9))) eK gZ rfl) (V (Km (a := (IntKind.u64.wrap (wi0 .i64 (T + a9)))) (b := 1) rfl rfl dc) (V (ur (k' := .u64) (a := (Int.fdiv (IntKind.u64.wrap (wi0 .i64 (T + a9))) (2 ^ min (Int.toNat 1) (IntKind.bits .u64)))) gZ eK rfl) (Wa (ln (mf ?_))))))))))
    let e3 := (Int.fdiv (IntKind.u64.wrap (wi0 .i64 (T + a9))) (2 ^ min (Int.toNat 1) (IntKind.bits .u64)))
    replace d := d.drew
    have n := d.has.lF (Kr Sn)
    refine mT n mB (X 0 rfl n (lP k3) (X 1 rfl n (lP e4) (X 2 rfl n (lP rfl) (bS y fun aa n1 y => XQ 3 rfl n (nR (i := (wi0 .i64 e3)) lI.out aH aC rfl rfl a5 (mF n1) (mA n1)) (fun di ⟨_, ⟨z7, rfl, x7⟩, x4, bp⟩ => XH 4 rfl n (fun _ A => lJ rfl (mr (qc.hp _) (x4.mono (oB (fun b o F => A.2 b o (Ml F)))) aV aC)) (X 5 rfl n (lP e4) (X 6 rfl n (lP h8) (bS y fun ab n2 y => XQ 7 rfl n (nR (i := z) lI.out aH aC rfl rfl a5 (mF n2) (mA n2)) (fun dj ⟨_, ⟨z8, rfl, x8⟩, x5, bq⟩ => XH 8 rfl n (fun _ A => lJ rfl (mr (qc.hp _) (x5.mono (oB (fun b o F => A.2 b o (Ml F)))) aV aC)) (bS y fun dk x6 y => XE 9 rfl (AN (aa, ab) d c6 (mx.refl _) (xH.mk mg mg (lI.mk ⟨z7, rfl, x7⟩) (lI.mk ⟨z8, rfl, x8⟩) d.lL) rfl (yA rfl rfl) x6 (fun dg d => ?_))))))))))))
    have n := d.has.lF (Kr Sn)
    refine ⟨n, (X 10 rfl n (mP rfl rfl rfl) (nh kr (lU (CI y rfl (fun x0 y => ?_) (fun x0 y => ?_)))))⟩
    ·exact ma (Wm (Wi rfl (Wa (mz (mJ (lU ⟨t5, bF _, (wi0 .i64 ((wi0 .i64 e3) + 1)), a9, _, (d.lF St), e4, h8, k3, rfl, k4, y⟩))))))
    exact ma (Wm (Wa (mz (mJ (lU ⟨t5, bF _, T, (wi0 .i64 e3), _, (d.lF St), e4, h8, k3, h9, rfl, y⟩)))))
   refine pk (oR (oR (tE (lU (mf (sg (Wh h8 (Wa (ln (CJ y (fun k5 E W => ∃ f7 o4, ST false (keys (c ++ [])) w W U (f7 ++ o4) ∧ nm 58 lI 5 U t k5 f7) (fun k5 x3 => ?_) ?_))))))))))
   ·refine nL (pn (fun m E W => ∃ i0 f8 b0 k6, ST false (keys (c ++ [])) w W U (f8 ++ k6) ∧ E 0 = t ∧ E 10 = (.int .i64 T) ∧ E 13 = (.int .i64 b0) ∧ nm 58 lI 5 U t i0 f8 ∧ ox T m i0 b0 = some k5) mR ⟨a0, c, z, _, (d.lF St), e4, h9, rfl, a5, x3⟩ ?_)
    rintro m E W ⟨i0, f8, b0, k6, d, c7, l7, c0, d1, u⟩
    cases m with
    | zero => rw [ox] at u; cases u
    | succ y2 =>
     refine mf (sg (Wh c0 (Wh l7 (Wi rfl (Wi rfl (ln (CI u rfl (fun p1 u => ?_) (fun p1 u => ?_))))))))
     ·refine kn (mf (nL ?_))
      replace d := d.drew
      have n := d.has.lF Sn
      have q := d.has.lF (Kr Sn)
      refine yi 15 n q mB (nv 0 rfl kr (.inl rfl) rfl dc (fun _ _ h => ⟨h.1, nQ (by rfl) h.2⟩) ⟨n, fun _ => q⟩ (fun _ _ _ _ => lP c7) (nv 1 rfl kr (.inl rfl) rfl dc (fun _ _ h => ⟨h.1, nQ (by rfl) h.2⟩) ⟨n, fun _ => q⟩ (fun _ _ _ _ => lP c0) (nv 2 rfl kr (.inl rfl) rfl dc (fun _ _ h => ⟨h.1, nQ (by rfl) h.2⟩) ⟨n, fun _ => q⟩ (fun _ _ _ _ => lP c7) (nv 3 rfl kr (.inl rfl) rfl dc (fun _ _ h => ⟨h.1, nQ (by rfl) h.2⟩) ⟨n, fun _ => q⟩ (fun _ _ _ _ => lP c0) (nv 4 rfl kr (.inl rfl) rfl dc (fun _ _ h => ⟨h.1, nQ (by rfl) h.2⟩) ⟨n, fun _ => q⟩ (fun _ _ _ _ => mP rfl rfl rfl) (nv 5 rfl kr (.inl rfl) rfl dc (fun _ _ h => ⟨h.1, nQ (by rfl) h.2⟩) ⟨n, fun _ => q⟩ (fun _ _ _ _ => lP c7) (nv 6 rfl kr (.inl rfl) rfl dc (fun _ _ h => ⟨h.1, nQ (by rfl) h.2⟩) ⟨n, fun _ => q⟩ (fun _ _ _ _ => lP c0) (nv 7 rfl kr (.inl rfl) rfl dc (fun _ _ h => ⟨h.1, nQ (by rfl) h.2⟩) ⟨n, fun _ => q⟩ (fun _ _ _ _ => mP rfl rfl rfl) (bS u fun i3 j5 u => uE 8 rfl kr (.inl rfl) rfl dc (fun _ _ h => ⟨h.1, nQ (by rfl) h.2⟩) ⟨n, fun _ => q⟩ (nR (i := (wi0 .i64 (b0 + 1))) lI.out aH aC rfl rfl d1 (mF j5) (mA j5)) (fun bt ⟨_, ⟨cl, rfl, i7⟩, r3, af⟩ => nv 9 rfl kr (.inl rfl) rfl dc (fun _ _ h => ⟨h.1, nQ (by rfl) h.2⟩) ⟨n, fun _ => q⟩ (fun l W L hs => have A := (hs.2 (L.GB 15 [9] kr rfl)); lJ rfl (mr (qc.hp _) (r3.mono (oB (fun b o F => A.2 b o (Ml F)))) aV aC)) (nv 10 rfl kr (.inl rfl) rfl dc (fun _ _ h => ⟨h.1, nQ (by rfl) h.2⟩) ⟨n, fun _ => q⟩ (fun _ _ _ _ => lP c7) (nv 11 rfl kr (.inl rfl) rfl dc (fun _ _ h => ⟨h.1, nQ (by rfl) h.2⟩) ⟨n, fun _ => q⟩ (fun _ _ _ _ => lP c0) (bS u fun Y j6 u => ?_)))))))))))))
      refine uE 12 rfl kr (.inl rfl) rfl dc (fun _ _ h => ⟨h.1, nQ (by rfl) h.2⟩) ⟨n, fun _ => q⟩ (nR (i := b0) lI.out aH aC rfl rfl d1 (mF j6) (mA j6)) (fun bu ⟨_, ⟨cm, rfl, i8⟩, r4, ag⟩ => nv 13 rfl kr (.inl rfl) rfl dc (fun _ _ h => ⟨h.1, nQ (by rfl) h.2⟩) ⟨n, fun _ => q⟩ (fun l W L hs => have A := (hs.2 (L.GB 15 [13] kr rfl)); lJ rfl (mr (qc.hp _) (r4.mono (oB (fun b o F => A.2 b o (Ml F)))) aV aC)) (bS u fun cw e9 u => uE 14 rfl kr (.inl rfl) rfl dc (fun _ _ h => ⟨h.1, nQ (by rfl) h.2⟩) ⟨n, fun _ => q⟩ (nR (i := b0) lI.out aH aC rfl rfl d1 (mF e9) (mA e9)) (fun bv ⟨_, ⟨cn, rfl, ar⟩, an, q2⟩ => ?_)))
      obtain ⟨t7, u6, rfl⟩ := i7.form
      refine XO 15 rfl (tI (x1 := i3) mg d d1 rfl rfl (lI.mk ⟨(.slice t7 i3.Kids.length u6), rfl, i7⟩) q2 (mA e9) aC (fun be bc d i5 => ?_))
      have n := d.has.lF Sn
      refine ⟨⟨n, fun h => CC kr h⟩, (bS u fun cx f0 u => uE 16 rfl kr (.inl rfl) rfl dc (fun _ _ h => ⟨h.1, nQ (by rfl) h.2⟩) ⟨n, fun h => CC kr h⟩ (nR (i := (wi0 .i64 (b0 + 1))) lI.out aH aC rfl rfl i5 (mF f0) (mA f0)) (fun bw ⟨_, ⟨co, rfl, au⟩, ao, q3⟩ => ?_))⟩
      obtain ⟨t8, u7, rfl⟩ := i8.form
      refine XO 17 rfl (tI (x1 := (⟨Y.Op, Y.K, Y.lC, Y.Kids⟩ : Formula)) mg d i5 rfl rfl (lI.mk ⟨(.slice t8 Y.Kids.length u7), rfl, i8⟩) q3 (mA f0) aC (fun bf u1 d o9 => ?_))
      have n := d.has.lF Sn
      exact ⟨⟨n, fun h => CC kr h⟩, (nh kr (mJ (lU (ma (Wh c0 (Wi rfl (Wa (ln ⟨y2, bF _, ((i0.set (Int.toNat b0) i3).set (Int.toNat (wi0 .i64 (b0 + 1))) (⟨Y.Op, Y.K, Y.lC, Y.Kids⟩ : Formula)), u1, (wi0 .i64 (b0 + 1)), _, (d.lF St), c7, l7, rfl, o9, u⟩))))))))⟩
     refine pk (oR (oR (tE (lU ?_))))
     have s := sj u; subst s
     exact ⟨f8, _, (d.lF St), d1⟩
   rintro dh E W ⟨f7, o4, d, x9⟩ x2
   refine mu (mL ?_)
   have s := sj x2; subst s
   exact qv rfl ⟨_, _, _, rfl, (d.ov (Kr Sn)), (mx.refl _), Lo.refl, (ST.nt d (oT.mem (Kr Sn))), f7, rfl, rfl, x9⟩
 refine kS (Wm (Wm (Wi rfl (Wi rfl (ln (CI hm rfl (fun p2 hm => ?_) (fun p2 hm => ?_)))))))
 ·refine sg (Wm (Wa (lr (Wm (Wa (ln (mf (nL (pn (fun m E W => ∃ G N k7, ST false (keys (c ++ [])) w W U (c ++ k7) ∧ E 0 = t ∧ E 2 = (.int .i64 M) ∧ E 4 = D ∧ E 14 = (.int .i64 G) ∧ E 15 = (.int .i64 N) ∧ nC a0 M f4 m G N = some r) mR ⟨z, M, _, (d.lF St), rfl, rfl, rfl, rfl, rfl, hm⟩ ?_)))))))))
  rintro m E W ⟨G, N, k7, d, c8, d5, f9, d6, g0, j⟩
  let j1 := (IntKind.u64.wrap (wi0 .i64 (G + N)))
  let b8 := (Int.fdiv j1 (2 ^ min (Int.toNat 1) (IntKind.bits .u64)))
  cases m with
  | zero => rw [nC] at j; cases j
  | succ n3 =>
   refine mf (sg (Wh d6 (Wh g0 (Wi rfl (ln (CI j rfl (fun p3 j => ?_) (fun p3 j => ?_)))))))
   ·refine kn (bg (Wh d6 (Wh g0 (Wi rfl (V (ur (k' := .i64) (a := (wi0 .i64 (G + N))) eK gZ rfl) (V (Km (a := j1) (b := 1) rfl rfl dc) (V (ur (k' := .u64) (a := (Int.fdiv j1 (2 ^ min (Int.toNat 1) (IntKind.bits .u64)))) gZ eK rfl) (Wa (ln (mf ?_))))))))))
    replace d := d.drew
    have n := d.has.lF (Kr Sn)
    refine mT n mB (X 0 rfl n (lP f9) (X 1 rfl n (lP c8) (X 2 rfl n (lP d5) (bS j fun y8 j7 j => XQ 3 rfl n (nR (i := M) lI.out aH aC rfl rfl a5 (mF j7) (mA j7)) (fun bx ⟨_, ⟨y4, rfl, s7⟩, r5, ah⟩ => XH 4 rfl n (fun _ A => lJ rfl (mr (qc.hp _) (r5.mono (oB (fun b o F => A.2 b o (Ml F)))) aV aC)) (X 5 rfl n (lP c8) (X 6 rfl n (lP rfl) (bS j fun y9 j8 j => XQ 7 rfl n (nR (i := (wi0 .i64 b8)) lI.out aH aC rfl rfl a5 (mF j8) (mA j8)) (fun bz ⟨_, ⟨y5, rfl, s8⟩, r6, ai⟩ => XH 8 rfl n (fun _ A => lJ rfl (mr (qc.hp _) (r6.mono (oB (fun b o F => A.2 b o (Ml F)))) aV aC)) (bS j fun cg s1 j => XE 9 rfl (AN (y8, y9) d c6 (mx.refl _) (xH.mk mg mg (lI.mk ⟨y4, rfl, s7⟩) (lI.mk ⟨y5, rfl, s8⟩) d.lL) rfl (yA rfl rfl) s1 (fun bh d => ?_))))))))))))
    have n := d.has.lF (Kr Sn)
    refine ⟨n, (X 10 rfl n (mP rfl rfl rfl) (X 11 rfl n (oy rfl) (nh kr (lU (CI j rfl (fun p4 j => ?_) (fun p4 j => ?_))))))⟩
    ·exact ma (Wm (Wi rfl (Wa (mz (mJ (lU ⟨n3, bF _, (wi0 .i64 ((wi0 .i64 b8) + 1)), N, _, (d.lF St), c8, d5, f9, rfl, g0, j⟩))))))
    exact ma (Wm (Wa (mz (mJ (lU ⟨n3, bF _, G, (wi0 .i64 b8), _, (d.lF St), c8, d5, f9, d6, rfl, j⟩)))))
   refine pk (oR (oR (tE (lU (mf (sg (Wh d5 (Wa (ln (CJ j (fun i1 E W => ∃ d3 k8, ST false (keys (c ++ [])) w W U (d3 ++ k8) ∧ nm 58 lI 5 U t i1 d3) (fun i1 q7 => ?_) ?_))))))))))
   ·refine nL (pn (fun m E W => ∃ e2 d4 Q k9, ST false (keys (c ++ [])) w W U (d4 ++ k9) ∧ E 0 = t ∧ E 14 = (.int .i64 G) ∧ E 17 = (.int .i64 Q) ∧ nm 58 lI 5 U t e2 d4 ∧ ow G m e2 Q = some i1) mR ⟨a0, c, M, _, (d.lF St), c8, d6, rfl, a5, q7⟩ ?_)
    rintro m E W ⟨e2, d4, Q, k9, d, c9, l8, c1, b6, x⟩
    cases m with
    | zero => rw [ow] at x; cases x
    | succ y3 =>
     refine mf (sg (Wh c1 (Wh l8 (Wi rfl (ln (CI x rfl (fun p5 x => ?_) (fun p5 x => ?_)))))))
     ·refine kn (mf (nL ?_))
      replace d := d.drew
      have n := d.has.lF Sn
      have q := d.has.lF (Kr Sn)
      refine yi 15 n q mB (nv 0 rfl kr (.inl rfl) rfl dc (fun _ _ h => ⟨h.1, nQ (by rfl) h.2⟩) ⟨n, fun _ => q⟩ (fun _ _ _ _ => lP c9) (nv 1 rfl kr (.inl rfl) rfl dc (fun _ _ h => ⟨h.1, nQ (by rfl) h.2⟩) ⟨n, fun _ => q⟩ (fun _ _ _ _ => lP c1) (nv 2 rfl kr (.inl rfl) rfl dc (fun _ _ h => ⟨h.1, nQ (by rfl) h.2⟩) ⟨n, fun _ => q⟩ (fun _ _ _ _ => lP c9) (nv 3 rfl kr (.inl rfl) rfl dc (fun _ _ h => ⟨h.1, nQ (by rfl) h.2⟩) ⟨n, fun _ => q⟩ (fun _ _ _ _ => lP c1) (nv 4 rfl kr (.inl rfl) rfl dc (fun _ _ h => ⟨h.1, nQ (by rfl) h.2⟩) ⟨n, fun _ => q⟩ (fun _ _ _ _ => mP rfl rfl rfl) (nv 5 rfl kr (.inl rfl) rfl dc (fun _ _ h => ⟨h.1, nQ (by rfl) h.2⟩) ⟨n, fun _ => q⟩ (fun _ _ _ _ => lP c9) (nv 6 rfl kr (.inl rfl) rfl dc (fun _ _ h => ⟨h.1, nQ (by rfl) h.2⟩) ⟨n, fun _ => q⟩ (fun _ _ _ _ => lP c1) (nv 7 rfl kr (.inl rfl) rfl dc (fun _ _ h => ⟨h.1, nQ (by rfl) h.2⟩) ⟨n, fun _ => q⟩ (fun _ _ _ _ => mP rfl rfl rfl) (bS x fun i4 j9 x => uE 8 rfl kr (.inl rfl) rfl dc (fun _ _ h => ⟨h.1, nQ (by rfl) h.2⟩) ⟨n, fun _ => q⟩ (nR (i := (wi0 .i64 (Q - 1))) lI.out aH aC rfl rfl b6 (mF j9) (mA j9)) (fun ca ⟨_, ⟨cp, rfl, i9⟩, r7, aj⟩ => nv 9 rfl kr (.inl rfl) rfl dc (fun _ _ h => ⟨h.1, nQ (by rfl) h.2⟩) ⟨n, fun _ => q⟩ (fun l W L hs => have A := (hs.2 (L.GB 15 [9] kr rfl)); lJ rfl (mr (qc.hp _) (r7.mono (oB (fun b o F => A.2 b o (Ml F)))) aV aC)) (nv 10 rfl kr (.inl rfl) rfl dc (fun _ _ h => ⟨h.1, nQ (by rfl) h.2⟩) ⟨n, fun _ => q⟩ (fun _ _ _ _ => lP c9) (nv 11 rfl kr (.inl rfl) rfl dc (fun _ _ h => ⟨h.1, nQ (by rfl) h.2⟩) ⟨n, fun _ => q⟩ (fun _ _ _ _ => lP c1) (bS x fun Z k0 x => ?_)))))))))))))
      refine uE 12 rfl kr (.inl rfl) rfl dc (fun _ _ h => ⟨h.1, nQ (by rfl) h.2⟩) ⟨n, fun _ => q⟩ (nR (i := Q) lI.out aH aC rfl rfl b6 (mF k0) (mA k0)) (fun cb ⟨_, ⟨cq, rfl, j0⟩, r8, ak⟩ => nv 13 rfl kr (.inl rfl) rfl dc (fun _ _ h => ⟨h.1, nQ (by rfl) h.2⟩) ⟨n, fun _ => q⟩ (fun l W L hs => have A := (hs.2 (L.GB 15 [13] kr rfl)); lJ rfl (mr (qc.hp _) (r8.mono (oB (fun b o F => A.2 b o (Ml F)))) aV aC)) (bS x fun cy f1 x => uE 14 rfl kr (.inl rfl) rfl dc (fun _ _ h => ⟨h.1, nQ (by rfl) h.2⟩) ⟨n, fun _ => q⟩ (nR (i := Q) lI.out aH aC rfl rfl b6 (mF f1) (mA f1)) (fun cc ⟨_, ⟨cr, rfl, av⟩, ap, q4⟩ => ?_)))
      obtain ⟨t9, u8, rfl⟩ := i9.form
      refine XO 15 rfl (tI (x1 := i4) mg d b6 rfl rfl (lI.mk ⟨(.slice t9 i4.Kids.length u8), rfl, i9⟩) q4 (mA f1) aC (fun bi bd d i6 => ?_))
      have n := d.has.lF Sn
      refine ⟨⟨n, fun h => CC kr h⟩, (bS x fun cz f2 x => uE 16 rfl kr (.inl rfl) rfl dc (fun _ _ h => ⟨h.1, nQ (by rfl) h.2⟩) ⟨n, fun h => CC kr h⟩ (nR (i := (wi0 .i64 (Q - 1))) lI.out aH aC rfl rfl i6 (mF f2) (mA f2)) (fun cd ⟨_, ⟨cs, rfl, aw⟩, aq, q5⟩ => ?_))⟩
      obtain ⟨u0, u9, rfl⟩ := j0.form
      refine XO 17 rfl (tI (x1 := (⟨Z.Op, Z.K, Z.lC, Z.Kids⟩ : Formula)) mg d i6 rfl rfl (lI.mk ⟨(.slice u0 Z.Kids.length u9), rfl, j0⟩) q5 (mA f2) aC (fun bj u2 d p0 => ?_))
      have n := d.has.lF Sn
      exact ⟨⟨n, fun h => CC kr h⟩, (nh kr (mJ (lU (ma (Wh c1 (Wi rfl (Wa (ln ⟨y3, bF _, ((e2.set (Int.toNat Q) i4).set (Int.toNat (wi0 .i64 (Q - 1))) (⟨Z.Op, Z.K, Z.lC, Z.Kids⟩ : Formula)), u2, (wi0 .i64 (Q - 1)), _, (d.lF St), c9, l8, rfl, p0, x⟩))))))))⟩
     refine pk (oR (oR (tE (lU ?_))))
     have s := sj x; subst s
     exact ⟨d4, _, (d.lF St), b6⟩
   rintro bs E W ⟨d3, k8, d, s9⟩ q6
   refine mu (mL ?_)
   have s := sj q6; subst s
   exact qv rfl ⟨_, _, _, rfl, (d.ov (Kr Sn)), (mx.refl _), Lo.refl, (ST.nt d (oT.mem (Kr Sn))), d3, rfl, rfl, s9⟩
 let g5 := (IntKind.u64.wrap (wi0 .i64 (z + B)))
 refine kg (Wm (Wm (Wi rfl (V (ur (k' := .i64) (a := (wi0 .i64 (z + B))) eK gZ rfl) (V (Km (a := g5) (b := 1) rfl rfl dc) (V (ur (k' := .u64) (a := (Int.fdiv g5 (2 ^ min (Int.toNat 1) (IntKind.bits .u64)))) gZ eK rfl) (Wa (lr ?_))))))))
 let R := (wi0 .i64 (Int.fdiv g5 (2 ^ min (Int.toNat 1) (IntKind.bits .u64))))
 let e5 := (wi0 .i64 (R + M))
 refine Wm (Wm (Wi rfl (Wa (lr (Wa (Wa (ln (mf (CJ hm (fun i2 E W => ∃ l0, ST false (keys (c ++ [])) w W U (c ++ l0) ∧ E 0 = t ∧ E 1 = (.int .i64 z) ∧ E 2 = (.int .i64 M) ∧ E 3 = (.int .i64 B) ∧ E 4 = D ∧ E 18 = (.int .i64 R) ∧ E 19 = (.int .i64 e5) ∧ E 20 = (.int .i64 i2.1) ∧ E 21 = (.int .i64 i2.2)) (fun i2 b5 => ?_) ?_)))))))))
 ·refine sg (Wm (Wm (Wi rfl (ln (CI b5 rfl (fun q1 b5 => ?_) (fun q1 b5 => ?_))))))
  ·refine sg (Wm (Wm (Wi rfl (Wa (ln (ma (Wm (Wa (ln ?_)))))))))
   have s := sj b5; subst s
   exact ⟨_, (d.lF St), rfl, rfl, rfl, rfl, rfl, rfl, rfl, rfl, rfl⟩
  refine sg (Wm (Wa (ln (ma (Wm (Wa (ln ?_)))))))
  have s := sj b5; subst s
  exact ⟨_, (d.lF St), rfl, rfl, rfl, rfl, rfl, rfl, rfl, rfl, rfl⟩
 rintro ⟨z0, z1⟩ E W ⟨l0, d, v0, v1, v2, v3, v4, v5, l9, v6, v7⟩ q8
 refine sg (Wh l9 (Wi rfl (Wa (ln (mf (nL (pn (fun m E W => ∃ g K l1, ST false (keys (c ++ [])) w W U (c ++ l1) ∧ E 0 = t ∧ E 1 = (.int .i64 z) ∧ E 2 = (.int .i64 M) ∧ E 3 = (.int .i64 B) ∧ E 4 = D ∧ E 18 = (.int .i64 R) ∧ E 19 = (.int .i64 e5) ∧ E 20 = (.int .i64 g) ∧ E 21 = (.int .i64 K) ∧ E 22 = (.int .i64 (wi0 .i64 (e5 - 1))) ∧ nn a0 z B M f4 t6 m g K = some r) mR ⟨z0, z1, _, (d.lF St), v0, v1, v2, v3, v4, v5, l9, v6, v7, rfl, q8⟩ ?_)))))))
 rintro m E W ⟨g, K, l1, d, c2, d7, c3, d8, d0, d9, g1, b1, g2, g3, k⟩
 let g6 := (IntKind.u64.wrap (wi0 .i64 (g + K)))
 let a3 := (Int.fdiv g6 (2 ^ min (Int.toNat 1) (IntKind.bits .u64)))
 let j2 := (wi0 .i64 a3)
 let a2 := (wi0 .i64 (e5 - g))
 cases m with
 | zero => rw [nn] at k; cases k
 | succ n4 =>
  refine mf (sg (Wh b1 (Wh g2 (Wi rfl (ln (CI k rfl (fun p6 k => ?_) (fun p6 k => ?_)))))))
  ·refine kn (bg (Wh b1 (Wh g2 (Wi rfl (V (ur (k' := .i64) (a := (wi0 .i64 (g + K))) eK gZ rfl) (V (Km (a := g6) (b := 1) rfl rfl dc) (V (ur (k' := .u64) (a := (Int.fdiv g6 (2 ^ min (Int.toNat 1) (IntKind.bits .u64)))) gZ eK rfl) (Wa (ln (mf ?_))))))))))
   replace d := d.drew
   have n := d.has.lF (Kr Sn)
   refine mT n mB (X 0 rfl n (lP d0) (X 1 rfl n (lP c2) (X 2 rfl n (lP g3) (X 3 rfl n (lP rfl) (X 4 rfl n (mP rfl rfl rfl) (bS k fun z2 k1 k => XQ 5 rfl n (nR (i := (wi0 .i64 ((wi0 .i64 (e5 - 1)) - j2))) lI.out aH aC rfl rfl a5 (mF k1) (mA k1)) (fun ce ⟨_, ⟨y6, rfl, t0⟩, r9, al⟩ => XH 6 rfl n (fun _ A => lJ rfl (mr (qc.hp _) (r9.mono (oB (fun b o F => A.2 b o (Ml F)))) aV aC)) (X 7 rfl n (lP c2) (X 8 rfl n (lP rfl) (bS k fun z3 k2 k => XQ 9 rfl n (nR (i := (wi0 .i64 a3)) lI.out aH aC rfl rfl a5 (mF k2) (mA k2)) (fun cf ⟨_, ⟨y7, rfl, t1⟩, s0, am⟩ => XH 10 rfl n (fun _ A => lJ rfl (mr (qc.hp _) (s0.mono (oB (fun b o F => A.2 b o (Ml F)))) aV aC)) (bS k fun ch s2 k => ?_))))))))))))
   refine XE 11 rfl (AN (z2, z3) d c6 (mx.refl _) (xH.mk mg mg (lI.mk ⟨y6, rfl, t0⟩) (lI.mk ⟨y7, rfl, t1⟩) d.lL) rfl (yA rfl rfl) s2 (fun bk d => ?_))
   have n := d.has.lF (Kr Sn)
   refine ⟨n, (X 12 rfl n (mP rfl rfl rfl) (X 13 rfl n (oy rfl) (nh kr (lU (CI k rfl (fun p7 k => ?_) (fun p7 k => ?_))))))⟩
   ·exact ma (Wm (Wi rfl (Wa (mz (mJ (lU ⟨n4, bF _, (wi0 .i64 (j2 + 1)), K, _, (d.lF St), c2, d7, c3, d8, d0, d9, g1, rfl, g2, g3, k⟩))))))
   exact ma (Wm (Wa (mz (mJ (lU ⟨n4, bF _, g, j2, _, (d.lF St), c2, d7, c3, d8, d0, d9, g1, b1, rfl, g3, k⟩)))))
  refine pk (oR (oR (tE (lU (sg (Wh g1 (Wh b1 (Wi rfl (Wa (ln (mf (CJ k (fun n8 E W => ∃ b7 a4 l2, mx U a4 ∧ Lo (keys (c ++ [])) w U a4 ∧ ST false (keys (c ++ [])) w W a4 (b7 ++ l2) ∧ E 0 = t ∧ E 1 = (.int .i64 z) ∧ E 3 = (.int .i64 B) ∧ E 4 = D ∧ E 18 = (.int .i64 R) ∧ E 20 = (.int .i64 g) ∧ E 24 = (.int .i64 a2) ∧ nm 58 lI 5 a4 t n8 b7) (fun n8 r2 => ?_) ?_))))))))))))
  ·refine sg (Wh b1 (Wh c3 (Wi rfl (Wm (LJ r2 (fun n9 E W => ∃ l6, ST false (keys (c ++ [])) w W U (c ++ l6) ∧ E 0 = t ∧ E 1 = (.int .i64 z) ∧ E 2 = (.int .i64 M) ∧ E 3 = (.int .i64 B) ∧ E 4 = D ∧ E 18 = (.int .i64 R) ∧ E 20 = (.int .i64 g) ∧ E 24 = (.int .i64 a2) ∧ E 185 = (.bool n9)) 4 ?_ (fun n9 b4 f6 => ?_))))))
   ·rintro de E W ⟨l6, d, h4, m8, w7, m9, h5, n0, h6, h7, w8⟩ a8
    refine ln (CI a8 w8 (fun q0 a8 => ?_) (fun q0 a8 => ?_))
    ·refine ma (Wh h4 (Wh h6 (Wh w7 (Wh h7 (Wh h5 (bS a8 fun ck s5 a8 => ?_))))))
     refine VE (eD d (Cr Qz Cn) call364 (fun hh => nO.nz (Bn t a0 c g M a2 D f4 _ _ hh a5 (c6.mono (mx.refl _)) s5)) ?_)
     rintro _ cv z5 ba d o2 bl ⟨u5, e8, rfl, t4⟩
     obtain rfl := e8.symm
     replace d := d.perm (Tr Tn)
     refine ln ?_
     have s := sj a8; subst s
     exact ⟨u5, z5, _, o2, bl, (d.lF St), h4, m8, m9, h5, n0, h6, h7, t4⟩
    refine kn ?_
    have s := sj a8; subst s
    exact ⟨c, U, _, (mx.refl _), Lo.refl, (d.lF St), h4, m8, m9, h5, n0, h6, h7, a5⟩
   refine bC b4 (fun J b4 => ?_) (fun J b4 => ?_)
   ·refine ug J (lP c3) (ug J (lP rfl) (ug J (mP rfl rfl rfl) (V (mh (cB J) rfl) ?_)))
    have s := sj b4; subst s
    exact f6 _ _ ⟨_, (d.lF St), c2, d7, c3, d8, d0, d9, b1, rfl, rfl⟩
   refine un J (un J (un J (V (mi (cB J) rfl) ?_)))
   have s := sj b4; subst s
   exact f6 _ _ ⟨_, (d.lF St), c2, d7, c3, d8, d0, d9, b1, rfl, rfl⟩
  rintro y0 E W ⟨b7, a4, l2, c4, O, d, m0, g4, m1, m2, g7, e0, m3, j3⟩ q9
  refine mf (CJ q9 (fun n6 E W => ∃ b9 c5 l3, mx a4 c5 ∧ Lo (keys (c ++ [])) w a4 c5 ∧ ST false (keys (c ++ [])) w W c5 (b9 ++ l3) ∧ E 0 = t ∧ E 3 = (.int .i64 B) ∧ E 4 = D ∧ E 18 = (.int .i64 R) ∧ E 24 = (.int .i64 a2) ∧ nm 58 lI 5 c5 t n6 b9) (fun n6 r1 => ?_) ?_)
  ·refine sg (Wh g4 (Wh e0 (Wi rfl (Wm (LJ r1 (fun n7 E W => ∃ l5, ST false (keys (c ++ [])) w W a4 (b7 ++ l5) ∧ E 0 = t ∧ E 1 = (.int .i64 z) ∧ E 3 = (.int .i64 B) ∧ E 4 = D ∧ E 18 = (.int .i64 R) ∧ E 20 = (.int .i64 g) ∧ E 24 = (.int .i64 a2) ∧ E 199 = (.bool n7)) 4 ?_ (fun n7 b3 f5 => ?_))))))
   ·rintro db E W ⟨l5, d, h1, w4, m6, h2, h3, w5, m7, w6⟩ a7
    refine ln (CI a7 w6 (fun p9 a7 => ?_) (fun p9 a7 => ?_))
    ·refine ma (Wh h1 (Wh w4 (Wh w5 (Wh h3 (Wh h2 (bS a7 fun cj s4 a7 => ?_))))))
     refine VE (eD d (Cr Qz Cn) call357 (fun hh => (s6 t y0 b7 z g R D f4 _ _ hh j3 (c6.mono c4) s4)) ?_)
     rintro _ cu z4 az d o1 aE ⟨u4, e7, rfl, t3⟩
     obtain rfl := e7.symm
     replace d := d.perm (Tr Tn)
     refine ln ?_
     have s := sj a7; subst s
     exact ⟨u4, z4, _, o1, aE, (d.lF St), h1, m6, h2, h3, m7, t3⟩
    refine kn ?_
    have s := sj a7; subst s
    exact ⟨b7, a4, _, (mx.refl _), Lo.refl, (d.lF St), h1, m6, h2, h3, m7, j3⟩
   refine bC b3 (fun I b3 => ?_) (fun I b3 => ?_)
   ·refine ug I (lP e0) (ug I (lP g7) (ug I (mP rfl rfl rfl) (V (mh (cB I) rfl) ?_)))
    have s := sj b3; subst s
    exact f5 _ _ ⟨_, (d.lF St), m0, g4, m1, m2, g7, e0, m3, rfl⟩
   refine un I (un I (un I (V (mi (cB I) rfl) ?_)))
   have s := sj b3; subst s
   exact f5 _ _ ⟨_, (d.lF St), m0, g4, m1, m2, g7, e0, m3, rfl⟩
  rintro y1 E W ⟨b9, c5, l3, d2, P, d, m4, g8, m5, g9, e1, j4⟩ r0
  refine sg (Wh g9 (Wh e1 (Wi rfl (Wm (LJ r0 (fun n5 E W => ∃ l4, ST false (keys (c ++ [])) w W c5 (b9 ++ l4) ∧ E 0 = t ∧ E 3 = (.int .i64 B) ∧ E 4 = D ∧ E 18 = (.int .i64 R) ∧ E 24 = (.int .i64 a2) ∧ E 213 = (.bool n5)) 4 ?_ (fun n5 b2 f3 => ?_))))))
  ·rintro da E W ⟨l4, d, v8, v9, w0, w1, w2, w3⟩ a6
   refine ln (CI a6 w3 (fun p8 a6 => ?_) (fun p8 a6 => ?_))
   ·refine ma (Wh v8 (Wh w1 (Wh w2 (Wh v9 (Wh w0 (bS a6 fun ci s3 a6 => ?_))))))
    refine VE (eD d (Cr Qz Cn) call357 (fun hh => (s6 t y1 b9 R a2 B D f4 _ _ hh j4 (c6.mono (c4.trans d2)) s3)) ?_)
    rintro _ ct df ay d o0 ad ⟨u3, e6, rfl, t2⟩
    obtain rfl := e6.symm
    replace d := d.perm (Tr Tn)
    refine mz (rR ?_)
    have s := sj a6; subst s
    exact qv rfl ⟨_, _, _, rfl, (d.ov (Kr Sn)), ((c4.trans d2).trans o0), ((O.trans P).trans ad), (ST.nt d (oT.mem (Kr Sn))), u3, rfl, rfl, t2⟩
   refine nf (rR ?_)
   have s := sj a6; subst s
   exact qv rfl ⟨_, _, _, rfl, (d.ov (Kr Sn)), (c4.trans d2), (O.trans P), (ST.nt d (oT.mem (Kr Sn))), b9, rfl, rfl, j4⟩
  refine bC b2 (fun H b2 => ?_) (fun H b2 => ?_)
  ·refine ug H (lP e1) (ug H (lP g8) (ug H (mP rfl rfl rfl) (V (mh (cB H) rfl) ?_)))
   have s := sj b2; subst s
   exact f3 _ _ ⟨_, (d.lF St), m4, g8, m5, g9, e1, rfl⟩
  refine un H (un H (un H (V (mi (cB H) rfl) ?_)))
  have s := sj b2; subst s
  exact f3 _ _ ⟨_, (d.lF St), m4, g8, m5, g9, e1, rfl⟩
theorem sX : ∀ (n : Nat) (c : Value) (k : List Formula) (a : LO) (t : Int) (u : Int) (x : Int) (g : Value) (y : (Formula × Formula) → Option Int) (r : List Formula) (w : World) {i : mN} (H : pC i (a ++ []) w) (B : nm 58 lI 5 i c k a) (D : zh pg0 g i (xH lI lI) (fun (r : Int) => (.int .i64 r)) y) (_ : nK n k t u x y = some r),
  nO false pg0 357 [c, (.int .i64 t), (.int .i64 u), (.int .i64 x), g] w i (a ++ []) (fun v z G => ∃ j, v = (.tuple #[]) ∧ z = (j ++ []) ∧ nm 58 lI 5 G c r j)
 | 0 => by intros; rename_i h; simp only [nK] at h; cases h
 | n + 1 => zp (nK n) (sX n)
theorem BA (a : Value) (a0 : List Formula) (c : LO) (Q : Int) (x : Value) (f2 : (Formula × Formula) → Option Int) (r : List Formula) (w : World) {μ0 : mN} (h0 : pC μ0 (c ++ []) w) (k4 : nm 58 lI 5 μ0 a a0 c) (c7 : zh pg0 x μ0 (xH lI lI) (fun (r : Int) => (.int .i64 r)) f2) (hm : tT a0 Q f2 = some r) :
  nO false pg0 338 [a, (.int .i64 Q), x] w μ0 (c ++ []) (fun v L1 μ1 => ∃ S1, v = (.tuple #[]) ∧ L1 = (S1 ++ []) ∧ nm 58 lI 5 μ1 a r S1) := by
 refine wj h0 63 func338 rfl (fun b => sg (Wa (lr (Wm (Wa (Wa (ln (mf (nL (pn (fun m E W => ∃ d4 d0 d5 P d6 f1, mx μ0 d6 ∧ Lo (keys (c ++ [])) w μ0 d6 ∧ ST false (keys (c ++ [])) w W d6 (d0 ++ f1) ∧ E 0 = a ∧ E 1 = (.int .i64 Q) ∧ E 2 = x ∧ E 6 = (.int .i64 20) ∧ E 7 = (.int .i64 d5) ∧ E 8 = (.int .i64 P) ∧ nm 58 lI 5 d6 a d4 d0 ∧ oe Q f2 m d4 d5 P = some r) mR ⟨a0, c, 0, 20, μ0, _, (mx.refl _), Lo.refl, (b.lF St), rfl, rfl, rfl, rfl, rfl, rfl, k4, hm⟩ ?_))))))))))
 rintro m E W ⟨d4, d0, d5, P, d6, f1, z, l, b, b4, b5, b6, d7, f4, b7, h1, i⟩
 cases m with
 | zero => rw [oe] at i; cases i
 | succ k5 =>
  refine mf (sg (Wh b7 (Wh b5 (Wi rfl (ln (CI i rfl (fun i4 i => ?_) (fun i4 i => ?_)))))))
  ·refine kn (bg (Wh b4 (Wh f4 (Wh b7 (Wh b6 (bS i fun k6 i7 i => ?_))))))
   refine VE (eD b (Cr Qz Cn) call356 (fun A => (uW a d4 d0 d5 P x f2 _ _ A h1 (c7.mono z) i7)) ?_)
   rintro _ m4 k8 l8 b g0 F ⟨k1, c8, rfl, j0⟩
   obtain rfl := c8.symm
   replace b := b.perm (Tr Tn)
   refine lr (Wh b7 (Wa (ln (ma (Wh b7 (Wh d7 (Wi rfl (Wa (mz (mJ ?_))))))))))
   exact lU ⟨k5, bF _, k6, k1, P, (wi0 .i64 (P + 20)), k8, _, (z.trans g0), (l.trans F), (b.lF St), b4, b5, b6, d7, rfl, rfl, j0, i⟩
  refine pk (oR (oR (tE (lU (sg (Wh b4 (Wh f4 (Wh b5 (Wh b6 (bS i fun k7 i8 i => ?_))))))))))
  refine VE (eD b (Cr Qz Cn) call356 (fun A => (uW a d4 d0 d5 Q x f2 _ _ A h1 (c7.mono z) i8)) ?_)
  rintro _ m5 R l9 b a5 L ⟨k2, c9, rfl, j3⟩
  obtain rfl := c9.symm
  replace b := b.perm (Tr Tn)
  refine ln (vv (CJ i (fun d8 E W => ∃ b2 a9 f3, mx R a9 ∧ Lo (keys (c ++ [])) w R a9 ∧ ST false (keys (c ++ [])) w W a9 (b2 ++ f3) ∧ nm 58 lI 5 a9 a d8 b2) (fun d8 i6 => ?_) ?_))
  ·refine nL (pn (fun m E W => ∃ a2 I j k e0, mx R k ∧ Lo (keys (c ++ [])) w R k ∧ ST false (keys (c ++ [])) w W k (I ++ e0) ∧ E 0 = a ∧ E 1 = (.int .i64 Q) ∧ E 2 = x ∧ E 6 = (.int .i64 j) ∧ nm 58 lI 5 k a a2 I ∧ od Q f2 m a2 j = some d8) mR ⟨k7, k2, 20, R, _, (mx.refl _), Lo.refl, (b.lF St), b4, b5, b6, d7, j3, i6⟩ ?_)
   rintro m E W ⟨a2, I, j, k, e0, B, d, b, h6, e4, h7, b3, d1, t⟩
   cases m with
   | zero => rw [od] at t; cases t
   | succ j6 =>
    refine mf (sg (Wh b3 (Wh e4 (Wi rfl (ln (CI t rfl (fun f7 t => ?_) (fun f7 t => ?_)))))))
    ·refine kn (bg (Wh b3 (Wi rfl (Wa (Wa (ln (mf (CJ t (fun a4 E W => ∃ J y e1, mx k y ∧ Lo (keys (c ++ [])) w k y ∧ ST false (keys (c ++ [])) w W y (J ++ e1) ∧ E 0 = a ∧ E 1 = (.int .i64 Q) ∧ E 2 = x ∧ E 6 = (.int .i64 j) ∧ E 7 = (.int .i64 a4.2) ∧ nm 58 lI 5 y a a4.1 J) (fun a4 g4 => ?_) ?_))))))))
     ·refine nL (pn (fun m E W => ∃ a3 K M D H e3, mx k H ∧ Lo (keys (c ++ [])) w k H ∧ ST false (keys (c ++ [])) w W H (K ++ e3) ∧ E 0 = a ∧ E 1 = (.int .i64 Q) ∧ E 2 = x ∧ E 6 = (.int .i64 j) ∧ E 7 = (.int .i64 M) ∧ E 8 = (.int .i64 D) ∧ nm 58 lI 5 H a a3 K ∧ oC Q j f2 m a3 M D = some a4) mR ⟨a2, I, 0, (wi0 .i64 (2 * j)), k, _, (mx.refl _), Lo.refl, (b.lF St), h6, e4, h7, b3, rfl, rfl, d1, g4⟩ ?_)
      rintro m E W ⟨a3, K, M, D, H, e3, N, h, b, c2, c3, c4, Y, c5, Z, d3, g⟩
      cases m with
      | zero => rw [oC] at g; cases g
      | succ j7 =>
       refine mf (sg (Wh Z (Wh c3 (Wi rfl (ln (CI g rfl (fun f9 g => ?_) (fun f9 g => ?_)))))))
       ·refine kn (bg (Wh c2 (Wh c5 (Wh c5 (Wh Y (Wi rfl (Wh Z (Wh c4 (bS g fun j8 g8 g => ?_)))))))))
        refine VE (eD b (Cr Qz Cn) call357 (fun A => ((sX mR) a a3 K M (wi0 .i64 (M + j)) D x f2 _ _ A d3 (c7.mono (((z.trans a5).trans B).trans N)) g8)) ?_)
        rintro _ l6 k0 l1 b f0 s ⟨h5, a7, rfl, h3⟩
        obtain rfl := a7.symm
        replace b := b.perm (Tr Tn)
        refine lr (Wh Z (Wa (ln (ma (Wh Z (Wh Y (Wi rfl (Wi rfl (Wa (mz ?_))))))))))
        exact mJ (lU ⟨j7, bF _, j8, h5, D, (wi0 .i64 (D + (wi0 .i64 (2 * j)))), k0, _, (N.trans f0), (h.trans s), (b.lF St), c2, c3, c4, Y, rfl, rfl, h3, g⟩)
       refine pk (oR (oR (tE (lU ?_))))
       obtain rfl := sj g
       exact ⟨K, H, _, N, h, (b.lF St), c2, c3, c4, Y, c5, d3⟩
     rintro ⟨j4, e7⟩ E W ⟨J, y, e1, b0, n, b, b9, U, c0, c1, e5, d2⟩ g2
     refine mf (CJ g2 (fun e6 E W => ∃ T G e2, mx y G ∧ Lo (keys (c ++ [])) w y G ∧ ST false (keys (c ++ [])) w W G (T ++ e2) ∧ E 0 = a ∧ E 1 = (.int .i64 Q) ∧ E 2 = x ∧ E 6 = (.int .i64 j) ∧ nm 58 lI 5 G a e6 T) (fun e6 u => ?_) ?_)
     ·refine sg (Wh e5 (Wh c1 (Wi rfl (Wa (lr (Wm (Wh U (Wi rfl (ln ?_)))))))))
      refine CI u rfl (fun f8 u => ?_) (fun f8 u => ?_)
      ·refine ma (Wh b9 (Wh e5 (Wm (Wh U (Wh c0 (bS u fun l4 g7 u => ?_))))))
       refine VE (eD b (Cr Qz Cn) call357 (fun A => ((sX mR) a j4 J e7 (wi0 .i64 (e7 + j)) Q x f2 _ _ A d2 (c7.mono (((z.trans a5).trans B).trans b0)) g7)) ?_)
       rintro _ l5 j9 l0 b e9 q ⟨h4, a6, rfl, h2⟩
       obtain rfl := a6.symm
       replace b := b.perm (Tr Tn)
       refine ln ?_
       obtain rfl := sj u
       exact ⟨h4, j9, _, e9, q, (b.lF St), b9, U, c0, c1, h2⟩
      refine kn ?_
      obtain rfl := sj u
      exact ⟨J, y, _, (mx.refl _), Lo.refl, (b.lF St), b9, U, c0, c1, d2⟩
     rintro j5 E W ⟨T, G, e2, e8, o, b, h8, h9, i0, i1, g9⟩ g3
     exact ma (Wh i1 (Wi rfl (Wa (mz (mJ (lU ⟨j6, bF _, j5, T, (wi0 .i64 (j * 2)), G, _, ((B.trans b0).trans e8), ((d.trans n).trans o), (b.lF St), h8, h9, i0, rfl, g9, g3⟩))))))
    refine pk (oR (oR (tE (lU ?_))))
    obtain rfl := sj t
    exact ⟨I, k, _, B, d, (b.lF St), d1⟩
  rintro m3 E W ⟨b2, a9, f3, g1, O, b, i9⟩ i5
  refine rR ?_
  obtain rfl := sj i5
  exact qv rfl ⟨_, _, _, rfl, (b.ov (Kr Sn)), ((z.trans a5).trans g1), ((l.trans L).trans O), (ST.nt b (oT.mem (Kr Sn))), b2, rfl, rfl, i9⟩
theorem Bh (c : Value) (k : List Formula) (a : LO) (i : Value) (u : (Formula × Formula) → Option Int) (r : List Formula) (w : World) {t : mN} (J : pC t (a ++ []) w) (j : nm 58 lI 5 t c k a) (x : zh pg0 i t (xH lI lI) (fun (r : Int) => (.int .i64 r)) u) (hm : qY k u = some r) :
  nO false pg0 321 [c, i] w t (a ++ []) (fun v I K => ∃ B, v = (.tuple #[]) ∧ I = (B ++ []) ∧ nm 58 lI 5 K c r B) := by
 refine wj J 9 func321 rfl (fun b => ma (Wm (Wm (V (Bg aH rfl j) (Wm (bS hm fun Q H hm => ?_))))))
 refine VE (eD b (Cr Qz Cn) call338 (fun h => (BA c k a (k.length : Int) i u _ _ h j (x.mono (mx.refl _)) H)) ?_)
 rintro _ T U M b y d ⟨D, g, rfl, z⟩
 obtain rfl := g.symm
 replace b := b.perm (Tr Tn)
 refine mz (rR ?_)
 obtain rfl := sj hm
 exact qv rfl ⟨_, _, _, rfl, (b.ov (Kr Sn)), y, d, (ST.nt b (oT.mem (Kr Sn))), D, rfl, rfl, z⟩
theorem Gg (A : (List Int) → Formula → Option (List Int)) (f2 : ∀ (a : Nat) (k : Value) (B : List Int) (g : LO) (j : Formula) (u : Value) (r : List Int) (w : World) {μ0 : mN} (h0 : pC μ0 ((a, Ob #[k] 239) :: (g ++ [])) w) (T : mw 5 (ns .u8) 1 k B g) (t : Sl lI 5 μ0 u j.Kids), A B j = some r → nJ false pg0 365 [(.pointer (some ⟨a, 0, none⟩)), (.agg #[(.int .i64 j.Op), (.int .i64 j.K), (.string j.lC.lK), (.string j.lC.lN), u])] w ((a, Ob #[k] 239) :: (g ++ [])) (fun v L1 W' => ∃ m S2, v = (.tuple #[]) ∧ L1 = ((a, Ob #[m] 239) :: (S2 ++ [])) ∧ mw 5 (ns .u8) 1 m r S2)) (a : Nat) (k : Value) (B : List Int) (g : LO) (j : Formula) (u : Value) (r : List Int) (w : World) {μ0 : mN} (h0 : pC μ0 ((a, Ob #[k] 239) :: (g ++ [])) w) (T : mw 5 (ns .u8) 1 k B g) (t : Sl lI 5 μ0 u j.Kids) (hm : yy A B j = some r) :
  nJ false pg0 365 [(.pointer (some ⟨a, 0, none⟩)), (.agg #[(.int .i64 j.Op), (.int .i64 j.K), (.string j.lC.lK), (.string j.lC.lN), u])] w ((a, Ob #[k] 239) :: (g ++ [])) (fun v L1 W' => ∃ m S2, v = (.tuple #[]) ∧ L1 = ((a, Ob #[m] 239) :: (S2 ++ [])) ∧ mw 5 (ns .u8) 1 m r S2) := by
 let b0 := ((a, Ob #[k] 239) :: (g ++ []))
 refine Bo h0 40 func365 rfl (fun b => sg ?_)
 obtain ⟨A1, c2, rfl⟩ := t.form
 refine VE (mG b rfl (fun W4 b3 b => lr (Wm (Wf rK (VB b Mh rfl rfl cH (bS hm fun r5 g8 hm => ?_))))))
 refine VE (eM b (Cb (Pb Pz) (Cr (Qb Qz) Cn)) call181 (fun l _ => nJ.nz (uB a k B g j.Op _ _ l T g8)) ?_)
 rintro _ j8 n j0 b e9 ad d ⟨F, a9, a2, rfl, a5⟩
 obtain rfl := a2.symm
 replace b := b.perm (Tb (Tr Tn))
 refine lS (Wf rK (VB b (Mt (Ma Mh)) rfl rfl cH (Wi rfl (ln (CI hm rfl (fun e8 hm => ?_) (fun e8 hm => ?_))))))
 ·refine sg (Wm (Wf wM (VA b (Mt (Ma Mh)) (lG j.lC) aT aG (bS hm fun j7 f0 hm => ?_))))
  refine VE (eM b (Cb Pz (Cr Qz Cn)) call182 (fun l _ => nJ.nz (ye a F r5.2 a9 j.lC _ _ l a5 f0)) ?_)
  rintro _ j9 k1 j3 b h6 ae d ⟨h3, g2, a3, rfl, f4⟩
  obtain rfl := a3.symm
  replace b := b.perm (Tb (Tr Tn))
  refine ln ?_
  replace b := b.lF (Kb (Kr (Db St)))
  refine mu (mL ?_)
  obtain rfl := sj hm
  exact qv rfl ⟨_, _, rfl, (b.ov (Kb (Kr Sn))), h3, g2, rfl, rfl, f4⟩
 refine kn (mf (CJ hm (fun b5 E W => ∃ q o L d6, mx n L ∧ ST false (keys b0) w W L ((a, Ob #[q] 239) :: ((b3, Ol (C1 j.Op j.K j.lC.lK j.lC.lN A1 j.Kids.length c2) 58) :: (o ++ d6))) ∧ E 0 = (.pointer (some ⟨a, 0, none⟩)) ∧ E 3 = (.pointer (some ⟨b3, 0, none⟩)) ∧ mw 5 (ns .u8) 1 q b5 o) (fun b5 y => ?_) ?_))
 ·refine sg (Wf rK (VB b (Mt (Ma Mh)) rfl rfl cH (Wi rfl (ln (CI y rfl (fun c4 y => ?_) (fun c4 y => ?_))))))
  ·refine ma (Wm (Wf xr (VB b (Mt (Ma Mh)) rfl rfl cH (bS y fun i6 d0 y => ?_))))
   refine VE (eM b (Cb Pz (Cr Qz Cn)) call181 (fun l _ => nJ.nz (uB a F r5.2 a9 j.K _ _ l a5 d0)) ?_)
   rintro _ i9 g1 h9 b b2 aa d ⟨f9, e3, N, rfl, d5⟩
   obtain rfl := N.symm
   replace b := b.perm (Tb (Tr Tn))
   refine ln ?_
   obtain rfl := sj y
   exact ⟨f9, e3, g1, _, b2, (b.lF (Kb (Sb (Pr Pz) St))), rfl, rfl, d5⟩
  refine kn ?_
  obtain rfl := sj y
  exact ⟨F, a9, n, _, (mx.refl _), (b.lF (Kb (Sb (Pr Pz) St))), rfl, rfl, a5⟩
 rintro g9 E W ⟨q, o, L, d6, c6, b, d7, d8, f3⟩ a0
 refine sg (Wh d7 (V (lO rH d8) (VB b (Mt Mh) rfl rfl fH (V (mV aH rfl t) (bS a0 fun h2 f1 a0 => ?_)))))
 refine VE (eM b (Cb Pz (Cr (Qb Qz) Cn)) call181 (fun l _ => nJ.nz (uB a q g9 o (j.Kids.length : Int) _ _ l f3 f1)) ?_)
 rintro _ k0 d9 j4 b c7 af d ⟨h4, g3, a4, rfl, f5⟩
 obtain rfl := a4.symm
 replace b := b.perm (Tb (Tr Tn))
 refine lr (V (lO rH d8) (VB b (Mt (Ma Mh)) rfl rfl fH (V (mV aH rfl t) (Wm (ln ?_)))))
 replace b := b.lF (Kb (Kr (Db St)))
 refine vv (mM (fun i E W => ∃ D H z Q U, (E 32 = .int .i64 (i : Nat) ∧ E 31 = .int .i64 (j.Kids.length : Nat)) ∧ mx d9 Q ∧ ST false (keys b0) w W Q ((a, Ob #[D] 239) :: (z ++ U)) ∧ E 0 = (.pointer (some ⟨a, 0, none⟩)) ∧ E 30 = (.slice A1 j.Kids.length c2) ∧ mw 5 (ns .u8) 1 D H z ∧ tg A (j.Kids.drop i) H = some r) j.Kids.length t.len ⟨h4, h2.2, g3, d9, _, ⟨rfl, rfl⟩, (mx.refl _), (b.lF St), d7, rfl, f5, a0⟩ dc dc dc (fun _ _ _ h => by obtain ⟨_, _, _, _, _, P, _⟩ := h; exact P) ?_ ?_)
 ·rintro f6 E W c5 ⟨D, H, z, Q, U, ⟨O, eN⟩, G, b, Y, Z, K, x⟩
  obtain ⟨c, h7, d2, d1, d3⟩ := mE c5
  rw [d2] at x
  refine bg (VQ (nS (i := (f6 : Int)) (x0 := c) lI.out aH aC Z O (t.mono mg.mono (((e9.trans c6).trans c7).trans G)) (aF _) d1) (fun i5 ⟨_, ⟨i7, rfl, a7⟩, c8⟩ => V (lJ rfl (mr b.has c8 aV aC)) (VE (my b bG (fun i0 i4 b => ?_)))))
  obtain ⟨I, J, rfl⟩ := a7.form
  let s := (C1 c.Op c.K c.lC.lK c.lC.lN I c.Kids.length J)
  refine VO (mj (.agg s.toArray) (s.toArray) b rfl rfl aC oc nb rfl (fun i1 b => ln (ma (Wh Y (VA b Mh s aV aC (bS x fun f7 c9 x => ?_))))))
  refine VE (eM b (Cb (Pb Pz) (Cr (Qb Qz) Cn)) call365 (fun l ab => (f2 a D H z c (.slice I c.Kids.length J) _ _ l K (a7.mono mg.mono ab) c9)) ?_)
  rintro _ i8 g0 h8 b b1 R d ⟨f8, e2, M, rfl, d4⟩
  obtain rfl := M.symm
  replace b := b.perm (Tb (Tr Tn))
  refine mz (mJ (lU ?_))
  replace b := b.lF (Kb (Kr (Db St)))
  exact ⟨O, f8, f7, e2, g0, _, ⟨rfl, eN⟩, (G.trans b1), (b.lF St), Y, Z, d4, (by rw [d3]; exact x)⟩
 rintro E W ⟨D, H, z, Q, U, ⟨O, eN⟩, G, b, Y, Z, K, x⟩
 rw [aI] at x
 refine lU (rR ?_)
 obtain rfl := sj x
 exact qv rfl ⟨_, _, rfl, (b.ov (Kb (Kr Sn))), D, z, rfl, rfl, K⟩
theorem ED : ∀ (n : Nat) (i : Nat) (g : Value) (k : List Int) (c : LO) (j : Formula) (a : Value) (r : List Int) (w : World) {z : mN} (D : pC z ((i, Ob #[g] 239) :: (c ++ [])) w) (x : mw 5 (ns .u8) 1 g k c) (t : Sl lI 5 z a j.Kids) (_ : sf n k j = some r),
  nJ false pg0 365 [(.pointer (some ⟨i, 0, none⟩)), (.agg #[(.int .i64 j.Op), (.int .i64 j.K), (.string j.lC.lK), (.string j.lC.lN), a])] w ((i, Ob #[g] 239) :: (c ++ [])) (fun v B W' => ∃ y u, v = (.tuple #[]) ∧ B = ((i, Ob #[y] 239) :: (u ++ [])) ∧ mw 5 (ns .u8) 1 y r u)
 | 0 => by intros; rename_i h; simp only [sf] at h; cases h
 | n + 1 => Gg (sf n) (ED n)
theorem JQ (k : Nat) (i : Value) (u : List Int) (c : LO) (a : Formula) (j : Value) (r : (Bool × (List Int))) (w : World) {Q : mN} (Y : pC Q ((k, Ob #[i] 239) :: (c ++ [])) w) (t : mw 5 (ns .u8) 1 i u c) (g : Sl lI 5 Q j a.Kids) (hm : zk u a = some r) :
  nJ false pg0 358 [(.pointer (some ⟨k, 0, none⟩)), (.agg #[(.int .i64 a.Op), (.int .i64 a.K), (.string a.lC.lK), (.string a.lC.lN), j])] w ((k, Ob #[i] 239) :: (c ++ [])) (fun v U W' => ∃ M I, v = (.bool (r.1)) ∧ U = ((k, Ob #[M] 239) :: (I ++ [])) ∧ mw 5 (ns .u8) 1 M r.2 I) := by
 refine Bo Y 15 func358 rfl (fun b => sg ?_)
 obtain ⟨y, z, rfl⟩ := g.form
 let B := (C1 a.Op a.K a.lC.lK a.lC.lN y a.Kids.length z)
 refine VE (mG b rfl (fun W4 n b => Wa (lS (Wm (V (uc ja rfl rfl) (Wm (Vg rfl rfl (lJ rfl (lQ b.has Mh B rfl aV aC)) (bS hm fun o K hm => RA rfl rfl (Eg b call72 (vu a (.slice y a.Kids.length z) _ _ (g.mono mg.mono b.lL) K) (fun W7 b => Vg rfl rfl (oy rfl) (V (mi rfl rfl) ?_)))))))))))
 refine ln (CI hm rfl (fun J hm => ?_) (fun J hm => ?_))
 ·refine sg (Wa (ln ?_))
  replace b := b.lF (Db St)
  refine mu (mL ?_)
  obtain rfl := sj hm
  exact nc (v := (.bool false)) rfl rfl ⟨_, _, rfl, (b.ov (Kb (Kr Sn))), i, c, rfl, rfl, t⟩
 refine kg (Wm (VA b Mh B aV aC (bS hm fun q D hm => ?_)))
 refine VE (eM b (Cb (Pb Pz) (Cr (Qb Qz) Cn)) call365 (fun m h => ((ED mR) k i u c a (.slice y a.Kids.length z) _ _ m t (g.mono mg.mono h) D)) ?_)
 rintro _ a2 a3 Z b T l d ⟨N, H, x, rfl, G⟩
 obtain rfl := x.symm
 replace b := b.perm (Tb (Tr Tn))
 refine ln ?_
 replace b := b.lF (Kb (Kr (Db St)))
 refine sg (Wa (lt ?_))
 obtain rfl := sj hm
 exact nc (v := (.bool true)) rfl rfl ⟨_, _, rfl, (b.ov (Kb (Kr Sn))), N, H, rfl, rfl, G⟩
theorem Df (a : Formula) (g : Value) (r : List Int) (w : World) (c : Sl lI 5 (hp w) g a.Kids) (hm : vV a = some r) :
  nq false pg0 339 [(.agg #[(.int .i64 a.Op), (.int .i64 a.K), (.string a.lC.lK), (.string a.lC.lN), g])] w 5 (ns .u8) 1 r := by
 refine uk 11 func339 rfl (fun d => sg ?_)
 obtain ⟨k, t, rfl⟩ := c.form
 refine VE (mG d rfl (fun W4 u d => Wa (lr (V (nW (v := (.agg #[(.slice none 0 0)])) sM (nw zeroValue239 iZ (Tk _ iZ) kr)) (VE (mG d rfl (fun W6 B d => Wa (lr (Wm (VA d (Mt Mh) (C1 a.Op a.K a.lC.lK a.lC.lN k a.Kids.length t) aV aC ?_))))))))))
 refine bS hm fun K D hm => ?_
 refine VE (eM d (Cb Pz (C0 Cn)) call358 (fun s m => (JQ B (.slice none 0 0) ([]) [] a (.slice k a.Kids.length t) _ _ s (mw.nil _ _ _) (c.mono mg.mono m) D)) ?_)
 rintro _ U Y M d I n h ⟨H, N, i, rfl, y⟩
 obtain rfl := i.symm
 replace d := d.perm (Tb (Tr Tn))
 refine ln ?_
 replace d := d.lF (Kb (Kr (Db St)))
 refine sg (Wm (bS hm fun T x hm => VE (pA d call184 (nq.nz (DM B H K.2 _ _ (y.sl (fun _ => rfl) (fun b o l => d.at_ (Mt (Ml l)))) (At.of (d.at_ Mh) _ rfl) x)) (fun Q G Z z d J q j => Wa (ln ?_)))))
 replace d := d.lF (Kr (Db (Dr St)))
 refine mu ?_
 obtain rfl := sj hm
 exact nc (v := G) rfl rfl ⟨_, z, rfl, d.oa (fun p l => (Ml l)) j.nd, j⟩
theorem H7 (a : Formula) (j : Value) (c : Formula) (k : Value) (r : Int) (w : World) (g : Sl lI 5 (hp w) j a.Kids) (i : Sl lI 5 (hp w) k c.Kids) (hm : vT a c = some r) :
  mo false pg0 322 [(.agg #[(.int .i64 a.Op), (.int .i64 a.K), (.string a.lC.lK), (.string a.lC.lN), j]), (.agg #[(.int .i64 c.Op), (.int .i64 c.K), (.string c.lC.lK), (.string c.lC.lN), k])] w (.int .i64 r) := by
 refine cG 10 func322 rfl (fun d => sg ?_)
 obtain ⟨x, z, rfl⟩ := g.form
 refine VE (mG d rfl (fun W4 s d => ?_))
 obtain ⟨y, B, rfl⟩ := i.form
 refine VE (mG d rfl (fun W8 v d => Wa (ln (mf ?_))))
 replace d := d.drew
 have h := d.has.lF (Kb (Kb Sn))
 refine mT h mB (XH 0 rfl h (fun _ l => lJ rfl (lQ l (Mt Mh) (C1 a.Op a.K a.lC.lK a.lC.lN x a.Kids.length z) rfl aV aC)) (XH 2 rfl h (fun _ l => lJ rfl (lQ l Mh (C1 c.Op c.K c.lC.lK c.lC.lN y c.Kids.length B) rfl aV aC)) (bS hm fun K H hm => XE 1 rfl (pA d call339 (Df a (.slice x a.Kids.length z) _ _ (g.mono mg.mono d.lL) H) (fun Y N a4 T d t n D => ?_)))))
 have h := d.has.pN t (Dr (Kb (Kb Sn)))
 refine ⟨h, (bS hm fun M I hm => XE 3 rfl (pA d call339 (Df c (.slice y c.Kids.length B) _ _ (i.mono mg.mono (t.trans d.lL)) I) (fun Z Q a5 U d u q G => ?_)))⟩
 have h := d.has.pN (t.trans u) (Dr (Dr (Kb (Kb Sn))))
 refine ⟨h, (bS hm fun a3 J hm => XE 4 rfl (Eg d call178 (mo.nz (Em N K Q M _ _ (D.sl (fun _ => rfl) (fun b o m => d.at_ (Ma (Ml m)))) (G.sl (fun _ => rfl) (fun b o m => d.at_ (Ml m))) J)) (fun a2 d => ?_)))⟩
 have h := d.has.pN (t.trans u) (Dr (Dr (Kb (Kb Sn))))
 refine ⟨h, (X 5 rfl h (oD rfl) (nh kr (lU ?_)))⟩
 exact mu (rQ hm d)
theorem Ff (g : Value) (k r : List Formula) (w : World) {G : mN} (Y : pC G [] w) (u : Sl lI 5 G g k) (hm : yc k = some r) :
  nO false pg0 288 [g] w G [] (fun v U μ1 => ∃ T I, v = T ∧ U = (I ++ []) ∧ nm 58 lI 5 μ1 T r I) := by
 refine wj Y 9 func288 rfl (fun b => sg (Wa (lr (Wm (bS hm fun Z Q hm => ?_)))))
 refine VE (eD b (bI _) call320 (fun h => nO.nz (EO g k _ _ h (u.mono mg.mono (mx.refl _)) Q)) ?_ (L0 := []))
 rintro _ v7 s L9 b y l ⟨i, H, a, rfl, B⟩
 obtain rfl := a.symm
 replace b := b.perm (Tr Tn)
 refine Wa (lr (Wm (bS hm fun a5 z hm => ?_)))
 refine VE (eD b (Cr Qz Cn) call321 (fun h => (Bh i Z H (.func (.func 322) #[] #[]) (fun (x : (Formula × Formula)) => vT x.1 x.2) _ _ h B ⟨322, #[], #[], rfl, call322, fun W x vs r F m hm => by obtain ⟨_, _, rfl, M, N⟩ := m; obtain ⟨q, rfl, o⟩ := M.out; obtain ⟨t0, rfl, n⟩ := N.out; exact H7 x.1 q x.2 t0 r W o n hm⟩ z)) ?_)
 rintro _ t A a3 b j d ⟨J, c, rfl, D⟩
 obtain rfl := c.symm
 replace b := b.perm (Tr Tn)
 refine lr (Wm (Wa (lt ?_)))
 obtain rfl := sj hm
 exact nc (v := i) rfl rfl ⟨_, _, _, rfl, (b.ov (Kr Sn)), (y.trans j), (l.trans d), (ST.nt b (oT.mem (Kr Sn))), i, J, rfl, rfl, D⟩
theorem Cd (g : Value) (a0 : List Formula) (x : LO) (Z : Value) (f1 : (Formula × Formula) → Option Bool) (r : List Formula) (w : World) {μ0 : mN} (h0 : pC μ0 (x ++ []) w) (B : nm 58 lI 5 μ0 g a0 x) (d2 : zh pg0 Z μ0 (xH lI lI) (fun (r : Bool) => (.bool r)) f1) (hm : rW a0 f1 = some r) :
  nO false pg0 291 [g, Z] w μ0 (x ++ []) (fun v L1 μ1 => ∃ y1, v = y1 ∧ L1 = [] ∧ Sl lI 5 μ1 y1 (r)) := by
 refine wj h0 66 func291 rfl (fun d => sg (Wa (lS (Wm (V (Bg aH rfl B) (Wi rfl (ln (CI hm rfl (fun i3 hm => ?_) (fun i3 hm => ?_)))))))))
 ·refine sg (Wm (Wa (lt (mL ?_))))
  obtain rfl := sj hm
  refine nc (v := g) rfl rfl ?_
  obtain ⟨a1, d, i2, F, j0⟩ := ST.yZ mg d B
  exact ⟨_, _, _, rfl, (d.ov Sn), i2, F, (ST.nt d (oT.mem Sn)), g, rfl, rfl, j0⟩
 refine kS (Wa (ln (nL (pn (fun m E W => ∃ t b7, ST false (keys (x ++ [])) w W μ0 (x ++ b7) ∧ E 0 = g ∧ E 1 = Z ∧ E 5 = (.int .i64 t) ∧ oL a0 f1 m t = some r) mR ⟨1, _, (d.lF St), rfl, rfl, rfl, hm⟩ ?_))))
 rintro m E W ⟨t, b7, d, y, a3, G, a⟩
 cases m with
 | zero => rw [oL] at a; cases a
 | succ h1 =>
  refine mf (sg (Wh G (Wh y (V (Bg aH rfl B) (Wi rfl (ln (CI a rfl (fun d3 a => ?_) (fun d3 a => ?_))))))))
  ·refine kn (mf (nL (mf ?_)))
   replace d := d.drew
   have h := d.has.lF (Kr Sn)
   refine mT h mB (X 0 rfl h (lP a3) (X 1 rfl h (lP y) (X 2 rfl h (lP G) (bS a fun h7 b2 a => XQ 3 rfl h (nR (i := t) lI.out aH aC rfl rfl B (mF b2) (mA b2)) (fun k1 ⟨_, ⟨h3, rfl, e7⟩, e0, i4⟩ => XH 4 rfl h (fun _ s => lJ rfl (mr (qc.hp _) (e0.mono (oB (fun b o q => s.2 b o (Ml q)))) aV aC)) (X 5 rfl h (lP y) (X 6 rfl h (lP G) (X 7 rfl h (mP rfl rfl rfl) (bS a fun h8 b3 a => XQ 8 rfl h (nR (i := (wi0 .i64 (t - 1))) lI.out aH aC rfl rfl B (mF b3) (mA b3)) (fun k2 ⟨_, ⟨h4, rfl, e8⟩, e1, i5⟩ => XH 9 rfl h (fun _ s => lJ rfl (mr (qc.hp _) (e1.mono (oB (fun b o q => s.2 b o (Ml q)))) aV aC)) (bS a fun k7 e5 a => XE 10 rfl (AN (h7, h8) d d2 (mx.refl _) (xH.mk mg mg (lI.mk ⟨h3, rfl, e7⟩) (lI.mk ⟨h4, rfl, e8⟩) d.lL) rfl (yA rfl rfl) e5 (fun j6 d => ?_)))))))))))))
   have h := d.has.lF (Kr Sn)
   refine ⟨h, (nh kr (lU (CI a rfl (fun d4 a => ?_) (fun d4 a => ?_))))⟩
   ·refine sg (Wh y (Wh G (bS a fun _ L a => VQ (DK (i := t) aH aC rfl rfl B (ue L) (tL L)) (fun c4 K => Wa (lS (Wa (ln ?_)))))))
    refine CJ a (fun T E W => ∃ a2 b9, ST false (keys (x ++ [])) w W μ0 (a2 ++ b9) ∧ E 0 = g ∧ E 5 = (.int .i64 T.2) ∧ nm 58 lI 5 μ0 g T.1 a2) (fun T d8 => ?_) ?_
    ·refine nL (pn (fun m E W => ∃ a5 J U u c0, ST false (keys (x ++ [])) w W μ0 (J ++ c0) ∧ E 0 = g ∧ E 1 = Z ∧ E 5 = (.int .i64 U) ∧ E 6 = c4 ∧ E 7 = (.int .i64 u) ∧ nm 58 lI 5 μ0 g a5 J ∧ oN t f1 m a5 U u = some T) mR ⟨a0, x, t, 1, _, (d.lF St), y, a3, G, rfl, rfl, B, d8⟩ ?_)
     rintro m E W ⟨a5, J, U, u, c0, d, N, a4, Q, H, I, k, j⟩
     cases m with
     | zero => rw [oN] at j; cases j
     | succ h2 =>
      refine mf (sg (Wh I (Wh H (V (Pv aH rfl K k) (Wi rfl (ln (CI j rfl (fun d5 j => ?_) (fun d5 j => ?_))))))))
      ·refine kn (mf (CJ j (fun A E W => ∃ M c1, ST false (keys (x ++ [])) w W μ0 (M ++ c1) ∧ E 0 = g ∧ E 1 = Z ∧ E 5 = (.int .i64 A.2) ∧ E 6 = c4 ∧ E 7 = (.int .i64 u) ∧ nm 58 lI 5 μ0 g A.1 M) (fun A c => ?_) ?_))
       ·refine nL (mf ?_)
        replace d := d.drew
        have h := d.has.lF (Kr Sn)
        refine mT h mB (X 0 rfl h (lP a4) (X 1 rfl h (lP H) (X 2 rfl h (lP I) (bS c fun i0 b4 c => XQ 3 rfl h (DY (i := u) lI.out aH aC rfl rfl k K (mF b4) (mA b4)) (fun k3 ⟨_, ⟨h5, rfl, f4⟩, e2, i6⟩ => XH 4 rfl h (fun _ s => lJ rfl (mr (qc.hp _) (e2.mono (oB (fun b o q => s.2 b o (Ml q)))) aV aC)) (X 5 rfl h (lP H) (X 6 rfl h (lP I) (X 7 rfl h (mP rfl rfl rfl) (bS c fun i1 b5 c => XQ 8 rfl h (DY (i := (wi0 .i64 (u - 1))) lI.out aH aC rfl rfl k K (mF b5) (mA b5)) (fun k4 ⟨_, ⟨h6, rfl, f5⟩, e3, i7⟩ => XH 9 rfl h (fun _ s => lJ rfl (mr (qc.hp _) (e3.mono (oB (fun b o q => s.2 b o (Ml q)))) aV aC)) (bS c fun k8 e6 c => XE 10 rfl (AN (i0, i1) d d2 (mx.refl _) (xH.mk mg mg (lI.mk ⟨h5, rfl, f4⟩) (lI.mk ⟨h6, rfl, f5⟩) d.lL) rfl (yA rfl rfl) e6 (fun j8 d => ?_)))))))))))))
        have h := d.has.lF (Kr Sn)
        refine ⟨h, (X 11 rfl h (oy rfl) (nh kr (lU (CI c rfl (fun d6 c => ?_) (fun d6 c => ?_)))))⟩
        ·refine sg (Wh N (Wh Q (Wh H (Wh I (bS c fun c7 b6 c => VQ (DY (i := u) lI.out aH aC rfl rfl k K (mF b6) (mA b6)) (fun k5 ⟨_, ⟨l0, rfl, R⟩, e4, i8⟩ => V (lJ rfl (mr (qc.hp _) (e4.mono (oB (fun b o q => d.has.2 b o (Ml q)))) aV aC)) (bS c fun l2 Y c => VQ (nR (i := U) lI.out aH aC rfl rfl k (mF Y) (mA Y)) (fun k6 ⟨_, ⟨l1, rfl, j3⟩, i9, d7⟩ => ?_))))))))
         obtain ⟨f7, g0, rfl⟩ := R.form
         refine VO (tI (x1 := c7) mg d k rfl rfl (lI.mk ⟨(.slice f7 c7.Kids.length g0), rfl, R⟩) d7 (mA Y) aC (fun j9 f8 d d1 => ln (ma (Wh Q (Wi rfl (Wa (mz (mJ (lU ?_)))))))))
         obtain rfl := sj c
         exact ⟨f8, _, (d.lF St), N, a4, rfl, H, I, d1⟩
        refine nf (mJ (lU ?_))
        obtain rfl := sj c
        exact ⟨J, _, (d.lF St), N, a4, Q, H, I, k⟩
       rintro ⟨g9, h9⟩ E W ⟨M, c1, d, g1, g2, g3, g4, g7, f3⟩ d9
       exact ma (Wh g7 (Wi rfl (Wa (ln ⟨h2, bF _, g9, M, h9, (wi0 .i64 (u + 1)), _, (d.lF St), g1, g2, g3, g4, rfl, f3, d9⟩))))
      refine pk (oR (oR (tE (lU ?_))))
      obtain rfl := sj j
      exact ⟨J, _, (d.lF St), N, Q, k⟩
    rintro ⟨k0, c6⟩ E W ⟨a2, b9, d, c2, c3, P⟩ D
    refine sg (Wh c2 (Wh c3 (bS D fun _ O D => VQ (DK (i := c6) aH aC rfl rfl P (ue O) (tL O)) (fun k9 e9 => VO (GQ (z := (⟨0, 0, K0, []⟩ : Formula)) (zs := C8) mg d P (lI.mk ⟨(.slice none 0 0), rfl, (Sl.nil _ _ _)⟩) aH bG e9 rfl rfl (fun j7 j5 d d0 => lr (Wh c2 (Wh c3 (bS D fun _ a9 D => VQ (JH (i := c6) aH aC rfl rfl d0 (ue a9) (tL a9)) (fun c5 f0 => ?_))))))))))
    refine Wa (lt (nY (mL (mL (nY (mL ?_))))))
    obtain rfl := sj D
    refine nc (v := c5) rfl rfl ?_
    obtain ⟨l3, d, c8, l, f2⟩ := ST.yZ mg d f0
    exact ⟨_, _, _, rfl, (d.ov Sn), c8, l, (ST.nt d (oT.mem Sn)), c5, rfl, rfl, f2⟩
   exact nf (mJ (lU (ma (Wh G (Wi rfl (Wa (ln ⟨h1, bF _, (wi0 .i64 (t + 1)), _, (d.lF St), y, a3, rfl, a⟩)))))))
  refine pk (oR (oR (tE (lU (sg (Wh y (Wa (lt ?_))))))))
  obtain rfl := sj a
  refine nc (v := g) rfl rfl ?_
  obtain ⟨l4, d, c9, n, f6⟩ := ST.yZ mg d B
  exact ⟨_, _, _, rfl, (d.ov Sn), c9, n, (ST.nt d (oT.mem Sn)), g, rfl, rfl, f6⟩
theorem tH (G : Value) (N : List Formula) (H : Value) (l : List Formula) (I : Value) (f2 : (Formula × Formula) → Option Bool) (r : Bool) (w : World) (x : Sl lI 5 (hp w) G N) (Q : Sl lI 5 (hp w) H l) (o : zh pg0 I (hp w) (xH lI lI) (fun (r : Bool) => (.bool r)) f2) (hm : oM N l f2 = some r) :
  mo false pg0 323 [G, H, I] w (.bool r) := by
 refine cG 32 func323 rfl (fun b => sg (Wa (lS (Wm (V (mV aH rfl x) (Wm (V (mV aH rfl Q) (Wi rfl (mz ?_)))))))))
 refine lU (CI hm rfl (fun s hm => ?_) (fun s hm => ?_))
 ·refine sg (Wa (lt (mL ?_)))
  obtain rfl := sj hm
  exact rP b
 refine kS (Wm (V (mV aH rfl x) (Wm (ln (mM (fun i E W => ∃ y, (E 17 = .int .i64 (i : Nat) ∧ E 16 = .int .i64 (N.length : Nat)) ∧ ST false mD w W (hp w) y ∧ E 1 = H ∧ E 2 = I ∧ E 15 = G ∧ nA l f2 (N.drop i) i = some r) N.length x.len ⟨_, ⟨rfl, rfl⟩, (b.lF St), rfl, rfl, rfl, hm⟩ dc dc dc (fun _ _ _ h => by obtain ⟨_, m, _⟩ := h; exact m) ?_ ?_)))))
 ·rintro a4 E W U ⟨y, ⟨d, n⟩, b, z, B, D, a⟩
  obtain ⟨g, c5, a9, q, a3⟩ := mE U
  rw [a9] at a
  refine bg (Wh d (VQ (nS (i := (a4 : Int)) (x0 := g) lI.out aH aC D d x (aF _) q) (fun b9 ⟨_, ⟨c2, rfl, J⟩, Y⟩ => V (lJ rfl (mr b.has Y aV aC)) (VE (my b bG (fun v P b => Wa ?_))))))
  obtain ⟨j, t, rfl⟩ := J.form
  let a0 := (C1 g.Op g.K g.lC.lK g.lC.lN j g.Kids.length t)
  refine VO (mj (.agg a0.toArray) (a0.toArray) b rfl rfl aC oc nb rfl (fun A b => lr (Wh z (Wm (bS a fun c M a => VQ (nS (i := (a4 : Int)) (x0 := c) lI.out aH aC rfl rfl Q (mF M) (mA M)) (fun c0 ⟨_, ⟨c3, rfl, K⟩, Z⟩ => V (lJ rfl (mr b.has Z aV aC)) (VE (my b bG (fun F R b => ?_)))))))))
  obtain ⟨k, u, rfl⟩ := K.form
  let a5 := (C1 c.Op c.K c.lC.lK c.lC.lN k c.Kids.length u)
  refine VO (mj (.agg a5.toArray) (a5.toArray) b rfl rfl aC oc nb rfl (fun L b => lr (Wh B (VA b (Mt Mh) a0 aV aC (VA b Mh a5 aV aC (bS a fun c1 a2 a => VE (AN (g, c) b o (mx.refl _) (xH.mk mg mg (lI.mk ⟨(.slice j g.Kids.length t), rfl, J⟩) (lI.mk ⟨(.slice k c.Kids.length u), rfl, K⟩) b.lL) rfl (yA rfl rfl) a2 (fun O b => V (oy rfl) (ln ?_)))))))))
  replace b := b.lF (Db (Db St))
  refine CI a rfl (fun T a => ?_) (fun T a => ?_)
  ·refine sg (Wa (lt (nY (mL (nY (mL ?_))))))
   obtain rfl := sj a
   exact rP b
  exact nf (mJ (lU ⟨d, _, ⟨rfl, n⟩, (b.lF St), z, B, D, (by rw [a3]; exact a)⟩))
 rintro E W ⟨y, ⟨d, n⟩, b, z, B, D, a⟩
 rw [aI] at a
 exact lU (sg (Wa (lt (rQ a b))))
theorem GH (M : Formula → Formula → Option Bool) (v : ∀ (a : Formula) (j : Value) (c : Formula) (k : Value) (r : Bool) (w : World) (u : Sl lI 5 (hp w) j a.Kids) (y : Sl lI 5 (hp w) k c.Kids), M a c = some r → mo false pg0 292 [(.agg #[(.int .i64 a.Op), (.int .i64 a.K), (.string a.lC.lK), (.string a.lC.lN), j]), (.agg #[(.int .i64 c.Op), (.int .i64 c.K), (.string c.lC.lK), (.string c.lC.lN), k])] w (.bool r)) (a : Formula) (j : Value) (c : Formula) (k : Value) (r : Bool) (w : World) (u : Sl lI 5 (hp w) j a.Kids) (y : Sl lI 5 (hp w) k c.Kids) (hm : za M a c = some r) :
  mo false pg0 292 [(.agg #[(.int .i64 a.Op), (.int .i64 a.K), (.string a.lC.lK), (.string a.lC.lN), j]), (.agg #[(.int .i64 c.Op), (.int .i64 c.K), (.string c.lC.lK), (.string c.lC.lN), k])] w (.bool r) := by
 refine cG 31 func292 rfl (fun b => sg ?_)
 obtain ⟨N, Y, rfl⟩ := u.form
 let d := (C1 a.Op a.K a.lC.lK a.lC.lN N a.Kids.length Y)
 refine VE (mG b rfl (fun W4 T b => ?_))
 obtain ⟨Q, Z, rfl⟩ := y.form
 let a0 := (C1 c.Op c.K c.lC.lK c.lC.lN Q c.Kids.length Z)
 refine VE (mG b rfl (fun W8 U b => Wa (lr (Wf rK (VB b (Mt Mh) rfl rfl cH (Wf rK (VB b Mh rfl rfl cH (Wi rfl (Wm (LJ hm (fun a9 E W => ∃ a2, ST false mD w W (hp w) ((U, Ol a0 58) :: ((T, Ol d 58) :: a2)) ∧ E 2 = (.pointer (some ⟨T, 0, none⟩)) ∧ E 3 = (.pointer (some ⟨U, 0, none⟩)) ∧ E 4 = (.bool false) ∧ E 16 = (.bool a9)) 6 ?_ (fun a9 D I => ?_)))))))))))
 ·rintro d1 E W ⟨a2, b, J, K, a5, A⟩ n
  refine Wh A (LJ n (fun m E W => ∃ a3, ST false mD w W (hp w) ((U, Ol a0 58) :: ((T, Ol d 58) :: a3)) ∧ E 2 = (.pointer (some ⟨T, 0, none⟩)) ∧ E 3 = (.pointer (some ⟨U, 0, none⟩)) ∧ E 4 = (.bool false) ∧ E 23 = (.bool m)) 6 ?_ (fun m B H => ?_))
  ·rintro d2 E W ⟨a3, b, F, L, h, c1⟩ o
   refine Wh c1 (LJ o (fun l E W => ∃ a4, ST false mD w W (hp w) a4 ∧ E 4 = (.bool false) ∧ E 30 = (.bool l)) 6 ?_ (fun l z G => ?_))
   ·rintro d3 E W ⟨a4, b, c9, O⟩ q
    exact Wg O (lt (rQ q b))
   refine bC z (fun i z => ?_) (fun i z => ?_)
   ·refine ug i (lO rH F) (ug i (lJ rfl (lX b.has (Mt Mh) rfl fH)) (ug i (lO rH L) (ug i (lJ rfl (lX b.has Mh rfl fH)) (bS z fun d0 s z => sa i (Eg b call323 (tH (.slice N a.Kids.length Y) a.Kids (.slice Q c.Kids.length Z) c.Kids (.func (.func 292) #[] #[]) (fun (x : (Formula × Formula)) => M x.1 x.2) _ _ (u.mono mg.mono b.lL) (y.mono mg.mono b.lL) ⟨292, #[], #[], rfl, call292, fun W x vs r hs hR hm => by obtain ⟨_, _, rfl, P, R⟩ := hR; obtain ⟨u0, rfl, k0⟩ := P.out; obtain ⟨t0, rfl, j0⟩ := R.out; exact v x.1 u0 x.2 t0 r W k0 j0 hm⟩ s) (fun c8 b => V (mh (cB i) rfl) ?_))))))
    obtain rfl := sj z
    exact G _ _ ⟨_, (b.lF (Db (Db St))), h, rfl⟩
   refine un i (un i (un i (un i (un i (V (mi (cB i) rfl) ?_)))))
   obtain rfl := sj z
   exact G _ _ ⟨_, (b.lF (Db (Db St))), h, rfl⟩
  refine bC B (fun g B => ?_) (fun g B => ?_)
  ·refine ug g (lO wM J) (ug g (lJ rfl (lQ b.has (Mt Mh) (lG a.lC) rfl aT aG)) (ug g (lO wM K) (ug g (lJ rfl (lQ b.has Mh (lG c.lC) rfl aT aG)) (ug g (vx rfl rfl (oI dK) (rA (pX _ a.lC c.lC))) (V (mh (cB g) rfl) ?_)))))
   obtain rfl := sj B
   exact H _ _ ⟨_, (b.lF St), J, K, a5, rfl⟩
  refine un g (un g (un g (un g (un g (V (mi (cB g) rfl) ?_)))))
  obtain rfl := sj B
  exact H _ _ ⟨_, (b.lF St), J, K, a5, rfl⟩
 refine bC D (fun t D => ?_) (fun t D => ?_)
 ·refine ug t (lO xr rfl) (ug t (lJ rfl (lX b.has (Mt Mh) rfl cH)) (ug t (lO xr rfl) (ug t (lJ rfl (lX b.has Mh rfl cH)) (ug t (mP rfl rfl rfl) (V (mh (cB t) rfl) ?_)))))
  obtain rfl := sj D
  exact I _ _ ⟨_, (b.lF St), rfl, rfl, rfl, rfl⟩
 refine un t (un t (un t (un t (un t (V (mi (cB t) rfl) ?_)))))
 obtain rfl := sj D
 exact I _ _ ⟨_, (b.lF St), rfl, rfl, rfl, rfl⟩
theorem Fq : ∀ (n : Nat) (g : Formula) (a : Value) (i : Formula) (c : Value) (r : Bool) (w : World) (j : Sl lI 5 (hp w) a g.Kids) (k : Sl lI 5 (hp w) c i.Kids) (_ : qm n g i = some r),
  mo false pg0 292 [(.agg #[(.int .i64 g.Op), (.int .i64 g.K), (.string g.lC.lK), (.string g.lC.lN), a]), (.agg #[(.int .i64 i.Op), (.int .i64 i.K), (.string i.lC.lK), (.string i.lC.lN), c])] w (.bool r)
 | 0 => by intros; rename_i h; simp only [qm] at h; cases h
 | n + 1 => GH (qm n) (Fq n)
theorem wF (j : Nat) (a0 : nk) (c : Int) (K : Value) (a2 : List Formula) (r : (Formula × nk)) (w : World) {μ0 : mN} (h0 : pC μ0 ((j, Ol (nM a0) 249) :: []) w) (b5 : Sl lI 5 μ0 K a2) (hm : qo a0 c a2 = some r) :
  nO false pg0 248 [(.pointer (some ⟨j, 0, none⟩)), (.int .i64 c), K] w μ0 ((j, Ol (nM a0) 249) :: []) (fun v L1 μ1 => ∃ y1, v = (.agg #[(.int .i64 ((r.1).Op)), (.int .i64 ((r.1).K)), (.string (((r.1).lC).lK)), (.string (((r.1).lC).lN)), y1]) ∧ L1 = ((j, Ol (nM (r.2)) 249) :: []) ∧ Sl lI 5 μ1 y1 ((r.1).Kids)) := by
 refine wj h0 37 func248 rfl (fun b => sg (VE (my b bG (fun W2 R b => lr (Wm (Wi rfl (VE (my b zeroValue3 (fun W4 s b => VO (mj (.int .i64 (wi0 .i64 (5 - c))) (#[(.int .i64 (wi0 .i64 (5 - c)))]) b rfl rfl jq (HO _ (wi0 .i64 (5 - c))) nb rfl (fun W5 b => ln (mf ?_))))))))))))
 let m := (wi0 .i64 (5 - c))
 let q : Value := (.agg (Ve m).toArray)
 refine ma (Wm (Wm (bS hm fun r6 d1 hm => ?_)))
 refine VE (eD b (bI _) call289 (fun n => nO.nz (Mq c K a2 _ _ n (b5.mono mg.mono (mx.refl _)) d1)) ?_ (L0 := []))
 rintro _ f4 aa e2 b B d ⟨P, H, rfl, a3⟩
 obtain rfl := H.symm
 refine Wa (lS (Wm (V (qz (by exact vc rfl) rfl) (bS hm fun f3 c1 hm => VE (Eg b call194 (xL P r6 (.func (.func 290) #[] #[(.pointer (some ⟨s, 0, none⟩))]) (fun (x : Formula) => tu x m) _ _ (a3.mono mg.mono b.lL) ⟨290, #[], #[(.pointer (some ⟨s, 0, none⟩))], rfl, call290, fun W x vs r hs A hm => by obtain ⟨_, rfl, U⟩ := A; obtain ⟨L, rfl, F⟩ := U.out; exact (Dm x L s m r W F (At.of (hs _ _ (b.at_ Mh)) _ rfl) hm).nz⟩ c1) (fun e5 b => ln (CI hm rfl (fun b6 hm => ?_) (fun b6 hm => ?_))))))))
 ·refine sg (VB b Mh rfl rfl cH (V (nW (v := q) (oE rfl) (nw bG cP (DI _ cP) kr)) ?_))
  replace b := b.perm (Nb (Pb Pz) Nz)
  refine VO (mj q ((Ve m).toArray) b rfl rfl aC oc nb rfl (fun e6 b => ln ?_))
  replace b := b.lF (Kb (Db St))
  refine mu (mL ?_)
  obtain rfl := sj hm
  exact tj (v := q) rfl rfl (lQ b.has Mh (Ve m) rfl aV aC) ⟨_, _, _, rfl, (b.ov (Db (Kb Sn))), B, d, (ST.nt b (oT.mem (Db (Kb Sn)))), (.slice none 0 0), rfl, rfl, (Sl.nil _ _ _)⟩
 refine kn ?_
 replace b := b.lF (Db St)
 refine sg (Wm (bS hm fun d2 c2 hm => ?_))
 refine VE (eD b (bI _) call288 (fun n => (Ff P r6 _ _ n (a3.mono mg.mono (mx.refl _)) c2)) ?_ (L0 := []))
 rintro _ f5 f9 e3 b N h ⟨d5, c7, I, rfl, c4⟩
 obtain rfl := I.symm
 replace b := b.perm (Tr Tn)
 refine bS hm fun z c3 hm => ?_
 refine VE (eD b (Cr Qz Cn) call291 (fun n => (Cd d5 d2 c7 (.func (.func 292) #[] #[]) (fun (x : (Formula × Formula)) => qm mR x.1 x.2) _ _ n c4 ⟨292, #[], #[], rfl, call292, fun W x vs r hs A hm => by obtain ⟨_, _, rfl, U, d0⟩ := A; obtain ⟨L, rfl, F⟩ := U.out; obtain ⟨t0, rfl, j0⟩ := d0.out; exact (Fq mR) x.1 L x.2 t0 r W F j0 hm⟩ c3)) ?_)
 rintro _ f6 d7 e4 b Q l ⟨d6, J, rfl, y⟩
 obtain rfl := J.symm
 refine Wa (ln (mf (CJ hm (fun O E W => ∃ a5, ST false (keys ((j, Ol (nM a0) 249) :: [])) w W d7 ((R, Ol C8 58) :: ((j, Ol (nM O) 249) :: a5)) ∧ E 1 = (.int .i64 c) ∧ E 6 = (.pointer (some ⟨R, 0, none⟩)) ∧ E 8 = d6) (fun O u => ?_) ?_)))
 ·refine sg (Wm (V (mV aH rfl y) (Wi rfl (ln (CI u rfl (fun b9 u => ?_) (fun b9 u => ?_))))))
  ·refine ma (Wm (Wn (Wf Ou ?_)))
   replace b := b.perm (Nb (Pb Pz) Nz)
   refine VO (mj (.int .i64 12) ((nM (⟨12⟩ : nk)).toArray) b rfl rfl sizeOf40 (HO _ 12) nb rfl (fun f1 b => ln ?_))
   obtain rfl := sj u
   exact ⟨_, (b.lF (Sb (Pb Pz) St)), rfl, rfl, rfl⟩
  refine kn ?_
  obtain rfl := sj u
  exact ⟨_, (b.lF St), rfl, rfl, rfl⟩
 rintro f8 E W ⟨a5, b, c9, M, T⟩ g
 refine mf (sg (Wh T (V (mV aH rfl y) (Wi rfl (ln (CI g rfl (fun b7 g => ?_) (fun b7 g => ?_)))))))
 ·refine sg (Wh T (bS g fun a Z g => VQ (nS (i := 0) (x0 := a) lI.out aH aC rfl rfl y (mF Z) (mA Z)) (fun f2 ⟨_, ⟨f7, rfl, Y⟩, c0⟩ => V (lJ rfl (mr b.has c0 aV aC)) ?_)))
  obtain ⟨D, G, rfl⟩ := Y.form
  let a4 := (C1 a.Op a.K a.lC.lK a.lC.lN D a.Kids.length G)
  refine VO (mj (.agg a4.toArray) (a4.toArray) b M rfl aC oc nb rfl (fun e9 b => lt (mL ?_)))
  obtain rfl := sj g
  exact tj (v := (.agg a4.toArray)) rfl M (lQ b.has Mh a4 rfl aV aC) ⟨_, _, _, rfl, (b.ov (Db (Kb Sn))), ((B.trans N).trans Q), ((d.trans h).trans l), (ST.nt b (oT.mem (Db (Kb Sn)))), (.slice D a.Kids.length G), rfl, rfl, Y⟩
 refine kg (Wh c9 (Wh T ?_))
 obtain ⟨k, t, rfl⟩ := y.form
 let a9 : Value := (.slice k z.length t)
 let o : Value := (.agg #[(.int .i64 c), (.int .i64 0), (.string zS), (.string zS), a9])
 refine V (nW (v := o) (qV rfl rfl) (nw bG cP (DI _ cP) kr)) (VO (mj o (#[(.int .i64 c), (.int .i64 0), (.string zS), (.string zS), a9]) b M rfl aC oc nb rfl (fun f0 b => lt ?_)))
 obtain rfl := sj g
 exact tj (v := o) rfl M (lQ b.has Mh [(.int .i64 c), (.int .i64 0), (.string zS), (.string zS), a9] rfl aV aC) ⟨_, _, _, rfl, (b.ov (Db (Kb Sn))), ((B.trans N).trans Q), ((d.trans h).trans l), (ST.nt b (oT.mem (Db (Kb Sn)))), a9, rfl, rfl, y⟩
theorem Di (G : Nat) (a0 : nk) (a1 : Int) (c2 : Value) (a2 : List Formula) (r : (Formula × nk)) (w : World) {μ0 : mN} (h0 : pC μ0 ((G, Ol (nM a0) 249) :: []) w) (c1 : Sl lI 5 μ0 c2 a2) (hm : tw a0 a1 a2 = some r) :
  nO false pg0 247 [(.pointer (some ⟨G, 0, none⟩)), (.int .i64 a1), c2] w μ0 ((G, Ol (nM a0) 249) :: []) (fun v L1 μ1 => ∃ y1, v = (.agg #[(.int .i64 ((r.1).Op)), (.int .i64 ((r.1).K)), (.string (((r.1).lC).lK)), (.string (((r.1).lC).lN)), y1]) ∧ L1 = ((G, Ol (nM (r.2)) 249) :: []) ∧ Sl lI 5 μ1 y1 ((r.1).Kids)) := by
 let j8 := ((nM a0).toArray : Array Value)
 refine wj h0 58 func247 rfl (fun b => sg (VE (my b bG (fun W2 b1 b => lr (Wa (lS (Wm ?_)))))))
 refine V (mV aH rfl c1) (Wm (ln (mM (fun i E W => ∃ x K J N c0, (E 12 = .int .i64 (i : Nat) ∧ E 11 = .int .i64 (a2.length : Nat)) ∧ ST false (keys ((G, Obj.cells j8 249 (0, 0)) :: [])) w W μ0 ((b1, Ol C8 58) :: ((G, Obj.cells j8 249 (0, 0)) :: (N ++ c0))) ∧ E 0 = (.pointer (some ⟨G, 0, none⟩)) ∧ E 1 = (.int .i64 x) ∧ E 6 = (.pointer (some ⟨b1, 0, none⟩)) ∧ E 7 = K ∧ E 10 = c2 ∧ nm 58 lI 5 μ0 K J N ∧ oJ a0 (a2.drop i) x J = some r) a2.length c1.len ⟨a1, (.slice none 0 0), ([]), [], _, ⟨rfl, rfl⟩, (b.lF St), rfl, rfl, rfl, rfl, rfl, (nm.nil _ _ _ _), hm⟩ dc dc dc (fun _ _ _ h => by obtain ⟨_, _, _, _, _, aa, _⟩ := h; exact aa) ?_ ?_)))
 ·rintro h2 E W f2 ⟨x, K, J, N, c0, ⟨R, eN⟩, b, U, H, u, I, P, D, a⟩
  obtain ⟨c, h8, g8, g7, b7⟩ := mE f2
  rw [g8] at a
  refine bg (VQ (nS (i := (h2 : Int)) (x0 := c) lI.out aH aC P R c1 (aF _) g7) (fun k7 ⟨_, ⟨l0, rfl, Y⟩, f3⟩ => V (lJ rfl (mr b.has f3 aV aC)) (VE (my b bG (fun i6 k4 b => ?_)))))
  obtain ⟨y, z, rfl⟩ := Y.form
  let j6 : Value := (.slice y c.Kids.length z)
  let b8 := (C1 c.Op c.K c.lC.lK c.lC.lN y c.Kids.length z)
  refine VO (mj (.agg b8.toArray) (b8.toArray) b rfl rfl aC oc nb rfl (fun i7 b => ln (bg (VA b Mh b8 aV aC (bS a fun k8 f4 a => VE (Eg b call285 (mo.nz (Ce c j6 2 _ _ (Y.mono mg.mono b.lL) f4)) (fun i8 b => Wa (ln (CI a rfl (fun e5 a => ?_) (fun e5 a => ?_))))))))))
  ·refine ma (Wh H (Wi rfl (Wa (mz (mJ (mJ (lU ?_)))))))
   replace b := b.lF (Db St)
   exact ⟨R, (wi0 .i64 (x - 1)), K, J, N, _, ⟨rfl, eN⟩, (b.lF St), U, rfl, u, I, P, D, (by rw [b7]; exact a)⟩
  refine sg (VA b Mh b8 aV aC (bS a fun k9 f5 a => VE (Eg b call285 (mo.nz (Ce c j6 3 _ _ (Y.mono mg.mono b.lL) f5)) (fun i9 b => V (oy rfl) (Wa (ln (CI a rfl (fun e6 a => ?_) (fun e6 a => ?_))))))))
  ·refine ma (Wh I (VA b Mh b8 aV aC (VE (mH (cs := b8.toArray) b (oE rfl) (ot aH aC bG) (fun j0 k5 b => ?_)))))
   replace b := b.perm (Nr (Qb (Qb (Qb (Qb Qz)))) Nz)
   refine bS a fun h3 e7 a => VE (wk (B := N) mg b dc aH rq.1 rq.2.1 rfl rq.2.2.1 rq.2.2.2 rfl rfl D (D5.lit mg (l := [c]) (.cons (ys := C1 c.Op c.K c.lC.lK c.lC.lN y c.Kids.length z) (lI.mk ⟨j6, rfl, Y⟩) .nil) rfl nb (b.at_ (Ma Mh))) e7 (fun j3 h4 g9 b e4 => Wa (mz (mJ (mJ (lU ?_))))))
   replace b := b.lF (Kr (Db (Db St)))
   exact ⟨R, x, h4, h3, g9, _, ⟨rfl, eN⟩, (b.lF (Sb (Pr Pz) (Sb (Pr Pz) St))), U, H, u, rfl, P, e4, (by rw [b7]; exact a)⟩
  refine nf (mJ (mJ (lU ?_)))
  replace b := b.lF (Db St)
  exact ⟨R, x, K, J, N, _, ⟨rfl, eN⟩, (b.lF St), U, H, u, I, P, D, (by rw [b7]; exact a)⟩
 rintro E W ⟨x, K, J, N, c0, ⟨R, eN⟩, b, U, H, u, I, P, D, a⟩
 rw [aI] at a
 refine lU (mf (bg (Wh H (Wi rfl (Wa (ln (CI a rfl (fun e8 a => ?_) (fun e8 a => ?_))))))))
 ·refine sg (bS a fun g f6 a => ?_)
  let j2 : Value := (.string (((g).lC).lN))
  let h9 : Value := (.string (((g).lC).lK))
  refine VE (eD b (bI _) call286 (fun d => nO.nz (Jx  _ _ d  f6)) ?_ (L0 := []))
  rintro _ l1 m2 i0 b c9 m ⟨l6, b2, rfl, c3⟩
  obtain rfl := b2.symm
  obtain ⟨Z, a6, rfl⟩ := c3.form
  let g5 : Value := (.slice Z ((g).Kids).length a6)
  let e0 : Value := (.agg #[(.int .i64 ((g).Op)), (.int .i64 ((g).K)), h9, j2, g5])
  refine VO (mj e0 (#[(.int .i64 ((g).Op)), (.int .i64 ((g).K)), h9, j2, g5]) b u rfl aC oc nb rfl (fun j5 b => ln ?_))
  replace b := b.lF (Kb (Kb (Dr St)))
  refine mu (nY (mL ?_))
  obtain rfl := sj a
  exact tj (v := e0) rfl u (lQ b.has Mh [(.int .i64 ((g).Op)), (.int .i64 ((g).K)), h9, j2, g5] rfl aV aC) ⟨_, _, _, rfl, (b.ov (Db (Kb Sn))), c9, m, (ST.nt b (oT.mem (Db (Kb Sn)))), g5, rfl, rfl, c3⟩
 refine sg (Wh H (Wh I (V (Bg aH rfl D) (Wi rfl (Wa (ln (CI a rfl (fun e9 a => ?_) (fun e9 a => ?_))))))))
 ·refine sg (bS a fun j f7 a => ?_)
  let j4 : Value := (.string (((j).lC).lN))
  let j1 : Value := (.string (((j).lC).lK))
  refine VE (eD b (bI _) call287 (fun d => nO.nz (KB  _ _ d  f7)) ?_ (L0 := []))
  rintro _ l2 m3 i1 b d0 n ⟨l7, b3, rfl, c4⟩
  obtain rfl := b3.symm
  obtain ⟨a3, a7, rfl⟩ := c4.form
  let e3 : Value := (.slice a3 ((j).Kids).length a7)
  let d9 : Value := (.agg #[(.int .i64 ((j).Op)), (.int .i64 ((j).K)), j1, j4, e3])
  refine VO (mj d9 (#[(.int .i64 ((j).Op)), (.int .i64 ((j).K)), j1, j4, e3]) b u rfl aC oc nb rfl (fun j7 b => ln ?_))
  replace b := b.lF (Kb (Kb (Dr St)))
  refine mu (nY (mL ?_))
  obtain rfl := sj a
  exact tj (v := d9) rfl u (lQ b.has Mh [(.int .i64 ((j).Op)), (.int .i64 ((j).K)), j1, j4, e3] rfl aV aC) ⟨_, _, _, rfl, (b.ov (Db (Kb Sn))), d0, n, (ST.nt b (oT.mem (Db (Kb Sn)))), e3, rfl, rfl, c4⟩
 refine sg (Wh H (Wh I (V (Bg aH rfl D) (Wi rfl (Wa (ln (CI a rfl (fun f0 a => ?_) (fun f0 a => ?_))))))))
 ·refine sg (Wh U (Wh I ?_))
  replace b := b.perm (Nr (Qb (Qb Qz)) Nz)
  obtain ⟨m4, b, d1, o, g1⟩ := ST.yZ mg b D
  refine bS a fun k f8 a => ?_
  let h6 : Value := (.string (((k.1).lC).lN))
  let h1 : Value := (.string (((k.1).lC).lK))
  refine VE (eD b (Cb (Pb Pz) Cn) call248 (fun d => (wF G a0 2 K J _ _ d (g1.mono mg.mono (mx.refl _)) f8)) ?_)
  rintro _ l3 m5 i2 b d2 q ⟨l8, b4, rfl, c5⟩
  obtain rfl := b4.symm
  replace b := b.perm (Tb Tn)
  obtain ⟨a4, a8, rfl⟩ := c5.form
  let e1 : Value := (.slice a4 ((k.1).Kids).length a8)
  let c8 : Value := (.agg #[(.int .i64 ((k.1).Op)), (.int .i64 ((k.1).K)), h1, h6, e1])
  replace b := b.perm (Nb (Pb Pz) Nz)
  refine VO (mj c8 (#[(.int .i64 ((k.1).Op)), (.int .i64 ((k.1).K)), h1, h6, e1]) b u rfl aC oc nb rfl (fun j9 b => lt (nY (mL ?_))))
  obtain rfl := sj a
  exact tj (v := c8) rfl u (lQ b.has Mh [(.int .i64 ((k.1).Op)), (.int .i64 ((k.1).K)), h1, h6, e1] rfl aV aC) ⟨_, _, _, rfl, (b.ov (Db (Kb Sn))), (d1.trans d2), (o.trans q), (ST.nt b (oT.mem (Db (Kb Sn)))), e1, rfl, rfl, c5⟩
 refine sg (Wh H (Wi rfl (Wa (ln (CI a rfl (fun f1 a => ?_) (fun f1 a => ?_))))))
 ·refine sg (Wh U (Wh I ?_))
  replace b := b.perm (Nr (Qb (Qb Qz)) Nz)
  obtain ⟨m6, b, d3, s, g2⟩ := ST.yZ mg b D
  refine bS a fun t f9 a => ?_
  let h7 : Value := (.string (((t.1).lC).lN))
  let h5 : Value := (.string (((t.1).lC).lK))
  refine VE (eD b (Cb (Pb Pz) Cn) call248 (fun d => (wF G a0 3 K J _ _ d (g2.mono mg.mono (mx.refl _)) f9)) ?_)
  rintro _ l4 m7 i3 b d4 A ⟨l9, b5, rfl, c6⟩
  obtain rfl := b5.symm
  replace b := b.perm (Tb Tn)
  obtain ⟨a5, a9, rfl⟩ := c6.form
  let e2 : Value := (.slice a5 ((t.1).Kids).length a9)
  let d8 : Value := (.agg #[(.int .i64 ((t.1).Op)), (.int .i64 ((t.1).K)), h5, h7, e2])
  replace b := b.perm (Nb (Pb Pz) Nz)
  refine VO (mj d8 (#[(.int .i64 ((t.1).Op)), (.int .i64 ((t.1).K)), h5, h7, e2]) b u rfl aC oc nb rfl (fun k1 b => lt (nY (mL ?_))))
  obtain rfl := sj a
  exact tj (v := d8) rfl u (lQ b.has Mh [(.int .i64 ((t.1).Op)), (.int .i64 ((t.1).K)), h5, h7, e2] rfl aV aC) ⟨_, _, _, rfl, (b.ov (Db (Kb Sn))), (d3.trans d4), (s.trans A), (ST.nt b (oT.mem (Db (Kb Sn)))), e2, rfl, rfl, c6⟩
 refine nf (mJ (lU (sg (Wh H (Wh I ?_)))))
 replace b := b.perm (Nr (Qb (Qb Qz)) Nz)
 obtain ⟨m8, b, d5, F, g3⟩ := ST.yZ mg b D
 refine bS a fun T g0 a => ?_
 refine VE (eD b (bI _) call288 (fun d => (Ff K J _ _ d (g3.mono mg.mono (mx.refl _)) g0)) ?_ (L0 := []))
 rintro _ l5 m9 i4 b d6 L ⟨m0, i5, b6, rfl, c7⟩
 obtain rfl := b6.symm
 replace b := b.perm (Tr Tn)
 obtain ⟨M, Q, rfl⟩ := c7.form
 let g6 : Value := (.slice M T.length Q)
 let b9 : Value := (.agg #[(.int .i64 4), (.int .i64 x), (.string zS), (.string zS), g6])
 refine V (nW (v := b9) (FF rfl rfl rfl) (nw bG cP (DI _ cP) kr)) ?_
 replace b := b.perm (Nb (Pr Pz) Nz)
 refine VO (mj b9 (#[(.int .i64 4), (.int .i64 x), (.string zS), (.string zS), g6]) b u rfl aC oc nb rfl (fun k3 b => lt ?_))
 obtain rfl := sj a
 refine tj (v := b9) rfl u (lQ b.has Mh [(.int .i64 4), (.int .i64 x), (.string zS), (.string zS), g6] rfl aV aC) ?_
 replace b := b.perm (Nr (Qb Qz) Nz)
 obtain ⟨n0, b, d7, O, g4⟩ := ST.yZ mg b c7
 exact ⟨_, _, _, rfl, (b.ov (Db (Kb Sn))), ((d5.trans d6).trans d7), ((F.trans L).trans O), (ST.nt b (oT.mem (Db (Kb Sn)))), g6, rfl, rfl, g4⟩
theorem Ci (c9 : nk → Formula → Option (Formula × nk)) (e9 : ∀ (u : Nat) (a0 : nk) (a : Formula) (y : Value) (r : (Formula × nk)) (w : World) {μ0 : mN} (h0 : pC μ0 ((u, Ol (nM a0) 249) :: []) w) (x : Sl lI 5 μ0 y a.Kids), c9 a0 a = some r → nO false pg0 191 [(.pointer (some ⟨u, 0, none⟩)), (.agg #[(.int .i64 a.Op), (.int .i64 a.K), (.string a.lC.lK), (.string a.lC.lN), y])] w μ0 ((u, Ol (nM a0) 249) :: []) (fun v L1 μ1 => ∃ L, v = (.agg #[(.int .i64 ((r.1).Op)), (.int .i64 ((r.1).K)), (.string (((r.1).lC).lK)), (.string (((r.1).lC).lN)), L]) ∧ L1 = ((u, Ol (nM (r.2)) 249) :: []) ∧ Sl lI 5 μ1 L ((r.1).Kids))) (u : Nat) (a0 : nk) (a : Formula) (y : Value) (r : (Formula × nk)) (w : World) {μ0 : mN} (h0 : pC μ0 ((u, Ol (nM a0) 249) :: []) w) (x : Sl lI 5 μ0 y a.Kids) (hm : uT c9 a0 a = some r) :
  nO false pg0 191 [(.pointer (some ⟨u, 0, none⟩)), (.agg #[(.int .i64 a.Op), (.int .i64 a.K), (.string a.lC.lK), (.string a.lC.lN), y])] w μ0 ((u, Ol (nM a0) 249) :: []) (fun v L1 μ1 => ∃ L, v = (.agg #[(.int .i64 ((r.1).Op)), (.int .i64 ((r.1).K)), (.string (((r.1).lC).lK)), (.string (((r.1).lC).lN)), L]) ∧ L1 = ((u, Ol (nM (r.2)) 249) :: []) ∧ Sl lI 5 μ1 L ((r.1).Kids)) := by
 let d0 := ((u, Ol (nM a0) 249) :: [])
 refine wj h0 39 func191 rfl (fun b => sg ?_)
 obtain ⟨A1, c2, rfl⟩ := x.form
 let A := (C1 a.Op a.K a.lC.lK a.lC.lN A1 a.Kids.length c2)
 refine VE (mG b rfl (fun W4 b3 b => VE (my b bG (fun W6 b5 b => lS (Wf rK (VB b (Mt Mh) rfl rfl cH (Wi rfl (ln (CI hm rfl (fun f8 hm => ?_) (fun f8 hm => ?_))))))))))
 ·refine sg (VA b (Mt Mh) A aV aC (VO (mj (.agg A.toArray) (A.toArray) b rfl rfl aC oc nb rfl (fun W8 b => ln ?_))))
  replace b := b.lF (Kb (Db St))
  refine mu (mL ?_)
  obtain rfl := sj hm
  exact tj (v := (.agg A.toArray)) rfl rfl (lQ b.has Mh A rfl aV aC) ⟨_, _, _, rfl, (b.ov (Db (Kb Sn))), (mx.refl _), Lo.refl, (ST.nt b (oT.mem (Db (Kb Sn)))), (.slice A1 a.Kids.length c2), rfl, rfl, x⟩
 refine kg (Wa (lS (Wf rH (VB b (Mt Mh) rfl rfl fH (V (mV aH rfl x) (Wm (mz ?_)))))))
 refine lU (mM (fun i E W => ∃ I H T D J b7, (E 15 = .int .i64 (i : Nat) ∧ E 14 = .int .i64 (a.Kids.length : Nat)) ∧ mx μ0 J ∧ Lo (keys d0) w μ0 J ∧ ST false (keys d0) w W J ((u, Ol (nM D) 249) :: ((b5, Ol C8 58) :: ((b3, Ol A 58) :: (T ++ b7)))) ∧ E 0 = (.pointer (some ⟨u, 0, none⟩)) ∧ E 3 = (.pointer (some ⟨b3, 0, none⟩)) ∧ E 4 = (.pointer (some ⟨b5, 0, none⟩)) ∧ E 5 = I ∧ E 13 = (.slice A1 a.Kids.length c2) ∧ nm 58 lI 5 J I H T ∧ pS c9 a (a.Kids.drop i) H D = some r) a.Kids.length x.len ⟨(.slice none 0 0), ([]), [], a0, μ0, _, ⟨rfl, rfl⟩, (mx.refl _), Lo.refl, (b.lF (Sb (Pb (Pb Pz)) St)), rfl, rfl, rfl, rfl, rfl, (nm.nil _ _ _ _), hm⟩ dc dc dc (fun _ _ _ h => by obtain ⟨_, _, _, _, _, _, aa, _⟩ := h; exact aa) ?_ ?_)
 ·rintro f0 E W d7 ⟨I, H, T, D, J, b7, ⟨eI, eN⟩, z, d, b, a2, a3, G, P, b9, K, c⟩
  obtain ⟨t, f9, e5, e4, e6⟩ := mE d7
  rw [e5] at c
  refine bg (VQ (nS (i := (f0 : Int)) (x0 := t) lI.out aH aC b9 eI (x.mono mg.mono z) (aF _) e4) (fun h7 ⟨_, ⟨h8, rfl, c0⟩, d8⟩ => V (lJ rfl (mr b.has d8 aV aC)) (VE (my b bG (fun g3 h5 b => ?_)))))
  obtain ⟨a7, a9, rfl⟩ := c0.form
  let R := (C1 t.Op t.K t.lC.lK t.lC.lN a7 t.Kids.length a9)
  refine VO (mj (.agg R.toArray) (R.toArray) b rfl rfl aC oc nb rfl (fun g4 b => ln (ma (Wh P (Wh a2 (VA b Mh R aV aC (bS c fun g d9 c => ?_)))))))
  refine VE (eD b (Cb (Pb Pz) Cn) call191 (fun F => (e9 u D t (.slice a7 t.Kids.length a9) _ _ F (c0.mono mg.mono (mx.refl _)) d9)) ?_)
  rintro _ h9 f4 g0 b b6 m ⟨i2, b1, rfl, c1⟩
  obtain rfl := b1.symm
  replace b := b.perm (Tb Tn)
  obtain ⟨M, U, rfl⟩ := c1.form
  let d1 : Value := (.slice M ((g.1).Kids).length U)
  refine VE (mH (cs := #[(.int .i64 ((g.1).Op)), (.int .i64 ((g.1).K)), (.string (((g.1).lC).lK)), (.string (((g.1).lC).lN)), d1]) b (oE rfl) (ot aH aC bG) (fun g8 h6 b => ?_))
  replace b := b.perm (Nr (Qb (Qb (Qb (Qb (Qb Qz))))) Nz)
  refine bS c fun f1 d5 c => VE (wk (B := T) mg b dc aH rq.1 rq.2.1 rfl rq.2.2.1 rq.2.2.2 rfl rfl (K.mono mg b6) (D5.lit mg (l := [g.1]) (.cons (ys := [(.int .i64 ((g.1).Op)), (.int .i64 ((g.1).K)), (.string (((g.1).lC).lK)), (.string (((g.1).lC).lN)), d1]) (lI.mk ⟨d1, rfl, c1⟩) .nil) rfl nb (b.at_ (Ma Mh))) d5 (fun g9 f2 e8 b d4 => Wa (mz (mJ (lU ?_)))))
  replace b := b.lF (Kr (Db (Kb (Db St))))
  exact ⟨eI, f2, f1, e8, g.2, f4, _, ⟨rfl, eN⟩, (z.trans b6), (d.trans m), (b.lF (Sb (Pr Pz) (Sb (Pr Pz) (Sb (Pr Pz) St)))), a2, a3, G, rfl, b9, d4, (by rw [e6]; exact c)⟩
 rintro E W ⟨I, H, T, D, J, b7, ⟨eI, eN⟩, z, d, b, a2, a3, G, P, b9, K, c⟩
 rw [aI] at c
 refine lU (mf (sg (V (lO rK a3) (VB b (Mt (Mt Mh)) rfl rfl cH (Wi rfl (ln (CI c rfl (fun d6 c => ?_) (fun d6 c => ?_))))))))
 ·refine sg (Wh a2 (V (lO xr a3) (VB b (Mt (Mt Mh)) rfl rfl cH (Wh P ?_))))
  replace b := b.perm (Nr (Qb (Qb (Qb Qz))) Nz)
  obtain ⟨i5, b, c5, n, e2⟩ := ST.yZ mg b K
  refine bS c fun j e0 c => ?_
  let f3 : Value := (.string (((j.1).lC).lN))
  let d3 : Value := (.string (((j.1).lC).lK))
  refine VE (eD b (Cb Pz Cn) call247 (fun F => (Di u D a.K I H _ _ F (e2.mono mg.mono (mx.refl _)) e0)) ?_)
  rintro _ i0 i6 g1 b c6 o ⟨i3, b2, rfl, c3⟩
  obtain rfl := b2.symm
  replace b := b.perm (Tb Tn)
  obtain ⟨N, Y, rfl⟩ := c3.form
  let b8 : Value := (.slice N ((j.1).Kids).length Y)
  let a5 : Value := (.agg #[(.int .i64 ((j.1).Op)), (.int .i64 ((j.1).K)), d3, f3, b8])
  replace b := b.perm (Nb (Pb Pz) Nz)
  refine VO (mj a5 (#[(.int .i64 ((j.1).Op)), (.int .i64 ((j.1).K)), d3, f3, b8]) b G rfl aC oc nb rfl (fun h2 b => ln ?_))
  replace b := b.lF (Kb (Kb (Db St)))
  refine mu (mL ?_)
  obtain rfl := sj c
  exact tj (v := a5) rfl G (lQ b.has Mh [(.int .i64 ((j.1).Op)), (.int .i64 ((j.1).K)), d3, f3, b8] rfl aV aC) ⟨_, _, _, rfl, (b.ov (Db (Kb Sn))), ((z.trans c5).trans c6), ((d.trans n).trans o), (ST.nt b (oT.mem (Db (Kb Sn)))), b8, rfl, rfl, c3⟩
 refine kg (Wh a2 (V (lO rK a3) (VB b (Mt (Mt Mh)) rfl rfl cH (Wh P ?_))))
 replace b := b.perm (Nr (Qb (Qb (Qb Qz))) Nz)
 obtain ⟨i7, b, c7, q, e3⟩ := ST.yZ mg b K
 refine bS c fun k e1 c => ?_
 let f5 : Value := (.int .i64 ((k.1).Op))
 let e7 : Value := (.string (((k.1).lC).lN))
 let d2 : Value := (.string (((k.1).lC).lK))
 refine VE (eD b (Cb Pz Cn) call248 (fun F => (wF u D a.Op I H _ _ F (e3.mono mg.mono (mx.refl _)) e1)) ?_)
 rintro _ i1 i8 g2 b c8 s ⟨i4, b4, rfl, c4⟩
 obtain rfl := b4.symm
 replace b := b.perm (Tb Tn)
 obtain ⟨Q, Z, rfl⟩ := c4.form
 let O : Value := (.slice Q ((k.1).Kids).length Z)
 let a4 : Value := (.agg #[f5, (.int .i64 ((k.1).K)), d2, e7, O])
 replace b := b.perm (Nb (Pb Pz) Nz)
 refine VO (mj a4 (#[f5, (.int .i64 ((k.1).K)), d2, e7, O]) b G rfl aC oc nb rfl (fun h4 b => ln ?_))
 replace b := b.lF (Kb (Kb (Db St)))
 refine mu ?_
 obtain rfl := sj c
 exact tj (v := a4) rfl G (lQ b.has Mh [f5, (.int .i64 ((k.1).K)), d2, e7, O] rfl aV aC) ⟨_, _, _, rfl, (b.ov (Db (Kb Sn))), ((z.trans c7).trans c8), ((d.trans q).trans s), (ST.nt b (oT.mem (Db (Kb Sn)))), O, rfl, rfl, c4⟩
theorem Ah : ∀ (n : Nat) (c : Nat) (j : nk) (g : Formula) (a : Value) (r : (Formula × nk)) (w : World) {k : mN} (y : pC k ((c, Ol (nM j) 249) :: []) w) (i : Sl lI 5 k a g.Kids) (_ : pt n j g = some r),
  nO false pg0 191 [(.pointer (some ⟨c, 0, none⟩)), (.agg #[(.int .i64 g.Op), (.int .i64 g.K), (.string g.lC.lK), (.string g.lC.lN), a])] w k ((c, Ol (nM j) 249) :: []) (fun v u x => ∃ t, v = (.agg #[(.int .i64 ((r.1).Op)), (.int .i64 ((r.1).K)), (.string (((r.1).lC).lK)), (.string (((r.1).lC).lN)), t]) ∧ u = ((c, Ol (nM (r.2)) 249) :: []) ∧ Sl lI 5 x t ((r.1).Kids))
 | 0 => by intros; rename_i h; simp only [pt] at h; cases h
 | n + 1 => Ci (pt n) (Ah n)
theorem Iv (c : Formula) (u : Value) (r : (Formula × Int)) (w : World) {Z : mN} (A : pC Z [] w) (k : Sl lI 5 Z u c.Kids) (hm : AD c = some r) :
  nO false pg0 132 [(.agg #[(.int .i64 c.Op), (.int .i64 c.K), (.string c.lC.lK), (.string c.lC.lN), u])] w Z [] (fun v L1 μ1 => ∃ q, v = (.tuple #[(.agg #[(.int .i64 ((r.1).Op)), (.int .i64 ((r.1).K)), (.string (((r.1).lC).lK)), (.string (((r.1).lC).lN)), q]), (.int .i64 (r.2))]) ∧ L1 = [] ∧ Sl lI 5 μ1 q ((r.1).Kids)) := by
 refine wj A 27 func132 rfl (fun b => sg ?_)
 obtain ⟨H, I, rfl⟩ := k.form
 let n := (C1 c.Op c.K c.lC.lK c.lC.lN H c.Kids.length I)
 refine VE (mG b rfl (fun W4 L b => VE (my b bG (fun W6 o b => Wa (lS (VA b (Mt Mh) n aV aC (bS hm fun r7 a5 hm => VE (Eg b call72 (vu c (.slice H c.Kids.length I) _ _ (k.mono mg.mono b.lL) a5) (fun W9 b => V (oy rfl) (ln (CI hm rfl (fun Q hm => ?_) (fun Q hm => ?_))))))))))))
 ·refine sg (V (nW (v := (.agg C8.toArray)) sM (nw bG cP (DI _ cP) kr)) (VO (mj (.agg C8.toArray) (C8.toArray) b rfl rfl aC oc nb rfl (fun P b => Wa (ln ?_)))))
  replace b := b.lF (Kb (Db St))
  refine mu (mL ?_)
  obtain rfl := sj hm
  exact tk (v0 := (.agg C8.toArray)) (v1 := (.int .i64 11)) rfl rfl (lQ b.has Mh C8 rfl aV aC) rfl ⟨_, _, _, rfl, (b.ov Sn), (mx.refl _), Lo.refl, (ST.nt b (oT.mem Sn)), (.slice none 0 0), rfl, rfl, (Sl.nil _ _ _)⟩
 refine kg (V (nW (v := (.agg (nM K6).toArray)) sM (nw zeroValue249 kZ (Wd _ kZ) kr)) (VE (mG b rfl (fun R s b => Wa (lr (Wm (VA b (Mt (Mt Mh)) n aV aC (bS hm fun a U hm => ?_))))))))
 let m : Value := (.int .i64 ((a.1).K))
 let l : Value := (.int .i64 ((a.1).Op))
 let h : Value := (.string (((a.1).lC).lN))
 let a2 : Value := (.string (((a.1).lC).lK))
 refine VE (eD b (Cb Pz Cn) call191 (fun F => ((Ah mR) s K6 c (.slice H c.Kids.length I) _ _ F (k.mono mg.mono (mx.refl _)) U)) ?_)
 rintro _ c7 a9 O b D d ⟨c9, y, rfl, z⟩
 obtain rfl := y.symm
 replace b := b.perm (Tb Tn)
 refine VE (my b bG (fun c0 K b => ?_))
 obtain ⟨i, j, rfl⟩ := z.form
 let a0 : Value := (.slice i ((a.1).Kids).length j)
 let N : Value := (.agg #[l, m, a2, h, a0])
 refine VO (mj N (#[l, m, a2, h, a0]) b rfl rfl aC oc nb rfl (fun c1 b => ln ?_))
 replace b := b.lF (Kb (Kb (Kb (Db St))))
 refine mf (sg (Wm (Wn (Wf Ou (VB b (Mt Mh) rfl rfl isAgg40 (Wi rfl (Wm (LJ hm (fun M E W => ∃ J, ST false (keys []) w W a9 ((K, Ob #[l, m, a2, h, a0] 58) :: ((o, Ol C8 58) :: J)) ∧ E 2 = (.pointer (some ⟨o, 0, none⟩)) ∧ E 5 = (.pointer (some ⟨K, 0, none⟩)) ∧ E 24 = (.bool M)) 4 ?_ (fun M t G => ?_)))))))))
 ·rintro c8 E W ⟨J, b, B, a3, a4⟩ x
  refine ln (CI x a4 (fun T x => ?_) (fun T x => ?_))
  ·refine sg (V (nW (v := (.agg C8.toArray)) sM (nw bG cP (DI _ cP) kr)) ?_)
   replace b := b.perm (Nb (Pb Pz) Nz)
   refine VO (mj (.agg C8.toArray) (C8.toArray) b B rfl aC oc nb rfl (fun c3 b => Wa (ln ?_)))
   replace b := b.lF (Kb (Db St))
   refine mu (mL ?_)
   obtain rfl := sj x
   exact tk (v0 := (.agg C8.toArray)) (v1 := (.int .i64 12)) rfl B (lQ b.has Mh C8 rfl aV aC) rfl ⟨_, _, _, rfl, (b.ov Sn), D, d, (ST.nt b (oT.mem Sn)), (.slice none 0 0), rfl, rfl, (Sl.nil _ _ _)⟩
  refine kg (V (lJ a3 (lQ b.has Mh [l, m, a2, h, a0] rfl aV aC)) ?_)
  replace b := b.perm (Nb (Pb Pz) Nz)
  refine VO (mj N (#[l, m, a2, h, a0]) b B rfl aC oc nb rfl (fun c4 b => Wa (ln ?_)))
  replace b := b.lF (Kb (Db St))
  refine mu ?_
  obtain rfl := sj x
  exact tk (v0 := N) (v1 := (.int .i64 0)) rfl B (lQ b.has Mh [l, m, a2, h, a0] rfl aV aC) rfl ⟨_, _, _, rfl, (b.ov Sn), D, d, (ST.nt b (oT.mem Sn)), a0, rfl, rfl, z⟩
 refine bC t (fun g t => ?_) (fun g t => ?_)
 ·refine un g (un g (un g (V (mh (cB g) rfl) ?_)))
  obtain rfl := sj t
  exact G _ _ ⟨_, (b.lF (Kb (Db St))), rfl, rfl, rfl⟩
 refine ug g (lJ rfl (lQ b.has Mh [l, m, a2, h, a0] rfl aV aC)) (bS t fun c6 Y t => sa g (Eg b call72 (vu a.1 a0 _ _ (z.mono mg.mono b.lL) Y) (fun c5 b => ug g (oy rfl) (V (mi (cB g) rfl) ?_))))
 obtain rfl := sj t
 exact G _ _ ⟨_, (b.lF (Kb (Db St))), rfl, rfl, rfl⟩
end Go.Proofs.YtklbhegeiijbjaaGreat
