/- a part of a proof of LeastShrinks -/
import Derived.Test.YtklbhegeiijbjaaGreatN4Mn
import Derived.Test.YtklbhegeiijbjaaGreatProg
set_option linter.all false
namespace Go.Proofs.YtklbhegeiijbjaaGreat
open Go.RowKit
set_option maxRecDepth 10000
open Tryz
def aC := @sizeOf58
def aD := @underlying56
def aK := @isAgg58
def aO := @sizeOf52
def aP := @zeroValue58
def aR := @sizeOf50
def aT := @underlying28
def bF := @underlying58
def bG := @isAgg50
def bL := @underlying22
def bV := @isAgg9
def bW := @isAgg52
def bY := @sizeOf93
def cD := @isAgg3
def cE := @underlying9
def cR := @sizeOf60
def cU := @underlying187
def cV := @underlying53
def cW := @zeroValue52
def cX := @underlying23
def cY := @isAgg93
def dI := @underlying261
def dJ := @sizeOf25
def dQ := @underlying50
def dR := @sizeOf111
def dW := @sizeOf87
def dZ := @isAgg56
def eE := @zeroValue60
def eG := @underlying25
def eJ := @isAgg25
def eK := @zeroValue93
def eL := @eqGuardType50
def eQ := @underlying52
def eS := @underlying93
def eT := @underlying3
def eX := @isAgg22
def fC := @underlying34
def fE := @zeroValue50
def fJ := @eqGuardType52
def fO := @zeroValue111
def fP := @underlying111
def fQ := @underlying189
def fR := @underlying184
def gG := @sizeOf9
def gH := @underlying5
def gI := @underlying232
def gO := @zeroValue190
def gT := @underlying162
def gU := @underlying190
def iD := @zeroValue87
def iH := @sizeOf3
def iI := @underlying60
def iM := @underlying239
def iN := @underlying237
def iO := @underlying100
def iU := @isAgg60
def ji := @isAgg111
def jw := @isAgg184
def jH := @underlying55
def jR := @isAgg87
def jS := @zeroValue91
def jT := @zeroValue25
def jX := @underlying249
def jY := @underlying332
def ke := @sizeOf55
def ki := @underlying91
def kj := @zeroValue4
def kk := @isAgg23
def kl := @isAgg53
def km := @zeroValue5
def ko := @underlying45
def kw := @sizeOf53
def kx := @zeroValue55
def ky := @zeroValue28
def kA := @call153
def kB := @isAgg28
abbrev K0 : kC := ⟨zS, zS⟩
abbrev K1 : ByteArray := ⟨#[120]⟩
abbrev K2 : ByteArray := ⟨#[121]⟩
abbrev K3 : ByteArray := ⟨#[99, 108, 105]⟩
abbrev K4 : ByteArray := ⟨#[111, 119, 110]⟩
abbrev K5 : ByteArray := ⟨#[122]⟩
abbrev K6 : mg := ⟨0⟩
abbrev K7 : kC := ⟨K1, K2⟩
abbrev K9 : kE := ⟨0, K0, zS, K0, K0, zS⟩
abbrev RK : Formula := ⟨0, 0, K0, []⟩
abbrev Dk : kE := ⟨1, K7, K3, K0, K0, zS⟩
abbrev C1 (y : ByteArray) (z : Option Addr) (A D : Nat) (E : Option Addr) (F G : Nat) (I : ByteArray) (J : Option Addr) (L a : Nat) (b : Option Addr) (d g : Nat) (h i : Int) (j k : ByteArray) (l : Option Addr) (m n : Nat) (p q r s t u : Int) (v : Option Addr) (w x : Nat) : List Value := [(.string y), (.slice z A D), (.slice E F G), (.string I), (.slice J L a), (.slice b d g), (.int .i64 h), (.int .i64 i), (.string j), (.string k), (.slice l m n), (.int .i64 p), (.int .i64 q), (.int .i64 r), (.int .i64 s), (.int .i64 t), (.int .i64 u), (.slice v w x)]
abbrev C2 (a b : Int) (d g : ByteArray) (h : Option Addr) (i j : Nat) : List Value := [(.int .i64 a), (.int .i64 b), (.string d), (.string g), (.slice h i j)]
abbrev C3 (m : Int) (n p q r s t u v : ByteArray) (w : Option Addr) (a b : Nat) (d g : Int) (h i : ByteArray) (j : Option Addr) (k l : Nat) : List Value := [(.int .i64 m), (.string n), (.string p), (.string q), (.string r), (.string s), (.string t), (.string u), (.string v), (.slice w a b), (.int .i64 d), (.int .i64 g), (.string h), (.string i), (.slice j k l)]
abbrev C4 (a : ByteArray) (b : Option Addr) (d g : Nat) (h : Option Addr) (i j : Nat) : List Value := [(.string a), (.slice b d g), (.slice h i j)]
abbrev C5 : List Value := [(.int .i64 0), (.int .i64 0), (.string zS), (.string zS), (.slice none 0 0)]
abbrev C6 : List Value := [(.string zS), (.slice none 0 0), (.slice none 0 0), (.string zS), (.slice none 0 0), (.slice none 0 0), (.int .i64 0), (.int .i64 0), (.string zS), (.string zS), (.slice none 0 0), (.int .i64 0), (.int .i64 0), (.int .i64 0), (.int .i64 0), (.int .i64 0), (.int .i64 0), (.slice none 0 0)]
abbrev C7 (d g : ByteArray) (h i : Int) (j k : ByteArray) (l : Option Addr) (m n : Nat) (p : Option Addr) (a b : Nat) : List Value := [(.string d), (.string g), (.int .i64 h), (.int .i64 i), (.string j), (.string k), (.slice l m n), (.slice p a b)]
abbrev C8 (d : Int) (g h i j k l m n : ByteArray) (p : Option Addr) (a b : Nat) : List Value := [(.int .i64 d), (.string g), (.string h), (.string i), (.string j), (.string k), (.string l), (.string m), (.string n), (.slice p a b)]
abbrev C9 : List Value := [(.int .i64 0), (.string (K0.kD)), (.string (K0.kJ)), (.string zS), (.string (K0.kD)), (.string (K0.kJ)), (.string (K0.kD)), (.string (K0.kJ)), (.string zS), (.slice none 0 0), (.int .i64 0), (.int .i64 0), (.string zS), (.string zS), (.slice none 0 0)]
abbrev Qh (a : Nat) : List Value := [(.string K4), (.slice none 0 0), (.slice none 0 0), (.string K3), (.slice (some ⟨a, 0, none⟩) 2 2), (.slice none 0 0), (.int .i64 1), (.int .i64 0), (.string (K7.kD)), (.string (K7.kJ)), (.slice none 0 0), (.int .i64 0), (.int .i64 0), (.int .i64 0), (.int .i64 0), (.int .i64 0), (.int .i64 0), (.slice none 0 0)]
abbrev Um (d : Int) (g h i j k l m n : ByteArray) (p : Option Addr) (a b : Nat) : List Value := [(.int .i64 d), (.string g), (.string h), (.string i), (.string j), (.string k), (.string l), (.string m), (.string n), (.slice p a b), (.int .i64 2), (.int .i64 0), (.string zS), (.string zS), (.slice none 0 0)]
abbrev Hf (a : Int) : List Value := [(.int .i64 a), (.int .i64 0), (.string zS), (.string zS), (.slice none 0 0)]
abbrev EA : List Value := [(.int .i64 2), (.int .i64 0), (.string zS), (.string zS), (.slice none 0 0)]
abbrev Ty (a : Int) (b : Option Addr) (d g : Nat) : List Value := [(.int .i64 a), (.int .i64 0), (.string zS), (.string zS), (.slice b d g)]
abbrev Tz (a : Int) (b : Option Addr) (d g : Nat) : List Value := [(.int .i64 4), (.int .i64 a), (.string zS), (.string zS), (.slice b d g)]
abbrev F4 : List Value := [(.int .i64 3), (.int .i64 0), (.string zS), (.string zS), (.slice none 0 0)]
abbrev PT (a : Nat) : List Value := [(.string K3), (.slice (some ⟨a, 0, none⟩) 2 2), (.slice none 0 0)]
abbrev Ui : List Value := [(.int .i64 1), (.int .i64 0), (.string (K7.kD)), (.string (K7.kJ)), (.slice none 0 0)]
abbrev Uw : List Value := [(.string K4), (.slice none 0 0), (.slice none 0 0)]
theorem lQ : Tryz.prog.follows .mixedOrders = true := by rfl
theorem SU : Tryz.prog.info? 3 = some Tryz.t3 ∧ Tryz.t3.zero = some (.int .i64 0) ∧ Tryz.t3.size = 1 ∧ Tryz.t3.bytes = 8 := ⟨by kernel_rfl, by kernel_rfl, by kernel_rfl, by kernel_rfl⟩
theorem tL : Tryz.prog.info? 5 = some Tryz.t5 ∧ Tryz.t5.zero = some (.int .u8 0) ∧ Tryz.t5.size = 1 ∧ Tryz.t5.bytes = 1 := ⟨by kernel_rfl, by kernel_rfl, by kernel_rfl, by kernel_rfl⟩
theorem CA : Tryz.prog.info? 9 = some Tryz.t9 ∧ Tryz.t9.zero = some (.string ⟨#[]⟩) ∧ Tryz.t9.size = 1 ∧ Tryz.t9.bytes = 16 := ⟨by kernel_rfl, by kernel_rfl, by kernel_rfl, by kernel_rfl⟩
theorem wC : Tryz.prog.info? 50 = some Tryz.t50 ∧ Tryz.t50.zero = some (.agg #[(.string ⟨#[]⟩), (.string ⟨#[]⟩)]) ∧ Tryz.t50.size = 2 ∧ Tryz.t50.bytes = 32 := ⟨by kernel_rfl, by kernel_rfl, by kernel_rfl, by kernel_rfl⟩
theorem pb : Tryz.prog.info? 52 = some Tryz.t52 ∧ Tryz.t52.zero = some (.agg #[(.int .i64 0), (.string ⟨#[]⟩), (.string ⟨#[]⟩), (.string ⟨#[]⟩), (.string ⟨#[]⟩), (.string ⟨#[]⟩), (.string ⟨#[]⟩), (.string ⟨#[]⟩), (.string ⟨#[]⟩)]) ∧ Tryz.t52.size = 9 ∧ Tryz.t52.bytes = 136 := ⟨by kernel_rfl, by kernel_rfl, by kernel_rfl, by kernel_rfl⟩
theorem mZ : Tryz.prog.info? 58 = some Tryz.t58 ∧ Tryz.t58.zero = some (.agg #[(.int .i64 0), (.int .i64 0), (.string ⟨#[]⟩), (.string ⟨#[]⟩), (.slice none 0 0)]) ∧ Tryz.t58.size = 5 ∧ Tryz.t58.bytes = 72 := ⟨by kernel_rfl, by kernel_rfl, by kernel_rfl, by kernel_rfl⟩
theorem yD : Tryz.prog.info? 60 = some Tryz.t60 ∧ Tryz.t60.zero = some (.agg #[(.int .i64 0), (.string ⟨#[]⟩), (.string ⟨#[]⟩), (.string ⟨#[]⟩), (.string ⟨#[]⟩), (.string ⟨#[]⟩), (.string ⟨#[]⟩), (.string ⟨#[]⟩), (.string ⟨#[]⟩), (.slice none 0 0), (.int .i64 0), (.int .i64 0), (.string ⟨#[]⟩), (.string ⟨#[]⟩), (.slice none 0 0)]) ∧ Tryz.t60.size = 15 ∧ Tryz.t60.bytes = 232 := ⟨by kernel_rfl, by kernel_rfl, by kernel_rfl, by kernel_rfl⟩
theorem Hd : Tryz.prog.info? 87 = some Tryz.t87 ∧ Tryz.t87.zero = some (.agg #[(.string ⟨#[]⟩), (.string ⟨#[]⟩), (.int .i64 0), (.int .i64 0), (.string ⟨#[]⟩), (.string ⟨#[]⟩), (.slice none 0 0), (.slice none 0 0)]) ∧ Tryz.t87.size = 8 ∧ Tryz.t87.bytes = 128 := ⟨by kernel_rfl, by kernel_rfl, by kernel_rfl, by kernel_rfl⟩
theorem AO : Tryz.prog.info? 91 = some Tryz.t91 ∧ Tryz.t91.zero = some (.agg #[(.int .i64 0), (.int .i64 0)]) ∧ Tryz.t91.size = 2 ∧ Tryz.t91.bytes = 16 := ⟨by kernel_rfl, by kernel_rfl, by kernel_rfl, by kernel_rfl⟩
theorem vi : Tryz.prog.info? 111 = some Tryz.t111 ∧ Tryz.t111.zero = some (.agg #[(.string ⟨#[]⟩), (.string ⟨#[]⟩), (.string ⟨#[]⟩)]) ∧ Tryz.t111.size = 3 ∧ Tryz.t111.bytes = 48 := ⟨by kernel_rfl, by kernel_rfl, by kernel_rfl, by kernel_rfl⟩
theorem qg : nj Tryz.prog 50 0 0 := mx dQ rfl gG (by decide) rfl
theorem uI : nj Tryz.prog 50 1 1 := mx dQ rfl gG (by decide) rfl
theorem Px : (Tryz.prog.fieldsOf 50).toList = (match Tryz.prog.underlying 50 with | some (.struct fs) => fs.toList | _ => []) := by rw [dQ]; simp [Program.fieldsOf, dQ]
theorem qb (d : Nat) (x y : kC) (W : World) : (Op.equalIn (d + 2) 50 (.agg (kQ x).toArray) (.agg (kQ y).toArray)).run Tryz.prog W = .ok (lu x y) W := by
 rw [run_equalIn_struct W (d + 1) 50 _ _ (by kernel_rfl) Tryz.stoodInHeld50, Px, dQ]
 exact (so (by decide) (qL bV rfl) (qL bV rfl) (P4 cE _ _ _ _) (so (by decide) (qL bV rfl) (qL bV rfl) (P4 cE _ _ _ _) (EM _ _ _)))
theorem JX : ∀ fs, Tryz.prog.underlying 50 = some (.struct fs) → ∀ w, (fs.mapM (fun (f : Field) => do pure (f.offset, ← sizeOf f.type)) : Sem (Array (Nat × Nat))).run Tryz.prog w = .ok #[(0, 1), (1, 1)] w := by
 intro fs h w
 rw [dQ] at h
 cases h
 kernel_rfl
theorem rD : nj Tryz.prog 52 0 0 := mx eQ rfl iH (by decide) rfl
theorem rE : nj Tryz.prog 52 1 1 := mx eQ rfl aR (by decide) rfl
theorem xD : nj Tryz.prog 52 2 3 := mx eQ rfl gG (by decide) rfl
theorem oN : nj Tryz.prog 52 3 4 := mx eQ rfl aR (by decide) rfl
theorem tq : nj Tryz.prog 52 4 6 := mx eQ rfl aR (by decide) rfl
theorem vv : nj Tryz.prog 52 5 8 := mx eQ rfl gG (by decide) rfl
theorem PF : (Tryz.prog.fieldsOf 52).toList = (match Tryz.prog.underlying 52 with | some (.struct fs) => fs.toList | _ => []) := by rw [eQ]; simp [Program.fieldsOf, eQ]
theorem vI (d : Nat) (x y : kE) (W : World) : (Op.equalIn (d + 3) 52 (.agg (kK x).toArray) (.agg (kK y).toArray)).run Tryz.prog W = .ok (nc x y) W := by
 rw [run_equalIn_struct W (d + 2) 52 _ _ (by kernel_rfl) Tryz.stoodInHeld52, PF, eQ]
 exact (so (by decide) (qL cD rfl) (qL cD rfl) (R4 eT _ _ _ _) (so (by decide) (Aj bG aR rfl) (Aj bG aR rfl) (qb _ x.Head y.Head W) (so (by decide) (qL bV rfl) (qL bV rfl) (P4 cE _ _ _ _) (so (by decide) (Aj bG aR rfl) (Aj bG aR rfl) (qb _ x.B y.B W) (so (by decide) (Aj bG aR rfl) (Aj bG aR rfl) (qb _ x.C y.C W) (so (by decide) (qL bV rfl) (qL bV rfl) (P4 cE _ _ _ _) (EM _ _ _)))))))
theorem Sz : ∀ fs, Tryz.prog.underlying 52 = some (.struct fs) → ∀ w, (fs.mapM (fun (f : Field) => do pure (f.offset, ← sizeOf f.type)) : Sem (Array (Nat × Nat))).run Tryz.prog w = .ok #[(0, 1), (1, 2), (3, 1), (4, 2), (6, 2), (8, 1)] w := by
 intro fs h w
 rw [eQ] at h
 cases h
 kernel_rfl
theorem QB : Tryz.prog.cellsOf 3 = 1 := by kernel_rfl
theorem Lg (d : Nat) (x y : mN) (W : World) : (Op.equalIn (d + 2) 91 (.agg (nY x).toArray) (.agg (nY y).toArray)).run Tryz.prog W = .ok (zw x y) W :=
 Mw ki SU.1 QB (Fb (qL cD rfl) (qL cD rfl) (R4 eT _ _ _ _) (Fb (qL cD rfl) (qL cD rfl) (R4 eT _ _ _ _) (Lb _ _ _ _ _)))
theorem yf : nj Tryz.prog 111 0 0 := mx fP rfl aR (by decide) rfl
theorem wW : nj Tryz.prog 111 1 2 := mx fP rfl gG (by decide) rfl
theorem Ng : ∀ fs, Tryz.prog.underlying 111 = some (.struct fs) → ∀ w, (fs.mapM (fun (f : Field) => do pure (f.offset, ← sizeOf f.type)) : Sem (Array (Nat × Nat))).run Tryz.prog w = .ok #[(0, 2), (2, 1)] w := by
 intro fs h w
 rw [fP] at h
 cases h
 kernel_rfl
theorem Lv : nj Tryz.prog 249 0 0 := mx jX rfl sizeOf40 (by decide) rfl
theorem SK : ∀ fs, Tryz.prog.underlying 249 = some (.struct fs) → ∀ w, (fs.mapM (fun (f : Field) => do pure (f.offset, ← sizeOf f.type)) : Sem (Array (Nat × Nat))).run Tryz.prog w = .ok #[(0, 1)] w := by
 intro fs h w
 rw [jX] at h
 cases h
 kernel_rfl
theorem Iq : nj Tryz.prog 332 0 0 := mx jY rfl sizeOf4 (by decide) rfl
theorem SN : ∀ fs, Tryz.prog.underlying 332 = some (.struct fs) → ∀ w, (fs.mapM (fun (f : Field) => do pure (f.offset, ← sizeOf f.type)) : Sem (Array (Nat × Nat))).run Tryz.prog w = .ok #[(0, 1)] w := by
 intro fs h w
 rw [jY] at h
 cases h
 kernel_rfl
theorem yw : nj Tryz.prog 55 0 0 := mx jH rfl aO (by decide) rfl
theorem J0 : nj Tryz.prog 55 1 9 := mx jH rfl kw (by decide) rfl
theorem TS : ∀ fs, Tryz.prog.underlying 55 = some (.struct fs) → ∀ w, (fs.mapM (fun (f : Field) => do pure (f.offset, ← sizeOf f.type)) : Sem (Array (Nat × Nat))).run Tryz.prog w = .ok #[(0, 9), (9, 1)] w := by
 intro fs h w
 rw [jH] at h
 cases h
 kernel_rfl
theorem oB : nj Tryz.prog 58 0 0 := mx bF rfl iH (by decide) rfl
theorem sH : nj Tryz.prog 58 1 1 := mx bF rfl iH (by decide) rfl
theorem uP : nj Tryz.prog 58 2 2 := mx bF rfl aR (by decide) rfl
theorem oA : nj Tryz.prog 58 3 4 := mx bF rfl sizeOf56 (by decide) rfl
theorem uH : ∀ fs, Tryz.prog.underlying 58 = some (.struct fs) → ∀ w, (fs.mapM (fun (f : Field) => do pure (f.offset, ← sizeOf f.type)) : Sem (Array (Nat × Nat))).run Tryz.prog w = .ok #[(0, 1), (1, 1), (2, 2), (4, 1)] w := by
 intro fs h w
 rw [bF] at h
 cases h
 kernel_rfl
theorem wJ : nj Tryz.prog 60 0 0 := mx iI rfl ke (by decide) rfl
theorem E7 : nj Tryz.prog 60 1 10 := mx iI rfl aC (by decide) rfl
theorem RV : ∀ fs, Tryz.prog.underlying 60 = some (.struct fs) → ∀ w, (fs.mapM (fun (f : Field) => do pure (f.offset, ← sizeOf f.type)) : Sem (Array (Nat × Nat))).run Tryz.prog w = .ok #[(0, 10), (10, 5)] w := by
 intro fs h w
 rw [iI] at h
 cases h
 kernel_rfl
theorem GX : nj Tryz.prog 87 0 0 := mx underlying87 rfl aR (by decide) rfl
theorem Fk : nj Tryz.prog 87 1 2 := mx underlying87 rfl aC (by decide) rfl
theorem Fm : nj Tryz.prog 87 2 7 := mx underlying87 rfl sizeOf28 (by decide) rfl
theorem zJ : nj Tryz.prog 25 0 0 := mx eG rfl gG (by decide) rfl
theorem oS : nj Tryz.prog 25 1 1 := mx eG rfl sizeOf22 (by decide) rfl
theorem AS : nj Tryz.prog 25 2 2 := mx eG rfl sizeOf23 (by decide) rfl
theorem Kv : ∀ fs, Tryz.prog.underlying 25 = some (.struct fs) → ∀ w, (fs.mapM (fun (f : Field) => do pure (f.offset, ← sizeOf f.type)) : Sem (Array (Nat × Nat))).run Tryz.prog w = .ok #[(0, 1), (1, 1), (2, 1)] w := by
 intro fs h w
 rw [eG] at h
 cases h
 kernel_rfl
theorem QK : nj Tryz.prog 118 0 0 := mx underlying118 rfl gG (by decide) rfl
theorem QR : nj Tryz.prog 118 1 1 := mx underlying118 rfl kw (by decide) rfl
theorem yB : nj Tryz.prog 93 0 0 := mx eS rfl dJ (by decide) rfl
theorem wF : nj Tryz.prog 93 1 3 := mx eS rfl dJ (by decide) rfl
theorem Kh : nj Tryz.prog 93 2 6 := mx eS rfl aC (by decide) rfl
theorem Rw : nj Tryz.prog 93 8 17 := mx eS rfl sizeOf37 (by decide) rfl
theorem MO : ∀ fs, Tryz.prog.underlying 93 = some (.struct fs) → ∀ w, (fs.mapM (fun (f : Field) => do pure (f.offset, ← sizeOf f.type)) : Sem (Array (Nat × Nat))).run Tryz.prog w = .ok #[(0, 3), (3, 3), (6, 5), (11, 1), (12, 2), (14, 1), (15, 1), (16, 1), (17, 1)] w := by
 intro fs h w
 rw [eS] at h
 cases h
 kernel_rfl
theorem xU : nj Tryz.prog 189 0 0 := mx fQ rfl sizeOf184 (by decide) rfl
theorem Is : nj Tryz.prog 189 1 1 := mx fQ rfl sizeOf28 (by decide) rfl
theorem LF : nj Tryz.prog 189 2 2 := mx fQ rfl sizeOf185 (by decide) rfl
theorem HQ : nj Tryz.prog 189 3 3 := mx fQ rfl sizeOf186 (by decide) rfl
theorem BA : nj Tryz.prog 189 4 4 := mx fQ rfl sizeOf187 (by decide) rfl
theorem Fx : nj Tryz.prog 189 5 5 := mx fQ rfl iH (by decide) rfl
theorem Tf : ∀ fs, Tryz.prog.underlying 189 = some (.struct fs) → ∀ w, (fs.mapM (fun (f : Field) => do pure (f.offset, ← sizeOf f.type)) : Sem (Array (Nat × Nat))).run Tryz.prog w = .ok #[(0, 1), (1, 1), (2, 1), (3, 1), (4, 1), (5, 1)] w := by
 intro fs h w
 rw [fQ] at h
 cases h
 kernel_rfl
theorem Ad : nj Tryz.prog 239 0 0 := mx iM rfl kw (by decide) rfl
theorem PU : ∀ fs, Tryz.prog.underlying 239 = some (.struct fs) → ∀ w, (fs.mapM (fun (f : Field) => do pure (f.offset, ← sizeOf f.type)) : Sem (Array (Nat × Nat))).run Tryz.prog w = .ok #[(0, 1)] w := by
 intro fs h w
 rw [iM] at h
 cases h
 kernel_rfl
def uu : rq Signed := fun μ ys x => ∃ (v0 : Value), ys = [.int .i64 x.kE.Kind, .string x.kE.Head.kD, .string x.kE.Head.kJ, .string x.kE.lZ, .string x.kE.B.kD, .string x.kE.B.kJ, .string x.kE.C.kD, .string x.kE.C.kJ, .string x.kE.mc, v0] ∧ Sl (Pl (mK .u8)) 1 μ v0 x.Tag
theorem uu.out {μ : lO} {ys : List Value} {x : Signed} (h : uu μ ys x) : ∃ (v0 : Value), ys = [.int .i64 x.kE.Kind, .string x.kE.Head.kD, .string x.kE.Head.kJ, .string x.kE.lZ, .string x.kE.B.kD, .string x.kE.B.kJ, .string x.kE.C.kD, .string x.kE.C.kJ, .string x.kE.mc, v0] ∧ Sl (Pl (mK .u8)) 1 μ v0 x.Tag := h
theorem uu.mk {μ : lO} {ys : List Value} {x : Signed} (h : ∃ (v0 : Value), ys = [.int .i64 x.kE.Kind, .string x.kE.Head.kD, .string x.kE.Head.kJ, .string x.kE.lZ, .string x.kE.B.kD, .string x.kE.B.kJ, .string x.kE.C.kD, .string x.kE.C.kJ, .string x.kE.mc, v0] ∧ Sl (Pl (mK .u8)) 1 μ v0 x.Tag) : uu μ ys x := h
theorem Bw : Deep uu 10 where
 mono := by rintro _ _ _ _ b ⟨v0, rfl, a⟩; exact ⟨v0, rfl, a.mono (Pl.mono _) b⟩
 len := by rintro _ _ _ ⟨v0, rfl, a⟩; rfl
 one := by
  rintro _ _ _ ⟨v0, rfl, a⟩
  intro u hu; simp only [aQ, dL, gQ] at hu; rcases hu with rfl | rfl | rfl | rfl | rfl | rfl | rfl | rfl | rfl | rfl
  ·rfl
  ·rfl
  ·rfl
  ·rfl
  ·rfl
  ·rfl
  ·rfl
  ·rfl
  ·rfl
  ·exact a.Bp
def yC : Nat → rq Formula
 | 0 => fun _ _ _ => False
 | n + 1 => fun μ ys x => ∃ (v0 : Value), ys = [.int .i64 x.Op, .int .i64 x.K, .string x.kC.kD, .string x.kC.kJ, v0] ∧ Sl (yC n) 5 μ v0 x.Kids
def kF : rq Formula := fun μ ys x => ∃ n, yC n μ ys x
theorem Ew : ∀ n, Jp (yC n)
 | 0 => fun _ _ _ _ _ h => h
 | n + 1 => by rintro _ _ _ _ b ⟨v0, rfl, a⟩; exact ⟨v0, rfl, a.mono (Ew n) b⟩
theorem G7 : ∀ n m (μ : lO) (ys : List Value) (x : Formula), n ≤ m → yC n μ ys x → yC m μ ys x
 | 0, _, _, _, _, _, h => h.elim
 | n + 1, 0, _, _, _, a, _ => absurd a (by omega)
 | n + 1, m + 1, μ, ys, x, a, h => by
  obtain ⟨v0, rfl, b⟩ := h
  exact ⟨v0, rfl, b.imp fun ys x h => G7 n m μ ys x (by omega) h⟩
theorem kF.out {μ : lO} {ys : List Value} {x : Formula} (h : kF μ ys x) : ∃ (v0 : Value), ys = [.int .i64 x.Op, .int .i64 x.K, .string x.kC.kD, .string x.kC.kJ, v0] ∧ Sl kF 5 μ v0 x.Kids := by
 obtain ⟨n, h⟩ := h
 cases n with
 | zero => exact h.elim
 | succ n =>
  obtain ⟨v0, rfl, a⟩ := h
  exact ⟨v0, rfl, a.imp fun ys x h => ⟨n, h⟩⟩
theorem kF.mk {μ : lO} {ys : List Value} {x : Formula} (h : ∃ (v0 : Value), ys = [.int .i64 x.Op, .int .i64 x.K, .string x.kC.kD, .string x.kC.kJ, v0] ∧ Sl kF 5 μ v0 x.Kids) : kF μ ys x := by
 obtain ⟨v0, rfl, d⟩ := h
 obtain ⟨n, i⟩ := d.Tl (fun _ _ h => h) (fun a b ys x g h => G7 a b _ ys x g h)
 exact ⟨n + 1, v0, rfl, i⟩
theorem kL : Deep kF 5 where
 mono := fun _ _ _ _ b ⟨n, h⟩ => ⟨n, Ew n _ _ _ _ b h⟩
 len := by rintro _ _ _ h; obtain ⟨v0, rfl, a⟩ := h.out; rfl
 one := by
  rintro _ _ _ h
  obtain ⟨v0, rfl, a⟩ := h.out
  intro u hu; simp only [aQ, dL, gQ] at hu; rcases hu with rfl | rfl | rfl | rfl | rfl
  ·rfl
  ·rfl
  ·rfl
  ·rfl
  ·exact a.Bp
def kW : rq ll := fun μ ys x => ∃ (v0 : Value) (v1 : Value), ys = [.int .i64 x.Signed.kE.Kind, .string x.Signed.kE.Head.kD, .string x.Signed.kE.Head.kJ, .string x.Signed.kE.lZ, .string x.Signed.kE.B.kD, .string x.Signed.kE.B.kJ, .string x.Signed.kE.C.kD, .string x.Signed.kE.C.kJ, .string x.Signed.kE.mc, v0, .int .i64 x.kH.Op, .int .i64 x.kH.K, .string x.kH.kC.kD, .string x.kH.kC.kJ, v1] ∧ Sl (Pl (mK .u8)) 1 μ v0 x.Signed.Tag ∧ Sl kF 5 μ v1 x.kH.Kids
theorem kW.out {μ : lO} {ys : List Value} {x : ll} (h : kW μ ys x) : ∃ (v0 : Value) (v1 : Value), ys = [.int .i64 x.Signed.kE.Kind, .string x.Signed.kE.Head.kD, .string x.Signed.kE.Head.kJ, .string x.Signed.kE.lZ, .string x.Signed.kE.B.kD, .string x.Signed.kE.B.kJ, .string x.Signed.kE.C.kD, .string x.Signed.kE.C.kJ, .string x.Signed.kE.mc, v0, .int .i64 x.kH.Op, .int .i64 x.kH.K, .string x.kH.kC.kD, .string x.kH.kC.kJ, v1] ∧ Sl (Pl (mK .u8)) 1 μ v0 x.Signed.Tag ∧ Sl kF 5 μ v1 x.kH.Kids := h
theorem kW.mk {μ : lO} {ys : List Value} {x : ll} (h : ∃ (v0 : Value) (v1 : Value), ys = [.int .i64 x.Signed.kE.Kind, .string x.Signed.kE.Head.kD, .string x.Signed.kE.Head.kJ, .string x.Signed.kE.lZ, .string x.Signed.kE.B.kD, .string x.Signed.kE.B.kJ, .string x.Signed.kE.C.kD, .string x.Signed.kE.C.kJ, .string x.Signed.kE.mc, v0, .int .i64 x.kH.Op, .int .i64 x.kH.K, .string x.kH.kC.kD, .string x.kH.kC.kJ, v1] ∧ Sl (Pl (mK .u8)) 1 μ v0 x.Signed.Tag ∧ Sl kF 5 μ v1 x.kH.Kids) : kW μ ys x := h
theorem kX : Deep kW 15 where
 mono := by rintro _ _ _ _ b ⟨v0, v1, rfl, a, h1⟩; exact ⟨v0, v1, rfl, a.mono (Pl.mono _) b, h1.mono kL.mono b⟩
 len := by rintro _ _ _ ⟨v0, v1, rfl, a, h1⟩; rfl
 one := by
  rintro _ _ _ ⟨v0, v1, rfl, a, h1⟩
  intro u hu; simp only [aQ, dL, gQ] at hu; rcases hu with rfl | rfl | rfl | rfl | rfl | rfl | rfl | rfl | rfl | rfl | rfl | rfl | rfl | rfl | rfl
  ·rfl
  ·rfl
  ·rfl
  ·rfl
  ·rfl
  ·rfl
  ·rfl
  ·rfl
  ·rfl
  ·exact a.Bp
  ·rfl
  ·rfl
  ·rfl
  ·rfl
  ·exact h1.Bp
def lF : rq nE := fun μ ys x => ∃ (v0 : Value) (v1 : Value), ys = [.string x.kC.kD, .string x.kC.kJ, .int .i64 x.kH.Op, .int .i64 x.kH.K, .string x.kH.kC.kD, .string x.kH.kC.kJ, v0, v1] ∧ Sl kF 5 μ v0 x.kH.Kids ∧ Sl (Pl kK) 9 μ v1 x.na
theorem lF.out {μ : lO} {ys : List Value} {x : nE} (h : lF μ ys x) : ∃ (v0 : Value) (v1 : Value), ys = [.string x.kC.kD, .string x.kC.kJ, .int .i64 x.kH.Op, .int .i64 x.kH.K, .string x.kH.kC.kD, .string x.kH.kC.kJ, v0, v1] ∧ Sl kF 5 μ v0 x.kH.Kids ∧ Sl (Pl kK) 9 μ v1 x.na := h
theorem lF.mk {μ : lO} {ys : List Value} {x : nE} (h : ∃ (v0 : Value) (v1 : Value), ys = [.string x.kC.kD, .string x.kC.kJ, .int .i64 x.kH.Op, .int .i64 x.kH.K, .string x.kH.kC.kD, .string x.kH.kC.kJ, v0, v1] ∧ Sl kF 5 μ v0 x.kH.Kids ∧ Sl (Pl kK) 9 μ v1 x.na) : lF μ ys x := h
theorem ma : Deep lF 8 where
 mono := by rintro _ _ _ _ b ⟨v0, v1, rfl, a, h1⟩; exact ⟨v0, v1, rfl, a.mono kL.mono b, h1.mono (Pl.mono _) b⟩
 len := by rintro _ _ _ ⟨v0, v1, rfl, a, h1⟩; rfl
 one := by
  rintro _ _ _ ⟨v0, v1, rfl, a, h1⟩
  intro u hu; simp only [aQ, dL, gQ] at hu; rcases hu with rfl | rfl | rfl | rfl | rfl | rfl | rfl | rfl
  ·rfl
  ·rfl
  ·rfl
  ·rfl
  ·rfl
  ·rfl
  ·exact a.Bp
  ·exact h1.Bp
def nW : rq Key := fun μ ys x => ∃ (v0 : Value), ys = [.string x.lZ, v0] ∧ Sl (Pl (mK .u8)) 1 μ v0 x.Key
theorem nW.out {μ : lO} {ys : List Value} {x : Key} (h : nW μ ys x) : ∃ (v0 : Value), ys = [.string x.lZ, v0] ∧ Sl (Pl (mK .u8)) 1 μ v0 x.Key := h
theorem nW.mk {μ : lO} {ys : List Value} {x : Key} (h : ∃ (v0 : Value), ys = [.string x.lZ, v0] ∧ Sl (Pl (mK .u8)) 1 μ v0 x.Key) : nW μ ys x := h
theorem oO : Deep nW 2 where
 mono := by rintro _ _ _ _ b ⟨v0, rfl, a⟩; exact ⟨v0, rfl, a.mono (Pl.mono _) b⟩
 len := by rintro _ _ _ ⟨v0, rfl, a⟩; rfl
 one := by
  rintro _ _ _ ⟨v0, rfl, a⟩
  intro u hu; simp only [aQ, dL, gQ] at hu; rcases hu with rfl | rfl
  ·rfl
  ·exact a.Bp
theorem Hj : qw Tryz.prog 9 Value.string mu := qw.string cE
theorem Bd : qw Tryz.prog 50 (fun (x : kC) => (.agg (kQ x).toArray)) lu :=
 qw.struct dQ (fun d x y W => qb (d + 8) x y W) (fun b k W => Hr dQ rfl (jv.2 ⟨fun _ => ⟨.string k.kD, qL bV rfl, zD cE _ _ _ _⟩, (jv.2 ⟨fun _ => ⟨.string k.kJ, qL bV rfl, zD cE _ _ _ _⟩, (fun _ h => by cases h)⟩)⟩))
  (fun k x h => (lx.1 h).symm) (fun k => by simp [Instr.sameBits, kQ, EC, nm])
theorem uT (a : kE) (r : ll) (w : World) {B : lO} (H : ox B [] w) (hm : pC a = some r) :
  mo true Tryz.prog 97 [(.agg (kK a).toArray)] w B [] (fun v G D => ∃ x y, v = (.agg #[(.int .i64 ((((r).Signed).kE).Kind)), (.string (((((r).Signed).kE).Head).kD)), (.string (((((r).Signed).kE).Head).kJ)), (.string ((((r).Signed).kE).lZ)), (.string (((((r).Signed).kE).B).kD)), (.string (((((r).Signed).kE).B).kJ)), (.string (((((r).Signed).kE).C).kD)), (.string (((((r).Signed).kE).C).kJ)), (.string ((((r).Signed).kE).mc)), x, (.int .i64 (((r).kH).Op)), (.int .i64 (((r).kH).K)), (.string ((((r).kH).kC).kD)), (.string ((((r).kH).kC).kJ)), y]) ∧ G = [] ∧ Sl (Pl (mK .u8)) 1 D x (((r).Signed).Tag) ∧ Sl kF 5 D y (((r).kH).Kids)) := by
 refine sF H 8 func97 rfl (fun b => sg (VE (lJ b rfl (fun Q U b => VE (lG b eE (fun T Y b => ln (kY ?_)))))))
 replace b := b.drew
 have d := b.has.kG (Db (Kb Sn))
 refine mj d lQ (XH 0 rfl d (fun _ l => kI rfl (kM l Mh (kK a) rfl bW aO)) (X 3 rfl d (mH (v := (.agg EA.toArray)) (np rfl) (ml aP bF (uH _ bF) kr)) (bS hm fun i t hm => XE 1 rfl (KQ (enc := (mK .u8)) (z := 0) b (fun _ => rfl) dc cV tL.1 tL.2.1 tL.2.2.1 tL.2.2.2 rfl rfl rfl t (fun J M I b j => ?_)))))
 have d := b.has.kG (Dr (Db (Kb Sn)))
 refine ⟨d, ?_⟩
 obtain ⟨c, g, rfl⟩ := j.form
 let Z := (Um a.Kind a.Head.kD a.Head.kJ a.lZ a.B.kD a.B.kJ a.C.kD a.C.kJ a.mc c i.length g)
 refine X 2 rfl d (mH (v := (.agg (C8 a.Kind a.Head.kD a.Head.kJ a.lZ a.B.kD a.B.kJ a.C.kD a.C.kJ a.mc c i.length g).toArray)) (oU rfl rfl) (ml kx jH (TS _ jH) kr)) (X 4 rfl d (mH (v := (.agg Z.toArray)) (oU rfl rfl) (ml eE iI (RV _ iI) kr)) ?_)
 replace b := b.perm (Nb (Pr Pz) Nz)
 refine XO 5 rfl (lf (.agg Z.toArray) (Z.toArray) b rfl rfl cR oc nb rfl (fun K b => ?_))
 have d := b.has.kG (Db (Dr (Kb Sn)))
 refine ⟨d, (ms kr (kT ?_))⟩
 replace b := b.kG (Kb (Kr (Db St)))
 refine lC ?_
 obtain rfl := sj hm
 refine ns (v := (.agg Z.toArray)) rfl rfl (kM b.has Mh Z rfl iU cR) ?_
 replace b := b.perm (Nr (Qb Qz) Nz)
 obtain ⟨N, b, k, h, u⟩ := ST.OZ b j (fun _ => rfl)
 exact ⟨_, _, _, rfl, (b.mW Sn), k, h, (ST.lU b (nn.mem Sn)), (.slice c i.length g), (.slice none 0 0), rfl, rfl, u, (Sl.nil _ _ _)⟩
theorem RU (w : World) (s : ByteArray) (c : Int) : (callFunc 242 [Value.string s, .int .u8 c].toArray).run Tryz.prog w = .ok (.value (.int .i64 (yh s c))) w := HO func242 (by kernel_rfl) (by kernel_rfl) (by kernel_rfl) (by kernel_rfl) s c w
theorem zb (a : ByteArray) (c r : Int) (w : World) (hm : pB a c = some r) :
  lD true Tryz.prog 185 [(.string a), (.int .u8 c)] w (.int .i64 r) := by
 exact cG 8 func185 rfl (fun b => sg (Wa (lr (Wm (Wm (VE (MQ (args := [(.string a), (.int .u8 c)]) (v := .int .i64 (yh a c)) rfl (by exact yg rfl rfl) (RU _ a c) (Wa (lt (rQ hm b))))))))))
theorem zY (a : ByteArray) (c r : Int) (w : World) (hm : sL a c = some r) :
  lD true Tryz.prog 121 [(.string a), (.int .u8 c)] w (.int .i64 r) := by
 refine cG 8 func121 rfl (fun b => sg (Wa (lr (Wm (Wm (bS hm fun j g hm => VE (Eg b call185 (zb a c _ _  g) (fun i b => Wa (ln ?_)))))))))
 exact lC (rQ hm b)
theorem Ld (I : ByteArray) (r : Bool) (w : World) (hm : CD I = some r) :
  lD true Tryz.prog 122 [(.string I)] w (.bool r) := by
 refine cG 16 func122 rfl (fun b => sg (Wa (lS (Wm (bS hm fun H J hm => VE (IZ b cE cV gH rfl J (fun W3 N T b M n j Y => V (mi cV rfl j) (Wm (lH ?_)))))))))
 refine kT (mf (fun i E W => ∃ c, (E 8 = .int .i64 (i : Nat) ∧ E 7 = .int .i64 (H.length : Nat)) ∧ ST true lT w W T c ∧ E 6 = N ∧ vT (H.drop i) = some r) H.length j.len ⟨_, ⟨rfl, rfl⟩, (b.kG St), rfl, hm⟩ dc dc dc (fun _ _ _ h => by obtain ⟨_, l, _⟩ := h; exact l) ?_ ?_)
 ·rintro K E W u ⟨c, ⟨d, m⟩, b, g, a⟩
  obtain ⟨k, Q, D, B, G⟩ := lX u
  rw [D] at a
  refine bg (VQ (oF (enc := (mK .u8)) (i := (K : Int)) (x0 := k) cV sizeOf5 g d j (aH _) B) (fun Z x => V (kI rfl (tS b.has (y := (.int .u8 k)) x isAgg5)) (Wa (lr (Wm (bS a fun p z a => VE (Eg b call121 (zY (⟨#[97, 98, 99, 100, 101, 102, 103, 104, 105, 106, 107, 108, 109, 110, 111, 112, 113, 114, 115, 116, 117, 118, 119, 120, 121, 122, 48, 49, 50, 51, 52, 53, 54, 55, 56, 57, 45]⟩ : ByteArray) k _ _  z) (fun U b => Wi rfl (lH ?_)))))))))
  refine kT (CI a rfl (fun t a => ?_) (fun t a => ?_))
  ·refine sg (Wa (lt (nD (lL (nD (lL ?_))))))
   obtain rfl := sj a
   exact rP b
  exact mr (lK (kT ⟨d, _, ⟨rfl, m⟩, (b.kG St), g, (by rw [G]; exact a)⟩))
 rintro E W ⟨c, ⟨d, m⟩, b, g, a⟩
 rw [aI] at a
 exact kT (sg (Wa (lt (rQ a b))))
theorem xt (z : ByteArray) (r : Bool) (w : World) (hm : tF z = some r) :
  lD true Tryz.prog 57 [(.string z)] w (.bool r) := by
 refine cG 21 func57 rfl (fun b => sg (Wa (lr (Wm (V (pA cE rfl) (Wi rfl (Wm (LJ hm (fun K E W => ∃ Y, ST true lT w W (hp w) Y ∧ E 0 = (.string z) ∧ E 2 = (.bool false) ∧ E 10 = (.bool K)) 4 ?_ (fun K t y => ?_)))))))))
 ·rintro x2 E W ⟨Y, b, M, d, l⟩ a5
  refine Wh l (LJ a5 (fun J E W => ∃ D, ST true lT w W (hp w) D ∧ E 0 = (.string z) ∧ E 2 = (.bool false) ∧ E 16 = (.bool J)) 5 ?_ (fun J a x => ?_))
  ·rintro s E W ⟨D, b, h, H, a2⟩ N
   refine Wh a2 (LJ N (fun I E W => ∃ G, ST true lT w W (hp w) G ∧ E 2 = (.bool false) ∧ E 20 = (.bool I)) 3 ?_ (fun I j u => ?_))
   ·rintro v E W ⟨G, b, a9, a3⟩ Q
    exact Wg a3 (lt (rQ Q b))
   refine bC j (fun g j => ?_) (fun g j => ?_)
   ·refine ug g (kR h) (bS j fun p T j => sE g (Eg b call122 (Ld z _ _  T) (fun m b => V (li (cB g) rfl) ?_)))
    obtain rfl := sj j
    exact u _ _ ⟨_, (b.kG St), H, rfl⟩
   refine un g (un g (V (lj (cB g) rfl) ?_))
   obtain rfl := sj j
   exact u _ _ ⟨_, (b.kG St), H, rfl⟩
  refine bC a (fun c a => ?_) (fun c a => ?_)
  ·refine ug c (kR M) (bS a fun Z B a => ug c (Bu (i := 0) cE rfl rfl (AA B) (DT B)) (bS a fun q U a => sE c (Eg b call121 (zY (⟨#[97, 98, 99, 100, 101, 102, 103, 104, 105, 106, 107, 108, 109, 110, 111, 112, 113, 114, 115, 116, 117, 118, 119, 120, 121, 122]⟩ : ByteArray) (Z.toNat : Int) _ _  U) (fun n b => ug c (lR rfl rfl rfl) (V (li (cB c) rfl) ?_)))))
   obtain rfl := sj a
   exact x _ _ ⟨_, (b.kG St), M, d, rfl⟩
  refine un c (un c (un c (un c (V (lj (cB c) rfl) ?_))))
  obtain rfl := sj a
  exact x _ _ ⟨_, (b.kG St), M, d, rfl⟩
 refine bC t (fun k t => ?_) (fun k t => ?_)
 ·refine ug k (kR rfl) (ug k (pA cE rfl) (ug k (lR rfl rfl rfl) (V (li (cB k) rfl) ?_)))
  obtain rfl := sj t
  exact y _ _ ⟨_, (b.kG St), rfl, rfl, rfl⟩
 refine un k (un k (un k (V (lj (cB k) rfl) ?_)))
 obtain rfl := sj t
 exact y _ _ ⟨_, (b.kG St), rfl, rfl, rfl⟩
theorem uQ (i : kC) (r : Bool) (w : World) (hm : re i = some r) :
  lD true Tryz.prog 153 [(.agg (kQ i).toArray)] w (.bool r) := by
 refine cG 11 func153 rfl (fun b => sg (VE (lJ b rfl (fun H J b => Wa (lr (Wf qg (VB b Mh rfl rfl bV (bS hm fun K y hm => VE (Eg b call57 (xt i.kD _ _  y) (fun I b => Wm (LJ hm (fun k E W => ∃ j, ST true lT w W (hp w) j ∧ E 2 = (.bool false) ∧ E 10 = (.bool k)) 4 ?_ (fun k a g => ?_))))))))))))
 ·rintro G E W ⟨j, b, B, x⟩ t
  exact Wg x (lt (rQ t b))
 refine bC a (fun c a => ?_) (fun c a => ?_)
 ·refine ug c (kP uI rfl) (ug c (kI rfl (lh b.has Mh rfl bV)) (bS a fun D u a => sE c (Eg b call57 (xt i.kJ _ _  u) (fun z b => V (li (cB c) rfl) ?_))))
  obtain rfl := sj a
  exact g _ _ ⟨_, (b.kG (Db St)), rfl, rfl⟩
 refine un c (un c (un c (V (lj (cB c) rfl) ?_)))
 obtain rfl := sj a
 exact g _ _ ⟨_, (b.kG (Db St)), rfl, rfl⟩
theorem R5 (w : World) (a b : ByteArray) : (callFunc 296 [Value.string a, .string b].toArray).run Tryz.prog w = .ok (.value (.int .i64 (qi a b))) w := OJ func296 (by kernel_rfl) (by kernel_rfl) (by kernel_rfl) (by kernel_rfl) a b w
theorem yU (a c : ByteArray) (r : Int) (w : World) (hm : oK a c = some r) :
  lD true Tryz.prog 260 [(.string a), (.string c)] w (.int .i64 r) := by
 exact cG 8 func260 rfl (fun b => sg (Wa (lr (Wm (Wm (VE (MQ (args := [(.string a), (.string c)]) (v := .int .i64 (qi a c)) rfl (by exact yg rfl rfl) (R5 _ a c) (Wa (lt (rQ hm b))))))))))
theorem Bl (a c : ByteArray) (r : Int) (w : World) (hm : qC a c = some r) :
  lD true Tryz.prog 210 [(.string a), (.string c)] w (.int .i64 r) := by
 refine cG 8 func210 rfl (fun b => sg (Wa (lr (Wm (Wm (bS hm fun j g hm => VE (Eg b call260 (yU a c _ _  g) (fun i b => Wa (ln ?_)))))))))
 exact lC (rQ hm b)
theorem Kt (g : Value) (t : List Int) (r : Int) (w : World) (c : Sl (Pl (mK .i64)) 1 (hp w) g t) (hm : vM t = some r) :
  lD true Tryz.prog 209 [g] w (.int .i64 r) := by
 refine cG 18 func209 rfl (fun b => sg (Wa (lr (Wa (lS (Wm ?_))))))
 refine V (mi gT rfl c) (Wm (ln (mf (fun i E W => ∃ k, (E 8 = .int .i64 (i : Nat) ∧ E 7 = .int .i64 (t.length : Nat)) ∧ ST true lT w W (hp w) k ∧ E 3 = (.int .i64 0) ∧ E 6 = g ∧ tJ (t.drop i) = some r) t.length c.len ⟨_, ⟨rfl, rfl⟩, (b.kG St), rfl, rfl, hm⟩ dc dc dc (fun _ _ _ h => by obtain ⟨_, l, _⟩ := h; exact l) ?_ ?_)))
 ·rintro J E W B ⟨k, ⟨d, m⟩, b, j, u, a⟩
  obtain ⟨x, K, H, G, I⟩ := lX B
  rw [H] at a
  refine bg (VQ (oF (enc := (mK .i64)) (i := (J : Int)) (x0 := x) gT iH u d c (aH _) G) (fun M D => V (kI rfl (tS b.has (y := (.int .i64 x)) D cD)) (Wa (lr (Wm (Wh j (Wi rfl (ln ?_))))))))
  refine CI a rfl (fun z a => ?_) (fun z a => ?_)
  ·refine sg (Wm (Wa (lt (nD (lL (nD (lL ?_)))))))
   obtain rfl := sj a
   exact rP b
  exact mr (lK (kT ⟨d, _, ⟨rfl, m⟩, (b.kG St), j, u, (by rw [I]; exact a)⟩))
 rintro E W ⟨k, ⟨d, m⟩, b, j, u, a⟩
 rw [aI] at a
 exact kT (sg (Wh j (Wa (lt (rQ a b)))))
theorem HP (g i : kC) (r : Int) (w : World) (hm : sW g i = some r) :
  lD true Tryz.prog 155 [(.agg (kQ g).toArray), (.agg (kQ i).toArray)] w (.int .i64 r) := by
 refine cG 17 func155 rfl (fun b => sg (VE (lJ b rfl (fun G I b => VE (lJ b rfl (fun H J b => Wa (ln (kY ?_))))))))
 replace b := b.drew
 have d := b.has.kG (Kb (Kb Sn))
 refine mj d lQ (X 0 rfl d (kP qg rfl) (XH 1 rfl d (fun _ h => kI rfl (lh h (Mt Mh) rfl bV)) (X 2 rfl d (kP qg rfl) (XH 3 rfl d (fun _ h => kI rfl (lh h Mh rfl bV)) (X 5 rfl d (kP uI rfl) (XH 6 rfl d (fun _ h => kI rfl (lh h (Mt Mh) rfl bV)) (X 7 rfl d (kP uI rfl) (XH 8 rfl d (fun _ h => kI rfl (lh h Mh rfl bV)) (bS hm fun a j hm => XE 4 rfl (Eg b call210 (Bl g.kD i.kD _ _  j) (fun x b => ?_)))))))))))
 have d := b.has.kG (Kb (Kb Sn))
 refine ⟨d, (bS hm fun c k hm => XE 9 rfl (Eg b call210 (Bl g.kJ i.kJ _ _  k) (fun y b => ?_)))⟩
 have d := b.has.kG (Kb (Kb Sn))
 refine ⟨d, (XE 10 rfl (lE (cs := #[(.int .i64 a), (.int .i64 c)]) b (oU rfl rfl) (nq gT iH zeroValue3) (fun z u b => ?_)))⟩
 have d := b.has.kG (Db (Kb (Kb Sn)))
 refine ⟨d, (bS hm fun D t hm => XE 11 rfl (Eg b call209 (Kt (.slice (some ⟨u, 0, none⟩) 2 2) ([a, c]) _ _ (Sl.lit (enc := (mK .i64)) (l := [a, c]) (fun _ => rfl) rfl nb rfl (b.at_ Mh)) t) (fun B b => ?_)))⟩
 have d := b.has.kG (Db (Kb (Kb Sn)))
 refine ⟨d, (X 12 rfl d (om rfl) (ms kr (kT ?_)))⟩
 exact lC (rQ hm b)
set_option maxHeartbeats 1000000 in
theorem zU (a : kE) (r : Bool) (w : World) (hm : uO a = some r) :
  lD true Tryz.prog 113 [(.agg (kK a).toArray)] w (.bool r) := by
 let m9 := (⟨a.Kind, a.Head, zS, a.B, a.C, zS⟩ : kE)
 let j2 := (⟨a.Kind, a.Head, zS, a.B, K0, a.mc⟩ : kE)
 let j1 : Value := (.agg (kQ a.B).toArray)
 let g6 := ((kK (⟨a.Kind, a.Head, zS, a.B, K0, zS⟩ : kE)).toArray)
 let p := (⟨a.Kind, a.Head, zS, K0, K0, zS⟩ : kE)
 refine cG 98 func113 rfl (fun b => sg (VE (lJ b rfl (fun W2 N b => Wa (lr (Wf rD (VB b Mh rfl rfl cD (Wf rE (VA b Mh (kQ a.Head) bG aR (V (mH (v := (.agg (kK p).toArray)) (oU rfl rfl) (ml cW eQ (Sz _ eQ) kr)) (VE (lG b cW (fun W4 B b => ?_)))))))))))))
 refine VO (lf (.agg (kK p).toArray) ((kK p).toArray) b rfl rfl aO (oP p) nb rfl (fun W5 b => lr (Wf rE (VA b (Mt Mh) (kQ a.Head) bG aR (bS hm fun n j4 hm => VE (Eg b kA (uQ a.Head _ _  j4) (fun W8 b => Wa (ln (kY (Sg hm (fun A E W => ∃ R, ST true lT w W (hp w) ((B, Ol (kK A.2) 52) :: ((N, Ol (kK a) 52) :: R)) ∧ E 1 = (.pointer (some ⟨N, 0, none⟩)) ∧ E 3 = (.pointer (some ⟨B, 0, none⟩)) ∧ E 4 = (.bool A.1)) (fun A g Z => ?_) ?_))))))))))
 ·let g5 := ((kK m9).toArray : Array Value)
  let b8 := ((kK j2).toArray : Array Value)
  let m : Value := (.pointer (some ⟨B, 0, none⟩))
  let l : Value := (.pointer (some ⟨N, 0, none⟩))
  let a0 := ((kK a).toArray : Array Value)
  refine sg (Wf rD (VB b (Mt Mh) rfl rfl cD (ln (bg (Wi rfl (Wa (ln (CI g rfl (fun e5 g => ?_) (fun e5 g => ?_)))))))))
  ·replace b := b.drew
   have d := b.has.kG (Db (Kb Sn))
   refine mj d lQ (X 0 rfl d (kP xD rfl) (XH 1 rfl d (fun _ h => kI rfl (lh h Mh rfl bV)) (X 2 rfl d (kR rfl) (X 3 rfl d (kR rfl) (X 8 rfl d (kP xD rfl) (PJ g (fun d6 E W => ∃ b9, ST true lT w W (hp w) ((B, Ol (kK p) 52) :: ((N, Obj.cells a0 52 (0, 0)) :: b9)) ∧ E 1 = l ∧ E 3 = m ∧ E 4 = (.bool n) ∧ E 18 = (.string a.lZ) ∧ E 24 = (.bool d6) ∧ E 25 = (.pointer (some ⟨B, 3, none⟩))) (bm 11 511) 2 ?_ (fun d6 D a2 => ?_)))))))
   ·rintro m1 E W ⟨b9, b, h2, h3, k8, h4, h5, h6⟩ f1
    refine XO 9 rfl (lf (.string a.lZ) ((kK (⟨a.Kind, a.Head, a.lZ, K0, K0, zS⟩ : kE)).toArray) b h6 h4 gG (Ki a.lZ) nb rfl (fun j5 b => ?_))
    have d := b.has.kG (Db (Kb Sn))
    refine ⟨d, (X 10 rfl d (om h5) (ms kr (lK (kT ?_))))⟩
    obtain rfl := sj f1
    exact ⟨_, rfl, _, (b.kG St), h2, h3, rfl⟩
   refine bC D (fun k D => ?_) (fun k D => ?_)
   ·refine Xg 4 rfl rfl (cB k) d (kP xD rfl) (rM 5 rfl rfl (cB k) d (fun _ h => kI rfl (lh h Mh rfl bV)) (bS D fun l2 f9 D => AV 6 rfl rfl (cB k) (Eg b call57 (xt a.lZ _ _  f9) (fun j6 b => ?_))))
    have d := b.has.kG (Db (Kb Sn))
    refine ⟨d, (X 7 rfl d (li (cB k) rfl) ?_)⟩
    obtain rfl := sj D
    refine nu kr (a2 _ _ ⟨_, (b.kG St), rfl, rfl, rfl, rfl, rfl, rfl⟩)
   refine Xn 4 rfl rfl (cB k) d (Xn 5 rfl rfl (cB k) d (Xn 6 rfl rfl (cB k) d (X 7 rfl d (lj (cB k) rfl) ?_)))
   obtain rfl := sj D
   refine nu kr (a2 _ _ ⟨_, (b.kG St), rfl, rfl, rfl, rfl, rfl, rfl⟩)
  refine sg (Wi rfl (Wa (ln (CI g rfl (fun e6 g => ?_) (fun e6 g => ?_)))))
  ·replace b := b.drew
   have d := b.has.kG (Db (Kb Sn))
   refine mj d lQ (X 0 rfl d (kP oN rfl) (XH 1 rfl d (fun _ h => kI rfl (kM h Mh (kQ a.B) rfl bG aR)) (X 2 rfl d (kR rfl) (X 3 rfl d (kR rfl) (X 8 rfl d (kP oN rfl) (PJ g (fun d7 E W => ∃ c0, ST true lT w W (hp w) ((B, Ol (kK p) 52) :: ((N, Obj.cells a0 52 (0, 0)) :: c0)) ∧ E 1 = l ∧ E 3 = m ∧ E 4 = (.bool n) ∧ E 29 = j1 ∧ E 35 = (.bool d7) ∧ E 36 = (.pointer (some ⟨B, 4, none⟩))) (bm 11 511) 2 ?_ (fun d7 G a3 => ?_)))))))
   ·rintro m2 E W ⟨c0, b, h7, h8, k9, h9, i0, i1⟩ f2
    refine XO 9 rfl (lf j1 g6 b i1 h9 aR (wX a.B) nb rfl (fun j7 b => ?_))
    have d := b.has.kG (Db (Kb Sn))
    refine ⟨d, (X 10 rfl d (om i0) (ms kr (lK (kT ?_))))⟩
    obtain rfl := sj f2
    exact ⟨_, rfl, _, (b.kG St), h7, h8, rfl⟩
   refine bC G (fun t G => ?_) (fun t G => ?_)
   ·refine Xg 4 rfl rfl (cB t) d (kP oN rfl) (rM 5 rfl rfl (cB t) d (fun _ h => kI rfl (kM h Mh (kQ a.B) rfl bG aR)) (bS G fun l3 g0 G => AV 6 rfl rfl (cB t) (Eg b kA (uQ a.B _ _  g0) (fun j8 b => ?_))))
    have d := b.has.kG (Db (Kb Sn))
    refine ⟨d, (X 7 rfl d (li (cB t) rfl) ?_)⟩
    obtain rfl := sj G
    refine nu kr (a3 _ _ ⟨_, (b.kG St), rfl, rfl, rfl, rfl, rfl, rfl⟩)
   refine Xn 4 rfl rfl (cB t) d (Xn 5 rfl rfl (cB t) d (Xn 6 rfl rfl (cB t) d (X 7 rfl d (lj (cB t) rfl) ?_)))
   obtain rfl := sj G
   refine nu kr (a3 _ _ ⟨_, (b.kG St), rfl, rfl, rfl, rfl, rfl, rfl⟩)
  refine sg (Wi rfl (Wa (ln (CI g rfl (fun e7 g => ?_) (fun e7 g => ?_)))))
  ·refine kY ?_
   replace b := b.drew
   have d := b.has.kG (Db (Kb Sn))
   refine mj d lQ (X 0 rfl d (kP oN rfl) (XH 1 rfl d (fun _ h => kI rfl (kM h Mh (kQ a.B) rfl bG aR)) (X 2 rfl d (kP vv rfl) (XH 3 rfl d (fun _ h => kI rfl (lh h Mh rfl bV)) (X 4 rfl d (kP oN rfl) (XO 5 rfl (lf j1 g6 b rfl rfl aR (wX a.B) nb rfl (fun j9 b => ?_))))))))
   have d := b.has.kG (Db (Kb Sn))
   refine ⟨d, (X 6 rfl d (kP vv rfl) (XO 7 rfl (lf (.string a.mc) ((kK j2).toArray) b rfl rfl gG (Ki a.mc) nb rfl (fun k0 b => ?_))))⟩
   have d := b.has.kG (Db (Kb Sn))
   refine ⟨d, (ms kr (kT (kV (Wm (Wm (LJ g (fun e0 E W => ∃ c1, ST true lT w W (hp w) ((B, Obj.cells b8 52 (0, 0)) :: ((N, Obj.cells a0 52 (0, 0)) :: c1)) ∧ E 1 = l ∧ E 3 = m ∧ E 4 = (.bool n) ∧ E 50 = (.bool e0)) 4 ?_ (fun e0 I L => ?_)))))))⟩
   ·rintro m3 E W ⟨c1, b, U, c7, c8, i2⟩ f3
    refine Wh i2 (LJ f3 (fun d9 E W => ∃ c2, ST true lT w W (hp w) ((B, Obj.cells b8 52 (0, 0)) :: ((N, Obj.cells a0 52 (0, 0)) :: c2)) ∧ E 1 = l ∧ E 3 = m ∧ E 4 = (.bool n) ∧ E 59 = (.bool d9)) 8 ?_ (fun d9 T a5 => ?_))
    ·rintro m4 E W ⟨c2, b, q, c9, d0, i3⟩ f4
     refine Wh i3 (LJ f4 (fun d8 E W => ∃ c3, ST true lT w W (hp w) ((B, Obj.cells b8 52 (0, 0)) :: ((N, Obj.cells a0 52 (0, 0)) :: c3)) ∧ E 1 = l ∧ E 3 = m ∧ E 4 = (.bool n) ∧ E 64 = (.bool d8)) 4 ?_ (fun d8 H a4 => ?_))
     ·rintro m5 E W ⟨c3, b, i4, i5, l0, i6⟩ f5
      refine Wg i6 (lH (lK (kT ?_)))
      obtain rfl := sj f5
      exact ⟨_, rfl, _, (b.kG St), i4, i5, rfl⟩
     refine bC H (fun x H => ?_) (fun x H => ?_)
     ·refine ug x (kP vv q) (ug x (kI rfl (lh b.has (Mt Mh) rfl bV)) (bS H fun l4 g1 H => sE x (Eg b call57 (xt a.mc _ _  g1) (fun k1 b => V (li (cB x) rfl) ?_))))
      obtain rfl := sj H
      exact a4 _ _ ⟨_, (b.kG St), q, c9, d0, rfl⟩
     refine un x (un x (un x (V (lj (cB x) rfl) ?_)))
     obtain rfl := sj H
     exact a4 _ _ ⟨_, (b.kG St), q, c9, d0, rfl⟩
    refine bC T (fun c T => ?_) (fun c T => ?_)
    ·refine ug c (kP oN U) (ug c (kP qg rfl) (ug c (kI rfl (lh b.has (Mt Mh) rfl bV)) (ug c (kP rE U) (ug c (kP qg rfl) (ug c (kI rfl (lh b.has (Mt Mh) rfl bV)) (ug c (rK rfl rfl rfl) (V (li (cB c) rfl) ?_)))))))
     obtain rfl := sj T
     exact a5 _ _ ⟨_, (b.kG St), U, c7, c8, rfl⟩
    refine un c (un c (un c (un c (un c (un c (un c (V (lj (cB c) rfl) ?_)))))))
    obtain rfl := sj T
    exact a5 _ _ ⟨_, (b.kG St), U, c7, c8, rfl⟩
   refine bC I (fun u I => ?_) (fun u I => ?_)
   ·refine ug u (kP oN rfl) (ug u (kI rfl (kM b.has (Mt Mh) (kQ a.B) rfl bG aR)) (bS I fun l5 g2 I => sE u (Eg b kA (uQ a.B _ _  g2) (fun k2 b => V (li (cB u) rfl) ?_))))
    obtain rfl := sj I
    exact L _ _ ⟨_, (b.kG St), rfl, rfl, rfl, rfl⟩
   refine un u (un u (un u (V (lj (cB u) rfl) ?_)))
   obtain rfl := sj I
   exact L _ _ ⟨_, (b.kG St), rfl, rfl, rfl, rfl⟩
  refine sg (Wi rfl (Wa (ln (CI g rfl (fun e8 g => ?_) (fun e8 g => ?_)))))
  ·refine kY ?_
   replace b := b.drew
   have d := b.has.kG (Db (Kb Sn))
   refine mj d lQ (X 0 rfl d (kP oN rfl) (XH 1 rfl d (fun _ h => kI rfl (kM h Mh (kQ a.B) rfl bG aR)) (X 2 rfl d (kP tq rfl) (XH 3 rfl d (fun _ h => kI rfl (kM h Mh (kQ a.C) rfl bG aR)) (X 4 rfl d (kP oN rfl) (XO 5 rfl (lf j1 g6 b rfl rfl aR (wX a.B) nb rfl (fun k3 b => ?_))))))))
   have d := b.has.kG (Db (Kb Sn))
   refine ⟨d, (X 6 rfl d (kP tq rfl) (XO 7 rfl (lf (.agg (kQ a.C).toArray) ((kK m9).toArray) b rfl rfl aR (wX a.C) nb rfl (fun k4 b => ?_))))⟩
   have d := b.has.kG (Db (Kb Sn))
   refine ⟨d, (ms kr (kT (kV (Wm (Wm (LJ g (fun e3 E W => ∃ c4, ST true lT w W (hp w) ((B, Obj.cells g5 52 (0, 0)) :: ((N, Obj.cells a0 52 (0, 0)) :: c4)) ∧ E 1 = l ∧ E 3 = m ∧ E 4 = (.bool n) ∧ E 78 = (.bool e3)) 4 ?_ (fun e3 M a9 => ?_)))))))⟩
   ·rintro m6 E W ⟨c4, b, s, d1, d2, i7⟩ f6
    refine Wh i7 (LJ f6 (fun e2 E W => ∃ c5, ST true lT w W (hp w) ((B, Obj.cells g5 52 (0, 0)) :: ((N, Obj.cells a0 52 (0, 0)) :: c5)) ∧ E 1 = l ∧ E 3 = m ∧ E 4 = (.bool n) ∧ E 83 = (.bool e2)) 4 ?_ (fun e2 K P => ?_))
    ·rintro m7 E W ⟨c5, b, Y, d3, d4, i8⟩ f7
     refine Wh i8 (LJ f7 (fun e1 E W => ∃ c6, ST true lT w W (hp w) ((B, Obj.cells g5 52 (0, 0)) :: ((N, Obj.cells a0 52 (0, 0)) :: c6)) ∧ E 1 = l ∧ E 3 = m ∧ E 4 = (.bool n) ∧ E 91 = (.bool e1)) 7 ?_ (fun e1 J O => ?_))
     ·rintro m8 E W ⟨c6, b, i9, j0, l1, j3⟩ f8
      refine Wg j3 (lH (lK (kT ?_)))
      obtain rfl := sj f8
      exact ⟨_, rfl, _, (b.kG St), i9, j0, rfl⟩
     refine bC J (fun i J => ?_) (fun i J => ?_)
     ·refine ug i (kP oN Y) (ug i (kI rfl (kM b.has (Mt Mh) (kQ a.B) rfl bG aR)) (ug i (kP tq Y) (ug i (kI rfl (kM b.has (Mt Mh) (kQ a.C) rfl bG aR)) (bS J fun l6 g3 J => sE i (Eg b call155 (HP a.B a.C _ _  g3) (fun k5 b => ug i (lR rfl rfl rfl) (V (li (cB i) rfl) ?_)))))))
      obtain rfl := sj J
      exact O _ _ ⟨_, (b.kG St), Y, d3, d4, rfl⟩
     refine un i (un i (un i (un i (un i (un i (V (lj (cB i) rfl) ?_))))))
     obtain rfl := sj J
     exact O _ _ ⟨_, (b.kG St), Y, d3, d4, rfl⟩
    refine bC K (fun z K => ?_) (fun z K => ?_)
    ·refine ug z (kP tq s) (ug z (kI rfl (kM b.has (Mt Mh) (kQ a.C) rfl bG aR)) (bS K fun l7 g4 K => sE z (Eg b kA (uQ a.C _ _  g4) (fun k6 b => V (li (cB z) rfl) ?_))))
     obtain rfl := sj K
     exact P _ _ ⟨_, (b.kG St), s, d1, d2, rfl⟩
    refine un z (un z (un z (V (lj (cB z) rfl) ?_)))
    obtain rfl := sj K
    exact P _ _ ⟨_, (b.kG St), s, d1, d2, rfl⟩
   refine bC M (fun y M => ?_) (fun y M => ?_)
   ·refine ug y (kP oN rfl) (ug y (kI rfl (kM b.has (Mt Mh) (kQ a.B) rfl bG aR)) (bS M fun l8 g7 M => sE y (Eg b kA (uQ a.B _ _  g7) (fun k7 b => V (li (cB y) rfl) ?_))))
    obtain rfl := sj M
    exact a9 _ _ ⟨_, (b.kG St), rfl, rfl, rfl, rfl⟩
   refine un y (un y (un y (V (lj (cB y) rfl) ?_)))
   obtain rfl := sj M
   exact a9 _ _ ⟨_, (b.kG St), rfl, rfl, rfl, rfl⟩
  refine sg (Wa (ln ?_))
  replace b := b.kG (Db (Db St))
  refine lC (nD (lL ?_))
  obtain rfl := sj g
  replace Z : some false = some r := Z
  obtain rfl := sj Z
  exact rP b
 rintro ⟨l9, e4⟩ E W ⟨R, b, g8, g9, h0⟩ e9
 refine sg (Wh h0 (Wm (LJ e9 (fun d5 E W => ∃ b7, ST true lT w W (hp w) b7 ∧ E 97 = (.bool d5)) 4 ?_ (fun d5 Q F => ?_))))
 ·rintro m0 E W ⟨b7, b, h1⟩ f0
  exact Wg h1 (lt (rQ f0 b))
 refine bC Q (fun j Q => ?_) (fun j Q => ?_)
 ·refine ug j (kI g9 (kM b.has Mh (kK e4) rfl bW aO)) (ug j (kI g8 (kM b.has (Mt Mh) (kK a) rfl bW aO)) (ug j (uU rfl rfl (ob fJ) (qW (vI _ e4 a))) (V (li (cB j) rfl) ?_)))
  obtain rfl := sj Q
  exact F _ _ ⟨_, (b.kG (Db (Db St))), rfl⟩
 refine un j (un j (un j (V (lj (cB j) rfl) ?_)))
 obtain rfl := sj Q
 exact F _ _ ⟨_, (b.kG (Db (Db St))), rfl⟩
theorem Es (j : Value) (t : List kE) (c : kE) (r : Int) (w : World) (g : Sl (Pl kK) 9 (hp w) j t) (hm : xc t c = some r) :
  lD true Tryz.prog 186 [j, (.agg (kK c).toArray)] w (.int .i64 r) := by
 refine cG 19 func186 rfl (fun b => sg (VE (lJ b rfl (fun Q J b => Wa (lS (Wm (V (mi aT rfl g) (Wm (ln ?_)))))))))
 refine mf (fun i E W => ∃ k, (E 8 = .int .i64 (i : Nat) ∧ E 7 = .int .i64 (t.length : Nat)) ∧ ST true lT w W (hp w) ((J, Ol (kK c) 52) :: k) ∧ E 0 = j ∧ E 3 = (.pointer (some ⟨J, 0, none⟩)) ∧ qY c (t.drop i) i = some r) t.length g.len ⟨_, ⟨rfl, rfl⟩, (b.kG St), rfl, rfl, hm⟩ dc dc dc (fun _ _ _ h => by obtain ⟨_, m, _⟩ := h; exact m) ?_ ?_
 ·rintro K E W B ⟨k, ⟨l, p⟩, b, u, x, a⟩
  obtain ⟨y, M, H, G, I⟩ := lX B
  rw [H] at a
  refine bg (Wh l (Wa (ln (kY ?_))))
  replace b := b.drew
  have d := b.has.kG (Kb Sn)
  refine mj d lQ (XH 0 rfl d (fun _ n => kI x (kM n Mh (kK c) rfl bW aO)) (X 1 rfl d (kR u) (X 2 rfl d (kR rfl) (XQ 3 rfl d (oF (enc := kK) (i := (K : Int)) (x0 := y) aT aO rfl rfl g (aH _) G) (fun N D => XH 4 rfl d (fun _ n => kI rfl (lz n D bW aO)) (X 5 rfl d (uU rfl rfl (ob fJ) (qW (vI _ c y))) (ms kr (kT (CI a rfl (fun z a => ?_) (fun z a => ?_))))))))))
  ·refine sg (Wm (Wa (ln ?_)))
   replace b := b.kG (Db St)
   refine lC (nD (lL (nD (lL ?_))))
   obtain rfl := sj a
   exact rP b
  exact mr (lK (kT ⟨l, _, ⟨rfl, p⟩, (b.kG St), u, x, (by rw [I]; exact a)⟩))
 rintro E W ⟨k, ⟨l, p⟩, b, u, x, a⟩
 rw [aI] at a
 refine kT ?_
 replace b := b.kG (Db St)
 exact sg (Wa (lt (rQ a b)))
theorem CC (a : Value) (g : List kE) (c : kE) (r : Bool) (w : World) (i : Sl (Pl kK) 9 (hp w) a g) (hm : tk g c = some r) :
  lD true Tryz.prog 124 [a, (.agg (kK c).toArray)] w (.bool r) := by
 refine cG 9 func124 rfl (fun b => sg (VE (lJ b rfl (fun k u b => Wa (lr (Wm (VA b Mh (kK c) bW aO (bS hm fun x j hm => VE (Eg b call186 (Es a g c _ _ (i.mono (Pl.mono _) b.kN) j) (fun t b => Wi rfl (Wa ?_)))))))))))
 refine ln ?_
 exact lC (rQ hm b)
theorem G5 (a : Value) (g : List kE) (c : kE) (r : Bool) (w : World) (i : Sl (Pl kK) 9 (hp w) a g) (hm : wA g c = some r) :
  lD true Tryz.prog 60 [a, (.agg (kK c).toArray)] w (.bool r) := by
 refine cG 8 func60 rfl (fun b => sg (VE (lJ b rfl (fun k u b => Wa (lr (Wm (VA b Mh (kK c) bW aO (bS hm fun x j hm => VE (Eg b call124 (CC a g c _ _ (i.mono (Pl.mono _) b.kN) j) (fun t b => Wa (lH ?_)))))))))))
 refine kT ?_
 exact lC (rQ hm b)
theorem KJ (a : kE) (r : List kC) (w : World) (hm : zB a = some r) :
  nC true Tryz.prog 243 [(.agg (kK a).toArray)] w 50 kQ 2 r := by
 refine xg 27 func243 rfl (fun b => sg (VE (lJ b rfl (fun W2 h b => Wa (lS (VA b Mh (kK a) bW aO (bS hm fun r3 q hm => VE (Eg b call113 (zU a _ _  q) (fun W5 b => V (ot rfl) (lH ?_))))))))))
 refine kT (CI hm rfl (fun n hm => ?_) (fun n hm => ?_))
 ·refine sg (Wa (ln ?_))
  replace b := b.kG (Db St)
  refine lC (lL ?_)
  obtain rfl := sj hm
  exact mI (v := (.slice none 0 0)) rfl rfl ⟨_, [], rfl, b.pn (fun p d => by cases d) (by simp), lA.nil _ _ _⟩
 refine kg (Wf rE (VA b Mh (kQ a.Head) bG aR (VE (lE (cs := (kQ a.Head).toArray) b (np rfl) (nq fC aR fE) (fun W8 y b => Wa (ln (kY (CJ hm (fun I E W => ∃ j i z, ST true lT w W (hp w) ((h, Ol (kK a) 52) :: (i ++ z)) ∧ E 1 = (.pointer (some ⟨h, 0, none⟩)) ∧ E 3 = j ∧ lA 50 kQ 2 j I i) (fun I g => ?_) ?_))))))))
 ·refine sg (Wf rD (VB b (Mt Mh) rfl rfl cD (Wi rfl (ln (CI g rfl (fun Q g => ?_) (fun Q g => ?_))))))
  ·refine kV (Wm (Wf oN (VA b (Mt Mh) (kQ a.B) bG aR (VE (lE (cs := (kQ a.B).toArray) b (np rfl) (nq fC aR fE) (fun L a4 b => ?_))))))
   replace b := b.perm (Nb (Pb Pz) Nz)
   refine bS g fun c0 T g => VE (oW (enc := kQ) (v := (.slice (some ⟨y, 0, none⟩) 1 1)) (vs := (.slice (some ⟨a4, 0, none⟩) 1 1)) (R := [(y, Ol (kQ a.Head) 50)]) b ya dc wX fC wC.1 wC.2.1 rfl wC.2.2.1 wC.2.2.2 rfl rfl (lA.lit (l := [a.Head]) (enc := kQ) rfl dc rfl rfl) (Sl.lit (enc := kQ) (l := [a.B]) ya rfl nb rfl (b.at_ (Mt Mh))) T (fun O a9 m b K => Wa (ln ?_)))
   obtain rfl := sj g
   exact ⟨a9, m, _, (b.kG (Sb (Pr (Pb Pz)) (Kr (Db St)))), rfl, rfl, K⟩
  refine kn ?_
  obtain rfl := sj g
  replace b := b.Bg
  exact ⟨(.slice (some ⟨y, 0, none⟩) 1 1), [(y, Ol (kQ a.Head) 50)], _, (b.kG (Sb (Pr Pz) St)), rfl, rfl, (lA.lit (l := [a.Head]) (enc := kQ) rfl dc rfl rfl)⟩
 rintro P E W ⟨j, i, z, b, D, G, u⟩ U
 refine kY (CJ U (fun H E W => ∃ t k B, ST true lT w W (hp w) (k ++ B) ∧ E 3 = t ∧ lA 50 kQ 2 t H k) (fun H c => ?_) ?_)
 ·refine sg (V (kP rD D) (VB b Mh rfl rfl cD (Wi rfl (ln (CI c rfl (fun M c => ?_) (fun M c => ?_))))))
  ·refine kV (Wh G (V (kP tq D) (VA b Mh (kQ a.C) bG aR (VE (lE (cs := (kQ a.C).toArray) b (np rfl) (nq fC aR fE) (fun A a3 b => ?_))))))
   replace b := b.perm (Nr (Qb (Qb Qz)) Nz)
   refine bS c fun b9 N c => VE (oW (enc := kQ) (v := j) (vs := (.slice (some ⟨a3, 0, none⟩) 1 1)) (R := i) b ya dc wX fC wC.1 wC.2.1 rfl wC.2.2.1 wC.2.2.2 rfl rfl u (Sl.lit (enc := kQ) (l := [a.C]) ya rfl nb rfl (b.at_ (Ma Mh))) N (fun F s Z b J => Wa (ln ?_)))
   obtain rfl := sj c
   exact ⟨s, Z, _, (b.kG (Kr (Db (Db St)))), rfl, J⟩
  refine kn ?_
  obtain rfl := sj c
  exact ⟨j, i, _, (b.kG (Db St)), G, u⟩
 rintro b6 E W ⟨t, k, B, b, a5, x⟩ Y
 refine sg (Wh a5 (Wa (lt ?_)))
 obtain rfl := sj Y
 exact mI (v := t) rfl rfl ⟨_, k, rfl, b.pn (fun p d => (Ml d)) x.nd, x⟩
theorem D7 (M : Nat) (u : Value) (a9 : List (kC × (List (ByteArray × Bool)))) (G : LO) (D : Value) (a0 : List kE) (B : LO) (a : Value) (Y : List (kC × (List kE))) (I : LO) (c : Value) (K : List (ByteArray × (List kE))) (t : LO) (j : Value) (a4 : List kZ) (y : LO) (J : Int) (H : kE) (r : ((List kE) × (List (kC × (List kE))) × (List (ByteArray × (List kE))))) (w : World) {μ0 : lO} (h0 : ox μ0 ((M, Ob #[u, D, a, c, j, (.int .i64 J)] 189) :: (G ++ (B ++ (I ++ (t ++ (y ++ [])))))) w) (e9 : ni (fun (x : kC) => (.agg (kQ x).toArray)) (nf Value.string (fun (x : Bool) => (Value.bool x))) u a9 G) (a6 : lA 52 kK 9 D a0 B) (b2 : ni (fun (x : kC) => (.agg (kQ x).toArray)) (lA 52 kK 9) a Y I) (T : ni Value.string (lA 52 kK 9) c K t) (e1 : rp 111 lV 3 j a4 y) (hm : ur a9 a0 Y K a4 J H = some r) :
  mY true Tryz.prog 187 [(.pointer (some ⟨M, 0, none⟩)), (.agg (kK H).toArray)] w ((M, Ob #[u, D, a, c, j, (.int .i64 J)] 189) :: (G ++ (B ++ (I ++ (t ++ (y ++ [])))))) (fun v L1 W' => ∃ y1 S2 S4 S6, v = (.tuple #[]) ∧ L1 = ((M, Ob #[u, y1, a, c, j, (.int .i64 J)] 189) :: (G ++ (S2 ++ (S4 ++ (S6 ++ (y ++ [])))))) ∧ lA 52 kK 9 y1 r.1 S2 ∧ ni (fun (x : kC) => (.agg (kQ x).toArray)) (lA 52 kK 9) a r.2.1 S4 ∧ ni Value.string (lA 52 kK 9) c r.2.2 S6) := by
 refine BL h0 55 func187 rfl (fun d => sg (VE (lJ d rfl (fun W2 b1 d => ln (kY ?_)))))
 replace d := d.drew
 have m := d.has.kG (Kb Sn)
 have n := d.has.kG (Db (Kb Sn))
 refine we 10 m n lQ (mz 0 rfl kr (.inl rfl) rfl dc (fun _ _ h => ⟨h.1, mV br h.2⟩) ⟨m, fun _ => n⟩ (fun _ _ _ _ => kR rfl) (mz 1 rfl kr (.inl rfl) rfl dc (fun _ _ h => ⟨h.1, mV br h.2⟩) ⟨m, fun _ => n⟩ (fun _ _ _ _ => kR rfl) (mz 2 rfl kr (.inl rfl) rfl dc (fun _ _ h => ⟨h.1, mV br h.2⟩) ⟨m, fun _ => n⟩ (fun _ _ _ _ => ny rfl) (mz 3 rfl kr (.inl rfl) rfl dc (fun _ _ h => ⟨h.1, mV br h.2⟩) ⟨m, fun _ => n⟩ (fun _ _ _ _ => kP Is rfl) (mz 4 rfl kr (.inl rfl) rfl dc (fun _ _ h => ⟨h.1, mV br h.2⟩) ⟨m, fun _ => n⟩ (fun l W q s => have p := (s.2 (q.Ej 10 [4] kr rfl)); kI rfl (lh p Mh rfl kB)) (mz 5 rfl kr (.inl rfl) rfl dc (fun _ _ h => ⟨h.1, mV br h.2⟩) ⟨m, fun _ => n⟩ (fun l W q s => have p := s.1; kI rfl (kM p Mh (kK H) rfl bW aO)) (XE 6 rfl (lE (cs := (kK H).toArray) d (np rfl) (nq aT aO cW) (fun k0 g0 d => ?_)))))))))
 have m := d.has.kG (Db (Kb Sn))
 have n := d.has.kG (Db (Db (Kb Sn)))
 refine ⟨⟨m, fun _ => n⟩, ?_⟩
 replace d := d.perm (Nr (Qb (Qb (Qb (Qr Qz)))) Nz)
 refine bS hm fun a5 f0 hm => XE 7 rfl (oW (enc := kK) (v := D) (vs := (.slice (some ⟨g0, 0, none⟩) 1 1)) (R := B) d mE dc oP aT pb.1 pb.2.1 rfl pb.2.2.1 pb.2.2.2 rfl rfl a6 (Sl.lit (enc := kK) (l := [H]) mE rfl nb rfl (d.at_ (Ma Mh))) f0 (fun k1 k4 b7 d P => ?_))
 have m := d.has.kG (Dr (Db (Kb Sn)))
 have n := d.has.kG (Dr (Db (Db (Kb Sn))))
 refine ⟨⟨m, fun _ => n⟩, (mz 8 rfl kr (.inl rfl) rfl dc (fun _ _ h => ⟨h.1, mV br h.2⟩) ⟨m, fun _ => n⟩ (fun _ _ _ _ => ny rfl) (mz 9 rfl kr (.inl rfl) rfl dc (fun _ _ h => ⟨h.1, mV br h.2⟩) ⟨m, fun _ => n⟩ (fun _ _ _ _ => kP Is rfl) ?_))⟩
 obtain ⟨a8, b0, rfl⟩ := P.form
 let A : Value := (.slice a8 a5.length b0)
 replace d := d.perm (Nb (Pr (Pb (Pb Pz))) Nz)
 refine XO 10 rfl (lf A (#[u, A, a, c, j, (.int .i64 J)]) d rfl rfl sizeOf28 oc nb rfl (fun k2 d => ?_))
 have m := d.has.kG (Db (Dr (Db (Kb Sn))))
 refine ⟨⟨m, fun h => AQ kr h⟩, (ms kr (kT ?_))⟩
 replace d := d.kG (Kb (Kr (Db St)))
 refine kY (sg (VA d (Mt (Ma Mh)) (kK H) bW aO (bS hm fun c1 f1 hm => VE (vK d call243 (KJ H _ _  f1) (fun k3 k5 k6 j9 d g4 ab e8 => ?_)))))
 let b8 := (c1.drop (Int.toNat 1))
 obtain ⟨g3, d, g7, ad, f2⟩ := ST.OZ d e8 ya
 refine bS hm fun _ b9 hm => VQ (CS (i := 1) fC aR rfl rfl f2 (vy b9) (vq b9)) (fun g1 b6 => V (mi fC rfl b6.1) (Wm (ln (mf (fun i E W => ∃ a3 U L, (E 20 = .int .i64 (i : Nat) ∧ E 19 = .int .i64 (b8.length : Nat)) ∧ ST true (keys ((M, Ob #[u, D, a, c, j, (.int .i64 J)] 189) :: (G ++ (B ++ (I ++ (t ++ (y ++ []))))))) w W g3 ((M, Ob #[u, A, a, c, j, (.int .i64 J)] 189) :: ((b1, Ol (kK H) 52) :: (U ++ (b7 ++ (G ++ (t ++ (y ++ L))))))) ∧ E 0 = (.pointer (some ⟨M, 0, none⟩)) ∧ E 3 = (.pointer (some ⟨b1, 0, none⟩)) ∧ E 18 = g1 ∧ ni (fun (x : kC) => (.agg (kQ x).toArray)) (lA 52 kK 9) a a3 U ∧ py H K a5 (b8.drop i) a3 = some r) b8.length b6.1.len ⟨Y, I, _, ⟨rfl, rfl⟩, (d.kG (Kb (Sb (Pr Pz) (Sr (Qr (Qr Qz)) St)))), rfl, rfl, rfl, b2, hm⟩ dc dc dc (fun _ _ _ h => by obtain ⟨_, _, _, aa, _⟩ := h; exact aa) ?_ ?_))))
 ·rintro f3 E W d3 ⟨a3, U, L, ⟨eI, eN⟩, d, a2, N, O, Z, g⟩
  obtain ⟨Q, h4, d8, d7, d9⟩ := lX d3
  rw [d8] at g
  refine bg (VQ (oF (enc := kQ) (i := (f3 : Int)) (x0 := Q) fC aR O eI b6.1 (aH _) d7) (fun j4 d4 => V (kI rfl (lz d.has d4 bG aR)) (VE (lG d fE (fun i1 j0 d => VO (lf (.agg (kQ Q).toArray) ((kQ Q).toArray) d rfl rfl aR (wX Q) nb rfl (fun i2 d => ln ?_)))))))
  replace d := d.drew
  have m := d.has.kG (Kb (Kb (Kb Sn)))
  refine mj m lQ (X 0 rfl m (kR a2) (X 1 rfl m (ny rfl) (X 2 rfl m (kP LF rfl) (XH 3 rfl m (fun _ p => kI rfl (lh p (Mt Mh) rfl isAgg185)) (XH 4 rfl m (fun _ p => kI rfl (kM p Mh (kQ Q) rfl bG aR)) (XH 5 rfl m (fun _ p => kI N (kM p (Mt (Mt Mh)) (kK H) rfl bW aO)) (XE 6 rfl (lE (cs := (kK H).toArray) d (np rfl) (nq aT aO cW) (fun i3 e6 d => ?_)))))))))
  have m := d.has.kG (Db (Kb (Kb (Kb Sn))))
  refine ⟨m, ?_⟩
  obtain ⟨h1, d1⟩ := Z
  replace d := d.perm (Nr (Qb (Qb (Qb (Qb Qz)))) Nz)
  refine XE 7 rfl (MM (k := Q) (x0 := [])  lx Bd underlying185 ky (lA.nil _ _ _) d d1 rfl rfl (fun i4 f5 h3 h6 e2 d c3 c2 => ?_))
  have m := d.has.kG (Dr (Dr (Db (Kb (Kb (Kb Sn))))))
  refine ⟨m, (X 8 rfl m (Fc rfl rfl) (X 10 rfl m (Fc rfl rfl) ?_))⟩
  replace d := d.perm (Nr (Qr Qz) Nz)
  refine bS g fun c0 c8 g => XE 9 rfl (oW (enc := kK) (v := f5) (vs := (.slice (some ⟨e6, 0, none⟩) 1 1)) (R := e2) d mE dc oP aT pb.1 pb.2.1 rfl pb.2.2.1 pb.2.2.2 rfl rfl c3 (Sl.lit (enc := kK) (l := [H]) mE rfl nb rfl (d.at_ (Ma (Ma Mh)))) c8 (fun i5 j5 h7 d c4 => ?_))
  have m := d.has.kG (Dr (Dr (Db (Kb (Kb (Kb Sn))))))
  refine ⟨m, ?_⟩
  replace d := d.perm (Nr (Qr Qz) Nz)
  refine XO 11 rfl (KG (e := 0) (z := c0)  lx Bd d c2 rfl rfl rfl c4 (fun i6 h2 e3 d c5 => ?_))
  have m := d.has.kG (Dr (Db (Kb (Kb (Kb Sn)))))
  refine ⟨m, (ms kr (lK (kT ?_)))⟩
  replace d := d.kG (Kr (Db (Db St)))
  exact ⟨eI, (pk lu a3 Q c0), e3, _, ⟨rfl, eN⟩, (d.kG (Sb (Pr Pz) (Sb (Pr Pz) St))), a2, N, O, c5.e, (by rw [d9]; exact g)⟩
 rintro E W ⟨a3, U, L, ⟨eI, eN⟩, d, a2, N, O, Z, g⟩
 rw [aI] at g
 refine kT (sg (V (kP rD N) (VB d (Mt Mh) rfl rfl cD (Wi rfl (ln (CI g rfl (fun c9 g => ?_) (fun c9 g => ?_)))))))
 ·replace d := d.drew
  have m := d.has.kG (Kb (Kb Sn))
  have n := d.has.kG (Db (Db (Dr (Dr (Dr (Kr Sn))))))
  refine we 15 m n lQ (mz 0 rfl kr (.inl rfl) rfl dc (fun _ _ h => ⟨h.1, mV br h.2⟩) ⟨m, fun _ => n⟩ (fun _ _ _ _ => kR a2) (mz 1 rfl kr (.inl rfl) rfl dc (fun _ _ h => ⟨h.1, mV br h.2⟩) ⟨m, fun _ => n⟩ (fun _ _ _ _ => ny rfl) (mz 2 rfl kr (.inl rfl) rfl dc (fun _ _ h => ⟨h.1, mV br h.2⟩) ⟨m, fun _ => n⟩ (fun _ _ _ _ => kP HQ rfl) (mz 3 rfl kr (.inl rfl) rfl dc (fun _ _ h => ⟨h.1, mV br h.2⟩) ⟨m, fun _ => n⟩ (fun l W q s => have p := s.1; kI rfl (lh p Mh rfl isAgg186)) (mz 4 rfl kr (.inl rfl) rfl dc (fun _ _ h => ⟨h.1, mV br h.2⟩) ⟨m, fun _ => n⟩ (fun _ _ _ _ => kP vv N) (mz 5 rfl kr (.inl rfl) rfl dc (fun _ _ h => ⟨h.1, mV br h.2⟩) ⟨m, fun _ => n⟩ (fun l W q s => have p := s.1; kI rfl (lh p (Mt Mh) rfl bV)) (mz 6 rfl kr (.inl rfl) rfl dc (fun _ _ h => ⟨h.1, mV br h.2⟩) ⟨m, fun _ => n⟩ (fun _ _ _ _ => kR a2) (mz 7 rfl kr (.inl rfl) rfl dc (fun _ _ h => ⟨h.1, mV br h.2⟩) ⟨m, fun _ => n⟩ (fun _ _ _ _ => ny rfl) (mz 8 rfl kr (.inl rfl) rfl dc (fun _ _ h => ⟨h.1, mV br h.2⟩) ⟨m, fun _ => n⟩ (fun _ _ _ _ => kP HQ rfl) (mz 9 rfl kr (.inl rfl) rfl dc (fun _ _ h => ⟨h.1, mV br h.2⟩) ⟨m, fun _ => n⟩ (fun l W q s => have p := s.1; kI rfl (lh p Mh rfl isAgg186)) (mz 10 rfl kr (.inl rfl) rfl dc (fun _ _ h => ⟨h.1, mV br h.2⟩) ⟨m, fun _ => n⟩ (fun _ _ _ _ => kP vv N) (mz 11 rfl kr (.inl rfl) rfl dc (fun _ _ h => ⟨h.1, mV br h.2⟩) ⟨m, fun _ => n⟩ (fun l W q s => have p := s.1; kI rfl (lh p (Mt Mh) rfl bV)) ?_))))))))))))
  obtain ⟨e0, F⟩ := T
  obtain ⟨h8, g8, g9⟩ := nV.rowAt nm.1 F H.mc
  refine mz 12 rfl kr (.inl rfl) rfl dc (fun _ _ h => ⟨h.1, mV br h.2⟩) ⟨m, fun _ => n⟩ (fun l W q s => have p := (s.2 (q.Ej 15 [12] kr rfl)); qc (k := H.mc) (z := (.slice none 0 0)) Hj underlying186 ky rfl rfl F (fun b o hq => p.2 b o (Ml hq))) (mz 13 rfl kr (.inl rfl) rfl dc (fun _ _ h => ⟨h.1, mV br h.2⟩) ⟨m, fun _ => n⟩ (fun l W q s => have p := s.1; kI N (kM p (Mt Mh) (kK H) rfl bW aO)) (XE 14 rfl (lE (cs := (kK H).toArray) d (np rfl) (nq aT aO cW) (fun i7 e7 d => ?_))))
  have m := d.has.kG (Db (Kb (Kb Sn)))
  have n := d.has.kG (Db (Db (Db (Dr (Dr (Dr (Kr Sn)))))))
  refine ⟨⟨m, fun _ => n⟩, ?_⟩
  replace d := d.perm (Nr (Qb (Qb (Qb (Qr (Qr (Qr Qz)))))) Nz)
  obtain ⟨h9, e4, d5, d6, d2⟩ := nV.open nm.1 (lA.nil _ _ _) F H.mc
  replace d := d.perm (Ue d5)
  replace d := d.perm (Nr (Qr Qz) Nz)
  refine bS g fun f4 d0 g => XE 15 rfl (oW (enc := kK) (v := (sw mu e0 H.mc (.slice none 0 0))) (vs := (.slice (some ⟨e7, 0, none⟩) 1 1)) (R := e4) d mE dc oP aT pb.1 pb.2.1 rfl pb.2.2.1 pb.2.2.2 rfl rfl d6 (Sl.lit (enc := kK) (l := [H]) mE rfl nb rfl (d.at_ (Ma (Ma Mh)))) d0 (fun i8 j6 i0 d c6 => ?_))
  have m := d.has.kG (Dr (Dr (Db (Kb (Kb Sn)))))
  refine ⟨⟨m, fun h => AQ kr h⟩, ?_⟩
  replace d := d.perm (Nr (Qr Qz) Nz)
  refine XO 16 rfl (RC (k := H.mc) (z := f4)  Hj underlying186 d d2 rfl rfl rfl c6 (fun i9 e5 d c7 => ?_))
  have m := d.has.kG (Dr (Db (Kb (Kb Sn))))
  refine ⟨⟨m, fun h => AQ kr h⟩, (ms kr (rH ?_))⟩
  obtain rfl := sj g
  exact pU rfl ⟨_, _, rfl, (d.mW (Sb (Pr (Pb Pz)) (Sr (Qr (Qb (Qb (Qr (Qr Qz))))) (Sr (Qr (Qb (Qb (Qr Qz)))) (Sr (Qr (Qb (Qb Qz))) (Kr (Db (Db (Kr Sn))))))))), A, b7, U, e5, rfl, rfl, P, Z, c7.e⟩
 refine mr (rH ?_)
 obtain rfl := sj g
 exact pU rfl ⟨_, _, rfl, (d.mW (Kb (Db (Sr (Qr (Qr Qz)) (Sr (Qr Qz) (Kr (Kr (Kr Sn)))))))), A, b7, U, t, rfl, rfl, P, Z, T⟩
theorem rY (J : Nat) (g : Value) (a0 : List (kC × (List (ByteArray × Bool)))) (D : LO) (a : Value) (M : List kE) (u : LO) (j : Value) (Z : List (kC × (List kE))) (B : LO) (c : Value) (N : List (ByteArray × (List kE))) (y : LO) (i : Value) (Y : List kZ) (t : LO) (H : Int) (G : kC) (U : ByteArray) (r : ((List (kC × (List (ByteArray × Bool)))) × (List kZ) × Int)) (w : World) {μ0 : lO} (h0 : ox μ0 ((J, Ob #[g, a, j, c, i, (.int .i64 H)] 189) :: (D ++ (u ++ (B ++ (y ++ (t ++ [])))))) w) (a5 : ni (fun (x : kC) => (.agg (kQ x).toArray)) (nf Value.string (fun (x : Bool) => (Value.bool x))) g a0 D) (b5 : lA 52 kK 9 a M u) (c3 : ni (fun (x : kC) => (.agg (kQ x).toArray)) (lA 52 kK 9) j Z B) (b6 : ni Value.string (lA 52 kK 9) c N y) (K : rp 111 lV 3 i Y t) (hm : oT a0 M Z N Y H G U = some r) :
  mY true Tryz.prog 244 [(.pointer (some ⟨J, 0, none⟩)), (.agg (kQ G).toArray), (.string U)] w ((J, Ob #[g, a, j, c, i, (.int .i64 H)] 189) :: (D ++ (u ++ (B ++ (y ++ (t ++ [])))))) (fun v L1 W' => ∃ S1 y3 S4, v = (.tuple #[]) ∧ L1 = ((J, Ob #[g, a, j, c, y3, (.int .i64 (r.2.2))] 189) :: (S1 ++ (u ++ (B ++ (y ++ (S4 ++ [])))))) ∧ ni (fun (x : kC) => (.agg (kQ x).toArray)) (nf Value.string (fun (x : Bool) => (Value.bool x))) g r.1 S1 ∧ rp 111 lV 3 y3 r.2.1 S4) := by
 let O := (#[g, a, j, c, i, (.int .i64 H)] : Array Value)
 refine BL h0 53 func244 rfl (fun m => sg (VE (lJ m rfl (fun W2 b1 m => ln (kY (kY ?_))))))
 replace m := m.drew
 have d := m.has.kG (Kb (Kb (Kr Sn)))
 refine mj d lQ (X 0 rfl d (kR rfl) (X 1 rfl d (ny rfl) (X 2 rfl d (kP xU rfl) (XH 3 rfl d (fun _ p => kI rfl (lh p (Mt Mh) rfl jw)) (XH 4 rfl d (fun _ p => kI rfl (kM p Mh (kQ G) rfl bG aR)) ?_)))))
 obtain ⟨f4, Q⟩ := a5
 refine XH 5 rfl d (fun _ p => qc (k := G) (z := (.map none)) Bd fR gO rfl rfl Q (fun b o A => p.2 b o (Mt (Mt (Ml A))))) (X 6 rfl d (kR rfl) (XH 7 rfl d (fun _ p => AK (k := U) (z := false) (vf := (fun (x : Bool) => (Value.bool x))) Hj gU kj rfl rfl (nV.DX (μ := hp _) lx.1 Q G (fun b o A => p.2 b o (Mt (Mt (Ml A)))))) (ms kr (kT (CI hm rfl (fun d5 hm => ?_) (fun d5 hm => ?_))))))
 ·refine lC (lL ?_)
  obtain rfl := sj hm
  exact pU rfl ⟨_, _, rfl, (m.mW (Db (Kb (Kr (Kr (Kr (Kr (Kr Sn)))))))), D, i, t, rfl, rfl, Q.e, K⟩
 refine kn (kY (CJ hm (fun b2 E W => ∃ L c0, ST true (keys ((J, Obj.cells O 189 (0, 0)) :: (D ++ (u ++ (B ++ (y ++ (t ++ []))))))) w W μ0 ((b1, Ol (kQ G) 50) :: ((J, Obj.cells O 189 (0, 0)) :: (L ++ (u ++ (B ++ (y ++ (t ++ c0))))))) ∧ E 0 = (.pointer (some ⟨J, 0, none⟩)) ∧ E 2 = (.string U) ∧ E 4 = (.pointer (some ⟨b1, 0, none⟩)) ∧ ni (fun (x : kC) => (.agg (kQ x).toArray)) (nf Value.string (fun (x : Bool) => (Value.bool x))) g b2 L) (fun b2 I => ?_) ?_))
 ·refine kY ?_
  replace m := m.drew
  have d := m.has.kG (Kb (Kb (Kr Sn)))
  refine mj d lQ (X 0 rfl d (kR rfl) (X 1 rfl d (ny rfl) (X 2 rfl d (kP xU rfl) (XH 3 rfl d (fun _ p => kI rfl (lh p (Mt Mh) rfl jw)) (XH 4 rfl d (fun _ p => kI rfl (kM p Mh (kQ G) rfl bG aR)) (XH 5 rfl d (fun _ p => qc (k := G) (z := (.map none)) Bd fR gO rfl rfl Q (fun b o A => p.2 b o (Mt (Mt (Ml A))))) (X 6 rfl d (KX lx.1 gU Q rfl rfl) (ms kr (kT (CI I rfl (fun b7 I => ?_) (fun b7 I => ?_)))))))))))
  ·replace m := m.drew
   have d := m.has.kG (Kb (Kb Sn))
   refine mj d lQ (X 0 rfl d (kR rfl) (X 1 rfl d (ny rfl) (X 2 rfl d (kP xU rfl) (XH 3 rfl d (fun _ p => kI rfl (lh p (Mt Mh) rfl jw)) (XH 4 rfl d (fun _ p => kI rfl (kM p Mh (kQ G) rfl bG aR)) (XE 5 rfl (ID (P := Tryz.prog) Value.string (fun (x : Bool) => (Value.bool x)) m (fun e1 e7 d9 m b3 => ?_))))))))
   have d := m.has.kG (Dr (Kb (Kb Sn)))
   refine ⟨d, ?_⟩
   replace m := m.perm (Nr (Qr (Qb (Qb Qz))) Nz)
   refine bS I fun e4 b9 I => XO 6 rfl (OI (k := G) (z := ([]))  Bd fR m Q rfl rfl rfl b3 b9 (fun e2 c4 m b4 => ?_))
   have d := m.has.kG (Dr (Kb (Kb Sn)))
   refine ⟨d, (ms kr (kT ?_))⟩
   obtain rfl := sj I
   exact ⟨c4, _, (m.kG (Sb (Pr Pz) (Sb (Pr Pz) St))), rfl, rfl, rfl, b4.e⟩
  refine kn ?_
  obtain rfl := sj I
  exact ⟨D, _, (m.kG St), rfl, rfl, rfl, Q.e⟩
 rintro f2 E W ⟨L, c0, m, F, c1, c2, c8⟩ T
 refine kY ?_
 replace m := m.drew
 have d := m.has.kG (Kb (Kb Sn))
 have n := m.has.kG (Db (Db (Kr Sn)))
 refine we 7 d n lQ (mz 0 rfl kr (.inl rfl) rfl dc (fun _ _ h => ⟨h.1, mV br h.2⟩) ⟨d, fun _ => n⟩ (fun _ _ _ _ => kR F) (mz 1 rfl kr (.inl rfl) rfl dc (fun _ _ h => ⟨h.1, mV br h.2⟩) ⟨d, fun _ => n⟩ (fun _ _ _ _ => ny rfl) (mz 2 rfl kr (.inl rfl) rfl dc (fun _ _ h => ⟨h.1, mV br h.2⟩) ⟨d, fun _ => n⟩ (fun _ _ _ _ => kP xU rfl) (mz 3 rfl kr (.inl rfl) rfl dc (fun _ _ h => ⟨h.1, mV br h.2⟩) ⟨d, fun _ => n⟩ (fun l W q s => have p := s.1; kI rfl (lh p (Mt Mh) rfl jw)) (mz 4 rfl kr (.inl rfl) rfl dc (fun _ _ h => ⟨h.1, mV br h.2⟩) ⟨d, fun _ => n⟩ (fun l W q s => have p := s.1; kI c2 (kM p Mh (kQ G) rfl bG aR)) ?_)))))
 obtain ⟨e5, a9⟩ := c8
 refine mz 5 rfl kr (.inl rfl) rfl dc (fun _ _ h => ⟨h.1, mV br h.2⟩) ⟨d, fun _ => n⟩ (fun l W q s => have p := (s.2 (q.Ej 7 [5] kr rfl)); qc (k := G) (z := (.map none)) Bd fR gO rfl rfl a9 (fun b o A => p.2 b o (Ml A))) (mz 6 rfl kr (.inl rfl) rfl dc (fun _ _ h => ⟨h.1, mV br h.2⟩) ⟨d, fun _ => n⟩ (fun _ _ _ _ => kR c1) ?_)
 replace m := m.perm (Nr (Qb (Qb Qz)) Nz)
 refine bS T fun f3 c7 T => XO 7 rfl (Ni (k := G) (v := true) (vf := (fun (x : Bool) => (Value.bool x)))  lx.1 Hj gU m a9 rfl rfl rfl c7 (fun e8 c9 m c5 => ?_))
 have d := m.has.kG (Dr (Kb (Kb Sn)))
 refine ⟨⟨d, fun h => AQ kr h⟩, (ms kr (kT (sg (Wh F (Wn (Wf Fx (VB m (Ma (Mt Mh)) rfl rfl cD (Wi rfl (Wn (Wf Fx ?_))))))))))⟩
 replace m := m.perm (Nb (Pr (Pb Pz)) Nz)
 refine VO (lf (.int .i64 (IntKind.i64.wrap (H + 1))) (#[g, a, j, c, i, (.int .i64 (IntKind.i64.wrap (H + 1)))]) m rfl rfl iH (GL _ (IntKind.i64.wrap (H + 1))) nb rfl (fun e9 m => ln ?_))
 replace m := m.drew
 have d := m.has.kG (Db (Dr (Kb Sn)))
 have n := m.has.kG (Kb Sn)
 refine we 12 d n lQ (mz 0 rfl kr (.inl rfl) rfl dc (fun _ _ h => ⟨h.1, mV br h.2⟩) ⟨d, fun _ => n⟩ (fun _ _ _ _ => kR F) (mz 1 rfl kr (.inl rfl) rfl dc (fun _ _ h => ⟨h.1, mV br h.2⟩) ⟨d, fun _ => n⟩ (fun _ _ _ _ => kR F) (mz 2 rfl kr (.inl rfl) rfl dc (fun _ _ h => ⟨h.1, mV br h.2⟩) ⟨d, fun _ => n⟩ (fun _ _ _ _ => ny rfl) (mz 3 rfl kr (.inl rfl) rfl dc (fun _ _ h => ⟨h.1, mV br h.2⟩) ⟨d, fun _ => n⟩ (fun _ _ _ _ => kP BA rfl) (mz 4 rfl kr (.inl rfl) rfl dc (fun _ _ h => ⟨h.1, mV br h.2⟩) ⟨d, fun _ => n⟩ (fun l W q s => have p := (s.2 (q.Ej 12 [4] kr rfl)); kI rfl (lh p Mh rfl isAgg187)) (mz 5 rfl kr (.inl rfl) rfl dc (fun _ _ h => ⟨h.1, mV br h.2⟩) ⟨d, fun _ => n⟩ (fun l W q s => have p := s.1; kI c2 (kM p Mh (kQ G) rfl bG aR)) (mz 6 rfl kr (.inl rfl) rfl dc (fun _ _ h => ⟨h.1, mV br h.2⟩) ⟨d, fun _ => n⟩ (fun _ _ _ _ => kR c1) (mz 7 rfl kr (.inl rfl) rfl dc (fun _ _ h => ⟨h.1, mV br h.2⟩) ⟨d, fun _ => n⟩ (fun _ _ _ _ => mH (v := (.agg (lV (⟨G, U⟩ : kZ)).toArray)) (oU rfl rfl) (ml fO fP (Ng _ fP) kr)) (XE 8 rfl (lE (cs := (lV (⟨G, U⟩ : kZ)).toArray) m (np rfl) (nq cU dR fO) (fun f0 d4 m => ?_)))))))))))
 have d := m.has.kG (Db (Db (Dr (Kb Sn))))
 have n := m.has.kG (Db (Kb Sn))
 refine ⟨⟨d, fun _ => n⟩, ?_⟩
 replace m := m.perm (Nr (Qb (Qb (Qr (Qb (Qr (Qr (Qr Qz))))))) Nz)
 refine bS T fun b0 c6 T => XE 9 rfl (Lc (enc := lV) (v := i) (vs := (.slice (some ⟨d4, 0, none⟩) 1 1)) (R := t) m qU dc Ae cU vi.1 vi.2.1 rfl vi.2.2.1 vi.2.2.2 rfl rfl K (Sl.lit (enc := lV) (l := [(⟨G, U⟩ : kZ)]) qU rfl nb rfl (m.at_ (Ma Mh))) c6 (fun f1 e6 d0 m a7 => ?_))
 have d := m.has.kG (Dr (Db (Db (Dr (Kb Sn)))))
 have n := m.has.kG (Dr (Db (Kb Sn)))
 refine ⟨⟨d, fun _ => n⟩, (mz 10 rfl kr (.inl rfl) rfl dc (fun _ _ h => ⟨h.1, mV br h.2⟩) ⟨d, fun _ => n⟩ (fun _ _ _ _ => ny rfl) (mz 11 rfl kr (.inl rfl) rfl dc (fun _ _ h => ⟨h.1, mV br h.2⟩) ⟨d, fun _ => n⟩ (fun _ _ _ _ => kP BA rfl) ?_))⟩
 obtain ⟨a3, a4, rfl⟩ := a7.form
 let a2 : Value := (.slice a3 b0.length a4)
 replace m := m.perm (Nb (Pr (Pb Pz)) Nz)
 refine XO 12 rfl (lf a2 (#[g, a, j, c, a2, (.int .i64 (IntKind.i64.wrap (H + 1)))]) m rfl rfl sizeOf187 oc nb rfl (fun e0 m => ?_))
 have d := m.has.kG (Db (Dr (Db (Dr (Kb Sn)))))
 refine ⟨⟨d, fun h => AQ kr h⟩, (ms kr (rH ?_))⟩
 obtain rfl := sj T
 exact pU rfl ⟨_, _, rfl, (m.mW (Kb (Sr (Qr (Qb Qz)) (Sr (Qr (Qb (Qb Qz))) (Sr (Qr (Qb (Qb Qz))) (Sr (Qr (Qb (Qb Qz))) (Kr Sn))))))), c9, a2, d0, rfl, rfl, c5.e, a7⟩
theorem wG (a : Value) (g : List (ByteArray × Bool)) (r : Unit) (w : World) (c : xm Value.string (fun (x : Bool) => (Value.bool x)) (hp w) a g) (hm : pG g = some r) :
  mY true Tryz.prog 283 [a] w [] (fun v k W' => ∃ i, v = (.func (.func 319) #[] #[(.pointer (some ⟨i, 0, none⟩))]) ∧ k = ((i, Ob #[a] 190) :: [])) := by
 refine xg 4 func283 rfl (fun b => sg ?_)
 obtain ⟨t, rfl⟩ := c.form
 refine VE (lJ b rfl (fun u j b => Wa (lr (V (wU (by exact wy rfl) rfl) (Wa (lt ?_))))))
 obtain rfl := sj hm
 exact mI (v := (.func (.func 319) #[] #[(.pointer (some ⟨j, 0, none⟩))])) rfl rfl ⟨_, _, rfl, (b.LD (Kb Sn)), j, rfl, rfl⟩
theorem H4 {β : Type} {vf : β → Value} {l : List (ByteArray × β)} {b : Nat} {a : Value} {W : World} {r : List ByteArray} (d : W.heap[b]? = some (.cells #[a] 190 (0, 0))) (hm : xm Value.string vf (hp W) a l) (hk : GR l = some r) : nC false Tryz.prog 282 [.func (.func 319) #[] #[.pointer (some ⟨b, 0, none⟩)]] W 9 ul 1 r := KO (P := Tryz.prog) Q5 Q2 RT rfl cE call319 call310 d hm hk
theorem zc (T : Nat) (a : Value) (u : List (kC × (List (ByteArray × Bool)))) (c : Value) (t : List kE) (j : Value) (G : List (kC × (List kE))) (g : Value) (B : List (ByteArray × (List kE))) (i : Value) (D : List kZ) (Q : Int) (H : kC) (r : List ByteArray) (w : World) (J : sI (fun (x : kC) => (.agg (kQ x).toArray)) (nf Value.string (fun (x : Bool) => (Value.bool x))) (hp w) a u) (Z : Sl (Pl kK) 9 (hp w) c t) (a4 : sI (fun (x : kC) => (.agg (kQ x).toArray)) (lA 52 kK 9) (hp w) j G) (a0 : sI Value.string (lA 52 kK 9) (hp w) g B) (a3 : Sl (Pl lV) 3 (hp w) i D) (Y : At (hp w) (.pointer (some ⟨T, 0, none⟩)) [a, c, j, g, i, (.int .i64 Q)]) (hm : rF u t G B D Q H = some r) :
  nC false Tryz.prog 245 [(.pointer (some ⟨T, 0, none⟩)), (.agg (kQ H).toArray)] w 9 ul 1 r := by
 refine xg 15 func245 rfl (fun d => sg (VE (lJ d rfl (fun W2 P d => Wa (lS (Wm (V (ye underlying132 rfl rfl) (ln (rN rfl ?_)))))))))
 refine kn (kY ?_)
 replace d := d.drew
 have h := d.has.kG (Kb Sn)
 refine mj h lQ (X 0 rfl h (kR rfl) (X 1 rfl h (ny rfl) (XQ 2 rfl h (zn [a] xU rfl Y rfl) (fun b9 A => XH 3 rfl h (fun _ l => kI rfl (tS l (y := a) A jw)) (XH 4 rfl h (fun _ l => kI rfl (kM l Mh (kQ H) rfl bG aR)) ?_)))))
 obtain ⟨a9, W, K, M⟩ := J
 refine XH 5 rfl h (fun _ l => qc (k := H) (z := (.map none)) Bd fR gO rfl rfl K (fun b o m => l.1 b o (M b o m))) (bS hm fun c0 E hm => ?_)
 refine XE 6 rfl (He d (aX _) call283 (fun _ _ _ _ => mY.mP (wG (sw lu a9 H (.map none)) ((mG lu u H).getD []) _ _ ((nV.DX lx.1 K H M).mono d.kN) E)) (fun b5 c2 c3 R d I q n a5 => ?_) (L0 := []))
 obtain ⟨b7, N, rfl⟩ := a5
 replace N := N.symm; subst N
 replace d := d.perm (Tb Tn)
 have h := d.has.qI I (Db (Kb Sn))
 refine ⟨h, (bS hm fun c1 F hm => XE 7 rfl (vK d call282 (H4 (vf := (fun (x : Bool) => (Value.bool x))) (d.has.2 _ _ Mh) ((nV.DX lx.1 K H M).mono (fun b o m => d.has.1 b o (I b o m))) F) (fun b6 O c4 L d a2 s U => ?_)))⟩
 have h := d.has.qI (I.trans a2) (Dr (Db (Kb Sn)))
 refine ⟨h, (X 8 rfl h (om rfl) (ms kr (kT ?_)))⟩
 replace d := d.kG (Kr (Db (Db St)))
 refine lC ?_
 obtain rfl := sj hm
 exact mI (v := O) rfl rfl ⟨_, L, rfl, d.pn (fun p m => (Ml m)) U.nd, U⟩
theorem Eo (K : Nat) (g : Value) (N : List (kC × (List (ByteArray × Bool)))) (G : LO) (a : Value) (H : List kE) (k : LO) (j : Value) (J : List (kC × (List kE))) (u : LO) (c : Value) (I : List (ByteArray × (List kE))) (t : LO) (z : Value) (M : List kZ) (B : LO) (Z : Int) (A a2 : kC) (r : ((List (kC × (List (ByteArray × Bool)))) × (List kZ) × Int)) (w : World) {μ0 : lO} (h0 : ox μ0 ((K, Ob #[g, a, j, c, z, (.int .i64 Z)] 189) :: (G ++ (k ++ (u ++ (t ++ (B ++ [])))))) w) (a5 : ni (fun (x : kC) => (.agg (kQ x).toArray)) (nf Value.string (fun (x : Bool) => (Value.bool x))) g N G) (Q : lA 52 kK 9 a H k) (a4 : ni (fun (x : kC) => (.agg (kQ x).toArray)) (lA 52 kK 9) j J u) (T : ni Value.string (lA 52 kK 9) c I t) (a3 : rp 111 lV 3 z M B) (hm : uX N H J I M Z A a2 = some r) :
  mY false Tryz.prog 284 [(.pointer (some ⟨K, 0, none⟩)), (.agg (kQ A).toArray), (.agg (kQ a2).toArray)] w ((K, Ob #[g, a, j, c, z, (.int .i64 Z)] 189) :: (G ++ (k ++ (u ++ (t ++ (B ++ [])))))) (fun v L1 W' => ∃ S1 y3 S4, v = (.tuple #[]) ∧ L1 = ((K, Ob #[g, a, j, c, y3, (.int .i64 (r.2.2))] 189) :: (S1 ++ (k ++ (u ++ (t ++ (S4 ++ [])))))) ∧ ni (fun (x : kC) => (.agg (kQ x).toArray)) (nf Value.string (fun (x : Bool) => (Value.bool x))) g r.1 S1 ∧ rp 111 lV 3 y3 r.2.1 S4) := by
 refine BL h0 21 func284 rfl (fun d => sg (VE (lJ d rfl (fun W2 b1 d => VE (lJ d rfl (fun W4 b3 d => lr (Wm (VA d (Mt Mh) (kQ A) bG aR (bS hm fun r5 e6 hm => VE (vK d call245 (zc K g N a H j J c I z M Z A _ _ (a5.at (fun b o l => d.at_ (Mt (Mt (Mt (Ml l)))))) (Q.sl mE (fun b o l => d.at_ (Mt (Mt (Mt (Ma (Ml l))))))) (a4.at (fun b o l => d.at_ (Mt (Mt (Mt (Ma (Ma (Ml l)))))))) (T.at (fun b o l => d.at_ (Mt (Mt (Mt (Ma (Ma (Ma (Ml l))))))))) ((a3.Eh qU).mono (Pl.mono _) (nl (fun b o l => d.at_ (Mt (Mt (Mt (Ma (Ma (Ma (Ma (Ml l))))))))))) (At.of (d.at_ (Mt (Mt Mh))) _ rfl) e6) (fun W7 e7 s e2 d f5 ae a9 => V (po dI rfl a9) (Wm ?_))))))))))))
 refine ln ?_
 replace d := d.kG (Kr (Kb (Db St)))
 refine qt (mf (fun i E W => ∃ m U a0 n Y q F P, (E 12 = .int .i64 (i : Nat) ∧ E 11 = .int .i64 (r5.length : Nat)) ∧ lm s F ∧ ST false (keys ((K, Ob #[g, a, j, c, z, (.int .i64 Z)] 189) :: (G ++ (k ++ (u ++ (t ++ (B ++ []))))))) w W F ((K, Ob #[g, a, j, c, a0, (.int .i64 q)] 189) :: ((b3, Ol (kQ a2) 50) :: (U ++ (k ++ (u ++ (t ++ (Y ++ (e2 ++ P)))))))) ∧ E 0 = (.pointer (some ⟨K, 0, none⟩)) ∧ E 5 = (.pointer (some ⟨b3, 0, none⟩)) ∧ E 10 = e7 ∧ ni (fun (x : kC) => (.agg (kQ x).toArray)) (nf Value.string (fun (x : Bool) => (Value.bool x))) g m U ∧ rp 111 lV 3 a0 n Y ∧ qZ H J I a2 (r5.drop i) m n q = some r) r5.length a9.len ⟨N, G, z, M, B, Z, s, _, ⟨rfl, rfl⟩, (lm.refl _), (d.kG (Sb (Pr (Pb Pz)) (Sb (Pr Pz) (Sr (Qr Qz) (Sr (Qr Qz) (Sr (Qr Qz) (Sr (Qr Qz) (Sr (Qr Qz) St)))))))), rfl, rfl, rfl, a5, a3, hm⟩ dc dc dc (fun _ _ _ h => by obtain ⟨_, _, _, _, _, _, _, _, aa, _⟩ := h; exact aa) ?_ ?_)
 ·rintro d8 E W c9 ⟨m, U, a0, n, Y, q, F, P, ⟨eI, eN⟩, b6, d, R, c1, c2, L, O, D⟩
  obtain ⟨c4, f0, d2, c5, d3⟩ := lX c9
  rw [d2] at D
  refine bg (VQ (pS (i := (d8 : Int)) (x0 := c4) dI gG c2 eI a9 (aH _) c5) (fun f6 d0 => V (kI rfl (DE d.has (fun p l => (Mt (Mt (Ma (Ma (Ma (Ma (Ma (Ml l))))))))) a9 (fun _ => rfl) d0 c5 (y := (.string c4)) rfl bV)) (Wa (ln (kV (Wh R (V (kI c1 (kM d.has (Mt Mh) (kQ a2) rfl bG aR)) (Wm (bS D fun c3 d1 D => ?_)))))))))
  refine VE (eM d (Cb Pz (Cr (Qb Qz) (Cr (Qb Qz) (Cr (Qb Qz) (Cr (Qb Qz) (Cr (Qb Qz) Cn)))))) call244 (fun hh _ => mY.mP (rY K g m U a H k j J u c I t a0 n Y q a2 c4 _ _ hh L Q a4 T O d1)) ?_)
  rintro _ f7 e1 f2 d c7 ab ad ⟨d6, e0, d7, b4, rfl, d4, d5⟩
  obtain rfl := b4.symm
  replace d := d.perm (Tb (Tr (Tr (Tr (Tr (Tr Tn))))))
  exact lH (lK (kT ⟨eI, c3.1, d6, e0, c3.2.1, d7, c3.2.2, e1, _, ⟨rfl, eN⟩, (b6.trans c7), (d.kG (Kb (Sb (Pr (Pr (Pr (Pr (Pr Pz))))) St))), R, c1, c2, d4, d5, (by rw [d3]; exact D)⟩))
 rintro E W ⟨m, U, a0, n, Y, q, F, P, ⟨eI, eN⟩, b6, d, R, c1, c2, L, O, D⟩
 rw [aI] at D
 refine kT ?_
 replace d := d.kG (Kb (Db (Kr (Kr (Kr (Kr (Kr (Dr St))))))))
 refine rH ?_
 obtain rfl := sj D
 exact pU rfl ⟨_, _, rfl, (d.mW (Kb (Kr (Kr (Kr (Kr (Kr Sn))))))), U, a0, Y, rfl, rfl, L, O⟩
theorem Ab (K : Nat) (G : Value) (Z : List (kC × (List (ByteArray × Bool)))) (D : LO) (g : Value) (I : List kE) (a : LO) (B : Value) (N : List (kC × (List kE))) (y : LO) (i : Value) (J : List (ByteArray × (List kE))) (c : LO) (t : Value) (M : List kZ) (j : LO) (a0 : Int) (Q : kE) (a2 : kZ) (r : ((List (kC × (List (ByteArray × Bool)))) × (List kZ) × Int)) (w : World) {μ0 : lO} (h0 : ox μ0 ((K, Ob #[G, g, B, i, t, (.int .i64 a0)] 189) :: (D ++ (a ++ (y ++ (c ++ (j ++ [])))))) w) (U : ni (fun (x : kC) => (.agg (kQ x).toArray)) (nf Value.string (fun (x : Bool) => (Value.bool x))) G Z D) (T : lA 52 kK 9 g I a) (a3 : ni (fun (x : kC) => (.agg (kQ x).toArray)) (lA 52 kK 9) B N y) (Y : ni Value.string (lA 52 kK 9) i J c) (H : rp 111 lV 3 t M j) (hm : sG Z I N J M a0 Q a2 = some r) :
  mY false Tryz.prog 246 [(.pointer (some ⟨K, 0, none⟩)), (.agg (kK Q).toArray), (.agg (lV a2).toArray)] w ((K, Ob #[G, g, B, i, t, (.int .i64 a0)] 189) :: (D ++ (a ++ (y ++ (c ++ (j ++ [])))))) (fun v L1 W' => ∃ S1 y3 S4, v = (.tuple #[]) ∧ L1 = ((K, Ob #[G, g, B, i, y3, (.int .i64 (r.2.2))] 189) :: (S1 ++ (a ++ (y ++ (c ++ (S4 ++ [])))))) ∧ ni (fun (x : kC) => (.agg (kQ x).toArray)) (nf Value.string (fun (x : Bool) => (Value.bool x))) G r.1 S1 ∧ rp 111 lV 3 y3 r.2.1 S4) := by
 let s := (#[G, g, B, i, t, (.int .i64 a0)] : Array Value)
 refine BL h0 57 func246 rfl (fun d => sg (VE (lJ d rfl (fun W2 A d => VE (lJ d rfl (fun W4 L d => lr (Wf rD (VB d (Mt Mh) rfl rfl cD (ln (mB (kY ?_)))))))))))
 refine kV (Wi rfl (Wa (ln (CI hm rfl (fun e5 hm => ?_) (fun e5 hm => ?_)))))
 ·refine kV (Wm (Wf rE (VA d (Mt Mh) (kQ Q.Head) bG aR (Wf wW (VB d Mh rfl rfl bV (bS hm fun r6 e6 hm => ?_))))))
  refine VE (eM d (Cb (Pb (Pb Pz)) (Cr (Qb (Qb Qz)) (Cr (Qb (Qb Qz)) (Cr (Qb (Qb Qz)) (Cr (Qb (Qb Qz)) (Cr (Qb (Qb Qz)) Cn)))))) call244 (fun q _ => mY.mP (rY K G Z D g I a B N y i J c t M j a0 Q.Head a2.lZ _ _ q U T a3 Y H e6)) ?_)
  rintro _ g7 ab f8 d f2 R m ⟨d2, e7, d3, a8, rfl, c5, c6⟩
  obtain rfl := a8.symm
  replace d := d.perm (Tb (Tr (Tr (Tr (Tr (Tr Tn))))))
  refine lH (lK (rH ?_))
  obtain rfl := sj hm
  exact pU rfl ⟨_, _, rfl, (d.mW (Kb (Kr (Kr (Kr (Kr (Kr Sn))))))), d2, e7, d3, rfl, rfl, c5, c6⟩
 refine sg (Wi rfl (Wa (ln (CI hm rfl (fun c0 hm => ?_) (fun c0 hm => ?_)))))
 ·refine kV (Wm (Wf wW (VB d Mh rfl rfl bV (Wf vv (VB d (Mt Mh) rfl rfl bV (V (mH (v := (.agg (kQ (⟨a2.lZ, Q.mc⟩ : kC)).toArray)) (oU rfl rfl) (ml fE dQ (JX _ dQ) kr)) (Wf rE (VA d (Mt Mh) (kQ Q.Head) bG aR (bS hm fun g3 c3 hm => ?_)))))))))
  refine VE (eM d (Cb (Pb (Pb Pz)) (Cr (Qb (Qb Qz)) (Cr (Qb (Qb Qz)) (Cr (Qb (Qb Qz)) (Cr (Qb (Qb Qz)) (Cr (Qb (Qb Qz)) Cn)))))) call284 (fun q _ => (Eo K G Z D g I a B N y i J c t M j a0 (⟨a2.lZ, Q.mc⟩ : kC) Q.Head _ _ q U T a3 Y H c3)) ?_)
  rintro _ g8 h2 f9 d f3 a6 m ⟨d4, e9, d5, a9, rfl, c7, c8⟩
  obtain rfl := a9.symm
  replace d := d.perm (Tb (Tr (Tr (Tr (Tr (Tr Tn))))))
  refine lH (lK (rH ?_))
  obtain rfl := sj hm
  exact pU rfl ⟨_, _, rfl, (d.mW (Kb (Kr (Kr (Kr (Kr (Kr Sn))))))), d4, e9, d5, rfl, rfl, c7, c8⟩
 refine sg (Wi rfl (Wa (ln (CI hm rfl (fun c1 hm => ?_) (fun c1 hm => ?_)))))
 ·refine kY ?_
  replace d := d.drew
  have h := d.has.kG (Kb (Kb (Kb (Kr Sn))))
  refine mj h lQ (X 0 rfl h (kR rfl) (X 1 rfl h (ny rfl) (X 2 rfl h (kP xU rfl) (XH 3 rfl h (fun _ l => kI rfl (lh l (Mt (Mt Mh)) rfl jw)) (X 4 rfl h (kP oN rfl) (XH 5 rfl h (fun _ l => kI rfl (kM l (Mt Mh) (kQ Q.B) rfl bG aR)) ?_))))))
  obtain ⟨f7, a5⟩ := U
  refine XH 6 rfl h (fun _ l => qc (k := Q.B) (z := (.map none)) Bd fR gO rfl rfl a5 (fun b o n => l.2 b o (Mt (Mt (Mt (Ml n)))))) (X 7 rfl h (kP wW rfl) (XH 8 rfl h (fun _ l => kI rfl (lh l Mh rfl bV)) (XH 9 rfl h (fun _ l => AK (k := a2.lZ) (z := false) (vf := (fun (x : Bool) => (Value.bool x))) Hj gU kj rfl rfl (nV.DX (μ := hp _) lx.1 a5 Q.B (fun b o n => l.2 b o (Mt (Mt (Mt (Ml n))))))) (X 10 rfl h (kR rfl) (PJ hm (fun P E W => ∃ O, ST false (keys ((K, Obj.cells s 189 (0, 0)) :: (D ++ (a ++ (y ++ (c ++ (j ++ []))))))) w W μ0 ((L, Ol (lV a2) 111) :: ((A, Ol (kK Q) 52) :: ((K, Obj.cells s 189 (0, 0)) :: (D ++ (a ++ (y ++ (c ++ (j ++ O)))))))) ∧ E 0 = (.pointer (some ⟨K, 0, none⟩)) ∧ E 4 = (.pointer (some ⟨A, 0, none⟩)) ∧ E 5 = (.pointer (some ⟨L, 0, none⟩)) ∧ E 50 = (.bool P)) (bm 22 4194303) 0 ?_ (fun P p F => ?_))))))
  ·rintro h1 E W ⟨O, d, e1, e2, e3, e4⟩ a4
   refine ms kr (kT (CI a4 e4 (fun c2 a4 => ?_) (fun c2 a4 => ?_)))
   ·refine kV (Wh e1 (V (kP rE e2) (VA d (Mt Mh) (kQ Q.Head) bG aR (V (kP wW e3) (VB d Mh rfl rfl bV (bS a4 fun g4 c4 a4 => ?_))))))
    refine VE (eM d (Cb (Pb (Pb Pz)) (Cr (Qb (Qb Qz)) (Cr (Qb (Qb Qz)) (Cr (Qb (Qb Qz)) (Cr (Qb (Qb Qz)) (Cr (Qb (Qb Qz)) Cn)))))) call244 (fun q _ => mY.mP (rY K G Z D g I a B N y i J c t M j a0 Q.Head a2.lZ _ _ q a5.e T a3 Y H c4)) ?_)
    rintro _ g9 h3 g0 d f4 aa m ⟨d7, f0, d8, b0, rfl, c9, d0⟩
    obtain rfl := b0.symm
    replace d := d.perm (Tb (Tr (Tr (Tr (Tr (Tr Tn))))))
    refine lH (lK (rH ?_))
    obtain rfl := sj a4
    exact pU rfl ⟨_, _, rfl, (d.mW (Kb (Kr (Kr (Kr (Kr (Kr Sn))))))), d7, f0, d8, rfl, rfl, c9, d0⟩
   refine mr (lK (rH ?_))
   obtain rfl := sj a4
   exact pU rfl ⟨_, _, rfl, (d.mW (Db (Db (Kb (Kr (Kr (Kr (Kr (Kr Sn))))))))), D, t, j, rfl, rfl, a5.e, H⟩
  refine bC p (fun u p => ?_) (fun u p => ?_)
  ·refine Xg 11 rfl rfl (cB u) h (kR rfl) (Xg 12 rfl rfl (cB u) h (ny rfl) (Xg 13 rfl rfl (cB u) h (kP xU rfl) (rM 14 rfl rfl (cB u) h (fun _ l => kI rfl (lh l (Mt (Mt Mh)) rfl jw)) (Xg 15 rfl rfl (cB u) h (kP tq rfl) (rM 16 rfl rfl (cB u) h (fun _ l => kI rfl (kM l (Mt Mh) (kQ Q.C) rfl bG aR)) (rM 17 rfl rfl (cB u) h (fun _ l => qc (k := Q.C) (z := (.map none)) Bd fR gO rfl rfl a5 (fun b o n => l.2 b o (Mt (Mt (Mt (Ml n)))))) (Xg 18 rfl rfl (cB u) h (kP wW rfl) (rM 19 rfl rfl (cB u) h (fun _ l => kI rfl (lh l Mh rfl bV)) (rM 20 rfl rfl (cB u) h (fun _ l => AK (k := a2.lZ) (z := false) (vf := (fun (x : Bool) => (Value.bool x))) Hj gU kj rfl rfl (nV.DX (μ := hp _) lx.1 a5 Q.C (fun b o n => l.2 b o (Mt (Mt (Mt (Ml n))))))) (X 21 rfl h (li (cB u) rfl) ?_))))))))))
   obtain rfl := sj p
   refine nu kr (F _ _ ⟨_, (d.kG St), rfl, rfl, rfl, rfl⟩)
  refine Xn 11 rfl rfl (cB u) h (Xn 12 rfl rfl (cB u) h (Xn 13 rfl rfl (cB u) h (Xn 14 rfl rfl (cB u) h (Xn 15 rfl rfl (cB u) h (Xn 16 rfl rfl (cB u) h (Xn 17 rfl rfl (cB u) h (Xn 18 rfl rfl (cB u) h (Xn 19 rfl rfl (cB u) h (Xn 20 rfl rfl (cB u) h (X 21 rfl h (lj (cB u) rfl) ?_))))))))))
  obtain rfl := sj p
  refine nu kr (F _ _ ⟨_, (d.kG St), rfl, rfl, rfl, rfl⟩)
 refine mr (lK (rH ?_))
 obtain rfl := sj hm
 exact pU rfl ⟨_, _, rfl, (d.mW (Db (Db (Kb (Kr (Kr (Kr (Kr (Kr Sn))))))))), D, t, j, rfl, rfl, U, H⟩
theorem Du (K : Nat) (g : Value) (T : List (kC × (List (ByteArray × Bool)))) (D : LO) (a : Value) (G : List kE) (j : LO) (t : Value) (J : List (kC × (List kE))) (u : LO) (c : Value) (H : List (ByteArray × (List kE))) (k : LO) (z : Value) (M : List kZ) (B : LO) (a0 : Int) (Z : kE) (r : ((List (kC × (List (ByteArray × Bool)))) × (List kZ) × Int)) (w : World) {μ0 : lO} (h0 : ox μ0 ((K, Ob #[g, a, t, c, z, (.int .i64 a0)] 189) :: (D ++ (j ++ (u ++ (k ++ (B ++ [])))))) w) (a2 : ni (fun (x : kC) => (.agg (kQ x).toArray)) (nf Value.string (fun (x : Bool) => (Value.bool x))) g T D) (N : lA 52 kK 9 a G j) (Y : ni (fun (x : kC) => (.agg (kQ x).toArray)) (lA 52 kK 9) t J u) (Q : ni Value.string (lA 52 kK 9) c H k) (U : rp 111 lV 3 z M B) (hm : tK T G J H M a0 Z = some r) :
  mY false Tryz.prog 188 [(.pointer (some ⟨K, 0, none⟩)), (.agg (kK Z).toArray)] w ((K, Ob #[g, a, t, c, z, (.int .i64 a0)] 189) :: (D ++ (j ++ (u ++ (k ++ (B ++ [])))))) (fun v L1 W' => ∃ S1 y3 S4, v = (.tuple #[]) ∧ L1 = ((K, Ob #[g, a, t, c, y3, (.int .i64 (r.2.2))] 189) :: (S1 ++ (j ++ (u ++ (k ++ (S4 ++ [])))))) ∧ ni (fun (x : kC) => (.agg (kQ x).toArray)) (nf Value.string (fun (x : Bool) => (Value.bool x))) g r.1 S1 ∧ rp 111 lV 3 y3 r.2.1 S4) := by
 refine BL h0 33 func188 rfl (fun d => sg (VE (lJ d rfl (fun W2 b1 d => lr (Wf rD (VB d Mh rfl rfl cD (ln (bg ?_))))))))
 refine Wi rfl (Wa (ln (CI hm rfl (fun f1 hm => ?_) (fun f1 hm => ?_))))
 ·refine kV (Wm (Wf rE (VA d Mh (kQ Z.Head) bG aR (Wf xD (VB d Mh rfl rfl bV (bS hm fun r4 f2 hm => ?_))))))
  refine VE (eM d (Cb (Pb Pz) (Cr (Qb Qz) (Cr (Qb Qz) (Cr (Qb Qz) (Cr (Qb Qz) (Cr (Qb Qz) Cn)))))) call244 (fun hh _ => mY.mP (rY K g T D a G j t J u c H k z M B a0 Z.Head Z.lZ _ _ hh a2 N Y Q U f2)) ?_)
  rintro _ h1 ae g8 d g2 ad m ⟨e7, f4, e8, c2, rfl, e0, e1⟩
  obtain rfl := c2.symm
  replace d := d.perm (Tb (Tr (Tr (Tr (Tr (Tr Tn))))))
  refine lH (lK (rH ?_))
  obtain rfl := sj hm
  exact pU rfl ⟨_, _, rfl, (d.mW (Kb (Kr (Kr (Kr (Kr (Kr Sn))))))), e7, f4, e8, rfl, rfl, e0, e1⟩
 refine sg (Wm (Wf oN (VA d Mh (kQ Z.B) bG aR (bS hm fun c6 d9 hm => VE (vK d call245 (zc K g T a G t J c H z M a0 Z.B _ _ (a2.at (fun b o l => d.at_ (Mt (Mt (Ml l))))) (N.sl mE (fun b o l => d.at_ (Mt (Mt (Ma (Ml l)))))) (Y.at (fun b o l => d.at_ (Mt (Mt (Ma (Ma (Ml l))))))) (Q.at (fun b o l => d.at_ (Mt (Mt (Ma (Ma (Ma (Ml l)))))))) ((U.Eh qU).mono (Pl.mono _) (nl (fun b o l => d.at_ (Mt (Mt (Ma (Ma (Ma (Ma (Ml l)))))))))) (At.of (d.at_ (Mt Mh)) _ rfl) d9) (fun g9 f3 d5 e5 d f6 ab F => V (po dI rfl F) (Wm (ln (qt (mf (fun i E W => ∃ n a3 a5 q a4 a9 L R, (E 13 = .int .i64 (i : Nat) ∧ E 12 = .int .i64 (c6.length : Nat)) ∧ lm d5 L ∧ ST false (keys ((K, Ob #[g, a, t, c, z, (.int .i64 a0)] 189) :: (D ++ (j ++ (u ++ (k ++ (B ++ []))))))) w W L ((K, Ob #[g, a, t, c, a5, (.int .i64 a9)] 189) :: ((b1, Ol (kK Z) 52) :: (a3 ++ (j ++ (u ++ (k ++ (a4 ++ (e5 ++ R)))))))) ∧ E 0 = (.pointer (some ⟨K, 0, none⟩)) ∧ E 3 = (.pointer (some ⟨b1, 0, none⟩)) ∧ E 11 = f3 ∧ ni (fun (x : kC) => (.agg (kQ x).toArray)) (nf Value.string (fun (x : Bool) => (Value.bool x))) g n a3 ∧ rp 111 lV 3 a5 q a4 ∧ qf G J H Z (c6.drop i) n q a9 = some r) c6.length F.len ⟨T, D, z, M, B, a0, d5, _, ⟨rfl, rfl⟩, (lm.refl _), (d.kG (Sb (Pr (Pb Pz)) (Sb (Pr Pz) (Sr (Qr Qz) (Sr (Qr Qz) (Sr (Qr Qz) (Sr (Qr Qz) (Sr (Qr Qz) St)))))))), rfl, rfl, rfl, a2, U, hm⟩ dc dc dc (fun _ _ _ h => by obtain ⟨_, _, _, _, _, _, _, _, a1, _⟩ := h; exact a1) ?_ ?_))))))))))
 ·rintro e2 E W c8 ⟨n, a3, a5, q, a4, a9, L, R, ⟨eI, eN⟩, b7, d, c0, A, c1, O, P, I⟩
  obtain ⟨s, f7, d1, c4, d2⟩ := lX c8
  rw [d1] at I
  refine bg (VQ (pS (i := (e2 : Int)) (x0 := s) dI gG c1 eI F (aH _) c4) (fun g3 c9 => V (kI rfl (DE d.has (fun p l => (Mt (Mt (Ma (Ma (Ma (Ma (Ma (Ml l))))))))) F (fun _ => rfl) c9 c4 (y := (.string s)) rfl bV)) (Wa (ln (kV (Wh c0 (V (kI A (kM d.has (Mt Mh) (kK Z) rfl bW aO)) (V (kP oN A) (VA d (Mt Mh) (kQ Z.B) bG aR (Wm (V (mH (v := (.agg (lV (⟨Z.B, s⟩ : kZ)).toArray)) (oU rfl rfl) (ml fO fP (Ng _ fP) kr)) ?_)))))))))))
  refine bS I fun c3 d0 I => ?_
  refine VE (eM d (Cb Pz (Cr (Qb Qz) (Cr (Qb Qz) (Cr (Qb Qz) (Cr (Qb Qz) (Cr (Qb Qz) Cn)))))) call246 (fun hh _ => (Ab K g n a3 a G j t J u c H k a5 q a4 a9 Z (⟨Z.B, s⟩ : kZ) _ _ hh O N Y Q P d0)) ?_)
  rintro _ g4 e4 f9 d c5 aa m ⟨d6, e3, d7, b5, rfl, d3, d4⟩
  obtain rfl := b5.symm
  replace d := d.perm (Tb (Tr (Tr (Tr (Tr (Tr Tn))))))
  exact lH (lK (kT ⟨eI, c3.1, d6, e3, c3.2.1, d7, c3.2.2, e4, _, ⟨rfl, eN⟩, (b7.trans c5), (d.kG (Kb (Sb (Pr (Pr (Pr (Pr (Pr Pz))))) St))), c0, A, c1, d3, d4, (by rw [d2]; exact I)⟩))
 rintro E W ⟨n, a3, a5, q, a4, a9, L, R, ⟨eI, eN⟩, b7, d, c0, A, c1, O, P, I⟩
 rw [aI] at I
 refine kT ?_
 replace d := d.kG (Kb (Db (Kr (Kr (Kr (Kr (Kr (Dr St))))))))
 refine lK (rH ?_)
 obtain rfl := sj I
 exact pU rfl ⟨_, _, rfl, (d.mW (Kb (Kr (Kr (Kr (Kr (Kr Sn))))))), a3, a5, a4, rfl, rfl, O, P⟩
theorem CU (I : Nat) (a : Value) (e8 : List (kC × (List (ByteArray × Bool)))) (K : LO) (c : Value) (Q : List kE) (j : LO) (u : Value) (N : List (kC × (List kE))) (y : LO) (g : Value) (H : List (ByteArray × (List kE))) (t : LO) (G : Value) (d4 : List kZ) (D : LO) (a0 : Int) (r : ((List (kC × (List (ByteArray × Bool)))) × (List kZ) × Int)) (w : World) {μ0 : lO} (h0 : ox μ0 ((I, Ob #[a, c, u, g, G, (.int .i64 a0)] 189) :: (K ++ (j ++ (y ++ (t ++ (D ++ [])))))) w) (h4 : ni (fun (x : kC) => (.agg (kQ x).toArray)) (nf Value.string (fun (x : Bool) => (Value.bool x))) a e8 K) (c1 : lA 52 kK 9 c Q j) (g7 : ni (fun (x : kC) => (.agg (kQ x).toArray)) (lA 52 kK 9) u N y) (c2 : ni Value.string (lA 52 kK 9) g H t) (g4 : rp 111 lV 3 G d4 D) (hm : vB e8 Q N H d4 a0 = some r) :
  mY false Tryz.prog 189 [(.pointer (some ⟨I, 0, none⟩))] w ((I, Ob #[a, c, u, g, G, (.int .i64 a0)] 189) :: (K ++ (j ++ (y ++ (t ++ (D ++ [])))))) (fun v L1 W' => ∃ S1 y3 S4, v = (.tuple #[]) ∧ L1 = ((I, Ob #[a, c, u, g, y3, (.int .i64 (r.2.2))] 189) :: (S1 ++ (j ++ (y ++ (t ++ (S4 ++ [])))))) ∧ ni (fun (x : kC) => (.agg (kQ x).toArray)) (nf Value.string (fun (x : Bool) => (Value.bool x))) a r.1 S1 ∧ rp 111 lV 3 y3 r.2.1 S4) := by
 let g5 : Value := (.pointer (some ⟨I, 0, none⟩))
 let b8 := ((I, Ob #[a, c, u, g, G, (.int .i64 a0)] 189) :: (K ++ (j ++ (y ++ (t ++ (D ++ []))))))
 refine BL h0 75 func189 rfl (fun d => qt (mB (nS (fun m E W => ∃ e3 b7 e4 a1 b9 d1 b4 h5, lm μ0 b4 ∧ ST false (keys b8) w W b4 ((I, Ob #[a, c, u, g, e4, (.int .i64 d1)] 189) :: (b7 ++ (j ++ (y ++ (t ++ (b9 ++ h5)))))) ∧ E 0 = g5 ∧ ni (fun (x : kC) => (.agg (kQ x).toArray)) (nf Value.string (fun (x : Bool) => (Value.bool x))) a e3 b7 ∧ rp 111 lV 3 e4 a1 b9 ∧ oy Q N H m e3 a1 d1 = some r) lB ⟨e8, K, G, d4, D, a0, μ0, _, (lm.refl _), (d.kG St), rfl, h4, g4, hm⟩ ?_)))
 rintro m E W ⟨e3, b7, e4, a1, b9, d1, b4, h5, i0, d, F, g9, c5, M⟩
 cases m with
 | zero => rw [oy] at M; cases M
 | succ n0 =>
  refine kY (sg (Wh F (Wn (Wf BA (VB d Mh rfl rfl isAgg187 (V (PE cU rfl c5) (Wi rfl (ln (CI M rfl (fun i7 M => ?_) (fun i7 M => ?_))))))))))
  ·refine kn (bg (Wh F (Wn (Wf BA (VB d Mh rfl rfl isAgg187 (bS M fun B h2 M => VQ (oF (enc := lV) (i := 0) (x0 := B) cU dR rfl rfl (c5.Eh qU) (lN h2) (lM h2)) (fun q0 j7 => V (kI rfl (lz (oC.hp _) (j7.mono (nl (fun b o p => d.has.2 b o (Mt (Ma (Ma (Ma (Ma (Ml p))))))))) ji dR)) (VE (lG d fO (fun o9 a5 d => VO (lf (.agg (lV B).toArray) ((lV B).toArray) d rfl rfl dR (Ae B) nb rfl (fun p0 d => lH ?_))))))))))))
   let j2 := ((mG lu N B.kC).getD [])
   let j1 : Value := (.pointer (some ⟨a5, 0, none⟩))
   let i6 := ((lV B).toArray : Array Value)
   let i5 := ((mG mu H B.kC.kJ).getD [])
   refine kT (sg (Wh F (Wh F (Wn (Wf BA (VB d (Mt Mh) rfl rfl isAgg187 (bS M fun _ g8 M => VQ (MI (i := 1) cU dR rfl rfl qU c5 (vy g8) (vq g8)) (fun q3 h1 => Wn (Wf BA ?_)))))))))
   obtain ⟨f7, g0, rfl⟩ := h1.form
   let g6 : Value := (.slice f7 (a1.drop (Int.toNat 1)).length g0)
   replace d := d.perm (Nb (Pb Pz) Nz)
   refine VO (lf g6 (#[a, c, u, g, g6, (.int .i64 d1)]) d rfl rfl sizeOf187 oc nb rfl (fun p1 d => ln (kY (kY ?_))))
   replace d := d.drew
   have l := d.has.kG (Kb (Kb (Dr (Dr (Kr Sn)))))
   refine mj l lQ (X 0 rfl l (kR F) (X 1 rfl l (ny rfl) (X 2 rfl l (kP LF rfl) (XH 3 rfl l (fun _ n => kI rfl (lh n Mh rfl isAgg185)) (X 4 rfl l (kP yf rfl) (XH 5 rfl l (fun _ n => kI rfl (kM n (Mt Mh) (kQ B.kC) rfl bG aR)) ?_))))))
   obtain ⟨l7, c3⟩ := g7
   obtain ⟨o7, f0, k2⟩ := nV.rowAt lx.1 c3 B.kC
   refine XH 6 rfl l (fun _ n => qc (k := B.kC) (z := (.slice none 0 0)) Bd underlying185 ky rfl rfl c3 (fun b o p => n.2 b o (Mt (Mt (Ml p))))) (X 7 rfl l (mi aT rfl (f0.Eh mE)) (X 8 rfl l (kR rfl) (ms kr (kT (CJ M (fun d0 E W => ∃ d6 e5 d7 b5 h6, lm b4 b5 ∧ ST false (keys b8) w W b5 ((I, Ob #[a, c, u, g, e5, (.int .i64 d0.2.2)] 189) :: ((a5, Obj.cells i6 111 (0, 0)) :: (d6 ++ (j ++ (y ++ (t ++ (d7 ++ h6))))))) ∧ E 0 = g5 ∧ E 2 = j1 ∧ ni (fun (x : kC) => (.agg (kQ x).toArray)) (nf Value.string (fun (x : Bool) => (Value.bool x))) a d0.1 d6 ∧ rp 111 lV 3 e5 d0.2.1 d7) (fun d0 j6 => ?_) ?_)))))
   ·refine mf (fun i E W => ∃ c7 a3 P c8 a4 d2 d3 f9, (E 35 = .int .i64 (i : Nat) ∧ E 34 = .int .i64 (j2.length : Nat)) ∧ lm b4 d3 ∧ ST false (keys b8) w W d3 ((I, Ob #[a, c, u, g, P, (.int .i64 d2)] 189) :: ((a5, Obj.cells i6 111 (0, 0)) :: (a3 ++ (j ++ (y ++ (t ++ (a4 ++ f9))))))) ∧ E 0 = g5 ∧ E 2 = j1 ∧ E 33 = (sw lu l7 B.kC (.slice none 0 0)) ∧ ni (fun (x : kC) => (.agg (kQ x).toArray)) (nf Value.string (fun (x : Bool) => (Value.bool x))) a c7 a3 ∧ rp 111 lV 3 P c8 a4 ∧ pT Q N H B (j2.drop i) c7 c8 d2 = some d0) j2.length (f0.Eh mE).len ⟨e3, b7, g6, (a1.drop (Int.toNat 1)), b9, d1, b4, _, ⟨rfl, rfl⟩, (lm.refl _), (d.kG St), F, rfl, rfl, g9, h1, j6⟩ dc dc dc (fun _ _ _ h => by obtain ⟨_, _, _, _, _, _, _, _, s, _⟩ := h; exact s) ?_ ?_
    ·rintro m5 E W j0 ⟨c7, a3, P, c8, a4, d2, d3, f9, ⟨q, eN⟩, d5, d, e1, e2, g1, f3, f4, T⟩
     obtain ⟨b3, o3, l1, l0, l2⟩ := lX j0
     rw [l1] at T
     refine bg (VQ (oF (enc := kK) (i := (m5 : Int)) (x0 := b3) aT aO g1 q (f0.Eh mE) (aH _) l0) (fun q2 j9 => V (kI rfl (lz (oC.hp _) (j9.mono (nl (fun b o p => d.has.2 b o (Mt (Mt (Ma (Ma (Ml (k2 b o p))))))))) bW aO)) (VE (lG d cW (fun p5 p9 d => VO (lf (.agg (kK b3).toArray) ((kK b3).toArray) d rfl rfl aO (oP b3) nb rfl (fun p6 d => ln (kV (Wh e1 (VA d Mh (kK b3) bW aO (V (kI e2 (kM d.has (Mt (Mt Mh)) (lV B) rfl ji dR)) (bS T fun g3 k1 T => ?_))))))))))))
     refine VE (eM d (Cb (Pb Pz) (Cr (Qb (Qb Qz)) (Cr (Qb (Qb Qz)) (Cr (Qb (Qb Qz)) (Cr (Qb (Qb Qz)) (Cr (Qb (Qb Qz)) Cn)))))) call246 (fun hh _ => (Ab I a c7 a3 c Q j u N y g H t P c8 a4 d2 b3 B _ _ hh f3 c1 c3.e c2 f4 k1)) ?_)
     rintro _ q5 n6 o6 d i4 ab A ⟨m1, n4, m2, f6, rfl, l5, l6⟩
     obtain rfl := f6.symm
     replace d := d.perm (Tb (Tr (Tr (Tr (Tr (Tr Tn))))))
     refine lH (lK (kT ?_))
     replace d := d.kG (Kb (Kr (Kr (Kr (Kr (Kr (Db St)))))))
     exact ⟨q, g3.1, m1, n4, g3.2.1, m2, g3.2.2, n6, _, ⟨rfl, eN⟩, (d5.trans i4), (d.kG (Kb (Sb (Pr (Pr (Pr (Pr (Pr Pz))))) St))), e1, e2, g1, l5, l6, (by rw [l2]; exact T)⟩
    rintro E W ⟨c7, a3, P, c8, a4, d2, d3, f9, ⟨q, eN⟩, d5, d, e1, e2, g1, f3, f4, T⟩
    rw [aI] at T
    refine kT ?_
    obtain rfl := sj T
    exact ⟨a3, P, a4, d3, _, d5, (d.kG St), e1, e2, f3, f4⟩
   rintro ⟨m6, m7, n1⟩ E W ⟨d6, e5, d7, b5, h6, i1, d, h8, h9, k3, k4⟩ j3
   refine kY ?_
   replace d := d.drew
   have l := d.has.kG (Kb (Kb (Dr (Dr (Dr (Kr Sn))))))
   refine mj l lQ (X 0 rfl l (kR h8) (X 1 rfl l (ny rfl) (X 2 rfl l (kP HQ rfl) (XH 3 rfl l (fun _ n => kI rfl (lh n Mh rfl isAgg186)) (X 4 rfl l (kP yf h9) (X 5 rfl l (kP uI rfl) (XH 6 rfl l (fun _ n => kI rfl (lh n (Mt Mh) rfl bV)) ?_)))))))
   obtain ⟨l8, e9⟩ := c2
   obtain ⟨o8, f1, k5⟩ := nV.rowAt nm.1 e9 B.kC.kJ
   refine XH 7 rfl l (fun _ n => qc (k := B.kC.kJ) (z := (.slice none 0 0)) Hj underlying186 ky rfl rfl e9 (fun b o p => n.2 b o (Mt (Mt (Ml p))))) (X 8 rfl l (mi aT rfl (f1.Eh mE)) (X 9 rfl l (kR rfl) (ms kr (kT (qt (CJ j3 (fun c9 E W => ∃ d8 e6 d9 e7 h7, lm b5 e7 ∧ ST false (keys b8) w W e7 ((I, Ob #[a, c, u, g, e6, (.int .i64 c9.2.2)] 189) :: (d8 ++ (j ++ (y ++ (t ++ (d9 ++ h7)))))) ∧ E 0 = g5 ∧ ni (fun (x : kC) => (.agg (kQ x).toArray)) (nf Value.string (fun (x : Bool) => (Value.bool x))) a c9.1 d8 ∧ rp 111 lV 3 e6 c9.2.1 d9) (fun c9 j5 => ?_) ?_))))))
   ·refine mf (fun i E W => ∃ a9 Y a2 O Z R b6 f8, (E 53 = .int .i64 (i : Nat) ∧ E 52 = .int .i64 (i5.length : Nat)) ∧ lm b5 b6 ∧ ST false (keys b8) w W b6 ((I, Ob #[a, c, u, g, a2, (.int .i64 R)] 189) :: ((a5, Obj.cells i6 111 (0, 0)) :: (Y ++ (j ++ (y ++ (t ++ (Z ++ f8))))))) ∧ E 0 = g5 ∧ E 2 = j1 ∧ E 51 = (sw mu l8 B.kC.kJ (.slice none 0 0)) ∧ ni (fun (x : kC) => (.agg (kQ x).toArray)) (nf Value.string (fun (x : Bool) => (Value.bool x))) a a9 Y ∧ rp 111 lV 3 a2 O Z ∧ oZ B Q N H (i5.drop i) a9 O R = some c9) i5.length (f1.Eh mE).len ⟨m6, d6, e5, m7, d7, n1, b5, _, ⟨rfl, rfl⟩, (lm.refl _), (d.kG St), h8, h9, rfl, k3, k4, j5⟩ dc dc dc (fun _ _ _ h => by obtain ⟨_, _, _, _, _, _, _, _, s, _⟩ := h; exact s) ?_ ?_
    ·rintro m4 E W i9 ⟨a9, Y, a2, O, Z, R, b6, f8, ⟨q, eN⟩, a8, d, L, c0, e0, f2, c6, J⟩
     obtain ⟨U, o2, k9, k8, h3⟩ := lX i9
     rw [k9] at J
     refine bg (VQ (oF (enc := kK) (i := (m4 : Int)) (x0 := U) aT aO e0 q (f1.Eh mE) (aH _) k8) (fun q1 j8 => V (kI rfl (lz (oC.hp _) (j8.mono (nl (fun b o p => d.has.2 b o (Mt (Mt (Ma (Ma (Ma (Ml (k5 b o p)))))))))) bW aO)) (VE (lG d cW (fun p2 p8 d => VO (lf (.agg (kK U).toArray) ((kK U).toArray) d rfl rfl aO (oP U) nb rfl (fun p3 d => ln (kY ?_))))))))
     replace d := d.drew
     have l := d.has.kG (Kb (Kb (Kb (Kr Sn))))
     refine mj l lQ (X 0 rfl l (kR L) (X 1 rfl l (ny rfl) (X 2 rfl l (kP xU rfl) (XH 3 rfl l (fun _ n => kI rfl (lh n (Mt Mh) rfl jw)) (X 4 rfl l (kP oN rfl) (XH 5 rfl l (fun _ n => kI rfl (kM n Mh (kQ U.B) rfl bG aR)) ?_))))))
     obtain ⟨o0, c4⟩ := f2
     refine XH 6 rfl l (fun _ n => qc (k := U.B) (z := (.map none)) Bd fR gO rfl rfl c4 (fun b o p => n.2 b o (Mt (Mt (Mt (Ml p)))))) (X 7 rfl l (kP yf c0) (X 8 rfl l (kP qg rfl) (XH 9 rfl l (fun _ n => kI rfl (lh n (Mt (Mt Mh)) rfl bV)) (XH 10 rfl l (fun _ n => AK (k := B.kC.kD) (z := false) (vf := (fun (x : Bool) => (Value.bool x))) Hj gU kj rfl rfl (nV.DX (μ := hp _) lx.1 c4 U.B (fun b o p => n.2 b o (Mt (Mt (Mt (Ml p))))))) (ms kr (kT (CI J rfl (fun i8 J => ?_) (fun i8 J => ?_))))))))
     ·refine kV (Wh L (Wf rE (VA d Mh (kQ U.Head) bG aR (V (kP wW c0) (VB d (Mt (Mt Mh)) rfl rfl bV (bS J fun g2 k0 J => ?_))))))
      refine VE (eM d (Cb (Pb Pz) (Cr (Qb (Qb Qz)) (Cr (Qb (Qb Qz)) (Cr (Qb (Qb Qz)) (Cr (Qb (Qb Qz)) (Cr (Qb (Qb Qz)) Cn)))))) call244 (fun hh _ => mY.mP (rY I a a9 Y c Q j u N y g H t a2 O Z R U.Head B.lZ _ _ hh c4.e c1 c3.e e9.e c6 k0)) ?_)
      rintro _ q4 n5 o5 d i3 aa A ⟨l9, n3, m0, f5, rfl, l3, l4⟩
      obtain rfl := f5.symm
      replace d := d.perm (Tb (Tr (Tr (Tr (Tr (Tr Tn))))))
      refine lH (lK (kT ?_))
      replace d := d.kG (Kb (Kr (Kr (Kr (Kr (Kr (Db St)))))))
      exact ⟨q, g2.1, l9, n3, g2.2.1, m0, g2.2.2, n5, _, ⟨rfl, eN⟩, (a8.trans i3), (d.kG (Kb (Sb (Pr (Pr (Pr (Pr (Pr Pz))))) St))), L, c0, e0, l3, l4, (by rw [h3]; exact J)⟩
     refine mr (lK (kT ?_))
     replace d := d.kG (Db St)
     exact ⟨q, a9, Y, a2, O, Z, R, b6, _, ⟨rfl, eN⟩, a8, (d.kG St), L, c0, e0, c4.e, c6, (by rw [h3]; exact J)⟩
    rintro E W ⟨a9, Y, a2, O, Z, R, b6, f8, ⟨q, eN⟩, a8, d, L, c0, e0, f2, c6, J⟩
    rw [aI] at J
    refine kT ?_
    obtain rfl := sj J
    exact ⟨Y, a2, Z, b6, _, a8, (d.kG (Kb (Db St))), L, f2, c6⟩
   rintro ⟨m8, m9, n2⟩ E W ⟨d8, e6, d9, e7, h7, i2, d, m3, k6, k7⟩ j4
   exact lK (kT ⟨n0, bB _, m8, d8, e6, m9, d9, n2, e7, _, ((i0.trans i1).trans i2), (d.kG St), m3, k6, k7, j4⟩)
  refine nM (nB (nB (qe (kT (rH ?_)))))
  obtain rfl := sj M
  exact pU rfl ⟨_, _, rfl, (d.mW (Kb (Kr (Kr (Kr (Kr (Kr Sn))))))), b7, e4, b9, rfl, rfl, g9, c5⟩
theorem Et (H : Nat) (g : Value) (c2 : List (kC × (List (ByteArray × Bool)))) (G : LO) (u : Value) (a7 : List kE) (k : LO) (c : Value) (b7 : List (kC × (List kE))) (z : LO) (a : Value) (a8 : List (ByteArray × (List kE))) (t : LO) (B : Value) (b6 : List kZ) (y : LO) (K : Int) (d1 : Value) (p : List kE) (r : (Int × (List (kC × (List (ByteArray × Bool)))) × (List kE) × (List (kC × (List kE))) × (List (ByteArray × (List kE))) × (List kZ) × Int)) (w : World) {μ0 : lO} (h0 : ox μ0 ((H, Ob #[g, u, c, a, B, (.int .i64 K)] 189) :: (G ++ (k ++ (z ++ (t ++ (y ++ [])))))) w) (d6 : ni (fun (x : kC) => (.agg (kQ x).toArray)) (nf Value.string (fun (x : Bool) => (Value.bool x))) g c2 G) (c6 : lA 52 kK 9 u a7 k) (d3 : ni (fun (x : kC) => (.agg (kQ x).toArray)) (lA 52 kK 9) c b7 z) (c7 : ni Value.string (lA 52 kK 9) a a8 t) (d2 : rp 111 lV 3 B b6 y) (d7 : Sl (Pl kK) 9 μ0 d1 p) (hm : uW c2 a7 b7 a8 b6 K p = some r) :
  mY false Tryz.prog 125 [(.pointer (some ⟨H, 0, none⟩)), d1] w ((H, Ob #[g, u, c, a, B, (.int .i64 K)] 189) :: (G ++ (k ++ (z ++ (t ++ (y ++ [])))))) (fun v L1 W' => ∃ S1 y3 S4 S6 S8 i1 i0, v = (.int .i64 (r.1)) ∧ L1 = ((H, Ob #[g, y3, c, a, i1, (.int .i64 (r.2.2.2.2.2.2))] 189) :: (S1 ++ (S4 ++ (S6 ++ (S8 ++ (i0 ++ [])))))) ∧ ni (fun (x : kC) => (.agg (kQ x).toArray)) (nf Value.string (fun (x : Bool) => (Value.bool x))) g r.2.1 S1 ∧ lA 52 kK 9 y3 r.2.2.1 S4 ∧ ni (fun (x : kC) => (.agg (kQ x).toArray)) (lA 52 kK 9) c r.2.2.2.1 S6 ∧ ni Value.string (lA 52 kK 9) a r.2.2.2.2.1 S8 ∧ rp 111 lV 3 i1 r.2.2.2.2.2.1 i0) := by
 let b8 := ((H, Ob #[g, u, c, a, B, (.int .i64 K)] 189) :: (G ++ (k ++ (z ++ (t ++ (y ++ []))))))
 refine BL h0 46 func125 rfl (fun d => sg (Wa (lS (Wm (V (ye underlying132 rfl rfl) (ln (rN rfl (mr ?_))))))))
 refine kT (sg (Wm (Wn (Wf Fx (VB d Mh rfl rfl cD (Wa (lS (Wm (V (mi aT rfl d7) ?_)))))))))
 refine Wm (ln (mf (fun i E W => ∃ a3 N M a4 Q a9 T n U a0 a5 Y a2 c1 d5, (E 16 = .int .i64 (i : Nat) ∧ E 15 = .int .i64 (p.length : Nat)) ∧ lm μ0 c1 ∧ ST false (keys b8) w W c1 ((H, Ob #[g, M, c, a, a0, (.int .i64 a2)] 189) :: (N ++ (Q ++ (T ++ (U ++ (Y ++ d5)))))) ∧ E 0 = (.pointer (some ⟨H, 0, none⟩)) ∧ E 5 = (.int .i64 K) ∧ E 14 = d1 ∧ ni (fun (x : kC) => (.agg (kQ x).toArray)) (nf Value.string (fun (x : Bool) => (Value.bool x))) g a3 N ∧ lA 52 kK 9 M a4 Q ∧ ni (fun (x : kC) => (.agg (kQ x).toArray)) (lA 52 kK 9) c a9 T ∧ ni Value.string (lA 52 kK 9) a n U ∧ rp 111 lV 3 a0 a5 Y ∧ oX K (p.drop i) a3 a4 a9 n a5 a2 = some r) p.length d7.len ⟨c2, G, u, a7, k, b7, z, a8, t, B, b6, y, K, μ0, _, ⟨rfl, rfl⟩, (lm.refl _), (d.kG St), rfl, rfl, rfl, d6, c6, d3, c7, d2, hm⟩ dc dc dc (fun _ _ _ h => by obtain ⟨_, _, _, _, _, _, _, _, _, _, _, _, _, _, _, aa, _⟩ := h; exact aa) ?_ ?_))
 ·rintro f6 E W g3 ⟨a3, N, M, a4, Q, a9, T, n, U, a0, a5, Y, a2, c1, d5, ⟨eI, eN⟩, b1, d, s, c3, c4, F, q, L, O, P, D⟩
  obtain ⟨I, j8, h4, h3, d9⟩ := lX g3
  rw [h4] at D
  refine bg (VQ (oF (enc := kK) (i := (f6 : Int)) (x0 := I) aT aO c4 eI (d7.mono (Pl.mono _) b1) (aH _) h3) (fun l1 g4 => V (kI rfl (lz d.has g4 bW aO)) (VE (lG d cW (fun k3 e8 d => VO (lf (.agg (kK I).toArray) ((kK I).toArray) d rfl rfl aO (oP I) nb rfl (fun k4 d => ln (kY ?_))))))))
  replace d := d.drew
  have l := d.has.kG (Kb (Kb Sn))
  refine mj l lQ (XH 0 rfl l (fun _ R => kI rfl (kM R Mh (kK I) rfl bW aO)) (bS D fun l2 g7 D => XE 1 rfl (Eg d call113 (lD.mP (zU I _ _  g7)) (fun k5 d => ?_))))
  have l := d.has.kG (Kb (Kb Sn))
  refine ⟨l, (X 2 rfl l (kR rfl) (PJ D (fun f7 E W => ∃ e4, ST false (keys b8) w W c1 ((e8, Ol (kK I) 52) :: ((H, Ob #[g, M, c, a, a0, (.int .i64 a2)] 189) :: (N ++ (Q ++ (T ++ (U ++ (Y ++ e4))))))) ∧ E 0 = (.pointer (some ⟨H, 0, none⟩)) ∧ E 5 = (.int .i64 K) ∧ E 7 = (.pointer (some ⟨e8, 0, none⟩)) ∧ E 14 = d1 ∧ E 15 = (.int .i64 (p.length : Int)) ∧ E 16 = (.int .i64 (f6 : Int)) ∧ E 30 = (.bool f7)) (bm 11 2047) 0 ?_ (fun f7 Z d4 => ?_)))⟩
  ·rintro l7 E W ⟨e4, d, c5, e9, f0, f1, f2, f3, i6⟩ J
   refine ms kr (kT (CI J i6 (fun g2 J => ?_) (fun g2 J => ?_)))
   ·refine sg (Wh c5 (V (kI f0 (kM d.has Mh (kK I) rfl bW aO)) (bS J fun A g8 J => ?_)))
    refine VE (eM d (Cb (Pb Pz) (Cr (Qb Qz) (Cr (Qb Qz) (Cr (Qb Qz) (Cr (Qb Qz) (Cr (Qb Qz) Cn)))))) call187 (fun hh _ => mY.mP (D7 H g a3 N M a4 Q c a9 T a n U a0 a5 Y a2 I _ _ hh F q L O P g8)) ?_)
    rintro _ l4 l8 k0 d f4 ab m ⟨f8, e5, e6, e7, c8, rfl, e0, e1, e2⟩
    obtain rfl := c8.symm
    replace d := d.perm (Tb (Tr (Tr (Tr (Tr (Tr Tn))))))
    refine ln (kV (Wh c5 (V (kI f0 (kM d.has (Mt (Ma (Ma (Ma (Ma (Ma Mh)))))) (kK I) rfl bW aO)) (bS J fun d8 g9 J => ?_))))
    refine VE (eM d (Cb Pz (Cr Qz (Cr Qz (Cr Qz (Cr Qz (Cr Qz Cn)))))) call188 (fun hh _ => (Du H g a3 N f8 A.1 e5 c A.2.1 e6 a A.2.2 e7 a0 a5 Y a2 I _ _ hh F e0 e1 e2 P g9)) ?_)
    rintro _ l5 j0 k1 d f5 ad m ⟨i2, i8, i3, c9, rfl, h5, h6⟩
    obtain rfl := c9.symm
    replace d := d.perm (Tb (Tr (Tr (Tr (Tr (Tr Tn))))))
    refine lH (lK (kT ?_))
    replace d := d.kG (Kb (Kr (Kr (Kr (Kr (Kr (Db St)))))))
    exact ⟨f3, d8.1, i2, f8, A.1, e5, A.2.1, e6, A.2.2, e7, i8, d8.2.1, i3, d8.2.2, j0, _, ⟨rfl, f2⟩, ((b1.trans f4).trans f5), (d.kG St), c5, e9, f1, h5, e0, e1, e2, h6, (by rw [d9]; exact J)⟩
   refine mr (lK (kT ?_))
   replace d := d.kG (Db St)
   exact ⟨f3, a3, N, M, a4, Q, a9, T, n, U, a0, a5, Y, a2, c1, _, ⟨rfl, f2⟩, b1, (d.kG St), c5, e9, f1, F, q, L, O, P, (by rw [d9]; exact J)⟩
  refine bC Z (fun j Z => ?_) (fun j Z => ?_)
  ·refine Xg 3 rfl rfl (cB j) l (kR s) (Xg 4 rfl rfl (cB j) l (ny rfl) (Xg 5 rfl rfl (cB j) l (kP Is rfl) (rM 6 rfl rfl (cB j) l (fun _ R => kI rfl (lh R (Mt Mh) rfl kB)) (rM 7 rfl rfl (cB j) l (fun _ R => kI rfl (kM R Mh (kK I) rfl bW aO)) (bS Z fun l3 h1 Z => AV 8 rfl rfl (cB j) (Eg d call60 (lD.mP (G5 M a4 I _ _ (q.sl mE (fun b o hq => d.at_ (Mt (Mt (Ma (Ml hq)))))) h1)) (fun k8 d => ?_)))))))
   have l := d.has.kG (Kb (Kb Sn))
   refine ⟨l, (Xg 9 rfl rfl (cB j) l (ot rfl) (X 10 rfl l (li (cB j) rfl) ?_))⟩
   obtain rfl := sj Z
   refine nu kr (d4 _ _ ⟨_, (d.kG St), s, c3, rfl, c4, eN, eI, rfl⟩)
  refine Xn 3 rfl rfl (cB j) l (Xn 4 rfl rfl (cB j) l (Xn 5 rfl rfl (cB j) l (Xn 6 rfl rfl (cB j) l (Xn 7 rfl rfl (cB j) l (Xn 8 rfl rfl (cB j) l (Xn 9 rfl rfl (cB j) l (X 10 rfl l (lj (cB j) rfl) ?_)))))))
  obtain rfl := sj Z
  refine nu kr (d4 _ _ ⟨_, (d.kG St), s, c3, rfl, c4, eN, eI, rfl⟩)
 rintro E W ⟨a3, N, M, a4, Q, a9, T, n, U, a0, a5, Y, a2, c1, d5, ⟨eI, eN⟩, b1, d, s, c3, c4, F, q, L, O, P, D⟩
 rw [aI] at D
 refine kT (sg (Wh s (bS D fun i7 h2 D => ?_)))
 refine VE (eM d (Cb Pz (Cr Qz (Cr Qz (Cr Qz (Cr Qz (Cr Qz Cn)))))) call189 (fun hh _ => (CU H g a3 N M a4 Q c a9 T a n U a0 a5 Y a2 _ _ hh F q L O P h2)) ?_)
 rintro _ l6 l9 k2 d j6 ae m ⟨i4, i9, i5, d0, rfl, h7, h8⟩
 obtain rfl := d0.symm
 replace d := d.perm (Tb (Tr (Tr (Tr (Tr (Tr Tn))))))
 refine lr (Wh s (Wn (Wf Fx (VB d Mh rfl rfl cD (Wh c3 (Wi rfl (Wa (lt ?_))))))))
 obtain rfl := sj D
 exact mI (v := (.int .i64 (IntKind.i64.wrap (i7.2.2 - K)))) rfl rfl ⟨_, _, rfl, (d.mW (Kb (Kr (Kr (Kr (Kr (Kr Sn))))))), i4, M, Q, T, U, i9, i5, rfl, rfl, h7, q, L, O, h8⟩
theorem HC (j : Value) (H : List kE) (r : ((List (kC × (List (ByteArray × Bool)))) × (List kE) × (List (kC × (List kE))) × (List (ByteArray × (List kE))) × (List kZ) × Int)) (w : World) (J : Sl (Pl kK) 9 (hp w) j H) (hm : xQ H = some r) :
  mY false Tryz.prog 62 [j] w [] (fun v L1 W' => ∃ l n S3 p S6 q S9 D u G y, v = (.pointer (some ⟨l, 0, none⟩)) ∧ L1 = ((l, Ob #[n, p, q, D, G, (.int .i64 (r.2.2.2.2.2))] 189) :: (S3 ++ (S6 ++ (S9 ++ (u ++ (y ++ [])))))) ∧ ni (fun (x : kC) => (.agg (kQ x).toArray)) (nf Value.string (fun (x : Bool) => (Value.bool x))) n r.1 S3 ∧ lA 52 kK 9 p r.2.1 S6 ∧ ni (fun (x : kC) => (.agg (kQ x).toArray)) (lA 52 kK 9) q r.2.2.1 S9 ∧ ni Value.string (lA 52 kK 9) D r.2.2.2.1 u ∧ rp 111 lV 3 G r.2.2.2.2.1 y) := by
 refine xg 13 func62 rfl (fun b => sg (Wa (lr (VE (DH (P := Tryz.prog) (fun (x : kC) => (.agg (kQ x).toArray)) (nf Value.string (fun (x : Bool) => (Value.bool x))) b (fun W1 v4 R2 b z => VE (DH (P := Tryz.prog) (fun (x : kC) => (.agg (kQ x).toArray)) (lA 52 kK 9) b (fun W5 v8 R6 b B => VE (DH (P := Tryz.prog) Value.string (lA 52 kK 9) b (fun W9 O Y b t => ?_))))))))))
 obtain ⟨a, rfl⟩ := z.form
 obtain ⟨c, rfl⟩ := B.form
 obtain ⟨g, rfl⟩ := t.form
 refine V (mH (v := (.agg #[(.map (some a)), (.slice none 0 0), (.map (some c)), (.map (some g)), (.slice none 0 0), (.int .i64 0)])) (AZ rfl rfl rfl) (ml zeroValue189 fQ (Tf _ fQ) kr)) (VE (lJ b rfl (fun c1 k b => Wa (lr (Wm (Wm (bS hm fun L K hm => ?_)))))))
 refine VE (eM b (Cb Pz (Cr (Qr (Qr Qz)) (C0 (Cr (Qr Qz) (Cr Qz (C0 Cn)))))) call125 (fun E h => (Et k (.map (some a)) ([]) R2 (.slice none 0 0) ([]) [] (.map (some c)) ([]) R6 (.map (some g)) ([]) Y (.slice none 0 0) ([]) [] 0 j H _ _ E z (lA.nil _ _ _) B t (rp.nil _ _ _) (J.mono (Pl.mono _) h) K)) ?_)
 rintro _ R W I b F m d ⟨Z, s, a2, a3, a4, A, a5, i, rfl, M, N, Q, T, U⟩
 obtain rfl := i.symm
 replace b := b.perm (Tb (Tr (Tr (Tr (Tr (Tr Tn))))))
 refine lr (Wm (Wa (lt ?_)))
 obtain rfl := sj hm
 exact mI (v := (.pointer (some ⟨k, 0, none⟩))) rfl rfl ⟨_, _, rfl, (b.LD (Kb (Kr (Kr (Kr (Kr (Kr Sn))))))), k, (.map (some a)), Z, s, a2, (.map (some c)), a3, (.map (some g)), a4, A, a5, rfl, rfl, M, N, Q, T, U⟩
theorem Km (c : Value) (D : List kE) (G : ByteArray) (r : ((List (kC × (List (ByteArray × Bool)))) × (List kE) × (List (kC × (List kE))) × (List (ByteArray × (List kE))) × (List kZ) × Int × ByteArray)) (w : World) (I : Sl (Pl kK) 9 (hp w) c D) (hm : vR D G = some r) :
  mY false Tryz.prog 51 [c, (.string G)] w [] (fun v L1 W' => ∃ g h l S4 m S7 n j z k B t u, v = (.func (.func 110) #[] #[(.pointer (some ⟨g, 0, none⟩)), (.pointer (some ⟨u, 0, none⟩))]) ∧ L1 = ((g, Ob #[(.pointer (some ⟨h, 0, none⟩))] 132) :: ((h, Ob #[l, m, n, z, B, (.int .i64 (r.2.2.2.2.2.1))] 189) :: ((u, Ob #[(.string (r.2.2.2.2.2.2))] 9) :: (S4 ++ (S7 ++ (j ++ (k ++ (t ++ [])))))))) ∧ ni (fun (x : kC) => (.agg (kQ x).toArray)) (nf Value.string (fun (x : Bool) => (Value.bool x))) l r.1 S4 ∧ lA 52 kK 9 m r.2.1 S7 ∧ ni (fun (x : kC) => (.agg (kQ x).toArray)) (lA 52 kK 9) n r.2.2.1 j ∧ ni Value.string (lA 52 kK 9) z r.2.2.2.1 k ∧ rp 111 lV 3 B r.2.2.2.2.1 t) := by
 refine xg 9 func51 rfl (fun b => sg (VE (lJ b rfl (fun W2 g b => Wa (lr (Wm (bS hm fun R p hm => ?_)))))))
 refine VE (He b (aX _) call62 (fun _ _ _ _ => (HC c D _ _ (I.mono (Pl.mono _) b.kN) p)) (fun W5 v9 L P b O F d H => ?_) (L0 := []))
 obtain ⟨i, q, T, s, U, a9, Y, A, Z, E, a2, a, rfl, J, K, M, N, Q⟩ := H
 replace a := a.symm; subst a
 replace b := b.perm (Tb (Tr (Tr (Tr (Tr (Tr Tn))))))
 refine VE (lG b zeroValue132 (fun c1 y b => VO (lf (.pointer (some ⟨i, 0, none⟩)) (#[(.pointer (some ⟨i, 0, none⟩))]) b rfl rfl sizeOf132 oc nb rfl (fun c2 b => lr (V (wU (by exact yg rfl rfl) rfl) (Wa (lt ?_)))))))
 obtain rfl := sj hm
 exact mI (v := (.func (.func 110) #[] #[(.pointer (some ⟨y, 0, none⟩)), (.pointer (some ⟨g, 0, none⟩))])) rfl rfl ⟨_, _, rfl, (b.LD (Kb (Kb (Sb (Pr (Pr (Pr (Pr (Pr Pz))))) (Kr (Kr (Kr (Kr (Kr Sn))))))))), y, i, q, T, s, U, a9, Y, A, Z, E, a2, g, rfl, rfl, J, K, M, N, Q⟩
theorem A8 (g : Value) (t : List ll) (j : Value) (z : ll → Option Bool) (r : Int) (w : World) (c : Sl kW 15 (hp w) g t) (B : yy Tryz.prog j (hp w) (B7 kW) (fun (r : Bool) => (.bool r)) z) (hm : tZ t z = some r) :
  lD false Tryz.prog 127 [g, j] w (.int .i64 r) := by
 refine cG 19 func127 rfl (fun b => sg (Wa (lS (Wm (V (mi bL rfl c) (Wm (ln (mf (fun i E W => ∃ k, (E 8 = .int .i64 (i : Nat) ∧ E 7 = .int .i64 (t.length : Nat)) ∧ ST false lT w W (hp w) k ∧ E 0 = g ∧ E 1 = j ∧ ov z (t.drop i) i = some r) t.length c.len ⟨_, ⟨rfl, rfl⟩, (b.kG St), rfl, rfl, hm⟩ dc dc dc (fun _ _ _ h => by obtain ⟨_, l, _⟩ := h; exact l) ?_ ?_))))))))
 ·rintro T E W G ⟨k, ⟨d, m⟩, b, u, x, a⟩
  obtain ⟨y, Z, N, M, Q⟩ := lX G
  rw [N] at a
  refine bg (Wh d (Wa (lr (Wh x (Wh u (Wm (VQ (mT (i := (T : Int)) (x0 := y) kW.out bL cR rfl rfl c (aH _) M) (fun a2 ⟨_, ⟨U, Y, rfl, J, K⟩, H⟩ => V (kI rfl (lz b.has H iU cR)) (bS a fun a3 I a => ?_)))))))))
  refine VE (zH y b B (lm.refl _) (B7.mk kX (kW.mk ⟨U, Y, rfl, J, K⟩) b.kN) rfl (wy rfl) I (fun n b => ln (CI a rfl (fun D a => ?_) (fun D a => ?_))))
  ·refine sg (Wm (Wa (lt (nD (lL (nD (lL ?_)))))))
   obtain rfl := sj a
   exact rP b
  exact mr (lK (kT ⟨d, _, ⟨rfl, m⟩, (b.kG St), u, x, (by rw [Q]; exact a)⟩))
 rintro E W ⟨k, ⟨d, m⟩, b, u, x, a⟩
 rw [aI] at a
 exact kT (sg (Wa (lt (rQ a b))))
theorem GW (a : ll) (g c : Value) (k : Nat) (u : kE) (r : Bool) (w : World) (j : Sl (Pl (mK .u8)) 1 (hp w) g a.Signed.Tag) (i : Sl kF 5 (hp w) c a.kH.Kids) (t : At (hp w) (.pointer (some ⟨k, 0, none⟩)) (kK u)) (hm : xh a u = some r) :
  lD true Tryz.prog 128 [(.agg #[(.int .i64 a.Signed.kE.Kind), (.string a.Signed.kE.Head.kD), (.string a.Signed.kE.Head.kJ), (.string a.Signed.kE.lZ), (.string a.Signed.kE.B.kD), (.string a.Signed.kE.B.kJ), (.string a.Signed.kE.C.kD), (.string a.Signed.kE.C.kJ), (.string a.Signed.kE.mc), g, (.int .i64 a.kH.Op), (.int .i64 a.kH.K), (.string a.kH.kC.kD), (.string a.kH.kC.kJ), c]), (.pointer (some ⟨k, 0, none⟩))] w (.bool r) := by
 refine cG 9 func128 rfl (fun b => sg ?_)
 obtain ⟨x, z, rfl⟩ := j.form
 obtain ⟨y, B, rfl⟩ := i.form
 refine VE (lJ b rfl (fun D G b => Wa (lr (Wf wJ (Wf yw (VA b Mh (kK a.Signed.kE) bW aO (V (kI rfl (lz b.has t bW aO)) (V (uU rfl rfl (ob fJ) (qW (vI _ a.Signed.kE u))) (Wa (ln ?_))))))))))
 exact lC (rQ hm b)
theorem KF (k : lI) (g j : Value) (D : kE) (r : (ll × Bool)) (w : World) {J : lO} (l : ox J [] w) (c : Sl kW 15 J g k.kO) (B : Sl lF 8 J j k.lg) (hm : zy k D = some r) :
  mo false Tryz.prog 69 [(.agg #[(.string k.Name), g, j]), (.agg (kK D).toArray)] w J [] (fun v L1 μ1 => ∃ d h, v = (.tuple #[(.agg #[(.int .i64 ((((r.1).Signed).kE).Kind)), (.string (((((r.1).Signed).kE).Head).kD)), (.string (((((r.1).Signed).kE).Head).kJ)), (.string ((((r.1).Signed).kE).lZ)), (.string (((((r.1).Signed).kE).B).kD)), (.string (((((r.1).Signed).kE).B).kJ)), (.string (((((r.1).Signed).kE).C).kD)), (.string (((((r.1).Signed).kE).C).kJ)), (.string ((((r.1).Signed).kE).mc)), d, (.int .i64 (((r.1).kH).Op)), (.int .i64 (((r.1).kH).K)), (.string ((((r.1).kH).kC).kD)), (.string ((((r.1).kH).kC).kJ)), h]), (.bool (r.2))]) ∧ L1 = [] ∧ Sl (Pl (mK .u8)) 1 μ1 d (((r.1).Signed).Tag) ∧ Sl kF 5 μ1 h (((r.1).kH).Kids)) := by
 refine sF l 19 func69 rfl (fun b => sg ?_)
 obtain ⟨T, U, rfl⟩ := c.form
 obtain ⟨A3, c4, rfl⟩ := B.form
 refine VE (lJ b rfl (fun W6 L b => VE (lJ b rfl (fun W8 K b => VE (lG b eE (fun E P b => Wa (lr (Wf oS (VB b (Mt (Mt Mh)) rfl rfl eX (V (wU (by exact wy rfl) rfl) (bS hm fun Z Q hm => VE (Eg b call127 (A8 (.slice T k.kO.length U) k.kO (.func (.func 128) #[] #[(.pointer (some ⟨K, 0, none⟩))]) (fun (x : ll) => xh x D) _ _ (c.mono kX.mono b.kN) ⟨128, #[], #[(.pointer (some ⟨K, 0, none⟩))], rfl, call128, fun W x vs r n m hm => by obtain ⟨_, rfl, Y⟩ := m; obtain ⟨s, A, rfl, p, q⟩ := Y.out; exact (GW x s A K D r W p q (At.of (n _ _ (b.at_ (Mt Mh))) _ rfl) hm).mP⟩ Q) (fun F b => Wa (lH ?_))))))))))))))
 refine kT ?_
 replace b := b.kG (Kb (Db St))
 refine kY (sg (Wm (Wi rfl (ln (CI hm rfl (fun M hm => ?_) (fun M hm => ?_))))))
 ·refine sg (V (mH (v := (.agg C9.toArray)) ri (ml eE iI (RV _ iI) kr)) (VO (lf (.agg C9.toArray) (C9.toArray) b rfl rfl cR oc nb rfl (fun O b => Wa (ln ?_)))))
  replace b := b.kG (Kb (Db St))
  refine lC (lL ?_)
  obtain rfl := sj hm
  exact qV (v0 := (.agg C9.toArray)) (v1 := (.bool false)) rfl rfl (kM b.has Mh C9 rfl iU cR) rfl ⟨_, _, _, rfl, (b.mW Sn), (lm.refl _), Lo.refl, (ST.lU b (nn.mem Sn)), (.slice none 0 0), (.slice none 0 0), rfl, rfl, (Sl.nil _ _ _), (Sl.nil _ _ _)⟩
 refine kg (Wf oS (VB b (Mt Mh) rfl rfl eX (Wm (bS hm fun a I hm => VQ (mT (i := Z) (x0 := a) kW.out bL cR rfl rfl c (lN I) (lM I)) (fun c1 ⟨_, ⟨c3, c5, rfl, G, H⟩, N⟩ => V (kI rfl (lz b.has N iU cR)) ?_)))))
 obtain ⟨t, y, rfl⟩ := G.form
 obtain ⟨u, z, rfl⟩ := H.form
 let a0 := (C3 a.Signed.kE.Kind a.Signed.kE.Head.kD a.Signed.kE.Head.kJ a.Signed.kE.lZ a.Signed.kE.B.kD a.Signed.kE.B.kJ a.Signed.kE.C.kD a.Signed.kE.C.kJ a.Signed.kE.mc t a.Signed.Tag.length y a.kH.Op a.kH.K a.kH.kC.kD a.kH.kC.kJ u a.kH.Kids.length z)
 refine VO (lf (.agg a0.toArray) (a0.toArray) b rfl rfl cR oc nb rfl (fun R b => Wa (ln ?_)))
 replace b := b.kG (Kb (Db St))
 refine lC ?_
 obtain rfl := sj hm
 exact qV (v0 := (.agg a0.toArray)) (v1 := (.bool true)) rfl rfl (kM b.has Mh a0 rfl iU cR) rfl ⟨_, _, _, rfl, (b.mW Sn), (lm.refl _), Lo.refl, (ST.lU b (nn.mem Sn)), (.slice t a.Signed.Tag.length y), (.slice u a.kH.Kids.length z), rfl, rfl, G, H⟩
theorem EY (c : Value) (u r : List nE) (w : World) {j : lO} (I : ox j [] w) (a : Sl lF 8 j c u) (hm : vu u = some r) :
  mo true Tryz.prog 130 [c] w j [] (fun v G J => ∃ z t, v = z ∧ G = (t ++ []) ∧ lW 87 lF 8 J z r t) := by
 unfold vu at hm
 refine sF I 8 func130 rfl (fun b => sg (Wa (lS (Wm ?_))))
 obtain ⟨D, Q, rfl⟩ := a.form
 refine V (AM cX rfl rfl) (ln ?_)
 rcases D with _ | M
 ·have y := a.isNil
  replace hm : some [] = some r := by rw [y] at hm; simpa [nJ, maxLen] using hm
  refine vm (rfl) (sg (Wa (lt (lL ?_))))
  obtain rfl := sj hm
  refine mI (v := (.slice none 0 0)) rfl rfl ?_
  replace b := b.Pc
  exact ⟨_, _, _, rfl, (b.mW (Kr Sn)), (lm.refl _), Lo.refl, (ST.lU b (nn.mem (Kr Sn))), (.slice none 0 0), [], rfl, rfl, (lW.nil _ _ _ _)⟩
 ·refine rN (rfl) (kg (VE (lE (cs := #[]) b ri (Aq [] cX dW iD dc rfl (by simp) rfl rfl) (fun N H b => Wm (bS hm fun T x hm => VE (pQ (B := [(H, Ob #[] 87)]) ma b dc cX Hd.1 Hd.2.1 rfl Hd.2.2.1 Hd.2.2.2 rfl rfl (lW.lit ma (l := []) .nil rfl nb rfl) (xG.sl ma a b.kN) x (fun K g k b i => Wa (lt ?_))))))))
  obtain rfl := sj hm
  exact mI (v := g) rfl rfl ⟨_, _, _, rfl, (b.mW (Kr Sn)), (lm.refl _), Lo.refl, (ST.lU b (nn.mem (Kr Sn))), g, k, rfl, rfl, i⟩
theorem CM (g : Value) (t : List nE) (j : Value) (z : nE → Option Bool) (r : Int) (w : World) (c : Sl lF 8 (hp w) g t) (B : yy Tryz.prog j (hp w) (B7 lF) (fun (r : Bool) => (.bool r)) z) (hm : vH t z = some r) :
  lD false Tryz.prog 190 [g, j] w (.int .i64 r) := by
 refine cG 19 func190 rfl (fun b => sg (Wa (lS (Wm (V (mi cX rfl c) (Wm (ln (mf (fun i E W => ∃ k, (E 8 = .int .i64 (i : Nat) ∧ E 7 = .int .i64 (t.length : Nat)) ∧ ST false lT w W (hp w) k ∧ E 0 = g ∧ E 1 = j ∧ pa z (t.drop i) i = some r) t.length c.len ⟨_, ⟨rfl, rfl⟩, (b.kG St), rfl, rfl, hm⟩ dc dc dc (fun _ _ _ h => by obtain ⟨_, l, _⟩ := h; exact l) ?_ ?_))))))))
 ·rintro T E W G ⟨k, ⟨d, m⟩, b, u, x, a⟩
  obtain ⟨y, Z, N, M, Q⟩ := lX G
  rw [N] at a
  refine bg (Wh d (Wa (lr (Wh x (Wh u (Wm (VQ (mT (i := (T : Int)) (x0 := y) lF.out cX dW rfl rfl c (aH _) M) (fun a2 ⟨_, ⟨U, Y, rfl, J, K⟩, H⟩ => V (kI rfl (lz b.has H jR dW)) (bS a fun a3 I a => ?_)))))))))
  refine VE (zH y b B (lm.refl _) (B7.mk ma (lF.mk ⟨U, Y, rfl, J, K⟩) b.kN) rfl (wy rfl) I (fun n b => ln (CI a rfl (fun D a => ?_) (fun D a => ?_))))
  ·refine sg (Wm (Wa (lt (nD (lL (nD (lL ?_)))))))
   obtain rfl := sj a
   exact rP b
  exact mr (lK (kT ⟨d, _, ⟨rfl, m⟩, (b.kG St), u, x, (by rw [Q]; exact a)⟩))
 rintro E W ⟨k, ⟨d, m⟩, b, u, x, a⟩
 rw [aI] at a
 exact kT (sg (Wa (lt (rQ a b))))
theorem Cd (k : Value) (a0 : List nE) (y : LO) (J : Value) (f1 : nE → Option Bool) (r : List nE) (w : World) {Y : lO} (h0 : ox Y (y ++ []) w) (n : lW 87 lF 8 Y k a0 y) (a9 : yy Tryz.prog J Y (B7 lF) (fun (r : Bool) => (.bool r)) f1) (hm : sC a0 f1 = some r) :
  mo false Tryz.prog 129 [k, J] w Y (y ++ []) (fun v L1 μ1 => ∃ P, v = P ∧ L1 = [] ∧ Sl lF 8 μ1 P (r)) := by
 refine sF h0 42 func129 rfl (fun d => sg (Wa (lr (Wm (Wm (bS hm fun O d7 hm => VE (Eg d call190 (CM k a0 J f1 _ _ (n.sl ma d.kN (fun b o q => d.at_ (Ml q))) (a9.mono d.kN) d7) (fun W3 d => Wa (ln ?_)))))))))
 refine kY (sg (Wm (Wi rfl (ln (CI hm rfl (fun d6 hm => ?_) (fun d6 hm => ?_))))))
 ·refine sg (Wm (Wa (lt (lL ?_))))
  obtain rfl := sj hm
  refine mI (v := k) rfl rfl ?_
  obtain ⟨aa, d, d2, p, d8⟩ := ST.tE ma d n
  exact ⟨_, _, _, rfl, (d.mW Sn), d2, p, (ST.lU d (nn.mem Sn)), k, rfl, rfl, d8⟩
 refine kS (Wm (Wi rfl (Wa (ln (mB (nS (fun m E W => ∃ a2 K G H A, ST false (keys (y ++ [])) w W Y (K ++ A) ∧ E 0 = k ∧ E 1 = J ∧ E 5 = (.int .i64 G) ∧ E 6 = (.int .i64 H) ∧ lW 87 lF 8 Y k a2 K ∧ oQ f1 m a2 G H = some r) lB ⟨a0, y, O, (IntKind.i64.wrap (O + 1)), _, (d.kG St), rfl, rfl, rfl, rfl, n, hm⟩ ?_))))))
 rintro m E W ⟨a2, K, G, H, A, d, t, Z, I, N, j, c⟩
 cases m with
 | zero => rw [oQ] at c; cases c
 | succ d4 =>
  refine kY (sg (Wh N (Wh t (V (qT cX rfl j) (Wi rfl (ln (CI c rfl (fun b6 c => ?_) (fun b6 c => ?_))))))))
  ·refine kn (kY (CJ c (fun a3 E W => ∃ M F, ST false (keys (y ++ [])) w W Y (M ++ F) ∧ E 0 = k ∧ E 1 = J ∧ E 5 = (.int .i64 a3.2) ∧ E 6 = (.int .i64 H) ∧ lW 87 lF 8 Y k a3.1 M) (fun a3 g => ?_) ?_))
   ·refine bg (Wh t (Wh N (bS g fun a s g => VQ (mJ (i := H) lF.out cX dW rfl rfl j (lN s) (lM s)) (fun f5 ⟨_, ⟨f8, f9, rfl, Q, T⟩, c1, e1⟩ => V (kI rfl (lz (oC.hp _) (c1.mono (nl (fun b o q => d.has.2 b o (Ml q)))) jR dW)) (VE (lG d iD (fun e7 f3 d => ?_)))))))
    obtain ⟨u, B, rfl⟩ := Q.form
    obtain ⟨x, D, rfl⟩ := T.form
    let l := (C7 a.kC.kD a.kC.kJ a.kH.Op a.kH.K a.kH.kC.kD a.kH.kC.kJ u a.kH.Kids.length B x a.na.length D)
    refine VO (lf (.agg l.toArray) (l.toArray) d rfl rfl dW oc nb rfl (fun e8 d => lr (Wh Z (VA d Mh l jR dW (bS g fun f7 c2 g => VE (zH a d a9 (lm.refl _) (B7.mk ma (lF.mk ⟨(.slice u a.kH.Kids.length B), (.slice x a.na.length D), rfl, Q, T⟩) d.kN) rfl (wy rfl) c2 (fun e9 d => V (ot rfl) (ln (CI g rfl (fun b7 g => ?_) (fun b7 g => ?_))))))))))
    ·refine sg (Wh t (Wh I (VA d Mh l jR dW (bS g fun g3 U g => VQ (mJ (i := G) lF.out cX dW rfl rfl j (lN U) (lM U)) (fun f6 ⟨_, ⟨g0, g1, rfl, e3, e4⟩, e2, b9⟩ => ?_)))))
     replace d := d.perm (Nr (Qb Qz) Nz)
     refine VO (rO (x1 := a) ma d j rfl rfl (lF.mk ⟨(.slice u a.kH.Kids.length B), (.slice x a.na.length D), rfl, Q, T⟩) b9 (lM U) dW (fun f0 c7 d b4 => ln ?_))
     replace d := d.kG (Kr (Db St))
     refine kV (Wh I (Wi rfl (Wa (lH (lK (kT ?_))))))
     obtain rfl := sj g
     exact ⟨c7, _, (d.kG St), t, Z, rfl, N, b4⟩
    refine mr (lK (kT ?_))
    obtain rfl := sj g
    exact ⟨K, _, (d.kG (Db St)), t, Z, I, N, j⟩
   rintro ⟨d3, d5⟩ E W ⟨M, F, d, c8, c9, d0, d1, c3⟩ c0
   exact kV (Wh d1 (Wi rfl (Wa (ln ⟨d4, bB _, d3, M, d5, (IntKind.i64.wrap (H + 1)), _, (d.kG St), c8, c9, d0, rfl, c3, c0⟩))))
  refine nM (nB (nB (qe (kT (sg (Wh t (Wh I (bS c fun _ a4 c => VQ (zG (i := G) cX dW rfl rfl j (vy a4) (vq a4)) (fun g2 c4 => VO (BH (z := (⟨K0, RK, []⟩ : nE)) (zs := [(.string zS), (.string zS), (.int .i64 0), (.int .i64 0), (.string zS), (.string zS), (.slice none 0 0), (.slice none 0 0)]) ma d j (lF.mk ⟨(.slice none 0 0), (.slice none 0 0), rfl, (Sl.nil _ _ _), (Sl.nil _ _ _)⟩) cX iD c4 rfl rfl (fun f2 e6 d b5 => lr (Wh t ?_))))))))))))
  refine Wh I (bS c fun _ a5 c => VQ (Bo (i := G) cX dW rfl rfl b5 (vy a5) (vq a5)) (fun L c5 => Wa (lt ?_)))
  obtain rfl := sj c
  refine mI (v := L) rfl rfl ?_
  obtain ⟨g7, d, R, h, c6⟩ := ST.tE ma d c5
  exact ⟨_, _, _, rfl, (d.mW Sn), R, h, (ST.lU d (nn.mem Sn)), L, rfl, rfl, c6⟩
theorem Gi (c : nE) (a i : Value) (k : Nat) (u : kE) (r : Bool) (w : World) (j : Sl kF 5 (hp w) a c.kH.Kids) (g : Sl (Pl kK) 9 (hp w) i c.na) (t : At (hp w) (.pointer (some ⟨k, 0, none⟩)) (kK u)) (hm : tf c u = some r) :
  lD true Tryz.prog 131 [(.agg #[(.string c.kC.kD), (.string c.kC.kJ), (.int .i64 c.kH.Op), (.int .i64 c.kH.K), (.string c.kH.kC.kD), (.string c.kH.kC.kJ), a, i]), (.pointer (some ⟨k, 0, none⟩))] w (.bool r) := by
 refine cG 9 func131 rfl (fun b => sg ?_)
 obtain ⟨B, D, rfl⟩ := j.form
 obtain ⟨x, y, rfl⟩ := g.form
 refine VE (lJ b rfl (fun G I b => Wa (lr (Wf Fm (VB b Mh rfl rfl kB (V (kI rfl (lz b.has t bW aO)) (bS hm fun J z hm => VE (Eg b call60 (G5 (.slice x c.na.length y) c.na u _ _ (g.mono (Pl.mono _) b.kN) z) (fun H b => V (ot rfl) (Wa (ln ?_)))))))))))
 exact lC (rQ hm b)
theorem Ji (i : lI) (a g : Value) (y : kE) (r : List nE) (w : World) {G : lO} (q : ox G [] w) (j : Sl kW 15 G a i.kO) (c : Sl lF 8 G g i.lg) (hm : yQ i y = some r) :
  mo false Tryz.prog 70 [(.agg #[(.string i.Name), a, g]), (.agg (kK y).toArray)] w G [] (fun v L1 μ1 => ∃ n, v = n ∧ L1 = [] ∧ Sl lF 8 μ1 n (r)) := by
 refine sF q 10 func70 rfl (fun b => sg ?_)
 obtain ⟨A1, c2, rfl⟩ := j.form
 obtain ⟨Y, p, rfl⟩ := c.form
 refine VE (lJ b rfl (fun W6 P b => VE (lJ b rfl (fun W8 z b => Wa (lr (Wf AS (VB b (Mt Mh) rfl rfl kk (bS hm fun I N hm => ?_))))))))
 refine VE (eD b (aX _) call130 (fun m => mo.mP (EY (.slice Y i.lg.length p) i.lg _ _ m (c.mono ma.mono (lm.refl _)) N)) ?_ (L0 := []))
 rintro _ c3 c6 O b B d ⟨a5, Z, k, rfl, T⟩
 obtain rfl := k.symm
 replace b := b.perm (Tr Tn)
 refine V (wU (by exact wy rfl) rfl) ?_
 replace b := b.perm (Nb (Pr Pz) Nz)
 obtain ⟨c7, b, u, h, M⟩ := ST.JG (R := [(z, Ol (kK y) 52)]) b
 have K := At.of (M _ _ (.head _)) _ rfl
 refine bS hm fun c1 Q hm => ?_
 refine VE (eD b (Cr Qz Cn) call129 (fun m => (Cd a5 I Z (.func (.func 131) #[] #[(.pointer (some ⟨z, 0, none⟩))]) (fun (x : nE) => tf x y) _ _ m (T.mono ma u) ⟨131, #[], #[(.pointer (some ⟨z, 0, none⟩))], rfl, call131, fun W x vs r A s hm => by obtain ⟨_, rfl, a3⟩ := s; obtain ⟨J, L, rfl, E, F⟩ := a3.out; exact (Gi x J L z y r W E F (K.mono ((lm.refl _).trans A)) hm).mP⟩ Q)) ?_)
 rintro _ c5 c8 b6 b D l ⟨H, t, rfl, U⟩
 obtain rfl := t.symm
 refine Wa (ln ?_)
 replace b := b.kG (Db St)
 refine lC ?_
 obtain rfl := sj hm
 exact mI (v := H) rfl rfl ⟨_, _, _, rfl, (b.mW Sn), ((B.trans u).trans D), ((d.trans h).trans l), (ST.lU b (nn.mem Sn)), H, rfl, rfl, U⟩
theorem Ec (T : Formula → Int → Option (Int × Int)) (n : ∀ (t : Formula) (j : Value) (I : Int) (r : (Int × Int)) (w : World) (g : Sl kF 5 (hp w) j t.Kids), T t I = some r → lD false Tryz.prog 192 [(.agg #[(.int .i64 t.Op), (.int .i64 t.K), (.string t.kC.kD), (.string t.kC.kJ), j]), (.int .i64 I)] w (.tuple #[(.int .i64 r.1), (.int .i64 r.2)])) (t : Formula) (j : Value) (I : Int) (r : (Int × Int)) (w : World) (g : Sl kF 5 (hp w) j t.Kids) (hm : wk T t I = some r) :
  lD false Tryz.prog 192 [(.agg #[(.int .i64 t.Op), (.int .i64 t.K), (.string t.kC.kD), (.string t.kC.kJ), j]), (.int .i64 I)] w (.tuple #[(.int .i64 r.1), (.int .i64 r.2)]) := by
 refine cG 40 func192 rfl (fun b => sg ?_)
 obtain ⟨A1, c2, rfl⟩ := g.form
 refine VE (lJ b rfl (fun W4 P b => Wa (Wa (lr (Wa (Wa (lS (Wf oA ?_))))))))
 refine VB b Mh rfl rfl dZ (V (mi aD rfl g) (Wm (ln ?_)))
 replace b := b.kG (Db St)
 refine CJ hm (fun Q E W => ∃ a2, ST false lT w W (hp w) a2 ∧ E 6 = (.int .i64 Q.1) ∧ E 7 = (.int .i64 Q.2)) (fun Q a5 => ?_) ?_
 ·refine mf (fun i E W => ∃ y z J, (E 15 = .int .i64 (i : Nat) ∧ E 14 = .int .i64 (t.Kids.length : Nat)) ∧ ST false lT w W (hp w) J ∧ E 1 = (.int .i64 I) ∧ E 6 = (.int .i64 y) ∧ E 7 = (.int .i64 z) ∧ E 13 = (.slice A1 t.Kids.length c2) ∧ ql I T (t.Kids.drop i) y z = some Q) t.Kids.length g.len ⟨1, 0, _, ⟨rfl, rfl⟩, (b.kG St), rfl, rfl, rfl, rfl, a5⟩ dc dc dc (fun _ _ _ h => by obtain ⟨_, _, _, l, _⟩ := h; exact l) ?_ ?_
  ·rintro F E W a3 ⟨y, z, J, ⟨d, m⟩, b, G, x, H, K, a⟩
   obtain ⟨c, c6, q, p, a9⟩ := lX a3
   rw [q] at a
   refine bg (VQ (mT (i := (F : Int)) (x0 := c) kF.out aD aC K d g (aH _) p) (fun c4 ⟨_, ⟨c5, rfl, N⟩, Y⟩ => V (kI rfl (lz b.has Y aK aC)) (VE (lG b aP (fun R c3 b => ?_)))))
   obtain ⟨B, D, rfl⟩ := N.form
   let a0 := (C2 c.Op c.K c.kC.kD c.kC.kJ B c.Kids.length D)
   refine VO (lf (.agg a0.toArray) (a0.toArray) b rfl rfl aC oc nb rfl (fun c0 b => lS (Wh x (Wh G (Wi rfl (ln (CI a rfl (fun U a => ?_) (fun U a => ?_))))))))
   ·refine nM (nB (Sv (by simp) (nB (qe (kT ?_)))))
    obtain rfl := sj a
    exact ⟨_, (b.kG (Db St)), x, H⟩
   refine kg (VA b Mh a0 aK aC (Wh G (Wh x (Wi rfl (bS a fun M Z a => VE (Eg b call192 (n c (.slice B c.Kids.length D) (IntKind.i64.wrap (I - y)) _ _ (N.mono kL.mono b.kN) Z) (fun c1 b => Wm (Wx rfl (Wx rfl (Wa (Wa ?_)))))))))))
   refine ln ?_
   replace b := b.kG (Db St)
   exact kV (Wh x (Wm (Wi rfl (Wh H (Wm (V (Oj (k := .i64) rfl rfl) (Wa (Wa (lH (lK (kT ⟨d, (IntKind.i64.wrap (y + M.1)), (if M.2 > z then M.2 else z), _, ⟨rfl, m⟩, (b.kG St), G, rfl, rfl, K, (by rw [a9]; exact a)⟩)))))))))))
  rintro E W ⟨y, z, J, ⟨d, m⟩, b, G, x, H, K, a⟩
  rw [aI] at a
  refine kT ?_
  obtain rfl := sj a
  exact ⟨_, (b.kG St), x, H⟩
 rintro ⟨L, O⟩ E W ⟨a2, b, s, A⟩ a4
 refine sg (Wh s (Wh A (Wi rfl (Wa (Wa (lt ?_))))))
 obtain rfl := sj a4
 exact G0 (v := (.int .i64 L)) (u := (.int .i64 (IntKind.i64.wrap (O + 1)))) rfl rfl rfl ⟨rfl, b.ex⟩
theorem Ce : ∀ (n : Nat) (c : Formula) (a : Value) (i : Int) (r : (Int × Int)) (w : World) (g : Sl kF 5 (hp w) a c.Kids) (_ : pt n c i = some r),
  lD false Tryz.prog 192 [(.agg #[(.int .i64 c.Op), (.int .i64 c.K), (.string c.kC.kD), (.string c.kC.kJ), a]), (.int .i64 i)] w (.tuple #[(.int .i64 r.1), (.int .i64 r.2)])
 | 0 => by intros; rename_i h; simp only [pt] at h; cases h
 | n + 1 => Ec (pt n) (Ce n)
theorem H7 (a : Formula) (g : Value) (r : (Int × Int)) (w : World) (c : Sl kF 5 (hp w) g a.Kids) (hm : xZ a = some r) :
  lD false Tryz.prog 134 [(.agg #[(.int .i64 a.Op), (.int .i64 a.K), (.string a.kC.kD), (.string a.kC.kJ), g])] w (.tuple #[(.int .i64 r.1), (.int .i64 r.2)]) := by
 refine cG 15 func134 rfl (fun b => sg ?_)
 obtain ⟨i, j, rfl⟩ := c.form
 refine VE (lJ b rfl (fun y B b => Wa (Wa (lr (VA b Mh (C2 a.Op a.K a.kC.kD a.kC.kJ i a.Kids.length j) aK aC (bS hm fun x t hm => VE (Eg b call192 ((Ce lB) a (.slice i a.Kids.length j) 4096 _ _ (c.mono kL.mono b.kN) t) (fun z b => Wm (Wx rfl (Wx rfl (Wa (Wa ?_))))))))))))
 refine ln ?_
 replace b := b.kG (Db St)
 refine kY (sg (Wm (Wi rfl (ln (CI hm rfl (fun k hm => ?_) (fun k hm => ?_))))))
 ·refine sg (Wa (Wa (lt (lL ?_))))
  obtain rfl := sj hm
  exact G0 (v := (.int .i64 0)) (u := (.int .i64 0)) rfl rfl rfl ⟨rfl, b.ex⟩
 refine kg (Wm (Wm (Wa (Wa (lt ?_)))))
 obtain rfl := sj hm
 exact G0 (v := (.int .i64 x.1)) (u := (.int .i64 x.2)) rfl rfl rfl ⟨rfl, b.ex⟩
theorem HW (a : Formula) (H : Value) (r : Bool) (w : World) (t : Sl kF 5 (hp w) H a.Kids) (hm : xY a = some r) :
  lD true Tryz.prog 193 [(.agg #[(.int .i64 a.Op), (.int .i64 a.K), (.string a.kC.kD), (.string a.kC.kJ), H])] w (.bool r) := by
 refine cG 63 func193 rfl (fun b => sg ?_)
 obtain ⟨A1, c2, rfl⟩ := t.form
 let l := (C2 a.Op a.K a.kC.kD a.kC.kJ A1 a.Kids.length c2)
 refine VE (lJ b rfl (fun W4 N b => Wa (lr (V (mH (v := (.agg (kQ K0).toArray)) ri (ml fE dQ (JX _ dQ) kr)) (VE (lG b fE (fun W6 A b => VO (lf (.agg (kQ K0).toArray) ((kQ K0).toArray) b rfl rfl aR (wX K0) nb rfl (fun W7 b => lS (Wf oB ?_))))))))))
 refine VB b (Mt Mh) rfl rfl cD (ln (bg (Wi rfl (Wa (ln (CI hm rfl (fun d9 hm => ?_) (fun d9 hm => ?_)))))))
 ·refine sg (Wf uP (VA b (Mt Mh) (kQ a.kC) bG aR (bS hm fun f7 e5 hm => VE (Eg b kA (uQ a.kC _ _  e5) (fun f5 b => Wm (LJ hm (fun d2 E W => ∃ O, ST true lT w W (hp w) ((N, Ol l 58) :: O) ∧ E 1 = (.pointer (some ⟨N, 0, none⟩)) ∧ E 2 = (.bool false) ∧ E 17 = (.bool d2)) 5 ?_ (fun d2 J a4 => ?_)))))))
  ·rintro f8 E W ⟨O, b, e7, c9, e8⟩ e1
   refine Wh e8 (LJ e1 (fun d1 E W => ∃ P, ST true lT w W (hp w) P ∧ E 2 = (.bool false) ∧ E 22 = (.bool d1)) 4 ?_ (fun d1 I a3 => ?_))
   ·rintro f9 E W ⟨P, b, f6, e9⟩ e2
    refine Wg e9 (lt (nD (lL ?_)))
    obtain rfl := sj e2
    exact rP b
   refine bC I (fun u I => ?_) (fun u I => ?_)
   ·refine ug u (kP sH e7) (ug u (kI rfl (lh b.has Mh rfl cD)) (ug u (lR rfl rfl rfl) (V (li (cB u) rfl) ?_)))
    obtain rfl := sj I
    exact a3 _ _ ⟨_, (b.kG (Db St)), c9, rfl⟩
   refine un u (un u (un u (V (lj (cB u) rfl) ?_)))
   obtain rfl := sj I
   exact a3 _ _ ⟨_, (b.kG (Db St)), c9, rfl⟩
  refine bC J (fun j J => ?_) (fun j J => ?_)
  ·refine ug j (kP oA rfl) (ug j (kI rfl (lh b.has (Mt Mh) rfl dZ)) (ug j (mi aD rfl t) (ug j (lR rfl rfl rfl) (V (li (cB j) rfl) ?_))))
   obtain rfl := sj J
   exact a4 _ _ ⟨_, (b.kG (Db St)), rfl, rfl, rfl⟩
  refine un j (un j (un j (un j (V (lj (cB j) rfl) ?_))))
  obtain rfl := sj J
  exact a4 _ _ ⟨_, (b.kG (Db St)), rfl, rfl, rfl⟩
 let a0 := (l.toArray : Array Value)
 let d : Value := (.pointer (some ⟨N, 0, none⟩))
 refine kY (CJ hm (fun L E W => ∃ R, ST true lT w W (hp w) ((A, Ol (kQ K0) 50) :: ((N, Obj.cells a0 58 (0, 0)) :: R)) ∧ E 1 = d ∧ E 3 = (.pointer (some ⟨A, 0, none⟩)) ∧ E 23 = (.bool L)) (fun L G => ?_) ?_)
 ·refine sg (Wi rfl (Wa (ln (CI G rfl (fun b9 G => ?_) (fun b9 G => ?_)))))
  ·refine kn ?_
   obtain rfl := sj G
   exact ⟨_, (b.kG St), rfl, rfl, rfl⟩
  refine kV (Wi rfl (Wa (ln ?_)))
  obtain rfl := sj G
  exact ⟨_, (b.kG St), rfl, rfl, rfl⟩
 rintro g0 E W ⟨R, b, Q, d0, f0⟩ K
 refine CI K f0 (fun e0 K => ?_) (fun e0 K => ?_)
 ·refine sg (V (kP uP Q) (VA b (Mt Mh) (kQ a.kC) bG aR (V (kI d0 (kM b.has Mh (kQ K0) rfl bG aR)) (V (uU rfl rfl (ob eL) (qW (qb _ a.kC K0))) (Wm (LJ K (fun d3 E W => ∃ c7, ST true lT w W (hp w) c7 ∧ E 34 = (.bool d3)) 4 ?_ (fun d3 M a5 => ?_)))))))
  ·rintro g1 E W ⟨c7, b, f1⟩ e3
   refine Wg f1 (lt (nD (lL ?_)))
   obtain rfl := sj e3
   exact rP b
  refine bC M (fun x M => ?_) (fun x M => ?_)
  ·refine ug x (kP sH Q) (ug x (kI rfl (lh b.has (Mt Mh) rfl cD)) (ug x (lR rfl rfl rfl) (V (li (cB x) rfl) ?_)))
   obtain rfl := sj M
   exact a5 _ _ ⟨_, (b.kG (Db (Db St))), rfl⟩
  refine un x (un x (un x (V (lj (cB x) rfl) ?_)))
  obtain rfl := sj M
  exact a5 _ _ ⟨_, (b.kG (Db (Db St))), rfl⟩
 refine mr (lK (kT (sg (V (kP oB Q) (VB b (Mt Mh) rfl rfl cD (Wi rfl (Wm (LJ K (fun F E W => ∃ c8, ST true lT w W (hp w) ((N, Obj.cells a0 58 (0, 0)) :: c8) ∧ E 1 = d ∧ E 43 = (.bool F)) 5 ?_ (fun F D h => ?_)))))))))
 ·rintro g2 E W ⟨c8, b, a2, d4⟩ e4
  refine Wh d4 (LJ e4 (fun s E W => ∃ m, ST true lT w W (hp w) ((N, Obj.cells a0 58 (0, 0)) :: m) ∧ E 1 = d ∧ E 48 = (.bool s)) 4 ?_ (fun s B Z => ?_))
  ·rintro f2 E W ⟨m, b, T, d5⟩ c0
   refine Wh d5 (LJ c0 (fun q E W => ∃ a9, ST true lT w W (hp w) ((N, Obj.cells a0 58 (0, 0)) :: a9) ∧ E 1 = d ∧ E 56 = (.bool q)) 7 ?_ (fun q z Y => ?_))
   ·rintro f3 E W ⟨a9, b, d6, d7⟩ c1
    refine Wh d7 (LJ c1 (fun p E W => ∃ n, ST true lT w W (hp w) n ∧ E 62 = (.bool p)) 5 ?_ (fun p y U => ?_))
    ·rintro f4 E W ⟨n, b, d8⟩ c3
     exact Wg d8 (lt (rQ c3 b))
    refine bC y (fun g y => ?_) (fun g y => ?_)
    ·refine ug g (kP oA d6) (ug g (kI rfl (lh b.has Mh rfl dZ)) (ug g (mi aD rfl t) (ug g (lR rfl rfl rfl) (V (li (cB g) rfl) ?_))))
     obtain rfl := sj y
     exact U _ _ ⟨_, (b.kG (Db St)), rfl⟩
    refine un g (un g (un g (un g (V (lj (cB g) rfl) ?_))))
    obtain rfl := sj y
    exact U _ _ ⟨_, (b.kG (Db St)), rfl⟩
   refine bC z (fun c z => ?_) (fun c z => ?_)
   ·refine ug c (kP sH T) (ug c (kI rfl (lh b.has Mh rfl cD)) (ug c (kP oA T) (ug c (kI rfl (lh b.has Mh rfl dZ)) (ug c (mi aD rfl t) (ug c (lR rfl rfl rfl) (V (li (cB c) rfl) ?_))))))
    obtain rfl := sj z
    exact Y _ _ ⟨_, (b.kG St), T, rfl⟩
   refine un c (un c (un c (un c (un c (un c (V (lj (cB c) rfl) ?_))))))
   obtain rfl := sj z
   exact Y _ _ ⟨_, (b.kG St), T, rfl⟩
  refine bC B (fun i B => ?_) (fun i B => ?_)
  ·refine ug i (kP sH a2) (ug i (kI rfl (lh b.has Mh rfl cD)) (ug i (lR rfl rfl rfl) (V (li (cB i) rfl) ?_)))
   obtain rfl := sj B
   exact Z _ _ ⟨_, (b.kG St), a2, rfl⟩
  refine un i (un i (un i (V (lj (cB i) rfl) ?_)))
  obtain rfl := sj B
  exact Z _ _ ⟨_, (b.kG St), a2, rfl⟩
 refine bC D (fun k D => ?_) (fun k D => ?_)
 ·refine ug k (kP uP Q) (ug k (kI rfl (kM b.has (Mt Mh) (kQ a.kC) rfl bG aR)) (ug k (kI d0 (kM b.has Mh (kQ K0) rfl bG aR)) (ug k (uU rfl rfl (ob eL) (qW (qb _ a.kC K0))) (V (li (cB k) rfl) ?_))))
  obtain rfl := sj D
  exact h _ _ ⟨_, (b.kG (Db St)), Q, rfl⟩
 refine un k (un k (un k (un k (V (lj (cB k) rfl) ?_))))
 obtain rfl := sj D
 exact h _ _ ⟨_, (b.kG (Db St)), Q, rfl⟩
theorem Be (g : Value) (t : List Formula) (j : Value) (z : Formula → Option Bool) (r : Int) (w : World) (c : Sl kF 5 (hp w) g t) (B : yy Tryz.prog j (hp w) (B7 kF) (fun (r : Bool) => (.bool r)) z) (hm : tV t z = some r) :
  lD false Tryz.prog 249 [g, j] w (.int .i64 r) := by
 refine cG 19 func249 rfl (fun b => sg (Wa (lS (Wm (V (mi aD rfl c) (Wm (ln (mf (fun i E W => ∃ k, (E 8 = .int .i64 (i : Nat) ∧ E 7 = .int .i64 (t.length : Nat)) ∧ ST false lT w W (hp w) k ∧ E 0 = g ∧ E 1 = j ∧ ow z (t.drop i) i = some r) t.length c.len ⟨_, ⟨rfl, rfl⟩, (b.kG St), rfl, rfl, hm⟩ dc dc dc (fun _ _ _ h => by obtain ⟨_, l, _⟩ := h; exact l) ?_ ?_))))))))
 ·rintro Q E W G ⟨k, ⟨d, m⟩, b, u, x, a⟩
  obtain ⟨y, U, M, K, N⟩ := lX G
  rw [M] at a
  refine bg (Wh d (Wa (lr (Wh x (Wh u (Wm (VQ (mT (i := (Q : Int)) (x0 := y) kF.out aD aC rfl rfl c (aH _) K) (fun Z ⟨_, ⟨T, rfl, J⟩, H⟩ => V (kI rfl (lz b.has H aK aC)) (bS a fun n I a => ?_)))))))))
  refine VE (zH y b B (lm.refl _) (B7.mk kL (kF.mk ⟨T, rfl, J⟩) b.kN) rfl (wy rfl) I (fun Y b => ln (CI a rfl (fun D a => ?_) (fun D a => ?_))))
  ·refine sg (Wm (Wa (lt (nD (lL (nD (lL ?_)))))))
   obtain rfl := sj a
   exact rP b
  exact mr (lK (kT ⟨d, _, ⟨rfl, m⟩, (b.kG St), u, x, (by rw [N]; exact a)⟩))
 rintro E W ⟨k, ⟨d, m⟩, b, u, x, a⟩
 rw [aI] at a
 exact kT (sg (Wa (lt (rQ a b))))
theorem vJ (a : Value) (g : List Formula) (c : Value) (i : Formula → Option Bool) (r : Bool) (w : World) (j : Sl kF 5 (hp w) a g) (k : yy Tryz.prog c (hp w) (B7 kF) (fun (r : Bool) => (.bool r)) i) (hm : pc g i = some r) :
  lD false Tryz.prog 194 [a, c] w (.bool r) := by
 refine cG 9 func194 rfl (fun b => sg (Wa (lr (Wm (Wm (bS hm fun x t hm => VE (Eg b call249 (Be a g c i _ _ (j.mono kL.mono b.kN) (k.mono b.kN) t) (fun u b => Wi rfl (Wa (lH ?_))))))))))
 exact kT (lC (rQ hm b))
theorem EJ (i : Formula → Option Bool) (t : ∀ (c : Formula) (a : Value) (r : Bool) (w : World) (g : Sl kF 5 (hp w) a c.Kids), i c = some r → lD false Tryz.prog 135 [(.agg #[(.int .i64 c.Op), (.int .i64 c.K), (.string c.kC.kD), (.string c.kC.kJ), a])] w (.bool r)) (c : Formula) (a : Value) (r : Bool) (w : World) (g : Sl kF 5 (hp w) a c.Kids) (hm : vo i c = some r) :
  lD false Tryz.prog 195 [(.agg #[(.int .i64 c.Op), (.int .i64 c.K), (.string c.kC.kD), (.string c.kC.kJ), a])] w (.bool r) := by
 refine cG 6 func195 rfl (fun b => sg ?_)
 obtain ⟨j, k, rfl⟩ := g.form
 refine VE (lJ b rfl (fun x z b => Wa (lr (VA b Mh (C2 c.Op c.K c.kC.kD c.kC.kJ j c.Kids.length k) aK aC (bS hm fun B u hm => VE (Eg b call135 (t c (.slice j c.Kids.length k) _ _ (g.mono kL.mono b.kN) u) (fun y b => V (ot rfl) (Wa (ln ?_)))))))))
 exact lC (rQ hm b)
theorem DJ (z : Formula → Option Bool) (T : ∀ (a : Formula) (g : Value) (r : Bool) (w : World) (c : Sl kF 5 (hp w) g a.Kids), z a = some r → lD false Tryz.prog 135 [(.agg #[(.int .i64 a.Op), (.int .i64 a.K), (.string a.kC.kD), (.string a.kC.kJ), g])] w (.bool r)) (a : Formula) (g : Value) (r : Bool) (w : World) (c : Sl kF 5 (hp w) g a.Kids) (hm : wo z a = some r) :
  lD false Tryz.prog 135 [(.agg #[(.int .i64 a.Op), (.int .i64 a.K), (.string a.kC.kD), (.string a.kC.kJ), g])] w (.bool r) := by
 refine cG 17 func135 rfl (fun b => sg ?_)
 obtain ⟨B, D, rfl⟩ := c.form
 let a0 := (C2 a.Op a.K a.kC.kD a.kC.kJ B a.Kids.length D)
 refine VE (lJ b rfl (fun W4 U b => Wa (lr (VA b Mh a0 aK aC (bS hm fun v a3 hm => VE (Eg b call193 (lD.mP (HW a (.slice B a.Kids.length D) _ _ (c.mono kL.mono b.kN) a3)) (fun W7 b => Wm (LJ hm (fun K E W => ∃ G, ST false lT w W (hp w) ((U, Ol a0 58) :: G) ∧ E 1 = (.pointer (some ⟨U, 0, none⟩)) ∧ E 2 = (.bool false) ∧ E 10 = (.bool K)) 5 ?_ (fun K t y => ?_)))))))))
 ·rintro A E W ⟨G, b, Y, I, Z⟩ M
  refine Wh Z (LJ M (fun J E W => ∃ H, ST false lT w W (hp w) H ∧ E 2 = (.bool false) ∧ E 16 = (.bool J)) 5 ?_ (fun J k u => ?_))
  ·rintro q E W ⟨H, b, n, d⟩ N
   exact Wg d (lt (rQ N b))
  refine bC k (fun i k => ?_) (fun i k => ?_)
  ·refine ug i (kP oA Y) (ug i (kI rfl (lh b.has Mh rfl dZ)) (bS k fun p Q k => sE i (Eg b call194 (vJ (.slice B a.Kids.length D) a.Kids (.func (.func 195) #[] #[]) (fun (x : Formula) => vo z x) _ _ (c.mono kL.mono b.kN) ⟨195, #[], #[], rfl, call195, fun W x vs r s h hm => by obtain ⟨_, rfl, a2⟩ := h; obtain ⟨m, rfl, l⟩ := a2.out; exact EJ z T x m r W l hm⟩ Q) (fun a5 b => ug i (ot rfl) (V (li (cB i) rfl) ?_)))))
   obtain rfl := sj k
   exact u _ _ ⟨_, (b.kG (Db St)), I, rfl⟩
  refine un i (un i (un i (un i (V (lj (cB i) rfl) ?_))))
  obtain rfl := sj k
  exact u _ _ ⟨_, (b.kG (Db St)), I, rfl⟩
 refine bC t (fun j t => ?_) (fun j t => ?_)
 ·refine ug j (kP oA rfl) (ug j (kI rfl (lh b.has Mh rfl dZ)) (ug j (mi aD rfl c) (ug j (lR rfl rfl rfl) (V (li (cB j) rfl) ?_))))
  obtain rfl := sj t
  exact y _ _ ⟨_, (b.kG St), rfl, rfl, rfl⟩
 refine un j (un j (un j (un j (V (lj (cB j) rfl) ?_))))
 obtain rfl := sj t
 exact y _ _ ⟨_, (b.kG St), rfl, rfl, rfl⟩
theorem Cs : ∀ (n : Nat) (c : Formula) (a : Value) (r : Bool) (w : World) (g : Sl kF 5 (hp w) a c.Kids) (_ : sh n c = some r),
  lD false Tryz.prog 135 [(.agg #[(.int .i64 c.Op), (.int .i64 c.K), (.string c.kC.kD), (.string c.kC.kJ), a])] w (.bool r)
 | 0 => by intros; rename_i h; simp only [sh] at h; cases h
 | n + 1 => DJ (sh n) (Cs n)
theorem xd (a : Formula) (k : Value) (r : Bool) (w : World) (c : Sl kF 5 (hp w) k a.Kids) (hm : sf a = some r) :
  lD false Tryz.prog 72 [(.agg #[(.int .i64 a.Op), (.int .i64 a.K), (.string a.kC.kD), (.string a.kC.kJ), k])] w (.bool r) := by
 refine cG 24 func72 rfl (fun b => sg ?_)
 obtain ⟨y, z, rfl⟩ := c.form
 let a0 := (C2 a.Op a.K a.kC.kD a.kC.kJ y a.Kids.length z)
 refine VE (lJ b rfl (fun W4 H b => Wa (lr (VA b Mh a0 aK aC (bS hm fun n a9 hm => VE (Eg b call134 (H7 a (.slice y a.Kids.length z) _ _ (c.mono kL.mono b.kN) a9) (fun W7 b => Wm (Wx rfl (Wx rfl (Wa (Wa (lH ?_))))))))))))
 refine kT (sg (Wm (Wi rfl (Wm (LJ hm (fun Y E W => ∃ I, ST false lT w W (hp w) ((H, Ol a0 58) :: I) ∧ E 1 = (.pointer (some ⟨H, 0, none⟩)) ∧ E 2 = (.bool false) ∧ E 4 = (.int .i64 n.2) ∧ E 15 = (.bool Y)) 3 ?_ (fun Y x G => ?_))))))
 ·rintro F E W ⟨I, b, M, N, a4, a5⟩ Z
  refine Wh a5 (LJ Z (fun U E W => ∃ J, ST false lT w W (hp w) ((H, Ol a0 58) :: J) ∧ E 1 = (.pointer (some ⟨H, 0, none⟩)) ∧ E 2 = (.bool false) ∧ E 19 = (.bool U)) 3 ?_ (fun U u D => ?_))
  ·rintro v E W ⟨J, b, h, Q, l⟩ d
   refine Wh l (LJ d (fun T E W => ∃ K, ST false lT w W (hp w) K ∧ E 2 = (.bool false) ∧ E 23 = (.bool T)) 3 ?_ (fun T j B => ?_))
   ·rintro A E W ⟨K, b, q, m⟩ a2
    exact Wg m (lt (rQ a2 b))
   refine bC j (fun i j => ?_) (fun i j => ?_)
   ·refine ug i (kI h (kM b.has Mh a0 rfl aK aC)) (bS j fun s a3 j => sE i (Eg b call135 ((Cs lB) a (.slice y a.Kids.length z) _ _ (c.mono kL.mono b.kN) a3) (fun p b => V (li (cB i) rfl) ?_)))
    obtain rfl := sj j
    exact B _ _ ⟨_, (b.kG (Db St)), Q, rfl⟩
   refine un i (un i (V (lj (cB i) rfl) ?_))
   obtain rfl := sj j
   exact B _ _ ⟨_, (b.kG (Db St)), Q, rfl⟩
  refine bC u (fun g u => ?_) (fun g u => ?_)
  ·refine ug g (kR a4) (ug g (lR rfl rfl rfl) (V (li (cB g) rfl) ?_))
   obtain rfl := sj u
   exact D _ _ ⟨_, (b.kG St), M, N, rfl⟩
  refine un g (un g (V (lj (cB g) rfl) ?_))
  obtain rfl := sj u
  exact D _ _ ⟨_, (b.kG St), M, N, rfl⟩
 refine bC x (fun t x => ?_) (fun t x => ?_)
 ·refine ug t (kR rfl) (ug t (lR rfl rfl rfl) (V (li (cB t) rfl) ?_))
  obtain rfl := sj x
  exact G _ _ ⟨_, (b.kG St), rfl, rfl, rfl, rfl⟩
 refine un t (un t (V (lj (cB t) rfl) ?_))
 obtain rfl := sj x
 exact G _ _ ⟨_, (b.kG St), rfl, rfl, rfl, rfl⟩
theorem Ap (i : Formula) (g : Value) (x : Int) (r : Bool) (w : World) (c : Sl kF 5 (hp w) g i.Kids) (hm : uz i x = some r) :
  lD true Tryz.prog 285 [(.agg #[(.int .i64 i.Op), (.int .i64 i.K), (.string i.kC.kD), (.string i.kC.kJ), g]), (.int .i64 x)] w (.bool r) := by
 refine cG 15 func285 rfl (fun b => sg ?_)
 obtain ⟨B, D, rfl⟩ := c.form
 refine VE (lJ b rfl (fun G H b => Wa (lr (Wf oB (VB b Mh rfl rfl cD (Wm (Wi rfl (Wm (LJ hm (fun t E W => ∃ u, ST true lT w W (hp w) u ∧ E 4 = (.bool false) ∧ E 14 = (.bool t)) 5 ?_ (fun t j k => ?_))))))))))
 ·rintro J E W ⟨u, b, I, y⟩ z
  exact Wg y (lt (rQ z b))
 refine bC j (fun a j => ?_) (fun a j => ?_)
 ·refine ug a (kP oA rfl) (ug a (kI rfl (lh b.has Mh rfl dZ)) (ug a (mi aD rfl c) (ug a (lR rfl rfl rfl) (V (li (cB a) rfl) ?_))))
  obtain rfl := sj j
  exact k _ _ ⟨_, (b.kG (Db St)), rfl, rfl⟩
 refine un a (un a (un a (un a (V (lj (cB a) rfl) ?_))))
 obtain rfl := sj j
 exact k _ _ ⟨_, (b.kG (Db St)), rfl, rfl⟩
theorem GQ (r : Formula) (w : World) {c : lO} (i : ox c [] w) (hm : zL  = some r) :
  mo true Tryz.prog 286 [] w c [] (fun v g j => ∃ a, v = (.agg #[(.int .i64 ((r).Op)), (.int .i64 ((r).K)), (.string (((r).kC).kD)), (.string (((r).kC).kJ)), a]) ∧ g = [] ∧ Sl kF 5 j a ((r).Kids)) := by
 refine sF i 2 func286 rfl (fun b => sg (VE (lG b aP (fun k u b => lr (V (mH (v := (.agg EA.toArray)) (np rfl) (ml aP bF (uH _ bF) kr)) (VO (lf (.agg EA.toArray) (EA.toArray) b rfl rfl aC oc nb rfl (fun t b => lt ?_))))))))
 obtain rfl := sj hm
 exact ns (v := (.agg EA.toArray)) rfl rfl (kM b.has Mh EA rfl aK aC) ⟨_, _, _, rfl, (b.mW Sn), (lm.refl _), Lo.refl, (ST.lU b (nn.mem Sn)), (.slice none 0 0), rfl, rfl, (Sl.nil _ _ _)⟩
theorem HU (r : Formula) (w : World) {c : lO} (i : ox c [] w) (hm : Al  = some r) :
  mo true Tryz.prog 287 [] w c [] (fun v g j => ∃ a, v = (.agg #[(.int .i64 ((r).Op)), (.int .i64 ((r).K)), (.string (((r).kC).kD)), (.string (((r).kC).kJ)), a]) ∧ g = [] ∧ Sl kF 5 j a ((r).Kids)) := by
 refine sF i 2 func287 rfl (fun b => sg (VE (lG b aP (fun k u b => lr (V (mH (v := (.agg F4.toArray)) (np rfl) (ml aP bF (uH _ bF) kr)) (VO (lf (.agg F4.toArray) (F4.toArray) b rfl rfl aC oc nb rfl (fun t b => lt ?_))))))))
 obtain rfl := sj hm
 exact ns (v := (.agg F4.toArray)) rfl rfl (kM b.has Mh F4 rfl aK aC) ⟨_, _, _, rfl, (b.mW Sn), (lm.refl _), Lo.refl, (ST.lU b (nn.mem Sn)), (.slice none 0 0), rfl, rfl, (Sl.nil _ _ _)⟩
theorem Jh (T : Int) (J : Value) (M r : List Formula) (w : World) {Q : lO} (h0 : ox Q [] w) (I : Sl kF 5 Q J M) (hm : Bi T M = some r) :
  mo true Tryz.prog 289 [(.int .i64 T), J] w Q [] (fun v L1 μ1 => ∃ q, v = q ∧ L1 = [] ∧ Sl kF 5 μ1 q (r)) := by
 refine sF h0 28 func289 rfl (fun b => sg (Wa (lr (Wa (lS (Wm ?_))))))
 refine V (mi aD rfl I) (Wm (ln (mf (fun i E W => ∃ t G k H, (E 10 = .int .i64 (i : Nat) ∧ E 9 = .int .i64 (M.length : Nat)) ∧ ST true (keys []) w W Q (k ++ H) ∧ E 0 = (.int .i64 T) ∧ E 5 = t ∧ E 8 = J ∧ lW 58 kF 5 Q t G k ∧ rB T (M.drop i) G = some r) M.length I.len ⟨(.slice none 0 0), ([]), [], _, ⟨rfl, rfl⟩, (b.kG St), rfl, rfl, rfl, (lW.nil _ _ _ _), hm⟩ dc dc dc (fun _ _ _ h => by obtain ⟨_, _, _, _, n, _⟩ := h; exact n) ?_ ?_)))
 ·rintro b5 E W a4 ⟨t, G, k, H, ⟨m, p⟩, b, x, y, z, u, c⟩
  obtain ⟨a, b7, F, A, K⟩ := lX a4
  rw [F] at c
  refine bg (VQ (mT (i := (b5 : Int)) (x0 := a) kF.out aD aC z m I (aH _) A) (fun c8 ⟨_, ⟨c9, rfl, D⟩, a5⟩ => V (kI rfl (lz b.has a5 aK aC)) (VE (lG b aP (fun c0 c5 b => ?_)))))
  obtain ⟨g, j, rfl⟩ := D.form
  let a0 := (C2 a.Op a.K a.kC.kD a.kC.kJ g a.Kids.length j)
  refine VO (lf (.agg a0.toArray) (a0.toArray) b rfl rfl aC oc nb rfl (fun c1 b => lr (Wf oB (VB b Mh rfl rfl cD (Wh x (Wi rfl (ln (CI c rfl (fun Z c => ?_) (fun Z c => ?_)))))))))
  ·refine kV (Wh y (Wf oA (VB b Mh rfl rfl dZ ?_)))
   replace b := b.perm (Nr (Qb Qz) Nz)
   refine bS c fun O a2 c => VE (pQ (B := k) kL b dc aD mZ.1 mZ.2.1 rfl mZ.2.2.1 mZ.2.2.2 rfl rfl u (xG.sl kL D b.kN) a2 (fun c2 R a9 b U => Wa (lH (lK (kT ?_)))))
   replace b := b.kG (Kr (Db St))
   exact ⟨m, R, O, a9, _, ⟨rfl, p⟩, (b.kG St), x, rfl, z, U, (by rw [K]; exact c)⟩
  refine kV (Wh y (VA b Mh a0 aK aC (VE (lE (cs := a0.toArray) b (np rfl) (nq aD aC aP) (fun c3 c6 b => ?_)))))
  replace b := b.perm (Nr (Qb (Qb Qz)) Nz)
  refine bS c fun P a3 c => VE (pQ (B := k) kL b dc aD mZ.1 mZ.2.1 rfl mZ.2.2.1 mZ.2.2.2 rfl rfl u (xG.lit kL (l := [a]) (.cons (ys := C2 a.Op a.K a.kC.kD a.kC.kJ g a.Kids.length j) (kF.mk ⟨(.slice g a.Kids.length j), rfl, D⟩) .nil) rfl nb (b.at_ (Ma Mh))) a3 (fun c4 b4 L b Y => Wa (lH (lK (kT ?_)))))
  replace b := b.kG (Kr (Db (Db St)))
  exact ⟨m, b4, P, L, _, ⟨rfl, p⟩, (b.kG St), x, rfl, z, Y, (by rw [K]; exact c)⟩
 rintro E W ⟨t, G, k, H, ⟨m, p⟩, b, x, y, z, u, c⟩
 rw [aI] at c
 refine kT (sg (Wh y (Wa (lt ?_))))
 obtain rfl := sj c
 refine mI (v := t) rfl rfl ?_
 obtain ⟨d1, b, N, d, s⟩ := ST.tE kL b u
 exact ⟨_, _, _, rfl, (b.mW Sn), N, d, (ST.lU b (nn.mem Sn)), t, rfl, rfl, s⟩
theorem Bq (a : Formula) (g : Value) (i : Nat) (j : Int) (r : Bool) (w : World) (c : Sl kF 5 (hp w) g a.Kids) (k : At (hp w) (.pointer (some ⟨i, 0, none⟩)) [(.int .i64 j)]) (hm : rI a j = some r) :
  lD true Tryz.prog 290 [(.agg #[(.int .i64 a.Op), (.int .i64 a.K), (.string a.kC.kD), (.string a.kC.kJ), g]), (.pointer (some ⟨i, 0, none⟩))] w (.bool r) := by
 refine cG 7 func290 rfl (fun b => sg ?_)
 obtain ⟨t, u, rfl⟩ := c.form
 refine VE (lJ b rfl (fun z D b => Wa (lr (VA b Mh (C2 a.Op a.K a.kC.kD a.kC.kJ t a.Kids.length u) aK aC (V (kI rfl (tS b.has (y := (.int .i64 j)) k cD)) (bS hm fun G x hm => VE (Eg b call285 (Ap a (.slice t a.Kids.length u) j _ _ (c.mono kL.mono b.kN) x) (fun B b => Wa (ln ?_)))))))))
 exact lC (rQ hm b)
theorem CK (c : Value) (u r : List Formula) (w : World) {j : lO} (I : ox j [] w) (a : Sl kF 5 j c u) (hm : tj u = some r) :
  mo true Tryz.prog 320 [c] w j [] (fun v G J => ∃ z t, v = z ∧ G = (t ++ []) ∧ lW 58 kF 5 J z r t) := by
 unfold tj at hm
 refine sF I 8 func320 rfl (fun b => sg (Wa (lS (Wm ?_))))
 obtain ⟨D, Q, rfl⟩ := a.form
 refine V (AM aD rfl rfl) (ln ?_)
 rcases D with _ | M
 ·have y := a.isNil
  replace hm : some [] = some r := by rw [y] at hm; simpa [nJ, maxLen] using hm
  refine vm (rfl) (sg (Wa (lt (lL ?_))))
  obtain rfl := sj hm
  refine mI (v := (.slice none 0 0)) rfl rfl ?_
  replace b := b.Pc
  exact ⟨_, _, _, rfl, (b.mW (Kr Sn)), (lm.refl _), Lo.refl, (ST.lU b (nn.mem (Kr Sn))), (.slice none 0 0), [], rfl, rfl, (lW.nil _ _ _ _)⟩
 ·refine rN (rfl) (kg (VE (lE (cs := #[]) b ri (Aq [] aD aC aP dc rfl (by simp) rfl rfl) (fun N H b => Wm (bS hm fun T x hm => VE (pQ (B := [(H, Ob #[] 58)]) kL b dc aD mZ.1 mZ.2.1 rfl mZ.2.2.1 mZ.2.2.2 rfl rfl (lW.lit kL (l := []) .nil rfl nb rfl) (xG.sl kL a b.kN) x (fun K g k b i => Wa (lt ?_))))))))
  obtain rfl := sj hm
  exact mI (v := g) rfl rfl ⟨_, _, _, rfl, (b.mW (Kr Sn)), (lm.refl _), Lo.refl, (ST.lU b (nn.mem (Kr Sn))), g, k, rfl, rfl, i⟩
theorem th (y : Value) (a0 : List Formula) (D : LO) (q a2 : Int) (T : Value) (f3 : (Formula × Formula) → Option Int) (r : List Formula) (w : World) {μ0 : lO} (h0 : ox μ0 (D ++ []) w) (h4 : lW 58 kF 5 μ0 y a0 D) (h5 : yy Tryz.prog T μ0 (wv kF kF) (fun (r : Int) => (.int .i64 r)) f3) (hm : oe a0 q a2 f3 = some r) :
  mo false Tryz.prog 356 [y, (.int .i64 q), (.int .i64 a2), T] w μ0 (D ++ []) (fun v L1 μ1 => ∃ S1, v = (.tuple #[]) ∧ L1 = (S1 ++ []) ∧ lW 58 kF 5 μ1 y r S1) := by
 refine sF h0 53 func356 rfl (fun n => sg (Wm (Wi rfl (Wa (ln (qt (mB (nS (fun m E W => ∃ Y J x c9, ST false (keys (D ++ [])) w W μ0 (J ++ c9) ∧ E 0 = y ∧ E 1 = (.int .i64 q) ∧ E 2 = (.int .i64 a2) ∧ E 3 = T ∧ E 8 = (.int .i64 x) ∧ lW 58 kF 5 μ0 y Y J ∧ mM a2 q f3 m Y x = some r) lB ⟨a0, D, (IntKind.i64.wrap (q + 1)), _, (n.kG St), rfl, rfl, rfl, rfl, rfl, h4, hm⟩ ?_))))))))
 rintro m E W ⟨Y, J, x, c9, n, f9, g0, d1, g1, L, c6, u⟩
 cases m with
 | zero => rw [mM] at u; cases u
 | succ h2 =>
  refine kY (sg (Wh L (Wh d1 (Wi rfl (ln (CI u rfl (fun e9 u => ?_) (fun e9 u => ?_)))))))
  ·refine kn (kY (bg (Wh L (Wa (ln (qt (CJ u (fun O E W => ∃ U d0, ST false (keys (D ++ [])) w W μ0 (U ++ d0) ∧ E 0 = y ∧ E 1 = (.int .i64 q) ∧ E 2 = (.int .i64 a2) ∧ E 3 = T ∧ E 8 = (.int .i64 x) ∧ lW 58 kF 5 μ0 y O U) (fun O f1 => ?_) ?_)))))))
   ·refine mB (nS (fun m E W => ∃ M B j b7, ST false (keys (D ++ [])) w W μ0 (B ++ b7) ∧ E 0 = y ∧ E 1 = (.int .i64 q) ∧ E 2 = (.int .i64 a2) ∧ E 3 = T ∧ E 8 = (.int .i64 x) ∧ E 9 = (.int .i64 j) ∧ lW 58 kF 5 μ0 y M B ∧ mX q f3 m M j = some O) lB ⟨Y, J, x, _, (n.kG St), f9, g0, d1, g1, L, rfl, c6, f1⟩ ?_)
    rintro m E W ⟨M, B, j, b7, n, K, Z, c0, a3, c1, G, t, I⟩
    cases m with
    | zero => rw [mX] at I; cases I
    | succ f4 =>
     refine kY (kY ?_)
     replace n := n.drew
     have d := n.has.kG (Kr Sn)
     refine mj d lQ (X 0 rfl d (kR G) (X 1 rfl d (kR Z) (X 2 rfl d (lR rfl rfl rfl) (X 3 rfl d (kR rfl) (PJ I (fun c7 E W => ∃ b9, ST false (keys (D ++ [])) w W μ0 (B ++ b9) ∧ E 0 = y ∧ E 1 = (.int .i64 q) ∧ E 2 = (.int .i64 a2) ∧ E 3 = T ∧ E 8 = (.int .i64 x) ∧ E 9 = (.int .i64 j) ∧ E 34 = (.bool c7)) (bm 17 131071) 0 ?_ (fun c7 g a4 => ?_))))))
     ·rintro k2 E W ⟨b9, n, z, c2, c3, c4, c5, H, e8⟩ c
      have d := n.has.kG (Kr Sn)
      refine ms kr (kT (CI c e8 (fun d3 c => ?_) (fun d3 c => ?_)))
      ·refine kn (kY (mB ?_))
       replace n := n.drew
       have d := n.has.kG Sn
       have p := n.has.kG (Kr Sn)
       refine we 15 d p lQ (mz 0 rfl kr (.inl rfl) rfl dc (fun _ _ h => ⟨h.1, mV br h.2⟩) ⟨d, fun _ => p⟩ (fun _ _ _ _ => kR z) (mz 1 rfl kr (.inl rfl) rfl dc (fun _ _ h => ⟨h.1, mV br h.2⟩) ⟨d, fun _ => p⟩ (fun _ _ _ _ => kR H) (mz 2 rfl kr (.inl rfl) rfl dc (fun _ _ h => ⟨h.1, mV br h.2⟩) ⟨d, fun _ => p⟩ (fun _ _ _ _ => kR z) (mz 3 rfl kr (.inl rfl) rfl dc (fun _ _ h => ⟨h.1, mV br h.2⟩) ⟨d, fun _ => p⟩ (fun _ _ _ _ => kR H) (mz 4 rfl kr (.inl rfl) rfl dc (fun _ _ h => ⟨h.1, mV br h.2⟩) ⟨d, fun _ => p⟩ (fun _ _ _ _ => lR rfl rfl rfl) (mz 5 rfl kr (.inl rfl) rfl dc (fun _ _ h => ⟨h.1, mV br h.2⟩) ⟨d, fun _ => p⟩ (fun _ _ _ _ => kR z) (mz 6 rfl kr (.inl rfl) rfl dc (fun _ _ h => ⟨h.1, mV br h.2⟩) ⟨d, fun _ => p⟩ (fun _ _ _ _ => kR H) (mz 7 rfl kr (.inl rfl) rfl dc (fun _ _ h => ⟨h.1, mV br h.2⟩) ⟨d, fun _ => p⟩ (fun _ _ _ _ => lR rfl rfl rfl) (bS c fun a5 b0 c => rT 8 rfl kr (.inl rfl) rfl dc (fun _ _ h => ⟨h.1, mV br h.2⟩) ⟨d, fun _ => p⟩ (mJ (i := (IntKind.i64.wrap (j - 1))) kF.out aD aC rfl rfl t (lN b0) (lM b0)) (fun i9 ⟨_, ⟨j8, rfl, a8⟩, d6, h6⟩ => mz 9 rfl kr (.inl rfl) rfl dc (fun _ _ h => ⟨h.1, mV br h.2⟩) ⟨d, fun _ => p⟩ (fun l W A P => have s := (P.2 (A.Ej 15 [9] kr rfl)); kI rfl (lz (oC.hp _) (d6.mono (nl (fun b o F => s.2 b o (Ml F)))) aK aC)) (mz 10 rfl kr (.inl rfl) rfl dc (fun _ _ h => ⟨h.1, mV br h.2⟩) ⟨d, fun _ => p⟩ (fun _ _ _ _ => kR z) (mz 11 rfl kr (.inl rfl) rfl dc (fun _ _ h => ⟨h.1, mV br h.2⟩) ⟨d, fun _ => p⟩ (fun _ _ _ _ => kR H) (bS c fun k b1 c => ?_)))))))))))))
       refine rT 12 rfl kr (.inl rfl) rfl dc (fun _ _ h => ⟨h.1, mV br h.2⟩) ⟨d, fun _ => p⟩ (mJ (i := j) kF.out aD aC rfl rfl t (lN b1) (lM b1)) (fun j0 ⟨_, ⟨j9, rfl, a9⟩, d7, h7⟩ => mz 13 rfl kr (.inl rfl) rfl dc (fun _ _ h => ⟨h.1, mV br h.2⟩) ⟨d, fun _ => p⟩ (fun l W A P => have s := (P.2 (A.Ej 15 [13] kr rfl)); kI rfl (lz (oC.hp _) (d7.mono (nl (fun b o F => s.2 b o (Ml F)))) aK aC)) (bS c fun k3 N c => rT 14 rfl kr (.inl rfl) rfl dc (fun _ _ h => ⟨h.1, mV br h.2⟩) ⟨d, fun _ => p⟩ (mJ (i := j) kF.out aD aC rfl rfl t (lN N) (lM N)) (fun j3 ⟨_, ⟨k0, rfl, i2⟩, i0, d4⟩ => ?_)))
       obtain ⟨e3, e6, rfl⟩ := a8.form
       refine XO 15 rfl (rO (x1 := a5) kL n t rfl rfl (kF.mk ⟨(.slice e3 a5.Kids.length e6), rfl, a8⟩) d4 (lM N) aC (fun i6 i4 n R => ?_))
       have d := n.has.kG Sn
       refine ⟨⟨d, fun h => AQ kr h⟩, (bS c fun k4 Q c => rT 16 rfl kr (.inl rfl) rfl dc (fun _ _ h => ⟨h.1, mV br h.2⟩) ⟨d, fun h => AQ kr h⟩ (mJ (i := (IntKind.i64.wrap (j - 1))) kF.out aD aC rfl rfl R (lN Q) (lM Q)) (fun j4 ⟨_, ⟨k1, rfl, i3⟩, i1, d5⟩ => ?_))⟩
       obtain ⟨e4, e7, rfl⟩ := a9.form
       refine XO 17 rfl (rO (x1 := (⟨k.Op, k.K, k.kC, k.Kids⟩ : Formula)) kL n R rfl rfl (kF.mk ⟨(.slice e4 k.Kids.length e7), rfl, a9⟩) d5 (lM Q) aC (fun i7 e5 n d2 => ?_))
       have d := n.has.kG Sn
       exact ⟨⟨d, fun h => AQ kr h⟩, (ms kr (lK (kT (kV (Wh H (Wi rfl (Wa (ln ⟨f4, bB _, ((M.set (Int.toNat j) a5).set (Int.toNat (IntKind.i64.wrap (j - 1))) (⟨k.Op, k.K, k.kC, k.Kids⟩ : Formula)), e5, (IntKind.i64.wrap (j - 1)), _, (n.kG St), z, c2, c3, c4, c5, rfl, d2, c⟩))))))))⟩
      refine nM (nB (nB (qe (kT ?_))))
      obtain rfl := sj c
      exact ⟨B, _, (n.kG St), z, c2, c3, c4, c5, t⟩
     refine bC g (fun a g => ?_) (fun a g => ?_)
     ·refine Xg 4 rfl rfl (cB a) d (kR a3) (Xg 5 rfl rfl (cB a) d (kR K) (Xg 6 rfl rfl (cB a) d (kR G) (bS g fun f7 b2 g => rT 7 rfl kr (.inr ⟨3, true, 21, rfl, rfl, by decide, (cB a)⟩) rfl dc (fun _ _ h => h) d (mJ (i := j) kF.out aD aC rfl rfl t (lN b2) (lM b2)) (fun j5 ⟨_, ⟨f5, rfl, e1⟩, d8, h8⟩ => rM 8 rfl rfl (cB a) d (fun _ s => kI rfl (lz (oC.hp _) (d8.mono (nl (fun b o F => s.2 b o (Ml F)))) aK aC)) (Xg 9 rfl rfl (cB a) d (kR K) (Xg 10 rfl rfl (cB a) d (kR G) (Xg 11 rfl rfl (cB a) d (lR rfl rfl rfl) (bS g fun f8 b3 g => rT 12 rfl kr (.inr ⟨3, true, 21, rfl, rfl, by decide, (cB a)⟩) rfl dc (fun _ _ h => h) d (mJ (i := (IntKind.i64.wrap (j - 1))) kF.out aD aC rfl rfl t (lN b3) (lM b3)) (fun j6 ⟨_, ⟨f6, rfl, e2⟩, d9, h9⟩ => rM 13 rfl rfl (cB a) d (fun _ s => kI rfl (lz (oC.hp _) (d9.mono (nl (fun b o F => s.2 b o (Ml F)))) aK aC)) (bS g fun j7 e0 g => AV 14 rfl rfl (cB a) (zH (f7, f8) n h5 (lm.refl _) (wv.mk kL kL (kF.mk ⟨f5, rfl, e1⟩) (kF.mk ⟨f6, rfl, e2⟩) n.kN) rfl (yg rfl rfl) e0 (fun i8 n => ?_))))))))))))
      have d := n.has.kG (Kr Sn)
      refine ⟨d, (Xg 15 rfl rfl (cB a) d (lR rfl rfl rfl) (X 16 rfl d (li (cB a) rfl) ?_))⟩
      obtain rfl := sj g
      refine nu kr (a4 _ _ ⟨_, (n.kG St), K, Z, c0, a3, c1, G, rfl⟩)
     refine Xn 4 rfl rfl (cB a) d (Xn 5 rfl rfl (cB a) d (Xn 6 rfl rfl (cB a) d (Xn 7 rfl rfl (cB a) d (Xn 8 rfl rfl (cB a) d (Xn 9 rfl rfl (cB a) d (Xn 10 rfl rfl (cB a) d (Xn 11 rfl rfl (cB a) d (Xn 12 rfl rfl (cB a) d (Xn 13 rfl rfl (cB a) d (Xn 14 rfl rfl (cB a) d (Xn 15 rfl rfl (cB a) d (X 16 rfl d (lj (cB a) rfl) ?_))))))))))))
     obtain rfl := sj g
     refine nu kr (a4 _ _ ⟨_, (n.kG St), K, Z, c0, a3, c1, G, rfl⟩)
   rintro h1 E W ⟨U, d0, n, g2, g3, g4, g7, g8, f2⟩ f0
   exact lK (kT (kV (Wh g8 (Wi rfl (Wa (ln ⟨h2, bB _, h1, U, (IntKind.i64.wrap (x + 1)), _, (n.kG St), g2, g3, g4, g7, rfl, f2, f0⟩))))))
  refine nM (nB (nB (qe (kT (rH ?_)))))
  obtain rfl := sj u
  exact pU rfl ⟨_, _, _, rfl, (n.mW (Kr Sn)), (lm.refl _), Lo.refl, (ST.lU n (nn.mem (Kr Sn))), J, rfl, rfl, c6⟩
theorem rh (x : Value) (a0 : List Formula) (t : LO) (G H a3 : Int) (a5 : Value) (f4 : (Formula × Formula) → Option Int) (r : List Formula) (w : World) {Y : lO} (h0 : ox Y (t ++ []) w) (c0 : lW 58 kF 5 Y x a0 t) (d5 : yy Tryz.prog a5 Y (wv kF kF) (fun (r : Int) => (.int .i64 r)) f4) (hm : nX a0 G H a3 f4 = some r) :
  mo true Tryz.prog 367 [x, (.int .i64 G), (.int .i64 H), (.int .i64 a3), a5] w Y (t ++ []) (fun v L1 μ1 => ∃ S1, v = (.tuple #[]) ∧ L1 = (S1 ++ []) ∧ lW 58 kF 5 μ1 x r S1) := by
 refine sF h0 38 func367 rfl (fun p => sg (Wa (ln (qt (mB (nS (fun m E W => ∃ D y c Z, ST true (keys (t ++ [])) w W Y (y ++ Z) ∧ E 0 = x ∧ E 1 = (.int .i64 G) ∧ E 2 = (.int .i64 H) ∧ E 3 = (.int .i64 a3) ∧ E 10 = (.int .i64 c) ∧ lW 58 kF 5 Y x D y ∧ nw a3 H G m D c = some r) lB ⟨a0, t, 0, _, (p.kG St), rfl, rfl, rfl, rfl, rfl, c0, hm⟩ ?_))))))
 rintro m E W ⟨D, y, c, Z, p, u, I, J, a4, k, j, a⟩
 cases m with
 | zero => rw [nw] at a; cases a
 | succ c1 =>
  refine kY (sg (Wh k (Wh a4 (Wi rfl (ln (CI a rfl (fun P a => ?_) (fun P a => ?_)))))))
  ·refine kn (kY (mB ?_))
   replace p := p.drew
   have d := p.has.kG Sn
   have n := p.has.kG (Kr Sn)
   refine we 21 d n lQ (mz 0 rfl kr (.inl rfl) rfl dc (fun _ _ h => ⟨h.1, mV br h.2⟩) ⟨d, fun _ => n⟩ (fun _ _ _ _ => kR u) (mz 1 rfl kr (.inl rfl) rfl dc (fun _ _ h => ⟨h.1, mV br h.2⟩) ⟨d, fun _ => n⟩ (fun _ _ _ _ => kR I) (mz 2 rfl kr (.inl rfl) rfl dc (fun _ _ h => ⟨h.1, mV br h.2⟩) ⟨d, fun _ => n⟩ (fun _ _ _ _ => kR k) (mz 3 rfl kr (.inl rfl) rfl dc (fun _ _ h => ⟨h.1, mV br h.2⟩) ⟨d, fun _ => n⟩ (fun _ _ _ _ => lR rfl rfl rfl) (mz 4 rfl kr (.inl rfl) rfl dc (fun _ _ h => ⟨h.1, mV br h.2⟩) ⟨d, fun _ => n⟩ (fun _ _ _ _ => kR u) (mz 5 rfl kr (.inl rfl) rfl dc (fun _ _ h => ⟨h.1, mV br h.2⟩) ⟨d, fun _ => n⟩ (fun _ _ _ _ => kR J) (mz 6 rfl kr (.inl rfl) rfl dc (fun _ _ h => ⟨h.1, mV br h.2⟩) ⟨d, fun _ => n⟩ (fun _ _ _ _ => kR k) (mz 7 rfl kr (.inl rfl) rfl dc (fun _ _ h => ⟨h.1, mV br h.2⟩) ⟨d, fun _ => n⟩ (fun _ _ _ _ => lR rfl rfl rfl) (mz 8 rfl kr (.inl rfl) rfl dc (fun _ _ h => ⟨h.1, mV br h.2⟩) ⟨d, fun _ => n⟩ (fun _ _ _ _ => kR u) (mz 9 rfl kr (.inl rfl) rfl dc (fun _ _ h => ⟨h.1, mV br h.2⟩) ⟨d, fun _ => n⟩ (fun _ _ _ _ => kR J) (mz 10 rfl kr (.inl rfl) rfl dc (fun _ _ h => ⟨h.1, mV br h.2⟩) ⟨d, fun _ => n⟩ (fun _ _ _ _ => kR k) (mz 11 rfl kr (.inl rfl) rfl dc (fun _ _ h => ⟨h.1, mV br h.2⟩) ⟨d, fun _ => n⟩ (fun _ _ _ _ => lR rfl rfl rfl) (bS a fun K T a => rT 12 rfl kr (.inl rfl) rfl dc (fun _ _ h => ⟨h.1, mV br h.2⟩) ⟨d, fun _ => n⟩ (mJ (i := (IntKind.i64.wrap (H + c))) kF.out aD aC rfl rfl j (lN T) (lM T)) (fun d6 ⟨_, ⟨e0, rfl, N⟩, b1, c4⟩ => ?_))))))))))))))
   refine mz 13 rfl kr (.inl rfl) rfl dc (fun _ _ h => ⟨h.1, mV br h.2⟩) ⟨d, fun _ => n⟩ (fun l W q F => have s := (F.2 (q.Ej 21 [13] kr rfl)); kI rfl (lz (oC.hp _) (b1.mono (nl (fun b o A => s.2 b o (Ml A)))) aK aC)) (mz 14 rfl kr (.inl rfl) rfl dc (fun _ _ h => ⟨h.1, mV br h.2⟩) ⟨d, fun _ => n⟩ (fun _ _ _ _ => kR u) (mz 15 rfl kr (.inl rfl) rfl dc (fun _ _ h => ⟨h.1, mV br h.2⟩) ⟨d, fun _ => n⟩ (fun _ _ _ _ => kR I) (mz 16 rfl kr (.inl rfl) rfl dc (fun _ _ h => ⟨h.1, mV br h.2⟩) ⟨d, fun _ => n⟩ (fun _ _ _ _ => kR k) (mz 17 rfl kr (.inl rfl) rfl dc (fun _ _ h => ⟨h.1, mV br h.2⟩) ⟨d, fun _ => n⟩ (fun _ _ _ _ => lR rfl rfl rfl) (bS a fun g U a => rT 18 rfl kr (.inl rfl) rfl dc (fun _ _ h => ⟨h.1, mV br h.2⟩) ⟨d, fun _ => n⟩ (mJ (i := (IntKind.i64.wrap (G + c))) kF.out aD aC rfl rfl j (lN U) (lM U)) (fun d7 ⟨_, ⟨e1, rfl, Q⟩, b2, c5⟩ => mz 19 rfl kr (.inl rfl) rfl dc (fun _ _ h => ⟨h.1, mV br h.2⟩) ⟨d, fun _ => n⟩ (fun l W q F => have s := (F.2 (q.Ej 21 [19] kr rfl)); kI rfl (lz (oC.hp _) (b2.mono (nl (fun b o A => s.2 b o (Ml A)))) aK aC)) (bS a fun e5 z a => rT 20 rfl kr (.inl rfl) rfl dc (fun _ _ h => ⟨h.1, mV br h.2⟩) ⟨d, fun _ => n⟩ (mJ (i := (IntKind.i64.wrap (G + c))) kF.out aD aC rfl rfl j (lN z) (lM z)) (fun d8 ⟨_, ⟨e2, rfl, c8⟩, c6, a9⟩ => ?_))))))))
   let L := (⟨g.Op, g.K, g.kC, g.Kids⟩ : Formula)
   obtain ⟨b3, b7, rfl⟩ := N.form
   refine XO 21 rfl (rO (x1 := K) kL p j rfl rfl (kF.mk ⟨(.slice b3 K.Kids.length b7), rfl, N⟩) a9 (lM z) aC (fun d2 d1 p M => ?_))
   have d := p.has.kG Sn
   refine ⟨⟨d, fun h => AQ kr h⟩, (bS a fun e6 B a => rT 22 rfl kr (.inl rfl) rfl dc (fun _ _ h => ⟨h.1, mV br h.2⟩) ⟨d, fun h => AQ kr h⟩ (mJ (i := (IntKind.i64.wrap (H + c))) kF.out aD aC rfl rfl M (lN B) (lM B)) (fun d9 ⟨_, ⟨e3, rfl, c9⟩, c7, R⟩ => ?_))⟩
   obtain ⟨b4, b9, rfl⟩ := Q.form
   refine XO 23 rfl (rO (x1 := L) kL p M rfl rfl (kF.mk ⟨(.slice b4 g.Kids.length b9), rfl, Q⟩) R (lM B) aC (fun d3 b5 p O => ?_))
   have d := p.has.kG Sn
   exact ⟨⟨d, fun h => AQ kr h⟩, (ms kr (lK (kT (kV (Wh k (Wi rfl (Wa (ln ⟨c1, bB _, ((D.set (Int.toNat (IntKind.i64.wrap (G + c))) K).set (Int.toNat (IntKind.i64.wrap (H + c))) L), b5, (IntKind.i64.wrap (c + 1)), _, (p.kG St), u, I, J, a4, rfl, O, a⟩))))))))⟩
  refine nM (nB (nB (qe (kT (rH ?_)))))
  obtain rfl := sj a
  exact pU rfl ⟨_, _, _, rfl, (p.mW (Kr Sn)), (lm.refl _), Lo.refl, (ST.lU p (nn.mem (Kr Sn))), y, rfl, rfl, j⟩
theorem zu (k : Value) (a0 : List Formula) (y : LO) (q D a3 : Int) (B : Value) (U : (Formula × Formula) → Option Int) (r : List Formula) (w : World) {T : lO} (h0 : ox T (y ++ []) w) (c5 : lW 58 kF 5 T k a0 y) (Q : yy Tryz.prog B T (wv kF kF) (fun (r : Int) => (.int .i64 r)) U) (hm : nT a0 q D a3 U = some r) :
  mo true Tryz.prog 364 [k, (.int .i64 q), (.int .i64 D), (.int .i64 a3), B] w T (y ++ []) (fun v L1 μ1 => ∃ S1, v = (.tuple #[]) ∧ L1 = (S1 ++ []) ∧ lW 58 kF 5 μ1 k r S1) := by
 refine sF h0 58 func364 rfl (fun b => sg (Wm (Wm (Wi rfl (Wa (lr (Wm (Wm (Wi rfl (Wa ?_))))))))))
 refine ln (kY (mB (nS (fun m E W => ∃ z x c t I Y, lm T I ∧ Lo (keys (y ++ [])) w T I ∧ ST true (keys (y ++ [])) w W I (x ++ Y) ∧ E 0 = k ∧ E 2 = (.int .i64 D) ∧ E 4 = B ∧ E 10 = (.int .i64 c) ∧ E 11 = (.int .i64 t) ∧ lW 58 kF 5 I k z x ∧ nH D U m z c t = some r) lB ⟨a0, y, (IntKind.i64.wrap (D - q)), (IntKind.i64.wrap (a3 - D)), T, _, (lm.refl _), Lo.refl, (b.kG St), rfl, rfl, rfl, rfl, rfl, c5, hm⟩ ?_)))
 rintro m E W ⟨z, x, c, t, I, Y, i, d, b, G, j, H, g, u, J, a⟩
 let a2 := (IntKind.i64.wrap (D - c))
 cases m with
 | zero => rw [nH] at a; cases a
 | succ s =>
  refine kY (sg (Wh g (Wh u (Wi rfl (ln (CI a rfl (fun A a => ?_) (fun A a => ?_)))))))
  ·refine kn (bg (Wh g (Wh u (Wi rfl (ln (CI a rfl (fun F a => ?_) (fun F a => ?_)))))))
   ·refine sg (Wh G (Wh j (Wh g (Wi rfl (Wh j (Wh u (Wh H (bS a fun c6 L a => ?_))))))))
    refine VE (eD b (Cr Qz Cn) call367 (fun p => (rh k z x a2 D t B U _ _ p J (Q.mono i) L)) ?_)
    rintro _ e0 c8 d2 b Z h ⟨b9, K, rfl, R⟩
    obtain rfl := K.symm
    replace b := b.perm (Tr Tn)
    exact ln (kV (Wh g (Wh u (Wi rfl (Wa (lH (lK (kT ⟨s, bB _, c6, b9, (IntKind.i64.wrap (c - t)), t, c8, _, (i.trans Z), (d.trans h), (b.kG St), G, j, H, rfl, u, R, a⟩))))))))
   refine sg (Wh G (Wh j (Wh g (Wi rfl (Wh j (Wh u (Wi rfl (Wh g (Wi rfl (Wh g (Wh H (bS a fun c7 O a => ?_))))))))))))
   refine VE (eD b (Cr Qz Cn) call367 (fun p => (rh k z x a2 (IntKind.i64.wrap ((IntKind.i64.wrap (D + t)) - c)) c B U _ _ p J (Q.mono i) O)) ?_)
   rintro _ e1 c9 d3 b a4 l ⟨c0, M, rfl, b6⟩
   obtain rfl := M.symm
   replace b := b.perm (Tr Tn)
   exact ln (kV (Wh u (Wh g (Wi rfl (Wa (lH (lK (kT ⟨s, bB _, c7, c0, c, (IntKind.i64.wrap (t - c)), c9, _, (i.trans a4), (d.trans l), (b.kG St), G, j, H, g, rfl, b6, a⟩))))))))
  refine nM (nB (nB (qe (kT (kV (Wh G (Wh j (Wh g (Wi rfl (Wh j (Wh g (Wh H (bS a fun d9 P a => ?_)))))))))))))
  refine VE (eD b (Cr Qz Cn) call367 (fun p => (rh k z x a2 D c B U _ _ p J (Q.mono i) P)) ?_)
  rintro _ e2 e4 d4 b a5 n ⟨c1, N, rfl, b7⟩
  obtain rfl := N.symm
  replace b := b.perm (Tr Tn)
  refine lH (rH ?_)
  obtain rfl := sj a
  exact pU rfl ⟨_, _, _, rfl, (b.mW (Kr Sn)), (i.trans a5), (d.trans n), (ST.lU b (nn.mem (Kr Sn))), c1, rfl, rfl, b7⟩
set_option maxHeartbeats 1000000 in
theorem xr (t6 : (List Formula) → Int → Int → Int → ((Formula × Formula) → Option Int) → Option (List Formula)) (s6 : ∀ (t : Value) (a0 : List Formula) (c : LO) (z : Int) (M : Int) (B : Int) (D : Value) (f4 : (Formula × Formula) → Option Int) (r : List Formula) (w : World) {U : lO} (h0 : ox U (c ++ []) w) (a5 : lW 58 kF 5 U t a0 c) (c6 : yy Tryz.prog D U (wv kF kF) (fun (r : Int) => (.int .i64 r)) f4), t6 a0 z M B f4 = some r → mo false Tryz.prog 357 [t, (.int .i64 z), (.int .i64 M), (.int .i64 B), D] w U (c ++ []) (fun v L1 μ1 => ∃ S1, v = (.tuple #[]) ∧ L1 = (S1 ++ []) ∧ lW 58 kF 5 μ1 t r S1)) (t : Value) (a0 : List Formula) (c : LO) (z M B : Int) (D : Value) (f4 : (Formula × Formula) → Option Int) (r : List Formula) (w : World) {U : lO} (h0 : ox U (c ++ []) w) (a5 : lW 58 kF 5 U t a0 c) (c6 : yy Tryz.prog D U (wv kF kF) (fun (r : Int) => (.int .i64 r)) f4) (hm : pX t6 a0 z M B f4 = some r) :
  mo false Tryz.prog 357 [t, (.int .i64 z), (.int .i64 M), (.int .i64 B), D] w U (c ++ []) (fun v L1 μ1 => ∃ S1, v = (.tuple #[]) ∧ L1 = (S1 ++ []) ∧ lW 58 kF 5 μ1 t r S1) := by
 refine sF h0 220 func357 rfl (fun d => kY (sg (Wm (Wm (Wi rfl (Wi rfl (ln (CI hm rfl (fun ae hm => ?_) (fun ae hm => ?_)))))))))
 ·refine sg (Wm (Wa (lr (Wm (Wa (ln (kY (mB (nS (fun m E W => ∃ T a9 o3, ST false (keys (c ++ [])) w W U (c ++ o3) ∧ E 0 = t ∧ E 1 = (.int .i64 z) ∧ E 4 = D ∧ E 10 = (.int .i64 T) ∧ E 11 = (.int .i64 a9) ∧ mD a0 z f4 m T a9 = some r) lB ⟨M, B, _, (d.kG St), rfl, rfl, rfl, rfl, rfl, hm⟩ ?_)))))))))
  rintro m E W ⟨T, a9, o3, d, e4, h8, k3, h9, k4, y⟩
  cases m with
  | zero => rw [mD] at y; cases y
  | succ t5 =>
   refine kY (sg (Wh h9 (Wh k4 (Wi rfl (ln (CI y rfl (fun w9 y => ?_) (fun w9 y => ?_)))))))
   ·refine kn (bg (Wh h9 (Wh k4 (Wi rfl (V (sr (k' := .i64) (a := (IntKind.i64.wrap (T + a9))) eT gI rfl) (V (HE (a := (IntKind.u64.wrap (IntKind.i64.wrap (T + a9)))) (b := 1) rfl rfl dc) (V (sr (k' := .u64) (a := (Int.fdiv (IntKind.u64.wrap (IntKind.i64.wrap (T + a9))) (2 ^ min (Int.toNat 1) (IntKind.bits .u64)))) gI eT rfl) (Wa (ln (kY ?_))))))))))
    let e3 := (Int.fdiv (IntKind.u64.wrap (IntKind.i64.wrap (T + a9))) (2 ^ min (Int.toNat 1) (IntKind.bits .u64)))
    replace d := d.drew
    have n := d.has.kG (Kr Sn)
    refine mj n lQ (X 0 rfl n (kR k3) (X 1 rfl n (kR e4) (X 2 rfl n (kR rfl) (bS y fun aa n1 y => XQ 3 rfl n (mJ (i := (IntKind.i64.wrap e3)) kF.out aD aC rfl rfl a5 (lN n1) (lM n1)) (fun di ⟨_, ⟨z7, rfl, x7⟩, x4, bp⟩ => XH 4 rfl n (fun _ s => kI rfl (lz (oC.hp _) (x4.mono (nl (fun b o A => s.2 b o (Ml A)))) aK aC)) (X 5 rfl n (kR e4) (X 6 rfl n (kR h8) (bS y fun ab n2 y => XQ 7 rfl n (mJ (i := z) kF.out aD aC rfl rfl a5 (lN n2) (lM n2)) (fun dj ⟨_, ⟨z8, rfl, x8⟩, x5, bq⟩ => XH 8 rfl n (fun _ s => kI rfl (lz (oC.hp _) (x5.mono (nl (fun b o A => s.2 b o (Ml A)))) aK aC)) (bS y fun dk x6 y => XE 9 rfl (zH (aa, ab) d c6 (lm.refl _) (wv.mk kL kL (kF.mk ⟨z7, rfl, x7⟩) (kF.mk ⟨z8, rfl, x8⟩) d.kN) rfl (yg rfl rfl) x6 (fun dg d => ?_))))))))))))
    have n := d.has.kG (Kr Sn)
    refine ⟨n, (X 10 rfl n (lR rfl rfl rfl) (ms kr (kT (CI y rfl (fun x0 y => ?_) (fun x0 y => ?_)))))⟩
    ·exact kV (Wm (Wi rfl (Wa (lH (lK (kT ⟨t5, bB _, (IntKind.i64.wrap ((IntKind.i64.wrap e3) + 1)), a9, _, (d.kG St), e4, h8, k3, rfl, k4, y⟩))))))
    exact kV (Wm (Wa (lH (lK (kT ⟨t5, bB _, T, (IntKind.i64.wrap e3), _, (d.kG St), e4, h8, k3, h9, rfl, y⟩)))))
   refine nM (nB (nB (qe (kT (kY (sg (Wh h8 (Wa (ln (CJ y (fun k5 E W => ∃ f7 o4, ST false (keys (c ++ [])) w W U (f7 ++ o4) ∧ lW 58 kF 5 U t k5 f7) (fun k5 x3 => ?_) ?_))))))))))
   ·refine mB (nS (fun m E W => ∃ i0 f8 R k6, ST false (keys (c ++ [])) w W U (f8 ++ k6) ∧ E 0 = t ∧ E 10 = (.int .i64 T) ∧ E 13 = (.int .i64 R) ∧ lW 58 kF 5 U t i0 f8 ∧ nA T m i0 R = some k5) lB ⟨a0, c, z, _, (d.kG St), e4, h9, rfl, a5, x3⟩ ?_)
    rintro m E W ⟨i0, f8, R, k6, d, c7, l7, c0, d1, u⟩
    cases m with
    | zero => rw [nA] at u; cases u
    | succ y2 =>
     refine kY (sg (Wh c0 (Wh l7 (Wi rfl (Wi rfl (ln (CI u rfl (fun p1 u => ?_) (fun p1 u => ?_))))))))
     ·refine kn (kY (mB ?_))
      replace d := d.drew
      have n := d.has.kG Sn
      have p := d.has.kG (Kr Sn)
      refine we 15 n p lQ (mz 0 rfl kr (.inl rfl) rfl dc (fun _ _ h => ⟨h.1, mV (by rfl) h.2⟩) ⟨n, fun _ => p⟩ (fun _ _ _ _ => kR c7) (mz 1 rfl kr (.inl rfl) rfl dc (fun _ _ h => ⟨h.1, mV (by rfl) h.2⟩) ⟨n, fun _ => p⟩ (fun _ _ _ _ => kR c0) (mz 2 rfl kr (.inl rfl) rfl dc (fun _ _ h => ⟨h.1, mV (by rfl) h.2⟩) ⟨n, fun _ => p⟩ (fun _ _ _ _ => kR c7) (mz 3 rfl kr (.inl rfl) rfl dc (fun _ _ h => ⟨h.1, mV (by rfl) h.2⟩) ⟨n, fun _ => p⟩ (fun _ _ _ _ => kR c0) (mz 4 rfl kr (.inl rfl) rfl dc (fun _ _ h => ⟨h.1, mV (by rfl) h.2⟩) ⟨n, fun _ => p⟩ (fun _ _ _ _ => lR rfl rfl rfl) (mz 5 rfl kr (.inl rfl) rfl dc (fun _ _ h => ⟨h.1, mV (by rfl) h.2⟩) ⟨n, fun _ => p⟩ (fun _ _ _ _ => kR c7) (mz 6 rfl kr (.inl rfl) rfl dc (fun _ _ h => ⟨h.1, mV (by rfl) h.2⟩) ⟨n, fun _ => p⟩ (fun _ _ _ _ => kR c0) (mz 7 rfl kr (.inl rfl) rfl dc (fun _ _ h => ⟨h.1, mV (by rfl) h.2⟩) ⟨n, fun _ => p⟩ (fun _ _ _ _ => lR rfl rfl rfl) (bS u fun i3 j5 u => rT 8 rfl kr (.inl rfl) rfl dc (fun _ _ h => ⟨h.1, mV (by rfl) h.2⟩) ⟨n, fun _ => p⟩ (mJ (i := (IntKind.i64.wrap (R + 1))) kF.out aD aC rfl rfl d1 (lN j5) (lM j5)) (fun bt ⟨_, ⟨cl, rfl, i7⟩, r3, af⟩ => mz 9 rfl kr (.inl rfl) rfl dc (fun _ _ h => ⟨h.1, mV (by rfl) h.2⟩) ⟨n, fun _ => p⟩ (fun l W F hs => have s := (hs.2 (F.Ej 15 [9] kr rfl)); kI rfl (lz (oC.hp _) (r3.mono (nl (fun b o A => s.2 b o (Ml A)))) aK aC)) (mz 10 rfl kr (.inl rfl) rfl dc (fun _ _ h => ⟨h.1, mV (by rfl) h.2⟩) ⟨n, fun _ => p⟩ (fun _ _ _ _ => kR c7) (mz 11 rfl kr (.inl rfl) rfl dc (fun _ _ h => ⟨h.1, mV (by rfl) h.2⟩) ⟨n, fun _ => p⟩ (fun _ _ _ _ => kR c0) (bS u fun Y j6 u => ?_)))))))))))))
      refine rT 12 rfl kr (.inl rfl) rfl dc (fun _ _ h => ⟨h.1, mV (by rfl) h.2⟩) ⟨n, fun _ => p⟩ (mJ (i := R) kF.out aD aC rfl rfl d1 (lN j6) (lM j6)) (fun bu ⟨_, ⟨cm, rfl, i8⟩, r4, ag⟩ => mz 13 rfl kr (.inl rfl) rfl dc (fun _ _ h => ⟨h.1, mV (by rfl) h.2⟩) ⟨n, fun _ => p⟩ (fun l W F hs => have s := (hs.2 (F.Ej 15 [13] kr rfl)); kI rfl (lz (oC.hp _) (r4.mono (nl (fun b o A => s.2 b o (Ml A)))) aK aC)) (bS u fun cw e9 u => rT 14 rfl kr (.inl rfl) rfl dc (fun _ _ h => ⟨h.1, mV (by rfl) h.2⟩) ⟨n, fun _ => p⟩ (mJ (i := R) kF.out aD aC rfl rfl d1 (lN e9) (lM e9)) (fun bv ⟨_, ⟨cn, rfl, ar⟩, an, q2⟩ => ?_)))
      obtain ⟨t7, u6, rfl⟩ := i7.form
      refine XO 15 rfl (rO (x1 := i3) kL d d1 rfl rfl (kF.mk ⟨(.slice t7 i3.Kids.length u6), rfl, i7⟩) q2 (lM e9) aC (fun be bc d i5 => ?_))
      have n := d.has.kG Sn
      refine ⟨⟨n, fun h => AQ kr h⟩, (bS u fun cx f0 u => rT 16 rfl kr (.inl rfl) rfl dc (fun _ _ h => ⟨h.1, mV (by rfl) h.2⟩) ⟨n, fun h => AQ kr h⟩ (mJ (i := (IntKind.i64.wrap (R + 1))) kF.out aD aC rfl rfl i5 (lN f0) (lM f0)) (fun bw ⟨_, ⟨co, rfl, au⟩, ao, q3⟩ => ?_))⟩
      obtain ⟨t8, u7, rfl⟩ := i8.form
      refine XO 17 rfl (rO (x1 := (⟨Y.Op, Y.K, Y.kC, Y.Kids⟩ : Formula)) kL d i5 rfl rfl (kF.mk ⟨(.slice t8 Y.Kids.length u7), rfl, i8⟩) q3 (lM f0) aC (fun bf u1 d o9 => ?_))
      have n := d.has.kG Sn
      exact ⟨⟨n, fun h => AQ kr h⟩, (ms kr (lK (kT (kV (Wh c0 (Wi rfl (Wa (ln ⟨y2, bB _, ((i0.set (Int.toNat R) i3).set (Int.toNat (IntKind.i64.wrap (R + 1))) (⟨Y.Op, Y.K, Y.kC, Y.Kids⟩ : Formula)), u1, (IntKind.i64.wrap (R + 1)), _, (d.kG St), c7, l7, rfl, o9, u⟩))))))))⟩
     refine nM (nB (nB (qe (kT ?_))))
     have q := sj u; subst q
     exact ⟨f8, _, (d.kG St), d1⟩
   rintro dh E W ⟨f7, o4, d, x9⟩ x2
   refine lC (lL ?_)
   have q := sj x2; subst q
   exact pU rfl ⟨_, _, _, rfl, (d.mW (Kr Sn)), (lm.refl _), Lo.refl, (ST.lU d (nn.mem (Kr Sn))), f7, rfl, rfl, x9⟩
 refine kS (Wm (Wm (Wi rfl (Wi rfl (ln (CI hm rfl (fun p2 hm => ?_) (fun p2 hm => ?_)))))))
 ·refine sg (Wm (Wa (lr (Wm (Wa (ln (kY (mB (nS (fun m E W => ∃ G N k7, ST false (keys (c ++ [])) w W U (c ++ k7) ∧ E 0 = t ∧ E 2 = (.int .i64 M) ∧ E 4 = D ∧ E 14 = (.int .i64 G) ∧ E 15 = (.int .i64 N) ∧ mF a0 M f4 m G N = some r) lB ⟨z, M, _, (d.kG St), rfl, rfl, rfl, rfl, rfl, hm⟩ ?_)))))))))
  rintro m E W ⟨G, N, k7, d, c8, d5, f9, d6, g0, j⟩
  let j1 := (IntKind.u64.wrap (IntKind.i64.wrap (G + N)))
  let b8 := (Int.fdiv j1 (2 ^ min (Int.toNat 1) (IntKind.bits .u64)))
  cases m with
  | zero => rw [mF] at j; cases j
  | succ n3 =>
   refine kY (sg (Wh d6 (Wh g0 (Wi rfl (ln (CI j rfl (fun p3 j => ?_) (fun p3 j => ?_)))))))
   ·refine kn (bg (Wh d6 (Wh g0 (Wi rfl (V (sr (k' := .i64) (a := (IntKind.i64.wrap (G + N))) eT gI rfl) (V (HE (a := j1) (b := 1) rfl rfl dc) (V (sr (k' := .u64) (a := (Int.fdiv j1 (2 ^ min (Int.toNat 1) (IntKind.bits .u64)))) gI eT rfl) (Wa (ln (kY ?_))))))))))
    replace d := d.drew
    have n := d.has.kG (Kr Sn)
    refine mj n lQ (X 0 rfl n (kR f9) (X 1 rfl n (kR c8) (X 2 rfl n (kR d5) (bS j fun y8 j7 j => XQ 3 rfl n (mJ (i := M) kF.out aD aC rfl rfl a5 (lN j7) (lM j7)) (fun bx ⟨_, ⟨y4, rfl, s7⟩, r5, ah⟩ => XH 4 rfl n (fun _ s => kI rfl (lz (oC.hp _) (r5.mono (nl (fun b o A => s.2 b o (Ml A)))) aK aC)) (X 5 rfl n (kR c8) (X 6 rfl n (kR rfl) (bS j fun y9 j8 j => XQ 7 rfl n (mJ (i := (IntKind.i64.wrap b8)) kF.out aD aC rfl rfl a5 (lN j8) (lM j8)) (fun bz ⟨_, ⟨y5, rfl, s8⟩, r6, ai⟩ => XH 8 rfl n (fun _ s => kI rfl (lz (oC.hp _) (r6.mono (nl (fun b o A => s.2 b o (Ml A)))) aK aC)) (bS j fun cg s1 j => XE 9 rfl (zH (y8, y9) d c6 (lm.refl _) (wv.mk kL kL (kF.mk ⟨y4, rfl, s7⟩) (kF.mk ⟨y5, rfl, s8⟩) d.kN) rfl (yg rfl rfl) s1 (fun bh d => ?_))))))))))))
    have n := d.has.kG (Kr Sn)
    refine ⟨n, (X 10 rfl n (lR rfl rfl rfl) (X 11 rfl n (ot rfl) (ms kr (kT (CI j rfl (fun p4 j => ?_) (fun p4 j => ?_))))))⟩
    ·exact kV (Wm (Wi rfl (Wa (lH (lK (kT ⟨n3, bB _, (IntKind.i64.wrap ((IntKind.i64.wrap b8) + 1)), N, _, (d.kG St), c8, d5, f9, rfl, g0, j⟩))))))
    exact kV (Wm (Wa (lH (lK (kT ⟨n3, bB _, G, (IntKind.i64.wrap b8), _, (d.kG St), c8, d5, f9, d6, rfl, j⟩)))))
   refine nM (nB (nB (qe (kT (kY (sg (Wh d5 (Wa (ln (CJ j (fun i1 E W => ∃ d3 k8, ST false (keys (c ++ [])) w W U (d3 ++ k8) ∧ lW 58 kF 5 U t i1 d3) (fun i1 q7 => ?_) ?_))))))))))
   ·refine mB (nS (fun m E W => ∃ e2 d4 Q k9, ST false (keys (c ++ [])) w W U (d4 ++ k9) ∧ E 0 = t ∧ E 14 = (.int .i64 G) ∧ E 17 = (.int .i64 Q) ∧ lW 58 kF 5 U t e2 d4 ∧ nz G m e2 Q = some i1) lB ⟨a0, c, M, _, (d.kG St), c8, d6, rfl, a5, q7⟩ ?_)
    rintro m E W ⟨e2, d4, Q, k9, d, c9, l8, c1, b6, x⟩
    cases m with
    | zero => rw [nz] at x; cases x
    | succ y3 =>
     refine kY (sg (Wh c1 (Wh l8 (Wi rfl (ln (CI x rfl (fun p5 x => ?_) (fun p5 x => ?_)))))))
     ·refine kn (kY (mB ?_))
      replace d := d.drew
      have n := d.has.kG Sn
      have p := d.has.kG (Kr Sn)
      refine we 15 n p lQ (mz 0 rfl kr (.inl rfl) rfl dc (fun _ _ h => ⟨h.1, mV (by rfl) h.2⟩) ⟨n, fun _ => p⟩ (fun _ _ _ _ => kR c9) (mz 1 rfl kr (.inl rfl) rfl dc (fun _ _ h => ⟨h.1, mV (by rfl) h.2⟩) ⟨n, fun _ => p⟩ (fun _ _ _ _ => kR c1) (mz 2 rfl kr (.inl rfl) rfl dc (fun _ _ h => ⟨h.1, mV (by rfl) h.2⟩) ⟨n, fun _ => p⟩ (fun _ _ _ _ => kR c9) (mz 3 rfl kr (.inl rfl) rfl dc (fun _ _ h => ⟨h.1, mV (by rfl) h.2⟩) ⟨n, fun _ => p⟩ (fun _ _ _ _ => kR c1) (mz 4 rfl kr (.inl rfl) rfl dc (fun _ _ h => ⟨h.1, mV (by rfl) h.2⟩) ⟨n, fun _ => p⟩ (fun _ _ _ _ => lR rfl rfl rfl) (mz 5 rfl kr (.inl rfl) rfl dc (fun _ _ h => ⟨h.1, mV (by rfl) h.2⟩) ⟨n, fun _ => p⟩ (fun _ _ _ _ => kR c9) (mz 6 rfl kr (.inl rfl) rfl dc (fun _ _ h => ⟨h.1, mV (by rfl) h.2⟩) ⟨n, fun _ => p⟩ (fun _ _ _ _ => kR c1) (mz 7 rfl kr (.inl rfl) rfl dc (fun _ _ h => ⟨h.1, mV (by rfl) h.2⟩) ⟨n, fun _ => p⟩ (fun _ _ _ _ => lR rfl rfl rfl) (bS x fun i4 j9 x => rT 8 rfl kr (.inl rfl) rfl dc (fun _ _ h => ⟨h.1, mV (by rfl) h.2⟩) ⟨n, fun _ => p⟩ (mJ (i := (IntKind.i64.wrap (Q - 1))) kF.out aD aC rfl rfl b6 (lN j9) (lM j9)) (fun ca ⟨_, ⟨cp, rfl, i9⟩, r7, aj⟩ => mz 9 rfl kr (.inl rfl) rfl dc (fun _ _ h => ⟨h.1, mV (by rfl) h.2⟩) ⟨n, fun _ => p⟩ (fun l W F hs => have s := (hs.2 (F.Ej 15 [9] kr rfl)); kI rfl (lz (oC.hp _) (r7.mono (nl (fun b o A => s.2 b o (Ml A)))) aK aC)) (mz 10 rfl kr (.inl rfl) rfl dc (fun _ _ h => ⟨h.1, mV (by rfl) h.2⟩) ⟨n, fun _ => p⟩ (fun _ _ _ _ => kR c9) (mz 11 rfl kr (.inl rfl) rfl dc (fun _ _ h => ⟨h.1, mV (by rfl) h.2⟩) ⟨n, fun _ => p⟩ (fun _ _ _ _ => kR c1) (bS x fun Z k0 x => ?_)))))))))))))
      refine rT 12 rfl kr (.inl rfl) rfl dc (fun _ _ h => ⟨h.1, mV (by rfl) h.2⟩) ⟨n, fun _ => p⟩ (mJ (i := Q) kF.out aD aC rfl rfl b6 (lN k0) (lM k0)) (fun cb ⟨_, ⟨cq, rfl, j0⟩, r8, ak⟩ => mz 13 rfl kr (.inl rfl) rfl dc (fun _ _ h => ⟨h.1, mV (by rfl) h.2⟩) ⟨n, fun _ => p⟩ (fun l W F hs => have s := (hs.2 (F.Ej 15 [13] kr rfl)); kI rfl (lz (oC.hp _) (r8.mono (nl (fun b o A => s.2 b o (Ml A)))) aK aC)) (bS x fun cy f1 x => rT 14 rfl kr (.inl rfl) rfl dc (fun _ _ h => ⟨h.1, mV (by rfl) h.2⟩) ⟨n, fun _ => p⟩ (mJ (i := Q) kF.out aD aC rfl rfl b6 (lN f1) (lM f1)) (fun cc ⟨_, ⟨cr, rfl, av⟩, ap, q4⟩ => ?_)))
      obtain ⟨t9, u8, rfl⟩ := i9.form
      refine XO 15 rfl (rO (x1 := i4) kL d b6 rfl rfl (kF.mk ⟨(.slice t9 i4.Kids.length u8), rfl, i9⟩) q4 (lM f1) aC (fun bi bd d i6 => ?_))
      have n := d.has.kG Sn
      refine ⟨⟨n, fun h => AQ kr h⟩, (bS x fun cz f2 x => rT 16 rfl kr (.inl rfl) rfl dc (fun _ _ h => ⟨h.1, mV (by rfl) h.2⟩) ⟨n, fun h => AQ kr h⟩ (mJ (i := (IntKind.i64.wrap (Q - 1))) kF.out aD aC rfl rfl i6 (lN f2) (lM f2)) (fun cd ⟨_, ⟨cs, rfl, aw⟩, aq, q5⟩ => ?_))⟩
      obtain ⟨u0, u9, rfl⟩ := j0.form
      refine XO 17 rfl (rO (x1 := (⟨Z.Op, Z.K, Z.kC, Z.Kids⟩ : Formula)) kL d i6 rfl rfl (kF.mk ⟨(.slice u0 Z.Kids.length u9), rfl, j0⟩) q5 (lM f2) aC (fun bj u2 d p0 => ?_))
      have n := d.has.kG Sn
      exact ⟨⟨n, fun h => AQ kr h⟩, (ms kr (lK (kT (kV (Wh c1 (Wi rfl (Wa (ln ⟨y3, bB _, ((e2.set (Int.toNat Q) i4).set (Int.toNat (IntKind.i64.wrap (Q - 1))) (⟨Z.Op, Z.K, Z.kC, Z.Kids⟩ : Formula)), u2, (IntKind.i64.wrap (Q - 1)), _, (d.kG St), c9, l8, rfl, p0, x⟩))))))))⟩
     refine nM (nB (nB (qe (kT ?_))))
     have q := sj x; subst q
     exact ⟨d4, _, (d.kG St), b6⟩
   rintro bs E W ⟨d3, k8, d, s9⟩ q6
   refine lC (lL ?_)
   have q := sj q6; subst q
   exact pU rfl ⟨_, _, _, rfl, (d.mW (Kr Sn)), (lm.refl _), Lo.refl, (ST.lU d (nn.mem (Kr Sn))), d3, rfl, rfl, s9⟩
 let g5 := (IntKind.u64.wrap (IntKind.i64.wrap (z + B)))
 refine kg (Wm (Wm (Wi rfl (V (sr (k' := .i64) (a := (IntKind.i64.wrap (z + B))) eT gI rfl) (V (HE (a := g5) (b := 1) rfl rfl dc) (V (sr (k' := .u64) (a := (Int.fdiv g5 (2 ^ min (Int.toNat 1) (IntKind.bits .u64)))) gI eT rfl) (Wa (lr ?_))))))))
 let P := (IntKind.i64.wrap (Int.fdiv g5 (2 ^ min (Int.toNat 1) (IntKind.bits .u64))))
 let e5 := (IntKind.i64.wrap (P + M))
 refine Wm (Wm (Wi rfl (Wa (lr (Wa (Wa (ln (kY (CJ hm (fun i2 E W => ∃ l0, ST false (keys (c ++ [])) w W U (c ++ l0) ∧ E 0 = t ∧ E 1 = (.int .i64 z) ∧ E 2 = (.int .i64 M) ∧ E 3 = (.int .i64 B) ∧ E 4 = D ∧ E 18 = (.int .i64 P) ∧ E 19 = (.int .i64 e5) ∧ E 20 = (.int .i64 i2.1) ∧ E 21 = (.int .i64 i2.2)) (fun i2 b5 => ?_) ?_)))))))))
 ·refine sg (Wm (Wm (Wi rfl (ln (CI b5 rfl (fun q1 b5 => ?_) (fun q1 b5 => ?_))))))
  ·refine sg (Wm (Wm (Wi rfl (Wa (ln (kV (Wm (Wa (ln ?_)))))))))
   have q := sj b5; subst q
   exact ⟨_, (d.kG St), rfl, rfl, rfl, rfl, rfl, rfl, rfl, rfl, rfl⟩
  refine sg (Wm (Wa (ln (kV (Wm (Wa (ln ?_)))))))
  have q := sj b5; subst q
  exact ⟨_, (d.kG St), rfl, rfl, rfl, rfl, rfl, rfl, rfl, rfl, rfl⟩
 rintro ⟨z0, z1⟩ E W ⟨l0, d, v0, v1, v2, v3, v4, v5, l9, v6, v7⟩ q8
 refine sg (Wh l9 (Wi rfl (Wa (ln (kY (mB (nS (fun m E W => ∃ g K l1, ST false (keys (c ++ [])) w W U (c ++ l1) ∧ E 0 = t ∧ E 1 = (.int .i64 z) ∧ E 2 = (.int .i64 M) ∧ E 3 = (.int .i64 B) ∧ E 4 = D ∧ E 18 = (.int .i64 P) ∧ E 19 = (.int .i64 e5) ∧ E 20 = (.int .i64 g) ∧ E 21 = (.int .i64 K) ∧ E 22 = (.int .i64 (IntKind.i64.wrap (e5 - 1))) ∧ mn a0 z B M f4 t6 m g K = some r) lB ⟨z0, z1, _, (d.kG St), v0, v1, v2, v3, v4, v5, l9, v6, v7, rfl, q8⟩ ?_)))))))
 rintro m E W ⟨g, K, l1, d, c2, d7, c3, d8, d0, d9, g1, b1, g2, g3, k⟩
 let g6 := (IntKind.u64.wrap (IntKind.i64.wrap (g + K)))
 let a3 := (Int.fdiv g6 (2 ^ min (Int.toNat 1) (IntKind.bits .u64)))
 let j2 := (IntKind.i64.wrap a3)
 let a2 := (IntKind.i64.wrap (e5 - g))
 cases m with
 | zero => rw [mn] at k; cases k
 | succ n4 =>
  refine kY (sg (Wh b1 (Wh g2 (Wi rfl (ln (CI k rfl (fun p6 k => ?_) (fun p6 k => ?_)))))))
  ·refine kn (bg (Wh b1 (Wh g2 (Wi rfl (V (sr (k' := .i64) (a := (IntKind.i64.wrap (g + K))) eT gI rfl) (V (HE (a := g6) (b := 1) rfl rfl dc) (V (sr (k' := .u64) (a := (Int.fdiv g6 (2 ^ min (Int.toNat 1) (IntKind.bits .u64)))) gI eT rfl) (Wa (ln (kY ?_))))))))))
   replace d := d.drew
   have n := d.has.kG (Kr Sn)
   refine mj n lQ (X 0 rfl n (kR d0) (X 1 rfl n (kR c2) (X 2 rfl n (kR g3) (X 3 rfl n (kR rfl) (X 4 rfl n (lR rfl rfl rfl) (bS k fun z2 k1 k => XQ 5 rfl n (mJ (i := (IntKind.i64.wrap ((IntKind.i64.wrap (e5 - 1)) - j2))) kF.out aD aC rfl rfl a5 (lN k1) (lM k1)) (fun ce ⟨_, ⟨y6, rfl, t0⟩, r9, al⟩ => XH 6 rfl n (fun _ s => kI rfl (lz (oC.hp _) (r9.mono (nl (fun b o A => s.2 b o (Ml A)))) aK aC)) (X 7 rfl n (kR c2) (X 8 rfl n (kR rfl) (bS k fun z3 k2 k => XQ 9 rfl n (mJ (i := (IntKind.i64.wrap a3)) kF.out aD aC rfl rfl a5 (lN k2) (lM k2)) (fun cf ⟨_, ⟨y7, rfl, t1⟩, s0, am⟩ => XH 10 rfl n (fun _ s => kI rfl (lz (oC.hp _) (s0.mono (nl (fun b o A => s.2 b o (Ml A)))) aK aC)) (bS k fun ch s2 k => ?_))))))))))))
   refine XE 11 rfl (zH (z2, z3) d c6 (lm.refl _) (wv.mk kL kL (kF.mk ⟨y6, rfl, t0⟩) (kF.mk ⟨y7, rfl, t1⟩) d.kN) rfl (yg rfl rfl) s2 (fun bk d => ?_))
   have n := d.has.kG (Kr Sn)
   refine ⟨n, (X 12 rfl n (lR rfl rfl rfl) (X 13 rfl n (ot rfl) (ms kr (kT (CI k rfl (fun p7 k => ?_) (fun p7 k => ?_))))))⟩
   ·exact kV (Wm (Wi rfl (Wa (lH (lK (kT ⟨n4, bB _, (IntKind.i64.wrap (j2 + 1)), K, _, (d.kG St), c2, d7, c3, d8, d0, d9, g1, rfl, g2, g3, k⟩))))))
   exact kV (Wm (Wa (lH (lK (kT ⟨n4, bB _, g, j2, _, (d.kG St), c2, d7, c3, d8, d0, d9, g1, b1, rfl, g3, k⟩)))))
  refine nM (nB (nB (qe (kT (sg (Wh g1 (Wh b1 (Wi rfl (Wa (ln (kY (CJ k (fun n8 E W => ∃ b7 a4 l2, lm U a4 ∧ Lo (keys (c ++ [])) w U a4 ∧ ST false (keys (c ++ [])) w W a4 (b7 ++ l2) ∧ E 0 = t ∧ E 1 = (.int .i64 z) ∧ E 3 = (.int .i64 B) ∧ E 4 = D ∧ E 18 = (.int .i64 P) ∧ E 20 = (.int .i64 g) ∧ E 24 = (.int .i64 a2) ∧ lW 58 kF 5 a4 t n8 b7) (fun n8 r2 => ?_) ?_))))))))))))
  ·refine sg (Wh b1 (Wh c3 (Wi rfl (Wm (LJ r2 (fun n9 E W => ∃ l6, ST false (keys (c ++ [])) w W U (c ++ l6) ∧ E 0 = t ∧ E 1 = (.int .i64 z) ∧ E 2 = (.int .i64 M) ∧ E 3 = (.int .i64 B) ∧ E 4 = D ∧ E 18 = (.int .i64 P) ∧ E 20 = (.int .i64 g) ∧ E 24 = (.int .i64 a2) ∧ E 185 = (.bool n9)) 4 ?_ (fun n9 b4 f6 => ?_))))))
   ·rintro de E W ⟨l6, d, h4, m8, w7, m9, h5, n0, h6, h7, w8⟩ a8
    refine ln (CI a8 w8 (fun q0 a8 => ?_) (fun q0 a8 => ?_))
    ·refine kV (Wh h4 (Wh h6 (Wh w7 (Wh h7 (Wh h5 (bS a8 fun ck s5 a8 => ?_))))))
     refine VE (eD d (Cr Qz Cn) call364 (fun hh => mo.mP (zu t a0 c g M a2 D f4 _ _ hh a5 (c6.mono (lm.refl _)) s5)) ?_)
     rintro _ cv z5 ba d o2 bl ⟨u5, e8, rfl, t4⟩
     obtain rfl := e8.symm
     replace d := d.perm (Tr Tn)
     refine ln ?_
     have q := sj a8; subst q
     exact ⟨u5, z5, _, o2, bl, (d.kG St), h4, m8, m9, h5, n0, h6, h7, t4⟩
    refine kn ?_
    have q := sj a8; subst q
    exact ⟨c, U, _, (lm.refl _), Lo.refl, (d.kG St), h4, m8, m9, h5, n0, h6, h7, a5⟩
   refine bC b4 (fun J b4 => ?_) (fun J b4 => ?_)
   ·refine ug J (kR c3) (ug J (kR rfl) (ug J (lR rfl rfl rfl) (V (li (cB J) rfl) ?_)))
    have q := sj b4; subst q
    exact f6 _ _ ⟨_, (d.kG St), c2, d7, c3, d8, d0, d9, b1, rfl, rfl⟩
   refine un J (un J (un J (V (lj (cB J) rfl) ?_)))
   have q := sj b4; subst q
   exact f6 _ _ ⟨_, (d.kG St), c2, d7, c3, d8, d0, d9, b1, rfl, rfl⟩
  rintro y0 E W ⟨b7, a4, l2, c4, L, d, m0, g4, m1, m2, g7, e0, m3, j3⟩ q9
  refine kY (CJ q9 (fun n6 E W => ∃ b9 c5 l3, lm a4 c5 ∧ Lo (keys (c ++ [])) w a4 c5 ∧ ST false (keys (c ++ [])) w W c5 (b9 ++ l3) ∧ E 0 = t ∧ E 3 = (.int .i64 B) ∧ E 4 = D ∧ E 18 = (.int .i64 P) ∧ E 24 = (.int .i64 a2) ∧ lW 58 kF 5 c5 t n6 b9) (fun n6 r1 => ?_) ?_)
  ·refine sg (Wh g4 (Wh e0 (Wi rfl (Wm (LJ r1 (fun n7 E W => ∃ l5, ST false (keys (c ++ [])) w W a4 (b7 ++ l5) ∧ E 0 = t ∧ E 1 = (.int .i64 z) ∧ E 3 = (.int .i64 B) ∧ E 4 = D ∧ E 18 = (.int .i64 P) ∧ E 20 = (.int .i64 g) ∧ E 24 = (.int .i64 a2) ∧ E 199 = (.bool n7)) 4 ?_ (fun n7 b3 f5 => ?_))))))
   ·rintro db E W ⟨l5, d, h1, w4, m6, h2, h3, w5, m7, w6⟩ a7
    refine ln (CI a7 w6 (fun p9 a7 => ?_) (fun p9 a7 => ?_))
    ·refine kV (Wh h1 (Wh w4 (Wh w5 (Wh h3 (Wh h2 (bS a7 fun cj s4 a7 => ?_))))))
     refine VE (eD d (Cr Qz Cn) call357 (fun hh => (s6 t y0 b7 z g P D f4 _ _ hh j3 (c6.mono c4) s4)) ?_)
     rintro _ cu z4 az d o1 aE ⟨u4, e7, rfl, t3⟩
     obtain rfl := e7.symm
     replace d := d.perm (Tr Tn)
     refine ln ?_
     have q := sj a7; subst q
     exact ⟨u4, z4, _, o1, aE, (d.kG St), h1, m6, h2, h3, m7, t3⟩
    refine kn ?_
    have q := sj a7; subst q
    exact ⟨b7, a4, _, (lm.refl _), Lo.refl, (d.kG St), h1, m6, h2, h3, m7, j3⟩
   refine bC b3 (fun I b3 => ?_) (fun I b3 => ?_)
   ·refine ug I (kR e0) (ug I (kR g7) (ug I (lR rfl rfl rfl) (V (li (cB I) rfl) ?_)))
    have q := sj b3; subst q
    exact f5 _ _ ⟨_, (d.kG St), m0, g4, m1, m2, g7, e0, m3, rfl⟩
   refine un I (un I (un I (V (lj (cB I) rfl) ?_)))
   have q := sj b3; subst q
   exact f5 _ _ ⟨_, (d.kG St), m0, g4, m1, m2, g7, e0, m3, rfl⟩
  rintro y1 E W ⟨b9, c5, l3, d2, O, d, m4, g8, m5, g9, e1, j4⟩ r0
  refine sg (Wh g9 (Wh e1 (Wi rfl (Wm (LJ r0 (fun n5 E W => ∃ l4, ST false (keys (c ++ [])) w W c5 (b9 ++ l4) ∧ E 0 = t ∧ E 3 = (.int .i64 B) ∧ E 4 = D ∧ E 18 = (.int .i64 P) ∧ E 24 = (.int .i64 a2) ∧ E 213 = (.bool n5)) 4 ?_ (fun n5 b2 f3 => ?_))))))
  ·rintro da E W ⟨l4, d, v8, v9, w0, w1, w2, w3⟩ a6
   refine ln (CI a6 w3 (fun p8 a6 => ?_) (fun p8 a6 => ?_))
   ·refine kV (Wh v8 (Wh w1 (Wh w2 (Wh v9 (Wh w0 (bS a6 fun ci s3 a6 => ?_))))))
    refine VE (eD d (Cr Qz Cn) call357 (fun hh => (s6 t y1 b9 P a2 B D f4 _ _ hh j4 (c6.mono (c4.trans d2)) s3)) ?_)
    rintro _ ct df ay d o0 ad ⟨u3, e6, rfl, t2⟩
    obtain rfl := e6.symm
    replace d := d.perm (Tr Tn)
    refine lH (rH ?_)
    have q := sj a6; subst q
    exact pU rfl ⟨_, _, _, rfl, (d.mW (Kr Sn)), ((c4.trans d2).trans o0), ((L.trans O).trans ad), (ST.lU d (nn.mem (Kr Sn))), u3, rfl, rfl, t2⟩
   refine mr (rH ?_)
   have q := sj a6; subst q
   exact pU rfl ⟨_, _, _, rfl, (d.mW (Kr Sn)), (c4.trans d2), (L.trans O), (ST.lU d (nn.mem (Kr Sn))), b9, rfl, rfl, j4⟩
  refine bC b2 (fun H b2 => ?_) (fun H b2 => ?_)
  ·refine ug H (kR e1) (ug H (kR g8) (ug H (lR rfl rfl rfl) (V (li (cB H) rfl) ?_)))
   have q := sj b2; subst q
   exact f3 _ _ ⟨_, (d.kG St), m4, g8, m5, g9, e1, rfl⟩
  refine un H (un H (un H (V (lj (cB H) rfl) ?_)))
  have q := sj b2; subst q
  exact f3 _ _ ⟨_, (d.kG St), m4, g8, m5, g9, e1, rfl⟩
theorem ru : ∀ (n : Nat) (c : Value) (k : List Formula) (a : LO) (t : Int) (u : Int) (x : Int) (g : Value) (y : (Formula × Formula) → Option Int) (r : List Formula) (w : World) {i : lO} (H : ox i (a ++ []) w) (B : lW 58 kF 5 i c k a) (D : yy Tryz.prog g i (wv kF kF) (fun (r : Int) => (.int .i64 r)) y) (_ : mO n k t u x y = some r),
  mo false Tryz.prog 357 [c, (.int .i64 t), (.int .i64 u), (.int .i64 x), g] w i (a ++ []) (fun v z G => ∃ j, v = (.tuple #[]) ∧ z = (j ++ []) ∧ lW 58 kF 5 G c r j)
 | 0 => by intros; rename_i h; simp only [mO] at h; cases h
 | n + 1 => xr (mO n) (ru n)
theorem zO (a : Value) (a0 : List Formula) (c : LO) (Q : Int) (x : Value) (f2 : (Formula × Formula) → Option Int) (r : List Formula) (w : World) {μ0 : lO} (h0 : ox μ0 (c ++ []) w) (k4 : lW 58 kF 5 μ0 a a0 c) (c7 : yy Tryz.prog x μ0 (wv kF kF) (fun (r : Int) => (.int .i64 r)) f2) (hm : sa a0 Q f2 = some r) :
  mo false Tryz.prog 338 [a, (.int .i64 Q), x] w μ0 (c ++ []) (fun v L1 μ1 => ∃ S1, v = (.tuple #[]) ∧ L1 = (S1 ++ []) ∧ lW 58 kF 5 μ1 a r S1) := by
 refine sF h0 63 func338 rfl (fun b => sg (Wa (lr (Wm (Wa (Wa (ln (kY (mB (nS (fun m E W => ∃ d4 d0 d5 P d6 f1, lm μ0 d6 ∧ Lo (keys (c ++ [])) w μ0 d6 ∧ ST false (keys (c ++ [])) w W d6 (d0 ++ f1) ∧ E 0 = a ∧ E 1 = (.int .i64 Q) ∧ E 2 = x ∧ E 6 = (.int .i64 20) ∧ E 7 = (.int .i64 d5) ∧ E 8 = (.int .i64 P) ∧ lW 58 kF 5 d6 a d4 d0 ∧ nt Q f2 m d4 d5 P = some r) lB ⟨a0, c, 0, 20, μ0, _, (lm.refl _), Lo.refl, (b.kG St), rfl, rfl, rfl, rfl, rfl, rfl, k4, hm⟩ ?_))))))))))
 rintro m E W ⟨d4, d0, d5, P, d6, f1, z, l, b, b4, b5, b6, d7, f4, b7, h1, i⟩
 cases m with
 | zero => rw [nt] at i; cases i
 | succ k5 =>
  refine kY (sg (Wh b7 (Wh b5 (Wi rfl (ln (CI i rfl (fun i4 i => ?_) (fun i4 i => ?_)))))))
  ·refine kn (bg (Wh b4 (Wh f4 (Wh b7 (Wh b6 (bS i fun k6 i7 i => ?_))))))
   refine VE (eD b (Cr Qz Cn) call356 (fun A => (th a d4 d0 d5 P x f2 _ _ A h1 (c7.mono z) i7)) ?_)
   rintro _ m4 k8 l8 b g0 F ⟨k1, c8, rfl, j0⟩
   obtain rfl := c8.symm
   replace b := b.perm (Tr Tn)
   refine lr (Wh b7 (Wa (ln (kV (Wh b7 (Wh d7 (Wi rfl (Wa (lH (lK ?_))))))))))
   exact kT ⟨k5, bB _, k6, k1, P, (IntKind.i64.wrap (P + 20)), k8, _, (z.trans g0), (l.trans F), (b.kG St), b4, b5, b6, d7, rfl, rfl, j0, i⟩
  refine nM (nB (nB (qe (kT (sg (Wh b4 (Wh f4 (Wh b5 (Wh b6 (bS i fun k7 i8 i => ?_))))))))))
  refine VE (eD b (Cr Qz Cn) call356 (fun A => (th a d4 d0 d5 Q x f2 _ _ A h1 (c7.mono z) i8)) ?_)
  rintro _ m5 R l9 b a5 L ⟨k2, c9, rfl, j3⟩
  obtain rfl := c9.symm
  replace b := b.perm (Tr Tn)
  refine ln (qt (CJ i (fun d8 E W => ∃ b2 a9 f3, lm R a9 ∧ Lo (keys (c ++ [])) w R a9 ∧ ST false (keys (c ++ [])) w W a9 (b2 ++ f3) ∧ lW 58 kF 5 a9 a d8 b2) (fun d8 i6 => ?_) ?_))
  ·refine mB (nS (fun m E W => ∃ a2 I j k e0, lm R k ∧ Lo (keys (c ++ [])) w R k ∧ ST false (keys (c ++ [])) w W k (I ++ e0) ∧ E 0 = a ∧ E 1 = (.int .i64 Q) ∧ E 2 = x ∧ E 6 = (.int .i64 j) ∧ lW 58 kF 5 k a a2 I ∧ nr Q f2 m a2 j = some d8) lB ⟨k7, k2, 20, R, _, (lm.refl _), Lo.refl, (b.kG St), b4, b5, b6, d7, j3, i6⟩ ?_)
   rintro m E W ⟨a2, I, j, k, e0, B, d, b, h6, e4, h7, b3, d1, t⟩
   cases m with
   | zero => rw [nr] at t; cases t
   | succ j6 =>
    refine kY (sg (Wh b3 (Wh e4 (Wi rfl (ln (CI t rfl (fun f7 t => ?_) (fun f7 t => ?_)))))))
    ·refine kn (bg (Wh b3 (Wi rfl (Wa (Wa (ln (kY (CJ t (fun a4 E W => ∃ J y e1, lm k y ∧ Lo (keys (c ++ [])) w k y ∧ ST false (keys (c ++ [])) w W y (J ++ e1) ∧ E 0 = a ∧ E 1 = (.int .i64 Q) ∧ E 2 = x ∧ E 6 = (.int .i64 j) ∧ E 7 = (.int .i64 a4.2) ∧ lW 58 kF 5 y a a4.1 J) (fun a4 g4 => ?_) ?_))))))))
     ·refine mB (nS (fun m E W => ∃ a3 K M D H e3, lm k H ∧ Lo (keys (c ++ [])) w k H ∧ ST false (keys (c ++ [])) w W H (K ++ e3) ∧ E 0 = a ∧ E 1 = (.int .i64 Q) ∧ E 2 = x ∧ E 6 = (.int .i64 j) ∧ E 7 = (.int .i64 M) ∧ E 8 = (.int .i64 D) ∧ lW 58 kF 5 H a a3 K ∧ nG Q j f2 m a3 M D = some a4) lB ⟨a2, I, 0, (IntKind.i64.wrap (2 * j)), k, _, (lm.refl _), Lo.refl, (b.kG St), h6, e4, h7, b3, rfl, rfl, d1, g4⟩ ?_)
      rintro m E W ⟨a3, K, M, D, H, e3, N, h, b, c2, c3, c4, Y, c5, Z, d3, g⟩
      cases m with
      | zero => rw [nG] at g; cases g
      | succ j7 =>
       refine kY (sg (Wh Z (Wh c3 (Wi rfl (ln (CI g rfl (fun f9 g => ?_) (fun f9 g => ?_)))))))
       ·refine kn (bg (Wh c2 (Wh c5 (Wh c5 (Wh Y (Wi rfl (Wh Z (Wh c4 (bS g fun j8 g8 g => ?_)))))))))
        refine VE (eD b (Cr Qz Cn) call357 (fun A => ((ru lB) a a3 K M (IntKind.i64.wrap (M + j)) D x f2 _ _ A d3 (c7.mono (((z.trans a5).trans B).trans N)) g8)) ?_)
        rintro _ l6 k0 l1 b f0 s ⟨h5, a7, rfl, h3⟩
        obtain rfl := a7.symm
        replace b := b.perm (Tr Tn)
        refine lr (Wh Z (Wa (ln (kV (Wh Z (Wh Y (Wi rfl (Wi rfl (Wa (lH ?_))))))))))
        exact lK (kT ⟨j7, bB _, j8, h5, D, (IntKind.i64.wrap (D + (IntKind.i64.wrap (2 * j)))), k0, _, (N.trans f0), (h.trans s), (b.kG St), c2, c3, c4, Y, rfl, rfl, h3, g⟩)
       refine nM (nB (nB (qe (kT ?_))))
       obtain rfl := sj g
       exact ⟨K, H, _, N, h, (b.kG St), c2, c3, c4, Y, c5, d3⟩
     rintro ⟨j4, e7⟩ E W ⟨J, y, e1, b0, n, b, b9, U, c0, c1, e5, d2⟩ g2
     refine kY (CJ g2 (fun e6 E W => ∃ T G e2, lm y G ∧ Lo (keys (c ++ [])) w y G ∧ ST false (keys (c ++ [])) w W G (T ++ e2) ∧ E 0 = a ∧ E 1 = (.int .i64 Q) ∧ E 2 = x ∧ E 6 = (.int .i64 j) ∧ lW 58 kF 5 G a e6 T) (fun e6 u => ?_) ?_)
     ·refine sg (Wh e5 (Wh c1 (Wi rfl (Wa (lr (Wm (Wh U (Wi rfl (ln ?_)))))))))
      refine CI u rfl (fun f8 u => ?_) (fun f8 u => ?_)
      ·refine kV (Wh b9 (Wh e5 (Wm (Wh U (Wh c0 (bS u fun l4 g7 u => ?_))))))
       refine VE (eD b (Cr Qz Cn) call357 (fun A => ((ru lB) a j4 J e7 (IntKind.i64.wrap (e7 + j)) Q x f2 _ _ A d2 (c7.mono (((z.trans a5).trans B).trans b0)) g7)) ?_)
       rintro _ l5 j9 l0 b e9 q ⟨h4, a6, rfl, h2⟩
       obtain rfl := a6.symm
       replace b := b.perm (Tr Tn)
       refine ln ?_
       obtain rfl := sj u
       exact ⟨h4, j9, _, e9, q, (b.kG St), b9, U, c0, c1, h2⟩
      refine kn ?_
      obtain rfl := sj u
      exact ⟨J, y, _, (lm.refl _), Lo.refl, (b.kG St), b9, U, c0, c1, d2⟩
     rintro j5 E W ⟨T, G, e2, e8, p, b, h8, h9, i0, i1, g9⟩ g3
     exact kV (Wh i1 (Wi rfl (Wa (lH (lK (kT ⟨j6, bB _, j5, T, (IntKind.i64.wrap (j * 2)), G, _, ((B.trans b0).trans e8), ((d.trans n).trans p), (b.kG St), h8, h9, i0, rfl, g9, g3⟩))))))
    refine nM (nB (nB (qe (kT ?_))))
    obtain rfl := sj t
    exact ⟨I, k, _, B, d, (b.kG St), d1⟩
  rintro m3 E W ⟨b2, a9, f3, g1, O, b, i9⟩ i5
  refine rH ?_
  obtain rfl := sj i5
  exact pU rfl ⟨_, _, _, rfl, (b.mW (Kr Sn)), ((z.trans a5).trans g1), ((l.trans L).trans O), (ST.lU b (nn.mem (Kr Sn))), b2, rfl, rfl, i9⟩
theorem zo (c : Value) (k : List Formula) (a : LO) (i : Value) (u : (Formula × Formula) → Option Int) (r : List Formula) (w : World) {t : lO} (J : ox t (a ++ []) w) (j : lW 58 kF 5 t c k a) (x : yy Tryz.prog i t (wv kF kF) (fun (r : Int) => (.int .i64 r)) u) (hm : pI k u = some r) :
  mo false Tryz.prog 321 [c, i] w t (a ++ []) (fun v I K => ∃ B, v = (.tuple #[]) ∧ I = (B ++ []) ∧ lW 58 kF 5 K c r B) := by
 refine sF J 9 func321 rfl (fun b => kV (Wm (Wm (V (qT aD rfl j) (Wm (bS hm fun Q H hm => ?_))))))
 refine VE (eD b (Cr Qz Cn) call338 (fun h => (zO c k a (k.length : Int) i u _ _ h j (x.mono (lm.refl _)) H)) ?_)
 rintro _ T U M b y d ⟨D, g, rfl, z⟩
 obtain rfl := g.symm
 replace b := b.perm (Tr Tn)
 refine lH (rH ?_)
 obtain rfl := sj hm
 exact pU rfl ⟨_, _, _, rfl, (b.mW (Kr Sn)), y, d, (ST.lU b (nn.mem (Kr Sn))), D, rfl, rfl, z⟩
theorem sJ (t : Nat) (j : Value) (G : List Int) (i : LO) (h : Int) (r : (Bool × (List Int))) (w : World) {μ0 : lO} (A : ox μ0 ((t, Ob #[j] 239) :: (i ++ [])) w) (y : lA 5 (mK .u8) 1 j G i) (hm : pe G h = some r) :
  mY true Tryz.prog 181 [(.pointer (some ⟨t, 0, none⟩)), (.int .i64 h)] w ((t, Ob #[j] 239) :: (i ++ [])) (fun v L1 W' => ∃ n S2, v = (.bool (r.1)) ∧ L1 = ((t, Ob #[n] 239) :: (S2 ++ [])) ∧ lA 5 (mK .u8) 1 n r.2 S2) := by
 refine BL A 38 func181 rfl (fun d => sg (Wa (lS (Wm (V (ye iN rfl rfl) (Wm (Vg rfl rfl (kR rfl) (Vg rfl rfl (lR rfl rfl rfl) (V (lj rfl rfl) ?_)))))))))
 refine ln (CI hm rfl (fun a9 hm => ?_) (fun a9 hm => ?_))
 ·refine sg (Wa (lt (lL ?_)))
  obtain rfl := sj hm
  exact mI (v := (.bool false)) rfl rfl ⟨_, _, rfl, (d.mW (Kb (Kr Sn))), j, i, rfl, rfl, y⟩
 refine kn (kY (mB (nS (fun m E W => ∃ c z U u a0, ST true (keys ((t, Ob #[j] 239) :: (i ++ []))) w W μ0 ((t, Ob #[z] 239) :: (u ++ a0)) ∧ E 0 = (.pointer (some ⟨t, 0, none⟩)) ∧ E 1 = (.int .i64 c) ∧ lA 5 (mK .u8) 1 z U u ∧ ra m c U = some r) lB ⟨h, j, G, i, _, (d.kG St), rfl, rfl, y, hm⟩ ?_)))
 rintro m E W ⟨c, z, U, u, a0, d, x, K, T, g⟩
 cases m with
 | zero => rw [ra] at g; cases g
 | succ s =>
  refine kY (sg (Wh K (Wi rfl (ln (CI g rfl (fun p g => ?_) (fun p g => ?_))))))
  ·refine kn (kY (mB (kV (Wh x (Wh x (Wn (Wf Ad (VB d Mh rfl rfl kl (Wh K (V (sr (k' := .i64) (a := c) eT gH rfl) (V (Jt (k := .u8) (a := (IntKind.u8.wrap c)) (b := 128) (v := (.int .u8 (IntKind.u8.wrap (BitVec.ofInt (IntKind.bits .u8) (IntKind.u8.wrap c) ||| BitVec.ofInt (IntKind.bits .u8) 128).toNat))) rfl rfl dc rfl) (VE (lE (cs := [(.int .u8 (IntKind.u8.wrap (BitVec.ofInt (IntKind.bits .u8) (IntKind.u8.wrap c) ||| BitVec.ofInt (IntKind.bits .u8) 128).toNat))].toArray) d (np rfl) (nq cV sizeOf5 km) (fun c3 q d => ?_))))))))))))))
   replace d := d.perm (Nr (Qb (Qb Qz)) Nz)
   refine bS g fun Q Y g => VE (oW (enc := (mK .u8)) (v := z) (vs := (.slice (some ⟨q, 0, none⟩) 1 1)) (R := u) d (fun _ => rfl) dc (GL _) cV tL.1 tL.2.1 rfl tL.2.2.1 tL.2.2.2 rfl rfl T (Sl.lit (enc := (mK .u8)) (l := [(IntKind.u8.wrap (BitVec.ofInt (IntKind.bits .u8) (IntKind.u8.wrap c) ||| BitVec.ofInt (IntKind.bits .u8) 128).toNat)]) (fun _ => rfl) rfl nb rfl (d.at_ (Ma Mh))) Y (fun F c1 a2 d M => Wn (Wf Ad ?_)))
   obtain ⟨B, H, rfl⟩ := M.form
   replace d := d.perm (Nb (Pr (Pb Pz)) Nz)
   refine VO (lf (.slice B Q.length H) (#[(.slice B Q.length H)]) d rfl rfl kw oc nb rfl (fun L d => lH (lK (kT ?_))))
   replace d := d.kG (Kb (Kr (Db St)))
   exact kV (Wh K (V (HE (a := c) (b := 7) rfl rfl dc) (Wa (ln ⟨s, bB _, (Int.fdiv c (2 ^ min (Int.toNat 7) (IntKind.bits .i64))), (.slice B Q.length H), Q, a2, _, (d.kG St), x, rfl, M, g⟩))))
  refine nM (nB (nB (qe (kT (sg (Wh x (Wh x (Wn (Wf Ad (VB d Mh rfl rfl kl (Wh K (V (sr (k' := .i64) (a := c) eT gH rfl) (VE (lE (cs := [(.int .u8 (IntKind.u8.wrap c))].toArray) d (np rfl) (nq cV sizeOf5 km) (fun O a5 d => ?_)))))))))))))))
  replace d := d.perm (Nr (Qb (Qb Qz)) Nz)
  refine bS g fun J Z g => VE (oW (enc := (mK .u8)) (v := z) (vs := (.slice (some ⟨a5, 0, none⟩) 1 1)) (R := u) d (fun _ => rfl) dc (GL _) cV tL.1 tL.2.1 rfl tL.2.2.1 tL.2.2.2 rfl rfl T (Sl.lit (enc := (mK .u8)) (l := [(IntKind.u8.wrap c)]) (fun _ => rfl) rfl nb rfl (d.at_ (Ma Mh))) Z (fun P c2 a3 d N => Wn (Wf Ad ?_)))
  obtain ⟨D, I, rfl⟩ := N.form
  replace d := d.perm (Nb (Pr (Pb Pz)) Nz)
  refine VO (lf (.slice D J.length I) (#[(.slice D J.length I)]) d rfl rfl kw oc nb rfl (fun b9 d => ln ?_))
  replace d := d.kG (Kb (Kr (Db St)))
  refine sg (Wa (lt ?_))
  obtain rfl := sj g
  exact mI (v := (.bool true)) rfl rfl ⟨_, _, rfl, (d.mW (Kb (Kr Sn))), (.slice D J.length I), a3, rfl, rfl, N⟩
theorem FP (g : Nat) (c : Value) (j : List Int) (a : LO) (u : Value) (D : List Int) (r : (Bool × (List Int))) (w : World) {Z : lO} (h : ox Z ((g, Ob #[c] 239) :: (a ++ [])) w) (i : lA 5 (mK .u8) 1 c j a) (k : Sl (Pl (mK .u8)) 1 Z u D) (hm : yu j D = some r) :
  mY true Tryz.prog 241 [(.pointer (some ⟨g, 0, none⟩)), u] w ((g, Ob #[c] 239) :: (a ++ [])) (fun v L1 W' => ∃ U M, v = (.bool (r.1)) ∧ L1 = ((g, Ob #[U] 239) :: (M ++ [])) ∧ lA 5 (mK .u8) 1 U r.2 M) := by
 refine BL h 25 func241 rfl (fun b => sg (Wa (lS (Wm (V (ye iN rfl rfl) (Wm (Vg rfl rfl (kR rfl) (Vg rfl rfl (mi cV rfl k) (Vg rfl rfl (lR rfl rfl rfl) ?_)))))))))
 refine V (lj rfl rfl) (ln (CI hm rfl (fun Q hm => ?_) (fun Q hm => ?_)))
 ·refine sg (Wa (lt (lL ?_)))
  obtain rfl := sj hm
  exact mI (v := (.bool false)) rfl rfl ⟨_, _, rfl, (b.mW (Kb (Kr Sn))), c, a, rfl, rfl, i⟩
 refine kg (Wm (Wm (V (mi cV rfl k) (bS hm fun q T hm => ?_))))
 refine VE (eM b (Cb Pz (Cr Qz Cn)) call181 (fun l _ => (sJ g c j a (D.length : Int) _ _ l i T)) ?_)
 rintro _ v8 n a3 b H m d ⟨Y, K, t, rfl, I⟩
 obtain rfl := t.symm
 replace b := b.perm (Tb (Tr Tn))
 refine lr (Wm (Wm (Wn (Wf Ad (VB b Mh rfl rfl kl (Wm ?_))))))
 replace b := b.perm (Nr (Qb Qz) Nz)
 refine bS hm fun B G hm => VE (oW (enc := (mK .u8)) (v := Y) (vs := u) (R := K) b (fun _ => rfl) dc (GL _) cV tL.1 tL.2.1 rfl tL.2.2.1 tL.2.2.2 rfl rfl I (k.mono (Pl.mono _) (H.trans b.kN)) G (fun a4 p J b z => Wn (Wf Ad ?_)))
 obtain ⟨x, y, rfl⟩ := z.form
 replace b := b.perm (Nb (Pr Pz) Nz)
 refine VO (lf (.slice x B.length y) (#[(.slice x B.length y)]) b rfl rfl kw oc nb rfl (fun a5 b => lr (Wa (lt ?_))))
 obtain rfl := sj hm
 exact mI (v := (.bool true)) rfl rfl ⟨_, _, rfl, (b.mW (Kb (Kr Sn))), (.slice x B.length y), J, rfl, rfl, z⟩
theorem zx (j : Nat) (c : Value) (t : List Int) (a : LO) (J : ByteArray) (r : (Bool × (List Int))) (w : World) {Z : lO} (A : ox Z ((j, Ob #[c] 239) :: (a ++ [])) w) (k : lA 5 (mK .u8) 1 c t a) (hm : uN t J = some r) :
  mY true Tryz.prog 183 [(.pointer (some ⟨j, 0, none⟩)), (.string J)] w ((j, Ob #[c] 239) :: (a ++ [])) (fun v L1 W' => ∃ n S2, v = (.bool (r.1)) ∧ L1 = ((j, Ob #[n] 239) :: (S2 ++ [])) ∧ lA 5 (mK .u8) 1 n r.2 S2) := by
 refine BL A 17 func183 rfl (fun b => sg (Wa (lr (Wm (V (D6 iN rfl rfl) (Wm (Vg rfl rfl (kR rfl) (bS hm fun r1 a4 hm => Oq rfl rfl (Eg b call57 (xt J _ _  a4) (fun W3 b => V (li rfl rfl) ?_))))))))))
 refine Wm (LJ hm (fun B E W => ∃ z x D I, lm Z D ∧ ST true (keys ((j, Ob #[c] 239) :: (a ++ []))) w W D ((j, Ob #[z] 239) :: (x ++ I)) ∧ E 4 = (.bool false) ∧ E 16 = (.bool B.1) ∧ lA 5 (mK .u8) 1 z B.2 x) 5 ?_ (fun B g y => ?_))
 ·rintro ⟨q, c0⟩ E W ⟨z, x, D, I, L, b, b9, a3, T⟩ M
  refine Wg a3 (lt ?_)
  obtain rfl := sj M
  exact mI (v := (.bool q)) rfl rfl ⟨_, _, rfl, (b.mW (Kb (Kr Sn))), z, x, rfl, rfl, T⟩
 refine bC g (fun i g => ?_) (fun i g => ?_)
 ·refine ug i (kR rfl) (ug i (kR rfl) (bS g fun a5 N g => sE i (IZ b cE cV gH rfl N (fun R p c3 b G l U O => bS g fun c1 Q g => ?_))))
  refine sE i (eM b (Cb Pz (Cr Qz Cn)) call241 (fun F h => (FP j c t a p a5 _ _ F k (U.mono (Pl.mono _) h) Q)) ?_)
  rintro _ c2 s P b H m d ⟨a9, a2, u, rfl, Y⟩
  obtain rfl := u.symm
  replace b := b.perm (Tb (Tr Tn))
  refine V (li (cB i) rfl) ?_
  obtain rfl := sj g
  exact y _ _ ⟨a9, a2, s, _, (G.trans H), (b.kG St), rfl, rfl, Y⟩
 refine un i (un i (un i (un i (V (lj (cB i) rfl) ?_))))
 obtain rfl := sj g
 exact y _ _ ⟨c, a, Z, _, (lm.refl _), (b.kG St), rfl, rfl, k⟩
theorem vY (c : Nat) (i : Value) (D : List Int) (a : LO) (x : kC) (r : (Bool × (List Int))) (w : World) {μ0 : lO} (h0 : ox μ0 ((c, Ob #[i] 239) :: (a ++ [])) w) (y : lA 5 (mK .u8) 1 i D a) (hm : rc D x = some r) :
  mY true Tryz.prog 182 [(.pointer (some ⟨c, 0, none⟩)), (.agg (kQ x).toArray)] w ((c, Ob #[i] 239) :: (a ++ [])) (fun v L1 W' => ∃ q S2, v = (.bool (r.1)) ∧ L1 = ((c, Ob #[q] 239) :: (S2 ++ [])) ∧ lA 5 (mK .u8) 1 q r.2 S2) := by
 let l := ((c, Ob #[i] 239) :: (a ++ []))
 refine BL h0 23 func182 rfl (fun b => sg (VE (lJ b rfl (fun W2 m b => Wa (lr (Wm (V (D6 iN rfl rfl) (Wm (Vg rfl rfl (kI rfl (kM b.has Mh (kQ x) rfl bG aR)) (bS hm fun r3 c4 hm => Oq rfl rfl (Eg b kA (uQ x _ _  c4) (fun W5 b => ?_))))))))))))
 refine V (li rfl rfl) (Wm (LJ hm (fun T E W => ∃ z u B a0, lm μ0 B ∧ ST true (keys l) w W B ((m, Ol (kQ x) 50) :: ((c, Ob #[z] 239) :: (u ++ a0))) ∧ E 0 = (.pointer (some ⟨c, 0, none⟩)) ∧ E 3 = (.pointer (some ⟨m, 0, none⟩)) ∧ E 4 = (.bool false) ∧ E 16 = (.bool T.1) ∧ lA 5 (mK .u8) 1 z T.2 u) 5 ?_ (fun T t K => ?_)))
 ·rintro ⟨e6, c5⟩ E W ⟨z, u, B, a0, d2, b, c0, c1, a3, c2, N⟩ s
  refine Wh c2 (LJ s (fun Q E W => ∃ M I U a2, lm B U ∧ ST true (keys l) w W U ((c, Ob #[M] 239) :: (I ++ a2)) ∧ E 4 = (.bool false) ∧ E 22 = (.bool Q.1) ∧ lA 5 (mK .u8) 1 M Q.2 I) 5 ?_ (fun Q k J => ?_))
  ·rintro ⟨c6, e1⟩ E W ⟨M, I, U, a2, d3, b, e0, c3, L⟩ A
   refine Wg c3 (lt ?_)
   obtain rfl := sj A
   exact mI (v := (.bool c6)) rfl rfl ⟨_, _, rfl, (b.mW (Kb (Kr Sn))), M, I, rfl, rfl, L⟩
  refine bC k (fun g k => ?_) (fun g k => ?_)
  ·refine ug g (kR c0) (ug g (kP uI c1) (ug g (kI rfl (lh b.has Mh rfl bV)) (bS k fun e2 F k => ?_)))
   refine sE g (eM b (Cb (Pb Pz) (Cr (Qb Qz) Cn)) call183 (fun h _ => (zx c z c5 u x.kJ _ _ h N F)) ?_)
   rintro _ e4 d0 d6 b Y n d ⟨c8, R, G, rfl, O⟩
   obtain rfl := G.symm
   replace b := b.perm (Tb (Tr Tn))
   refine V (li (cB g) rfl) ?_
   obtain rfl := sj k
   exact J _ _ ⟨c8, R, d0, _, Y, (b.kG (Kb (Kr (Db St)))), a3, rfl, O⟩
  refine un g (un g (un g (un g (V (lj (cB g) rfl) ?_))))
  obtain rfl := sj k
  exact J _ _ ⟨z, u, B, _, (lm.refl _), (b.kG (Db St)), a3, rfl, N⟩
 refine bC t (fun j t => ?_) (fun j t => ?_)
 ·refine ug j (kR rfl) (ug j (kP qg rfl) (ug j (kI rfl (lh b.has Mh rfl bV)) (bS t fun e3 a9 t => ?_)))
  refine sE j (eM b (Cb (Pb Pz) (Cr (Qb Qz) Cn)) call183 (fun h _ => (zx c i D a x.kD _ _ h y a9)) ?_)
  rintro _ e5 d1 d7 b Z p d ⟨c9, b7, H, rfl, P⟩
  obtain rfl := H.symm
  replace b := b.perm (Tb (Tr Tn))
  refine V (li (cB j) rfl) ?_
  obtain rfl := sj t
  exact K _ _ ⟨c9, b7, d1, _, Z, (b.kG (Sb (Pb (Pr Pz)) St)), rfl, rfl, rfl, rfl, P⟩
 refine un j (un j (un j (un j (V (lj (cB j) rfl) ?_))))
 obtain rfl := sj t
 exact K _ _ ⟨i, a, μ0, _, (lm.refl _), (b.kG St), rfl, rfl, rfl, rfl, y⟩
theorem D2 (A : (List Int) → Formula → Option (List Int)) (f2 : ∀ (a : Nat) (k : Value) (B : List Int) (g : LO) (j : Formula) (u : Value) (r : List Int) (w : World) {μ0 : lO} (h0 : ox μ0 ((a, Ob #[k] 239) :: (g ++ [])) w) (T : lA 5 (mK .u8) 1 k B g) (t : Sl kF 5 μ0 u j.Kids), A B j = some r → mY false Tryz.prog 365 [(.pointer (some ⟨a, 0, none⟩)), (.agg #[(.int .i64 j.Op), (.int .i64 j.K), (.string j.kC.kD), (.string j.kC.kJ), u])] w ((a, Ob #[k] 239) :: (g ++ [])) (fun v L1 W' => ∃ m S2, v = (.tuple #[]) ∧ L1 = ((a, Ob #[m] 239) :: (S2 ++ [])) ∧ lA 5 (mK .u8) 1 m r S2)) (a : Nat) (k : Value) (B : List Int) (g : LO) (j : Formula) (u : Value) (r : List Int) (w : World) {μ0 : lO} (h0 : ox μ0 ((a, Ob #[k] 239) :: (g ++ [])) w) (T : lA 5 (mK .u8) 1 k B g) (t : Sl kF 5 μ0 u j.Kids) (hm : wz A B j = some r) :
  mY false Tryz.prog 365 [(.pointer (some ⟨a, 0, none⟩)), (.agg #[(.int .i64 j.Op), (.int .i64 j.K), (.string j.kC.kD), (.string j.kC.kJ), u])] w ((a, Ob #[k] 239) :: (g ++ [])) (fun v L1 W' => ∃ m S2, v = (.tuple #[]) ∧ L1 = ((a, Ob #[m] 239) :: (S2 ++ [])) ∧ lA 5 (mK .u8) 1 m r S2) := by
 let b0 := ((a, Ob #[k] 239) :: (g ++ []))
 refine BL h0 40 func365 rfl (fun b => sg ?_)
 obtain ⟨A1, c2, rfl⟩ := t.form
 refine VE (lJ b rfl (fun W4 b3 b => lr (Wm (Wf oB (VB b Mh rfl rfl cD (bS hm fun r5 g8 hm => ?_))))))
 refine VE (eM b (Cb (Pb Pz) (Cr (Qb Qz) Cn)) call181 (fun l _ => mY.mP (sJ a k B g j.Op _ _ l T g8)) ?_)
 rintro _ j8 n j0 b e9 ad d ⟨F, a9, a2, rfl, a5⟩
 obtain rfl := a2.symm
 replace b := b.perm (Tb (Tr Tn))
 refine lS (Wf oB (VB b (Mt (Ma Mh)) rfl rfl cD (Wi rfl (ln (CI hm rfl (fun e8 hm => ?_) (fun e8 hm => ?_))))))
 ·refine sg (Wm (Wf uP (VA b (Mt (Ma Mh)) (kQ j.kC) bG aR (bS hm fun j7 f0 hm => ?_))))
  refine VE (eM b (Cb Pz (Cr Qz Cn)) call182 (fun l _ => mY.mP (vY a F r5.2 a9 j.kC _ _ l a5 f0)) ?_)
  rintro _ j9 k1 j3 b h6 ae d ⟨h3, g2, a3, rfl, f4⟩
  obtain rfl := a3.symm
  replace b := b.perm (Tb (Tr Tn))
  refine ln ?_
  replace b := b.kG (Kb (Kr (Db St)))
  refine lC (lL ?_)
  obtain rfl := sj hm
  exact pU rfl ⟨_, _, rfl, (b.mW (Kb (Kr Sn))), h3, g2, rfl, rfl, f4⟩
 refine kn (kY (CJ hm (fun b5 E W => ∃ q p L d6, lm n L ∧ ST false (keys b0) w W L ((a, Ob #[q] 239) :: ((b3, Ol (C2 j.Op j.K j.kC.kD j.kC.kJ A1 j.Kids.length c2) 58) :: (p ++ d6))) ∧ E 0 = (.pointer (some ⟨a, 0, none⟩)) ∧ E 3 = (.pointer (some ⟨b3, 0, none⟩)) ∧ lA 5 (mK .u8) 1 q b5 p) (fun b5 y => ?_) ?_))
 ·refine sg (Wf oB (VB b (Mt (Ma Mh)) rfl rfl cD (Wi rfl (ln (CI y rfl (fun c4 y => ?_) (fun c4 y => ?_))))))
  ·refine kV (Wm (Wf sH (VB b (Mt (Ma Mh)) rfl rfl cD (bS y fun i6 d0 y => ?_))))
   refine VE (eM b (Cb Pz (Cr Qz Cn)) call181 (fun l _ => mY.mP (sJ a F r5.2 a9 j.K _ _ l a5 d0)) ?_)
   rintro _ i9 g1 h9 b b2 aa d ⟨f9, e3, N, rfl, d5⟩
   obtain rfl := N.symm
   replace b := b.perm (Tb (Tr Tn))
   refine ln ?_
   obtain rfl := sj y
   exact ⟨f9, e3, g1, _, b2, (b.kG (Kb (Sb (Pr Pz) St))), rfl, rfl, d5⟩
  refine kn ?_
  obtain rfl := sj y
  exact ⟨F, a9, n, _, (lm.refl _), (b.kG (Kb (Sb (Pr Pz) St))), rfl, rfl, a5⟩
 rintro g9 E W ⟨q, p, L, d6, c6, b, d7, d8, f3⟩ a0
 refine sg (Wh d7 (V (kP oA d8) (VB b (Mt Mh) rfl rfl dZ (V (mi aD rfl t) (bS a0 fun h2 f1 a0 => ?_)))))
 refine VE (eM b (Cb Pz (Cr (Qb Qz) Cn)) call181 (fun l _ => mY.mP (sJ a q g9 p (j.Kids.length : Int) _ _ l f3 f1)) ?_)
 rintro _ k0 d9 j4 b c7 af d ⟨h4, g3, a4, rfl, f5⟩
 obtain rfl := a4.symm
 replace b := b.perm (Tb (Tr Tn))
 refine lr (V (kP oA d8) (VB b (Mt (Ma Mh)) rfl rfl dZ (V (mi aD rfl t) (Wm (ln ?_)))))
 replace b := b.kG (Kb (Kr (Db St)))
 refine qt (mf (fun i E W => ∃ D H z Q U, (E 32 = .int .i64 (i : Nat) ∧ E 31 = .int .i64 (j.Kids.length : Nat)) ∧ lm d9 Q ∧ ST false (keys b0) w W Q ((a, Ob #[D] 239) :: (z ++ U)) ∧ E 0 = (.pointer (some ⟨a, 0, none⟩)) ∧ E 30 = (.slice A1 j.Kids.length c2) ∧ lA 5 (mK .u8) 1 D H z ∧ rC A (j.Kids.drop i) H = some r) j.Kids.length t.len ⟨h4, h2.2, g3, d9, _, ⟨rfl, rfl⟩, (lm.refl _), (b.kG St), d7, rfl, f5, a0⟩ dc dc dc (fun _ _ _ h => by obtain ⟨_, _, _, _, _, P, _⟩ := h; exact P) ?_ ?_)
 ·rintro f6 E W c5 ⟨D, H, z, Q, U, ⟨O, eN⟩, G, b, Y, Z, K, x⟩
  obtain ⟨c, h7, d2, d1, d3⟩ := lX c5
  rw [d2] at x
  refine bg (VQ (mT (i := (f6 : Int)) (x0 := c) kF.out aD aC Z O (t.mono kL.mono (((e9.trans c6).trans c7).trans G)) (aH _) d1) (fun i5 ⟨_, ⟨i7, rfl, a7⟩, c8⟩ => V (kI rfl (lz b.has c8 aK aC)) (VE (lG b aP (fun i0 i4 b => ?_)))))
  obtain ⟨I, J, rfl⟩ := a7.form
  let s := (C2 c.Op c.K c.kC.kD c.kC.kJ I c.Kids.length J)
  refine VO (lf (.agg s.toArray) (s.toArray) b rfl rfl aC oc nb rfl (fun i1 b => ln (kV (Wh Y (VA b Mh s aK aC (bS x fun f7 c9 x => ?_))))))
  refine VE (eM b (Cb (Pb Pz) (Cr (Qb Qz) Cn)) call365 (fun l ab => (f2 a D H z c (.slice I c.Kids.length J) _ _ l K (a7.mono kL.mono ab) c9)) ?_)
  rintro _ i8 g0 h8 b b1 R d ⟨f8, e2, M, rfl, d4⟩
  obtain rfl := M.symm
  replace b := b.perm (Tb (Tr Tn))
  refine lH (lK (kT ?_))
  replace b := b.kG (Kb (Kr (Db St)))
  exact ⟨O, f8, f7, e2, g0, _, ⟨rfl, eN⟩, (G.trans b1), (b.kG St), Y, Z, d4, (by rw [d3]; exact x)⟩
 rintro E W ⟨D, H, z, Q, U, ⟨O, eN⟩, G, b, Y, Z, K, x⟩
 rw [aI] at x
 refine kT (rH ?_)
 obtain rfl := sj x
 exact pU rfl ⟨_, _, rfl, (b.mW (Kb (Kr Sn))), D, z, rfl, rfl, K⟩
theorem Cx : ∀ (n : Nat) (i : Nat) (g : Value) (k : List Int) (c : LO) (j : Formula) (a : Value) (r : List Int) (w : World) {z : lO} (D : ox z ((i, Ob #[g] 239) :: (c ++ [])) w) (x : lA 5 (mK .u8) 1 g k c) (t : Sl kF 5 z a j.Kids) (_ : qN n k j = some r),
  mY false Tryz.prog 365 [(.pointer (some ⟨i, 0, none⟩)), (.agg #[(.int .i64 j.Op), (.int .i64 j.K), (.string j.kC.kD), (.string j.kC.kJ), a])] w ((i, Ob #[g] 239) :: (c ++ [])) (fun v B W' => ∃ y u, v = (.tuple #[]) ∧ B = ((i, Ob #[y] 239) :: (u ++ [])) ∧ lA 5 (mK .u8) 1 y r u)
 | 0 => by intros; rename_i h; simp only [qN] at h; cases h
 | n + 1 => D2 (qN n) (Cx n)
theorem Hb (k : Nat) (i : Value) (u : List Int) (c : LO) (a : Formula) (j : Value) (r : (Bool × (List Int))) (w : World) {Q : lO} (Y : ox Q ((k, Ob #[i] 239) :: (c ++ [])) w) (t : lA 5 (mK .u8) 1 i u c) (g : Sl kF 5 Q j a.Kids) (hm : xi u a = some r) :
  mY false Tryz.prog 358 [(.pointer (some ⟨k, 0, none⟩)), (.agg #[(.int .i64 a.Op), (.int .i64 a.K), (.string a.kC.kD), (.string a.kC.kJ), j])] w ((k, Ob #[i] 239) :: (c ++ [])) (fun v U W' => ∃ M I, v = (.bool (r.1)) ∧ U = ((k, Ob #[M] 239) :: (I ++ [])) ∧ lA 5 (mK .u8) 1 M r.2 I) := by
 refine BL Y 15 func358 rfl (fun b => sg ?_)
 obtain ⟨y, z, rfl⟩ := g.form
 let B := (C2 a.Op a.K a.kC.kD a.kC.kJ y a.Kids.length z)
 refine VE (lJ b rfl (fun W4 n b => Wa (lS (Wm (V (ye iN rfl rfl) (Wm (Vg rfl rfl (kI rfl (kM b.has Mh B rfl aK aC)) (bS hm fun p K hm => Oq rfl rfl (Eg b call72 (xd a (.slice y a.Kids.length z) _ _ (g.mono kL.mono b.kN) K) (fun W7 b => Vg rfl rfl (ot rfl) (V (lj rfl rfl) ?_)))))))))))
 refine ln (CI hm rfl (fun J hm => ?_) (fun J hm => ?_))
 ·refine sg (Wa (ln ?_))
  replace b := b.kG (Db St)
  refine lC (lL ?_)
  obtain rfl := sj hm
  exact mI (v := (.bool false)) rfl rfl ⟨_, _, rfl, (b.mW (Kb (Kr Sn))), i, c, rfl, rfl, t⟩
 refine kg (Wm (VA b Mh B aK aC (bS hm fun q D hm => ?_)))
 refine VE (eM b (Cb (Pb Pz) (Cr (Qb Qz) Cn)) call365 (fun m h => ((Cx lB) k i u c a (.slice y a.Kids.length z) _ _ m t (g.mono kL.mono h) D)) ?_)
 rintro _ a2 a3 Z b T l d ⟨N, H, x, rfl, G⟩
 obtain rfl := x.symm
 replace b := b.perm (Tb (Tr Tn))
 refine ln ?_
 replace b := b.kG (Kb (Kr (Db St)))
 refine sg (Wa (lt ?_))
 obtain rfl := sj hm
 exact mI (v := (.bool true)) rfl rfl ⟨_, _, rfl, (b.mW (Kb (Kr Sn))), N, H, rfl, rfl, G⟩
theorem Jc (g : Value) (i r : List Int) (w : World) (a : Sl (Pl (mK .u8)) 1 (hp w) g i) (hm : vl i = some r) :
  nC true Tryz.prog 58 [g] w 5 (mK .u8) 1 r := by
 unfold vl at hm
 refine xg 8 func58 rfl (fun b => sg (Wa (lS (Wm ?_))))
 obtain ⟨y, B, rfl⟩ := a.form
 refine V (AM cV rfl rfl) (ln ?_)
 rcases y with _ | z
 ·have u := a.isNil
  replace hm : some [] = some r := by rw [u] at hm; simpa [nJ, maxLen] using hm
  refine vm (rfl) (sg (Wa (lt (lL ?_))))
  obtain rfl := sj hm
  exact mI (v := (.slice none 0 0)) rfl rfl ⟨_, [], rfl, b.pn (fun p d => by cases d) (by simp), lA.nil _ _ _⟩
 ·refine rN (rfl) (kg (VE (lE (cs := #[]) b ri (Aq [] cV sizeOf5 km dc rfl (by simp) rfl rfl) (fun G k b => Wm (bS hm fun H t hm => VE (oW (enc := (mK .u8)) (v := (.slice (some ⟨k, 0, none⟩) 0 0)) (vs := (.slice (some z) i.length B)) (R := [(k, Ob #[] 5)]) b (fun _ => rfl) dc (GL _) cV tL.1 tL.2.1 rfl tL.2.2.1 tL.2.2.2 rfl rfl (lA.lit (l := []) (enc := (mK .u8)) rfl dc rfl rfl) (a.mono (Pl.mono _) b.kN) t (fun D x j b c => Wa (lt ?_))))))))
  obtain rfl := sj hm
  exact mI (v := x) rfl rfl ⟨_, j, rfl, b.pn (fun p d => (Ml d)) c.nd, c⟩
theorem BO (g : Nat) (a : Value) (c r : List Int) (w : World) (j : Sl (Pl (mK .u8)) 1 (hp w) a c) (k : At (hp w) (.pointer (some ⟨g, 0, none⟩)) [a]) (hm : uM c = some r) :
  nC true Tryz.prog 184 [(.pointer (some ⟨g, 0, none⟩))] w 5 (mK .u8) 1 r := by
 refine xg 10 func184 rfl (fun b => sg (Wa (lS (Wm (V (ye iN rfl rfl) (ln (rN rfl (mr ?_))))))))
 refine kT (sg (Wm (Wn (VQ (zn [a] Ad rfl k rfl) (fun G u => V (kI rfl (tS b.has (y := a) u kl)) (bS hm fun H x hm => VE (vK b call58 (Jc a c _ _ (j.mono (Pl.mono _) b.kN) x) (fun D z I t b B d i => Wa (lt ?_)))))))))
 obtain rfl := sj hm
 exact mI (v := z) rfl rfl ⟨_, t, rfl, b.pn (fun p h => (Ml h)) i.nd, i⟩
theorem Bk (a : Formula) (g : Value) (r : List Int) (w : World) (c : Sl kF 5 (hp w) g a.Kids) (hm : uh a = some r) :
  nC false Tryz.prog 339 [(.agg #[(.int .i64 a.Op), (.int .i64 a.K), (.string a.kC.kD), (.string a.kC.kJ), g])] w 5 (mK .u8) 1 r := by
 refine xg 11 func339 rfl (fun d => sg ?_)
 obtain ⟨k, t, rfl⟩ := c.form
 refine VE (lJ d rfl (fun W4 u d => Wa (lr (V (mH (v := (.agg #[(.slice none 0 0)])) ri (ml zeroValue239 iM (PU _ iM) kr)) (VE (lJ d rfl (fun W6 B d => Wa (lr (Wm (VA d (Mt Mh) (C2 a.Op a.K a.kC.kD a.kC.kJ k a.Kids.length t) aK aC ?_))))))))))
 refine bS hm fun K D hm => ?_
 refine VE (eM d (Cb Pz (C0 Cn)) call358 (fun s m => (Hb B (.slice none 0 0) ([]) [] a (.slice k a.Kids.length t) _ _ s (lA.nil _ _ _) (c.mono kL.mono m) D)) ?_)
 rintro _ U Y M d I n h ⟨H, N, i, rfl, y⟩
 obtain rfl := i.symm
 replace d := d.perm (Tb (Tr Tn))
 refine ln ?_
 replace d := d.kG (Kb (Kr (Db St)))
 refine sg (Wm (bS hm fun T x hm => VE (vK d call184 (nC.mP (BO B H K.2 _ _ (y.sl (fun _ => rfl) (fun b o l => d.at_ (Mt (Ml l)))) (At.of (d.at_ Mh) _ rfl) x)) (fun Q G Z z d J q j => Wa (ln ?_)))))
 replace d := d.kG (Kr (Db (Dr St)))
 refine lC ?_
 obtain rfl := sj hm
 exact mI (v := G) rfl rfl ⟨_, z, rfl, d.pn (fun p l => (Ml l)) j.nd, j⟩
theorem RB (w : World) {d g : Value} {a b : List Int} (h1 : Sl (Pl (mK .u8)) 1 (hp w) d a) (h : Sl (Pl (mK .u8)) 1 (hp w) g b) : (callFunc 240 [d, g].toArray).run Tryz.prog w = .ok (.value (.int .i64 (ze a b))) w := Po func240 (by kernel_rfl) (by kernel_rfl) (by kernel_rfl) (by kernel_rfl) h1 h
theorem Ck (a : Value) (g : List Int) (c : Value) (i : List Int) (r : Int) (w : World) (j : Sl (Pl (mK .u8)) 1 (hp w) a g) (k : Sl (Pl (mK .u8)) 1 (hp w) c i) (hm : xq g i = some r) :
  lD true Tryz.prog 178 [a, c] w (.int .i64 r) := by
 exact cG 8 func178 rfl (fun b => sg (Wa (lr (Wm (Wm (VE (MQ (args := [a, c]) (v := .int .i64 (ze g i)) rfl (by exact yg rfl rfl) (RB _ (j.mono (Pl.mono _) b.kN) (k.mono (Pl.mono _) b.kN)) (Wa (lt (rQ hm b))))))))))
theorem FJ (a : Formula) (j : Value) (c : Formula) (k : Value) (r : Int) (w : World) (g : Sl kF 5 (hp w) j a.Kids) (i : Sl kF 5 (hp w) k c.Kids) (hm : uc a c = some r) :
  lD false Tryz.prog 322 [(.agg #[(.int .i64 a.Op), (.int .i64 a.K), (.string a.kC.kD), (.string a.kC.kJ), j]), (.agg #[(.int .i64 c.Op), (.int .i64 c.K), (.string c.kC.kD), (.string c.kC.kJ), k])] w (.int .i64 r) := by
 refine cG 10 func322 rfl (fun d => sg ?_)
 obtain ⟨x, z, rfl⟩ := g.form
 refine VE (lJ d rfl (fun W4 q d => ?_))
 obtain ⟨y, B, rfl⟩ := i.form
 refine VE (lJ d rfl (fun W8 s d => Wa (ln (kY ?_))))
 replace d := d.drew
 have h := d.has.kG (Kb (Kb Sn))
 refine mj h lQ (XH 0 rfl h (fun _ l => kI rfl (kM l (Mt Mh) (C2 a.Op a.K a.kC.kD a.kC.kJ x a.Kids.length z) rfl aK aC)) (XH 2 rfl h (fun _ l => kI rfl (kM l Mh (C2 c.Op c.K c.kC.kD c.kC.kJ y c.Kids.length B) rfl aK aC)) (bS hm fun K H hm => XE 1 rfl (vK d call339 (Bk a (.slice x a.Kids.length z) _ _ (g.mono kL.mono d.kN) H) (fun Y N a4 T d t n D => ?_)))))
 have h := d.has.qI t (Dr (Kb (Kb Sn)))
 refine ⟨h, (bS hm fun M I hm => XE 3 rfl (vK d call339 (Bk c (.slice y c.Kids.length B) _ _ (i.mono kL.mono (t.trans d.kN)) I) (fun Z Q a5 U d u p G => ?_)))⟩
 have h := d.has.qI (t.trans u) (Dr (Dr (Kb (Kb Sn))))
 refine ⟨h, (bS hm fun a3 J hm => XE 4 rfl (Eg d call178 (lD.mP (Ck N K Q M _ _ (D.sl (fun _ => rfl) (fun b o m => d.at_ (Ma (Ml m)))) (G.sl (fun _ => rfl) (fun b o m => d.at_ (Ml m))) J)) (fun a2 d => ?_)))⟩
 have h := d.has.qI (t.trans u) (Dr (Dr (Kb (Kb Sn))))
 refine ⟨h, (X 5 rfl h (om rfl) (ms kr (kT ?_)))⟩
 exact lC (rQ hm d)
theorem Di (g : Value) (k r : List Formula) (w : World) {G : lO} (Y : ox G [] w) (u : Sl kF 5 G g k) (hm : vW k = some r) :
  mo false Tryz.prog 288 [g] w G [] (fun v U μ1 => ∃ T I, v = T ∧ U = (I ++ []) ∧ lW 58 kF 5 μ1 T r I) := by
 refine sF Y 9 func288 rfl (fun b => sg (Wa (lr (Wm (bS hm fun Z Q hm => ?_)))))
 refine VE (eD b (aX _) call320 (fun h => mo.mP (CK g k _ _ h (u.mono kL.mono (lm.refl _)) Q)) ?_ (L0 := []))
 rintro _ v7 s L9 b y l ⟨i, H, a, rfl, B⟩
 obtain rfl := a.symm
 replace b := b.perm (Tr Tn)
 refine Wa (lr (Wm (bS hm fun a5 z hm => ?_)))
 refine VE (eD b (Cr Qz Cn) call321 (fun h => (zo i Z H (.func (.func 322) #[] #[]) (fun (x : (Formula × Formula)) => uc x.1 x.2) _ _ h B ⟨322, #[], #[], rfl, call322, fun W x vs r E m hm => by obtain ⟨_, _, rfl, M, N⟩ := m; obtain ⟨q, rfl, p⟩ := M.out; obtain ⟨t0, rfl, n⟩ := N.out; exact FJ x.1 q x.2 t0 r W p n hm⟩ z)) ?_)
 rintro _ t A a3 b j d ⟨J, c, rfl, D⟩
 obtain rfl := c.symm
 replace b := b.perm (Tr Tn)
 refine lr (Wm (Wa (lt ?_)))
 obtain rfl := sj hm
 exact mI (v := i) rfl rfl ⟨_, _, _, rfl, (b.mW (Kr Sn)), (y.trans j), (l.trans d), (ST.lU b (nn.mem (Kr Sn))), i, J, rfl, rfl, D⟩
theorem Ao (g : Value) (a0 : List Formula) (x : LO) (Z : Value) (f1 : (Formula × Formula) → Option Bool) (r : List Formula) (w : World) {μ0 : lO} (h0 : ox μ0 (x ++ []) w) (B : lW 58 kF 5 μ0 g a0 x) (d2 : yy Tryz.prog Z μ0 (wv kF kF) (fun (r : Bool) => (.bool r)) f1) (hm : qv a0 f1 = some r) :
  mo false Tryz.prog 291 [g, Z] w μ0 (x ++ []) (fun v L1 μ1 => ∃ y1, v = y1 ∧ L1 = [] ∧ Sl kF 5 μ1 y1 (r)) := by
 refine sF h0 66 func291 rfl (fun d => sg (Wa (lS (Wm (V (qT aD rfl B) (Wi rfl (ln (CI hm rfl (fun i3 hm => ?_) (fun i3 hm => ?_)))))))))
 ·refine sg (Wm (Wa (lt (lL ?_))))
  obtain rfl := sj hm
  refine mI (v := g) rfl rfl ?_
  obtain ⟨a1, d, i2, A, j0⟩ := ST.tE kL d B
  exact ⟨_, _, _, rfl, (d.mW Sn), i2, A, (ST.lU d (nn.mem Sn)), g, rfl, rfl, j0⟩
 refine kS (Wa (ln (mB (nS (fun m E W => ∃ t b7, ST false (keys (x ++ [])) w W μ0 (x ++ b7) ∧ E 0 = g ∧ E 1 = Z ∧ E 5 = (.int .i64 t) ∧ nN a0 f1 m t = some r) lB ⟨1, _, (d.kG St), rfl, rfl, rfl, hm⟩ ?_))))
 rintro m E W ⟨t, b7, d, y, a3, G, a⟩
 cases m with
 | zero => rw [nN] at a; cases a
 | succ h1 =>
  refine kY (sg (Wh G (Wh y (V (qT aD rfl B) (Wi rfl (ln (CI a rfl (fun d3 a => ?_) (fun d3 a => ?_))))))))
  ·refine kn (kY (mB (kY ?_)))
   replace d := d.drew
   have h := d.has.kG (Kr Sn)
   refine mj h lQ (X 0 rfl h (kR a3) (X 1 rfl h (kR y) (X 2 rfl h (kR G) (bS a fun h7 R a => XQ 3 rfl h (mJ (i := t) kF.out aD aC rfl rfl B (lN R) (lM R)) (fun k1 ⟨_, ⟨h3, rfl, e7⟩, e0, i4⟩ => XH 4 rfl h (fun _ q => kI rfl (lz (oC.hp _) (e0.mono (nl (fun b o p => q.2 b o (Ml p)))) aK aC)) (X 5 rfl h (kR y) (X 6 rfl h (kR G) (X 7 rfl h (lR rfl rfl rfl) (bS a fun h8 b3 a => XQ 8 rfl h (mJ (i := (IntKind.i64.wrap (t - 1))) kF.out aD aC rfl rfl B (lN b3) (lM b3)) (fun k2 ⟨_, ⟨h4, rfl, e8⟩, e1, i5⟩ => XH 9 rfl h (fun _ q => kI rfl (lz (oC.hp _) (e1.mono (nl (fun b o p => q.2 b o (Ml p)))) aK aC)) (bS a fun k7 e5 a => XE 10 rfl (zH (h7, h8) d d2 (lm.refl _) (wv.mk kL kL (kF.mk ⟨h3, rfl, e7⟩) (kF.mk ⟨h4, rfl, e8⟩) d.kN) rfl (yg rfl rfl) e5 (fun j6 d => ?_)))))))))))))
   have h := d.has.kG (Kr Sn)
   refine ⟨h, (ms kr (kT (CI a rfl (fun d4 a => ?_) (fun d4 a => ?_))))⟩
   ·refine sg (Wh y (Wh G (bS a fun _ F a => VQ (zG (i := t) aD aC rfl rfl B (vy F) (vq F)) (fun c4 K => Wa (lS (Wa (ln ?_)))))))
    refine CJ a (fun T E W => ∃ a2 b9, ST false (keys (x ++ [])) w W μ0 (a2 ++ b9) ∧ E 0 = g ∧ E 5 = (.int .i64 T.2) ∧ lW 58 kF 5 μ0 g T.1 a2) (fun T d8 => ?_) ?_
    ·refine mB (nS (fun m E W => ∃ a5 J U u c0, ST false (keys (x ++ [])) w W μ0 (J ++ c0) ∧ E 0 = g ∧ E 1 = Z ∧ E 5 = (.int .i64 U) ∧ E 6 = c4 ∧ E 7 = (.int .i64 u) ∧ lW 58 kF 5 μ0 g a5 J ∧ nP t f1 m a5 U u = some T) lB ⟨a0, x, t, 1, _, (d.kG St), y, a3, G, rfl, rfl, B, d8⟩ ?_)
     rintro m E W ⟨a5, J, U, u, c0, d, N, a4, Q, H, I, k, j⟩
     cases m with
     | zero => rw [nP] at j; cases j
     | succ h2 =>
      refine kY (sg (Wh I (Wh H (V (MC aD rfl K k) (Wi rfl (ln (CI j rfl (fun d5 j => ?_) (fun d5 j => ?_))))))))
      ·refine kn (kY (CJ j (fun s E W => ∃ M c1, ST false (keys (x ++ [])) w W μ0 (M ++ c1) ∧ E 0 = g ∧ E 1 = Z ∧ E 5 = (.int .i64 s.2) ∧ E 6 = c4 ∧ E 7 = (.int .i64 u) ∧ lW 58 kF 5 μ0 g s.1 M) (fun s c => ?_) ?_))
       ·refine mB (kY ?_)
        replace d := d.drew
        have h := d.has.kG (Kr Sn)
        refine mj h lQ (X 0 rfl h (kR a4) (X 1 rfl h (kR H) (X 2 rfl h (kR I) (bS c fun i0 b4 c => XQ 3 rfl h (BU (i := u) kF.out aD aC rfl rfl k K (lN b4) (lM b4)) (fun k3 ⟨_, ⟨h5, rfl, f4⟩, e2, i6⟩ => XH 4 rfl h (fun _ q => kI rfl (lz (oC.hp _) (e2.mono (nl (fun b o p => q.2 b o (Ml p)))) aK aC)) (X 5 rfl h (kR H) (X 6 rfl h (kR I) (X 7 rfl h (lR rfl rfl rfl) (bS c fun i1 b5 c => XQ 8 rfl h (BU (i := (IntKind.i64.wrap (u - 1))) kF.out aD aC rfl rfl k K (lN b5) (lM b5)) (fun k4 ⟨_, ⟨h6, rfl, f5⟩, e3, i7⟩ => XH 9 rfl h (fun _ q => kI rfl (lz (oC.hp _) (e3.mono (nl (fun b o p => q.2 b o (Ml p)))) aK aC)) (bS c fun k8 e6 c => XE 10 rfl (zH (i0, i1) d d2 (lm.refl _) (wv.mk kL kL (kF.mk ⟨h5, rfl, f4⟩) (kF.mk ⟨h6, rfl, f5⟩) d.kN) rfl (yg rfl rfl) e6 (fun j8 d => ?_)))))))))))))
        have h := d.has.kG (Kr Sn)
        refine ⟨h, (X 11 rfl h (ot rfl) (ms kr (kT (CI c rfl (fun d6 c => ?_) (fun d6 c => ?_)))))⟩
        ·refine sg (Wh N (Wh Q (Wh H (Wh I (bS c fun c7 b6 c => VQ (BU (i := u) kF.out aD aC rfl rfl k K (lN b6) (lM b6)) (fun k5 ⟨_, ⟨l0, rfl, P⟩, e4, i8⟩ => V (kI rfl (lz (oC.hp _) (e4.mono (nl (fun b o p => d.has.2 b o (Ml p)))) aK aC)) (bS c fun l2 Y c => VQ (mJ (i := U) kF.out aD aC rfl rfl k (lN Y) (lM Y)) (fun k6 ⟨_, ⟨l1, rfl, j3⟩, i9, d7⟩ => ?_))))))))
         obtain ⟨f7, g0, rfl⟩ := P.form
         refine VO (rO (x1 := c7) kL d k rfl rfl (kF.mk ⟨(.slice f7 c7.Kids.length g0), rfl, P⟩) d7 (lM Y) aC (fun j9 f8 d d1 => ln (kV (Wh Q (Wi rfl (Wa (lH (lK (kT ?_)))))))))
         obtain rfl := sj c
         exact ⟨f8, _, (d.kG St), N, a4, rfl, H, I, d1⟩
        refine mr (lK (kT ?_))
        obtain rfl := sj c
        exact ⟨J, _, (d.kG St), N, a4, Q, H, I, k⟩
       rintro ⟨g9, h9⟩ E W ⟨M, c1, d, g1, g2, g3, g4, g7, f3⟩ d9
       exact kV (Wh g7 (Wi rfl (Wa (ln ⟨h2, bB _, g9, M, h9, (IntKind.i64.wrap (u + 1)), _, (d.kG St), g1, g2, g3, g4, rfl, f3, d9⟩))))
      refine nM (nB (nB (qe (kT ?_))))
      obtain rfl := sj j
      exact ⟨J, _, (d.kG St), N, Q, k⟩
    rintro ⟨k0, c6⟩ E W ⟨a2, b9, d, c2, c3, O⟩ D
    refine sg (Wh c2 (Wh c3 (bS D fun _ L D => VQ (zG (i := c6) aD aC rfl rfl O (vy L) (vq L)) (fun k9 e9 => VO (BH (z := RK) (zs := C5) kL d O (kF.mk ⟨(.slice none 0 0), rfl, (Sl.nil _ _ _)⟩) aD aP e9 rfl rfl (fun j7 j5 d d0 => lr (Wh c2 (Wh c3 (bS D fun _ a9 D => VQ (Bo (i := c6) aD aC rfl rfl d0 (vy a9) (vq a9)) (fun c5 f0 => ?_))))))))))
    refine Wa (lt (nD (lL (lL (nD (lL ?_))))))
    obtain rfl := sj D
    refine mI (v := c5) rfl rfl ?_
    obtain ⟨l3, d, c8, l, f2⟩ := ST.tE kL d f0
    exact ⟨_, _, _, rfl, (d.mW Sn), c8, l, (ST.lU d (nn.mem Sn)), c5, rfl, rfl, f2⟩
   exact mr (lK (kT (kV (Wh G (Wi rfl (Wa (ln ⟨h1, bB _, (IntKind.i64.wrap (t + 1)), _, (d.kG St), y, a3, rfl, a⟩)))))))
  refine nM (nB (nB (qe (kT (sg (Wh y (Wa (lt ?_))))))))
  obtain rfl := sj a
  refine mI (v := g) rfl rfl ?_
  obtain ⟨l4, d, c9, n, f6⟩ := ST.tE kL d B
  exact ⟨_, _, _, rfl, (d.mW Sn), c9, n, (ST.lU d (nn.mem Sn)), g, rfl, rfl, f6⟩
theorem rL (G : Value) (N : List Formula) (H : Value) (l : List Formula) (I : Value) (f2 : (Formula × Formula) → Option Bool) (r : Bool) (w : World) (x : Sl kF 5 (hp w) G N) (Q : Sl kF 5 (hp w) H l) (p : yy Tryz.prog I (hp w) (wv kF kF) (fun (r : Bool) => (.bool r)) f2) (hm : nO N l f2 = some r) :
  lD false Tryz.prog 323 [G, H, I] w (.bool r) := by
 refine cG 32 func323 rfl (fun b => sg (Wa (lS (Wm (V (mi aD rfl x) (Wm (V (mi aD rfl Q) (Wi rfl (lH ?_)))))))))
 refine kT (CI hm rfl (fun s hm => ?_) (fun s hm => ?_))
 ·refine sg (Wa (lt (lL ?_)))
  obtain rfl := sj hm
  exact rP b
 refine kS (Wm (V (mi aD rfl x) (Wm (ln (mf (fun i E W => ∃ y, (E 17 = .int .i64 (i : Nat) ∧ E 16 = .int .i64 (N.length : Nat)) ∧ ST false lT w W (hp w) y ∧ E 1 = H ∧ E 2 = I ∧ E 15 = G ∧ mC l f2 (N.drop i) i = some r) N.length x.len ⟨_, ⟨rfl, rfl⟩, (b.kG St), rfl, rfl, rfl, hm⟩ dc dc dc (fun _ _ _ h => by obtain ⟨_, m, _⟩ := h; exact m) ?_ ?_)))))
 ·rintro a4 E W U ⟨y, ⟨d, n⟩, b, z, B, D, a⟩
  obtain ⟨g, c5, a9, q, a3⟩ := lX U
  rw [a9] at a
  refine bg (Wh d (VQ (mT (i := (a4 : Int)) (x0 := g) kF.out aD aC D d x (aH _) q) (fun b9 ⟨_, ⟨c2, rfl, J⟩, Y⟩ => V (kI rfl (lz b.has Y aK aC)) (VE (lG b aP (fun v P b => Wa ?_))))))
  obtain ⟨j, t, rfl⟩ := J.form
  let a0 := (C2 g.Op g.K g.kC.kD g.kC.kJ j g.Kids.length t)
  refine VO (lf (.agg a0.toArray) (a0.toArray) b rfl rfl aC oc nb rfl (fun A b => lr (Wh z (Wm (bS a fun c M a => VQ (mT (i := (a4 : Int)) (x0 := c) kF.out aD aC rfl rfl Q (lN M) (lM M)) (fun c0 ⟨_, ⟨c3, rfl, K⟩, Z⟩ => V (kI rfl (lz b.has Z aK aC)) (VE (lG b aP (fun F R b => ?_)))))))))
  obtain ⟨k, u, rfl⟩ := K.form
  let a5 := (C2 c.Op c.K c.kC.kD c.kC.kJ k c.Kids.length u)
  refine VO (lf (.agg a5.toArray) (a5.toArray) b rfl rfl aC oc nb rfl (fun L b => lr (Wh B (VA b (Mt Mh) a0 aK aC (VA b Mh a5 aK aC (bS a fun c1 a2 a => VE (zH (g, c) b p (lm.refl _) (wv.mk kL kL (kF.mk ⟨(.slice j g.Kids.length t), rfl, J⟩) (kF.mk ⟨(.slice k c.Kids.length u), rfl, K⟩) b.kN) rfl (yg rfl rfl) a2 (fun O b => V (ot rfl) (ln ?_)))))))))
  replace b := b.kG (Db (Db St))
  refine CI a rfl (fun T a => ?_) (fun T a => ?_)
  ·refine sg (Wa (lt (nD (lL (nD (lL ?_))))))
   obtain rfl := sj a
   exact rP b
  exact mr (lK (kT ⟨d, _, ⟨rfl, n⟩, (b.kG St), z, B, D, (by rw [a3]; exact a)⟩))
 rintro E W ⟨y, ⟨d, n⟩, b, z, B, D, a⟩
 rw [aI] at a
 exact kT (sg (Wa (lt (rQ a b))))
theorem Ep (M : Formula → Formula → Option Bool) (v : ∀ (a : Formula) (j : Value) (c : Formula) (k : Value) (r : Bool) (w : World) (u : Sl kF 5 (hp w) j a.Kids) (y : Sl kF 5 (hp w) k c.Kids), M a c = some r → lD false Tryz.prog 292 [(.agg #[(.int .i64 a.Op), (.int .i64 a.K), (.string a.kC.kD), (.string a.kC.kJ), j]), (.agg #[(.int .i64 c.Op), (.int .i64 c.K), (.string c.kC.kD), (.string c.kC.kJ), k])] w (.bool r)) (a : Formula) (j : Value) (c : Formula) (k : Value) (r : Bool) (w : World) (u : Sl kF 5 (hp w) j a.Kids) (y : Sl kF 5 (hp w) k c.Kids) (hm : xa M a c = some r) :
  lD false Tryz.prog 292 [(.agg #[(.int .i64 a.Op), (.int .i64 a.K), (.string a.kC.kD), (.string a.kC.kJ), j]), (.agg #[(.int .i64 c.Op), (.int .i64 c.K), (.string c.kC.kD), (.string c.kC.kJ), k])] w (.bool r) := by
 refine cG 31 func292 rfl (fun b => sg ?_)
 obtain ⟨N, Y, rfl⟩ := u.form
 let d := (C2 a.Op a.K a.kC.kD a.kC.kJ N a.Kids.length Y)
 refine VE (lJ b rfl (fun W4 T b => ?_))
 obtain ⟨Q, Z, rfl⟩ := y.form
 let a0 := (C2 c.Op c.K c.kC.kD c.kC.kJ Q c.Kids.length Z)
 refine VE (lJ b rfl (fun W8 U b => Wa (lr (Wf oB (VB b (Mt Mh) rfl rfl cD (Wf oB (VB b Mh rfl rfl cD (Wi rfl (Wm (LJ hm (fun a9 E W => ∃ a2, ST false lT w W (hp w) ((U, Ol a0 58) :: ((T, Ol d 58) :: a2)) ∧ E 2 = (.pointer (some ⟨T, 0, none⟩)) ∧ E 3 = (.pointer (some ⟨U, 0, none⟩)) ∧ E 4 = (.bool false) ∧ E 16 = (.bool a9)) 6 ?_ (fun a9 D I => ?_)))))))))))
 ·rintro d1 E W ⟨a2, b, J, K, a5, A⟩ n
  refine Wh A (LJ n (fun m E W => ∃ a3, ST false lT w W (hp w) ((U, Ol a0 58) :: ((T, Ol d 58) :: a3)) ∧ E 2 = (.pointer (some ⟨T, 0, none⟩)) ∧ E 3 = (.pointer (some ⟨U, 0, none⟩)) ∧ E 4 = (.bool false) ∧ E 23 = (.bool m)) 6 ?_ (fun m B H => ?_))
  ·rintro d2 E W ⟨a3, b, F, L, h, c1⟩ p
   refine Wh c1 (LJ p (fun l E W => ∃ a4, ST false lT w W (hp w) a4 ∧ E 4 = (.bool false) ∧ E 30 = (.bool l)) 6 ?_ (fun l z G => ?_))
   ·rintro d3 E W ⟨a4, b, c9, O⟩ q
    exact Wg O (lt (rQ q b))
   refine bC z (fun i z => ?_) (fun i z => ?_)
   ·refine ug i (kP oA F) (ug i (kI rfl (lh b.has (Mt Mh) rfl dZ)) (ug i (kP oA L) (ug i (kI rfl (lh b.has Mh rfl dZ)) (bS z fun d0 s z => sE i (Eg b call323 (rL (.slice N a.Kids.length Y) a.Kids (.slice Q c.Kids.length Z) c.Kids (.func (.func 292) #[] #[]) (fun (x : (Formula × Formula)) => M x.1 x.2) _ _ (u.mono kL.mono b.kN) (y.mono kL.mono b.kN) ⟨292, #[], #[], rfl, call292, fun W x vs r hs hR hm => by obtain ⟨_, _, rfl, P, R⟩ := hR; obtain ⟨u0, rfl, k0⟩ := P.out; obtain ⟨t0, rfl, j0⟩ := R.out; exact v x.1 u0 x.2 t0 r W k0 j0 hm⟩ s) (fun c8 b => V (li (cB i) rfl) ?_))))))
    obtain rfl := sj z
    exact G _ _ ⟨_, (b.kG (Db (Db St))), h, rfl⟩
   refine un i (un i (un i (un i (un i (V (lj (cB i) rfl) ?_)))))
   obtain rfl := sj z
   exact G _ _ ⟨_, (b.kG (Db (Db St))), h, rfl⟩
  refine bC B (fun g B => ?_) (fun g B => ?_)
  ·refine ug g (kP uP J) (ug g (kI rfl (kM b.has (Mt Mh) (kQ a.kC) rfl bG aR)) (ug g (kP uP K) (ug g (kI rfl (kM b.has Mh (kQ c.kC) rfl bG aR)) (ug g (uU rfl rfl (ob eL) (qW (qb _ a.kC c.kC))) (V (li (cB g) rfl) ?_)))))
   obtain rfl := sj B
   exact H _ _ ⟨_, (b.kG St), J, K, a5, rfl⟩
  refine un g (un g (un g (un g (un g (V (lj (cB g) rfl) ?_)))))
  obtain rfl := sj B
  exact H _ _ ⟨_, (b.kG St), J, K, a5, rfl⟩
 refine bC D (fun t D => ?_) (fun t D => ?_)
 ·refine ug t (kP sH rfl) (ug t (kI rfl (lh b.has (Mt Mh) rfl cD)) (ug t (kP sH rfl) (ug t (kI rfl (lh b.has Mh rfl cD)) (ug t (lR rfl rfl rfl) (V (li (cB t) rfl) ?_)))))
  obtain rfl := sj D
  exact I _ _ ⟨_, (b.kG St), rfl, rfl, rfl, rfl⟩
 refine un t (un t (un t (un t (un t (V (lj (cB t) rfl) ?_)))))
 obtain rfl := sj D
 exact I _ _ ⟨_, (b.kG St), rfl, rfl, rfl, rfl⟩
theorem Dp : ∀ (n : Nat) (g : Formula) (a : Value) (i : Formula) (c : Value) (r : Bool) (w : World) (j : Sl kF 5 (hp w) a g.Kids) (k : Sl kF 5 (hp w) c i.Kids) (_ : pg n g i = some r),
  lD false Tryz.prog 292 [(.agg #[(.int .i64 g.Op), (.int .i64 g.K), (.string g.kC.kD), (.string g.kC.kJ), a]), (.agg #[(.int .i64 i.Op), (.int .i64 i.K), (.string i.kC.kD), (.string i.kC.kJ), c])] w (.bool r)
 | 0 => by intros; rename_i h; simp only [pg] at h; cases h
 | n + 1 => Ep (pg n) (Dp n)
end Go.Proofs.YtklbhegeiijbjaaGreat
