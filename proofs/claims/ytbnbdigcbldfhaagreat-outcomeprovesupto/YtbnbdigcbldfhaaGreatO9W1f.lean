/- a part of a proof of OutcomeProves -/
import Derived.Test.YtbnbdigcbldfhaaGreatO9Mf
import Derived.Test.YtbnbdigcbldfhaaGreatProg
set_option linter.all false
namespace Go.Proofs.YtbnbdigcbldfhaaGreat
open Go.IntKind renaming wrap → wi0
open Go.Proofs.Tryz renaming prog → pg0
open Go.RowKit
set_option maxRecDepth 10000
open Tryz
def aC := @sizeOf28
def aF := @underlying34
def aM := @sizeOf108
def aO := @isAgg28
def aW := @underlying22
def aX := @underlying45
def aY := @isAgg9
def aZ := @sizeOf57
def bJ := @underlying112
def bL := @underlying9
def bM := @isAgg108
def bQ := @zeroValue28
def bR := @underlying120
def bU := @sizeOf38
def bZ := @underlying55
def cg := @zeroValue108
def cu := @sizeOf140
def cw := @underlying78
def cx := @isAgg57
def cA := @underlying38
def cE := @underlying99
def cH := @isAgg3
def cI := @underlying28
def cW := @underlying108
def cX := @zeroValue38
def cY := @eqGuardType28
def di := @sizeOf64
def dl := @sizeOf9
def dp := @zeroValue57
def dx := @isAgg38
def dK := @zeroValue140
def dQ := @zeroValue64
def dZ := @underlying140
def ec := @underlying64
def ek := @sizeOf34
def ew := @isAgg34
def eB := @underlying174
def eC := @underlying170
def eP := @isAgg64
def eV := @underlying54
def eW := @underlying5
def eX := @isAgg140
def eY := @call165
def fa := @underlying234
def fe := @isAgg55
def fq := @underlying81
def ft := @zeroValue175
def fu := @underlying79
def fz := @underlying217
def fA := @underlying175
def fQ := @underlying57
def fR := @isAgg78
def gv := @zeroValue4
def gz := @underlying3
def gV := @sizeOf78
def gW := @underlying52
def gX := @sizeOf54
def gZ := @isAgg22
def hZ := @call100
def iz := @sizeOf3
def iA := @underlying158
def iB := @underlying280
def iC := @underlying191
def iD := @underlying206
def iE := @isAgg45
def iJ := @isAgg170
def iK := @zeroValue34
def iZ := @sizeOf5
def ja := @call166
def jb := @sizeOf197
def jq := @eqGuardType108
def jr := @zeroValue9
def js := @call99
def jE := @call157
def jF := @zeroValue54
def jV := @underlying250
def jW := @underlying240
def kf := @underlying96
def kh := @call177
def ki := @call115
def kj := @zeroValue5
def kk := @isAgg62
def kl := @underlying89
def kv := @sizeOf22
def kw := @sizeOf45
def kx := @zeroValue22
def kz := @isAgg54
abbrev K0 : kA := ⟨zS, zS⟩
abbrev K1 : ByteArray := ⟨#[120]⟩
abbrev K2 : ByteArray := ⟨#[121]⟩
abbrev K3 : ByteArray := ⟨#[121, 111, 117]⟩
abbrev K4 : ByteArray := ⟨#[109, 101]⟩
abbrev K5 : ByteArray := ⟨#[98, 111, 98]⟩
abbrev K6 : kA := ⟨K1, K2⟩
abbrev K7 : kB := ⟨0, K0, zS, K0, K0, zS⟩
abbrev K9 : kF := ⟨K0, zS⟩
abbrev Hg : kB := ⟨1, K6, K3, K0, K0, zS⟩
abbrev PM : Formula := ⟨1, 0, K6, []⟩
abbrev C1 (a c : Int) (d g : ByteArray) (h : Option Addr) (i j : Nat) : List Value := [(.int .i64 a), (.int .i64 c), (.string d), (.string g), (.slice h i j)]
abbrev C2 (q : ByteArray) (s : Option Addr) (t u : Nat) (v : Option Addr) (w x : Nat) (y : ByteArray) (z : Int) (A : Option Addr) (a c : Nat) (d : Option Addr) (g h : Nat) (i : Option Addr) (j k : Nat) (m : Option Addr) (n o : Nat) : List Value := [(.string q), (.slice s t u), (.slice v w x), (.string y), (.int .i64 z), (.slice A a c), (.slice d g h), (.slice i j k), (.slice m n o)]
abbrev C3 (a c : Int) (d : Option Addr) (g h : Nat) (i : Option Addr) (j k : Nat) : List Value := [(.int .i64 a), (.int .i64 c), (.slice d g h), (.slice i j k)]
abbrev C4 (d : Int) (g h i j k m n o : ByteArray) (q : Option Addr) (a c : Nat) : List Value := [(.int .i64 d), (.string g), (.string h), (.string i), (.string j), (.string k), (.string m), (.string n), (.string o), (.slice q a c)]
abbrev C5 (a : Nat) : List Value := [(.string K4), (.slice none 0 0), (.slice none 0 0), (.string K3), (.int .i64 3), (.slice (some ⟨a, 0, none⟩) 1 1), (.slice none 0 0), (.slice none 0 0), (.slice none 0 0)]
abbrev C6 : List Value := [(.int .i64 1), (.int .i64 0), (.string (K6.kI)), (.string (K6.kU)), (.slice none 0 0)]
abbrev C7 (a c : Int) : List Value := [(.int .i64 a), (.int .i64 c), (.slice none 0 0), (.slice none 0 0)]
abbrev C8 : List Value := [(.int .i64 0), (.int .i64 0), (.slice none 0 0), (.slice none 0 0)]
theorem lB : Tryz.prog.follows .mixedOrders = true := by rfl
theorem ML : Tryz.prog.info? 3 = some Tryz.t3 ∧ Tryz.t3.zero = some (.int .i64 0) ∧ Tryz.t3.size = 1 ∧ Tryz.t3.bytes = 8 := ⟨by kernel_rfl, by kernel_rfl, by kernel_rfl, by kernel_rfl⟩
theorem MM : Tryz.prog.info? 4 = some Tryz.t4 ∧ Tryz.t4.zero = some (.bool false) ∧ Tryz.t4.size = 1 ∧ Tryz.t4.bytes = 1 := ⟨by kernel_rfl, by kernel_rfl, by kernel_rfl, by kernel_rfl⟩
theorem uF : Tryz.prog.info? 5 = some Tryz.t5 ∧ Tryz.t5.zero = some (.int .u8 0) ∧ Tryz.t5.size = 1 ∧ Tryz.t5.bytes = 1 := ⟨by kernel_rfl, by kernel_rfl, by kernel_rfl, by kernel_rfl⟩
theorem xq : Tryz.prog.info? 9 = some Tryz.t9 ∧ Tryz.t9.zero = some (.string ⟨#[]⟩) ∧ Tryz.t9.size = 1 ∧ Tryz.t9.bytes = 16 := ⟨by kernel_rfl, by kernel_rfl, by kernel_rfl, by kernel_rfl⟩
theorem mw : Tryz.prog.info? 28 = some Tryz.t28 ∧ Tryz.t28.zero = some (.agg #[(.string ⟨#[]⟩), (.string ⟨#[]⟩)]) ∧ Tryz.t28.size = 2 ∧ Tryz.t28.bytes = 32 := ⟨by kernel_rfl, by kernel_rfl, by kernel_rfl, by kernel_rfl⟩
theorem pU : Tryz.prog.info? 34 = some Tryz.t34 ∧ Tryz.t34.zero = some (.slice none 0 0) ∧ Tryz.t34.size = 1 ∧ Tryz.t34.bytes = 24 := ⟨by kernel_rfl, by kernel_rfl, by kernel_rfl, by kernel_rfl⟩
theorem pW : Tryz.prog.info? 38 = some Tryz.t38 ∧ Tryz.t38.zero = some (.agg #[(.string ⟨#[]⟩), (.string ⟨#[]⟩), (.string ⟨#[]⟩)]) ∧ Tryz.t38.size = 3 ∧ Tryz.t38.bytes = 48 := ⟨by kernel_rfl, by kernel_rfl, by kernel_rfl, by kernel_rfl⟩
theorem qb : Tryz.prog.info? 108 = some Tryz.t108 ∧ Tryz.t108.zero = some (.agg #[(.int .i64 0), (.string ⟨#[]⟩), (.string ⟨#[]⟩), (.string ⟨#[]⟩), (.string ⟨#[]⟩), (.string ⟨#[]⟩), (.string ⟨#[]⟩), (.string ⟨#[]⟩), (.string ⟨#[]⟩)]) ∧ Tryz.t108.size = 9 ∧ Tryz.t108.bytes = 136 := ⟨by kernel_rfl, by kernel_rfl, by kernel_rfl, by kernel_rfl⟩
theorem oq : Tryz.prog.info? 140 = some Tryz.t140 ∧ Tryz.t140.zero = some (.agg #[(.int .i64 0), (.string ⟨#[]⟩), (.string ⟨#[]⟩), (.string ⟨#[]⟩), (.string ⟨#[]⟩), (.string ⟨#[]⟩), (.string ⟨#[]⟩), (.string ⟨#[]⟩), (.string ⟨#[]⟩), (.string ⟨#[]⟩), (.string ⟨#[]⟩), (.string ⟨#[]⟩)]) ∧ Tryz.t140.size = 12 ∧ Tryz.t140.bytes = 184 := ⟨by kernel_rfl, by kernel_rfl, by kernel_rfl, by kernel_rfl⟩
theorem oF : mj pg0 28 0 0 := lI cI rfl dl (by decide) rfl
theorem uo : mj pg0 28 1 1 := lI cI rfl dl (by decide) rfl
theorem Us : (Tryz.prog.fieldsOf 28).toList = (match Tryz.prog.underlying 28 with | some (.struct a) => a.toList | _ => []) := by rw [cI]; simp [Program.fieldsOf, cI]
theorem ob (d : Nat) (x y : kA) (W : World) : (Op.equalIn (d + 2) 28 (.agg (kC x).toArray) (.agg (kC y).toArray)).run pg0 W = .ok (kQ x y) W := by
 rw [gu W (d + 1) 28 _ _ (by kernel_rfl) Tryz.stoodInHeld28, Us, cI]
 exact (oU (by decide) (qv aY rfl) (qv aY rfl) (Sa bL _ _ _ _) (oU (by decide) (qv aY rfl) (qv aY rfl) (Sa bL _ _ _ _) (Ba _ _ _)))
theorem Hn : ∀ a, Tryz.prog.underlying 28 = some (.struct a) → ∀ w, (a.mapM (fun (f : Field) => do pure (f.offset, ← sizeOf f.type)) : Sem (Array (Nat × Nat))).run pg0 w = .ok #[(0, 1), (1, 1)] w := by
 intro a h w
 rw [cI] at h
 cases h
 kernel_rfl
theorem om : mj pg0 108 0 0 := lI cW rfl iz (by decide) rfl
theorem oD : mj pg0 108 1 1 := lI cW rfl aC (by decide) rfl
theorem sW : mj pg0 108 2 3 := lI cW rfl dl (by decide) rfl
theorem mW : mj pg0 108 3 4 := lI cW rfl aC (by decide) rfl
theorem pO : mj pg0 108 4 6 := lI cW rfl aC (by decide) rfl
theorem rX : mj pg0 108 5 8 := lI cW rfl dl (by decide) rfl
theorem SO : (Tryz.prog.fieldsOf 108).toList = (match Tryz.prog.underlying 108 with | some (.struct a) => a.toList | _ => []) := by rw [cW]; simp [Program.fieldsOf, cW]
theorem DR (d : Nat) (x y : kB) (W : World) : (Op.equalIn (d + 3) 108 (.agg (kG x).toArray) (.agg (kG y).toArray)).run pg0 W = .ok (oP x y) W := by
 rw [gu W (d + 2) 108 _ _ (by kernel_rfl) Tryz.stoodInHeld108, SO, cW]
 exact (oU (by decide) (qv cH rfl) (qv cH rfl) (ZE gz _ _ _ _) (oU (by decide) (tC aO aC rfl) (tC aO aC rfl) (ob _ x.Head y.Head W) (oU (by decide) (qv aY rfl) (qv aY rfl) (Sa bL _ _ _ _) (oU (by decide) (tC aO aC rfl) (tC aO aC rfl) (ob _ x.B y.B W) (oU (by decide) (tC aO aC rfl) (tC aO aC rfl) (ob _ x.C y.C W) (oU (by decide) (qv aY rfl) (qv aY rfl) (Sa bL _ _ _ _) (Ba _ _ _)))))))
theorem MP : ∀ a, Tryz.prog.underlying 108 = some (.struct a) → ∀ w, (a.mapM (fun (f : Field) => do pure (f.offset, ← sizeOf f.type)) : Sem (Array (Nat × Nat))).run pg0 w = .ok #[(0, 1), (1, 2), (3, 1), (4, 2), (6, 2), (8, 1)] w := by
 intro a h w
 rw [cW] at h
 cases h
 kernel_rfl
theorem wS : mj pg0 38 0 0 := lI cA rfl aC (by decide) rfl
theorem sP : mj pg0 38 1 2 := lI cA rfl dl (by decide) rfl
theorem TM : (Tryz.prog.fieldsOf 38).toList = (match Tryz.prog.underlying 38 with | some (.struct a) => a.toList | _ => []) := by rw [cA]; simp [Program.fieldsOf, cA]
theorem DA (d : Nat) (x y : kF) (W : World) : (Op.equalIn (d + 3) 38 (.agg (kO x).toArray) (.agg (kO y).toArray)).run pg0 W = .ok (nq x y) W := by
 rw [gu W (d + 2) 38 _ _ (by kernel_rfl) Tryz.stoodInHeld38, TM, cA]
 exact (oU (by decide) (tC aO aC rfl) (tC aO aC rfl) (ob _ x.kA y.kA W) (oU (by decide) (qv aY rfl) (qv aY rfl) (Sa bL _ _ _ _) (Ba _ _ _)))
theorem EH : ∀ a, Tryz.prog.underlying 38 = some (.struct a) → ∀ w, (a.mapM (fun (f : Field) => do pure (f.offset, ← sizeOf f.type)) : Sem (Array (Nat × Nat))).run pg0 w = .ok #[(0, 2), (2, 1)] w := by
 intro a h w
 rw [cA] at h
 cases h
 kernel_rfl
theorem Dh : mj pg0 140 0 0 := lI dZ rfl aM (by decide) rfl
theorem sX : mj pg0 140 1 9 := lI dZ rfl bU (by decide) rfl
theorem R4 : (Tryz.prog.fieldsOf 140).toList = (match Tryz.prog.underlying 140 with | some (.struct a) => a.toList | _ => []) := by rw [dZ]; simp [Program.fieldsOf, dZ]
theorem Ua (d : Nat) (x y : kY) (W : World) : (Op.equalIn (d + 4) 140 (.agg (lf x).toArray) (.agg (lf y).toArray)).run pg0 W = .ok (Dj x y) W := by
 rw [gu W (d + 3) 140 _ _ (by kernel_rfl) Tryz.stoodInHeld140, R4, dZ]
 exact (oU (by decide) (tC bM aM rfl) (tC bM aM rfl) (DR _ x.kB y.kB W) (oU (by decide) (tC dx bU rfl) (tC dx bU rfl) (DA _ x.kF y.kF W) (Ba _ _ _)))
theorem UC : ∀ a, Tryz.prog.underlying 140 = some (.struct a) → ∀ w, (a.mapM (fun (f : Field) => do pure (f.offset, ← sizeOf f.type)) : Sem (Array (Nat × Nat))).run pg0 w = .ok #[(0, 9), (9, 3)] w := by
 intro a h w
 rw [dZ] at h
 cases h
 kernel_rfl
theorem Ve : mj pg0 197 0 0 := lI underlying197 rfl aM (by decide) rfl
theorem VN : mj pg0 197 1 9 := lI underlying197 rfl gV (by decide) rfl
theorem wY : mj pg0 57 0 0 := lI fQ rfl iz (by decide) rfl
theorem Ad : mj pg0 57 1 1 := lI fQ rfl iz (by decide) rfl
theorem yM : mj pg0 57 2 2 := lI fQ rfl aC (by decide) rfl
theorem ux : mj pg0 57 3 4 := lI fQ rfl sizeOf55 (by decide) rfl
theorem Zd : ∀ a, Tryz.prog.underlying 57 = some (.struct a) → ∀ w, (a.mapM (fun (f : Field) => do pure (f.offset, ← sizeOf f.type)) : Sem (Array (Nat × Nat))).run pg0 w = .ok #[(0, 1), (1, 1), (2, 2), (4, 1)] w := by
 intro a h w
 rw [fQ] at h
 cases h
 kernel_rfl
theorem V7 : mj pg0 199 0 0 := lI underlying199 rfl jb (by decide) rfl
theorem Vt : mj pg0 199 1 10 := lI underlying199 rfl aZ (by decide) rfl
theorem Px : mj pg0 202 0 0 := lI underlying202 rfl aC (by decide) rfl
theorem Vi : mj pg0 202 1 2 := lI underlying202 rfl aZ (by decide) rfl
theorem VD : mj pg0 202 2 7 := lI underlying202 rfl kv (by decide) rfl
theorem WH : mj pg0 52 0 0 := lI gW rfl dl (by decide) rfl
theorem Xe : mj pg0 52 1 1 := lI gW rfl sizeOf49 (by decide) rfl
theorem Xi : mj pg0 52 2 2 := lI gW rfl sizeOf50 (by decide) rfl
theorem Zw : ∀ a, Tryz.prog.underlying 52 = some (.struct a) → ∀ w, (a.mapM (fun (f : Field) => do pure (f.offset, ← sizeOf f.type)) : Sem (Array (Nat × Nat))).run pg0 w = .ok #[(0, 1), (1, 1), (2, 1)] w := by
 intro a h w
 rw [gW] at h
 cases h
 kernel_rfl
theorem WU : mj pg0 54 0 0 := lI eV rfl sizeOf52 (by decide) rfl
theorem G9 : mj pg0 54 1 3 := lI eV rfl dl (by decide) rfl
theorem Dw : mj pg0 54 3 5 := lI eV rfl kv (by decide) rfl
theorem WE : mj pg0 54 4 6 := lI eV rfl kv (by decide) rfl
theorem XL : mj pg0 54 5 7 := lI eV rfl ek (by decide) rfl
theorem Xd : mj pg0 54 6 8 := lI eV rfl ek (by decide) rfl
theorem Zn : ∀ a, Tryz.prog.underlying 54 = some (.struct a) → ∀ w, (a.mapM (fun (f : Field) => do pure (f.offset, ← sizeOf f.type)) : Sem (Array (Nat × Nat))).run pg0 w = .ok #[(0, 3), (3, 1), (4, 1), (5, 1), (6, 1), (7, 1), (8, 1)] w := by
 intro a h w
 rw [eV] at h
 cases h
 kernel_rfl
theorem Fe : mj pg0 64 0 0 := lI ec rfl iz (by decide) rfl
theorem G4 : mj pg0 64 1 1 := lI ec rfl sizeOf62 (by decide) rfl
theorem wL : mj pg0 64 2 2 := lI ec rfl ek (by decide) rfl
theorem yU : mj pg0 64 3 3 := lI ec rfl kw (by decide) rfl
theorem Tz : ∀ a, Tryz.prog.underlying 64 = some (.struct a) → ∀ w, (a.mapM (fun (f : Field) => do pure (f.offset, ← sizeOf f.type)) : Sem (Array (Nat × Nat))).run pg0 w = .ok #[(0, 1), (1, 1), (2, 1), (3, 1)] w := by
 intro a h w
 rw [ec] at h
 cases h
 kernel_rfl
theorem Bh : mj pg0 81 0 0 := lI fq rfl gV (by decide) rfl
theorem TG : ∀ a, Tryz.prog.underlying 81 = some (.struct a) → ∀ w, (a.mapM (fun (f : Field) => do pure (f.offset, ← sizeOf f.type)) : Sem (Array (Nat × Nat))).run pg0 w = .ok #[(0, 1)] w := by
 intro a h w
 rw [fq] at h
 cases h
 kernel_rfl
theorem zl : mj pg0 158 0 0 := lI iA rfl gV (by decide) rfl
theorem KJ : mj pg0 158 1 1 := lI iA rfl sizeOf4 (by decide) rfl
theorem YM : ∀ a, Tryz.prog.underlying 158 = some (.struct a) → ∀ w, (a.mapM (fun (f : Field) => do pure (f.offset, ← sizeOf f.type)) : Sem (Array (Nat × Nat))).run pg0 w = .ok #[(0, 1), (1, 1)] w := by
 intro a h w
 rw [iA] at h
 cases h
 kernel_rfl
theorem WX : mj pg0 96 0 0 := lI kf rfl gX (by decide) rfl
theorem Xx : mj pg0 96 1 9 := lI kf rfl aZ (by decide) rfl
theorem WV : mj pg0 96 2 14 := lI kf rfl di (by decide) rfl
theorem X3 : mj pg0 96 3 18 := lI kf rfl kv (by decide) rfl
theorem zu : mj pg0 174 0 0 := lI eB rfl sizeOf170 (by decide) rfl
theorem KR : mj pg0 174 1 1 := lI eB rfl kv (by decide) rfl
theorem Qe : mj pg0 174 2 2 := lI eB rfl sizeOf171 (by decide) rfl
theorem KG : mj pg0 174 3 3 := lI eB rfl sizeOf172 (by decide) rfl
theorem Dk : mj pg0 174 4 4 := lI eB rfl sizeOf120 (by decide) rfl
theorem H8 : mj pg0 174 5 5 := lI eB rfl iz (by decide) rfl
theorem YJ : ∀ a, Tryz.prog.underlying 174 = some (.struct a) → ∀ w, (a.mapM (fun (f : Field) => do pure (f.offset, ← sizeOf f.type)) : Sem (Array (Nat × Nat))).run pg0 w = .ok #[(0, 1), (1, 1), (2, 1), (3, 1), (4, 1), (5, 1)] w := by
 intro a h w
 rw [eB] at h
 cases h
 kernel_rfl
theorem V1 : mj pg0 217 0 0 := lI fz rfl sizeOf89 (by decide) rfl
theorem Wc : mj pg0 217 1 1 := lI fz rfl sizeOf62 (by decide) rfl
theorem Yx : ∀ a, Tryz.prog.underlying 217 = some (.struct a) → ∀ w, (a.mapM (fun (f : Field) => do pure (f.offset, ← sizeOf f.type)) : Sem (Array (Nat × Nat))).run pg0 w = .ok #[(0, 1), (1, 1)] w := by
 intro a h w
 rw [fz] at h
 cases h
 kernel_rfl
theorem VF : mj pg0 242 0 0 := lI underlying242 rfl dl (by decide) rfl
theorem Vw : mj pg0 242 1 1 := lI underlying242 rfl gV (by decide) rfl
def vy : rH Signed := fun μ ys x => ∃ (v0 : Value), ys = [.int .i64 x.kB.Kind, .string x.kB.Head.kI, .string x.kB.Head.kU, .string x.kB.ly, .string x.kB.B.kI, .string x.kB.B.kU, .string x.kB.C.kI, .string x.kB.C.kU, .string x.kB.lU, v0] ∧ Sl (Pl (lM .u8)) 1 μ v0 x.Tag
theorem vy.out {μ : lq} {ys : List Value} {x : Signed} (h : vy μ ys x) : ∃ (v0 : Value), ys = [.int .i64 x.kB.Kind, .string x.kB.Head.kI, .string x.kB.Head.kU, .string x.kB.ly, .string x.kB.B.kI, .string x.kB.B.kU, .string x.kB.C.kI, .string x.kB.C.kU, .string x.kB.lU, v0] ∧ Sl (Pl (lM .u8)) 1 μ v0 x.Tag := h
theorem vy.mk {μ : lq} {ys : List Value} {x : Signed} (h : ∃ (v0 : Value), ys = [.int .i64 x.kB.Kind, .string x.kB.Head.kI, .string x.kB.Head.kU, .string x.kB.ly, .string x.kB.B.kI, .string x.kB.B.kU, .string x.kB.C.kI, .string x.kB.C.kU, .string x.kB.lU, v0] ∧ Sl (Pl (lM .u8)) 1 μ v0 x.Tag) : vy μ ys x := h
theorem Dc : Deep vy 10 where
 mono := by rintro _ _ _ _ c ⟨v0, rfl, a⟩; exact ⟨v0, rfl, a.mono (Pl.mono _) c⟩
 len := by rintro _ _ _ ⟨v0, rfl, a⟩; rfl
 one := by
  rintro _ _ _ ⟨v0, rfl, a⟩
  intro u hu; simp only [aQ, da, fh] at hu; rcases hu with rfl | rfl | rfl | rfl | rfl | rfl | rfl | rfl | rfl | rfl
  ·rfl
  ·rfl
  ·rfl
  ·rfl
  ·rfl
  ·rfl
  ·rfl
  ·rfl
  ·rfl
  ·exact a.CK
def Ah : Nat → rH Formula
 | 0 => fun _ _ _ => False
 | n + 1 => fun μ ys x => ∃ (v0 : Value), ys = [.int .i64 x.Op, .int .i64 x.K, .string x.kA.kI, .string x.kA.kU, v0] ∧ Sl (Ah n) 5 μ v0 x.Kids
def la : rH Formula := fun μ ys x => ∃ n, Ah n μ ys x
theorem G1 : ∀ n, JE (Ah n)
 | 0 => fun _ _ _ _ _ h => h
 | n + 1 => by rintro _ _ _ _ c ⟨v0, rfl, a⟩; exact ⟨v0, rfl, a.mono (G1 n) c⟩
theorem JK : ∀ n m (μ : lq) (ys : List Value) (x : Formula), n ≤ m → Ah n μ ys x → Ah m μ ys x
 | 0, _, _, _, _, _, h => h.elim
 | n + 1, 0, _, _, _, a, _ => absurd a (by omega)
 | n + 1, m + 1, μ, ys, x, a, h => by
  obtain ⟨v0, rfl, c⟩ := h
  exact ⟨v0, rfl, c.imp fun ys x h => JK n m μ ys x (by omega) h⟩
theorem la.out {μ : lq} {ys : List Value} {x : Formula} (h : la μ ys x) : ∃ (v0 : Value), ys = [.int .i64 x.Op, .int .i64 x.K, .string x.kA.kI, .string x.kA.kU, v0] ∧ Sl la 5 μ v0 x.Kids := by
 obtain ⟨n, h⟩ := h
 cases n with
 | zero => exact h.elim
 | succ n =>
  obtain ⟨v0, rfl, a⟩ := h
  exact ⟨v0, rfl, a.imp fun ys x h => ⟨n, h⟩⟩
theorem la.mk {μ : lq} {ys : List Value} {x : Formula} (h : ∃ (v0 : Value), ys = [.int .i64 x.Op, .int .i64 x.K, .string x.kA.kI, .string x.kA.kU, v0] ∧ Sl la 5 μ v0 x.Kids) : la μ ys x := by
 obtain ⟨v0, rfl, c⟩ := h
 obtain ⟨n, g⟩ := c.YK (fun _ _ h => h) (fun a b ys x d h => JK a b _ ys x d h)
 exact ⟨n + 1, v0, rfl, g⟩
theorem lZ : Deep la 5 where
 mono := fun _ _ _ _ c ⟨n, h⟩ => ⟨n, G1 n _ _ _ _ c h⟩
 len := by rintro _ _ _ h; obtain ⟨v0, rfl, a⟩ := h.out; rfl
 one := by
  rintro _ _ _ h
  obtain ⟨v0, rfl, a⟩ := h.out
  intro u hu; simp only [aQ, da, fh] at hu; rcases hu with rfl | rfl | rfl | rfl | rfl
  ·rfl
  ·rfl
  ·rfl
  ·rfl
  ·exact a.CK
def oR : rH nR := fun μ ys x => ∃ (v0 : Value) (v1 : Value), ys = [.int .i64 x.Signed.kB.Kind, .string x.Signed.kB.Head.kI, .string x.Signed.kB.Head.kU, .string x.Signed.kB.ly, .string x.Signed.kB.B.kI, .string x.Signed.kB.B.kU, .string x.Signed.kB.C.kI, .string x.Signed.kB.C.kU, .string x.Signed.kB.lU, v0, .int .i64 x.lp.Op, .int .i64 x.lp.K, .string x.lp.kA.kI, .string x.lp.kA.kU, v1] ∧ Sl (Pl (lM .u8)) 1 μ v0 x.Signed.Tag ∧ Sl la 5 μ v1 x.lp.Kids
theorem oR.out {μ : lq} {ys : List Value} {x : nR} (h : oR μ ys x) : ∃ (v0 : Value) (v1 : Value), ys = [.int .i64 x.Signed.kB.Kind, .string x.Signed.kB.Head.kI, .string x.Signed.kB.Head.kU, .string x.Signed.kB.ly, .string x.Signed.kB.B.kI, .string x.Signed.kB.B.kU, .string x.Signed.kB.C.kI, .string x.Signed.kB.C.kU, .string x.Signed.kB.lU, v0, .int .i64 x.lp.Op, .int .i64 x.lp.K, .string x.lp.kA.kI, .string x.lp.kA.kU, v1] ∧ Sl (Pl (lM .u8)) 1 μ v0 x.Signed.Tag ∧ Sl la 5 μ v1 x.lp.Kids := h
theorem oR.mk {μ : lq} {ys : List Value} {x : nR} (h : ∃ (v0 : Value) (v1 : Value), ys = [.int .i64 x.Signed.kB.Kind, .string x.Signed.kB.Head.kI, .string x.Signed.kB.Head.kU, .string x.Signed.kB.ly, .string x.Signed.kB.B.kI, .string x.Signed.kB.B.kU, .string x.Signed.kB.C.kI, .string x.Signed.kB.C.kU, .string x.Signed.kB.lU, v0, .int .i64 x.lp.Op, .int .i64 x.lp.K, .string x.lp.kA.kI, .string x.lp.kA.kU, v1] ∧ Sl (Pl (lM .u8)) 1 μ v0 x.Signed.Tag ∧ Sl la 5 μ v1 x.lp.Kids) : oR μ ys x := h
theorem BQ : Deep oR 15 where
 mono := by rintro _ _ _ _ c ⟨v0, v1, rfl, a, h1⟩; exact ⟨v0, v1, rfl, a.mono (Pl.mono _) c, h1.mono lZ.mono c⟩
 len := by rintro _ _ _ ⟨v0, v1, rfl, a, h1⟩; rfl
 one := by
  rintro _ _ _ ⟨v0, v1, rfl, a, h1⟩
  intro u hu; simp only [aQ, da, fh] at hu; rcases hu with rfl | rfl | rfl | rfl | rfl | rfl | rfl | rfl | rfl | rfl | rfl | rfl | rfl | rfl | rfl
  ·rfl
  ·rfl
  ·rfl
  ·rfl
  ·rfl
  ·rfl
  ·rfl
  ·rfl
  ·rfl
  ·exact a.CK
  ·rfl
  ·rfl
  ·rfl
  ·rfl
  ·exact h1.CK
def ve : rH uJ := fun μ ys x => ∃ (v0 : Value) (v1 : Value), ys = [.string x.kA.kI, .string x.kA.kU, .int .i64 x.lp.Op, .int .i64 x.lp.K, .string x.lp.kA.kI, .string x.lp.kA.kU, v0, v1] ∧ Sl la 5 μ v0 x.lp.Kids ∧ Sl (Pl kG) 9 μ v1 x.qE
theorem ve.out {μ : lq} {ys : List Value} {x : uJ} (h : ve μ ys x) : ∃ (v0 : Value) (v1 : Value), ys = [.string x.kA.kI, .string x.kA.kU, .int .i64 x.lp.Op, .int .i64 x.lp.K, .string x.lp.kA.kI, .string x.lp.kA.kU, v0, v1] ∧ Sl la 5 μ v0 x.lp.Kids ∧ Sl (Pl kG) 9 μ v1 x.qE := h
theorem ve.mk {μ : lq} {ys : List Value} {x : uJ} (h : ∃ (v0 : Value) (v1 : Value), ys = [.string x.kA.kI, .string x.kA.kU, .int .i64 x.lp.Op, .int .i64 x.lp.K, .string x.lp.kA.kI, .string x.lp.kA.kU, v0, v1] ∧ Sl la 5 μ v0 x.lp.Kids ∧ Sl (Pl kG) 9 μ v1 x.qE) : ve μ ys x := h
theorem KX : Deep ve 8 where
 mono := by rintro _ _ _ _ c ⟨v0, v1, rfl, a, h1⟩; exact ⟨v0, v1, rfl, a.mono lZ.mono c, h1.mono (Pl.mono _) c⟩
 len := by rintro _ _ _ ⟨v0, v1, rfl, a, h1⟩; rfl
 one := by
  rintro _ _ _ ⟨v0, v1, rfl, a, h1⟩
  intro u hu; simp only [aQ, da, fh] at hu; rcases hu with rfl | rfl | rfl | rfl | rfl | rfl | rfl | rfl
  ·rfl
  ·rfl
  ·rfl
  ·rfl
  ·rfl
  ·rfl
  ·exact a.CK
  ·exact h1.CK
def Fz : rH Key := fun μ ys x => ∃ (v0 : Value), ys = [.string x.ly, v0] ∧ Sl (Pl (lM .u8)) 1 μ v0 x.Key
theorem Fz.out {μ : lq} {ys : List Value} {x : Key} (h : Fz μ ys x) : ∃ (v0 : Value), ys = [.string x.ly, v0] ∧ Sl (Pl (lM .u8)) 1 μ v0 x.Key := h
theorem Fz.mk {μ : lq} {ys : List Value} {x : Key} (h : ∃ (v0 : Value), ys = [.string x.ly, v0] ∧ Sl (Pl (lM .u8)) 1 μ v0 x.Key) : Fz μ ys x := h
theorem J0 : pC pg0 9 Value.string mh := pC.string bL
theorem Cm : pC pg0 28 (fun (x : kA) => (.agg (kC x).toArray)) kQ :=
 pC.struct cI (fun d x y W => ob (d + 8) x y W) (fun b k W => Bn cI rfl (eo.2 ⟨fun _ => ⟨.string k.kI, qv aY rfl, uC bL _ _ _ _⟩, (eo.2 ⟨fun _ => ⟨.string k.kU, qv aY rfl, uC bL _ _ _ _⟩, (fun _ h => by cases h)⟩)⟩))
  (fun k x h => (kP.1 h).symm) (fun k => by simp [Instr.sameBits, kC, Ea, mO])
theorem NE : pC pg0 38 (fun (x : kF) => (.agg (kO x).toArray)) nq :=
 pC.struct cA (fun d x y W => DA (d + 7) x y W) (fun b k W => Bn cA rfl (eo.2 ⟨fun _ => ⟨.agg (kC k.kA).toArray, tC aO aC rfl, Bn cI rfl (eo.2 ⟨fun _ => ⟨.string k.kA.kI, qv aY rfl, uC bL _ _ _ _⟩, (eo.2 ⟨fun _ => ⟨.string k.kA.kU, qv aY rfl, uC bL _ _ _ _⟩, (fun _ h => by cases h)⟩)⟩)⟩, (eo.2 ⟨fun _ => ⟨.string k.ly, qv aY rfl, uC bL _ _ _ _⟩, (fun _ h => by cases h)⟩)⟩))
  (fun k x h => (mL.1 h).symm) (fun k => by simp [Instr.sameBits, kO, Ea, mO])
theorem Xj (w : World) (s : ByteArray) (c : Int) : (callFunc 289 [Value.string s, .int .u8 c].toArray).run pg0 w = .ok (.value (.int .i64 (zJ s c))) w := Km func289 (by kernel_rfl) (by kernel_rfl) (by kernel_rfl) (by kernel_rfl) s c w
theorem AN (a : ByteArray) (c r : Int) (w : World) (hm : py a c = some r) :
  lg true pg0 254 [(.string a), (.int .u8 c)] w (.int .i64 r) := by
 exact cG 8 func254 rfl (fun d => sg (Wa (lr (Wm (Wm (VE (QZ (args := [(.string a), (.int .u8 c)]) (v := .int .i64 (zJ a c)) rfl (by exact pM rfl rfl) (Xj _ a c) (Wa (lt (rQ hm d))))))))))
theorem By (a : ByteArray) (c r : Int) (w : World) (hm : tm a c = some r) :
  lg true pg0 215 [(.string a), (.int .u8 c)] w (.int .i64 r) := by
 refine cG 8 func215 rfl (fun d => sg (Wa (lr (Wm (Wm (bS hm fun j g hm => VE (Eg d call254 (AN a c _ _  g) (fun i d => Wa (ln ?_)))))))))
 exact lx (rQ hm d)
theorem O7 (I : ByteArray) (r : Bool) (w : World) (hm : EJ I = some r) :
  lg true pg0 216 [(.string I)] w (.bool r) := by
 refine cG 16 func216 rfl (fun d => sg (Wa (lS (Wm (bS hm fun H J hm => VE (LP d bL cw eW rfl J (fun W3 N T d M q j Y => V (lJ cw rfl j) (Wm (lo ?_)))))))))
 refine kK (lz (fun i E W => ∃ c, (E 8 = .int .i64 (i : Nat) ∧ E 7 = .int .i64 (H.length : Nat)) ∧ ST true lu w W T c ∧ E 6 = N ∧ xB (H.drop i) = some r) H.length j.len ⟨_, ⟨rfl, rfl⟩, (d.kD St), rfl, hm⟩ dc dc dc (fun _ _ _ h => by obtain ⟨_, n, _⟩ := h; exact n) ?_ ?_)
 ·rintro K E W u ⟨c, ⟨m, o⟩, d, g, a⟩
  obtain ⟨k, Q, D, B, G⟩ := ll u
  rw [D] at a
  refine bg (VQ (lY (enc := (lM .u8)) (i := (K : Int)) (x0 := k) cw iZ g m j (aD _) B) (fun Z x => V (kE rfl (nh d.has (y := (.int .u8 k)) x isAgg5)) (Wa (lr (Wm (bS a fun s z a => VE (Eg d call215 (By (⟨#[97, 98, 99, 100, 101, 102, 103, 104, 105, 106, 107, 108, 109, 110, 111, 112, 113, 114, 115, 116, 117, 118, 119, 120, 121, 122, 48, 49, 50, 51, 52, 53, 54, 55, 56, 57, 45]⟩ : ByteArray) k _ _  z) (fun U d => Wi rfl (lo ?_)))))))))
  refine kK (CI a rfl (fun t a => ?_) (fun t a => ?_))
  ·refine sg (Wa (lt (mu (lm (mu (lm ?_))))))
   obtain rfl := sj a
   exact rP d
  exact lG (lA (kK ⟨m, _, ⟨rfl, o⟩, (d.kD St), g, (by rw [G]; exact a)⟩))
 rintro E W ⟨c, ⟨m, o⟩, d, g, a⟩
 rw [aG] at a
 exact kK (sg (Wa (lt (rQ a d))))
theorem uf (z : ByteArray) (r : Bool) (w : World) (hm : qm z = some r) :
  lg true pg0 177 [(.string z)] w (.bool r) := by
 refine cG 21 func177 rfl (fun d => sg (Wa (lr (Wm (V (nF bL rfl) (Wi rfl (Wm (LJ hm (fun K E W => ∃ Y, ST true lu w W (hp w) Y ∧ E 0 = (.string z) ∧ E 2 = (.bool false) ∧ E 10 = (.bool K)) 4 ?_ (fun K t y => ?_)))))))))
 ·rintro x2 E W ⟨Y, d, M, h, n⟩ a5
  refine Wh n (LJ a5 (fun J E W => ∃ D, ST true lu w W (hp w) D ∧ E 0 = (.string z) ∧ E 2 = (.bool false) ∧ E 16 = (.bool J)) 5 ?_ (fun J a x => ?_))
  ·rintro A E W ⟨D, d, m, H, a2⟩ N
   refine Wh a2 (LJ N (fun I E W => ∃ G, ST true lu w W (hp w) G ∧ E 2 = (.bool false) ∧ E 20 = (.bool I)) 3 ?_ (fun I j u => ?_))
   ·rintro L E W ⟨G, d, a9, a3⟩ Q
    exact Wg a3 (lt (rQ Q d))
   refine bC j (fun g j => ?_) (fun g j => ?_)
   ·refine ug g (kM m) (bS j fun s T j => qy g (Eg d call216 (O7 z _ _  T) (fun o d => V (kX (cB g) rfl) ?_)))
    obtain rfl := sj j
    exact u _ _ ⟨_, (d.kD St), H, rfl⟩
   refine un g (un g (V (kW (cB g) rfl) ?_))
   obtain rfl := sj j
   exact u _ _ ⟨_, (d.kD St), H, rfl⟩
  refine bC a (fun c a => ?_) (fun c a => ?_)
  ·refine ug c (kM M) (bS a fun Z B a => ug c (CX (i := 0) bL rfl rfl (BZ B) (F7 B)) (bS a fun v U a => qy c (Eg d call215 (By (⟨#[97, 98, 99, 100, 101, 102, 103, 104, 105, 106, 107, 108, 109, 110, 111, 112, 113, 114, 115, 116, 117, 118, 119, 120, 121, 122]⟩ : ByteArray) (Z.toNat : Int) _ _  U) (fun q d => ug c (lK rfl rfl rfl) (V (kX (cB c) rfl) ?_)))))
   obtain rfl := sj a
   exact x _ _ ⟨_, (d.kD St), M, h, rfl⟩
  refine un c (un c (un c (un c (V (kW (cB c) rfl) ?_))))
  obtain rfl := sj a
  exact x _ _ ⟨_, (d.kD St), M, h, rfl⟩
 refine bC t (fun k t => ?_) (fun k t => ?_)
 ·refine ug k (kM rfl) (ug k (nF bL rfl) (ug k (lK rfl rfl rfl) (V (kX (cB k) rfl) ?_)))
  obtain rfl := sj t
  exact y _ _ ⟨_, (d.kD St), rfl, rfl, rfl⟩
 refine un k (un k (un k (V (kW (cB k) rfl) ?_)))
 obtain rfl := sj t
 exact y _ _ ⟨_, (d.kD St), rfl, rfl, rfl⟩
theorem sM (i : kA) (r : Bool) (w : World) (hm : pF i = some r) :
  lg true pg0 157 [(.agg (kC i).toArray)] w (.bool r) := by
 refine cG 11 func157 rfl (fun d => sg (VE (lF d rfl (fun H J d => Wa (lr (Wf oF (VB d Mh rfl rfl aY (bS hm fun K y hm => VE (Eg d kh (uf i.kI _ _  y) (fun I d => Wm (LJ hm (fun k E W => ∃ j, ST true lu w W (hp w) j ∧ E 2 = (.bool false) ∧ E 10 = (.bool k)) 4 ?_ (fun k a g => ?_))))))))))))
 ·rintro G E W ⟨j, d, B, x⟩ t
  exact Wg x (lt (rQ t d))
 refine bC a (fun c a => ?_) (fun c a => ?_)
 ·refine ug c (kH uo rfl) (ug c (kE rfl (kR d.has Mh rfl aY)) (bS a fun D u a => qy c (Eg d kh (uf i.kU _ _  u) (fun z d => V (kX (cB c) rfl) ?_))))
  obtain rfl := sj a
  exact g _ _ ⟨_, (d.kD (Db St)), rfl, rfl⟩
 refine un c (un c (un c (V (kW (cB c) rfl) ?_)))
 obtain rfl := sj a
 exact g _ _ ⟨_, (d.kD (Db St)), rfl, rfl⟩
theorem XJ (w : World) (a b : ByteArray) : (callFunc 238 [Value.string a, .string b].toArray).run pg0 w = .ok (.value (.int .i64 (oH a b))) w := Th func238 (by kernel_rfl) (by kernel_rfl) (by kernel_rfl) (by kernel_rfl) a b w
theorem AF (a c : ByteArray) (r : Int) (w : World) (hm : nI a c = some r) :
  lg true pg0 186 [(.string a), (.string c)] w (.int .i64 r) := by
 exact cG 8 func186 rfl (fun d => sg (Wa (lr (Wm (Wm (VE (QZ (args := [(.string a), (.string c)]) (v := .int .i64 (oH a c)) rfl (by exact pM rfl rfl) (XJ _ a c) (Wa (lt (rQ hm d))))))))))
theorem CE (a c : ByteArray) (r : Int) (w : World) (hm : pQ a c = some r) :
  lg true pg0 125 [(.string a), (.string c)] w (.int .i64 r) := by
 refine cG 8 func125 rfl (fun d => sg (Wa (lr (Wm (Wm (bS hm fun j g hm => VE (Eg d call186 (AF a c _ _  g) (fun i d => Wa (ln ?_)))))))))
 exact lx (rQ hm d)
theorem HS (g : Value) (t : List Int) (r : Int) (w : World) (c : Sl (Pl (lM .i64)) 1 (hp w) g t) (hm : sv t = some r) :
  lg true pg0 124 [g] w (.int .i64 r) := by
 refine cG 18 func124 rfl (fun d => sg (Wa (lr (Wa (lS (Wm ?_))))))
 refine V (lJ fa rfl c) (Wm (ln (lz (fun i E W => ∃ k, (E 8 = .int .i64 (i : Nat) ∧ E 7 = .int .i64 (t.length : Nat)) ∧ ST true lu w W (hp w) k ∧ E 3 = (.int .i64 0) ∧ E 6 = g ∧ pk (t.drop i) = some r) t.length c.len ⟨_, ⟨rfl, rfl⟩, (d.kD St), rfl, rfl, hm⟩ dc dc dc (fun _ _ _ h => by obtain ⟨_, n, _⟩ := h; exact n) ?_ ?_)))
 ·rintro J E W B ⟨k, ⟨m, o⟩, d, j, u, a⟩
  obtain ⟨x, K, H, G, I⟩ := ll B
  rw [H] at a
  refine bg (VQ (lY (enc := (lM .i64)) (i := (J : Int)) (x0 := x) fa iz u m c (aD _) G) (fun M D => V (kE rfl (nh d.has (y := (.int .i64 x)) D cH)) (Wa (lr (Wm (Wh j (Wi rfl (ln ?_))))))))
  refine CI a rfl (fun z a => ?_) (fun z a => ?_)
  ·refine sg (Wm (Wa (lt (mu (lm (mu (lm ?_)))))))
   obtain rfl := sj a
   exact rP d
  exact lG (lA (kK ⟨m, _, ⟨rfl, o⟩, (d.kD St), j, u, (by rw [I]; exact a)⟩))
 rintro E W ⟨k, ⟨m, o⟩, d, j, u, a⟩
 rw [aG] at a
 exact kK (sg (Wh j (Wa (lt (rQ a d)))))
theorem BB (g i : kA) (r : Int) (w : World) (hm : nB g i = some r) :
  lg true pg0 57 [(.agg (kC g).toArray), (.agg (kC i).toArray)] w (.int .i64 r) := by
 refine cG 17 func57 rfl (fun d => sg (VE (lF d rfl (fun G I d => VE (lF d rfl (fun H J d => Wa (ln (kV ?_))))))))
 replace d := d.drew
 have h := d.has.kD (Kb (Kb Sn))
 refine lN h lB (X 0 rfl h (kH oF rfl) (XH 1 rfl h (fun _ m => kE rfl (kR m (Mt Mh) rfl aY)) (X 2 rfl h (kH oF rfl) (XH 3 rfl h (fun _ m => kE rfl (kR m Mh rfl aY)) (X 5 rfl h (kH uo rfl) (XH 6 rfl h (fun _ m => kE rfl (kR m (Mt Mh) rfl aY)) (X 7 rfl h (kH uo rfl) (XH 8 rfl h (fun _ m => kE rfl (kR m Mh rfl aY)) (bS hm fun a j hm => XE 4 rfl (Eg d call125 (CE g.kI i.kI _ _  j) (fun x d => ?_)))))))))))
 have h := d.has.kD (Kb (Kb Sn))
 refine ⟨h, (bS hm fun c k hm => XE 9 rfl (Eg d call125 (CE g.kU i.kU _ _  k) (fun y d => ?_)))⟩
 have h := d.has.kD (Kb (Kb Sn))
 refine ⟨h, (XE 10 rfl (lj (cs := #[(.int .i64 a), (.int .i64 c)]) d (pH rfl rfl) (mJ fa iz zeroValue3) (fun z u d => ?_)))⟩
 have h := d.has.kD (Db (Kb (Kb Sn)))
 refine ⟨h, (bS hm fun D t hm => XE 11 rfl (Eg d call124 (HS (.slice (some ⟨u, 0, none⟩) 2 2) ([a, c]) _ _ (Sl.lit (enc := (lM .i64)) (l := [a, c]) (fun _ => rfl) rfl nb rfl (d.at_ Mh)) t) (fun B d => ?_)))⟩
 have h := d.has.kD (Db (Kb (Kb Sn)))
 refine ⟨h, (X 12 rfl h (nH rfl) (me kr (kK ?_)))⟩
 exact lx (rQ hm d)
set_option maxHeartbeats 4000000 in
theorem uv (a : kB) (r : Bool) (w : World) (hm : pI a = some r) :
  lg true pg0 115 [(.agg (kG a).toArray)] w (.bool r) := by
 let m9 := (⟨a.Kind, a.Head, zS, a.B, a.C, zS⟩ : kB)
 let j2 := (⟨a.Kind, a.Head, zS, a.B, K0, a.lU⟩ : kB)
 let j1 : Value := (.agg (kC a.B).toArray)
 let g6 := ((kG (⟨a.Kind, a.Head, zS, a.B, K0, zS⟩ : kB)).toArray)
 let s := (⟨a.Kind, a.Head, zS, K0, K0, zS⟩ : kB)
 refine cG 98 func115 rfl (fun d => sg (VE (lF d rfl (fun W2 N d => Wa (lr (Wf om (VB d Mh rfl rfl cH (Wf oD (VA d Mh (kC a.Head) aO aC (V (nm (v := (.agg (kG s).toArray)) (pH rfl rfl) (mE cg cW (MP _ cW) kr)) (VE (lD d cg (fun W4 B d => ?_)))))))))))))
 refine VO (lh (.agg (kG s).toArray) ((kG s).toArray) d rfl rfl aM (nQ s) nb rfl (fun W5 d => lr (Wf oD (VA d (Mt Mh) (kC a.Head) aO aC (bS hm fun q j4 hm => VE (Eg d jE (sM a.Head _ _  j4) (fun W8 d => Wa (ln (kV (GJ hm (fun P E W => ∃ b6, ST true lu w W (hp w) ((B, Ol (kG P.2) 108) :: ((N, Ol (kG a) 108) :: b6)) ∧ E 1 = (.pointer (some ⟨N, 0, none⟩)) ∧ E 3 = (.pointer (some ⟨B, 0, none⟩)) ∧ E 4 = (.bool P.1)) (fun P g Z => ?_) ?_))))))))))
 ·let g5 := ((kG m9).toArray : Array Value)
  let b8 := ((kG j2).toArray : Array Value)
  let o : Value := (.pointer (some ⟨B, 0, none⟩))
  let n : Value := (.pointer (some ⟨N, 0, none⟩))
  let a0 := ((kG a).toArray : Array Value)
  refine sg (Wf om (VB d (Mt Mh) rfl rfl cH (ln (bg (Wi rfl (Wa (ln (CI g rfl (fun e5 g => ?_) (fun e5 g => ?_)))))))))
  ·replace d := d.drew
   have h := d.has.kD (Db (Kb Sn))
   refine lN h lB (X 0 rfl h (kH sW rfl) (XH 1 rfl h (fun _ m => kE rfl (kR m Mh rfl aY)) (X 2 rfl h (kM rfl) (X 3 rfl h (kM rfl) (X 8 rfl h (kH sW rfl) (PJ g (fun d6 E W => ∃ b9, ST true lu w W (hp w) ((B, Ol (kG s) 108) :: ((N, Obj.cells a0 108 (0, 0)) :: b9)) ∧ E 1 = n ∧ E 3 = o ∧ E 4 = (.bool q) ∧ E 18 = (.string a.ly) ∧ E 24 = (.bool d6) ∧ E 25 = (.pointer (some ⟨B, 3, none⟩))) (bm 11 511) 2 ?_ (fun d6 D a2 => ?_)))))))
   ·rintro m1 E W ⟨b9, d, h2, h3, k8, h4, h5, h6⟩ f1
    refine XO 9 rfl (lh (.string a.ly) ((kG (⟨a.Kind, a.Head, a.ly, K0, K0, zS⟩ : kB)).toArray) d h6 h4 dl (E2 a.ly) nb rfl (fun j5 d => ?_))
    have h := d.has.kD (Db (Kb Sn))
    refine ⟨h, (X 10 rfl h (nH h5) (me kr (lA (kK ?_))))⟩
    obtain rfl := sj f1
    exact ⟨_, rfl, _, (d.kD St), h2, h3, rfl⟩
   refine bC D (fun k D => ?_) (fun k D => ?_)
   ·refine Xg 4 rfl rfl (cB k) h (kH sW rfl) (vA 5 rfl rfl (cB k) h (fun _ m => kE rfl (kR m Mh rfl aY)) (bS D fun l2 f9 D => DK 6 rfl rfl (cB k) (Eg d kh (uf a.ly _ _  f9) (fun j6 d => ?_))))
    have h := d.has.kD (Db (Kb Sn))
    refine ⟨h, (X 7 rfl h (kX (cB k) rfl) ?_)⟩
    obtain rfl := sj D
    refine np kr (a2 _ _ ⟨_, (d.kD St), rfl, rfl, rfl, rfl, rfl, rfl⟩)
   refine Xn 4 rfl rfl (cB k) h (Xn 5 rfl rfl (cB k) h (Xn 6 rfl rfl (cB k) h (X 7 rfl h (kW (cB k) rfl) ?_)))
   obtain rfl := sj D
   refine np kr (a2 _ _ ⟨_, (d.kD St), rfl, rfl, rfl, rfl, rfl, rfl⟩)
  refine sg (Wi rfl (Wa (ln (CI g rfl (fun e6 g => ?_) (fun e6 g => ?_)))))
  ·replace d := d.drew
   have h := d.has.kD (Db (Kb Sn))
   refine lN h lB (X 0 rfl h (kH mW rfl) (XH 1 rfl h (fun _ m => kE rfl (kL m Mh (kC a.B) rfl aO aC)) (X 2 rfl h (kM rfl) (X 3 rfl h (kM rfl) (X 8 rfl h (kH mW rfl) (PJ g (fun d7 E W => ∃ c0, ST true lu w W (hp w) ((B, Ol (kG s) 108) :: ((N, Obj.cells a0 108 (0, 0)) :: c0)) ∧ E 1 = n ∧ E 3 = o ∧ E 4 = (.bool q) ∧ E 29 = j1 ∧ E 35 = (.bool d7) ∧ E 36 = (.pointer (some ⟨B, 4, none⟩))) (bm 11 511) 2 ?_ (fun d7 G a3 => ?_)))))))
   ·rintro m2 E W ⟨c0, d, h7, h8, k9, h9, i0, i1⟩ f2
    refine XO 9 rfl (lh j1 g6 d i1 h9 aC (mH a.B) nb rfl (fun j7 d => ?_))
    have h := d.has.kD (Db (Kb Sn))
    refine ⟨h, (X 10 rfl h (nH i0) (me kr (lA (kK ?_))))⟩
    obtain rfl := sj f2
    exact ⟨_, rfl, _, (d.kD St), h7, h8, rfl⟩
   refine bC G (fun t G => ?_) (fun t G => ?_)
   ·refine Xg 4 rfl rfl (cB t) h (kH mW rfl) (vA 5 rfl rfl (cB t) h (fun _ m => kE rfl (kL m Mh (kC a.B) rfl aO aC)) (bS G fun l3 g0 G => DK 6 rfl rfl (cB t) (Eg d jE (sM a.B _ _  g0) (fun j8 d => ?_))))
    have h := d.has.kD (Db (Kb Sn))
    refine ⟨h, (X 7 rfl h (kX (cB t) rfl) ?_)⟩
    obtain rfl := sj G
    refine np kr (a3 _ _ ⟨_, (d.kD St), rfl, rfl, rfl, rfl, rfl, rfl⟩)
   refine Xn 4 rfl rfl (cB t) h (Xn 5 rfl rfl (cB t) h (Xn 6 rfl rfl (cB t) h (X 7 rfl h (kW (cB t) rfl) ?_)))
   obtain rfl := sj G
   refine np kr (a3 _ _ ⟨_, (d.kD St), rfl, rfl, rfl, rfl, rfl, rfl⟩)
  refine sg (Wi rfl (Wa (ln (CI g rfl (fun e7 g => ?_) (fun e7 g => ?_)))))
  ·refine kV ?_
   replace d := d.drew
   have h := d.has.kD (Db (Kb Sn))
   refine lN h lB (X 0 rfl h (kH mW rfl) (XH 1 rfl h (fun _ m => kE rfl (kL m Mh (kC a.B) rfl aO aC)) (X 2 rfl h (kH rX rfl) (XH 3 rfl h (fun _ m => kE rfl (kR m Mh rfl aY)) (X 4 rfl h (kH mW rfl) (XO 5 rfl (lh j1 g6 d rfl rfl aC (mH a.B) nb rfl (fun j9 d => ?_))))))))
   have h := d.has.kD (Db (Kb Sn))
   refine ⟨h, (X 6 rfl h (kH rX rfl) (XO 7 rfl (lh (.string a.lU) ((kG j2).toArray) d rfl rfl dl (E2 a.lU) nb rfl (fun k0 d => ?_))))⟩
   have h := d.has.kD (Db (Kb Sn))
   refine ⟨h, (me kr (kK (kT (Wm (Wm (LJ g (fun e0 E W => ∃ c1, ST true lu w W (hp w) ((B, Obj.cells b8 108 (0, 0)) :: ((N, Obj.cells a0 108 (0, 0)) :: c1)) ∧ E 1 = n ∧ E 3 = o ∧ E 4 = (.bool q) ∧ E 50 = (.bool e0)) 4 ?_ (fun e0 I a6 => ?_)))))))⟩
   ·rintro m3 E W ⟨c1, d, U, c7, c8, i2⟩ f3
    refine Wh i2 (LJ f3 (fun d9 E W => ∃ c2, ST true lu w W (hp w) ((B, Obj.cells b8 108 (0, 0)) :: ((N, Obj.cells a0 108 (0, 0)) :: c2)) ∧ E 1 = n ∧ E 3 = o ∧ E 4 = (.bool q) ∧ E 59 = (.bool d9)) 8 ?_ (fun d9 T a5 => ?_))
    ·rintro m4 E W ⟨c2, d, A, c9, d0, i3⟩ f4
     refine Wh i3 (LJ f4 (fun d8 E W => ∃ c3, ST true lu w W (hp w) ((B, Obj.cells b8 108 (0, 0)) :: ((N, Obj.cells a0 108 (0, 0)) :: c3)) ∧ E 1 = n ∧ E 3 = o ∧ E 4 = (.bool q) ∧ E 64 = (.bool d8)) 4 ?_ (fun d8 H a4 => ?_))
     ·rintro m5 E W ⟨c3, d, i4, i5, l0, i6⟩ f5
      refine Wg i6 (lo (lA (kK ?_)))
      obtain rfl := sj f5
      exact ⟨_, rfl, _, (d.kD St), i4, i5, rfl⟩
     refine bC H (fun x H => ?_) (fun x H => ?_)
     ·refine ug x (kH rX A) (ug x (kE rfl (kR d.has (Mt Mh) rfl aY)) (bS H fun l4 g1 H => qy x (Eg d kh (uf a.lU _ _  g1) (fun k1 d => V (kX (cB x) rfl) ?_))))
      obtain rfl := sj H
      exact a4 _ _ ⟨_, (d.kD St), A, c9, d0, rfl⟩
     refine un x (un x (un x (V (kW (cB x) rfl) ?_)))
     obtain rfl := sj H
     exact a4 _ _ ⟨_, (d.kD St), A, c9, d0, rfl⟩
    refine bC T (fun c T => ?_) (fun c T => ?_)
    ·refine ug c (kH mW U) (ug c (kH oF rfl) (ug c (kE rfl (kR d.has (Mt Mh) rfl aY)) (ug c (kH oD U) (ug c (kH oF rfl) (ug c (kE rfl (kR d.has (Mt Mh) rfl aY)) (ug c (se rfl rfl rfl) (V (kX (cB c) rfl) ?_)))))))
     obtain rfl := sj T
     exact a5 _ _ ⟨_, (d.kD St), U, c7, c8, rfl⟩
    refine un c (un c (un c (un c (un c (un c (un c (V (kW (cB c) rfl) ?_)))))))
    obtain rfl := sj T
    exact a5 _ _ ⟨_, (d.kD St), U, c7, c8, rfl⟩
   refine bC I (fun u I => ?_) (fun u I => ?_)
   ·refine ug u (kH mW rfl) (ug u (kE rfl (kL d.has (Mt Mh) (kC a.B) rfl aO aC)) (bS I fun l5 g2 I => qy u (Eg d jE (sM a.B _ _  g2) (fun k2 d => V (kX (cB u) rfl) ?_))))
    obtain rfl := sj I
    exact a6 _ _ ⟨_, (d.kD St), rfl, rfl, rfl, rfl⟩
   refine un u (un u (un u (V (kW (cB u) rfl) ?_)))
   obtain rfl := sj I
   exact a6 _ _ ⟨_, (d.kD St), rfl, rfl, rfl, rfl⟩
  refine sg (Wi rfl (Wa (ln (CI g rfl (fun e8 g => ?_) (fun e8 g => ?_)))))
  ·refine kV ?_
   replace d := d.drew
   have h := d.has.kD (Db (Kb Sn))
   refine lN h lB (X 0 rfl h (kH mW rfl) (XH 1 rfl h (fun _ m => kE rfl (kL m Mh (kC a.B) rfl aO aC)) (X 2 rfl h (kH pO rfl) (XH 3 rfl h (fun _ m => kE rfl (kL m Mh (kC a.C) rfl aO aC)) (X 4 rfl h (kH mW rfl) (XO 5 rfl (lh j1 g6 d rfl rfl aC (mH a.B) nb rfl (fun k3 d => ?_))))))))
   have h := d.has.kD (Db (Kb Sn))
   refine ⟨h, (X 6 rfl h (kH pO rfl) (XO 7 rfl (lh (.agg (kC a.C).toArray) ((kG m9).toArray) d rfl rfl aC (mH a.C) nb rfl (fun k4 d => ?_))))⟩
   have h := d.has.kD (Db (Kb Sn))
   refine ⟨h, (me kr (kK (kT (Wm (Wm (LJ g (fun e3 E W => ∃ c4, ST true lu w W (hp w) ((B, Obj.cells g5 108 (0, 0)) :: ((N, Obj.cells a0 108 (0, 0)) :: c4)) ∧ E 1 = n ∧ E 3 = o ∧ E 4 = (.bool q) ∧ E 78 = (.bool e3)) 4 ?_ (fun e3 M a9 => ?_)))))))⟩
   ·rintro m6 E W ⟨c4, d, L, d1, d2, i7⟩ f6
    refine Wh i7 (LJ f6 (fun e2 E W => ∃ c5, ST true lu w W (hp w) ((B, Obj.cells g5 108 (0, 0)) :: ((N, Obj.cells a0 108 (0, 0)) :: c5)) ∧ E 1 = n ∧ E 3 = o ∧ E 4 = (.bool q) ∧ E 83 = (.bool e2)) 4 ?_ (fun e2 K a8 => ?_))
    ·rintro m7 E W ⟨c5, d, Y, d3, d4, i8⟩ f7
     refine Wh i8 (LJ f7 (fun e1 E W => ∃ c6, ST true lu w W (hp w) ((B, Obj.cells g5 108 (0, 0)) :: ((N, Obj.cells a0 108 (0, 0)) :: c6)) ∧ E 1 = n ∧ E 3 = o ∧ E 4 = (.bool q) ∧ E 91 = (.bool e1)) 7 ?_ (fun e1 J a7 => ?_))
     ·rintro m8 E W ⟨c6, d, i9, j0, l1, j3⟩ f8
      refine Wg j3 (lo (lA (kK ?_)))
      obtain rfl := sj f8
      exact ⟨_, rfl, _, (d.kD St), i9, j0, rfl⟩
     refine bC J (fun i J => ?_) (fun i J => ?_)
     ·refine ug i (kH mW Y) (ug i (kE rfl (kL d.has (Mt Mh) (kC a.B) rfl aO aC)) (ug i (kH pO Y) (ug i (kE rfl (kL d.has (Mt Mh) (kC a.C) rfl aO aC)) (bS J fun l6 g3 J => qy i (Eg d call57 (BB a.B a.C _ _  g3) (fun k5 d => ug i (lK rfl rfl rfl) (V (kX (cB i) rfl) ?_)))))))
      obtain rfl := sj J
      exact a7 _ _ ⟨_, (d.kD St), Y, d3, d4, rfl⟩
     refine un i (un i (un i (un i (un i (un i (V (kW (cB i) rfl) ?_))))))
     obtain rfl := sj J
     exact a7 _ _ ⟨_, (d.kD St), Y, d3, d4, rfl⟩
    refine bC K (fun z K => ?_) (fun z K => ?_)
    ·refine ug z (kH pO L) (ug z (kE rfl (kL d.has (Mt Mh) (kC a.C) rfl aO aC)) (bS K fun l7 g4 K => qy z (Eg d jE (sM a.C _ _  g4) (fun k6 d => V (kX (cB z) rfl) ?_))))
     obtain rfl := sj K
     exact a8 _ _ ⟨_, (d.kD St), L, d1, d2, rfl⟩
    refine un z (un z (un z (V (kW (cB z) rfl) ?_)))
    obtain rfl := sj K
    exact a8 _ _ ⟨_, (d.kD St), L, d1, d2, rfl⟩
   refine bC M (fun y M => ?_) (fun y M => ?_)
   ·refine ug y (kH mW rfl) (ug y (kE rfl (kL d.has (Mt Mh) (kC a.B) rfl aO aC)) (bS M fun l8 g7 M => qy y (Eg d jE (sM a.B _ _  g7) (fun k7 d => V (kX (cB y) rfl) ?_))))
    obtain rfl := sj M
    exact a9 _ _ ⟨_, (d.kD St), rfl, rfl, rfl, rfl⟩
   refine un y (un y (un y (V (kW (cB y) rfl) ?_)))
   obtain rfl := sj M
   exact a9 _ _ ⟨_, (d.kD St), rfl, rfl, rfl, rfl⟩
  refine sg (Wa (ln ?_))
  replace d := d.kD (Db (Db St))
  refine lx (mu (lm ?_))
  obtain rfl := sj g
  replace Z : some false = some r := Z
  obtain rfl := sj Z
  exact rP d
 rintro ⟨l9, e4⟩ E W ⟨b6, d, g8, g9, h0⟩ e9
 refine sg (Wh h0 (Wm (LJ e9 (fun d5 E W => ∃ b7, ST true lu w W (hp w) b7 ∧ E 97 = (.bool d5)) 4 ?_ (fun d5 Q R => ?_))))
 ·rintro m0 E W ⟨b7, d, h1⟩ f0
  exact Wg h1 (lt (rQ f0 d))
 refine bC Q (fun j Q => ?_) (fun j Q => ?_)
 ·refine ug j (kE g9 (kL d.has Mh (kG e4) rfl bM aM)) (ug j (kE g8 (kL d.has (Mt Mh) (kG a) rfl bM aM)) (ug j (vt rfl rfl (ns jq) (qH (DR _ e4 a))) (V (kX (cB j) rfl) ?_)))
  obtain rfl := sj Q
  exact R _ _ ⟨_, (d.kD (Db (Db St))), rfl⟩
 refine un j (un j (un j (V (kW (cB j) rfl) ?_)))
 obtain rfl := sj Q
 exact R _ _ ⟨_, (d.kD (Db (Db St))), rfl⟩
theorem GU (j : Value) (t : List kB) (c : kB) (r : Int) (w : World) (g : Sl (Pl kG) 9 (hp w) j t) (hm : yx t c = some r) :
  lg true pg0 248 [j, (.agg (kG c).toArray)] w (.int .i64 r) := by
 refine cG 19 func248 rfl (fun d => sg (VE (lF d rfl (fun Q J d => Wa (lS (Wm (V (lJ aW rfl g) (Wm (ln ?_)))))))))
 refine lz (fun i E W => ∃ k, (E 8 = .int .i64 (i : Nat) ∧ E 7 = .int .i64 (t.length : Nat)) ∧ ST true lu w W (hp w) ((J, Ol (kG c) 108) :: k) ∧ E 0 = j ∧ E 3 = (.pointer (some ⟨J, 0, none⟩)) ∧ ra c (t.drop i) i = some r) t.length g.len ⟨_, ⟨rfl, rfl⟩, (d.kD St), rfl, rfl, hm⟩ dc dc dc (fun _ _ _ h => by obtain ⟨_, o, _⟩ := h; exact o) ?_ ?_
 ·rintro K E W B ⟨k, ⟨n, s⟩, d, u, x, a⟩
  obtain ⟨y, M, H, G, I⟩ := ll B
  rw [H] at a
  refine bg (Wh n (Wa (ln (kV ?_))))
  replace d := d.drew
  have m := d.has.kD (Kb Sn)
  refine lN m lB (XH 0 rfl m (fun _ q => kE x (kL q Mh (kG c) rfl bM aM)) (X 1 rfl m (kM u) (X 2 rfl m (kM rfl) (XQ 3 rfl m (lY (enc := kG) (i := (K : Int)) (x0 := y) aW aM rfl rfl g (aD _) G) (fun N D => XH 4 rfl m (fun _ q => kE rfl (lO q D bM aM)) (X 5 rfl m (vt rfl rfl (ns jq) (qH (DR _ c y))) (me kr (kK (CI a rfl (fun z a => ?_) (fun z a => ?_))))))))))
  ·refine sg (Wm (Wa (ln ?_)))
   replace d := d.kD (Db St)
   refine lx (mu (lm (mu (lm ?_))))
   obtain rfl := sj a
   exact rP d
  exact lG (lA (kK ⟨n, _, ⟨rfl, s⟩, (d.kD St), u, x, (by rw [I]; exact a)⟩))
 rintro E W ⟨k, ⟨n, s⟩, d, u, x, a⟩
 rw [aG] at a
 refine kK ?_
 replace d := d.kD (Db St)
 exact sg (Wa (lt (rQ a d)))
theorem EI (a : Value) (g : List kB) (c : kB) (r : Bool) (w : World) (i : Sl (Pl kG) 9 (hp w) a g) (hm : xh g c = some r) :
  lg true pg0 201 [a, (.agg (kG c).toArray)] w (.bool r) := by
 refine cG 9 func201 rfl (fun d => sg (VE (lF d rfl (fun k u d => Wa (lr (Wm (VA d Mh (kG c) bM aM (bS hm fun x j hm => VE (Eg d call248 (GU a g c _ _ (i.mono (Pl.mono _) d.kN) j) (fun t d => Wi rfl (Wa ?_)))))))))))
 refine ln ?_
 exact lx (rQ hm d)
theorem JH (a : Value) (g : List kB) (c : kB) (r : Bool) (w : World) (i : Sl (Pl kG) 9 (hp w) a g) (hm : zI g c = some r) :
  lg true pg0 151 [a, (.agg (kG c).toArray)] w (.bool r) := by
 refine cG 8 func151 rfl (fun d => sg (VE (lF d rfl (fun k u d => Wa (lr (Wm (VA d Mh (kG c) bM aM (bS hm fun x j hm => VE (Eg d call201 (EI a g c _ _ (i.mono (Pl.mono _) d.kN) j) (fun t d => Wa (lo ?_)))))))))))
 refine kK ?_
 exact lx (rQ hm d)
theorem OF (a : kB) (r : List kA) (w : World) (hm : Bd a = some r) :
  lT true pg0 52 [(.agg (kG a).toArray)] w 28 kC 2 r := by
 refine tT 27 func52 rfl (fun d => sg (VE (lF d rfl (fun W2 m d => Wa (lS (VA d Mh (kG a) bM aM (bS hm fun r3 q hm => VE (Eg d ki (uv a _ _  q) (fun W5 d => V (nr rfl) (lo ?_))))))))))
 refine kK (CI hm rfl (fun o hm => ?_) (fun o hm => ?_))
 ·refine sg (Wa (ln ?_))
  replace d := d.kD (Db St)
  refine lx (lm ?_)
  obtain rfl := sj hm
  exact lQ (v := (.slice none 0 0)) rfl rfl ⟨_, [], rfl, d.mV (fun p h => by cases h) (by simp), kZ.nil _ _ _⟩
 refine kg (Wf oD (VA d Mh (kC a.Head) aO aC (VE (lj (cs := (kC a.Head).toArray) d (mN rfl) (mJ aF aC bQ) (fun W8 y d => Wa (ln (kV (CJ hm (fun I E W => ∃ j i z, ST true lu w W (hp w) ((m, Ol (kG a) 108) :: (i ++ z)) ∧ E 1 = (.pointer (some ⟨m, 0, none⟩)) ∧ E 3 = j ∧ kZ 28 kC 2 j I i) (fun I g => ?_) ?_))))))))
 ·refine sg (Wf om (VB d (Mt Mh) rfl rfl cH (Wi rfl (ln (CI g rfl (fun Q g => ?_) (fun Q g => ?_))))))
  ·refine kT (Wm (Wf mW (VA d (Mt Mh) (kC a.B) aO aC (VE (lj (cs := (kC a.B).toArray) d (mN rfl) (mJ aF aC bQ) (fun P a4 d => ?_))))))
   replace d := d.perm (Nb (Pb Pz) Nz)
   refine bS g fun c0 T g => VE (mD (enc := kC) (v := (.slice (some ⟨y, 0, none⟩) 1 1)) (vs := (.slice (some ⟨a4, 0, none⟩) 1 1)) (R := [(y, Ol (kC a.Head) 28)]) d my dc mH aF mw.1 mw.2.1 rfl mw.2.2.1 mw.2.2.2 rfl rfl (kZ.lit (l := [a.Head]) (enc := kC) rfl dc rfl rfl) (Sl.lit (enc := kC) (l := [a.B]) my rfl nb rfl (d.at_ (Mt Mh))) T (fun b4 a9 n d K => Wa (ln ?_)))
   obtain rfl := sj g
   exact ⟨a9, n, _, (d.kD (Sb (Pr (Pb Pz)) (Kr (Db St)))), rfl, rfl, K⟩
  refine kn ?_
  obtain rfl := sj g
  replace d := d.HM
  exact ⟨(.slice (some ⟨y, 0, none⟩) 1 1), [(y, Ol (kC a.Head) 28)], _, (d.kD (Sb (Pr Pz) St)), rfl, rfl, (kZ.lit (l := [a.Head]) (enc := kC) rfl dc rfl rfl)⟩
 rintro b5 E W ⟨j, i, z, d, D, G, u⟩ U
 refine kV (CJ U (fun H E W => ∃ t k B, ST true lu w W (hp w) (k ++ B) ∧ E 3 = t ∧ kZ 28 kC 2 t H k) (fun H c => ?_) ?_)
 ·refine sg (V (kH om D) (VB d Mh rfl rfl cH (Wi rfl (ln (CI c rfl (fun M c => ?_) (fun M c => ?_))))))
  ·refine kT (Wh G (V (kH pO D) (VA d Mh (kC a.C) aO aC (VE (lj (cs := (kC a.C).toArray) d (mN rfl) (mJ aF aC bQ) (fun A a3 d => ?_))))))
   replace d := d.perm (Nr (Qb (Qb Qz)) Nz)
   refine bS c fun b9 N c => VE (mD (enc := kC) (v := j) (vs := (.slice (some ⟨a3, 0, none⟩) 1 1)) (R := i) d my dc mH aF mw.1 mw.2.1 rfl mw.2.2.1 mw.2.2.2 rfl rfl u (Sl.lit (enc := kC) (l := [a.C]) my rfl nb rfl (d.at_ (Ma Mh))) N (fun L s Z d J => Wa (ln ?_)))
   obtain rfl := sj c
   exact ⟨s, Z, _, (d.kD (Kr (Db (Db St)))), rfl, J⟩
  refine kn ?_
  obtain rfl := sj c
  exact ⟨j, i, _, (d.kD (Db St)), G, u⟩
 rintro b6 E W ⟨t, k, B, d, a5, x⟩ Y
 refine sg (Wh a5 (Wa (lt ?_)))
 obtain rfl := sj Y
 exact lQ (v := t) rfl rfl ⟨_, k, rfl, d.mV (fun p h => (Ml h)) x.nd, x⟩
theorem Gq (M : Nat) (u : Value) (a9 : List (kA × (List (ByteArray × Bool)))) (G : LO) (D : Value) (a0 : List kB) (B : LO) (a : Value) (Y : List (kA × (List kB))) (I : LO) (c : Value) (K : List (ByteArray × (List kB))) (t : LO) (j : Value) (a4 : List kF) (y : LO) (J : Int) (H : kB) (r : ((List kB) × (List (kA × (List kB))) × (List (ByteArray × (List kB))))) (w : World) {μ0 : lq} (h0 : pY μ0 ((M, Ob #[u, D, a, c, j, (.int .i64 J)] 174) :: (G ++ (B ++ (I ++ (t ++ (y ++ [])))))) w) (e9 : mS (fun (x : kA) => (.agg (kC x).toArray)) (mx Value.string (fun (x : Bool) => (Value.bool x))) u a9 G) (a6 : kZ 108 kG 9 D a0 B) (b2 : mS (fun (x : kA) => (.agg (kC x).toArray)) (kZ 108 kG 9) a Y I) (T : mS Value.string (kZ 108 kG 9) c K t) (e1 : qS 38 kO 3 j a4 y) (hm : vx a9 a0 Y K a4 J H = some r) :
  mn true pg0 171 [(.pointer (some ⟨M, 0, none⟩)), (.agg (kG H).toArray)] w ((M, Ob #[u, D, a, c, j, (.int .i64 J)] 174) :: (G ++ (B ++ (I ++ (t ++ (y ++ [])))))) (fun v L1 W' => ∃ y1 S2 S4 S6, v = (.tuple #[]) ∧ L1 = ((M, Ob #[u, y1, a, c, j, (.int .i64 J)] 174) :: (G ++ (S2 ++ (S4 ++ (S6 ++ (y ++ [])))))) ∧ kZ 108 kG 9 y1 r.1 S2 ∧ mS (fun (x : kA) => (.agg (kC x).toArray)) (kZ 108 kG 9) a r.2.1 S4 ∧ mS Value.string (kZ 108 kG 9) c r.2.2 S6) := by
 refine zX h0 55 func171 rfl (fun d => sg (VE (lF d rfl (fun W2 b1 d => ln (kV ?_)))))
 replace d := d.drew
 have m := d.has.kD (Kb Sn)
 have n := d.has.kD (Db (Kb Sn))
 refine B9 10 m n lB (nX 0 rfl kr (.inl rfl) rfl dc (fun _ _ h => ⟨h.1, rp br h.2⟩) ⟨m, fun _ => n⟩ (fun _ _ _ _ => kM rfl) (nX 1 rfl kr (.inl rfl) rfl dc (fun _ _ h => ⟨h.1, rp br h.2⟩) ⟨m, fun _ => n⟩ (fun _ _ _ _ => kM rfl) (nX 2 rfl kr (.inl rfl) rfl dc (fun _ _ h => ⟨h.1, rp br h.2⟩) ⟨m, fun _ => n⟩ (fun _ _ _ _ => nz rfl) (nX 3 rfl kr (.inl rfl) rfl dc (fun _ _ h => ⟨h.1, rp br h.2⟩) ⟨m, fun _ => n⟩ (fun _ _ _ _ => kH KR rfl) (nX 4 rfl kr (.inl rfl) rfl dc (fun _ _ h => ⟨h.1, rp br h.2⟩) ⟨m, fun _ => n⟩ (fun l W s A => have q := (A.2 (s.SJ 10 [4] kr rfl)); kE rfl (kR q Mh rfl gZ)) (nX 5 rfl kr (.inl rfl) rfl dc (fun _ _ h => ⟨h.1, rp br h.2⟩) ⟨m, fun _ => n⟩ (fun l W s A => have q := A.1; kE rfl (kL q Mh (kG H) rfl bM aM)) (XE 6 rfl (lj (cs := (kG H).toArray) d (mN rfl) (mJ aW aM cg) (fun k0 g0 d => ?_)))))))))
 have m := d.has.kD (Db (Kb Sn))
 have n := d.has.kD (Db (Db (Kb Sn)))
 refine ⟨⟨m, fun _ => n⟩, ?_⟩
 replace d := d.perm (Nr (Qb (Qb (Qb (Qr Qz)))) Nz)
 refine bS hm fun a5 f0 hm => XE 7 rfl (mD (enc := kG) (v := D) (vs := (.slice (some ⟨g0, 0, none⟩) 1 1)) (R := B) d mT dc nQ aW qb.1 qb.2.1 rfl qb.2.2.1 qb.2.2.2 rfl rfl a6 (Sl.lit (enc := kG) (l := [H]) mT rfl nb rfl (d.at_ (Ma Mh))) f0 (fun k1 k4 b7 d b5 => ?_))
 have m := d.has.kD (Dr (Db (Kb Sn)))
 have n := d.has.kD (Dr (Db (Db (Kb Sn))))
 refine ⟨⟨m, fun _ => n⟩, (nX 8 rfl kr (.inl rfl) rfl dc (fun _ _ h => ⟨h.1, rp br h.2⟩) ⟨m, fun _ => n⟩ (fun _ _ _ _ => nz rfl) (nX 9 rfl kr (.inl rfl) rfl dc (fun _ _ h => ⟨h.1, rp br h.2⟩) ⟨m, fun _ => n⟩ (fun _ _ _ _ => kH KR rfl) ?_))⟩
 obtain ⟨a8, b0, rfl⟩ := b5.form
 let L : Value := (.slice a8 a5.length b0)
 replace d := d.perm (Nb (Pr (Pb (Pb Pz))) Nz)
 refine XO 10 rfl (lh L (#[u, L, a, c, j, (.int .i64 J)]) d rfl rfl kv oc nb rfl (fun k2 d => ?_))
 have m := d.has.kD (Db (Dr (Db (Kb Sn))))
 refine ⟨⟨m, fun h => PQ kr h⟩, (me kr (kK ?_))⟩
 replace d := d.kD (Kb (Kr (Db St)))
 refine kV (sg (VA d (Mt (Ma Mh)) (kG H) bM aM (bS hm fun c1 f1 hm => VE (qu d call52 (OF H _ _  f1) (fun k3 k5 k6 j9 d g4 ab e8 => ?_)))))
 let b8 := (c1.drop (Int.toNat 1))
 obtain ⟨g3, d, g7, ad, f2⟩ := ST.Bf d e8 my
 refine bS hm fun _ b9 hm => VQ (BY (i := 1) aF aC rfl rfl f2 (qW b9) (qR b9)) (fun g1 b6 => V (lJ aF rfl b6.1) (Wm (ln (lz (fun i E W => ∃ a3 U b3, (E 20 = .int .i64 (i : Nat) ∧ E 19 = .int .i64 (b8.length : Nat)) ∧ ST true (keys ((M, Ob #[u, D, a, c, j, (.int .i64 J)] 174) :: (G ++ (B ++ (I ++ (t ++ (y ++ []))))))) w W g3 ((M, Ob #[u, L, a, c, j, (.int .i64 J)] 174) :: ((b1, Ol (kG H) 108) :: (U ++ (b7 ++ (G ++ (t ++ (y ++ b3))))))) ∧ E 0 = (.pointer (some ⟨M, 0, none⟩)) ∧ E 3 = (.pointer (some ⟨b1, 0, none⟩)) ∧ E 18 = g1 ∧ mS (fun (x : kA) => (.agg (kC x).toArray)) (kZ 108 kG 9) a a3 U ∧ pv H K a5 (b8.drop i) a3 = some r) b8.length b6.1.len ⟨Y, I, _, ⟨rfl, rfl⟩, (d.kD (Kb (Sb (Pr Pz) (Sr (Qr (Qr Qz)) St)))), rfl, rfl, rfl, b2, hm⟩ dc dc dc (fun _ _ _ h => by obtain ⟨_, _, _, aa, _⟩ := h; exact aa) ?_ ?_))))
 ·rintro f3 E W d3 ⟨a3, U, b3, ⟨eI, eN⟩, d, a2, N, b4, Z, g⟩
  obtain ⟨Q, h4, d8, d7, d9⟩ := ll d3
  rw [d8] at g
  refine bg (VQ (lY (enc := kC) (i := (f3 : Int)) (x0 := Q) aF aC b4 eI b6.1 (aD _) d7) (fun j4 d4 => V (kE rfl (lO d.has d4 aO aC)) (VE (lD d bQ (fun i1 j0 d => VO (lh (.agg (kC Q).toArray) ((kC Q).toArray) d rfl rfl aC (mH Q) nb rfl (fun i2 d => ln ?_)))))))
  replace d := d.drew
  have m := d.has.kD (Kb (Kb (Kb Sn)))
  refine lN m lB (X 0 rfl m (kM a2) (X 1 rfl m (nz rfl) (X 2 rfl m (kH Qe rfl) (XH 3 rfl m (fun _ q => kE rfl (kR q (Mt Mh) rfl isAgg171)) (XH 4 rfl m (fun _ q => kE rfl (kL q Mh (kC Q) rfl aO aC)) (XH 5 rfl m (fun _ q => kE N (kL q (Mt (Mt Mh)) (kG H) rfl bM aM)) (XE 6 rfl (lj (cs := (kG H).toArray) d (mN rfl) (mJ aW aM cg) (fun i3 e6 d => ?_)))))))))
  have m := d.has.kD (Db (Kb (Kb (Kb Sn))))
  refine ⟨m, ?_⟩
  obtain ⟨h1, d1⟩ := Z
  replace d := d.perm (Nr (Qb (Qb (Qb (Qb Qz)))) Nz)
  refine XE 7 rfl (QR (k := Q) (x0 := [])  kP Cm underlying171 kx (kZ.nil _ _ _) d d1 rfl rfl (fun i4 f5 h3 h6 e2 d c3 c2 => ?_))
  have m := d.has.kD (Dr (Dr (Db (Kb (Kb (Kb Sn))))))
  refine ⟨m, (X 8 rfl m (Cd rfl rfl) (X 10 rfl m (Cd rfl rfl) ?_))⟩
  replace d := d.perm (Nr (Qr Qz) Nz)
  refine bS g fun c0 c8 g => XE 9 rfl (mD (enc := kG) (v := f5) (vs := (.slice (some ⟨e6, 0, none⟩) 1 1)) (R := e2) d mT dc nQ aW qb.1 qb.2.1 rfl qb.2.2.1 qb.2.2.2 rfl rfl c3 (Sl.lit (enc := kG) (l := [H]) mT rfl nb rfl (d.at_ (Ma (Ma Mh)))) c8 (fun i5 j5 h7 d c4 => ?_))
  have m := d.has.kD (Dr (Dr (Db (Kb (Kb (Kb Sn))))))
  refine ⟨m, ?_⟩
  replace d := d.perm (Nr (Qr Qz) Nz)
  refine XO 11 rfl (OA (e := 0) (z := c0)  kP Cm d c2 rfl rfl rfl c4 (fun i6 h2 e3 d c5 => ?_))
  have m := d.has.kD (Dr (Db (Kb (Kb (Kb Sn)))))
  refine ⟨m, (me kr (lA (kK ?_)))⟩
  replace d := d.kD (Kr (Db (Db St)))
  exact ⟨eI, (ow kQ a3 Q c0), e3, _, ⟨rfl, eN⟩, (d.kD (Sb (Pr Pz) (Sb (Pr Pz) St))), a2, N, b4, c5.e, (by rw [d9]; exact g)⟩
 rintro E W ⟨a3, U, b3, ⟨eI, eN⟩, d, a2, N, b4, Z, g⟩
 rw [aG] at g
 refine kK (sg (V (kH om N) (VB d (Mt Mh) rfl rfl cH (Wi rfl (ln (CI g rfl (fun c9 g => ?_) (fun c9 g => ?_)))))))
 ·replace d := d.drew
  have m := d.has.kD (Kb (Kb Sn))
  have n := d.has.kD (Db (Db (Dr (Dr (Dr (Kr Sn))))))
  refine B9 15 m n lB (nX 0 rfl kr (.inl rfl) rfl dc (fun _ _ h => ⟨h.1, rp br h.2⟩) ⟨m, fun _ => n⟩ (fun _ _ _ _ => kM a2) (nX 1 rfl kr (.inl rfl) rfl dc (fun _ _ h => ⟨h.1, rp br h.2⟩) ⟨m, fun _ => n⟩ (fun _ _ _ _ => nz rfl) (nX 2 rfl kr (.inl rfl) rfl dc (fun _ _ h => ⟨h.1, rp br h.2⟩) ⟨m, fun _ => n⟩ (fun _ _ _ _ => kH KG rfl) (nX 3 rfl kr (.inl rfl) rfl dc (fun _ _ h => ⟨h.1, rp br h.2⟩) ⟨m, fun _ => n⟩ (fun l W s A => have q := A.1; kE rfl (kR q Mh rfl isAgg172)) (nX 4 rfl kr (.inl rfl) rfl dc (fun _ _ h => ⟨h.1, rp br h.2⟩) ⟨m, fun _ => n⟩ (fun _ _ _ _ => kH rX N) (nX 5 rfl kr (.inl rfl) rfl dc (fun _ _ h => ⟨h.1, rp br h.2⟩) ⟨m, fun _ => n⟩ (fun l W s A => have q := A.1; kE rfl (kR q (Mt Mh) rfl aY)) (nX 6 rfl kr (.inl rfl) rfl dc (fun _ _ h => ⟨h.1, rp br h.2⟩) ⟨m, fun _ => n⟩ (fun _ _ _ _ => kM a2) (nX 7 rfl kr (.inl rfl) rfl dc (fun _ _ h => ⟨h.1, rp br h.2⟩) ⟨m, fun _ => n⟩ (fun _ _ _ _ => nz rfl) (nX 8 rfl kr (.inl rfl) rfl dc (fun _ _ h => ⟨h.1, rp br h.2⟩) ⟨m, fun _ => n⟩ (fun _ _ _ _ => kH KG rfl) (nX 9 rfl kr (.inl rfl) rfl dc (fun _ _ h => ⟨h.1, rp br h.2⟩) ⟨m, fun _ => n⟩ (fun l W s A => have q := A.1; kE rfl (kR q Mh rfl isAgg172)) (nX 10 rfl kr (.inl rfl) rfl dc (fun _ _ h => ⟨h.1, rp br h.2⟩) ⟨m, fun _ => n⟩ (fun _ _ _ _ => kH rX N) (nX 11 rfl kr (.inl rfl) rfl dc (fun _ _ h => ⟨h.1, rp br h.2⟩) ⟨m, fun _ => n⟩ (fun l W s A => have q := A.1; kE rfl (kR q (Mt Mh) rfl aY)) ?_))))))))))))
  obtain ⟨e0, P⟩ := T
  obtain ⟨h8, g8, g9⟩ := nC.rowAt mO.1 P H.lU
  refine nX 12 rfl kr (.inl rfl) rfl dc (fun _ _ h => ⟨h.1, rp br h.2⟩) ⟨m, fun _ => n⟩ (fun l W s A => have q := (A.2 (s.SJ 15 [12] kr rfl)); qc (k := H.lU) (z := (.slice none 0 0)) J0 underlying172 kx rfl rfl P (fun b o hq => q.2 b o (Ml hq))) (nX 13 rfl kr (.inl rfl) rfl dc (fun _ _ h => ⟨h.1, rp br h.2⟩) ⟨m, fun _ => n⟩ (fun l W s A => have q := A.1; kE N (kL q (Mt Mh) (kG H) rfl bM aM)) (XE 14 rfl (lj (cs := (kG H).toArray) d (mN rfl) (mJ aW aM cg) (fun i7 e7 d => ?_))))
  have m := d.has.kD (Db (Kb (Kb Sn)))
  have n := d.has.kD (Db (Db (Db (Dr (Dr (Dr (Kr Sn)))))))
  refine ⟨⟨m, fun _ => n⟩, ?_⟩
  replace d := d.perm (Nr (Qb (Qb (Qb (Qr (Qr (Qr Qz)))))) Nz)
  obtain ⟨h9, e4, d5, d6, d2⟩ := nC.open mO.1 (kZ.nil _ _ _) P H.lU
  replace d := d.perm (ZA d5)
  replace d := d.perm (Nr (Qr Qz) Nz)
  refine bS g fun f4 d0 g => XE 15 rfl (mD (enc := kG) (v := (th mh e0 H.lU (.slice none 0 0))) (vs := (.slice (some ⟨e7, 0, none⟩) 1 1)) (R := e4) d mT dc nQ aW qb.1 qb.2.1 rfl qb.2.2.1 qb.2.2.2 rfl rfl d6 (Sl.lit (enc := kG) (l := [H]) mT rfl nb rfl (d.at_ (Ma (Ma Mh)))) d0 (fun i8 j6 i0 d c6 => ?_))
  have m := d.has.kD (Dr (Dr (Db (Kb (Kb Sn)))))
  refine ⟨⟨m, fun h => PQ kr h⟩, ?_⟩
  replace d := d.perm (Nr (Qr Qz) Nz)
  refine XO 16 rfl (WG (k := H.lU) (z := f4)  J0 underlying172 d d2 rfl rfl rfl c6 (fun i9 e5 d c7 => ?_))
  have m := d.has.kD (Dr (Db (Kb (Kb Sn))))
  refine ⟨⟨m, fun h => PQ kr h⟩, (me kr (wZ ?_))⟩
  obtain rfl := sj g
  exact wc rfl ⟨_, _, rfl, (d.mQ (Sb (Pr (Pb Pz)) (Sr (Qr (Qb (Qb (Qr (Qr Qz))))) (Sr (Qr (Qb (Qb (Qr Qz)))) (Sr (Qr (Qb (Qb Qz))) (Kr (Db (Db (Kr Sn))))))))), L, b7, U, e5, rfl, rfl, b5, Z, c7.e⟩
 refine lG (wZ ?_)
 obtain rfl := sj g
 exact wc rfl ⟨_, _, rfl, (d.mQ (Kb (Db (Sr (Qr (Qr Qz)) (Sr (Qr Qz) (Kr (Kr (Kr Sn)))))))), L, b7, U, t, rfl, rfl, b5, Z, T⟩
theorem sD (J : Nat) (g : Value) (a0 : List (kA × (List (ByteArray × Bool)))) (D : LO) (a : Value) (M : List kB) (u : LO) (j : Value) (Z : List (kA × (List kB))) (B : LO) (c : Value) (N : List (ByteArray × (List kB))) (y : LO) (i : Value) (Y : List kF) (t : LO) (H : Int) (G : kA) (U : ByteArray) (r : ((List (kA × (List (ByteArray × Bool)))) × (List kF) × Int)) (w : World) {μ0 : lq} (h0 : pY μ0 ((J, Ob #[g, a, j, c, i, (.int .i64 H)] 174) :: (D ++ (u ++ (B ++ (y ++ (t ++ [])))))) w) (a5 : mS (fun (x : kA) => (.agg (kC x).toArray)) (mx Value.string (fun (x : Bool) => (Value.bool x))) g a0 D) (b5 : kZ 108 kG 9 a M u) (c3 : mS (fun (x : kA) => (.agg (kC x).toArray)) (kZ 108 kG 9) j Z B) (b6 : mS Value.string (kZ 108 kG 9) c N y) (K : qS 38 kO 3 i Y t) (hm : oJ a0 M Z N Y H G U = some r) :
  mn true pg0 209 [(.pointer (some ⟨J, 0, none⟩)), (.agg (kC G).toArray), (.string U)] w ((J, Ob #[g, a, j, c, i, (.int .i64 H)] 174) :: (D ++ (u ++ (B ++ (y ++ (t ++ [])))))) (fun v L1 W' => ∃ S1 y3 S4, v = (.tuple #[]) ∧ L1 = ((J, Ob #[g, a, j, c, y3, (.int .i64 (r.2.2))] 174) :: (S1 ++ (u ++ (B ++ (y ++ (S4 ++ [])))))) ∧ mS (fun (x : kA) => (.agg (kC x).toArray)) (mx Value.string (fun (x : Bool) => (Value.bool x))) g r.1 S1 ∧ qS 38 kO 3 y3 r.2.1 S4) := by
 let a1 := (#[g, a, j, c, i, (.int .i64 H)] : Array Value)
 refine zX h0 53 func209 rfl (fun m => sg (VE (lF m rfl (fun W2 b1 m => ln (kV (kV ?_))))))
 replace m := m.drew
 have d := m.has.kD (Kb (Kb (Kr Sn)))
 refine lN d lB (X 0 rfl d (kM rfl) (X 1 rfl d (nz rfl) (X 2 rfl d (kH zu rfl) (XH 3 rfl d (fun _ q => kE rfl (kR q (Mt Mh) rfl iJ)) (XH 4 rfl d (fun _ q => kE rfl (kL q Mh (kC G) rfl aO aC)) ?_)))))
 obtain ⟨f4, Q⟩ := a5
 refine XH 5 rfl d (fun _ q => qc (k := G) (z := (.map none)) Cm eC ft rfl rfl Q (fun b o L => q.2 b o (Mt (Mt (Ml L))))) (X 6 rfl d (kM rfl) (XH 7 rfl d (fun _ q => xF (k := U) (z := false) (vf := (fun (x : Bool) => (Value.bool x))) J0 fA gv rfl rfl (nC.Gc (μ := hp _) kP.1 Q G (fun b o L => q.2 b o (Mt (Mt (Ml L)))))) (me kr (kK (CI hm rfl (fun d5 hm => ?_) (fun d5 hm => ?_))))))
 ·refine lx (lm ?_)
  obtain rfl := sj hm
  exact wc rfl ⟨_, _, rfl, (m.mQ (Db (Kb (Kr (Kr (Kr (Kr (Kr Sn)))))))), D, i, t, rfl, rfl, Q.e, K⟩
 refine kn (kV (CJ hm (fun b2 E W => ∃ a8 c0, ST true (keys ((J, Obj.cells a1 174 (0, 0)) :: (D ++ (u ++ (B ++ (y ++ (t ++ []))))))) w W μ0 ((b1, Ol (kC G) 28) :: ((J, Obj.cells a1 174 (0, 0)) :: (a8 ++ (u ++ (B ++ (y ++ (t ++ c0))))))) ∧ E 0 = (.pointer (some ⟨J, 0, none⟩)) ∧ E 2 = (.string U) ∧ E 4 = (.pointer (some ⟨b1, 0, none⟩)) ∧ mS (fun (x : kA) => (.agg (kC x).toArray)) (mx Value.string (fun (x : Bool) => (Value.bool x))) g b2 a8) (fun b2 I => ?_) ?_))
 ·refine kV ?_
  replace m := m.drew
  have d := m.has.kD (Kb (Kb (Kr Sn)))
  refine lN d lB (X 0 rfl d (kM rfl) (X 1 rfl d (nz rfl) (X 2 rfl d (kH zu rfl) (XH 3 rfl d (fun _ q => kE rfl (kR q (Mt Mh) rfl iJ)) (XH 4 rfl d (fun _ q => kE rfl (kL q Mh (kC G) rfl aO aC)) (XH 5 rfl d (fun _ q => qc (k := G) (z := (.map none)) Cm eC ft rfl rfl Q (fun b o L => q.2 b o (Mt (Mt (Ml L))))) (X 6 rfl d (OZ kP.1 fA Q rfl rfl) (me kr (kK (CI I rfl (fun b7 I => ?_) (fun b7 I => ?_)))))))))))
  ·replace m := m.drew
   have d := m.has.kD (Kb (Kb Sn))
   refine lN d lB (X 0 rfl d (kM rfl) (X 1 rfl d (nz rfl) (X 2 rfl d (kH zu rfl) (XH 3 rfl d (fun _ q => kE rfl (kR q (Mt Mh) rfl iJ)) (XH 4 rfl d (fun _ q => kE rfl (kL q Mh (kC G) rfl aO aC)) (XE 5 rfl (Ee (P := pg0) Value.string (fun (x : Bool) => (Value.bool x)) m (fun e1 e7 d9 m b3 => ?_))))))))
   have d := m.has.kD (Dr (Kb (Kb Sn)))
   refine ⟨d, ?_⟩
   replace m := m.perm (Nr (Qr (Qb (Qb Qz))) Nz)
   refine bS I fun e4 b9 I => XO 6 rfl (Tg (k := G) (z := ([]))  Cm eC m Q rfl rfl rfl b3 b9 (fun e2 c4 m b4 => ?_))
   have d := m.has.kD (Dr (Kb (Kb Sn)))
   refine ⟨d, (me kr (kK ?_))⟩
   obtain rfl := sj I
   exact ⟨c4, _, (m.kD (Sb (Pr Pz) (Sb (Pr Pz) St))), rfl, rfl, rfl, b4.e⟩
  refine kn ?_
  obtain rfl := sj I
  exact ⟨D, _, (m.kD St), rfl, rfl, rfl, Q.e⟩
 rintro f2 E W ⟨a8, c0, m, a6, c1, c2, c8⟩ T
 refine kV ?_
 replace m := m.drew
 have d := m.has.kD (Kb (Kb Sn))
 have n := m.has.kD (Db (Db (Kr Sn)))
 refine B9 7 d n lB (nX 0 rfl kr (.inl rfl) rfl dc (fun _ _ h => ⟨h.1, rp br h.2⟩) ⟨d, fun _ => n⟩ (fun _ _ _ _ => kM a6) (nX 1 rfl kr (.inl rfl) rfl dc (fun _ _ h => ⟨h.1, rp br h.2⟩) ⟨d, fun _ => n⟩ (fun _ _ _ _ => nz rfl) (nX 2 rfl kr (.inl rfl) rfl dc (fun _ _ h => ⟨h.1, rp br h.2⟩) ⟨d, fun _ => n⟩ (fun _ _ _ _ => kH zu rfl) (nX 3 rfl kr (.inl rfl) rfl dc (fun _ _ h => ⟨h.1, rp br h.2⟩) ⟨d, fun _ => n⟩ (fun l W s A => have q := A.1; kE rfl (kR q (Mt Mh) rfl iJ)) (nX 4 rfl kr (.inl rfl) rfl dc (fun _ _ h => ⟨h.1, rp br h.2⟩) ⟨d, fun _ => n⟩ (fun l W s A => have q := A.1; kE c2 (kL q Mh (kC G) rfl aO aC)) ?_)))))
 obtain ⟨e5, a9⟩ := c8
 refine nX 5 rfl kr (.inl rfl) rfl dc (fun _ _ h => ⟨h.1, rp br h.2⟩) ⟨d, fun _ => n⟩ (fun l W s A => have q := (A.2 (s.SJ 7 [5] kr rfl)); qc (k := G) (z := (.map none)) Cm eC ft rfl rfl a9 (fun b o L => q.2 b o (Ml L))) (nX 6 rfl kr (.inl rfl) rfl dc (fun _ _ h => ⟨h.1, rp br h.2⟩) ⟨d, fun _ => n⟩ (fun _ _ _ _ => kM c1) ?_)
 replace m := m.perm (Nr (Qb (Qb Qz)) Nz)
 refine bS T fun f3 c7 T => XO 7 rfl (RC (k := G) (v := true) (vf := (fun (x : Bool) => (Value.bool x)))  kP.1 J0 fA m a9 rfl rfl rfl c7 (fun e8 c9 m c5 => ?_))
 have d := m.has.kD (Dr (Kb (Kb Sn)))
 refine ⟨⟨d, fun h => PQ kr h⟩, (me kr (kK (sg (Wh a6 (Wn (Wf H8 (VB m (Ma (Mt Mh)) rfl rfl cH (Wi rfl (Wn (Wf H8 ?_))))))))))⟩
 replace m := m.perm (Nb (Pr (Pb Pz)) Nz)
 refine VO (lh (.int .i64 (wi0 .i64 (H + 1))) (#[g, a, j, c, i, (.int .i64 (wi0 .i64 (H + 1)))]) m rfl rfl iz (Jo _ (wi0 .i64 (H + 1))) nb rfl (fun e9 m => ln ?_))
 replace m := m.drew
 have d := m.has.kD (Db (Dr (Kb Sn)))
 have n := m.has.kD (Kb Sn)
 refine B9 12 d n lB (nX 0 rfl kr (.inl rfl) rfl dc (fun _ _ h => ⟨h.1, rp br h.2⟩) ⟨d, fun _ => n⟩ (fun _ _ _ _ => kM a6) (nX 1 rfl kr (.inl rfl) rfl dc (fun _ _ h => ⟨h.1, rp br h.2⟩) ⟨d, fun _ => n⟩ (fun _ _ _ _ => kM a6) (nX 2 rfl kr (.inl rfl) rfl dc (fun _ _ h => ⟨h.1, rp br h.2⟩) ⟨d, fun _ => n⟩ (fun _ _ _ _ => nz rfl) (nX 3 rfl kr (.inl rfl) rfl dc (fun _ _ h => ⟨h.1, rp br h.2⟩) ⟨d, fun _ => n⟩ (fun _ _ _ _ => kH Dk rfl) (nX 4 rfl kr (.inl rfl) rfl dc (fun _ _ h => ⟨h.1, rp br h.2⟩) ⟨d, fun _ => n⟩ (fun l W s A => have q := (A.2 (s.SJ 12 [4] kr rfl)); kE rfl (kR q Mh rfl isAgg120)) (nX 5 rfl kr (.inl rfl) rfl dc (fun _ _ h => ⟨h.1, rp br h.2⟩) ⟨d, fun _ => n⟩ (fun l W s A => have q := A.1; kE c2 (kL q Mh (kC G) rfl aO aC)) (nX 6 rfl kr (.inl rfl) rfl dc (fun _ _ h => ⟨h.1, rp br h.2⟩) ⟨d, fun _ => n⟩ (fun _ _ _ _ => kM c1) (nX 7 rfl kr (.inl rfl) rfl dc (fun _ _ h => ⟨h.1, rp br h.2⟩) ⟨d, fun _ => n⟩ (fun _ _ _ _ => nm (v := (.agg (kO (⟨G, U⟩ : kF)).toArray)) (pH rfl rfl) (mE cX cA (EH _ cA) kr)) (XE 8 rfl (lj (cs := (kO (⟨G, U⟩ : kF)).toArray) m (mN rfl) (mJ bR bU cX) (fun f0 d4 m => ?_)))))))))))
 have d := m.has.kD (Db (Db (Dr (Kb Sn))))
 have n := m.has.kD (Db (Kb Sn))
 refine ⟨⟨d, fun _ => n⟩, ?_⟩
 replace m := m.perm (Nr (Qb (Qb (Qr (Qb (Qr (Qr (Qr Qz))))))) Nz)
 refine bS T fun b0 c6 T => XE 9 rfl (O5 (enc := kO) (v := i) (vs := (.slice (some ⟨d4, 0, none⟩) 1 1)) (R := t) m nA dc wA bR pW.1 pW.2.1 rfl pW.2.2.1 pW.2.2.2 rfl rfl K (Sl.lit (enc := kO) (l := [(⟨G, U⟩ : kF)]) nA rfl nb rfl (m.at_ (Ma Mh))) c6 (fun f1 e6 d0 m a7 => ?_))
 have d := m.has.kD (Dr (Db (Db (Dr (Kb Sn)))))
 have n := m.has.kD (Dr (Db (Kb Sn)))
 refine ⟨⟨d, fun _ => n⟩, (nX 10 rfl kr (.inl rfl) rfl dc (fun _ _ h => ⟨h.1, rp br h.2⟩) ⟨d, fun _ => n⟩ (fun _ _ _ _ => nz rfl) (nX 11 rfl kr (.inl rfl) rfl dc (fun _ _ h => ⟨h.1, rp br h.2⟩) ⟨d, fun _ => n⟩ (fun _ _ _ _ => kH Dk rfl) ?_))⟩
 obtain ⟨a3, a4, rfl⟩ := a7.form
 let a2 : Value := (.slice a3 b0.length a4)
 replace m := m.perm (Nb (Pr (Pb Pz)) Nz)
 refine XO 12 rfl (lh a2 (#[g, a, j, c, a2, (.int .i64 (wi0 .i64 (H + 1)))]) m rfl rfl sizeOf120 oc nb rfl (fun e0 m => ?_))
 have d := m.has.kD (Db (Dr (Db (Dr (Kb Sn)))))
 refine ⟨⟨d, fun h => PQ kr h⟩, (me kr (wZ ?_))⟩
 obtain rfl := sj T
 exact wc rfl ⟨_, _, rfl, (m.mQ (Kb (Sr (Qr (Qb Qz)) (Sr (Qr (Qb (Qb Qz))) (Sr (Qr (Qb (Qb Qz))) (Sr (Qr (Qb (Qb Qz))) (Kr Sn))))))), c9, a2, d0, rfl, rfl, c5.e, a7⟩
theorem ye (a : Value) (g : List (ByteArray × Bool)) (r : Unit) (w : World) (c : xp Value.string (fun (x : Bool) => (Value.bool x)) (hp w) a g) (hm : pJ g = some r) :
  mn true pg0 120 [a] w [] (fun v k W' => ∃ i, v = (.func (.func 183) #[] #[(.pointer (some ⟨i, 0, none⟩))]) ∧ k = ((i, Ob #[a] 175) :: [])) := by
 refine tT 4 func120 rfl (fun d => sg ?_)
 obtain ⟨t, rfl⟩ := c.form
 refine VE (lF d rfl (fun u j d => Wa (lr (V (tX (by exact pz rfl) rfl) (Wa (lt ?_))))))
 obtain rfl := sj hm
 exact lQ (v := (.func (.func 183) #[] #[(.pointer (some ⟨j, 0, none⟩))])) rfl rfl ⟨_, _, rfl, (d.NP (Kb Sn)), j, rfl, rfl⟩
theorem KB {β : Type} {vf : β → Value} {l : List (ByteArray × β)} {b : Nat} {a : Value} {W : World} {r : List ByteArray} (c : W.heap[b]? = some (.cells #[a] 175 (0, 0))) (hm : xp Value.string vf (hp W) a l) (hk : Jz l = some r) : lT false pg0 119 [.func (.func 183) #[] #[.pointer (some ⟨b, 0, none⟩)]] W 9 nu 1 r := OL (P := pg0) Vo Wd Te rfl bL call183 call182 c hm hk
theorem AQ (T : Nat) (a : Value) (u : List (kA × (List (ByteArray × Bool)))) (c : Value) (t : List kB) (j : Value) (G : List (kA × (List kB))) (g : Value) (B : List (ByteArray × (List kB))) (i : Value) (D : List kF) (Q : Int) (H : kA) (r : List ByteArray) (w : World) (J : sa (fun (x : kA) => (.agg (kC x).toArray)) (mx Value.string (fun (x : Bool) => (Value.bool x))) (hp w) a u) (Z : Sl (Pl kG) 9 (hp w) c t) (a4 : sa (fun (x : kA) => (.agg (kC x).toArray)) (kZ 108 kG 9) (hp w) j G) (a0 : sa Value.string (kZ 108 kG 9) (hp w) g B) (a3 : Sl (Pl kO) 3 (hp w) i D) (Y : At (hp w) (.pointer (some ⟨T, 0, none⟩)) [a, c, j, g, i, (.int .i64 Q)]) (hm : sd u t G B D Q H = some r) :
  lT false pg0 53 [(.pointer (some ⟨T, 0, none⟩)), (.agg (kC H).toArray)] w 9 nu 1 r := by
 refine tT 15 func53 rfl (fun d => sg (VE (lF d rfl (fun W2 b1 d => Wa (lS (Wm (V (uc underlying101 rfl rfl) (ln (qx rfl ?_)))))))))
 refine kn (kV ?_)
 replace d := d.drew
 have h := d.has.kD (Kb Sn)
 refine lN h lB (X 0 rfl h (kM rfl) (X 1 rfl h (nz rfl) (XQ 2 rfl h (zf [a] zu rfl Y rfl) (fun b9 E => XH 3 rfl h (fun _ m => kE rfl (nh m (y := a) E iJ)) (XH 4 rfl h (fun _ m => kE rfl (kL m Mh (kC H) rfl aO aC)) ?_)))))
 obtain ⟨a9, b4, K, M⟩ := J
 refine XH 5 rfl h (fun _ m => qc (k := H) (z := (.map none)) Cm eC ft rfl rfl K (fun b o n => m.1 b o (M b o n))) (bS hm fun c0 L hm => ?_)
 refine XE 6 rfl (IG d (du _) call120 (fun _ _ _ _ => mn.mz (ye (th kQ a9 H (.map none)) ((mo kQ u H).getD []) _ _ ((nC.Gc kP.1 K H M).mono d.kN) L)) (fun b5 c2 c3 b3 d I s q a5 => ?_) (L0 := []))
 obtain ⟨b7, N, rfl⟩ := a5
 replace N := N.symm; subst N
 replace d := d.perm (Tb Tn)
 have h := d.has.sL I (Db (Kb Sn))
 refine ⟨h, (bS hm fun c1 P hm => XE 7 rfl (qu d call119 (KB (vf := (fun (x : Bool) => (Value.bool x))) (d.has.2 _ _ Mh) ((nC.Gc kP.1 K H M).mono (fun b o n => d.has.1 b o (I b o n))) P) (fun b6 W c4 R d a2 A U => ?_)))⟩
 have h := d.has.sL (I.trans a2) (Dr (Db (Kb Sn)))
 refine ⟨h, (X 8 rfl h (nH rfl) (me kr (kK ?_)))⟩
 replace d := d.kD (Kr (Db (Db St)))
 refine lx ?_
 obtain rfl := sj hm
 exact lQ (v := W) rfl rfl ⟨_, R, rfl, d.mV (fun p n => (Ml n)) U.nd, U⟩
theorem GP (K : Nat) (g : Value) (N : List (kA × (List (ByteArray × Bool)))) (G : LO) (a : Value) (H : List kB) (k : LO) (j : Value) (J : List (kA × (List kB))) (u : LO) (c : Value) (I : List (ByteArray × (List kB))) (t : LO) (z : Value) (M : List kF) (B : LO) (Z : Int) (L a2 : kA) (r : ((List (kA × (List (ByteArray × Bool)))) × (List kF) × Int)) (w : World) {μ0 : lq} (h0 : pY μ0 ((K, Ob #[g, a, j, c, z, (.int .i64 Z)] 174) :: (G ++ (k ++ (u ++ (t ++ (B ++ [])))))) w) (a5 : mS (fun (x : kA) => (.agg (kC x).toArray)) (mx Value.string (fun (x : Bool) => (Value.bool x))) g N G) (Q : kZ 108 kG 9 a H k) (a4 : mS (fun (x : kA) => (.agg (kC x).toArray)) (kZ 108 kG 9) j J u) (T : mS Value.string (kZ 108 kG 9) c I t) (a3 : qS 38 kO 3 z M B) (hm : wj N H J I M Z L a2 = some r) :
  mn false pg0 252 [(.pointer (some ⟨K, 0, none⟩)), (.agg (kC L).toArray), (.agg (kC a2).toArray)] w ((K, Ob #[g, a, j, c, z, (.int .i64 Z)] 174) :: (G ++ (k ++ (u ++ (t ++ (B ++ [])))))) (fun v L1 W' => ∃ S1 y3 S4, v = (.tuple #[]) ∧ L1 = ((K, Ob #[g, a, j, c, y3, (.int .i64 (r.2.2))] 174) :: (S1 ++ (k ++ (u ++ (t ++ (S4 ++ [])))))) ∧ mS (fun (x : kA) => (.agg (kC x).toArray)) (mx Value.string (fun (x : Bool) => (Value.bool x))) g r.1 S1 ∧ qS 38 kO 3 y3 r.2.1 S4) := by
 refine zX h0 21 func252 rfl (fun d => sg (VE (lF d rfl (fun W2 b1 d => VE (lF d rfl (fun W4 b3 d => lr (Wm (VA d (Mt Mh) (kC L) aO aC (bS hm fun r5 e6 hm => VE (qu d call53 (AQ K g N a H j J c I z M Z L _ _ (a5.at (fun b o m => d.at_ (Mt (Mt (Mt (Ml m)))))) (Q.sl mT (fun b o m => d.at_ (Mt (Mt (Mt (Ma (Ml m))))))) (a4.at (fun b o m => d.at_ (Mt (Mt (Mt (Ma (Ma (Ml m)))))))) (T.at (fun b o m => d.at_ (Mt (Mt (Mt (Ma (Ma (Ma (Ml m))))))))) ((a3.GH nA).mono (Pl.mono _) (wW (fun b o m => d.at_ (Mt (Mt (Mt (Ma (Ma (Ma (Ma (Ml m))))))))))) (At.of (d.at_ (Mt (Mt Mh))) _ rfl) e6) (fun W7 e7 A e2 d f5 ae a9 => V (mR bJ rfl a9) (Wm ?_))))))))))))
 refine ln ?_
 replace d := d.kD (Kr (Kb (Db St)))
 refine vG (lz (fun i E W => ∃ n U a0 q Y s P b7, (E 12 = .int .i64 (i : Nat) ∧ E 11 = .int .i64 (r5.length : Nat)) ∧ lb A P ∧ ST false (keys ((K, Ob #[g, a, j, c, z, (.int .i64 Z)] 174) :: (G ++ (k ++ (u ++ (t ++ (B ++ []))))))) w W P ((K, Ob #[g, a, j, c, a0, (.int .i64 s)] 174) :: ((b3, Ol (kC a2) 28) :: (U ++ (k ++ (u ++ (t ++ (Y ++ (e2 ++ b7)))))))) ∧ E 0 = (.pointer (some ⟨K, 0, none⟩)) ∧ E 5 = (.pointer (some ⟨b3, 0, none⟩)) ∧ E 10 = e7 ∧ mS (fun (x : kA) => (.agg (kC x).toArray)) (mx Value.string (fun (x : Bool) => (Value.bool x))) g n U ∧ qS 38 kO 3 a0 q Y ∧ rk H J I a2 (r5.drop i) n q s = some r) r5.length a9.len ⟨N, G, z, M, B, Z, A, _, ⟨rfl, rfl⟩, (lb.refl _), (d.kD (Sb (Pr (Pb Pz)) (Sb (Pr Pz) (Sr (Qr Qz) (Sr (Qr Qz) (Sr (Qr Qz) (Sr (Qr Qz) (Sr (Qr Qz) St)))))))), rfl, rfl, rfl, a5, a3, hm⟩ dc dc dc (fun _ _ _ h => by obtain ⟨_, _, _, _, _, _, _, _, aa, _⟩ := h; exact aa) ?_ ?_)
 ·rintro d8 E W c9 ⟨n, U, a0, q, Y, s, P, b7, ⟨eI, eN⟩, b6, d, c0, c1, c2, R, b2, D⟩
  obtain ⟨c4, f0, d2, c5, d3⟩ := ll c9
  rw [d2] at D
  refine bg (VQ (mF (i := (d8 : Int)) (x0 := c4) bJ dl c2 eI a9 (aD _) c5) (fun f6 d0 => V (kE rfl (uU d.has (fun p m => (Mt (Mt (Ma (Ma (Ma (Ma (Ma (Ml m))))))))) a9 (fun _ => rfl) d0 c5 (y := (.string c4)) rfl aY)) (Wa (ln (kT (Wh c0 (V (kE c1 (kL d.has (Mt Mh) (kC a2) rfl aO aC)) (Wm (bS D fun c3 d1 D => ?_)))))))))
  refine VE (eM d (Cb Pz (Cr (Qb Qz) (Cr (Qb Qz) (Cr (Qb Qz) (Cr (Qb Qz) (Cr (Qb Qz) Cn)))))) call209 (fun hh _ => mn.mz (sD K g n U a H k j J u c I t a0 q Y s a2 c4 _ _ hh R Q a4 T b2 d1)) ?_)
  rintro _ f7 e1 f2 d c7 ab ad ⟨d6, e0, d7, b4, rfl, d4, d5⟩
  obtain rfl := b4.symm
  replace d := d.perm (Tb (Tr (Tr (Tr (Tr (Tr Tn))))))
  exact lo (lA (kK ⟨eI, c3.1, d6, e0, c3.2.1, d7, c3.2.2, e1, _, ⟨rfl, eN⟩, (b6.trans c7), (d.kD (Kb (Sb (Pr (Pr (Pr (Pr (Pr Pz))))) St))), c0, c1, c2, d4, d5, (by rw [d3]; exact D)⟩))
 rintro E W ⟨n, U, a0, q, Y, s, P, b7, ⟨eI, eN⟩, b6, d, c0, c1, c2, R, b2, D⟩
 rw [aG] at D
 refine kK ?_
 replace d := d.kD (Kb (Db (Kr (Kr (Kr (Kr (Kr (Dr St))))))))
 refine wZ ?_
 obtain rfl := sj D
 exact wc rfl ⟨_, _, rfl, (d.mQ (Kb (Kr (Kr (Kr (Kr (Kr Sn))))))), U, a0, Y, rfl, rfl, R, b2⟩
theorem BA (K : Nat) (G : Value) (Z : List (kA × (List (ByteArray × Bool)))) (D : LO) (g : Value) (I : List kB) (a : LO) (B : Value) (N : List (kA × (List kB))) (y : LO) (i : Value) (J : List (ByteArray × (List kB))) (c : LO) (t : Value) (M : List kF) (j : LO) (a0 : Int) (Q : kB) (a2 : kF) (r : ((List (kA × (List (ByteArray × Bool)))) × (List kF) × Int)) (w : World) {μ0 : lq} (h0 : pY μ0 ((K, Ob #[G, g, B, i, t, (.int .i64 a0)] 174) :: (D ++ (a ++ (y ++ (c ++ (j ++ [])))))) w) (U : mS (fun (x : kA) => (.agg (kC x).toArray)) (mx Value.string (fun (x : Bool) => (Value.bool x))) G Z D) (T : kZ 108 kG 9 g I a) (a3 : mS (fun (x : kA) => (.agg (kC x).toArray)) (kZ 108 kG 9) B N y) (Y : mS Value.string (kZ 108 kG 9) i J c) (H : qS 38 kO 3 t M j) (hm : tk Z I N J M a0 Q a2 = some r) :
  mn false pg0 210 [(.pointer (some ⟨K, 0, none⟩)), (.agg (kG Q).toArray), (.agg (kO a2).toArray)] w ((K, Ob #[G, g, B, i, t, (.int .i64 a0)] 174) :: (D ++ (a ++ (y ++ (c ++ (j ++ [])))))) (fun v L1 W' => ∃ S1 y3 S4, v = (.tuple #[]) ∧ L1 = ((K, Ob #[G, g, B, i, y3, (.int .i64 (r.2.2))] 174) :: (S1 ++ (a ++ (y ++ (c ++ (S4 ++ [])))))) ∧ mS (fun (x : kA) => (.agg (kC x).toArray)) (mx Value.string (fun (x : Bool) => (Value.bool x))) G r.1 S1 ∧ qS 38 kO 3 y3 r.2.1 S4) := by
 let L := (#[G, g, B, i, t, (.int .i64 a0)] : Array Value)
 refine zX h0 57 func210 rfl (fun d => sg (VE (lF d rfl (fun W2 P d => VE (lF d rfl (fun W4 b3 d => lr (Wf om (VB d (Mt Mh) rfl rfl cH (ln (mP (kV ?_)))))))))))
 refine kT (Wi rfl (Wa (ln (CI hm rfl (fun e5 hm => ?_) (fun e5 hm => ?_)))))
 ·refine kT (Wm (Wf oD (VA d (Mt Mh) (kC Q.Head) aO aC (Wf sP (VB d Mh rfl rfl aY (bS hm fun r6 e6 hm => ?_))))))
  refine VE (eM d (Cb (Pb (Pb Pz)) (Cr (Qb (Qb Qz)) (Cr (Qb (Qb Qz)) (Cr (Qb (Qb Qz)) (Cr (Qb (Qb Qz)) (Cr (Qb (Qb Qz)) Cn)))))) call209 (fun A _ => mn.mz (sD K G Z D g I a B N y i J c t M j a0 Q.Head a2.ly _ _ A U T a3 Y H e6)) ?_)
  rintro _ g7 ad f8 d f2 a6 n ⟨d2, e7, d3, a8, rfl, c5, c6⟩
  obtain rfl := a8.symm
  replace d := d.perm (Tb (Tr (Tr (Tr (Tr (Tr Tn))))))
  refine lo (lA (wZ ?_))
  obtain rfl := sj hm
  exact wc rfl ⟨_, _, rfl, (d.mQ (Kb (Kr (Kr (Kr (Kr (Kr Sn))))))), d2, e7, d3, rfl, rfl, c5, c6⟩
 refine sg (Wi rfl (Wa (ln (CI hm rfl (fun c0 hm => ?_) (fun c0 hm => ?_)))))
 ·refine kT (Wm (Wf sP (VB d Mh rfl rfl aY (Wf rX (VB d (Mt Mh) rfl rfl aY (V (nm (v := (.agg (kC (⟨a2.ly, Q.lU⟩ : kA)).toArray)) (pH rfl rfl) (mE bQ cI (Hn _ cI) kr)) (Wf oD (VA d (Mt Mh) (kC Q.Head) aO aC (bS hm fun g3 c3 hm => ?_)))))))))
  refine VE (eM d (Cb (Pb (Pb Pz)) (Cr (Qb (Qb Qz)) (Cr (Qb (Qb Qz)) (Cr (Qb (Qb Qz)) (Cr (Qb (Qb Qz)) (Cr (Qb (Qb Qz)) Cn)))))) call252 (fun A _ => (GP K G Z D g I a B N y i J c t M j a0 (⟨a2.ly, Q.lU⟩ : kA) Q.Head _ _ A U T a3 Y H c3)) ?_)
  rintro _ g8 h2 f9 d f3 aa n ⟨d4, e9, d5, a9, rfl, c7, c8⟩
  obtain rfl := a9.symm
  replace d := d.perm (Tb (Tr (Tr (Tr (Tr (Tr Tn))))))
  refine lo (lA (wZ ?_))
  obtain rfl := sj hm
  exact wc rfl ⟨_, _, rfl, (d.mQ (Kb (Kr (Kr (Kr (Kr (Kr Sn))))))), d4, e9, d5, rfl, rfl, c7, c8⟩
 refine sg (Wi rfl (Wa (ln (CI hm rfl (fun c1 hm => ?_) (fun c1 hm => ?_)))))
 ·refine kV ?_
  replace d := d.drew
  have h := d.has.kD (Kb (Kb (Kb (Kr Sn))))
  refine lN h lB (X 0 rfl h (kM rfl) (X 1 rfl h (nz rfl) (X 2 rfl h (kH zu rfl) (XH 3 rfl h (fun _ m => kE rfl (kR m (Mt (Mt Mh)) rfl iJ)) (X 4 rfl h (kH mW rfl) (XH 5 rfl h (fun _ m => kE rfl (kL m (Mt Mh) (kC Q.B) rfl aO aC)) ?_))))))
  obtain ⟨f7, a5⟩ := U
  refine XH 6 rfl h (fun _ m => qc (k := Q.B) (z := (.map none)) Cm eC ft rfl rfl a5 (fun b o q => m.2 b o (Mt (Mt (Mt (Ml q)))))) (X 7 rfl h (kH sP rfl) (XH 8 rfl h (fun _ m => kE rfl (kR m Mh rfl aY)) (XH 9 rfl h (fun _ m => xF (k := a2.ly) (z := false) (vf := (fun (x : Bool) => (Value.bool x))) J0 fA gv rfl rfl (nC.Gc (μ := hp _) kP.1 a5 Q.B (fun b o q => m.2 b o (Mt (Mt (Mt (Ml q))))))) (X 10 rfl h (kM rfl) (PJ hm (fun b5 E W => ∃ b4, ST false (keys ((K, Obj.cells L 174 (0, 0)) :: (D ++ (a ++ (y ++ (c ++ (j ++ []))))))) w W μ0 ((b3, Ol (kO a2) 38) :: ((P, Ol (kG Q) 108) :: ((K, Obj.cells L 174 (0, 0)) :: (D ++ (a ++ (y ++ (c ++ (j ++ b4)))))))) ∧ E 0 = (.pointer (some ⟨K, 0, none⟩)) ∧ E 4 = (.pointer (some ⟨P, 0, none⟩)) ∧ E 5 = (.pointer (some ⟨b3, 0, none⟩)) ∧ E 50 = (.bool b5)) (bm 22 4194303) 0 ?_ (fun b5 s R => ?_))))))
  ·rintro h1 E W ⟨b4, d, e1, e2, e3, e4⟩ a4
   refine me kr (kK (CI a4 e4 (fun c2 a4 => ?_) (fun c2 a4 => ?_)))
   ·refine kT (Wh e1 (V (kH oD e2) (VA d (Mt Mh) (kC Q.Head) aO aC (V (kH sP e3) (VB d Mh rfl rfl aY (bS a4 fun g4 c4 a4 => ?_))))))
    refine VE (eM d (Cb (Pb (Pb Pz)) (Cr (Qb (Qb Qz)) (Cr (Qb (Qb Qz)) (Cr (Qb (Qb Qz)) (Cr (Qb (Qb Qz)) (Cr (Qb (Qb Qz)) Cn)))))) call209 (fun A _ => mn.mz (sD K G Z D g I a B N y i J c t M j a0 Q.Head a2.ly _ _ A a5.e T a3 Y H c4)) ?_)
    rintro _ g9 h3 g0 d f4 ab n ⟨d7, f0, d8, b0, rfl, c9, d0⟩
    obtain rfl := b0.symm
    replace d := d.perm (Tb (Tr (Tr (Tr (Tr (Tr Tn))))))
    refine lo (lA (wZ ?_))
    obtain rfl := sj a4
    exact wc rfl ⟨_, _, rfl, (d.mQ (Kb (Kr (Kr (Kr (Kr (Kr Sn))))))), d7, f0, d8, rfl, rfl, c9, d0⟩
   refine lG (lA (wZ ?_))
   obtain rfl := sj a4
   exact wc rfl ⟨_, _, rfl, (d.mQ (Db (Db (Kb (Kr (Kr (Kr (Kr (Kr Sn))))))))), D, t, j, rfl, rfl, a5.e, H⟩
  refine bC s (fun u s => ?_) (fun u s => ?_)
  ·refine Xg 11 rfl rfl (cB u) h (kM rfl) (Xg 12 rfl rfl (cB u) h (nz rfl) (Xg 13 rfl rfl (cB u) h (kH zu rfl) (vA 14 rfl rfl (cB u) h (fun _ m => kE rfl (kR m (Mt (Mt Mh)) rfl iJ)) (Xg 15 rfl rfl (cB u) h (kH pO rfl) (vA 16 rfl rfl (cB u) h (fun _ m => kE rfl (kL m (Mt Mh) (kC Q.C) rfl aO aC)) (vA 17 rfl rfl (cB u) h (fun _ m => qc (k := Q.C) (z := (.map none)) Cm eC ft rfl rfl a5 (fun b o q => m.2 b o (Mt (Mt (Mt (Ml q)))))) (Xg 18 rfl rfl (cB u) h (kH sP rfl) (vA 19 rfl rfl (cB u) h (fun _ m => kE rfl (kR m Mh rfl aY)) (vA 20 rfl rfl (cB u) h (fun _ m => xF (k := a2.ly) (z := false) (vf := (fun (x : Bool) => (Value.bool x))) J0 fA gv rfl rfl (nC.Gc (μ := hp _) kP.1 a5 Q.C (fun b o q => m.2 b o (Mt (Mt (Mt (Ml q))))))) (X 21 rfl h (kX (cB u) rfl) ?_))))))))))
   obtain rfl := sj s
   refine np kr (R _ _ ⟨_, (d.kD St), rfl, rfl, rfl, rfl⟩)
  refine Xn 11 rfl rfl (cB u) h (Xn 12 rfl rfl (cB u) h (Xn 13 rfl rfl (cB u) h (Xn 14 rfl rfl (cB u) h (Xn 15 rfl rfl (cB u) h (Xn 16 rfl rfl (cB u) h (Xn 17 rfl rfl (cB u) h (Xn 18 rfl rfl (cB u) h (Xn 19 rfl rfl (cB u) h (Xn 20 rfl rfl (cB u) h (X 21 rfl h (kW (cB u) rfl) ?_))))))))))
  obtain rfl := sj s
  refine np kr (R _ _ ⟨_, (d.kD St), rfl, rfl, rfl, rfl⟩)
 refine lG (lA (wZ ?_))
 obtain rfl := sj hm
 exact wc rfl ⟨_, _, rfl, (d.mQ (Db (Db (Kb (Kr (Kr (Kr (Kr (Kr Sn))))))))), D, t, j, rfl, rfl, U, H⟩
theorem FF (K : Nat) (g : Value) (T : List (kA × (List (ByteArray × Bool)))) (D : LO) (a : Value) (G : List kB) (j : LO) (t : Value) (J : List (kA × (List kB))) (u : LO) (c : Value) (H : List (ByteArray × (List kB))) (k : LO) (z : Value) (M : List kF) (B : LO) (a0 : Int) (Z : kB) (r : ((List (kA × (List (ByteArray × Bool)))) × (List kF) × Int)) (w : World) {μ0 : lq} (h0 : pY μ0 ((K, Ob #[g, a, t, c, z, (.int .i64 a0)] 174) :: (D ++ (j ++ (u ++ (k ++ (B ++ [])))))) w) (a2 : mS (fun (x : kA) => (.agg (kC x).toArray)) (mx Value.string (fun (x : Bool) => (Value.bool x))) g T D) (N : kZ 108 kG 9 a G j) (Y : mS (fun (x : kA) => (.agg (kC x).toArray)) (kZ 108 kG 9) t J u) (Q : mS Value.string (kZ 108 kG 9) c H k) (U : qS 38 kO 3 z M B) (hm : uE T G J H M a0 Z = some r) :
  mn false pg0 172 [(.pointer (some ⟨K, 0, none⟩)), (.agg (kG Z).toArray)] w ((K, Ob #[g, a, t, c, z, (.int .i64 a0)] 174) :: (D ++ (j ++ (u ++ (k ++ (B ++ [])))))) (fun v L1 W' => ∃ S1 y3 S4, v = (.tuple #[]) ∧ L1 = ((K, Ob #[g, a, t, c, y3, (.int .i64 (r.2.2))] 174) :: (S1 ++ (j ++ (u ++ (k ++ (S4 ++ [])))))) ∧ mS (fun (x : kA) => (.agg (kC x).toArray)) (mx Value.string (fun (x : Bool) => (Value.bool x))) g r.1 S1 ∧ qS 38 kO 3 y3 r.2.1 S4) := by
 refine zX h0 33 func172 rfl (fun d => sg (VE (lF d rfl (fun W2 b1 d => lr (Wf om (VB d Mh rfl rfl cH (ln (bg ?_))))))))
 refine Wi rfl (Wa (ln (CI hm rfl (fun f1 hm => ?_) (fun f1 hm => ?_))))
 ·refine kT (Wm (Wf oD (VA d Mh (kC Z.Head) aO aC (Wf sW (VB d Mh rfl rfl aY (bS hm fun r4 f2 hm => ?_))))))
  refine VE (eM d (Cb (Pb Pz) (Cr (Qb Qz) (Cr (Qb Qz) (Cr (Qb Qz) (Cr (Qb Qz) (Cr (Qb Qz) Cn)))))) call209 (fun hh _ => mn.mz (sD K g T D a G j t J u c H k z M B a0 Z.Head Z.ly _ _ hh a2 N Y Q U f2)) ?_)
  rintro _ h1 ae g8 d g2 ad n ⟨e7, f4, e8, c2, rfl, e0, e1⟩
  obtain rfl := c2.symm
  replace d := d.perm (Tb (Tr (Tr (Tr (Tr (Tr Tn))))))
  refine lo (lA (wZ ?_))
  obtain rfl := sj hm
  exact wc rfl ⟨_, _, rfl, (d.mQ (Kb (Kr (Kr (Kr (Kr (Kr Sn))))))), e7, f4, e8, rfl, rfl, e0, e1⟩
 refine sg (Wm (Wf mW (VA d Mh (kC Z.B) aO aC (bS hm fun c6 d9 hm => VE (qu d call53 (AQ K g T a G t J c H z M a0 Z.B _ _ (a2.at (fun b o m => d.at_ (Mt (Mt (Ml m))))) (N.sl mT (fun b o m => d.at_ (Mt (Mt (Ma (Ml m)))))) (Y.at (fun b o m => d.at_ (Mt (Mt (Ma (Ma (Ml m))))))) (Q.at (fun b o m => d.at_ (Mt (Mt (Ma (Ma (Ma (Ml m)))))))) ((U.GH nA).mono (Pl.mono _) (wW (fun b o m => d.at_ (Mt (Mt (Ma (Ma (Ma (Ma (Ml m)))))))))) (At.of (d.at_ (Mt Mh)) _ rfl) d9) (fun g9 f3 d5 e5 d f6 ab P => V (mR bJ rfl P) (Wm (ln (vG (lz (fun i E W => ∃ q a3 a5 s a4 a9 R b9, (E 13 = .int .i64 (i : Nat) ∧ E 12 = .int .i64 (c6.length : Nat)) ∧ lb d5 R ∧ ST false (keys ((K, Ob #[g, a, t, c, z, (.int .i64 a0)] 174) :: (D ++ (j ++ (u ++ (k ++ (B ++ []))))))) w W R ((K, Ob #[g, a, t, c, a5, (.int .i64 a9)] 174) :: ((b1, Ol (kG Z) 108) :: (a3 ++ (j ++ (u ++ (k ++ (a4 ++ (e5 ++ b9)))))))) ∧ E 0 = (.pointer (some ⟨K, 0, none⟩)) ∧ E 3 = (.pointer (some ⟨b1, 0, none⟩)) ∧ E 11 = f3 ∧ mS (fun (x : kA) => (.agg (kC x).toArray)) (mx Value.string (fun (x : Bool) => (Value.bool x))) g q a3 ∧ qS 38 kO 3 a5 s a4 ∧ qe G J H Z (c6.drop i) q s a9 = some r) c6.length P.len ⟨T, D, z, M, B, a0, d5, _, ⟨rfl, rfl⟩, (lb.refl _), (d.kD (Sb (Pr (Pb Pz)) (Sb (Pr Pz) (Sr (Qr Qz) (Sr (Qr Qz) (Sr (Qr Qz) (Sr (Qr Qz) (Sr (Qr Qz) St)))))))), rfl, rfl, rfl, a2, U, hm⟩ dc dc dc (fun _ _ _ h => by obtain ⟨_, _, _, _, _, _, _, _, a1, _⟩ := h; exact a1) ?_ ?_))))))))))
 ·rintro e2 E W c8 ⟨q, a3, a5, s, a4, a9, R, b9, ⟨eI, eN⟩, b7, d, c0, L, c1, b3, b4, I⟩
  obtain ⟨A, f7, d1, c4, d2⟩ := ll c8
  rw [d1] at I
  refine bg (VQ (mF (i := (e2 : Int)) (x0 := A) bJ dl c1 eI P (aD _) c4) (fun g3 c9 => V (kE rfl (uU d.has (fun p m => (Mt (Mt (Ma (Ma (Ma (Ma (Ma (Ml m))))))))) P (fun _ => rfl) c9 c4 (y := (.string A)) rfl aY)) (Wa (ln (kT (Wh c0 (V (kE L (kL d.has (Mt Mh) (kG Z) rfl bM aM)) (V (kH mW L) (VA d (Mt Mh) (kC Z.B) aO aC (Wm (V (nm (v := (.agg (kO (⟨Z.B, A⟩ : kF)).toArray)) (pH rfl rfl) (mE cX cA (EH _ cA) kr)) ?_)))))))))))
  refine bS I fun c3 d0 I => ?_
  refine VE (eM d (Cb Pz (Cr (Qb Qz) (Cr (Qb Qz) (Cr (Qb Qz) (Cr (Qb Qz) (Cr (Qb Qz) Cn)))))) call210 (fun hh _ => (BA K g q a3 a G j t J u c H k a5 s a4 a9 Z (⟨Z.B, A⟩ : kF) _ _ hh b3 N Y Q b4 d0)) ?_)
  rintro _ g4 e4 f9 d c5 aa n ⟨d6, e3, d7, b5, rfl, d3, d4⟩
  obtain rfl := b5.symm
  replace d := d.perm (Tb (Tr (Tr (Tr (Tr (Tr Tn))))))
  exact lo (lA (kK ⟨eI, c3.1, d6, e3, c3.2.1, d7, c3.2.2, e4, _, ⟨rfl, eN⟩, (b7.trans c5), (d.kD (Kb (Sb (Pr (Pr (Pr (Pr (Pr Pz))))) St))), c0, L, c1, d3, d4, (by rw [d2]; exact I)⟩))
 rintro E W ⟨q, a3, a5, s, a4, a9, R, b9, ⟨eI, eN⟩, b7, d, c0, L, c1, b3, b4, I⟩
 rw [aG] at I
 refine kK ?_
 replace d := d.kD (Kb (Db (Kr (Kr (Kr (Kr (Kr (Dr St))))))))
 refine lA (wZ ?_)
 obtain rfl := sj I
 exact wc rfl ⟨_, _, rfl, (d.mQ (Kb (Kr (Kr (Kr (Kr (Kr Sn))))))), a3, a5, a4, rfl, rfl, b3, b4⟩
theorem EW (I : Nat) (a : Value) (e8 : List (kA × (List (ByteArray × Bool)))) (K : LO) (c : Value) (Q : List kB) (j : LO) (u : Value) (N : List (kA × (List kB))) (y : LO) (g : Value) (H : List (ByteArray × (List kB))) (t : LO) (G : Value) (d4 : List kF) (D : LO) (a0 : Int) (r : ((List (kA × (List (ByteArray × Bool)))) × (List kF) × Int)) (w : World) {μ0 : lq} (h0 : pY μ0 ((I, Ob #[a, c, u, g, G, (.int .i64 a0)] 174) :: (K ++ (j ++ (y ++ (t ++ (D ++ [])))))) w) (h4 : mS (fun (x : kA) => (.agg (kC x).toArray)) (mx Value.string (fun (x : Bool) => (Value.bool x))) a e8 K) (c1 : kZ 108 kG 9 c Q j) (g7 : mS (fun (x : kA) => (.agg (kC x).toArray)) (kZ 108 kG 9) u N y) (c2 : mS Value.string (kZ 108 kG 9) g H t) (g4 : qS 38 kO 3 G d4 D) (hm : xe e8 Q N H d4 a0 = some r) :
  mn false pg0 173 [(.pointer (some ⟨I, 0, none⟩))] w ((I, Ob #[a, c, u, g, G, (.int .i64 a0)] 174) :: (K ++ (j ++ (y ++ (t ++ (D ++ [])))))) (fun v L1 W' => ∃ S1 y3 S4, v = (.tuple #[]) ∧ L1 = ((I, Ob #[a, c, u, g, y3, (.int .i64 (r.2.2))] 174) :: (S1 ++ (j ++ (y ++ (t ++ (S4 ++ [])))))) ∧ mS (fun (x : kA) => (.agg (kC x).toArray)) (mx Value.string (fun (x : Bool) => (Value.bool x))) a r.1 S1 ∧ qS 38 kO 3 y3 r.2.1 S4) := by
 let g5 : Value := (.pointer (some ⟨I, 0, none⟩))
 let b8 := ((I, Ob #[a, c, u, g, G, (.int .i64 a0)] 174) :: (K ++ (j ++ (y ++ (t ++ (D ++ []))))))
 refine zX h0 75 func173 rfl (fun d => vG (mP (ou (fun m E W => ∃ e3 b7 e4 a1 b9 d1 b4 h5, lb μ0 b4 ∧ ST false (keys b8) w W b4 ((I, Ob #[a, c, u, g, e4, (.int .i64 d1)] 174) :: (b7 ++ (j ++ (y ++ (t ++ (b9 ++ h5)))))) ∧ E 0 = g5 ∧ mS (fun (x : kA) => (.agg (kC x).toArray)) (mx Value.string (fun (x : Bool) => (Value.bool x))) a e3 b7 ∧ qS 38 kO 3 e4 a1 b9 ∧ nV Q N H m e3 a1 d1 = some r) lE ⟨e8, K, G, d4, D, a0, μ0, _, (lb.refl _), (d.kD St), rfl, h4, g4, hm⟩ ?_)))
 rintro m E W ⟨e3, b7, e4, a1, b9, d1, b4, h5, i0, d, R, g9, c5, M⟩
 cases m with
 | zero => rw [nV] at M; cases M
 | succ n0 =>
  refine kV (sg (Wh R (Wn (Wf Dk (VB d Mh rfl rfl isAgg120 (V (Uo bR rfl c5) (Wi rfl (ln (CI M rfl (fun i7 M => ?_) (fun i7 M => ?_))))))))))
  ·refine kn (bg (Wh R (Wn (Wf Dk (VB d Mh rfl rfl isAgg120 (bS M fun B h2 M => VQ (lY (enc := kO) (i := 0) (x0 := B) bR bU rfl rfl (c5.GH nA) (mi h2) (lR h2)) (fun q0 j7 => V (kE rfl (lO (rY.hp _) (j7.mono (wW (fun b o s => d.has.2 b o (Mt (Ma (Ma (Ma (Ma (Ml s))))))))) dx bU)) (VE (lD d cX (fun o9 a5 d => VO (lh (.agg (kO B).toArray) ((kO B).toArray) d rfl rfl bU (wA B) nb rfl (fun p0 d => lo ?_))))))))))))
   let j2 := ((mo kQ N B.kA).getD [])
   let j1 : Value := (.pointer (some ⟨a5, 0, none⟩))
   let i6 := ((kO B).toArray : Array Value)
   let i5 := ((mo mh H B.kA.kU).getD [])
   refine kK (sg (Wh R (Wh R (Wn (Wf Dk (VB d (Mt Mh) rfl rfl isAgg120 (bS M fun _ g8 M => VQ (QL (i := 1) bR bU rfl rfl nA c5 (qW g8) (qR g8)) (fun q3 h1 => Wn (Wf Dk ?_)))))))))
   obtain ⟨f7, g0, rfl⟩ := h1.form
   let g6 : Value := (.slice f7 (a1.drop (Int.toNat 1)).length g0)
   replace d := d.perm (Nb (Pb Pz) Nz)
   refine VO (lh g6 (#[a, c, u, g, g6, (.int .i64 d1)]) d rfl rfl sizeOf120 oc nb rfl (fun p1 d => ln (kV (kV ?_))))
   replace d := d.drew
   have n := d.has.kD (Kb (Kb (Dr (Dr (Kr Sn)))))
   refine lN n lB (X 0 rfl n (kM R) (X 1 rfl n (nz rfl) (X 2 rfl n (kH Qe rfl) (XH 3 rfl n (fun _ q => kE rfl (kR q Mh rfl isAgg171)) (X 4 rfl n (kH wS rfl) (XH 5 rfl n (fun _ q => kE rfl (kL q (Mt Mh) (kC B.kA) rfl aO aC)) ?_))))))
   obtain ⟨l7, c3⟩ := g7
   obtain ⟨o7, f0, k2⟩ := nC.rowAt kP.1 c3 B.kA
   refine XH 6 rfl n (fun _ q => qc (k := B.kA) (z := (.slice none 0 0)) Cm underlying171 kx rfl rfl c3 (fun b o s => q.2 b o (Mt (Mt (Ml s))))) (X 7 rfl n (lJ aW rfl (f0.GH mT)) (X 8 rfl n (kM rfl) (me kr (kK (CJ M (fun d0 E W => ∃ d6 e5 d7 b5 h6, lb b4 b5 ∧ ST false (keys b8) w W b5 ((I, Ob #[a, c, u, g, e5, (.int .i64 d0.2.2)] 174) :: ((a5, Obj.cells i6 38 (0, 0)) :: (d6 ++ (j ++ (y ++ (t ++ (d7 ++ h6))))))) ∧ E 0 = g5 ∧ E 2 = j1 ∧ mS (fun (x : kA) => (.agg (kC x).toArray)) (mx Value.string (fun (x : Bool) => (Value.bool x))) a d0.1 d6 ∧ qS 38 kO 3 e5 d0.2.1 d7) (fun d0 j6 => ?_) ?_)))))
   ·refine lz (fun i E W => ∃ c7 a3 b1 c8 a4 d2 d3 f9, (E 35 = .int .i64 (i : Nat) ∧ E 34 = .int .i64 (j2.length : Nat)) ∧ lb b4 d3 ∧ ST false (keys b8) w W d3 ((I, Ob #[a, c, u, g, b1, (.int .i64 d2)] 174) :: ((a5, Obj.cells i6 38 (0, 0)) :: (a3 ++ (j ++ (y ++ (t ++ (a4 ++ f9))))))) ∧ E 0 = g5 ∧ E 2 = j1 ∧ E 33 = (th kQ l7 B.kA (.slice none 0 0)) ∧ mS (fun (x : kA) => (.agg (kC x).toArray)) (mx Value.string (fun (x : Bool) => (Value.bool x))) a c7 a3 ∧ qS 38 kO 3 b1 c8 a4 ∧ pV Q N H B (j2.drop i) c7 c8 d2 = some d0) j2.length (f0.GH mT).len ⟨e3, b7, g6, (a1.drop (Int.toNat 1)), b9, d1, b4, _, ⟨rfl, rfl⟩, (lb.refl _), (d.kD St), R, rfl, rfl, g9, h1, j6⟩ dc dc dc (fun _ _ _ h => by obtain ⟨_, _, _, _, _, _, _, _, L, _⟩ := h; exact L) ?_ ?_
    ·rintro m5 E W j0 ⟨c7, a3, b1, c8, a4, d2, d3, f9, ⟨A, eN⟩, d5, d, e1, e2, g1, f3, f4, T⟩
     obtain ⟨b3, o3, l1, l0, l2⟩ := ll j0
     rw [l1] at T
     refine bg (VQ (lY (enc := kG) (i := (m5 : Int)) (x0 := b3) aW aM g1 A (f0.GH mT) (aD _) l0) (fun q2 j9 => V (kE rfl (lO (rY.hp _) (j9.mono (wW (fun b o s => d.has.2 b o (Mt (Mt (Ma (Ma (Ml (k2 b o s))))))))) bM aM)) (VE (lD d cg (fun p5 p9 d => VO (lh (.agg (kG b3).toArray) ((kG b3).toArray) d rfl rfl aM (nQ b3) nb rfl (fun p6 d => ln (kT (Wh e1 (VA d Mh (kG b3) bM aM (V (kE e2 (kL d.has (Mt (Mt Mh)) (kO B) rfl dx bU)) (bS T fun g3 k1 T => ?_))))))))))))
     refine VE (eM d (Cb (Pb Pz) (Cr (Qb (Qb Qz)) (Cr (Qb (Qb Qz)) (Cr (Qb (Qb Qz)) (Cr (Qb (Qb Qz)) (Cr (Qb (Qb Qz)) Cn)))))) call210 (fun hh _ => (BA I a c7 a3 c Q j u N y g H t b1 c8 a4 d2 b3 B _ _ hh f3 c1 c3.e c2 f4 k1)) ?_)
     rintro _ q5 n6 o6 d i4 ab P ⟨m1, n4, m2, f6, rfl, l5, l6⟩
     obtain rfl := f6.symm
     replace d := d.perm (Tb (Tr (Tr (Tr (Tr (Tr Tn))))))
     refine lo (lA (kK ?_))
     replace d := d.kD (Kb (Kr (Kr (Kr (Kr (Kr (Db St)))))))
     exact ⟨A, g3.1, m1, n4, g3.2.1, m2, g3.2.2, n6, _, ⟨rfl, eN⟩, (d5.trans i4), (d.kD (Kb (Sb (Pr (Pr (Pr (Pr (Pr Pz))))) St))), e1, e2, g1, l5, l6, (by rw [l2]; exact T)⟩
    rintro E W ⟨c7, a3, b1, c8, a4, d2, d3, f9, ⟨A, eN⟩, d5, d, e1, e2, g1, f3, f4, T⟩
    rw [aG] at T
    refine kK ?_
    obtain rfl := sj T
    exact ⟨a3, b1, a4, d3, _, d5, (d.kD St), e1, e2, f3, f4⟩
   rintro ⟨m6, m7, n1⟩ E W ⟨d6, e5, d7, b5, h6, i1, d, h8, h9, k3, k4⟩ j3
   refine kV ?_
   replace d := d.drew
   have n := d.has.kD (Kb (Kb (Dr (Dr (Dr (Kr Sn))))))
   refine lN n lB (X 0 rfl n (kM h8) (X 1 rfl n (nz rfl) (X 2 rfl n (kH KG rfl) (XH 3 rfl n (fun _ q => kE rfl (kR q Mh rfl isAgg172)) (X 4 rfl n (kH wS h9) (X 5 rfl n (kH uo rfl) (XH 6 rfl n (fun _ q => kE rfl (kR q (Mt Mh) rfl aY)) ?_)))))))
   obtain ⟨l8, e9⟩ := c2
   obtain ⟨o8, f1, k5⟩ := nC.rowAt mO.1 e9 B.kA.kU
   refine XH 7 rfl n (fun _ q => qc (k := B.kA.kU) (z := (.slice none 0 0)) J0 underlying172 kx rfl rfl e9 (fun b o s => q.2 b o (Mt (Mt (Ml s))))) (X 8 rfl n (lJ aW rfl (f1.GH mT)) (X 9 rfl n (kM rfl) (me kr (kK (vG (CJ j3 (fun c9 E W => ∃ d8 e6 d9 e7 h7, lb b5 e7 ∧ ST false (keys b8) w W e7 ((I, Ob #[a, c, u, g, e6, (.int .i64 c9.2.2)] 174) :: (d8 ++ (j ++ (y ++ (t ++ (d9 ++ h7)))))) ∧ E 0 = g5 ∧ mS (fun (x : kA) => (.agg (kC x).toArray)) (mx Value.string (fun (x : Bool) => (Value.bool x))) a c9.1 d8 ∧ qS 38 kO 3 e6 c9.2.1 d9) (fun c9 j5 => ?_) ?_))))))
   ·refine lz (fun i E W => ∃ a9 Y a2 b0 Z b2 b6 f8, (E 53 = .int .i64 (i : Nat) ∧ E 52 = .int .i64 (i5.length : Nat)) ∧ lb b5 b6 ∧ ST false (keys b8) w W b6 ((I, Ob #[a, c, u, g, a2, (.int .i64 b2)] 174) :: ((a5, Obj.cells i6 38 (0, 0)) :: (Y ++ (j ++ (y ++ (t ++ (Z ++ f8))))))) ∧ E 0 = g5 ∧ E 2 = j1 ∧ E 51 = (th mh l8 B.kA.kU (.slice none 0 0)) ∧ mS (fun (x : kA) => (.agg (kC x).toArray)) (mx Value.string (fun (x : Bool) => (Value.bool x))) a a9 Y ∧ qS 38 kO 3 a2 b0 Z ∧ oO B Q N H (i5.drop i) a9 b0 b2 = some c9) i5.length (f1.GH mT).len ⟨m6, d6, e5, m7, d7, n1, b5, _, ⟨rfl, rfl⟩, (lb.refl _), (d.kD St), h8, h9, rfl, k3, k4, j5⟩ dc dc dc (fun _ _ _ h => by obtain ⟨_, _, _, _, _, _, _, _, L, _⟩ := h; exact L) ?_ ?_
    ·rintro m4 E W i9 ⟨a9, Y, a2, b0, Z, b2, b6, f8, ⟨A, eN⟩, a8, d, a7, c0, e0, f2, c6, J⟩
     obtain ⟨U, o2, k9, k8, h3⟩ := ll i9
     rw [k9] at J
     refine bg (VQ (lY (enc := kG) (i := (m4 : Int)) (x0 := U) aW aM e0 A (f1.GH mT) (aD _) k8) (fun q1 j8 => V (kE rfl (lO (rY.hp _) (j8.mono (wW (fun b o s => d.has.2 b o (Mt (Mt (Ma (Ma (Ma (Ml (k5 b o s)))))))))) bM aM)) (VE (lD d cg (fun p2 p8 d => VO (lh (.agg (kG U).toArray) ((kG U).toArray) d rfl rfl aM (nQ U) nb rfl (fun p3 d => ln (kV ?_))))))))
     replace d := d.drew
     have n := d.has.kD (Kb (Kb (Kb (Kr Sn))))
     refine lN n lB (X 0 rfl n (kM a7) (X 1 rfl n (nz rfl) (X 2 rfl n (kH zu rfl) (XH 3 rfl n (fun _ q => kE rfl (kR q (Mt Mh) rfl iJ)) (X 4 rfl n (kH mW rfl) (XH 5 rfl n (fun _ q => kE rfl (kL q Mh (kC U.B) rfl aO aC)) ?_))))))
     obtain ⟨o0, c4⟩ := f2
     refine XH 6 rfl n (fun _ q => qc (k := U.B) (z := (.map none)) Cm eC ft rfl rfl c4 (fun b o s => q.2 b o (Mt (Mt (Mt (Ml s)))))) (X 7 rfl n (kH wS c0) (X 8 rfl n (kH oF rfl) (XH 9 rfl n (fun _ q => kE rfl (kR q (Mt (Mt Mh)) rfl aY)) (XH 10 rfl n (fun _ q => xF (k := B.kA.kI) (z := false) (vf := (fun (x : Bool) => (Value.bool x))) J0 fA gv rfl rfl (nC.Gc (μ := hp _) kP.1 c4 U.B (fun b o s => q.2 b o (Mt (Mt (Mt (Ml s))))))) (me kr (kK (CI J rfl (fun i8 J => ?_) (fun i8 J => ?_))))))))
     ·refine kT (Wh a7 (Wf oD (VA d Mh (kC U.Head) aO aC (V (kH sP c0) (VB d (Mt (Mt Mh)) rfl rfl aY (bS J fun g2 k0 J => ?_))))))
      refine VE (eM d (Cb (Pb Pz) (Cr (Qb (Qb Qz)) (Cr (Qb (Qb Qz)) (Cr (Qb (Qb Qz)) (Cr (Qb (Qb Qz)) (Cr (Qb (Qb Qz)) Cn)))))) call209 (fun hh _ => mn.mz (sD I a a9 Y c Q j u N y g H t a2 b0 Z b2 U.Head B.ly _ _ hh c4.e c1 c3.e e9.e c6 k0)) ?_)
      rintro _ q4 n5 o5 d i3 aa P ⟨l9, n3, m0, f5, rfl, l3, l4⟩
      obtain rfl := f5.symm
      replace d := d.perm (Tb (Tr (Tr (Tr (Tr (Tr Tn))))))
      refine lo (lA (kK ?_))
      replace d := d.kD (Kb (Kr (Kr (Kr (Kr (Kr (Db St)))))))
      exact ⟨A, g2.1, l9, n3, g2.2.1, m0, g2.2.2, n5, _, ⟨rfl, eN⟩, (a8.trans i3), (d.kD (Kb (Sb (Pr (Pr (Pr (Pr (Pr Pz))))) St))), a7, c0, e0, l3, l4, (by rw [h3]; exact J)⟩
     refine lG (lA (kK ?_))
     replace d := d.kD (Db St)
     exact ⟨A, a9, Y, a2, b0, Z, b2, b6, _, ⟨rfl, eN⟩, a8, (d.kD St), a7, c0, e0, c4.e, c6, (by rw [h3]; exact J)⟩
    rintro E W ⟨a9, Y, a2, b0, Z, b2, b6, f8, ⟨A, eN⟩, a8, d, a7, c0, e0, f2, c6, J⟩
    rw [aG] at J
    refine kK ?_
    obtain rfl := sj J
    exact ⟨Y, a2, Z, b6, _, a8, (d.kD (Kb (Db St))), a7, f2, c6⟩
   rintro ⟨m8, m9, n2⟩ E W ⟨d8, e6, d9, e7, h7, i2, d, m3, k6, k7⟩ j4
   exact lA (kK ⟨n0, bT _, m8, d8, e6, m9, d9, n2, e7, _, ((i0.trans i1).trans i2), (d.kD St), m3, k6, k7, j4⟩)
  refine ot (nT (nT (uj (kK (wZ ?_)))))
  obtain rfl := sj M
  exact wc rfl ⟨_, _, rfl, (d.mQ (Kb (Kr (Kr (Kr (Kr (Kr Sn))))))), b7, e4, b9, rfl, rfl, g9, c5⟩
theorem GX (H : Nat) (g : Value) (c2 : List (kA × (List (ByteArray × Bool)))) (G : LO) (u : Value) (a7 : List kB) (k : LO) (c : Value) (b7 : List (kA × (List kB))) (z : LO) (a : Value) (a8 : List (ByteArray × (List kB))) (t : LO) (B : Value) (b6 : List kF) (y : LO) (K : Int) (d1 : Value) (s : List kB) (r : (Int × (List (kA × (List (ByteArray × Bool)))) × (List kB) × (List (kA × (List kB))) × (List (ByteArray × (List kB))) × (List kF) × Int)) (w : World) {μ0 : lq} (h0 : pY μ0 ((H, Ob #[g, u, c, a, B, (.int .i64 K)] 174) :: (G ++ (k ++ (z ++ (t ++ (y ++ [])))))) w) (d6 : mS (fun (x : kA) => (.agg (kC x).toArray)) (mx Value.string (fun (x : Bool) => (Value.bool x))) g c2 G) (c6 : kZ 108 kG 9 u a7 k) (d3 : mS (fun (x : kA) => (.agg (kC x).toArray)) (kZ 108 kG 9) c b7 z) (c7 : mS Value.string (kZ 108 kG 9) a a8 t) (d2 : qS 38 kO 3 B b6 y) (d7 : Sl (Pl kG) 9 μ0 d1 s) (hm : wi c2 a7 b7 a8 b6 K s = some r) :
  mn false pg0 109 [(.pointer (some ⟨H, 0, none⟩)), d1] w ((H, Ob #[g, u, c, a, B, (.int .i64 K)] 174) :: (G ++ (k ++ (z ++ (t ++ (y ++ [])))))) (fun v L1 W' => ∃ S1 y3 S4 S6 S8 i1 i0, v = (.int .i64 (r.1)) ∧ L1 = ((H, Ob #[g, y3, c, a, i1, (.int .i64 (r.2.2.2.2.2.2))] 174) :: (S1 ++ (S4 ++ (S6 ++ (S8 ++ (i0 ++ [])))))) ∧ mS (fun (x : kA) => (.agg (kC x).toArray)) (mx Value.string (fun (x : Bool) => (Value.bool x))) g r.2.1 S1 ∧ kZ 108 kG 9 y3 r.2.2.1 S4 ∧ mS (fun (x : kA) => (.agg (kC x).toArray)) (kZ 108 kG 9) c r.2.2.2.1 S6 ∧ mS Value.string (kZ 108 kG 9) a r.2.2.2.2.1 S8 ∧ qS 38 kO 3 i1 r.2.2.2.2.2.1 i0) := by
 let b8 := ((H, Ob #[g, u, c, a, B, (.int .i64 K)] 174) :: (G ++ (k ++ (z ++ (t ++ (y ++ []))))))
 refine zX h0 46 func109 rfl (fun d => sg (Wa (lS (Wm (V (uc underlying101 rfl rfl) (ln (qx rfl (lG ?_))))))))
 refine kK (sg (Wm (Wn (Wf H8 (VB d Mh rfl rfl cH (Wa (lS (Wm (V (lJ aW rfl d7) ?_)))))))))
 refine Wm (ln (lz (fun i E W => ∃ a3 N M a4 Q a9 T q U a0 a5 Y a2 c1 d5, (E 16 = .int .i64 (i : Nat) ∧ E 15 = .int .i64 (s.length : Nat)) ∧ lb μ0 c1 ∧ ST false (keys b8) w W c1 ((H, Ob #[g, M, c, a, a0, (.int .i64 a2)] 174) :: (N ++ (Q ++ (T ++ (U ++ (Y ++ d5)))))) ∧ E 0 = (.pointer (some ⟨H, 0, none⟩)) ∧ E 5 = (.int .i64 K) ∧ E 14 = d1 ∧ mS (fun (x : kA) => (.agg (kC x).toArray)) (mx Value.string (fun (x : Bool) => (Value.bool x))) g a3 N ∧ kZ 108 kG 9 M a4 Q ∧ mS (fun (x : kA) => (.agg (kC x).toArray)) (kZ 108 kG 9) c a9 T ∧ mS Value.string (kZ 108 kG 9) a q U ∧ qS 38 kO 3 a0 a5 Y ∧ oL K (s.drop i) a3 a4 a9 q a5 a2 = some r) s.length d7.len ⟨c2, G, u, a7, k, b7, z, a8, t, B, b6, y, K, μ0, _, ⟨rfl, rfl⟩, (lb.refl _), (d.kD St), rfl, rfl, rfl, d6, c6, d3, c7, d2, hm⟩ dc dc dc (fun _ _ _ h => by obtain ⟨_, _, _, _, _, _, _, _, _, _, _, _, _, _, _, aa, _⟩ := h; exact aa) ?_ ?_))
 ·rintro f6 E W g3 ⟨a3, N, M, a4, Q, a9, T, q, U, a0, a5, Y, a2, c1, d5, ⟨eI, eN⟩, b1, d, L, c3, c4, R, A, b3, b4, b5, D⟩
  obtain ⟨I, j8, h4, h3, d9⟩ := ll g3
  rw [h4] at D
  refine bg (VQ (lY (enc := kG) (i := (f6 : Int)) (x0 := I) aW aM c4 eI (d7.mono (Pl.mono _) b1) (aD _) h3) (fun l1 g4 => V (kE rfl (lO d.has g4 bM aM)) (VE (lD d cg (fun k3 e8 d => VO (lh (.agg (kG I).toArray) ((kG I).toArray) d rfl rfl aM (nQ I) nb rfl (fun k4 d => ln (kV ?_))))))))
  replace d := d.drew
  have m := d.has.kD (Kb (Kb Sn))
  refine lN m lB (XH 0 rfl m (fun _ hS => kE rfl (kL hS Mh (kG I) rfl bM aM)) (bS D fun l2 g7 D => XE 1 rfl (Eg d ki (lg.mz (uv I _ _  g7)) (fun k5 d => ?_))))
  have m := d.has.kD (Kb (Kb Sn))
  refine ⟨m, (X 2 rfl m (kM rfl) (PJ D (fun f7 E W => ∃ e4, ST false (keys b8) w W c1 ((e8, Ol (kG I) 108) :: ((H, Ob #[g, M, c, a, a0, (.int .i64 a2)] 174) :: (N ++ (Q ++ (T ++ (U ++ (Y ++ e4))))))) ∧ E 0 = (.pointer (some ⟨H, 0, none⟩)) ∧ E 5 = (.int .i64 K) ∧ E 7 = (.pointer (some ⟨e8, 0, none⟩)) ∧ E 14 = d1 ∧ E 15 = (.int .i64 (s.length : Int)) ∧ E 16 = (.int .i64 (f6 : Int)) ∧ E 30 = (.bool f7)) (bm 11 2047) 0 ?_ (fun f7 Z d4 => ?_)))⟩
  ·rintro l7 E W ⟨e4, d, c5, e9, f0, f1, f2, f3, i6⟩ J
   refine me kr (kK (CI J i6 (fun g2 J => ?_) (fun g2 J => ?_)))
   ·refine sg (Wh c5 (V (kE f0 (kL d.has Mh (kG I) rfl bM aM)) (bS J fun P g8 J => ?_)))
    refine VE (eM d (Cb (Pb Pz) (Cr (Qb Qz) (Cr (Qb Qz) (Cr (Qb Qz) (Cr (Qb Qz) (Cr (Qb Qz) Cn)))))) call171 (fun hh _ => mn.mz (Gq H g a3 N M a4 Q c a9 T a q U a0 a5 Y a2 I _ _ hh R A b3 b4 b5 g8)) ?_)
    rintro _ l4 l8 k0 d f4 ab n ⟨f8, e5, e6, e7, c8, rfl, e0, e1, e2⟩
    obtain rfl := c8.symm
    replace d := d.perm (Tb (Tr (Tr (Tr (Tr (Tr Tn))))))
    refine ln (kT (Wh c5 (V (kE f0 (kL d.has (Mt (Ma (Ma (Ma (Ma (Ma Mh)))))) (kG I) rfl bM aM)) (bS J fun d8 g9 J => ?_))))
    refine VE (eM d (Cb Pz (Cr Qz (Cr Qz (Cr Qz (Cr Qz (Cr Qz Cn)))))) call172 (fun hh _ => (FF H g a3 N f8 P.1 e5 c P.2.1 e6 a P.2.2 e7 a0 a5 Y a2 I _ _ hh R e0 e1 e2 b5 g9)) ?_)
    rintro _ l5 j0 k1 d f5 ad n ⟨i2, i8, i3, c9, rfl, h5, h6⟩
    obtain rfl := c9.symm
    replace d := d.perm (Tb (Tr (Tr (Tr (Tr (Tr Tn))))))
    refine lo (lA (kK ?_))
    replace d := d.kD (Kb (Kr (Kr (Kr (Kr (Kr (Db St)))))))
    exact ⟨f3, d8.1, i2, f8, P.1, e5, P.2.1, e6, P.2.2, e7, i8, d8.2.1, i3, d8.2.2, j0, _, ⟨rfl, f2⟩, ((b1.trans f4).trans f5), (d.kD St), c5, e9, f1, h5, e0, e1, e2, h6, (by rw [d9]; exact J)⟩
   refine lG (lA (kK ?_))
   replace d := d.kD (Db St)
   exact ⟨f3, a3, N, M, a4, Q, a9, T, q, U, a0, a5, Y, a2, c1, _, ⟨rfl, f2⟩, b1, (d.kD St), c5, e9, f1, R, A, b3, b4, b5, (by rw [d9]; exact J)⟩
  refine bC Z (fun j Z => ?_) (fun j Z => ?_)
  ·refine Xg 3 rfl rfl (cB j) m (kM L) (Xg 4 rfl rfl (cB j) m (nz rfl) (Xg 5 rfl rfl (cB j) m (kH KR rfl) (vA 6 rfl rfl (cB j) m (fun _ hS => kE rfl (kR hS (Mt Mh) rfl gZ)) (vA 7 rfl rfl (cB j) m (fun _ hS => kE rfl (kL hS Mh (kG I) rfl bM aM)) (bS Z fun l3 h1 Z => DK 8 rfl rfl (cB j) (Eg d call151 (lg.mz (JH M a4 I _ _ (A.sl mT (fun b o hq => d.at_ (Mt (Mt (Ma (Ml hq)))))) h1)) (fun k8 d => ?_)))))))
   have m := d.has.kD (Kb (Kb Sn))
   refine ⟨m, (Xg 9 rfl rfl (cB j) m (nr rfl) (X 10 rfl m (kX (cB j) rfl) ?_))⟩
   obtain rfl := sj Z
   refine np kr (d4 _ _ ⟨_, (d.kD St), L, c3, rfl, c4, eN, eI, rfl⟩)
  refine Xn 3 rfl rfl (cB j) m (Xn 4 rfl rfl (cB j) m (Xn 5 rfl rfl (cB j) m (Xn 6 rfl rfl (cB j) m (Xn 7 rfl rfl (cB j) m (Xn 8 rfl rfl (cB j) m (Xn 9 rfl rfl (cB j) m (X 10 rfl m (kW (cB j) rfl) ?_)))))))
  obtain rfl := sj Z
  refine np kr (d4 _ _ ⟨_, (d.kD St), L, c3, rfl, c4, eN, eI, rfl⟩)
 rintro E W ⟨a3, N, M, a4, Q, a9, T, q, U, a0, a5, Y, a2, c1, d5, ⟨eI, eN⟩, b1, d, L, c3, c4, R, A, b3, b4, b5, D⟩
 rw [aG] at D
 refine kK (sg (Wh L (bS D fun i7 h2 D => ?_)))
 refine VE (eM d (Cb Pz (Cr Qz (Cr Qz (Cr Qz (Cr Qz (Cr Qz Cn)))))) call173 (fun hh _ => (EW H g a3 N M a4 Q c a9 T a q U a0 a5 Y a2 _ _ hh R A b3 b4 b5 h2)) ?_)
 rintro _ l6 l9 k2 d j6 ae n ⟨i4, i9, i5, d0, rfl, h7, h8⟩
 obtain rfl := d0.symm
 replace d := d.perm (Tb (Tr (Tr (Tr (Tr (Tr Tn))))))
 refine lr (Wh L (Wn (Wf H8 (VB d Mh rfl rfl cH (Wh c3 (Wi rfl (Wa (lt ?_))))))))
 obtain rfl := sj D
 exact lQ (v := (.int .i64 (wi0 .i64 (i7.2.2 - K)))) rfl rfl ⟨_, _, rfl, (d.mQ (Kb (Kr (Kr (Kr (Kr (Kr Sn))))))), i4, M, Q, T, U, i9, i5, rfl, rfl, h7, A, b3, b4, h8⟩
theorem Kc (j : Value) (H : List kB) (r : ((List (kA × (List (ByteArray × Bool)))) × (List kB) × (List (kA × (List kB))) × (List (ByteArray × (List kB))) × (List kF) × Int)) (w : World) (J : Sl (Pl kG) 9 (hp w) j H) (hm : vp H = some r) :
  mn false pg0 47 [j] w [] (fun v L1 W' => ∃ n q S3 s S6 A S9 D u G y, v = (.pointer (some ⟨n, 0, none⟩)) ∧ L1 = ((n, Ob #[q, s, A, D, G, (.int .i64 (r.2.2.2.2.2))] 174) :: (S3 ++ (S6 ++ (S9 ++ (u ++ (y ++ [])))))) ∧ mS (fun (x : kA) => (.agg (kC x).toArray)) (mx Value.string (fun (x : Bool) => (Value.bool x))) q r.1 S3 ∧ kZ 108 kG 9 s r.2.1 S6 ∧ mS (fun (x : kA) => (.agg (kC x).toArray)) (kZ 108 kG 9) A r.2.2.1 S9 ∧ mS Value.string (kZ 108 kG 9) D r.2.2.2.1 u ∧ qS 38 kO 3 G r.2.2.2.2.1 y) := by
 refine tT 13 func47 rfl (fun d => sg (Wa (lr (VE (FU (P := pg0) (fun (x : kA) => (.agg (kC x).toArray)) (mx Value.string (fun (x : Bool) => (Value.bool x))) d (fun W1 v4 R2 d z => VE (FU (P := pg0) (fun (x : kA) => (.agg (kC x).toArray)) (kZ 108 kG 9) d (fun W5 v8 R6 d B => VE (FU (P := pg0) Value.string (kZ 108 kG 9) d (fun W9 c4 Y d t => ?_))))))))))
 obtain ⟨a, rfl⟩ := z.form
 obtain ⟨c, rfl⟩ := B.form
 obtain ⟨g, rfl⟩ := t.form
 refine V (nm (v := (.agg #[(.map (some a)), (.slice none 0 0), (.map (some c)), (.map (some g)), (.slice none 0 0), (.int .i64 0)])) (Td rfl rfl rfl) (mE zeroValue174 eB (YJ _ eB) kr)) (VE (lF d rfl (fun c1 k d => Wa (lr (Wm (Wm (bS hm fun c3 K hm => ?_)))))))
 refine VE (eM d (Cb Pz (Cr (Qr (Qr Qz)) (C0 (Cr (Qr Qz) (Cr Qz (C0 Cn)))))) call109 (fun L m => (GX k (.map (some a)) ([]) R2 (.slice none 0 0) ([]) [] (.map (some c)) ([]) R6 (.map (some g)) ([]) Y (.slice none 0 0) ([]) [] 0 j H _ _ L z (kZ.nil _ _ _) B t (qS.nil _ _ _) (J.mono (Pl.mono _) m) K)) ?_)
 rintro _ c5 c6 W d R o h ⟨Z, E, a2, a3, a4, I, a5, i, rfl, M, N, Q, T, U⟩
 obtain rfl := i.symm
 replace d := d.perm (Tb (Tr (Tr (Tr (Tr (Tr Tn))))))
 refine lr (Wm (Wa (lt ?_)))
 obtain rfl := sj hm
 exact lQ (v := (.pointer (some ⟨k, 0, none⟩))) rfl rfl ⟨_, _, rfl, (d.NP (Kb (Kr (Kr (Kr (Kr (Kr Sn))))))), k, (.map (some a)), Z, E, a2, (.map (some c)), a3, (.map (some g)), a4, I, a5, rfl, rfl, M, N, Q, T, U⟩
theorem Sv (i : ur) (a c g t j k : Value) (r : ((List (kA × (List (ByteArray × Bool)))) × (List kB) × (List (kA × (List kB))) × (List (ByteArray × (List kB))) × (List kF) × Int × ByteArray × ByteArray × Int)) (w : World) (y : Sl oR 15 (hp w) a i.mg.mY) (z : Sl ve 8 (hp w) c i.mg.oX) (u : Sl (Pl kG) 9 (hp w) g i.lL) (G : Sl (Pl kG) 9 (hp w) t i.Shown) (B : Sl (Pl kC) 2 (hp w) j i.mG) (D : Sl (Pl kC) 2 (hp w) k i.sI) (hm : Eu i = some r) :
  mn false pg0 73 [(.agg #[(.string i.mg.Name), a, c, (.string i.od), (.int .i64 i.Room), g, t, j, k])] w [] (fun v L1 W' => ∃ m n q S4 s S7 A J U K Y M Q, v = (.func (.func 144) #[] #[(.pointer (some ⟨m, 0, none⟩)), (.pointer (some ⟨Q, 0, none⟩))]) ∧ L1 = ((m, Ob #[(.pointer (some ⟨n, 0, none⟩))] 101) :: ((n, Ob #[q, s, A, U, Y, (.int .i64 (r.2.2.2.2.2.1))] 174) :: ((Q, Ob #[(.string (r.2.2.2.2.2.2.1)), a, c, (.string (r.2.2.2.2.2.2.2.1)), (.int .i64 (r.2.2.2.2.2.2.2.2)), g, t, j, k] 54) :: (S4 ++ (S7 ++ (J ++ (K ++ (M ++ [])))))))) ∧ mS (fun (x : kA) => (.agg (kC x).toArray)) (mx Value.string (fun (x : Bool) => (Value.bool x))) q r.1 S4 ∧ kZ 108 kG 9 s r.2.1 S7 ∧ mS (fun (x : kA) => (.agg (kC x).toArray)) (kZ 108 kG 9) A r.2.2.1 J ∧ mS Value.string (kZ 108 kG 9) U r.2.2.2.1 K ∧ qS 38 kO 3 Y r.2.2.2.2.1 M) := by
 refine tT 8 func73 rfl (fun d => sg ?_)
 obtain ⟨A1, c2, rfl⟩ := y.form
 obtain ⟨A3, c4, rfl⟩ := z.form
 obtain ⟨A5, c6, rfl⟩ := u.form
 obtain ⟨A7, c8, rfl⟩ := G.form
 obtain ⟨A9, c1, rfl⟩ := B.form
 obtain ⟨a7, c3, rfl⟩ := D.form
 refine VE (lF d rfl (fun e6 N d => Wa (lr (Wf Dw (VB d Mh rfl rfl gZ (bS hm fun f0 E hm => ?_))))))
 refine VE (IG d (du _) call47 (fun _ _ _ _ => (Kc (.slice A5 i.lL.length c6) i.lL _ _ (u.mono (Pl.mono _) d.kN) E)) (fun e7 f1 f2 e5 d d6 o h Z => ?_) (L0 := []))
 obtain ⟨I, c7, a9, c9, P, d1, R, d2, W, d3, b5, H, rfl, a2, a3, a4, a5, L⟩ := Z
 replace H := H.symm; subst H
 replace d := d.perm (Tb (Tr (Tr (Tr (Tr (Tr Tn))))))
 refine VE (lD d zeroValue101 (fun e8 T d => VO (lh (.pointer (some ⟨I, 0, none⟩)) (#[(.pointer (some ⟨I, 0, none⟩))]) d rfl rfl sizeOf101 oc nb rfl (fun e9 d => lr (V (tX (by exact pM rfl rfl) rfl) (Wa (lt ?_)))))))
 obtain rfl := sj hm
 exact lQ (v := (.func (.func 144) #[] #[(.pointer (some ⟨T, 0, none⟩)), (.pointer (some ⟨N, 0, none⟩))])) rfl rfl ⟨_, _, rfl, (d.NP (Kb (Kb (Sb (Pr (Pr (Pr (Pr (Pr Pz))))) (Kr (Kr (Kr (Kr (Kr Sn))))))))), T, I, c7, a9, c9, P, d1, R, d2, W, d3, b5, N, rfl, rfl, a2, a3, a4, a5, L⟩
theorem Gt (T : Formula → Int → Option (Int × Int)) (q : ∀ (t : Formula) (j : Value) (I : Int) (r : (Int × Int)) (w : World) (g : Sl la 5 (hp w) j t.Kids), T t I = some r → lg false pg0 211 [(.agg #[(.int .i64 t.Op), (.int .i64 t.K), (.string t.kA.kI), (.string t.kA.kU), j]), (.int .i64 I)] w (.tuple #[(.int .i64 r.1), (.int .i64 r.2)])) (t : Formula) (j : Value) (I : Int) (r : (Int × Int)) (w : World) (g : Sl la 5 (hp w) j t.Kids) (hm : xO T t I = some r) :
  lg false pg0 211 [(.agg #[(.int .i64 t.Op), (.int .i64 t.K), (.string t.kA.kI), (.string t.kA.kU), j]), (.int .i64 I)] w (.tuple #[(.int .i64 r.1), (.int .i64 r.2)]) := by
 refine cG 40 func211 rfl (fun d => sg ?_)
 obtain ⟨A1, c2, rfl⟩ := g.form
 refine VE (lF d rfl (fun W4 b3 d => Wa (Wa (lr (Wa (Wa (lS (Wf ux ?_))))))))
 refine VB d Mh rfl rfl fe (V (lJ bZ rfl g) (Wm (ln ?_)))
 replace d := d.kD (Db St)
 refine CJ hm (fun Q E W => ∃ a2, ST false lu w W (hp w) a2 ∧ E 6 = (.int .i64 Q.1) ∧ E 7 = (.int .i64 Q.2)) (fun Q a5 => ?_) ?_
 ·refine lz (fun i E W => ∃ y z J, (E 15 = .int .i64 (i : Nat) ∧ E 14 = .int .i64 (t.Kids.length : Nat)) ∧ ST false lu w W (hp w) J ∧ E 1 = (.int .i64 I) ∧ E 6 = (.int .i64 y) ∧ E 7 = (.int .i64 z) ∧ E 13 = (.slice A1 t.Kids.length c2) ∧ qt I T (t.Kids.drop i) y z = some Q) t.Kids.length g.len ⟨1, 0, _, ⟨rfl, rfl⟩, (d.kD St), rfl, rfl, rfl, rfl, a5⟩ dc dc dc (fun _ _ _ h => by obtain ⟨_, _, _, n, _⟩ := h; exact n) ?_ ?_
  ·rintro R E W a3 ⟨y, z, J, ⟨m, o⟩, d, G, x, H, K, a⟩
   obtain ⟨c, c6, A, s, a9⟩ := ll a3
   rw [A] at a
   refine bg (VQ (sE (i := (R : Int)) (x0 := c) la.out bZ aZ K m g (aD _) s) (fun c4 ⟨_, ⟨c5, rfl, N⟩, Y⟩ => V (kE rfl (lO d.has Y cx aZ)) (VE (lD d dp (fun b9 c3 d => ?_)))))
   obtain ⟨B, D, rfl⟩ := N.form
   let a0 := (C1 c.Op c.K c.kA.kI c.kA.kU B c.Kids.length D)
   refine VO (lh (.agg a0.toArray) (a0.toArray) d rfl rfl aZ oc nb rfl (fun c0 d => lS (Wh x (Wh G (Wi rfl (ln (CI a rfl (fun U a => ?_) (fun U a => ?_))))))))
   ·refine ot (nT (XV (by simp) (nT (uj (kK ?_)))))
    obtain rfl := sj a
    exact ⟨_, (d.kD (Db St)), x, H⟩
   refine kg (VA d Mh a0 cx aZ (Wh G (Wh x (Wi rfl (bS a fun M Z a => VE (Eg d call211 (q c (.slice B c.Kids.length D) (wi0 .i64 (I - y)) _ _ (N.mono lZ.mono d.kN) Z) (fun c1 d => Wm (Wx rfl (Wx rfl (Wa (Wa ?_)))))))))))
   refine ln ?_
   replace d := d.kD (Db St)
   exact kT (Wh x (Wm (Wi rfl (Wh H (Wm (V (Ot (k := .i64) rfl rfl) (Wa (Wa (lo (lA (kK ⟨m, (wi0 .i64 (y + M.1)), (if M.2 > z then M.2 else z), _, ⟨rfl, o⟩, (d.kD St), G, rfl, rfl, K, (by rw [a9]; exact a)⟩)))))))))))
  rintro E W ⟨y, z, J, ⟨m, o⟩, d, G, x, H, K, a⟩
  rw [aG] at a
  refine kK ?_
  obtain rfl := sj a
  exact ⟨_, (d.kD St), x, H⟩
 rintro ⟨b6, b7⟩ E W ⟨a2, d, L, P⟩ a4
 refine sg (Wh L (Wh P (Wi rfl (Wa (Wa (lt ?_))))))
 obtain rfl := sj a4
 exact uk (v := (.int .i64 b6)) (u := (.int .i64 (wi0 .i64 (b7 + 1)))) rfl rfl rfl ⟨rfl, d.ex⟩
theorem Eb : ∀ (n : Nat) (c : Formula) (a : Value) (i : Int) (r : (Int × Int)) (w : World) (g : Sl la 5 (hp w) a c.Kids) (_ : pj n c i = some r),
  lg false pg0 211 [(.agg #[(.int .i64 c.Op), (.int .i64 c.K), (.string c.kA.kI), (.string c.kA.kU), a]), (.int .i64 i)] w (.tuple #[(.int .i64 r.1), (.int .i64 r.2)])
 | 0 => by intros; rename_i h; simp only [pj] at h; cases h
 | n + 1 => Gt (pj n) (Eb n)
theorem Ky (a : Formula) (g : Value) (r : (Int × Int)) (w : World) (c : Sl la 5 (hp w) g a.Kids) (hm : zy a = some r) :
  lg false pg0 174 [(.agg #[(.int .i64 a.Op), (.int .i64 a.K), (.string a.kA.kI), (.string a.kA.kU), g])] w (.tuple #[(.int .i64 r.1), (.int .i64 r.2)]) := by
 refine cG 15 func174 rfl (fun d => sg ?_)
 obtain ⟨i, j, rfl⟩ := c.form
 refine VE (lF d rfl (fun y B d => Wa (Wa (lr (VA d Mh (C1 a.Op a.K a.kA.kI a.kA.kU i a.Kids.length j) cx aZ (bS hm fun x t hm => VE (Eg d call211 ((Eb lE) a (.slice i a.Kids.length j) 4096 _ _ (c.mono lZ.mono d.kN) t) (fun z d => Wm (Wx rfl (Wx rfl (Wa (Wa ?_))))))))))))
 refine ln ?_
 replace d := d.kD (Db St)
 refine kV (sg (Wm (Wi rfl (ln (CI hm rfl (fun k hm => ?_) (fun k hm => ?_))))))
 ·refine sg (Wa (Wa (lt (lm ?_))))
  obtain rfl := sj hm
  exact uk (v := (.int .i64 0)) (u := (.int .i64 0)) rfl rfl rfl ⟨rfl, d.ex⟩
 refine kg (Wm (Wm (Wa (Wa (lt ?_)))))
 obtain rfl := sj hm
 exact uk (v := (.int .i64 x.1)) (u := (.int .i64 x.2)) rfl rfl rfl ⟨rfl, d.ex⟩
theorem Kq (a : Formula) (H : Value) (r : Bool) (w : World) (t : Sl la 5 (hp w) H a.Kids) (hm : zt a = some r) :
  lg true pg0 212 [(.agg #[(.int .i64 a.Op), (.int .i64 a.K), (.string a.kA.kI), (.string a.kA.kU), H])] w (.bool r) := by
 refine cG 63 func212 rfl (fun d => sg ?_)
 obtain ⟨A1, c2, rfl⟩ := t.form
 let n := (C1 a.Op a.K a.kA.kI a.kA.kU A1 a.Kids.length c2)
 refine VE (lF d rfl (fun W4 N d => Wa (lr (V (nm (v := (.agg (kC K0).toArray)) vj (mE bQ cI (Hn _ cI) kr)) (VE (lD d bQ (fun W6 P d => VO (lh (.agg (kC K0).toArray) ((kC K0).toArray) d rfl rfl aC (mH K0) nb rfl (fun W7 d => lS (Wf wY ?_))))))))))
 refine VB d (Mt Mh) rfl rfl cH (ln (bg (Wi rfl (Wa (ln (CI hm rfl (fun d9 hm => ?_) (fun d9 hm => ?_)))))))
 ·refine sg (Wf yM (VA d (Mt Mh) (kC a.kA) aO aC (bS hm fun f7 e5 hm => VE (Eg d jE (sM a.kA _ _  e5) (fun f5 d => Wm (LJ hm (fun d2 E W => ∃ c4, ST true lu w W (hp w) ((N, Ol n 57) :: c4) ∧ E 1 = (.pointer (some ⟨N, 0, none⟩)) ∧ E 2 = (.bool false) ∧ E 17 = (.bool d2)) 5 ?_ (fun d2 J a4 => ?_)))))))
  ·rintro f8 E W ⟨c4, d, e7, c9, e8⟩ e1
   refine Wh e8 (LJ e1 (fun d1 E W => ∃ c5, ST true lu w W (hp w) c5 ∧ E 2 = (.bool false) ∧ E 22 = (.bool d1)) 4 ?_ (fun d1 I a3 => ?_))
   ·rintro f9 E W ⟨c5, d, f6, e9⟩ e2
    refine Wg e9 (lt (mu (lm ?_)))
    obtain rfl := sj e2
    exact rP d
   refine bC I (fun u I => ?_) (fun u I => ?_)
   ·refine ug u (kH Ad e7) (ug u (kE rfl (kR d.has Mh rfl cH)) (ug u (lK rfl rfl rfl) (V (kX (cB u) rfl) ?_)))
    obtain rfl := sj I
    exact a3 _ _ ⟨_, (d.kD (Db St)), c9, rfl⟩
   refine un u (un u (un u (V (kW (cB u) rfl) ?_)))
   obtain rfl := sj I
   exact a3 _ _ ⟨_, (d.kD (Db St)), c9, rfl⟩
  refine bC J (fun j J => ?_) (fun j J => ?_)
  ·refine ug j (kH ux rfl) (ug j (kE rfl (kR d.has (Mt Mh) rfl fe)) (ug j (lJ bZ rfl t) (ug j (lK rfl rfl rfl) (V (kX (cB j) rfl) ?_))))
   obtain rfl := sj J
   exact a4 _ _ ⟨_, (d.kD (Db St)), rfl, rfl, rfl⟩
  refine un j (un j (un j (un j (V (kW (cB j) rfl) ?_))))
  obtain rfl := sj J
  exact a4 _ _ ⟨_, (d.kD (Db St)), rfl, rfl, rfl⟩
 let a0 := (n.toArray : Array Value)
 let h : Value := (.pointer (some ⟨N, 0, none⟩))
 refine kV (CJ hm (fun b7 E W => ∃ c6, ST true lu w W (hp w) ((P, Ol (kC K0) 28) :: ((N, Obj.cells a0 57 (0, 0)) :: c6)) ∧ E 1 = h ∧ E 3 = (.pointer (some ⟨P, 0, none⟩)) ∧ E 23 = (.bool b7)) (fun b7 G => ?_) ?_)
 ·refine sg (Wi rfl (Wa (ln (CI G rfl (fun b9 G => ?_) (fun b9 G => ?_)))))
  ·refine kn ?_
   obtain rfl := sj G
   exact ⟨_, (d.kD St), rfl, rfl, rfl⟩
  refine kT (Wi rfl (Wa (ln ?_)))
  obtain rfl := sj G
  exact ⟨_, (d.kD St), rfl, rfl, rfl⟩
 rintro g0 E W ⟨c6, d, Q, d0, f0⟩ K
 refine CI K f0 (fun e0 K => ?_) (fun e0 K => ?_)
 ·refine sg (V (kH yM Q) (VA d (Mt Mh) (kC a.kA) aO aC (V (kE d0 (kL d.has Mh (kC K0) rfl aO aC)) (V (vt rfl rfl (ns cY) (qH (ob _ a.kA K0))) (Wm (LJ K (fun d3 E W => ∃ c7, ST true lu w W (hp w) c7 ∧ E 34 = (.bool d3)) 4 ?_ (fun d3 M a5 => ?_)))))))
  ·rintro g1 E W ⟨c7, d, f1⟩ e3
   refine Wg f1 (lt (mu (lm ?_)))
   obtain rfl := sj e3
   exact rP d
  refine bC M (fun x M => ?_) (fun x M => ?_)
  ·refine ug x (kH Ad Q) (ug x (kE rfl (kR d.has (Mt Mh) rfl cH)) (ug x (lK rfl rfl rfl) (V (kX (cB x) rfl) ?_)))
   obtain rfl := sj M
   exact a5 _ _ ⟨_, (d.kD (Db (Db St))), rfl⟩
  refine un x (un x (un x (V (kW (cB x) rfl) ?_)))
  obtain rfl := sj M
  exact a5 _ _ ⟨_, (d.kD (Db (Db St))), rfl⟩
 refine lG (lA (kK (sg (V (kH wY Q) (VB d (Mt Mh) rfl rfl cH (Wi rfl (Wm (LJ K (fun R E W => ∃ c8, ST true lu w W (hp w) ((N, Obj.cells a0 57 (0, 0)) :: c8) ∧ E 1 = h ∧ E 43 = (.bool R)) 5 ?_ (fun R D m => ?_)))))))))
 ·rintro g2 E W ⟨c8, d, a2, d4⟩ e4
  refine Wh d4 (LJ e4 (fun L E W => ∃ o, ST true lu w W (hp w) ((N, Obj.cells a0 57 (0, 0)) :: o) ∧ E 1 = h ∧ E 48 = (.bool L)) 4 ?_ (fun L B Z => ?_))
  ·rintro f2 E W ⟨o, d, T, d5⟩ c0
   refine Wh d5 (LJ c0 (fun A E W => ∃ a9, ST true lu w W (hp w) ((N, Obj.cells a0 57 (0, 0)) :: a9) ∧ E 1 = h ∧ E 56 = (.bool A)) 7 ?_ (fun A z Y => ?_))
   ·rintro f3 E W ⟨a9, d, d6, d7⟩ c1
    refine Wh d7 (LJ c1 (fun s E W => ∃ q, ST true lu w W (hp w) q ∧ E 62 = (.bool s)) 5 ?_ (fun s y U => ?_))
    ·rintro f4 E W ⟨q, d, d8⟩ c3
     exact Wg d8 (lt (rQ c3 d))
    refine bC y (fun g y => ?_) (fun g y => ?_)
    ·refine ug g (kH ux d6) (ug g (kE rfl (kR d.has Mh rfl fe)) (ug g (lJ bZ rfl t) (ug g (lK rfl rfl rfl) (V (kX (cB g) rfl) ?_))))
     obtain rfl := sj y
     exact U _ _ ⟨_, (d.kD (Db St)), rfl⟩
    refine un g (un g (un g (un g (V (kW (cB g) rfl) ?_))))
    obtain rfl := sj y
    exact U _ _ ⟨_, (d.kD (Db St)), rfl⟩
   refine bC z (fun c z => ?_) (fun c z => ?_)
   ·refine ug c (kH Ad T) (ug c (kE rfl (kR d.has Mh rfl cH)) (ug c (kH ux T) (ug c (kE rfl (kR d.has Mh rfl fe)) (ug c (lJ bZ rfl t) (ug c (lK rfl rfl rfl) (V (kX (cB c) rfl) ?_))))))
    obtain rfl := sj z
    exact Y _ _ ⟨_, (d.kD St), T, rfl⟩
   refine un c (un c (un c (un c (un c (un c (V (kW (cB c) rfl) ?_))))))
   obtain rfl := sj z
   exact Y _ _ ⟨_, (d.kD St), T, rfl⟩
  refine bC B (fun i B => ?_) (fun i B => ?_)
  ·refine ug i (kH Ad a2) (ug i (kE rfl (kR d.has Mh rfl cH)) (ug i (lK rfl rfl rfl) (V (kX (cB i) rfl) ?_)))
   obtain rfl := sj B
   exact Z _ _ ⟨_, (d.kD St), a2, rfl⟩
  refine un i (un i (un i (V (kW (cB i) rfl) ?_)))
  obtain rfl := sj B
  exact Z _ _ ⟨_, (d.kD St), a2, rfl⟩
 refine bC D (fun k D => ?_) (fun k D => ?_)
 ·refine ug k (kH yM Q) (ug k (kE rfl (kL d.has (Mt Mh) (kC a.kA) rfl aO aC)) (ug k (kE d0 (kL d.has Mh (kC K0) rfl aO aC)) (ug k (vt rfl rfl (ns cY) (qH (ob _ a.kA K0))) (V (kX (cB k) rfl) ?_))))
  obtain rfl := sj D
  exact m _ _ ⟨_, (d.kD (Db St)), Q, rfl⟩
 refine un k (un k (un k (un k (V (kW (cB k) rfl) ?_))))
 obtain rfl := sj D
 exact m _ _ ⟨_, (d.kD (Db St)), Q, rfl⟩
theorem Ct (g : Value) (t : List Formula) (j : Value) (z : Formula → Option Bool) (r : Int) (w : World) (c : Sl la 5 (hp w) g t) (B : Lx pg0 j (hp w) (OE la) (fun (r : Bool) => (.bool r)) z) (hm : uW t z = some r) :
  lg false pg0 253 [g, j] w (.int .i64 r) := by
 refine cG 19 func253 rfl (fun d => sg (Wa (lS (Wm (V (lJ bZ rfl c) (Wm (ln (lz (fun i E W => ∃ k, (E 8 = .int .i64 (i : Nat) ∧ E 7 = .int .i64 (t.length : Nat)) ∧ ST false lu w W (hp w) k ∧ E 0 = g ∧ E 1 = j ∧ nS z (t.drop i) i = some r) t.length c.len ⟨_, ⟨rfl, rfl⟩, (d.kD St), rfl, rfl, hm⟩ dc dc dc (fun _ _ _ h => by obtain ⟨_, n, _⟩ := h; exact n) ?_ ?_))))))))
 ·rintro Q E W G ⟨k, ⟨m, o⟩, d, u, x, a⟩
  obtain ⟨y, U, M, K, N⟩ := ll G
  rw [M] at a
  refine bg (Wh m (Wa (lr (Wh x (Wh u (Wm (VQ (sE (i := (Q : Int)) (x0 := y) la.out bZ aZ rfl rfl c (aD _) K) (fun Z ⟨_, ⟨T, rfl, J⟩, H⟩ => V (kE rfl (lO d.has H cx aZ)) (bS a fun q I a => ?_)))))))))
  refine VE (Yr y d B (lb.refl _) (OE.mk lZ (la.mk ⟨T, rfl, J⟩) d.kN) rfl (pz rfl) I (fun Y d => ln (CI a rfl (fun D a => ?_) (fun D a => ?_))))
  ·refine sg (Wm (Wa (lt (mu (lm (mu (lm ?_)))))))
   obtain rfl := sj a
   exact rP d
  exact lG (lA (kK ⟨m, _, ⟨rfl, o⟩, (d.kD St), u, x, (by rw [N]; exact a)⟩))
 rintro E W ⟨k, ⟨m, o⟩, d, u, x, a⟩
 rw [aG] at a
 exact kK (sg (Wa (lt (rQ a d))))
theorem Bw (a : Value) (g : List Formula) (c : Value) (i : Formula → Option Bool) (r : Bool) (w : World) (j : Sl la 5 (hp w) a g) (k : Lx pg0 c (hp w) (OE la) (fun (r : Bool) => (.bool r)) i) (hm : oQ g i = some r) :
  lg false pg0 213 [a, c] w (.bool r) := by
 refine cG 9 func213 rfl (fun d => sg (Wa (lr (Wm (Wm (bS hm fun x t hm => VE (Eg d call253 (Ct a g c i _ _ (j.mono lZ.mono d.kN) (k.mono d.kN) t) (fun u d => Wi rfl (Wa (lo ?_))))))))))
 exact kK (lx (rQ hm d))
theorem Hf (i : Formula → Option Bool) (t : ∀ (c : Formula) (a : Value) (r : Bool) (w : World) (g : Sl la 5 (hp w) a c.Kids), i c = some r → lg false pg0 175 [(.agg #[(.int .i64 c.Op), (.int .i64 c.K), (.string c.kA.kI), (.string c.kA.kU), a])] w (.bool r)) (c : Formula) (a : Value) (r : Bool) (w : World) (g : Sl la 5 (hp w) a c.Kids) (hm : wM i c = some r) :
  lg false pg0 214 [(.agg #[(.int .i64 c.Op), (.int .i64 c.K), (.string c.kA.kI), (.string c.kA.kU), a])] w (.bool r) := by
 refine cG 6 func214 rfl (fun d => sg ?_)
 obtain ⟨j, k, rfl⟩ := g.form
 refine VE (lF d rfl (fun x z d => Wa (lr (VA d Mh (C1 c.Op c.K c.kA.kI c.kA.kU j c.Kids.length k) cx aZ (bS hm fun B u hm => VE (Eg d call175 (t c (.slice j c.Kids.length k) _ _ (g.mono lZ.mono d.kN) u) (fun y d => V (nr rfl) (Wa (ln ?_)))))))))
 exact lx (rQ hm d)
theorem FW (z : Formula → Option Bool) (T : ∀ (a : Formula) (g : Value) (r : Bool) (w : World) (c : Sl la 5 (hp w) g a.Kids), z a = some r → lg false pg0 175 [(.agg #[(.int .i64 a.Op), (.int .i64 a.K), (.string a.kA.kI), (.string a.kA.kU), g])] w (.bool r)) (a : Formula) (g : Value) (r : Bool) (w : World) (c : Sl la 5 (hp w) g a.Kids) (hm : xR z a = some r) :
  lg false pg0 175 [(.agg #[(.int .i64 a.Op), (.int .i64 a.K), (.string a.kA.kI), (.string a.kA.kU), g])] w (.bool r) := by
 refine cG 17 func175 rfl (fun d => sg ?_)
 obtain ⟨B, D, rfl⟩ := c.form
 let a0 := (C1 a.Op a.K a.kA.kI a.kA.kU B a.Kids.length D)
 refine VE (lF d rfl (fun W4 U d => Wa (lr (VA d Mh a0 cx aZ (bS hm fun L a3 hm => VE (Eg d call212 (lg.mz (Kq a (.slice B a.Kids.length D) _ _ (c.mono lZ.mono d.kN) a3)) (fun W7 d => Wm (LJ hm (fun K E W => ∃ G, ST false lu w W (hp w) ((U, Ol a0 57) :: G) ∧ E 1 = (.pointer (some ⟨U, 0, none⟩)) ∧ E 2 = (.bool false) ∧ E 10 = (.bool K)) 5 ?_ (fun K t y => ?_)))))))))
 ·rintro P E W ⟨G, d, Y, I, Z⟩ M
  refine Wh Z (LJ M (fun J E W => ∃ H, ST false lu w W (hp w) H ∧ E 2 = (.bool false) ∧ E 16 = (.bool J)) 5 ?_ (fun J k u => ?_))
  ·rintro v E W ⟨H, d, q, h⟩ N
   exact Wg h (lt (rQ N d))
  refine bC k (fun i k => ?_) (fun i k => ?_)
  ·refine ug i (kH ux Y) (ug i (kE rfl (kR d.has Mh rfl fe)) (bS k fun s Q k => qy i (Eg d call213 (Bw (.slice B a.Kids.length D) a.Kids (.func (.func 214) #[] #[]) (fun (x : Formula) => wM z x) _ _ (c.mono lZ.mono d.kN) ⟨214, #[], #[], rfl, call214, fun W x vs r A m hm => by obtain ⟨_, rfl, a2⟩ := m; obtain ⟨o, rfl, n⟩ := a2.out; exact Hf z T x o r W n hm⟩ Q) (fun a5 d => ug i (nr rfl) (V (kX (cB i) rfl) ?_)))))
   obtain rfl := sj k
   exact u _ _ ⟨_, (d.kD (Db St)), I, rfl⟩
  refine un i (un i (un i (un i (V (kW (cB i) rfl) ?_))))
  obtain rfl := sj k
  exact u _ _ ⟨_, (d.kD (Db St)), I, rfl⟩
 refine bC t (fun j t => ?_) (fun j t => ?_)
 ·refine ug j (kH ux rfl) (ug j (kE rfl (kR d.has Mh rfl fe)) (ug j (lJ bZ rfl c) (ug j (lK rfl rfl rfl) (V (kX (cB j) rfl) ?_))))
  obtain rfl := sj t
  exact y _ _ ⟨_, (d.kD St), rfl, rfl, rfl⟩
 refine un j (un j (un j (un j (V (kW (cB j) rfl) ?_))))
 obtain rfl := sj t
 exact y _ _ ⟨_, (d.kD St), rfl, rfl, rfl⟩
theorem Ep : ∀ (n : Nat) (c : Formula) (a : Value) (r : Bool) (w : World) (g : Sl la 5 (hp w) a c.Kids) (_ : sN n c = some r),
  lg false pg0 175 [(.agg #[(.int .i64 c.Op), (.int .i64 c.K), (.string c.kA.kI), (.string c.kA.kU), a])] w (.bool r)
 | 0 => by intros; rename_i h; simp only [sN] at h; cases h
 | n + 1 => FW (sN n) (Ep n)
theorem D8 (a : Formula) (k : Value) (r : Bool) (w : World) (c : Sl la 5 (hp w) k a.Kids) (hm : qV a = some r) :
  lg false pg0 110 [(.agg #[(.int .i64 a.Op), (.int .i64 a.K), (.string a.kA.kI), (.string a.kA.kU), k])] w (.bool r) := by
 refine cG 24 func110 rfl (fun d => sg ?_)
 obtain ⟨y, z, rfl⟩ := c.form
 let a0 := (C1 a.Op a.K a.kA.kI a.kA.kU y a.Kids.length z)
 refine VE (lF d rfl (fun W4 H d => Wa (lr (VA d Mh a0 cx aZ (bS hm fun q a9 hm => VE (Eg d call174 (Ky a (.slice y a.Kids.length z) _ _ (c.mono lZ.mono d.kN) a9) (fun W7 d => Wm (Wx rfl (Wx rfl (Wa (Wa (lo ?_))))))))))))
 refine kK (sg (Wm (Wi rfl (Wm (LJ hm (fun Y E W => ∃ I, ST false lu w W (hp w) ((H, Ol a0 57) :: I) ∧ E 1 = (.pointer (some ⟨H, 0, none⟩)) ∧ E 2 = (.bool false) ∧ E 4 = (.int .i64 q.2) ∧ E 15 = (.bool Y)) 3 ?_ (fun Y x G => ?_))))))
 ·rintro R E W ⟨I, d, M, N, a4, a5⟩ Z
  refine Wh a5 (LJ Z (fun U E W => ∃ J, ST false lu w W (hp w) ((H, Ol a0 57) :: J) ∧ E 1 = (.pointer (some ⟨H, 0, none⟩)) ∧ E 2 = (.bool false) ∧ E 19 = (.bool U)) 3 ?_ (fun U u D => ?_))
  ·rintro L E W ⟨J, d, m, Q, n⟩ h
   refine Wh n (LJ h (fun T E W => ∃ K, ST false lu w W (hp w) K ∧ E 2 = (.bool false) ∧ E 23 = (.bool T)) 3 ?_ (fun T j B => ?_))
   ·rintro P E W ⟨K, d, v, o⟩ a2
    exact Wg o (lt (rQ a2 d))
   refine bC j (fun i j => ?_) (fun i j => ?_)
   ·refine ug i (kE m (kL d.has Mh a0 rfl cx aZ)) (bS j fun A a3 j => qy i (Eg d call175 ((Ep lE) a (.slice y a.Kids.length z) _ _ (c.mono lZ.mono d.kN) a3) (fun s d => V (kX (cB i) rfl) ?_)))
    obtain rfl := sj j
    exact B _ _ ⟨_, (d.kD (Db St)), Q, rfl⟩
   refine un i (un i (V (kW (cB i) rfl) ?_))
   obtain rfl := sj j
   exact B _ _ ⟨_, (d.kD (Db St)), Q, rfl⟩
  refine bC u (fun g u => ?_) (fun g u => ?_)
  ·refine ug g (kM a4) (ug g (lK rfl rfl rfl) (V (kX (cB g) rfl) ?_))
   obtain rfl := sj u
   exact D _ _ ⟨_, (d.kD St), M, N, rfl⟩
  refine un g (un g (V (kW (cB g) rfl) ?_))
  obtain rfl := sj u
  exact D _ _ ⟨_, (d.kD St), M, N, rfl⟩
 refine bC x (fun t x => ?_) (fun t x => ?_)
 ·refine ug t (kM rfl) (ug t (lK rfl rfl rfl) (V (kX (cB t) rfl) ?_))
  obtain rfl := sj x
  exact G _ _ ⟨_, (d.kD St), rfl, rfl, rfl, rfl⟩
 refine un t (un t (V (kW (cB t) rfl) ?_))
 obtain rfl := sj x
 exact G _ _ ⟨_, (d.kD St), rfl, rfl, rfl, rfl⟩
theorem Gj (N : Formula → Option (List kA)) (P : ∀ (g : Formula) (k : Value) (r : List kA) (w : World) (j : Sl la 5 (hp w) k g.Kids), N g = some r → lT false pg0 243 [(.agg #[(.int .i64 g.Op), (.int .i64 g.K), (.string g.kA.kI), (.string g.kA.kU), k])] w 28 kC 2 r) (g : Formula) (k : Value) (r : List kA) (w : World) (j : Sl la 5 (hp w) k g.Kids) (hm : xM N g = some r) :
  lT false pg0 243 [(.agg #[(.int .i64 g.Op), (.int .i64 g.K), (.string g.kA.kI), (.string g.kA.kU), k])] w 28 kC 2 r := by
 refine tT 25 func243 rfl (fun d => sg ?_)
 obtain ⟨A1, c2, rfl⟩ := j.form
 refine VE (lF d rfl (fun W4 b3 d => Wa (lS (Wf wY (VB d Mh rfl rfl cH (Wi rfl (ln (CI hm rfl (fun b7 hm => ?_) (fun b7 hm => ?_)))))))))
 ·refine sg (Wf yM (VA d Mh (kC g.kA) aO aC (VE (lj (cs := (kC g.kA).toArray) d (mN rfl) (mJ aF aC bQ) (fun W7 s d => Wa (ln ?_))))))
  replace d := d.kD (Kb (Db St))
  refine lx (lm ?_)
  obtain rfl := sj hm
  exact lQ (v := (.slice (some ⟨s, 0, none⟩) 1 1)) rfl rfl ⟨_, [(s, Ol (kC g.kA) 28)], rfl, d.mV (fun p m => by rw [aN] at m; subst m; exact Mh) (by simp), (kZ.lit (l := [g.kA]) (enc := kC) rfl dc rfl rfl)⟩
 refine kg (Wa (lS (Wf ux (VB d Mh rfl rfl fe (V (lJ bZ rfl j) (Wm (lo ?_)))))))
 refine kK ?_
 replace d := d.kD (Db St)
 refine lz (fun i E W => ∃ u D t G H, (E 15 = .int .i64 (i : Nat) ∧ E 14 = .int .i64 (g.Kids.length : Nat)) ∧ lb (hp w) G ∧ ST false lu w W G (t ++ H) ∧ E 3 = u ∧ E 13 = (.slice A1 g.Kids.length c2) ∧ kZ 28 kC 2 u D t ∧ rW N (g.Kids.drop i) D = some r) g.Kids.length j.len ⟨(.slice none 0 0), ([]), [], (hp w), _, ⟨rfl, rfl⟩, (lb.refl _), (d.kD St), rfl, rfl, (kZ.nil _ _ _), hm⟩ dc dc dc (fun _ _ _ h => by obtain ⟨_, _, _, _, _, o, _⟩ := h; exact o) ?_ ?_
 ·rintro a7 E W Y ⟨u, D, t, G, H, ⟨n, A⟩, y, d, I, J, x, c⟩
  obtain ⟨a, b9, a3, a2, a4⟩ := ll Y
  rw [a3] at c
  refine bg (VQ (sE (i := (a7 : Int)) (x0 := a) la.out bZ aZ J n (j.mono lZ.mono y) (aD _) a2) (fun c7 ⟨_, ⟨c9, rfl, K⟩, Z⟩ => V (kE rfl (lO d.has Z cx aZ)) (VE (lD d dp (fun c1 c6 d => ?_)))))
  obtain ⟨z, B, rfl⟩ := K.form
  let a0 := (C1 a.Op a.K a.kA.kI a.kA.kU z a.Kids.length B)
  refine VO (lh (.agg a0.toArray) (a0.toArray) d rfl rfl aZ oc nb rfl (fun c3 d => ln (kT (Wh I (VA d Mh a0 cx aZ (bS c fun c8 L c => VE (qu d call243 (P a (.slice z a.Kids.length B) _ _ (K.mono lZ.mono d.kN) L) (fun c4 a9 b1 c0 d M q Q => ?_))))))))
  replace d := d.perm (Nr (Qr (Qb Qz)) Nz)
  refine bS c fun a8 U c => VE (mD (enc := kC) (v := u) (vs := a9) (R := t) d my dc mH aF mw.1 mw.2.1 rfl mw.2.2.1 mw.2.2.2 rfl rfl x (Q.Sx my d (fun p m => (Ma (Ml m)))) U (fun c5 b0 a5 d T => Wa (lo (lA (kK ?_)))))
  replace d := d.kD (Kr (Dr (Db St)))
  exact ⟨n, b0, a8, a5, b1, _, ⟨rfl, A⟩, (y.trans M), (d.kD St), rfl, J, T, (by rw [a4]; exact c)⟩
 rintro E W ⟨u, D, t, G, H, ⟨n, A⟩, y, d, I, J, x, c⟩
 rw [aG] at c
 refine kK (sg (Wh I (Wa (lt ?_))))
 obtain rfl := sj c
 exact lQ (v := u) rfl rfl ⟨_, t, rfl, d.mV (fun p m => (Ml m)) x.nd, x⟩
theorem Eo : ∀ (n : Nat) (c : Formula) (a : Value) (r : List kA) (w : World) (g : Sl la 5 (hp w) a c.Kids) (_ : su n c = some r),
  lT false pg0 243 [(.agg #[(.int .i64 c.Op), (.int .i64 c.K), (.string c.kA.kI), (.string c.kA.kU), a])] w 28 kC 2 r
 | 0 => by intros; rename_i h; simp only [su] at h; cases h
 | n + 1 => Gj (su n) (Eo n)
theorem GZ (g : Value) (i r : List kA) (w : World) (a : Sl (Pl kC) 2 (hp w) g i) (hm : tj i = some r) :
  lT true pg0 274 [g] w 28 kC 2 r := by
 unfold tj at hm
 refine tT 8 func274 rfl (fun d => sg (Wa (lS (Wm ?_))))
 obtain ⟨y, B, rfl⟩ := a.form
 refine V (Ed aF rfl rfl) (ln ?_)
 rcases y with _ | z
 ·have u := a.isNil
  replace hm : some [] = some r := by rw [u] at hm; simpa [mM, maxLen] using hm
  refine zj (rfl) (sg (Wa (lt (lm ?_))))
  obtain rfl := sj hm
  exact lQ (v := (.slice none 0 0)) rfl rfl ⟨_, [], rfl, d.mV (fun p h => by cases h) (by simp), kZ.nil _ _ _⟩
 ·refine qx (rfl) (kg (VE (lj (cs := #[]) d vj (zK [] aF aC bQ dc rfl (by simp) rfl rfl) (fun G k d => Wm (bS hm fun H t hm => VE (mD (enc := kC) (v := (.slice (some ⟨k, 0, none⟩) 0 0)) (vs := (.slice (some z) i.length B)) (R := [(k, Ob #[] 28)]) d my dc mH aF mw.1 mw.2.1 rfl mw.2.2.1 mw.2.2.2 rfl rfl (kZ.lit (l := []) (enc := kC) rfl dc rfl rfl) (a.mono (Pl.mono _) d.kN) t (fun D x j d c => Wa (lt ?_))))))))
  obtain rfl := sj hm
  exact lQ (v := x) rfl rfl ⟨_, j, rfl, d.mV (fun p h => (Ml h)) c.nd, c⟩
theorem zL (g : Value) (t : List kA) (j : Value) (B : kA → Option Bool) (r : Int) (w : World) (c : Sl (Pl kC) 2 (hp w) g t) (D : tu pg0 j (hp w) (fun (x : kA) => [(.agg (kC x).toArray)]) (fun (r : Bool) => (.bool r)) B) (hm : pq t B = some r) :
  lg false pg0 197 [g, j] w (.int .i64 r) := by
 refine cG 19 func197 rfl (fun d => sg (Wa (lS (Wm (V (lJ aF rfl c) (Wm (ln (lz (fun i E W => ∃ k, (E 8 = .int .i64 (i : Nat) ∧ E 7 = .int .i64 (t.length : Nat)) ∧ ST false lu w W (hp w) k ∧ E 0 = g ∧ E 1 = j ∧ nl B (t.drop i) i = some r) t.length c.len ⟨_, ⟨rfl, rfl⟩, (d.kD St), rfl, rfl, hm⟩ dc dc dc (fun _ _ _ h => by obtain ⟨_, n, _⟩ := h; exact n) ?_ ?_))))))))
 ·rintro Q E W H ⟨k, ⟨m, o⟩, d, u, y, a⟩
  obtain ⟨z, T, M, K, N⟩ := ll H
  rw [M] at a
  refine bg (Wh m (Wa (lr (Wh y (Wh u (Wm (VQ (lY (enc := kC) (i := (Q : Int)) (x0 := z) aF aC rfl rfl c (aD _) K) (fun Y I => V (kE rfl (lO d.has I aO aC)) (bS a fun Z J a => ?_)))))))))
  refine VE (Bq z d D (lb.refl _) rfl (pz rfl) J (fun U d => ln (CI a rfl (fun G a => ?_) (fun G a => ?_))))
  ·refine sg (Wm (Wa (lt (mu (lm (mu (lm ?_)))))))
   obtain rfl := sj a
   exact rP d
  exact lG (lA (kK ⟨m, _, ⟨rfl, o⟩, (d.kD St), u, y, (by rw [N]; exact a)⟩))
 rintro E W ⟨k, ⟨m, o⟩, d, u, y, a⟩
 rw [aG] at a
 exact kK (sg (Wa (lt (rQ a d))))
theorem DX (j : Value) (a0 : List kA) (t : LO) (H : Value) (f1 : kA → Option Bool) (r : List kA) (w : World) {μ0 : lq} (h0 : pY μ0 (t ++ []) w) (T : kZ 28 kC 2 j a0 t) (a4 : tu pg0 H μ0 (fun (x : kA) => [(.agg (kC x).toArray)]) (fun (r : Bool) => (.bool r)) f1) (hm : so a0 f1 = some r) :
  mn false pg0 273 [j, H] w (t ++ []) (fun v L1 W' => ∃ s S2, v = s ∧ L1 = (S2 ++ []) ∧ kZ 28 kC 2 s r S2) := by
 refine zX h0 42 func273 rfl (fun d => sg (Wa (lr (Wm (Wm (bS hm fun q d3 hm => VE (Eg d call197 (zL j a0 H f1 _ _ (T.sl my (fun b o h => d.at_ (Ml h))) (a4.mono d.kN) d3) (fun W3 d => Wa (ln ?_)))))))))
 refine kV (sg (Wm (Wi rfl (ln (CI hm rfl (fun d2 hm => ?_) (fun d2 hm => ?_))))))
 ·refine sg (Wm (Wa (lt (lm ?_))))
  obtain rfl := sj hm
  exact lQ (v := j) rfl rfl ⟨_, _, rfl, (d.mQ (Kr Sn)), j, t, rfl, rfl, T⟩
 refine kS (Wm (Wi rfl (Wa (ln (mP (ou (fun m E W => ∃ U I B D a2, ST false (keys (t ++ [])) w W μ0 (I ++ a2) ∧ E 0 = j ∧ E 1 = H ∧ E 5 = (.int .i64 B) ∧ E 6 = (.int .i64 D) ∧ kZ 28 kC 2 j U I ∧ ol f1 m U B D = some r) lE ⟨a0, t, q, (wi0 .i64 (q + 1)), _, (d.kD St), rfl, rfl, rfl, rfl, T, hm⟩ ?_))))))
 rintro m E W ⟨U, I, B, D, a2, d, y, Q, G, K, g, a⟩
 cases m with
 | zero => rw [ol] at a; cases a
 | succ c8 =>
  refine kV (sg (Wh K (Wh y (V (mR aF rfl g) (Wi rfl (ln (CI a rfl (fun L a => ?_) (fun L a => ?_))))))))
  ·refine kn (kV (CJ a (fun Y E W => ∃ J a3, ST false (keys (t ++ [])) w W μ0 (J ++ a3) ∧ E 0 = j ∧ E 1 = H ∧ E 5 = (.int .i64 Y.2) ∧ E 6 = (.int .i64 D) ∧ kZ 28 kC 2 j Y.1 J) (fun Y c => ?_) ?_))
   ·refine bg (Wh y (Wh K (bS c fun k M c => VQ (mF (i := D) (x0 := k) aF aC rfl rfl g (mi M) (lR M)) (fun e4 b3 => V (kE rfl (oy d.has (fun p h => (Ml h)) g my b3 (lR M) aO aC)) (VE (lD d bQ (fun d7 e2 d => VO (lh (.agg (kC k).toArray) ((kC k).toArray) d rfl rfl aC (mH k) nb rfl (fun d8 d => lr (Wh Q ?_))))))))))
    refine VA d Mh (kC k) aO aC (bS c fun e6 b5 c => VE (Bq k d a4 (lb.refl _) rfl (pz rfl) b5 (fun d9 d => V (nr rfl) (ln (CI c rfl (fun P c => ?_) (fun P c => ?_))))))
    ·refine sg (Wh y (Wh G (VA d Mh (kC k) aO aC (bS c fun d0 N c => VQ (mF (i := B) (x0 := d0) aF aC rfl rfl g (mi N) (lR N)) (fun e5 b4 => ?_)))))
     replace d := d.perm (Nr (Qb Qz) Nz)
     refine VO (zi (u := (.agg (kC k).toArray)) (x1 := k)  d g my mH rfl rfl rfl b4 (lR N) aC (fun e0 c1 d A => ln ?_))
     replace d := d.kD (Kr (Db St))
     refine kT (Wh G (Wi rfl (Wa (lo (lA (kK ?_))))))
     obtain rfl := sj c
     exact ⟨c1, _, (d.kD St), y, Q, rfl, K, A⟩
    refine lG (lA (kK ?_))
    obtain rfl := sj c
    exact ⟨I, _, (d.kD (Db St)), y, Q, G, K, g⟩
   rintro ⟨c7, c9⟩ E W ⟨J, a3, d, c3, c4, c5, c6, b6⟩ R
   exact kT (Wh c6 (Wi rfl (Wa (ln ⟨c8, bT _, c7, J, c9, (wi0 .i64 (D + 1)), _, (d.kD St), c3, c4, c5, rfl, b6, R⟩))))
  refine ot (nT (nT (uj (kK (sg (Wh y (Wh G (bS a fun _ Z a => VQ (tW (i := B) aF aC rfl rfl g (qW Z) (qR Z)) (fun e7 b7 => VO (yr (z := K0)  d g my mH aF bQ b7 rfl rfl (fun e1 c2 d a9 => lr (Wh y ?_))))))))))))
  refine Wh G (bS a fun _ n a => VQ (um (i := B) aF aC rfl rfl a9 my (qW n) (qR n)) (fun a5 b9 => Wa (lt ?_)))
  obtain rfl := sj a
  exact lQ (v := a5) rfl rfl ⟨_, _, rfl, (d.mQ (Kr Sn)), a5, c2, rfl, rfl, b9⟩
theorem Mz (a : kA) (r : Bool) (w : World) (hm : Ay a = some r) :
  lg true pg0 275 [(.agg (kC a).toArray)] w (.bool r) := by
 refine cG 6 func275 rfl (fun d => sg (VE (lF d rfl (fun g j d => Wa (lr (VA d Mh (kC a) aO aC (bS hm fun k c hm => VE (Eg d jE (sM a _ _  c) (fun i d => V (nr rfl) (Wa (lo ?_)))))))))))
 refine kK ?_
 exact lx (rQ hm d)
theorem QX (c : Value) (k : List kA) (a : LO) (g : Value) (t : (kA × kA) → Option Int) (r : List kA) (w : World) {y : lq} (u : pY y (a ++ []) w) (i : kZ 28 kC 2 c k a) (j : II pg0 g y (fun (x : (kA × kA)) => [(.agg (kC x.1).toArray), (.agg (kC x.2).toArray)]) (fun (r : Int) => (.int .i64 r)) t) (hm : yF t k = some r) :
  mn true pg0 276 [c, g] w (a ++ []) (fun v z W' => ∃ S, v = (.tuple #[]) ∧ z = (S ++ []) ∧ kZ 28 kC 2 c r S) := IN (P := pg0) (ρ := SI) WA 2 aO aC kC my mH u.H u.S i j hm
theorem FP (j : Value) (a0 : List kA) (x : LO) (r : List kA) (w : World) {μ0 : lq} (h0 : pY μ0 (x ++ []) w) (B : kZ 28 kC 2 j a0 x) (hm : uS a0 = some r) :
  mn true pg0 277 [j] w (x ++ []) (fun v L1 W' => ∃ y1 S2, v = y1 ∧ L1 = (S2 ++ []) ∧ kZ 28 kC 2 y1 r S2) := by
 refine zX h0 61 func277 rfl (fun d => sg (Wa (lS (Wm (V (mR aF rfl B) (Wi rfl (ln (CI hm rfl (fun g0 hm => ?_) (fun g0 hm => ?_)))))))))
 ·refine sg (Wm (Wa (lt (lm ?_))))
  obtain rfl := sj hm
  exact lQ (v := j) rfl rfl ⟨_, _, rfl, (d.mQ (Kr Sn)), j, x, rfl, rfl, B⟩
 refine kS (Wa (ln (mP (ou (fun m E W => ∃ t b4, ST true (keys (x ++ [])) w W μ0 (x ++ b4) ∧ E 0 = j ∧ E 3 = (.int .i64 t) ∧ pf a0 m t = some r) lE ⟨1, _, (d.kD St), rfl, rfl, hm⟩ ?_))))
 rintro m E W ⟨t, b4, d, D, H, a⟩
 cases m with
 | zero => rw [pf] at a; cases a
 | succ f5 =>
  refine kV (sg (Wh H (Wh D (V (mR aF rfl B) (Wi rfl (ln (CI a rfl (fun d0 a => ?_) (fun d0 a => ?_))))))))
  ·refine kn (kV (mP (kV ?_)))
   replace d := d.drew
   have h := d.has.kD (Kr Sn)
   refine lN h lB (X 0 rfl h (kM D) (X 1 rfl h (kM H) (bS a fun c3 Z a => XQ 2 rfl h (mF (i := t) (x0 := c3) aF aC rfl rfl B (mi Z) (lR Z)) (fun g7 d6 => XH 3 rfl h (fun _ o => kE rfl (oy o (fun p n => (Ml n)) B my d6 (lR Z) aO aC)) (X 4 rfl h (kM D) (X 5 rfl h (kM H) (X 6 rfl h (lK rfl rfl rfl) (bS a fun c4 q a => XQ 7 rfl h (mF (i := (wi0 .i64 (t - 1))) (x0 := c4) aF aC rfl rfl B (mi q) (lR q)) (fun g8 d7 => XH 8 rfl h (fun _ o => kE rfl (oy o (fun p n => (Ml n)) B my d7 (lR q) aO aC)) (X 9 rfl h (vt rfl rfl (ns cY) (qH (ob _ c3 c4))) (me kr (kK ?_))))))))))))
   refine CI a rfl (fun d1 a => ?_) (fun d1 a => ?_)
   ·refine sg (Wh D (Wh H (bS a fun _ P a => VQ (tW (i := t) aF aC rfl rfl B (qW P) (qR P)) (fun c1 M => Wa (lS (Wa (ln ?_)))))))
    refine CJ a (fun U E W => ∃ s b5, ST true (keys (x ++ [])) w W μ0 (s ++ b5) ∧ E 0 = j ∧ E 3 = (.int .i64 U.2) ∧ kZ 28 kC 2 j U.1 s) (fun U d4 => ?_) ?_
    ·refine mP (ou (fun m E W => ∃ A K Y y b6, ST true (keys (x ++ [])) w W μ0 (K ++ b6) ∧ E 0 = j ∧ E 3 = (.int .i64 Y) ∧ E 4 = c1 ∧ E 5 = (.int .i64 y) ∧ kZ 28 kC 2 j A K ∧ oY t m A Y y = some U) lE ⟨a0, x, t, 1, _, (d.kD St), D, H, rfl, rfl, B, d4⟩ ?_)
     rintro m E W ⟨A, K, Y, y, b6, d, Q, T, I, J, g, k⟩
     cases m with
     | zero => rw [oY] at k; cases k
     | succ f6 =>
      refine kV (sg (Wh J (Wh I (V (Hd aF rfl M g) (Wi rfl (ln (CI k rfl (fun d2 k => ?_) (fun d2 k => ?_))))))))
      ·refine kn (kV (CJ k (fun L E W => ∃ N b7, ST true (keys (x ++ [])) w W μ0 (N ++ b7) ∧ E 0 = j ∧ E 3 = (.int .i64 L.2) ∧ E 4 = c1 ∧ E 5 = (.int .i64 y) ∧ kZ 28 kC 2 j L.1 N) (fun L c => ?_) ?_))
       ·refine mP (kV ?_)
        replace d := d.drew
        have h := d.has.kD (Kr Sn)
        refine lN h lB (X 0 rfl h (kM I) (X 1 rfl h (kM J) (bS c fun c6 a2 c => XQ 2 rfl h (ue (i := y) (x0 := c6) aF aC rfl rfl g M (mi a2) (lR a2)) (fun g9 d8 => XH 3 rfl h (fun _ o => kE rfl (oy o (fun p n => (Ml n)) g my d8 (xi (lR a2)) aO aC)) (X 4 rfl h (kM I) (X 5 rfl h (kM J) (X 6 rfl h (lK rfl rfl rfl) (bS c fun c7 a3 c => XQ 7 rfl h (ue (i := (wi0 .i64 (y - 1))) (x0 := c7) aF aC rfl rfl g M (mi a3) (lR a3)) (fun h1 d9 => XH 8 rfl h (fun _ o => kE rfl (oy o (fun p n => (Ml n)) g my d9 (xi (lR a3)) aO aC)) (X 9 rfl h (Gp rfl rfl (ns cY) (BD (ob _ c6 c7))) (me kr (kK ?_))))))))))))
        refine CI c rfl (fun d3 c => ?_) (fun d3 c => ?_)
        ·refine sg (Wh Q (Wh T (Wh I (Wh J (bS c fun a9 a4 c => VQ (ue (i := y) (x0 := a9) aF aC rfl rfl g M (mi a4) (lR a4)) (fun h2 e0 => V (kE rfl (oy d.has (fun p n => (Ml n)) g my e0 (xi (lR a4)) aO aC)) (bS c fun f8 a5 c => VQ (mF (i := Y) (x0 := f8) aF aC rfl rfl g (mi a5) (lR a5)) (fun h3 e1 => VO (zi (u := (.agg (kC a9).toArray)) (x1 := a9)  d g my mH rfl rfl rfl e1 (lR a5) aC (fun g3 e8 d c9 => ln (kT ?_)))))))))))
         refine Wh T (Wi rfl (Wa (lo (lA (kK ?_)))))
         obtain rfl := sj c
         exact ⟨e8, _, (d.kD St), Q, rfl, I, J, c9⟩
        refine lG (lA (kK ?_))
        obtain rfl := sj c
        exact ⟨K, _, (d.kD St), Q, T, I, J, g⟩
       rintro ⟨f4, f7⟩ E W ⟨N, b7, d, f0, f1, f2, f3, e4⟩ d5
       exact kT (Wh f3 (Wi rfl (Wa (ln ⟨f6, bT _, f4, N, f7, (wi0 .i64 (y + 1)), _, (d.kD St), f0, f1, f2, rfl, e4, d5⟩))))
      refine ot (nT (nT (uj (kK ?_))))
      obtain rfl := sj k
      exact ⟨K, _, (d.kD St), Q, T, g⟩
    rintro ⟨g4, c5⟩ E W ⟨s, b5, d, b9, c0, b3⟩ G
    refine sg (Wh b9 (Wh c0 (bS G fun _ R G => VQ (tW (i := c5) aF aC rfl rfl b3 (qW R) (qR R)) (fun h4 e2 => VO (yr (z := K0)  d b3 my mH aF bQ e2 rfl rfl (fun g2 e7 d c8 => lr (Wh b9 (Wh c0 (bS G fun _ b2 G => VQ (um (i := c5) aF aC rfl rfl c8 my (qW b2) (qR b2)) (fun c2 e3 => ?_))))))))))
    refine Wa (lt (mu (lm (lm (mu (lm ?_))))))
    obtain rfl := sj G
    exact lQ (v := c2) rfl rfl ⟨_, _, rfl, (d.mQ (Kr Sn)), c2, e7, rfl, rfl, e3⟩
   exact lG (lA (kK (kT (Wh H (Wi rfl (Wa (ln ⟨f5, bT _, (wi0 .i64 (t + 1)), _, (d.kD St), D, rfl, a⟩)))))))
  refine ot (nT (nT (uj (kK (sg (Wh D (Wa (lt ?_))))))))
  obtain rfl := sj a
  exact lQ (v := j) rfl rfl ⟨_, _, rfl, (d.mQ (Kr Sn)), j, x, rfl, rfl, B⟩
theorem Qq (i : Value) (t r : List kA) (w : World) (B : Sl (Pl kC) 2 (hp w) i t) (hm : CO t = some r) :
  lT false pg0 242 [i] w 28 kC 2 r := by
 refine tT 11 func242 rfl (fun d => sg (Wa (lr (Wm (bS hm fun z T hm => VE (qu d call274 (lT.mz (GZ i t _ _ (B.mono (Pl.mono _) d.kN) T)) (fun W3 v7 A R8 d a5 s Q => bS hm fun U D hm => ?_)))))))
 refine VE (eM d (Cr Qz Cn) call273 (fun m _ => (DX v7 z R8 (.func (.func 275) #[] #[]) (fun (x : kA) => Ay x) _ _ m Q ⟨275, #[], #[], rfl, call275, fun W x r y hm => (Mz x r W  hm).mz⟩ D)) ?_)
 rintro _ b5 b9 L d E n h ⟨k, K, a, rfl, I⟩
 obtain rfl := a.symm
 replace d := d.perm (Tr Tn)
 refine Wa (lr (Wm (bS hm fun Y G hm => ?_)))
 refine VE (eM d (Cr Qz Cn) call276 (fun m _ => mn.mz (QX k U K (.func (.func 57) #[] #[]) (fun (x : (kA × kA)) => nB x.1 x.2) _ _ m I ⟨57, #[], rfl, call57, fun W x r y hm => BB x.1 x.2 r W  hm⟩ G)) ?_)
 rintro _ b6 c0 a9 d a2 o h ⟨M, c, rfl, J⟩
 obtain rfl := c.symm
 replace d := d.perm (Tr Tn)
 refine lr (Wm (bS hm fun R H hm => ?_))
 refine VE (eM d (Cr Qz Cn) call277 (fun m _ => mn.mz (FP k Y M _ _ m J H)) ?_)
 rintro _ b7 c1 P d a3 q h ⟨Z, N, g, rfl, j⟩
 obtain rfl := g.symm
 replace d := d.perm (Tr Tn)
 refine Wa (lt ?_)
 obtain rfl := sj hm
 exact lQ (v := Z) rfl rfl ⟨_, N, rfl, d.mV (fun p u => (Ml u)) j.nd, j⟩
theorem Jx (a : Formula) (g : Value) (r : List kA) (w : World) (c : Sl la 5 (hp w) g a.Kids) (hm : uM a = some r) :
  lT false pg0 192 [(.agg #[(.int .i64 a.Op), (.int .i64 a.K), (.string a.kA.kI), (.string a.kA.kU), g])] w 28 kC 2 r := by
 refine tT 6 func192 rfl (fun d => sg ?_)
 obtain ⟨j, k, rfl⟩ := c.form
 refine VE (lF d rfl (fun N T d => Wa (lr (VA d Mh (C1 a.Op a.K a.kA.kI a.kA.kU j a.Kids.length k) cx aZ (bS hm fun H y hm => VE (qu d call243 ((Eo lE) a (.slice j a.Kids.length k) _ _ (c.mono lZ.mono d.kN) y) (fun Q z U I d G m t => bS hm fun K u hm => VE (qu d call242 (Qq z H _ _ (t.sl my (fun b o h => d.at_ (Ml h))) u) (fun J B M x d D n i => Wa (ln ?_))))))))))
 replace d := d.kD (Kr (Dr (Db St)))
 refine lx ?_
 obtain rfl := sj hm
 exact lQ (v := B) rfl rfl ⟨_, x, rfl, d.mV (fun p h => (Ml h)) i.nd, i⟩
theorem GL (I : Value) (K : List kA) (G : Int) (r : List kA) (w : World) (H : Sl (Pl kC) 2 (hp w) I K) (hm : rG K G = some r) :
  lT true pg0 194 [I, (.int .i64 G)] w 28 kC 2 r := by
 refine tT 26 func194 rfl (fun d => sg (Wa (lr (Wa (lS (Wm ?_))))))
 refine V (lJ aF rfl H) (Wm (ln (lz (fun i E W => ∃ u B j D, (E 10 = .int .i64 (i : Nat) ∧ E 9 = .int .i64 (K.length : Nat)) ∧ ST true lu w W (hp w) (j ++ D) ∧ E 1 = (.int .i64 G) ∧ E 5 = u ∧ E 8 = I ∧ kZ 28 kC 2 u B j ∧ og G (K.drop i) i B = some r) K.length H.len ⟨(.slice none 0 0), ([]), [], _, ⟨rfl, rfl⟩, (d.kD St), rfl, rfl, rfl, (kZ.nil _ _ _), hm⟩ dc dc dc (fun _ _ _ h => by obtain ⟨_, _, _, _, n, _⟩ := h; exact n) ?_ ?_)))
 ·rintro J E W a3 ⟨u, B, j, D, ⟨m, o⟩, d, x, y, z, t, c⟩
  obtain ⟨g, b4, a5, a4, M⟩ := ll a3
  rw [a5] at c
  refine bg (Wh m (VQ (lY (enc := kC) (i := (J : Int)) (x0 := g) aF aC z m H (aD _) a4) (fun b3 Y => V (kE rfl (lO d.has Y aO aC)) (VE (lD d bQ (fun L b2 d => Wa (VO (lh (.agg (kC g).toArray) ((kC g).toArray) d rfl rfl aC (mH g) nb rfl (fun a9 d => lr (Wh x (Wm ?_)))))))))))
  refine bS c fun _ U c => V (Rt (a := G) (b := (J : Int)) rfl rfl (zT U)) (V (F3 (k := .i64) (a := (Int.fdiv G (2 ^ min (Int.toNat (J : Int)) (IntKind.bits .i64)))) (b := 1) (v := (.int .i64 (wi0 .i64 (BitVec.ofInt (IntKind.bits .i64) (Int.fdiv G (2 ^ min (Int.toNat (J : Int)) (IntKind.bits .i64))) &&& BitVec.ofInt (IntKind.bits .i64) 1).toNat))) rfl rfl dc rfl) (Wi rfl (ln (CI c rfl (fun Q c => ?_) (fun Q c => ?_)))))
  ·refine kT (Wh y (VA d Mh (kC g) aO aC (VE (lj (cs := (kC g).toArray) d (mN rfl) (mJ aF aC bQ) (fun P a2 d => ?_)))))
   replace d := d.perm (Nr (Qb (Qb Qz)) Nz)
   refine bS c fun q T c => VE (mD (enc := kC) (v := u) (vs := (.slice (some ⟨a2, 0, none⟩) 1 1)) (R := j) d my dc mH aF mw.1 mw.2.1 rfl mw.2.2.1 mw.2.2.2 rfl rfl t (Sl.lit (enc := kC) (l := [g]) my rfl nb rfl (d.at_ (Ma Mh))) T (fun b1 s Z d N => Wa (lo (lA (kK ?_)))))
   replace d := d.kD (Kr (Db (Db St)))
   exact ⟨m, s, q, Z, _, ⟨rfl, o⟩, (d.kD St), x, rfl, z, N, (by rw [M]; exact c)⟩
  refine lG (lA (kK ?_))
  replace d := d.kD (Db St)
  exact ⟨m, u, B, j, _, ⟨rfl, o⟩, (d.kD St), x, y, z, t, (by rw [M]; exact c)⟩
 rintro E W ⟨u, B, j, D, ⟨m, o⟩, d, x, y, z, t, c⟩
 rw [aG] at c
 refine kK (sg (Wh y (Wa (lt ?_))))
 obtain rfl := sj c
 exact lQ (v := u) rfl rfl ⟨_, j, rfl, d.mV (fun p A => (Ml A)) t.nd, t⟩
theorem FZ (Q : Formula → (kA → Option Bool) → Option Bool) (a5 : ∀ (g : Formula) (k : Value) (t : Value) (J : kA → Option Bool) (r : Bool) (w : World) (c : Sl la 5 (hp w) k g.Kids) (K : tu pg0 t (hp w) (fun (x : kA) => [(.agg (kC x).toArray)]) (fun (r : Bool) => (.bool r)) J), Q g J = some r → lg false pg0 111 [(.agg #[(.int .i64 g.Op), (.int .i64 g.K), (.string g.kA.kI), (.string g.kA.kU), k]), t] w (.bool r)) (g : Formula) (k t : Value) (J : kA → Option Bool) (r : Bool) (w : World) (c : Sl la 5 (hp w) k g.Kids) (K : tu pg0 t (hp w) (fun (x : kA) => [(.agg (kC x).toArray)]) (fun (r : Bool) => (.bool r)) J) (hm : xQ Q g J = some r) :
  lg false pg0 111 [(.agg #[(.int .i64 g.Op), (.int .i64 g.K), (.string g.kA.kI), (.string g.kA.kU), k]), t] w (.bool r) := by
 refine cG 45 func111 rfl (fun d => sg ?_)
 obtain ⟨A1, c2, rfl⟩ := c.form
 refine VE (lF d rfl (fun W4 q d => Wa (lS (Wf wY (VB d Mh rfl rfl cH (Wi rfl (ln (CI hm rfl (fun a9 hm => ?_) (fun a9 hm => ?_)))))))))
 ·refine sg (Wm (Wf yM (VA d Mh (kC g.kA) aO aC (bS hm fun r6 L hm => VE (Bq g.kA d K (lb.refl _) rfl (pz rfl) L (fun W8 d => Wa (ln ?_)))))))
  replace d := d.kD (Db St)
  refine lx (lm ?_)
  obtain rfl := sj hm
  exact rP d
 refine kg (Wa (lS (Wf ux (VB d Mh rfl rfl fe (V (lJ bZ rfl c) (Wm (lo ?_)))))))
 refine kK (lz (fun i E W => ∃ z I, (E 18 = .int .i64 (i : Nat) ∧ E 17 = .int .i64 (g.Kids.length : Nat)) ∧ ST false lu w W (hp w) ((q, Ol (C1 g.Op g.K g.kA.kI g.kA.kU A1 g.Kids.length c2) 57) :: I) ∧ E 1 = t ∧ E 2 = (.pointer (some ⟨q, 0, none⟩)) ∧ E 5 = (.int .i64 z) ∧ E 16 = (.slice A1 g.Kids.length c2) ∧ qp Q J g (g.Kids.drop i) z = some r) g.Kids.length c.len ⟨0, _, ⟨rfl, rfl⟩, (d.kD St), rfl, rfl, rfl, rfl, hm⟩ dc dc dc (fun _ _ _ h => by obtain ⟨_, _, n, _⟩ := h; exact n) ?_ ?_)
 ·rintro P E W a4 ⟨z, I, ⟨m, o⟩, d, G, u, y, H, a⟩
  obtain ⟨j, c1, A, v, N⟩ := ll a4
  rw [A] at a
  refine bg (VQ (sE (i := (P : Int)) (x0 := j) la.out bZ aZ H m c (aD _) v) (fun b7 ⟨_, ⟨c0, rfl, M⟩, Z⟩ => V (kE rfl (lO d.has Z cx aZ)) (VE (lD d dp (fun R b6 d => ?_)))))
  obtain ⟨B, D, rfl⟩ := M.form
  let a0 := (C1 j.Op j.K j.kA.kI j.kA.kU B j.Kids.length D)
  refine VO (lh (.agg a0.toArray) (a0.toArray) d rfl rfl aZ oc nb rfl (fun b4 d => lr (VA d Mh a0 cx aZ (Wh G (bS a fun b9 s a => VE (Eg d call111 (a5 j (.slice B j.Kids.length D) t J _ _ (M.mono lZ.mono d.kN) (K.mono d.kN) s) (fun b5 d => ln ?_)))))))
  replace d := d.kD (Db St)
  refine CI a rfl (fun T a => ?_) (fun T a => ?_)
  ·exact kT (Wh y (Wi rfl (Wa (lo (lA (kK ⟨m, (wi0 .i64 (z + 1)), _, ⟨rfl, o⟩, (d.kD St), G, u, rfl, H, (by rw [N]; exact a)⟩))))))
  exact lG (lA (kK ⟨m, z, _, ⟨rfl, o⟩, (d.kD St), G, u, y, H, (by rw [N]; exact a)⟩))
 rintro E W ⟨z, I, ⟨m, o⟩, d, G, u, y, H, a⟩
 rw [aG] at a
 refine kK (kV (sg (V (kH wY u) (VB d Mh rfl rfl cH (ln (bg (Wi rfl (Wa (ln ?_)))))))))
 refine CI a rfl (fun U a => ?_) (fun U a => ?_)
 ·refine sg (Wh y (V (kH ux u) (VB d Mh rfl rfl fe (V (lJ bZ rfl c) (Wi rfl (Wa (ln ?_)))))))
  replace d := d.kD (Db St)
  refine lx (mu (lm ?_))
  obtain rfl := sj a
  exact rP d
 refine sg (Wi rfl (Wa (ln (CI a rfl (fun Y a => ?_) (fun Y a => ?_)))))
 ·refine sg (Wh y (Wi rfl (Wa (ln ?_))))
  replace d := d.kD (Db St)
  refine lx (mu (lm ?_))
  obtain rfl := sj a
  exact rP d
 refine lG (lA (kK (sg (Wh y (V (kH Ad u) (VB d Mh rfl rfl cH (Wi rfl (Wa (ln ?_)))))))))
 exact lx (rQ a d)
theorem EB : ∀ (n : Nat) (c : Formula) (a : Value) (g : Value) (j : kA → Option Bool) (r : Bool) (w : World) (i : Sl la 5 (hp w) a c.Kids) (k : tu pg0 g (hp w) (fun (x : kA) => [(.agg (kC x).toArray)]) (fun (r : Bool) => (.bool r)) j) (_ : qU n c j = some r),
  lg false pg0 111 [(.agg #[(.int .i64 c.Op), (.int .i64 c.K), (.string c.kA.kI), (.string c.kA.kU), a]), g] w (.bool r)
 | 0 => by intros; rename_i h; simp only [qU] at h; cases h
 | n + 1 => FZ (qU n) (EB n)
theorem Fl (a : Formula) (j k : Value) (G : kA → Option Bool) (r : Bool) (w : World) (c : Sl la 5 (hp w) j a.Kids) (z : tu pg0 k (hp w) (fun (x : kA) => [(.agg (kC x).toArray)]) (fun (r : Bool) => (.bool r)) G) (hm : sb a G = some r) :
  lg false pg0 48 [(.agg #[(.int .i64 a.Op), (.int .i64 a.K), (.string a.kA.kI), (.string a.kA.kU), j]), k] w (.bool r) := by
 refine cG 16 func48 rfl (fun d => sg ?_)
 obtain ⟨u, y, rfl⟩ := c.form
 let a0 := (C1 a.Op a.K a.kA.kI a.kA.kU u a.Kids.length y)
 refine VE (lF d rfl (fun U Z d => Wa (lr (Wm (V (S0 underlying105 z.form rfl rfl) (Wm (Vg rfl rfl (kE rfl (kL d.has Mh a0 rfl cx aZ)) (bS hm fun h K hm => SR rfl rfl (Eg d call110 (D8 a (.slice u a.Kids.length y) _ _ (c.mono lZ.mono d.kN) K) (fun Y d => V (kX rfl rfl) (Wm (LJ hm (fun D E W => ∃ B, ST false lu w W (hp w) B ∧ E 4 = (.bool false) ∧ E 15 = (.bool D)) 4 ?_ (fun D g t => ?_)))))))))))))
 ·rintro T E W ⟨B, d, N, J⟩ H
  exact Wg J (lt (rQ H d))
 refine bC g (fun i g => ?_) (fun i g => ?_)
 ·refine ug i (kE rfl (kL d.has Mh a0 rfl cx aZ)) (ug i (kM rfl) (bS g fun Q I g => qy i (Eg d call111 ((EB lE) a (.slice u a.Kids.length y) k G _ _ (c.mono lZ.mono d.kN) (z.mono d.kN) I) (fun M d => V (kX (cB i) rfl) ?_))))
  obtain rfl := sj g
  exact t _ _ ⟨_, (d.kD (Db St)), rfl, rfl⟩
 refine un i (un i (un i (V (kW (cB i) rfl) ?_)))
 obtain rfl := sj g
 exact t _ _ ⟨_, (d.kD (Db St)), rfl, rfl⟩
theorem GR (j : Value) (t : List kA) (c : kA) (r : Int) (w : World) (g : Sl (Pl kC) 2 (hp w) j t) (hm : yu t c = some r) :
  lg true pg0 247 [j, (.agg (kC c).toArray)] w (.int .i64 r) := by
 refine cG 19 func247 rfl (fun d => sg (VE (lF d rfl (fun Q J d => Wa (lS (Wm (V (lJ aF rfl g) (Wm (ln ?_)))))))))
 refine lz (fun i E W => ∃ k, (E 8 = .int .i64 (i : Nat) ∧ E 7 = .int .i64 (t.length : Nat)) ∧ ST true lu w W (hp w) ((J, Ol (kC c) 28) :: k) ∧ E 0 = j ∧ E 3 = (.pointer (some ⟨J, 0, none⟩)) ∧ ru c (t.drop i) i = some r) t.length g.len ⟨_, ⟨rfl, rfl⟩, (d.kD St), rfl, rfl, hm⟩ dc dc dc (fun _ _ _ h => by obtain ⟨_, o, _⟩ := h; exact o) ?_ ?_
 ·rintro K E W B ⟨k, ⟨n, s⟩, d, u, x, a⟩
  obtain ⟨y, M, H, G, I⟩ := ll B
  rw [H] at a
  refine bg (Wh n (Wa (ln (kV ?_))))
  replace d := d.drew
  have m := d.has.kD (Kb Sn)
  refine lN m lB (XH 0 rfl m (fun _ q => kE x (kL q Mh (kC c) rfl aO aC)) (X 1 rfl m (kM u) (X 2 rfl m (kM rfl) (XQ 3 rfl m (lY (enc := kC) (i := (K : Int)) (x0 := y) aF aC rfl rfl g (aD _) G) (fun N D => XH 4 rfl m (fun _ q => kE rfl (lO q D aO aC)) (X 5 rfl m (vt rfl rfl (ns cY) (qH (ob _ c y))) (me kr (kK (CI a rfl (fun z a => ?_) (fun z a => ?_))))))))))
  ·refine sg (Wm (Wa (ln ?_)))
   replace d := d.kD (Db St)
   refine lx (mu (lm (mu (lm ?_))))
   obtain rfl := sj a
   exact rP d
  exact lG (lA (kK ⟨n, _, ⟨rfl, s⟩, (d.kD St), u, x, (by rw [I]; exact a)⟩))
 rintro E W ⟨k, ⟨n, s⟩, d, u, x, a⟩
 rw [aG] at a
 refine kK ?_
 replace d := d.kD (Db St)
 exact sg (Wa (lt (rQ a d)))
theorem E8 (a : Value) (g : List kA) (c : kA) (r : Bool) (w : World) (i : Sl (Pl kC) 2 (hp w) a g) (hm : xf g c = some r) :
  lg true pg0 200 [a, (.agg (kC c).toArray)] w (.bool r) := by
 refine cG 9 func200 rfl (fun d => sg (VE (lF d rfl (fun k u d => Wa (lr (Wm (VA d Mh (kC c) aO aC (bS hm fun x j hm => VE (Eg d call247 (GR a g c _ _ (i.mono (Pl.mono _) d.kN) j) (fun t d => Wi rfl (Wa ?_)))))))))))
 refine ln ?_
 exact lx (rQ hm d)
theorem Qw (a : Value) (g : List kA) (c : kA) (r : Bool) (w : World) (i : Sl (Pl kC) 2 (hp w) a g) (hm : CT g c = some r) :
  lg true pg0 149 [a, (.agg (kC c).toArray)] w (.bool r) := by
 refine cG 8 func149 rfl (fun d => sg (VE (lF d rfl (fun k u d => Wa (lr (Wm (VA d Mh (kC c) aO aC (bS hm fun x j hm => VE (Eg d call200 (E8 a g c _ _ (i.mono (Pl.mono _) d.kN) j) (fun t d => Wa (lo ?_)))))))))))
 refine kK ?_
 exact lx (rQ hm d)
theorem HP (c : kA) (g : Nat) (a : Value) (j : List kA) (r : Bool) (w : World) (k : Sl (Pl kC) 2 (hp w) a j) (i : At (hp w) (.pointer (some ⟨g, 0, none⟩)) [a]) (hm : ql c j = some r) :
  lg true pg0 148 [(.agg (kC c).toArray), (.pointer (some ⟨g, 0, none⟩))] w (.bool r) := by
 refine cG 7 func148 rfl (fun d => sg (VE (lF d rfl (fun u z d => Wa (lr (V (kE rfl (nh d.has (y := a) i ew)) (VA d Mh (kC c) aO aC (bS hm fun B t hm => VE (Eg d call149 (Qw a j c _ _ (k.mono (Pl.mono _) d.kN) t) (fun x d => Wa (lo ?_)))))))))))
 refine kK ?_
 exact lx (rQ hm d)
theorem Ey (a : Formula) (g k : Value) (i : List kA) (r : Bool) (w : World) (c : Sl la 5 (hp w) g a.Kids) (j : Sl (Pl kC) 2 (hp w) k i) (hm : oG a i = some r) :
  lg false pg0 85 [(.agg #[(.int .i64 a.Op), (.int .i64 a.K), (.string a.kA.kI), (.string a.kA.kU), g]), k] w (.bool r) := by
 refine cG 8 func85 rfl (fun d => sg ?_)
 obtain ⟨t, y, rfl⟩ := c.form
 refine VE (lF d rfl (fun H J d => ?_))
 obtain ⟨B, D, rfl⟩ := j.form
 refine VE (lF d rfl (fun I u d => Wa (lr (VA d (Mt Mh) (C1 a.Op a.K a.kA.kI a.kA.kU t a.Kids.length y) cx aZ (V (tX (by exact pz rfl) rfl) (bS hm fun K z hm => VE (Eg d call48 (Fl a (.slice t a.Kids.length y) (.func (.func 148) #[] #[(.pointer (some ⟨u, 0, none⟩))]) (fun (x : kA) => ql x i) _ _ (c.mono lZ.mono d.kN) ⟨148, #[], #[(.pointer (some ⟨u, 0, none⟩))], rfl, call148, fun W x r h hm => (HP x u (.slice B i.length D) i r W (j.mono (Pl.mono _) (d.kN.trans h)) (At.of (h _ _ (d.at_ Mh)) _ rfl) hm).mz⟩ z) (fun G d => Wa (ln ?_)))))))))
 exact lx (rQ hm d)
theorem Oc (t : Formula) (b9 a2 : Value) (n : List kA) (r : List Int) (w : World) (b7 : Sl la 5 (hp w) b9 t.Kids) (e4 : Sl (Pl kC) 2 (hp w) a2 n) (hm : xA t n = some r) :
  lT false pg0 193 [(.agg #[(.int .i64 t.Op), (.int .i64 t.K), (.string t.kA.kI), (.string t.kA.kU), b9]), a2] w 3 (lM .i64) 1 r := by
 refine tT 64 func193 rfl (fun d => sg ?_)
 obtain ⟨A1, c2, rfl⟩ := b7.form
 let a0 := (C1 t.Op t.K t.kA.kI t.kA.kU A1 t.Kids.length c2)
 refine VE (lF d rfl (fun W4 s d => Wa (lr (Wm (V (lJ aF rfl e4) (bS hm fun _ m7 hm => V (Qs (a := 1) (b := (n.length : Int)) rfl rfl (zT m7)) (bS hm fun l6 m6 hm => VE (OO (enc := Q4) (z := false) d (fun _ => rfl) dc iB MM.1 MM.2.1 MM.2.2.1 MM.2.2.2 rfl rfl rfl m6 (fun W8 d0 R9 d e8 => Wa (ln ?_))))))))))
 let d1 : Value := (.int .i64 (l6.length : Int))
 refine sg (Wa (lS (Wm (V (mR iB rfl e8) (Wm (ln (lz (fun i E W => ∃ Z c1 D b5 B c4 d6, (E 16 = .int .i64 (i : Nat) ∧ E 15 = .int .i64 (l6.length : Nat)) ∧ lb (hp w) c4 ∧ ST false lu w W c4 ((s, Ol a0 57) :: (B ++ (c1 ++ d6))) ∧ E 1 = a2 ∧ E 2 = (.pointer (some ⟨s, 0, none⟩)) ∧ E 5 = d0 ∧ E 6 = D ∧ kZ 4 Q4 1 d0 Z c1 ∧ kZ 3 (lM .i64) 1 D b5 B ∧ ph n t (l6.drop i) i Z b5 = some r) l6.length e8.len ⟨l6, R9, (.slice none 0 0), ([]), [], (hp w), _, ⟨rfl, rfl⟩, (lb.refl _), (d.kD (Sb (Pr Pz) St)), rfl, rfl, rfl, rfl, e8, (kZ.nil _ _ _), hm⟩ dc dc dc (fun _ _ _ h => by obtain ⟨_, _, _, _, _, _, _, A, _⟩ := h; exact A) ?_ ?_)))))))
 ·let c0 : Value := (.pointer (some ⟨s, 0, none⟩))
  rintro c E W h7 ⟨Z, c1, D, b5, B, c4, d6, ⟨q, L⟩, T, d, c3, d9, e0, e1, c6, a6, x⟩
  let b8 : Value := (.int .i64 (c : Int))
  obtain ⟨o3, n1, i7, m8, e7⟩ := ll h7
  rw [i7] at x
  refine bg (Wh q (Wa (ln (kV ?_))))
  replace d := d.drew
  have m := d.has.kD (Kb Sn)
  refine lN m lB (X 0 rfl m (kM e0) (X 1 rfl m (kM rfl) (XH 2 rfl m (fun _ hS => kE d9 (kL hS Mh a0 rfl cx aZ)) (X 3 rfl m (kM c3) (X 4 rfl m (kM rfl) (bS x fun m1 i5 x => XE 5 rfl (qu d call194 (lT.mz (GL a2 n (c : Int) _ _ (e4.mono (Pl.mono _) (T.trans d.kN)) i5)) (fun n4 m2 a4 n3 d H aa h1 => ?_))))))))
  have m := d.has.sL H (Dr (Kb Sn))
  refine ⟨m, (bS x fun b6 i6 x => XE 6 rfl (Eg d call85 (Ey t (.slice A1 t.Kids.length c2) m2 m1 _ _ (b7.mono lZ.mono ((T.trans H).trans d.kN)) (h1.sl my (fun b o P => d.at_ (Ml P))) i6) (fun n5 d => ?_)))⟩
  have m := d.has.sL H (Dr (Kb Sn))
  refine ⟨m, (bS x fun m4 c7 x => XQ 7 rfl m (mF (i := (c : Int)) (x0 := m4) iB sizeOf4 rfl rfl c6 (mi c7) (lR c7)) (fun o0 i2 => ?_))⟩
  replace d := d.perm (Nr (Qr (Qb (Qr Qz))) Nz)
  refine XO 8 rfl (zi (u := (.bool b6)) (x1 := b6)  d c6 (fun _ => rfl) Zb rfl rfl rfl i2 (lR c7) sizeOf4 (fun n6 U d Q => ?_))
  have m := d.has.sL H (Dr (Dr (Kb Sn)))
  refine ⟨m, (me kr (kK ?_))⟩
  replace d := d.kD (Kr (Dr St))
  refine sg (Wa (lS (Wh c3 (V (lJ aF rfl e4) (Wm (ln (CJ x (fun e6 E W => ∃ e9, ST false lu w W a4 ((s, Ol a0 57) :: (U ++ (B ++ e9))) ∧ E 1 = a2 ∧ E 2 = c0 ∧ E 5 = d0 ∧ E 6 = D ∧ E 7 = b8 ∧ E 8 = (.bool e6) ∧ E 15 = d1 ∧ E 16 = b8) (fun e6 h9 => ?_) ?_)))))))
  ·refine lz (fun i E W => ∃ a3 d7, (E 29 = .int .i64 (i : Nat) ∧ E 28 = .int .i64 (n.length : Nat)) ∧ ST false lu w W a4 ((s, Ol a0 57) :: (U ++ (B ++ d7))) ∧ E 1 = a2 ∧ E 2 = c0 ∧ E 5 = d0 ∧ E 6 = D ∧ E 7 = b8 ∧ E 8 = (.bool a3) ∧ E 15 = d1 ∧ E 16 = b8 ∧ po c Z b6 (n.drop i) i a3 = some e6) n.length e4.len ⟨false, _, ⟨rfl, rfl⟩, (d.kD (Sb (Pr Pz) St)), c3, d9, e0, e1, rfl, rfl, L, q, h9⟩ dc dc dc (fun _ _ _ h => by obtain ⟨_, _, A, _⟩ := h; exact A) ?_ ?_
   ·rintro N E W h8 ⟨a3, d7, ⟨q, L⟩, d, a9, b0, a7, b1, Y, a8, b2, b4, K⟩
    obtain ⟨o6, n2, i8, m9, i9⟩ := ll h8
    rw [i8] at K
    refine bg (Wh q (Wa (ln (kT (Wh a8 (Wm (LJ K (fun g7 E W => ∃ f1, ST false lu w W a4 ((s, Ol a0 57) :: (U ++ (B ++ f1))) ∧ E 1 = a2 ∧ E 2 = c0 ∧ E 5 = d0 ∧ E 6 = D ∧ E 7 = b8 ∧ E 8 = (.bool a3) ∧ E 15 = d1 ∧ E 16 = b8 ∧ E 28 = (.int .i64 (n.length : Int)) ∧ E 29 = (.int .i64 (N : Int)) ∧ E 48 = (.bool g7)) 15 ?_ (fun g7 M d3 => ?_))))))))
    ·rintro m5 E W ⟨f1, d, j7, j8, j9, k0, k1, n9, k2, k3, k4, k5, k6⟩ i0
     exact Wg k6 (lo (lA (kK ⟨k5, m5, _, ⟨rfl, k4⟩, (d.kD St), j7, j8, j9, k0, k1, rfl, k2, k3, (by rw [i9]; exact i0)⟩)))
    refine bC M (fun g M => ?_) (fun g M => ?_)
    ·refine un g (un g (un g (un g (un g (un g (Vu rfl rfl (Vu rfl rfl (Vu rfl rfl (Vu rfl rfl (Vu rfl rfl (Vu rfl rfl (Vu rfl rfl (un g (V (kX (cB g) rfl) ?_))))))))))))))
     obtain rfl := sj M
     exact d3 _ _ ⟨_, (d.kD St), a9, b0, a7, b1, Y, a8, b2, b4, L, q, rfl⟩
    refine ug g (kM Y) (ug g (kM rfl) (bS M fun _ h5 M => ug g (Rt (a := (c : Int)) (b := (N : Int)) rfl rfl (zT h5)) (ug g (F3 (k := .i64) (a := (Int.fdiv (c : Int) (2 ^ min (Int.toNat (N : Int)) (IntKind.bits .i64)))) (b := 1) (v := (.int .i64 (wi0 .i64 (BitVec.ofInt (IntKind.bits .i64) (Int.fdiv (c : Int) (2 ^ min (Int.toNat (N : Int)) (IntKind.bits .i64))) &&& BitVec.ofInt (IntKind.bits .i64) 1).toNat))) rfl rfl dc rfl) (ug g (lK rfl rfl rfl) (ug g (kM rfl) (LJ M (fun g8 E W => ∃ f2, ST false lu w W a4 ((s, Ol a0 57) :: (U ++ (B ++ f2))) ∧ E 1 = a2 ∧ E 2 = c0 ∧ E 5 = d0 ∧ E 6 = D ∧ E 7 = b8 ∧ E 8 = (.bool a3) ∧ E 15 = d1 ∧ E 16 = b8 ∧ E 28 = (.int .i64 (n.length : Int)) ∧ E 29 = (.int .i64 (N : Int)) ∧ E 33 = (.bool a3) ∧ E 47 = (.bool g8)) 8 ?_ (fun g8 G d4 => ?_)))))))
    ·rintro o7 E W ⟨f2, d, k7, k8, k9, l0, l1, l2, l3, l4, l5, l7, l8, l9⟩ i1
     refine V (kW (l8.trans (cB g)) l9) ?_
     obtain rfl := sj i1
     exact d3 _ _ ⟨_, (d.kD St), k7, k8, k9, l0, l1, l2, l3, l4, l5, l7, rfl⟩
    refine bC G (fun j G => ?_) (fun j G => ?_)
    ·let d5 := (wi0 .i64 (1 * 2 ^ min (Int.toNat (N : Int)) (IntKind.bits .i64)))
     refine ug j (kM a7) (ug j (kM Y) (ug j (kM rfl) (bS G fun _ h6 G => ug j (Qs (a := 1) (b := (N : Int)) rfl rfl (zT h6)) (ug j (Xf (k := .i64) (a := (c : Int)) (b := d5) rfl rfl) (bS G fun h0 c9 G => UQ j (mF (i := (wi0 .i64 (BitVec.ofInt (IntKind.bits .i64) (c : Int) &&& ~~~ BitVec.ofInt (IntKind.bits .i64) d5).toNat)) (x0 := h0) iB sizeOf4 rfl rfl Q (mi c9) (lR c9)) (fun o2 i4 => ug j (kE rfl (uU d.has (fun p P => (Mt (Ml P))) Q (fun _ => rfl) i4 (lR c9) (y := (.bool h0)) rfl isAgg4)) (ug g (kX (cB j) rfl) ?_)))))))
     obtain rfl := sj G
     exact d4 _ _ ⟨_, (d.kD St), a9, b0, a7, b1, Y, a8, b2, b4, L, q, rfl, rfl⟩
    refine un j (un j (un j (un j (un j (un j (un j (ug g (kW (cB j) rfl) ?_)))))))
    obtain rfl := sj G
    exact d4 _ _ ⟨_, (d.kD St), a9, b0, a7, b1, Y, a8, b2, b4, L, q, rfl, rfl⟩
   rintro E W ⟨a3, d7, ⟨q, L⟩, d, a9, b0, a7, b1, Y, a8, b2, b4, K⟩
   rw [aG] at K
   refine kK ?_
   obtain rfl := sj K
   exact ⟨_, (d.kD St), a9, b0, a7, b1, Y, a8, b2, b4⟩
  rintro o4 E W ⟨e9, d, f3, f4, e2, f5, e3, j4, f6, f7⟩ c5
  refine sg (Wh e2 (Wh e3 (bS c5 fun g9 c8 c5 => VQ (mF (i := (c : Int)) (x0 := g9) iB sizeOf4 rfl rfl Q (mi c8) (lR c8)) (fun o1 i3 => V (kE rfl (uU d.has (fun p P => (Mt (Ml P))) Q (fun _ => rfl) i3 (lR c8) (y := (.bool g9)) rfl isAgg4)) (Wm (LJ c5 (fun g4 E W => ∃ f0, ST false lu w W a4 ((s, Ol a0 57) :: (U ++ (B ++ f0))) ∧ E 1 = a2 ∧ E 2 = c0 ∧ E 5 = d0 ∧ E 6 = D ∧ E 7 = b8 ∧ E 15 = d1 ∧ E 16 = b8 ∧ E 57 = (.bool g4)) 3 ?_ (fun g4 a5 d2 => ?_)))))))
  ·rintro o5 E W ⟨f0, d, f8, f9, g0, g1, j5, g2, g3, j6⟩ J
   refine ln (CI J j6 (fun h3 J => ?_) (fun h3 J => ?_))
   ·refine kT (Wh g1 (Wh j5 (VE (lj (cs := [b8].toArray) d (mN rfl) (mJ fa iz zeroValue3) (fun n7 j3 d => ?_)))))
    replace d := d.perm (Nr (Qb (Qb (Qr Qz))) Nz)
    refine bS J fun m0 h4 J => VE (mD (enc := (lM .i64)) (v := D) (vs := (.slice (some ⟨j3, 0, none⟩) 1 1)) (R := B) d (fun _ => rfl) dc (Jo _) fa ML.1 ML.2.1 rfl ML.2.2.1 ML.2.2.2 rfl rfl a6 (Sl.lit (enc := (lM .i64)) (l := [(c : Int)]) (fun _ => rfl) rfl nb rfl (d.at_ (Ma Mh))) h4 (fun n8 m3 j0 d h2 => Wa (lo (lA (kK ?_)))))
    replace d := d.kD (Kr (Db St))
    exact ⟨g3, (Z.set (Int.toNat (c : Int)) b6), U, m3, m0, j0, a4, _, ⟨rfl, g2⟩, (T.trans H), (d.kD (Sb (Pr Pz) St)), f8, f9, g0, rfl, Q, h2, (by rw [e7]; exact J)⟩
   exact lG (lA (kK ⟨g3, (Z.set (Int.toNat (c : Int)) b6), U, D, b5, B, a4, _, ⟨rfl, g2⟩, (T.trans H), (d.kD (Kb (Sr (Qr Qz) St))), f8, f9, g0, g1, Q, a6, (by rw [e7]; exact J)⟩))
  refine bC a5 (fun I a5 => ?_) (fun I a5 => ?_)
  ·refine ug I (kM j4) (ug I (nr rfl) (V (kX (cB I) rfl) ?_))
   obtain rfl := sj a5
   exact d2 _ _ ⟨_, (d.kD St), f3, f4, e2, f5, e3, f6, f7, rfl⟩
  refine un I (un I (V (kW (cB I) rfl) ?_))
  obtain rfl := sj a5
  exact d2 _ _ ⟨_, (d.kD St), f3, f4, e2, f5, e3, f6, f7, rfl⟩
 rintro E W ⟨Z, c1, D, b5, B, c4, d6, ⟨q, L⟩, T, d, c3, d9, e0, e1, c6, a6, x⟩
 rw [aG] at x
 refine kK ?_
 replace d := d.kD (Db (Kr (Dr St)))
 refine sg (Wh e1 (Wa (lt ?_)))
 obtain rfl := sj x
 exact lQ (v := D) rfl rfl ⟨_, B, rfl, d.mV (fun p P => (Ml P)) a6.nd, a6⟩
theorem Q8 (c : Value) (t : List (List kA)) (a : LO) (g : Value) (u : ((List kA) × (List kA)) → Option Int) (r : List (List kA)) (w : World) {i : lq} (y : pY i (a ++ []) w) (j : nn 34 (vQ kC 2) 1 i c t a) (k : YV pg0 g i (vQ kC 2) u) (hm : EG u t = some r) :
  pK true pg0 195 [c, g] w i (a ++ []) (fun v x z => ∃ S, v = (.tuple #[]) ∧ x = (S ++ []) ∧ nn 34 (vQ kC 2) 1 z c r S) := O3 (P := pg0) (ρ := Se) Xa vS y j k hm
theorem D9 (a : Int) (r : Bool) (w : World) (hm : yB a = some r) :
  lg true pg0 286 [(.int .i64 a)] w (.bool r) := by
 exact cG 6 func286 rfl (fun c => sg (Wa (lr (Wm (Wm (Wi rfl (Wa (lt (rQ hm c)))))))))
theorem Is (a c r : Int) (w : World) (hm : vd a c = some r) :
  lg true pg0 245 [(.int .i64 a), (.int .i64 c)] w (.int .i64 r) := by
 refine cG 20 func245 rfl (fun d => sg (Wa (lr (Wm (bS hm fun B u hm => VE (Eg d call286 (D9 a _ _  u) (fun y d => Wa (ln (kV ?_)))))))))
 refine kT (Wm (bS hm fun D x hm => VE (Eg d call286 (D9 c _ _  x) (fun z d => Wa (lS (Wm (ln (CI hm rfl (fun j hm => ?_) (fun j hm => ?_)))))))))
 ·refine kV (sg (Wm (ln (CI hm rfl (fun k hm => ?_) (fun k hm => ?_)))))
  ·refine sg (Wa (lt (lm (lm ?_))))
   obtain rfl := sj hm
   exact rP d
  refine kg (Wa (lt (lm ?_)))
  obtain rfl := sj hm
  exact rP d
 refine kS (Wm (ln (CI hm rfl (fun t hm => ?_) (fun t hm => ?_))))
 ·refine sg (Wa (lt (lm ?_)))
  obtain rfl := sj hm
  exact rP d
 refine kS (Wm (Wm (Wi rfl (ln (CI hm rfl (fun g hm => ?_) (fun g hm => ?_))))))
 ·refine sg (Wa (lt (lm ?_)))
  obtain rfl := sj hm
  exact rP d
 refine kS (Wm (Wm (Wi rfl (ln (CI hm rfl (fun i hm => ?_) (fun i hm => ?_))))))
 ·refine sg (Wa (lt (lm ?_)))
  obtain rfl := sj hm
  exact rP d
 exact kg (Wa (lt (rQ hm d)))
theorem uX (t : Value) (J : List kA) (G : Value) (Z : List kA) (H : Value) (f2 : (kA × kA) → Option Int) (r : Int) (w : World) (k : Sl (Pl kC) 2 (hp w) t J) (D : Sl (Pl kC) 2 (hp w) G Z) (a3 : II pg0 H (hp w) (fun (x : (kA × kA)) => [(.agg (kC x.1).toArray), (.agg (kC x.2).toArray)]) (fun (r : Int) => (.int .i64 r)) f2) (hm : nk J Z f2 = some r) :
  lg true pg0 246 [t, G, H] w (.int .i64 r) := by
 refine cG 39 func246 rfl (fun d => sg (Wa (lS (Wm (V (lJ aF rfl k) (Wm (ln (lz (fun i E W => ∃ u, (E 13 = .int .i64 (i : Nat) ∧ E 12 = .int .i64 (J.length : Nat)) ∧ ST true lu w W (hp w) u ∧ E 0 = t ∧ E 1 = G ∧ E 2 = H ∧ E 11 = t ∧ lH Z f2 J (J.drop i) i = some r) J.length k.len ⟨_, ⟨rfl, rfl⟩, (d.kD St), rfl, rfl, rfl, rfl, hm⟩ dc dc dc (fun _ _ _ h => by obtain ⟨_, n, _⟩ := h; exact n) ?_ ?_))))))))
 ·rintro Y E W a4 ⟨u, ⟨m, o⟩, d, y, g, z, B, a⟩
  obtain ⟨j, c0, q, a5, s⟩ := ll a4
  rw [q] at a
  refine bg (Wh m (VQ (lY (enc := kC) (i := (Y : Int)) (x0 := j) aF aC B m k (aD _) a5) (fun b5 Q => V (kE rfl (lO d.has Q aO aC)) (VE (lD d bQ (fun v R d => Wa (VO (lh (.agg (kC j).toArray) ((kC j).toArray) d rfl rfl aC (mH j) nb rfl (fun a9 d => lS (Wm ?_))))))))))
  refine Wh g (V (lJ aF rfl D) (Wi rfl (ln (CI a rfl (fun K a => ?_) (fun K a => ?_)))))
  ·refine sg (Wa (ln ?_))
   replace d := d.kD (Db St)
   refine lx (lm (mu (lm (mu (lm ?_)))))
   obtain rfl := sj a
   exact rP d
  refine kg (Wh g (Wm (bS a fun c I a => VQ (lY (enc := kC) (i := (Y : Int)) (x0 := c) aF aC rfl rfl D (mi I) (lR I)) (fun b6 T => V (kE rfl (lO d.has T aO aC)) (VE (lD d bQ (fun A b4 d => VO (lh (.agg (kC c).toArray) ((kC c).toArray) d rfl rfl aC (mH c) nb rfl (fun L d => lr ?_)))))))))
  refine Wh z (VA d (Mt Mh) (kC j) aO aC (VA d Mh (kC c) aO aC (bS a fun b7 U a => VE (Ym (j, c) d a3 (lb.refl _) rfl (pM rfl rfl) U (fun P d => Wa (ln ?_))))))
  replace d := d.kD (Db (Db St))
  refine sg (Wm (Wi rfl (ln (CI a rfl (fun M a => ?_) (fun M a => ?_)))))
  ·refine sg (Wm (Wa (lt (mu (lm (mu (lm ?_)))))))
   obtain rfl := sj a
   exact rP d
  exact lG (lA (kK ⟨m, _, ⟨rfl, o⟩, (d.kD St), y, g, z, B, (by rw [s]; exact a)⟩))
 rintro E W ⟨u, ⟨m, o⟩, d, y, g, z, B, a⟩
 rw [aG] at a
 refine kK (kV (sg (Wh y (V (lJ aF rfl k) (Wh g (V (lJ aF rfl D) (Wi rfl (ln (CI a rfl (fun N a => ?_) (fun N a => ?_))))))))))
 ·refine sg (Wa (lt (lm ?_)))
  obtain rfl := sj a
  exact rP d
 exact kg (Wa (lt (rQ a d)))
theorem Lc (a : Value) (t : List kA) (c : Value) (u : List kA) (r : Int) (w : World) (g : Sl (Pl kC) 2 (hp w) a t) (i : Sl (Pl kC) 2 (hp w) c u) (hm : oZ t u = some r) :
  lg true pg0 196 [a, c] w (.int .i64 r) := by
 refine cG 15 func196 rfl (fun d => sg (Wa (lr (Wm (V (lJ aF rfl g) (Wm (V (lJ aF rfl i) (bS hm fun j z hm => VE (Eg d call245 (Is (t.length : Int) (u.length : Int) _ _  z) (fun H d => Wm ?_))))))))))
 refine Wm (bS hm fun k B hm => VE (Eg d call246 (uX a t c u (.func (.func 57) #[] #[]) (fun (x : (kA × kA)) => nB x.1 x.2) _ _ (g.mono (Pl.mono _) d.kN) (i.mono (Pl.mono _) d.kN) ⟨57, #[], rfl, call57, fun W x r h hm => BB x.1 x.2 r W  hm⟩ B) (fun I d => VE (lj (cs := #[(.int .i64 j), (.int .i64 k)]) d (pH rfl rfl) (mJ fa iz zeroValue3) (fun J D d => bS hm fun K y hm => VE (Eg d call124 (HS (.slice (some ⟨D, 0, none⟩) 2 2) ([j, k]) _ _ (Sl.lit (enc := (lM .i64)) (l := [j, k]) (fun _ => rfl) rfl nb rfl (d.at_ Mh)) y) (fun G d => Wa (ln ?_))))))))
 exact lx (rQ hm d)
theorem ND (c : Formula) (H : Value) (r : ((List (List kA)) × Int)) (w : World) {μ0 : lq} (h0 : pY μ0 [] w) (g : Sl la 5 μ0 H c.Kids) (hm : sG c = some r) :
  pK false pg0 141 [(.agg #[(.int .i64 c.Op), (.int .i64 c.K), (.string c.kA.kI), (.string c.kA.kU), H])] w μ0 [] (fun v L1 μ1 => ∃ y1, v = (.tuple #[y1, (.int .i64 (r.2))]) ∧ L1 = [] ∧ Sl (vQ kC 2) 1 μ1 y1 (r.1)) := by
 refine RY h0 37 func141 rfl (fun d => sg ?_)
 obtain ⟨A1, c2, rfl⟩ := g.form
 let a1 : Value := (.slice A1 c.Kids.length c2)
 let a0 := (C1 c.Op c.K c.kA.kI c.kA.kU A1 c.Kids.length c2)
 refine VE (lF d rfl (fun W4 b3 d => Wa (Wa (lS (VA d Mh a0 cx aZ (bS hm fun r5 e7 hm => VE (Eg d call110 (D8 c a1 _ _ (g.mono lZ.mono d.kN) e7) (fun W7 d => V (nr rfl) (ln (CI hm rfl (fun e6 hm => ?_) (fun e6 hm => ?_)))))))))))
 ·refine sg (Wa (Wa (ln ?_)))
  replace d := d.kD (Db St)
  refine lx (lm ?_)
  obtain rfl := sj hm
  exact uk (v := (.slice none 0 0)) (u := (.int .i64 11)) rfl rfl rfl ⟨_, _, _, rfl, (d.mQ Sn), (lb.refl _), Lo.refl, (ST.ma d (ny.mem Sn)), (.slice none 0 0), rfl, rfl, (Sl.nil _ _ _)⟩
 refine kg (VA d Mh a0 cx aZ (bS hm fun r9 d4 hm => VE (qu d call192 (Jx c a1 _ _ (g.mono lZ.mono d.kN) d4) (fun h8 b5 i0 e4 d I n a6 => Wa (lS (Wm (V (mR aF rfl a6) ?_)))))))
 refine Wi rfl (ln (CI hm rfl (fun d3 hm => ?_) (fun d3 hm => ?_)))
 ·refine sg (Wa (Wa (ln ?_)))
  replace d := d.kD (Dr (Db St))
  refine lx (lm ?_)
  obtain rfl := sj hm
  exact uk (v := (.slice none 0 0)) (u := (.int .i64 12)) rfl rfl rfl ⟨_, _, _, rfl, (d.mQ Sn), I, n, (ST.ma d (ny.mem Sn)), (.slice none 0 0), rfl, rfl, (Sl.nil _ _ _)⟩
 refine kg (Wa (lS (VA d (Ma Mh) a0 cx aZ (Wm (bS hm fun b4 d5 hm => VE (qu d call193 (Oc c a1 b5 r9 _ _ (g.mono lZ.mono (I.trans d.kN)) (a6.sl my (fun b o R => d.at_ (Ml R))) d5) (fun h9 e8 b6 e5 d a9 q T => V (mR fa rfl T) ?_)))))))
 refine Wm (ln ?_)
 replace d := d.kD (Kr (Kr (Db St)))
 refine lz (fun i E W => ∃ j Q t G a2, (E 20 = .int .i64 (i : Nat) ∧ E 19 = .int .i64 (b4.length : Nat)) ∧ lb b6 G ∧ Lo (keys []) w b6 G ∧ ST false (keys []) w W G (t ++ (e5 ++ (e4 ++ a2))) ∧ E 4 = b5 ∧ E 5 = j ∧ E 18 = e8 ∧ nn 34 (vQ kC 2) 1 G j Q t ∧ pX r9 (b4.drop i) Q = some r) b4.length T.len ⟨(.slice none 0 0), ([]), [], b6, _, ⟨rfl, rfl⟩, (lb.refl _), Lo.refl, (d.kD St), rfl, rfl, rfl, (nn.nil _ _ _ _), hm⟩ dc dc dc (fun _ _ _ h => by obtain ⟨_, _, _, _, _, aa, _⟩ := h; exact aa) ?_ ?_
 ·rintro d6 E W c3 ⟨j, Q, t, G, a2, ⟨eI, eN⟩, k, m, d, a4, N, a5, J, a⟩
  obtain ⟨a7, f0, c9, b0, d0⟩ := ll c3
  rw [c9] at a
  refine bg (VQ (mF (i := (d6 : Int)) (x0 := a7) fa iz a5 eI T (aD _) b0) (fun g7 c4 => V (kE rfl (uU d.has (fun p R => (Ma (Ml R))) T (fun _ => rfl) c4 b0 (y := (.int .i64 a7)) rfl cH)) (Wa (ln (kT (Wh N (Wh a4 (Wm (bS a fun D c5 a => VE (qu d call194 (lT.mz (GL b5 r9 a7 _ _ (a6.sl my (fun b o R => d.at_ (Ma (Ma (Ml R))))) c5)) (fun f5 g9 h5 f3 d Y s a8 => ?_)))))))))))
  obtain ⟨K, M, rfl⟩ := a8.form
  refine VE (lj (cs := #[(.slice K D.length M)]) d (mN rfl) (mJ cE ek iK) (fun f6 f9 d => ?_))
  replace d := d.perm (Nr (Qb Qz) Nz)
  obtain ⟨e3, d, Z, A, c7⟩ := ST.Bf d a8 my
  replace d := d.perm (Nr (Qb Qz) Nz)
  refine bS a fun d7 c0 a => VE (AU (B := t) vS d dc cE pU.1 pU.2.1 rfl pU.2.2.1 pU.2.2.2 rfl rfl (J.mono vS (Y.trans Z)) (FE.lit vS (l := [D]) (.cons (ys := [(.slice K D.length M)]) ⟨(.slice K D.length M), rfl, c7⟩ .nil) rfl nb (d.at_ (Ma Mh))) c0 (fun f7 d9 d2 d b9 => Wa (lo (lA (kK ?_)))))
  replace d := d.kD (Kr (Db St))
  exact ⟨eI, d9, d7, d2, e3, _, ⟨rfl, eN⟩, ((k.trans Y).trans Z), ((m.trans s).trans A), (d.kD St), a4, rfl, a5, b9, (by rw [d0]; exact a)⟩
 rintro E W ⟨j, Q, t, G, a2, ⟨eI, eN⟩, k, m, d, a4, N, a5, J, a⟩
 rw [aG] at a
 refine kK ?_
 replace d := d.kD (Kr (Dr (Dr St)))
 refine kV (sg (Wh N (V (Ci cE rfl J) (Wi rfl (ln (CI a rfl (fun c1 a => ?_) (fun c1 a => ?_)))))))
 ·refine sg (Wa (Wa (ln ?_)))
  replace d := d.kD (Dr St)
  refine lx (lm ?_)
  obtain rfl := sj a
  exact uk (v := (.slice none 0 0)) (u := (.int .i64 12)) rfl rfl rfl ⟨_, _, _, rfl, (d.mQ Sn), ((I.trans a9).trans k), ((n.trans q).trans m), (ST.ma d (ny.mem Sn)), (.slice none 0 0), rfl, rfl, (Sl.nil _ _ _)⟩
 refine kg (Wh N (bS a fun g8 c6 a => ?_))
 refine VE (eD d (Cr Qz Cn) call195 (fun hh => pK.mz (Q8 j Q t (.func (.func 196) #[] #[]) (fun (x : ((List kA) × (List kA))) => oZ x.1 x.2) _ _ hh J ⟨196, #[], rfl, call196, fun W x y z r hs hy hz hm => by obtain ⟨_, e1, h1⟩ := hy; obtain ⟨_, e2, h2⟩ := hz; cases e1; cases e2; exact (Lc y x.1 z x.2 r W h1 h2 hm)⟩ c6)) ?_)
 rintro _ h3 h6 f2 d b1 L ⟨f4, U, rfl, d1⟩
 obtain rfl := U.symm
 replace d := d.perm (Tr Tn)
 refine lr (Wh N (Wa (Wa (lt ?_))))
 obtain rfl := sj a
 refine uk (v := j) (u := (.int .i64 0)) rfl rfl rfl ?_
 obtain ⟨h7, d, b2, P, c8⟩ := ST.QQ vS d d1
 exact ⟨_, _, _, rfl, (d.mQ Sn), ((((I.trans a9).trans k).trans b1).trans b2), ((((n.trans q).trans m).trans L).trans P), (ST.ma d (ny.mem Sn)), j, rfl, rfl, c8⟩
theorem yk (a : Value) (g : List kA) (c : Value) (i : kA → Option Bool) (r : Bool) (w : World) (j : Sl (Pl kC) 2 (hp w) a g) (k : tu pg0 c (hp w) (fun (x : kA) => [(.agg (kC x).toArray)]) (fun (r : Bool) => (.bool r)) i) (hm : oA g i = some r) :
  lg false pg0 142 [a, c] w (.bool r) := by
 refine cG 9 func142 rfl (fun d => sg (Wa (lr (Wm (Wm (bS hm fun y t hm => VE (Eg d call197 (zL a g c i _ _ (j.mono (Pl.mono _) d.kN) (k.mono d.kN) t) (fun u d => Wi rfl (Wa (lo ?_))))))))))
 exact kK (lx (rQ hm d))
theorem JS (c : kA) (g : Nat) (a : Value) (i : kA → Option Bool) (r : Bool) (w : World) (k : tu pg0 a (hp w) (fun (x : kA) => [(.agg (kC x).toArray)]) (fun (r : Bool) => (.bool r)) i) (j : At (hp w) (.pointer (some ⟨g, 0, none⟩)) [a]) (hm : wX c i = some r) :
  lg false pg0 143 [(.agg (kC c).toArray), (.pointer (some ⟨g, 0, none⟩))] w (.bool r) := by
 refine cG 8 func143 rfl (fun d => sg (VE (lF d rfl (fun u B d => Wa (lr (V (kE rfl (nh d.has (y := a) j isAgg105)) (VA d Mh (kC c) aO aC (bS hm fun D t hm => VE (Bq c d k (lb.refl _) rfl (pz rfl) t (fun z d => V (nr rfl) (Wa ?_)))))))))))
 refine ln ?_
 exact lx (rQ hm d)
theorem NI (c : Formula) (t Z : Value) (T : kA → Option Bool) (r : ((List kA) × Bool)) (w : World) {μ0 : lq} (h0 : pY μ0 [] w) (k : Sl la 5 μ0 t c.Kids) (I : tu pg0 Z μ0 (fun (x : kA) => [(.agg (kC x).toArray)]) (fun (r : Bool) => (.bool r)) T) (hm : yQ c T = some r) :
  pK false pg0 72 [(.agg #[(.int .i64 c.Op), (.int .i64 c.K), (.string c.kA.kI), (.string c.kA.kU), t]), Z] w μ0 [] (fun v L1 μ1 => ∃ R, v = (.tuple #[R, (.bool (r.2))]) ∧ L1 = [] ∧ Sl (Pl kC) 2 μ1 R (r.1)) := by
 refine RY h0 33 func72 rfl (fun d => sg ?_)
 obtain ⟨A1, c2, rfl⟩ := k.form
 refine VE (lF d rfl (fun W4 b3 d => ?_))
 obtain ⟨f5, f6, f7, rfl⟩ := I.form
 refine VE (lF d rfl (fun W9 b8 d => Wa (Wa (lr (VA d (Mt Mh) (C1 c.Op c.K c.kA.kI c.kA.kU A1 c.Kids.length c2) cx aZ (bS hm fun U b9 hm => ?_))))))
 refine VE (eD d (du _) call141 (fun hh => (ND c (.slice A1 c.Kids.length c2) _ _ hh (k.mono lZ.mono (lb.refl _)) b9)) ?_ (L0 := []))
 rintro _ d8 A d6 d z m ⟨s, J, rfl, K⟩
 obtain rfl := J.symm
 refine Wm (Wx rfl (Wx rfl (Wa (Wa (ln ?_)))))
 replace d := d.kD (Kb (Db St))
 refine kV (sg (Wm (Wi rfl (Wm (LJ hm (fun Y E W => ∃ q, ST false (keys []) w W A ((b8, Ob #[(.func f5 f6 f7)] 105) :: q) ∧ E 3 = (.pointer (some ⟨b8, 0, none⟩)) ∧ E 6 = s ∧ E 20 = (.bool Y)) 3 ?_ (fun Y j G => ?_))))))
 ·let a0 : Value := (.pointer (some ⟨b8, 0, none⟩))
  rintro d9 E W ⟨q, d, c4, c5, c6⟩ B
  refine ln (CI B c6 (fun b6 B => ?_) (fun b6 B => ?_))
  ·refine sg (Wa (Wa (ln ?_)))
   replace d := d.kD (Db St)
   refine lx (lm ?_)
   obtain rfl := sj B
   exact uk (v := (.slice none 0 0)) (u := (.bool false)) rfl rfl rfl ⟨_, _, _, rfl, (d.mQ Sn), z, m, (ST.ma d (ny.mem Sn)), (.slice none 0 0), rfl, rfl, (Sl.nil _ _ _)⟩
  refine kS (Wh c5 (V (lJ cE rfl K) (Wm (ln (lz (fun i E W => ∃ N, (E 23 = .int .i64 (i : Nat) ∧ E 22 = .int .i64 (U.1.length : Nat)) ∧ ST false (keys []) w W A ((b8, Ob #[(.func f5 f6 f7)] 105) :: N) ∧ E 3 = a0 ∧ E 21 = s ∧ uL T (U.1.drop i) = some r) U.1.length K.len ⟨_, ⟨rfl, rfl⟩, (d.kD St), c4, rfl, B⟩ dc dc dc (fun _ _ _ h => by obtain ⟨_, o, _⟩ := h; exact o) ?_ ?_)))))
  ·rintro c7 E W b7 ⟨N, ⟨n, L⟩, d, Q, H, a⟩
   obtain ⟨a9, d4, c1, c0, c3⟩ := ll b7
   rw [c1] at a
   refine bg (VQ (F6 (enc := kC) (k2 := 2) (i := (c7 : Int)) (x0 := a9) cE ek H n K (aD _) c0) (fun d2 ⟨D, a5, M⟩ => V (kE rfl (nh d.has (y := D) a5 ew)) (Wa (lr (Wm (V (tX (by exact pz Q) rfl) (bS a fun d3 a6 a => VE (Eg d call142 (yk D a9 (.func (.func 143) #[] #[a0]) (fun (x : kA) => wX x T) _ _ (M.mono (Pl.mono _) d.kN) ⟨143, #[], #[a0], rfl, call143, fun W x r P hm => JS x b8 (.func f5 f6 f7) T r W (I.mono ((z.trans d.kN).trans P)) (At.of (P _ _ (d.at_ Mh)) _ rfl) hm⟩ a6) (fun d0 d => V (nr rfl) ?_)))))))))
   refine ln (CI a rfl (fun a4 a => ?_) (fun a4 a => ?_))
   ·refine sg (Wm (Wa (Wa (ln ?_))))
    replace d := d.kD (Db St)
    refine lx (mu (lm (mu (lm ?_))))
    obtain rfl := sj a
    exact uk (v := D) (u := (.bool true)) rfl rfl rfl ⟨_, _, _, rfl, (d.mQ Sn), z, m, (ST.ma d (ny.mem Sn)), D, rfl, rfl, M⟩
   exact lG (lA (kK ⟨n, _, ⟨rfl, L⟩, (d.kD St), Q, H, (by rw [c3]; exact a)⟩))
  rintro E W ⟨N, ⟨n, L⟩, d, Q, H, a⟩
  rw [aG] at a
  refine kK ?_
  replace d := d.kD (Db St)
  refine sg (Wa (Wa (lt ?_)))
  obtain rfl := sj a
  exact uk (v := (.slice none 0 0)) (u := (.bool false)) rfl rfl rfl ⟨_, _, _, rfl, (d.mQ Sn), z, m, (ST.ma d (ny.mem Sn)), (.slice none 0 0), rfl, rfl, (Sl.nil _ _ _)⟩
 refine bC j (fun g j => ?_) (fun g j => ?_)
 ·refine un g (un g (V (kX (cB g) rfl) ?_))
  obtain rfl := sj j
  exact G _ _ ⟨_, (d.kD St), rfl, rfl, rfl⟩
 refine ug g (kE rfl (kR d.has Mh rfl isAgg105)) (ug g (LU underlying105 I rfl rfl) (V (kW (cB g) rfl) ?_))
 obtain rfl := sj j
 exact G _ _ ⟨_, (d.kD St), rfl, rfl, rfl⟩
theorem DJ (K : Nat) (a : Value) (G : List (kA × (List (ByteArray × Bool)))) (c : Value) (t : List kB) (j : Value) (D : List (kA × (List kB))) (g : Value) (u : List (ByteArray × (List kB))) (i : Value) (B : List kF) (J : Int) (I : kA) (a2 : ByteArray) (r : Bool) (w : World) (H : sa (fun (x : kA) => (.agg (kC x).toArray)) (mx Value.string (fun (x : Bool) => (Value.bool x))) (hp w) a G) (T : Sl (Pl kG) 9 (hp w) c t) (Z : sa (fun (x : kA) => (.agg (kC x).toArray)) (kZ 108 kG 9) (hp w) j D) (U : sa Value.string (kZ 108 kG 9) (hp w) g u) (Y : Sl (Pl kO) 3 (hp w) i B) (Q : At (hp w) (.pointer (some ⟨K, 0, none⟩)) [a, c, j, g, i, (.int .i64 J)]) (hm : rN G t D u B J I a2 = some r) :
  lg true pg0 50 [(.pointer (some ⟨K, 0, none⟩)), (.agg (kC I).toArray), (.string a2)] w (.bool r) := by
 refine cG 19 func50 rfl (fun m => sg (VE (lF m rfl (fun W2 v m => Wa (ln (kV ?_))))))
 replace m := m.drew
 have d := m.has.kD (Kb Sn)
 refine lN d lB (X 0 rfl d (kM rfl) (X 1 rfl d (CU underlying101 rfl rfl) (X 2 rfl d (kM rfl) (Xg 3 rfl rfl rfl d (kM rfl) (Xg 4 rfl rfl rfl d (nz rfl) (G8 5 rfl kr (.inr ⟨2, true, 9, rfl, rfl, by decide, rfl⟩) rfl dc (fun _ _ h => h) d (zf [a] zu rfl Q rfl) (fun s a3 => vA 6 rfl rfl rfl d (fun _ n => kE rfl (nh n (y := a) a3 iJ)) (vA 7 rfl rfl rfl d (fun _ n => kE rfl (kL n Mh (kC I) rfl aO aC)) ?_))))))))
 obtain ⟨a4, a5, M, N⟩ := H
 refine vA 8 rfl rfl rfl d (fun _ n => qc (k := I) (z := (.map none)) Cm eC ft rfl rfl M (fun b o q => n.1 b o (N b o q))) (Xg 9 rfl rfl rfl d (kM rfl) (vA 10 rfl rfl rfl d (fun _ n => xF (k := a2) (z := false) (vf := (fun (x : Bool) => (Value.bool x))) J0 fA gv rfl rfl ((nC.Gc kP.1 M I N).mono (fun b o q => n.1 b o q))) (X 11 rfl d (kX rfl rfl) (X 12 rfl d (nH rfl) (me kr (kK ?_))))))
 exact lx (rQ hm m)
theorem Nn (a0 : kA) (n Z : Nat) (I : Value) (U : List (kA × (List (ByteArray × Bool)))) (g : Value) (G : List kB) (u : Value) (N : List (kA × (List kB))) (i : Value) (H : List (ByteArray × (List kB))) (t : Value) (M : List kF) (h : Int) (o : Nat) (B : ByteArray) (a : Value) (j : List nR) (c : Value) (z : List uJ) (k : ByteArray) (a5 : Int) (D : Value) (J : List kB) (T : Value) (a2 : List kB) (K : Value) (Y : List kA) (Q : Value) (m : List kA) (r : Bool) (w : World) (a9 : sa (fun (x : kA) => (.agg (kC x).toArray)) (mx Value.string (fun (x : Bool) => (Value.bool x))) (hp w) I U) (a3 : Sl (Pl kG) 9 (hp w) g G) (s : sa (fun (x : kA) => (.agg (kC x).toArray)) (kZ 108 kG 9) (hp w) u N) (a4 : sa Value.string (kZ 108 kG 9) (hp w) i H) (q : Sl (Pl kO) 3 (hp w) t M) (v : At (hp w) (.pointer (some ⟨Z, 0, none⟩)) [I, g, u, i, t, (.int .i64 h)]) (A : At (hp w) (.pointer (some ⟨n, 0, none⟩)) [(.pointer (some ⟨Z, 0, none⟩))]) (P : Sl oR 15 (hp w) a j) (W : Sl ve 8 (hp w) c z) (b3 : Sl (Pl kG) 9 (hp w) D J) (c3 : Sl (Pl kG) 9 (hp w) T a2) (b9 : Sl (Pl kC) 2 (hp w) K Y) (c2 : Sl (Pl kC) 2 (hp w) Q m) (c1 : At (hp w) (.pointer (some ⟨o, 0, none⟩)) [(.string B), a, c, (.string k), (.int .i64 a5), D, T, K, Q]) (hm : zd a0 U G N H M h B j z k a5 J a2 Y m = some r) :
  lg true pg0 144 [(.agg (kC a0).toArray), (.pointer (some ⟨n, 0, none⟩)), (.pointer (some ⟨o, 0, none⟩))] w (.bool r) := by
 refine cG 10 func144 rfl (fun d => sg (VE (lF d rfl (fun W2 R d => Wa (lr (V (kE rfl (nh d.has (y := (.pointer (some ⟨Z, 0, none⟩))) A isAgg101)) (VA d Mh (kC a0) aO aC (VQ (zf [(.string k)] G9 rfl c1 rfl) (fun p3 E => V (kE rfl (nh d.has (y := (.string k)) E aY)) (bS hm fun r6 L hm => VE (Eg d call50 (DJ Z I U g G u N i H t M h a0 k _ _ (a9.mono d.kN) (a3.mono (Pl.mono _) d.kN) (s.mono d.kN) (a4.mono d.kN) (q.mono (Pl.mono _) d.kN) (v.mono d.kN) L) (fun W8 d => ?_))))))))))))
 refine Wa (ln ?_)
 exact lx (rQ hm d)
theorem GS (g : Value) (i r : List kB) (w : World) (a : Sl (Pl kG) 9 (hp w) g i) (hm : tl i = some r) :
  lT true pg0 113 [g] w 108 kG 9 r := by
 unfold tl at hm
 refine tT 8 func113 rfl (fun d => sg (Wa (lS (Wm ?_))))
 obtain ⟨y, B, rfl⟩ := a.form
 refine V (Ed aW rfl rfl) (ln ?_)
 rcases y with _ | z
 ·have u := a.isNil
  replace hm : some [] = some r := by rw [u] at hm; simpa [mM, maxLen] using hm
  refine zj (rfl) (sg (Wa (lt (lm ?_))))
  obtain rfl := sj hm
  exact lQ (v := (.slice none 0 0)) rfl rfl ⟨_, [], rfl, d.mV (fun p h => by cases h) (by simp), kZ.nil _ _ _⟩
 ·refine qx (rfl) (kg (VE (lj (cs := #[]) d vj (zK [] aW aM cg dc rfl (by simp) rfl rfl) (fun G k d => Wm (bS hm fun H t hm => VE (mD (enc := kG) (v := (.slice (some ⟨k, 0, none⟩) 0 0)) (vs := (.slice (some z) i.length B)) (R := [(k, Ob #[] 108)]) d mT dc nQ aW qb.1 qb.2.1 rfl qb.2.2.1 qb.2.2.2 rfl rfl (kZ.lit (l := []) (enc := kG) rfl dc rfl rfl) (a.mono (Pl.mono _) d.kN) t (fun D x j d c => Wa (lt ?_))))))))
  obtain rfl := sj hm
  exact lQ (v := x) rfl rfl ⟨_, j, rfl, d.mV (fun p h => (Ml h)) c.nd, c⟩
theorem D2 (g : Value) (t : List kB) (j : Value) (B : kB → Option Bool) (r : Int) (w : World) (c : Sl (Pl kG) 9 (hp w) g t) (D : tu pg0 j (hp w) (fun (x : kB) => [(.agg (kG x).toArray)]) (fun (r : Bool) => (.bool r)) B) (hm : wo t B = some r) :
  lg false pg0 176 [g, j] w (.int .i64 r) := by
 refine cG 19 func176 rfl (fun d => sg (Wa (lS (Wm (V (lJ aW rfl c) (Wm (ln (lz (fun i E W => ∃ k, (E 8 = .int .i64 (i : Nat) ∧ E 7 = .int .i64 (t.length : Nat)) ∧ ST false lu w W (hp w) k ∧ E 0 = g ∧ E 1 = j ∧ pB B (t.drop i) i = some r) t.length c.len ⟨_, ⟨rfl, rfl⟩, (d.kD St), rfl, rfl, hm⟩ dc dc dc (fun _ _ _ h => by obtain ⟨_, n, _⟩ := h; exact n) ?_ ?_))))))))
 ·rintro Q E W H ⟨k, ⟨m, o⟩, d, u, y, a⟩
  obtain ⟨z, T, M, K, N⟩ := ll H
  rw [M] at a
  refine bg (Wh m (Wa (lr (Wh y (Wh u (Wm (VQ (lY (enc := kG) (i := (Q : Int)) (x0 := z) aW aM rfl rfl c (aD _) K) (fun Y I => V (kE rfl (lO d.has I bM aM)) (bS a fun Z J a => ?_)))))))))
  refine VE (Bq z d D (lb.refl _) rfl (pz rfl) J (fun U d => ln (CI a rfl (fun G a => ?_) (fun G a => ?_))))
  ·refine sg (Wm (Wa (lt (mu (lm (mu (lm ?_)))))))
   obtain rfl := sj a
   exact rP d
  exact lG (lA (kK ⟨m, _, ⟨rfl, o⟩, (d.kD St), u, y, (by rw [N]; exact a)⟩))
 rintro E W ⟨k, ⟨m, o⟩, d, u, y, a⟩
 rw [aG] at a
 exact kK (sg (Wa (lt (rQ a d))))
theorem DQ (j : Value) (a0 : List kB) (t : LO) (H : Value) (f1 : kB → Option Bool) (r : List kB) (w : World) {μ0 : lq} (h0 : pY μ0 (t ++ []) w) (T : kZ 108 kG 9 j a0 t) (a4 : tu pg0 H μ0 (fun (x : kB) => [(.agg (kG x).toArray)]) (fun (r : Bool) => (.bool r)) f1) (hm : sC a0 f1 = some r) :
  mn false pg0 112 [j, H] w (t ++ []) (fun v L1 W' => ∃ s S2, v = s ∧ L1 = (S2 ++ []) ∧ kZ 108 kG 9 s r S2) := by
 refine zX h0 42 func112 rfl (fun d => sg (Wa (lr (Wm (Wm (bS hm fun q d3 hm => VE (Eg d call176 (D2 j a0 H f1 _ _ (T.sl mT (fun b o h => d.at_ (Ml h))) (a4.mono d.kN) d3) (fun W3 d => Wa (ln ?_)))))))))
 refine kV (sg (Wm (Wi rfl (ln (CI hm rfl (fun d2 hm => ?_) (fun d2 hm => ?_))))))
 ·refine sg (Wm (Wa (lt (lm ?_))))
  obtain rfl := sj hm
  exact lQ (v := j) rfl rfl ⟨_, _, rfl, (d.mQ (Kr Sn)), j, t, rfl, rfl, T⟩
 refine kS (Wm (Wi rfl (Wa (ln (mP (ou (fun m E W => ∃ U I B D a2, ST false (keys (t ++ [])) w W μ0 (I ++ a2) ∧ E 0 = j ∧ E 1 = H ∧ E 5 = (.int .i64 B) ∧ E 6 = (.int .i64 D) ∧ kZ 108 kG 9 j U I ∧ oh f1 m U B D = some r) lE ⟨a0, t, q, (wi0 .i64 (q + 1)), _, (d.kD St), rfl, rfl, rfl, rfl, T, hm⟩ ?_))))))
 rintro m E W ⟨U, I, B, D, a2, d, y, Q, G, K, g, a⟩
 cases m with
 | zero => rw [oh] at a; cases a
 | succ c8 =>
  refine kV (sg (Wh K (Wh y (V (mR aW rfl g) (Wi rfl (ln (CI a rfl (fun L a => ?_) (fun L a => ?_))))))))
  ·refine kn (kV (CJ a (fun Y E W => ∃ J a3, ST false (keys (t ++ [])) w W μ0 (J ++ a3) ∧ E 0 = j ∧ E 1 = H ∧ E 5 = (.int .i64 Y.2) ∧ E 6 = (.int .i64 D) ∧ kZ 108 kG 9 j Y.1 J) (fun Y c => ?_) ?_))
   ·refine bg (Wh y (Wh K (bS c fun k M c => VQ (mF (i := D) (x0 := k) aW aM rfl rfl g (mi M) (lR M)) (fun e4 b3 => V (kE rfl (oy d.has (fun p h => (Ml h)) g mT b3 (lR M) bM aM)) (VE (lD d cg (fun d7 e2 d => VO (lh (.agg (kG k).toArray) ((kG k).toArray) d rfl rfl aM (nQ k) nb rfl (fun d8 d => lr (Wh Q ?_))))))))))
    refine VA d Mh (kG k) bM aM (bS c fun e6 b5 c => VE (Bq k d a4 (lb.refl _) rfl (pz rfl) b5 (fun d9 d => V (nr rfl) (ln (CI c rfl (fun P c => ?_) (fun P c => ?_))))))
    ·refine sg (Wh y (Wh G (VA d Mh (kG k) bM aM (bS c fun d0 N c => VQ (mF (i := B) (x0 := d0) aW aM rfl rfl g (mi N) (lR N)) (fun e5 b4 => ?_)))))
     replace d := d.perm (Nr (Qb Qz) Nz)
     refine VO (zi (u := (.agg (kG k).toArray)) (x1 := k)  d g mT nQ rfl rfl rfl b4 (lR N) aM (fun e0 c1 d A => ln ?_))
     replace d := d.kD (Kr (Db St))
     refine kT (Wh G (Wi rfl (Wa (lo (lA (kK ?_))))))
     obtain rfl := sj c
     exact ⟨c1, _, (d.kD St), y, Q, rfl, K, A⟩
    refine lG (lA (kK ?_))
    obtain rfl := sj c
    exact ⟨I, _, (d.kD (Db St)), y, Q, G, K, g⟩
   rintro ⟨c7, c9⟩ E W ⟨J, a3, d, c3, c4, c5, c6, b6⟩ R
   exact kT (Wh c6 (Wi rfl (Wa (ln ⟨c8, bT _, c7, J, c9, (wi0 .i64 (D + 1)), _, (d.kD St), c3, c4, c5, rfl, b6, R⟩))))
  refine ot (nT (nT (uj (kK (sg (Wh y (Wh G (bS a fun _ Z a => VQ (tW (i := B) aW aM rfl rfl g (qW Z) (qR Z)) (fun e7 b7 => VO (yr (z := K7)  d g mT nQ aW cg b7 rfl rfl (fun e1 c2 d a9 => lr (Wh y ?_))))))))))))
  refine Wh G (bS a fun _ n a => VQ (um (i := B) aW aM rfl rfl a9 mT (qW n) (qR n)) (fun a5 b9 => Wa (lt ?_)))
  obtain rfl := sj a
  exact lQ (v := a5) rfl rfl ⟨_, _, rfl, (d.mQ (Kr Sn)), a5, c2, rfl, rfl, b9⟩
theorem Mc (a : kB) (r : Bool) (w : World) (hm : Ap a = some r) :
  lg true pg0 114 [(.agg (kG a).toArray)] w (.bool r) := by
 refine cG 6 func114 rfl (fun d => sg (VE (lF d rfl (fun g j d => Wa (lr (VA d Mh (kG a) bM aM (bS hm fun k c hm => VE (Eg d ki (uv a _ _  c) (fun i d => V (nr rfl) (Wa (lo ?_)))))))))))
 refine kK ?_
 exact lx (rQ hm d)
theorem QE (c : Value) (k : List kB) (a : LO) (g : Value) (t : (kB × kB) → Option Int) (r : List kB) (w : World) {y : lq} (u : pY y (a ++ []) w) (i : kZ 108 kG 9 c k a) (j : II pg0 g y (fun (x : (kB × kB)) => [(.agg (kG x.1).toArray), (.agg (kG x.2).toArray)]) (fun (r : Int) => (.int .i64 r)) t) (hm : yF t k = some r) :
  mn true pg0 116 [c, g] w (a ++ []) (fun v z W' => ∃ S, v = (.tuple #[]) ∧ z = (S ++ []) ∧ kZ 108 kG 9 c r S) := IN (P := pg0) (ρ := RI) Xh 9 bM aM kG mT nQ u.H u.S i j hm
theorem qY (t : Nat) (j : Value) (G : List Int) (i : LO) (h : Int) (r : (Bool × (List Int))) (w : World) {μ0 : lq} (A : pY μ0 ((t, Ob #[j] 81) :: (i ++ [])) w) (y : kZ 5 (lM .u8) 1 j G i) (hm : mZ G h = some r) :
  mn true pg0 93 [(.pointer (some ⟨t, 0, none⟩)), (.int .i64 h)] w ((t, Ob #[j] 81) :: (i ++ [])) (fun v L1 W' => ∃ n S2, v = (.bool (r.1)) ∧ L1 = ((t, Ob #[n] 81) :: (S2 ++ [])) ∧ kZ 5 (lM .u8) 1 n r.2 S2) := by
 refine zX A 38 func93 rfl (fun d => sg (Wa (lS (Wm (V (uc fu rfl rfl) (Wm (Vg rfl rfl (kM rfl) (Vg rfl rfl (lK rfl rfl rfl) (V (kW rfl rfl) ?_)))))))))
 refine ln (CI hm rfl (fun a9 hm => ?_) (fun a9 hm => ?_))
 ·refine sg (Wa (lt (lm ?_)))
  obtain rfl := sj hm
  exact lQ (v := (.bool false)) rfl rfl ⟨_, _, rfl, (d.mQ (Kb (Kr Sn))), j, i, rfl, rfl, y⟩
 refine kn (kV (mP (ou (fun m E W => ∃ c z U u a0, ST true (keys ((t, Ob #[j] 81) :: (i ++ []))) w W μ0 ((t, Ob #[z] 81) :: (u ++ a0)) ∧ E 0 = (.pointer (some ⟨t, 0, none⟩)) ∧ E 1 = (.int .i64 c) ∧ kZ 5 (lM .u8) 1 z U u ∧ oN m c U = some r) lE ⟨h, j, G, i, _, (d.kD St), rfl, rfl, y, hm⟩ ?_)))
 rintro m E W ⟨c, z, U, u, a0, d, x, K, T, g⟩
 cases m with
 | zero => rw [oN] at g; cases g
 | succ s =>
  refine kV (sg (Wh K (Wi rfl (ln (CI g rfl (fun o g => ?_) (fun o g => ?_))))))
  ·refine kn (kV (mP (kT (Wh x (Wh x (Wn (Wf Bh (VB d Mh rfl rfl fR (Wh K (V (Cj (k' := .i64) (a := c) gz eW rfl) (V (F3 (k := .u8) (a := (IntKind.u8.wrap c)) (b := 128) (v := (.int .u8 (IntKind.u8.wrap (BitVec.ofInt (IntKind.bits .u8) (IntKind.u8.wrap c) ||| BitVec.ofInt (IntKind.bits .u8) 128).toNat))) rfl rfl dc rfl) (VE (lj (cs := [(.int .u8 (IntKind.u8.wrap (BitVec.ofInt (IntKind.bits .u8) (IntKind.u8.wrap c) ||| BitVec.ofInt (IntKind.bits .u8) 128).toNat))].toArray) d (mN rfl) (mJ cw iZ kj) (fun c3 q d => ?_))))))))))))))
   replace d := d.perm (Nr (Qb (Qb Qz)) Nz)
   refine bS g fun Q Y g => VE (mD (enc := (lM .u8)) (v := z) (vs := (.slice (some ⟨q, 0, none⟩) 1 1)) (R := u) d (fun _ => rfl) dc (Jo _) cw uF.1 uF.2.1 rfl uF.2.2.1 uF.2.2.2 rfl rfl T (Sl.lit (enc := (lM .u8)) (l := [(IntKind.u8.wrap (BitVec.ofInt (IntKind.bits .u8) (IntKind.u8.wrap c) ||| BitVec.ofInt (IntKind.bits .u8) 128).toNat)]) (fun _ => rfl) rfl nb rfl (d.at_ (Ma Mh))) Y (fun L c1 a2 d M => Wn (Wf Bh ?_)))
   obtain ⟨B, H, rfl⟩ := M.form
   replace d := d.perm (Nb (Pr (Pb Pz)) Nz)
   refine VO (lh (.slice B Q.length H) (#[(.slice B Q.length H)]) d rfl rfl gV oc nb rfl (fun P d => lo (lA (kK ?_))))
   replace d := d.kD (Kb (Kr (Db St)))
   exact kT (Wh K (V (Rt (a := c) (b := 7) rfl rfl dc) (Wa (ln ⟨s, bT _, (Int.fdiv c (2 ^ min (Int.toNat 7) (IntKind.bits .i64))), (.slice B Q.length H), Q, a2, _, (d.kD St), x, rfl, M, g⟩))))
  refine ot (nT (nT (uj (kK (sg (Wh x (Wh x (Wn (Wf Bh (VB d Mh rfl rfl fR (Wh K (V (Cj (k' := .i64) (a := c) gz eW rfl) (VE (lj (cs := [(.int .u8 (IntKind.u8.wrap c))].toArray) d (mN rfl) (mJ cw iZ kj) (fun b6 a5 d => ?_)))))))))))))))
  replace d := d.perm (Nr (Qb (Qb Qz)) Nz)
  refine bS g fun J Z g => VE (mD (enc := (lM .u8)) (v := z) (vs := (.slice (some ⟨a5, 0, none⟩) 1 1)) (R := u) d (fun _ => rfl) dc (Jo _) cw uF.1 uF.2.1 rfl uF.2.2.1 uF.2.2.2 rfl rfl T (Sl.lit (enc := (lM .u8)) (l := [(IntKind.u8.wrap c)]) (fun _ => rfl) rfl nb rfl (d.at_ (Ma Mh))) Z (fun b7 c2 a3 d N => Wn (Wf Bh ?_)))
  obtain ⟨D, I, rfl⟩ := N.form
  replace d := d.perm (Nb (Pr (Pb Pz)) Nz)
  refine VO (lh (.slice D J.length I) (#[(.slice D J.length I)]) d rfl rfl gV oc nb rfl (fun b9 d => ln ?_))
  replace d := d.kD (Kb (Kr (Db St)))
  refine sg (Wa (lt ?_))
  obtain rfl := sj g
  exact lQ (v := (.bool true)) rfl rfl ⟨_, _, rfl, (d.mQ (Kb (Kr Sn))), (.slice D J.length I), a3, rfl, rfl, N⟩
theorem Iw (g : Nat) (c : Value) (j : List Int) (a : LO) (u : Value) (D : List Int) (r : (Bool × (List Int))) (w : World) {Z : lq} (m : pY Z ((g, Ob #[c] 81) :: (a ++ [])) w) (i : kZ 5 (lM .u8) 1 c j a) (k : Sl (Pl (lM .u8)) 1 Z u D) (hm : xt j D = some r) :
  mn true pg0 206 [(.pointer (some ⟨g, 0, none⟩)), u] w ((g, Ob #[c] 81) :: (a ++ [])) (fun v L1 W' => ∃ U M, v = (.bool (r.1)) ∧ L1 = ((g, Ob #[U] 81) :: (M ++ [])) ∧ kZ 5 (lM .u8) 1 U r.2 M) := by
 refine zX m 25 func206 rfl (fun d => sg (Wa (lS (Wm (V (uc fu rfl rfl) (Wm (Vg rfl rfl (kM rfl) (Vg rfl rfl (lJ cw rfl k) (Vg rfl rfl (lK rfl rfl rfl) ?_)))))))))
 refine V (kW rfl rfl) (ln (CI hm rfl (fun Q hm => ?_) (fun Q hm => ?_)))
 ·refine sg (Wa (lt (lm ?_)))
  obtain rfl := sj hm
  exact lQ (v := (.bool false)) rfl rfl ⟨_, _, rfl, (d.mQ (Kb (Kr Sn))), c, a, rfl, rfl, i⟩
 refine kg (Wm (Wm (V (lJ cw rfl k) (bS hm fun A T hm => ?_))))
 refine VE (eM d (Cb Pz (Cr Qz Cn)) call93 (fun n _ => (qY g c j a (D.length : Int) _ _ n i T)) ?_)
 rintro _ v8 q a3 d H o h ⟨Y, K, t, rfl, I⟩
 obtain rfl := t.symm
 replace d := d.perm (Tb (Tr Tn))
 refine lr (Wm (Wm (Wn (Wf Bh (VB d Mh rfl rfl fR (Wm ?_))))))
 replace d := d.perm (Nr (Qb Qz) Nz)
 refine bS hm fun B G hm => VE (mD (enc := (lM .u8)) (v := Y) (vs := u) (R := K) d (fun _ => rfl) dc (Jo _) cw uF.1 uF.2.1 rfl uF.2.2.1 uF.2.2.2 rfl rfl I (k.mono (Pl.mono _) (H.trans d.kN)) G (fun a4 s J d z => Wn (Wf Bh ?_)))
 obtain ⟨x, y, rfl⟩ := z.form
 replace d := d.perm (Nb (Pr Pz) Nz)
 refine VO (lh (.slice x B.length y) (#[(.slice x B.length y)]) d rfl rfl gV oc nb rfl (fun a5 d => lr (Wa (lt ?_))))
 obtain rfl := sj hm
 exact lQ (v := (.bool true)) rfl rfl ⟨_, _, rfl, (d.mQ (Kb (Kr Sn))), (.slice x B.length y), J, rfl, rfl, z⟩
theorem yO (j : Nat) (c : Value) (t : List Int) (a : LO) (J : ByteArray) (r : (Bool × (List Int))) (w : World) {Z : lq} (P : pY Z ((j, Ob #[c] 81) :: (a ++ [])) w) (k : kZ 5 (lM .u8) 1 c t a) (hm : rA t J = some r) :
  mn true pg0 162 [(.pointer (some ⟨j, 0, none⟩)), (.string J)] w ((j, Ob #[c] 81) :: (a ++ [])) (fun v L1 W' => ∃ q S2, v = (.bool (r.1)) ∧ L1 = ((j, Ob #[q] 81) :: (S2 ++ [])) ∧ kZ 5 (lM .u8) 1 q r.2 S2) := by
 refine zX P 17 func162 rfl (fun d => sg (Wa (lr (Wm (V (CU fu rfl rfl) (Wm (Vg rfl rfl (kM rfl) (bS hm fun r1 a4 hm => SR rfl rfl (Eg d kh (uf J _ _  a4) (fun W3 d => V (kX rfl rfl) ?_))))))))))
 refine Wm (LJ hm (fun B E W => ∃ z x D I, lb Z D ∧ ST true (keys ((j, Ob #[c] 81) :: (a ++ []))) w W D ((j, Ob #[z] 81) :: (x ++ I)) ∧ E 4 = (.bool false) ∧ E 16 = (.bool B.1) ∧ kZ 5 (lM .u8) 1 z B.2 x) 5 ?_ (fun B g y => ?_))
 ·rintro ⟨A, c0⟩ E W ⟨z, x, D, I, b1, d, b9, a3, T⟩ M
  refine Wg a3 (lt ?_)
  obtain rfl := sj M
  exact lQ (v := (.bool A)) rfl rfl ⟨_, _, rfl, (d.mQ (Kb (Kr Sn))), z, x, rfl, rfl, T⟩
 refine bC g (fun i g => ?_) (fun i g => ?_)
 ·refine ug i (kM rfl) (ug i (kM rfl) (bS g fun a5 N g => qy i (LP d bL cw eW rfl N (fun b6 s c3 d G n U b4 => bS g fun c1 Q g => ?_))))
  refine qy i (eM d (Cb Pz (Cr Qz Cn)) call206 (fun R m => (Iw j c t a s a5 _ _ R k (U.mono (Pl.mono _) m) Q)) ?_)
  rintro _ c2 L b5 d H o h ⟨a9, a2, u, rfl, Y⟩
  obtain rfl := u.symm
  replace d := d.perm (Tb (Tr Tn))
  refine V (kX (cB i) rfl) ?_
  obtain rfl := sj g
  exact y _ _ ⟨a9, a2, L, _, (G.trans H), (d.kD St), rfl, rfl, Y⟩
 refine un i (un i (un i (un i (V (kW (cB i) rfl) ?_))))
 obtain rfl := sj g
 exact y _ _ ⟨c, a, Z, _, (lb.refl _), (d.kD St), rfl, rfl, k⟩
theorem xC (c : Nat) (i : Value) (D : List Int) (a : LO) (x : kA) (r : (Bool × (List Int))) (w : World) {μ0 : lq} (h0 : pY μ0 ((c, Ob #[i] 81) :: (a ++ [])) w) (y : kZ 5 (lM .u8) 1 i D a) (hm : pc D x = some r) :
  mn true pg0 94 [(.pointer (some ⟨c, 0, none⟩)), (.agg (kC x).toArray)] w ((c, Ob #[i] 81) :: (a ++ [])) (fun v L1 W' => ∃ A S2, v = (.bool (r.1)) ∧ L1 = ((c, Ob #[A] 81) :: (S2 ++ [])) ∧ kZ 5 (lM .u8) 1 A r.2 S2) := by
 let n := ((c, Ob #[i] 81) :: (a ++ []))
 refine zX h0 23 func94 rfl (fun d => sg (VE (lF d rfl (fun W2 o d => Wa (lr (Wm (V (CU fu rfl rfl) (Wm (Vg rfl rfl (kE rfl (kL d.has Mh (kC x) rfl aO aC)) (bS hm fun r3 c4 hm => SR rfl rfl (Eg d jE (sM x _ _  c4) (fun W5 d => ?_))))))))))))
 refine V (kX rfl rfl) (Wm (LJ hm (fun T E W => ∃ z u B a0, lb μ0 B ∧ ST true (keys n) w W B ((o, Ol (kC x) 28) :: ((c, Ob #[z] 81) :: (u ++ a0))) ∧ E 0 = (.pointer (some ⟨c, 0, none⟩)) ∧ E 3 = (.pointer (some ⟨o, 0, none⟩)) ∧ E 4 = (.bool false) ∧ E 16 = (.bool T.1) ∧ kZ 5 (lM .u8) 1 z T.2 u) 5 ?_ (fun T t K => ?_)))
 ·rintro ⟨e6, c5⟩ E W ⟨z, u, B, a0, d2, d, c0, c1, a3, c2, N⟩ L
  refine Wh c2 (LJ L (fun Q E W => ∃ M I U a2, lb B U ∧ ST true (keys n) w W U ((c, Ob #[M] 81) :: (I ++ a2)) ∧ E 4 = (.bool false) ∧ E 22 = (.bool Q.1) ∧ kZ 5 (lM .u8) 1 M Q.2 I) 5 ?_ (fun Q k J => ?_))
  ·rintro ⟨c6, e1⟩ E W ⟨M, I, U, a2, d3, d, e0, c3, b0⟩ P
   refine Wg c3 (lt ?_)
   obtain rfl := sj P
   exact lQ (v := (.bool c6)) rfl rfl ⟨_, _, rfl, (d.mQ (Kb (Kr Sn))), M, I, rfl, rfl, b0⟩
  refine bC k (fun g k => ?_) (fun g k => ?_)
  ·refine ug g (kM c0) (ug g (kH uo c1) (ug g (kE rfl (kR d.has Mh rfl aY)) (bS k fun e2 R k => ?_)))
   refine qy g (eM d (Cb (Pb Pz) (Cr (Qb Qz) Cn)) call162 (fun m _ => (yO c z c5 u x.kU _ _ m N R)) ?_)
   rintro _ e4 d0 d6 d Y q h ⟨c8, b6, G, rfl, b2⟩
   obtain rfl := G.symm
   replace d := d.perm (Tb (Tr Tn))
   refine V (kX (cB g) rfl) ?_
   obtain rfl := sj k
   exact J _ _ ⟨c8, b6, d0, _, Y, (d.kD (Kb (Kr (Db St)))), a3, rfl, b2⟩
  refine un g (un g (un g (un g (V (kW (cB g) rfl) ?_))))
  obtain rfl := sj k
  exact J _ _ ⟨z, u, B, _, (lb.refl _), (d.kD (Db St)), a3, rfl, N⟩
 refine bC t (fun j t => ?_) (fun j t => ?_)
 ·refine ug j (kM rfl) (ug j (kH oF rfl) (ug j (kE rfl (kR d.has Mh rfl aY)) (bS t fun e3 a9 t => ?_)))
  refine qy j (eM d (Cb (Pb Pz) (Cr (Qb Qz) Cn)) call162 (fun m _ => (yO c i D a x.kI _ _ m y a9)) ?_)
  rintro _ e5 d1 d7 d Z s h ⟨c9, b7, H, rfl, b3⟩
  obtain rfl := H.symm
  replace d := d.perm (Tb (Tr Tn))
  refine V (kX (cB j) rfl) ?_
  obtain rfl := sj t
  exact K _ _ ⟨c9, b7, d1, _, Z, (d.kD (Sb (Pb (Pr Pz)) St)), rfl, rfl, rfl, rfl, b3⟩
 refine un j (un j (un j (un j (V (kW (cB j) rfl) ?_))))
 obtain rfl := sj t
 exact K _ _ ⟨i, a, μ0, _, (lb.refl _), (d.kD St), rfl, rfl, rfl, rfl, y⟩
theorem Cv (g : Value) (i r : List Int) (w : World) (a : Sl (Pl (lM .u8)) 1 (hp w) g i) (hm : pL i = some r) :
  lT true pg0 96 [g] w 5 (lM .u8) 1 r := by
 unfold pL at hm
 refine tT 8 func96 rfl (fun d => sg (Wa (lS (Wm ?_))))
 obtain ⟨y, B, rfl⟩ := a.form
 refine V (Ed cw rfl rfl) (ln ?_)
 rcases y with _ | z
 ·have u := a.isNil
  replace hm : some [] = some r := by rw [u] at hm; simpa [mM, maxLen] using hm
  refine zj (rfl) (sg (Wa (lt (lm ?_))))
  obtain rfl := sj hm
  exact lQ (v := (.slice none 0 0)) rfl rfl ⟨_, [], rfl, d.mV (fun p h => by cases h) (by simp), kZ.nil _ _ _⟩
 ·refine qx (rfl) (kg (VE (lj (cs := #[]) d vj (zK [] cw iZ kj dc rfl (by simp) rfl rfl) (fun G k d => Wm (bS hm fun H t hm => VE (mD (enc := (lM .u8)) (v := (.slice (some ⟨k, 0, none⟩) 0 0)) (vs := (.slice (some z) i.length B)) (R := [(k, Ob #[] 5)]) d (fun _ => rfl) dc (Jo _) cw uF.1 uF.2.1 rfl uF.2.2.1 uF.2.2.2 rfl rfl (kZ.lit (l := []) (enc := (lM .u8)) rfl dc rfl rfl) (a.mono (Pl.mono _) d.kN) t (fun D x j d c => Wa (lt ?_))))))))
  obtain rfl := sj hm
  exact lQ (v := x) rfl rfl ⟨_, j, rfl, d.mV (fun p h => (Ml h)) c.nd, c⟩
theorem AI (g : Nat) (a : Value) (c r : List Int) (w : World) (j : Sl (Pl (lM .u8)) 1 (hp w) a c) (k : At (hp w) (.pointer (some ⟨g, 0, none⟩)) [a]) (hm : qo c = some r) :
  lT true pg0 37 [(.pointer (some ⟨g, 0, none⟩))] w 5 (lM .u8) 1 r := by
 refine tT 10 func37 rfl (fun d => sg (Wa (lS (Wm (V (uc fu rfl rfl) (ln (qx rfl (lG ?_))))))))
 refine kK (sg (Wm (Wn (VQ (zf [a] Bh rfl k rfl) (fun G u => V (kE rfl (nh d.has (y := a) u fR)) (bS hm fun H x hm => VE (qu d call96 (Cv a c _ _ (j.mono (Pl.mono _) d.kN) x) (fun D z I t d B h i => Wa (lt ?_)))))))))
 obtain rfl := sj hm
 exact lQ (v := z) rfl rfl ⟨_, t, rfl, d.mV (fun p m => (Ml m)) i.nd, i⟩
theorem DU (c : kB) (r : List Int) (w : World) (hm : vV c = some r) :
  lT true pg0 161 [(.agg (kG c).toArray)] w 5 (lM .u8) 1 r := by
 refine tT 53 func161 rfl (fun d => sg (VE (lF d rfl (fun W2 b1 d => Wa (lS (VA d Mh (kG c) bM aM (bS hm fun r3 g3 hm => VE (Eg d ki (uv c _ _  g3) (fun W5 d => V (nr rfl) (lo ?_))))))))))
 refine kK (CI hm rfl (fun g0 hm => ?_) (fun g0 hm => ?_))
 ·refine sg (Wa (ln ?_))
  replace d := d.kD (Db St)
  refine lx (lm ?_)
  obtain rfl := sj hm
  exact lQ (v := (.slice none 0 0)) rfl rfl ⟨_, [], rfl, d.mV (fun p n => by cases n) (by simp), kZ.nil _ _ _⟩
 refine kg (V (nm (v := (.agg #[(.slice none 0 0)])) vj (mE zeroValue81 fq (TG _ fq) kr)) (VE (lF d rfl (fun W8 g d => Wa (lr (Wm (Wf om (VB d (Mt Mh) rfl rfl cH (bS hm fun r9 e2 hm => ?_)))))))))
 refine VE (eM d (Cb Pz (C0 Cn)) call93 (fun m _ => (qY g (.slice none 0 0) ([]) [] c.Kind _ _ m (kZ.nil _ _ _) e2)) ?_)
 rintro _ k3 k5 j9 d g7 a7 h ⟨g4, f9, I, rfl, e4⟩
 obtain rfl := I.symm
 replace d := d.perm (Tb (Tr Tn))
 refine lr (Wm (Wf oD (VA d (Mt (Ma Mh)) (kC c.Head) aO aC (bS hm fun N e3 hm => ?_))))
 refine VE (eM d (Cb Pz (Cr Qz Cn)) call94 (fun m _ => (xC g g4 r9.2 f9 c.Head _ _ m e4 e3)) ?_)
 rintro _ k4 d1 k0 d g8 a8 h ⟨G, D, J, rfl, i⟩
 obtain rfl := J.symm
 replace d := d.perm (Tb (Tr Tn))
 refine ln (kV (CJ hm (fun a3 E W => ∃ B H K Q, lb d1 K ∧ ST true lu w W K ((g, Ob #[B] 81) :: (H ++ Q)) ∧ E 3 = (.pointer (some ⟨g, 0, none⟩)) ∧ kZ 5 (lM .u8) 1 B a3 H) (fun a3 a => ?_) ?_))
 ·refine sg (Wf om (VB d (Mt (Ma Mh)) rfl rfl cH (ln (bg (Wi rfl (Wa (ln (CI a rfl (fun b0 a => ?_) (fun b0 a => ?_)))))))))
  ·refine kT (Wm (Wf sW (VB d (Mt (Ma Mh)) rfl rfl aY (bS a fun i3 b6 a => ?_))))
   refine VE (eM d (Cb Pz (Cr Qz Cn)) call162 (fun m _ => (yO g G N.2 D c.ly _ _ m i b6)) ?_)
   rintro _ i8 f5 g9 d T s h ⟨e9, d3, k, rfl, c5⟩
   obtain rfl := k.symm
   replace d := d.perm (Tb (Tr Tn))
   refine lo (lA (kK ?_))
   obtain rfl := sj a
   exact ⟨e9, d3, f5, _, T, (d.kD (Kb (Kr (Db St)))), rfl, c5⟩
  refine sg (Wi rfl (Wa (ln (CI a rfl (fun b2 a => ?_) (fun b2 a => ?_)))))
  ·refine kT (Wm (Wf mW (VA d (Mt (Ma Mh)) (kC c.B) aO aC (bS a fun i4 b9 a => ?_))))
   refine VE (eM d (Cb Pz (Cr Qz Cn)) call94 (fun m _ => (xC g G N.2 D c.B _ _ m i b9)) ?_)
   rintro _ i9 f6 h0 d U A h ⟨f0, d4, t, rfl, c6⟩
   obtain rfl := t.symm
   replace d := d.perm (Tb (Tr Tn))
   refine lo (lA (kK ?_))
   obtain rfl := sj a
   exact ⟨f0, d4, f6, _, U, (d.kD (Kb (Kr (Db St)))), rfl, c6⟩
  refine sg (Wi rfl (Wa (ln (CI a rfl (fun b3 a => ?_) (fun b3 a => ?_)))))
  ·refine sg (Wm (Wf mW (VA d (Mt (Ma Mh)) (kC c.B) aO aC (bS a fun e6 c0 a => ?_))))
   refine VE (eM d (Cb Pz (Cr Qz Cn)) call94 (fun m _ => (xC g G N.2 D c.B _ _ m i c0)) ?_)
   rintro _ j0 j7 h1 d Y L h ⟨f1, d5, u, rfl, c7⟩
   obtain rfl := u.symm
   replace d := d.perm (Tb (Tr Tn))
   refine ln (kT (Wm (Wf rX (VB d (Mt (Ma Mh)) rfl rfl aY (bS a fun i5 c1 a => ?_)))))
   refine VE (eM d (Cb Pz (Cr Qz Cn)) call162 (fun m _ => (yO g f1 e6.2 d5 c.lU _ _ m c7 c1)) ?_)
   rintro _ j3 f7 h2 d Z P h ⟨f2, d6, x, rfl, c8⟩
   obtain rfl := x.symm
   replace d := d.perm (Tb (Tr Tn))
   refine lo (lA (kK ?_))
   obtain rfl := sj a
   exact ⟨f2, d6, f7, _, (Y.trans Z), (d.kD (Kb (Kr (Db St)))), rfl, c8⟩
  refine sg (Wi rfl (Wa (ln (CI a rfl (fun b4 a => ?_) (fun b4 a => ?_)))))
  ·refine sg (Wm (Wf mW (VA d (Mt (Ma Mh)) (kC c.B) aO aC (bS a fun e7 c2 a => ?_))))
   refine VE (eM d (Cb Pz (Cr Qz Cn)) call94 (fun m _ => (xC g G N.2 D c.B _ _ m i c2)) ?_)
   rintro _ j4 j8 h3 d a1 R h ⟨f3, d7, y, rfl, c9⟩
   obtain rfl := y.symm
   replace d := d.perm (Tb (Tr Tn))
   refine ln (kT (Wm (Wf pO (VA d (Mt (Ma Mh)) (kC c.C) aO aC (bS a fun i6 c3 a => ?_)))))
   refine VE (eM d (Cb Pz (Cr Qz Cn)) call94 (fun m _ => (xC g f3 e7.2 d7 c.C _ _ m c9 c3)) ?_)
   rintro _ j5 f8 h4 d a2 a6 h ⟨f4, d8, z, rfl, d0⟩
   obtain rfl := z.symm
   replace d := d.perm (Tb (Tr Tn))
   refine lo (lA (kK ?_))
   obtain rfl := sj a
   exact ⟨f4, d8, f8, _, (a1.trans a2), (d.kD (Kb (Kr (Db St)))), rfl, d0⟩
  refine lG (lA (kK ?_))
  obtain rfl := sj a
  exact ⟨G, D, d1, _, (lb.refl _), (d.kD (Kb (Kr (Db St)))), rfl, i⟩
 rintro e5 E W ⟨B, H, K, Q, g1, d, d9, c4⟩ j
 refine sg (Wh d9 (bS j fun i2 b5 j => VE (qu d call37 (AI g B e5 _ _ (c4.sl (fun _ => rfl) (fun b o n => d.at_ (Mt (Ml n)))) (At.of (d.at_ Mh) _ rfl) b5) (fun h5 e8 j6 d2 d g2 q M => Wa (ln ?_)))))
 replace d := d.kD (Kr (Db (Dr St)))
 refine lx ?_
 obtain rfl := sj j
 exact lQ (v := e8) rfl rfl ⟨_, d2, rfl, d.mV (fun p n => (Ml n)) M.nd, M⟩
theorem XP (w : World) {c d : Value} {a b : List Int} (h1 : Sl (Pl (lM .u8)) 1 (hp w) c a) (g : Sl (Pl (lM .u8)) 1 (hp w) d b) : (callFunc 227 [c, d].toArray).run pg0 w = .ok (.value (.int .i64 (AR a b))) w := Ub func227 (by kernel_rfl) (by kernel_rfl) (by kernel_rfl) (by kernel_rfl) h1 g
theorem JF (a : Value) (g : List Int) (c : Value) (i : List Int) (r : Int) (w : World) (j : Sl (Pl (lM .u8)) 1 (hp w) a g) (k : Sl (Pl (lM .u8)) 1 (hp w) c i) (hm : Br g i = some r) :
  lg true pg0 180 [a, c] w (.int .i64 r) := by
 exact cG 8 func180 rfl (fun d => sg (Wa (lr (Wm (Wm (VE (QZ (args := [a, c]) (v := .int .i64 (AR g i)) rfl (by exact pM rfl rfl) (XP _ (j.mono (Pl.mono _) d.kN) (k.mono (Pl.mono _) d.kN)) (Wa (lt (rQ hm d))))))))))
theorem Kw (g i : kB) (r : Int) (w : World) (hm : vJ g i = some r) :
  lg true pg0 117 [(.agg (kG g).toArray), (.agg (kG i).toArray)] w (.int .i64 r) := by
 refine cG 10 func117 rfl (fun d => sg (VE (lF d rfl (fun T Y d => VE (lF d rfl (fun U Z d => Wa (ln (kV ?_))))))))
 replace d := d.drew
 have h := d.has.kD (Kb (Kb Sn))
 refine lN h lB (XH 0 rfl h (fun _ m => kE rfl (kL m (Mt Mh) (kG g) rfl bM aM)) (XH 2 rfl h (fun _ m => kE rfl (kL m Mh (kG i) rfl bM aM)) (bS hm fun y t hm => XE 1 rfl (qu d call161 (DU g _ _  t) (fun I B N G d a q j => ?_)))))
 have h := d.has.sL a (Dr (Kb (Kb Sn)))
 refine ⟨h, (bS hm fun z u hm => XE 3 rfl (qu d call161 (DU i _ _  u) (fun J D Q H d c s k => ?_)))⟩
 have h := d.has.sL (a.trans c) (Dr (Dr (Kb (Kb Sn))))
 refine ⟨h, (bS hm fun M x hm => XE 4 rfl (Eg d call180 (JF B y D z _ _ (j.sl (fun _ => rfl) (fun b o n => d.at_ (Ma (Ml n)))) (k.sl (fun _ => rfl) (fun b o n => d.at_ (Ml n))) x) (fun K d => ?_)))⟩
 have h := d.has.sL (a.trans c) (Dr (Dr (Kb (Kb Sn))))
 refine ⟨h, (X 5 rfl h (nH rfl) (me kr (kK ?_)))⟩
 exact lx (rQ hm d)
theorem FL (j : Value) (a0 : List kB) (x : LO) (r : List kB) (w : World) {μ0 : lq} (h0 : pY μ0 (x ++ []) w) (B : kZ 108 kG 9 j a0 x) (hm : uG a0 = some r) :
  mn true pg0 118 [j] w (x ++ []) (fun v L1 W' => ∃ y1 S2, v = y1 ∧ L1 = (S2 ++ []) ∧ kZ 108 kG 9 y1 r S2) := by
 refine zX h0 61 func118 rfl (fun d => sg (Wa (lS (Wm (V (mR aW rfl B) (Wi rfl (ln (CI hm rfl (fun g0 hm => ?_) (fun g0 hm => ?_)))))))))
 ·refine sg (Wm (Wa (lt (lm ?_))))
  obtain rfl := sj hm
  exact lQ (v := j) rfl rfl ⟨_, _, rfl, (d.mQ (Kr Sn)), j, x, rfl, rfl, B⟩
 refine kS (Wa (ln (mP (ou (fun m E W => ∃ t b4, ST true (keys (x ++ [])) w W μ0 (x ++ b4) ∧ E 0 = j ∧ E 3 = (.int .i64 t) ∧ pg a0 m t = some r) lE ⟨1, _, (d.kD St), rfl, rfl, hm⟩ ?_))))
 rintro m E W ⟨t, b4, d, D, H, a⟩
 cases m with
 | zero => rw [pg] at a; cases a
 | succ f5 =>
  refine kV (sg (Wh H (Wh D (V (mR aW rfl B) (Wi rfl (ln (CI a rfl (fun d0 a => ?_) (fun d0 a => ?_))))))))
  ·refine kn (kV (mP (kV ?_)))
   replace d := d.drew
   have h := d.has.kD (Kr Sn)
   refine lN h lB (X 0 rfl h (kM D) (X 1 rfl h (kM H) (bS a fun c3 Z a => XQ 2 rfl h (mF (i := t) (x0 := c3) aW aM rfl rfl B (mi Z) (lR Z)) (fun g7 d6 => XH 3 rfl h (fun _ o => kE rfl (oy o (fun p n => (Ml n)) B mT d6 (lR Z) bM aM)) (X 4 rfl h (kM D) (X 5 rfl h (kM H) (X 6 rfl h (lK rfl rfl rfl) (bS a fun c4 q a => XQ 7 rfl h (mF (i := (wi0 .i64 (t - 1))) (x0 := c4) aW aM rfl rfl B (mi q) (lR q)) (fun g8 d7 => XH 8 rfl h (fun _ o => kE rfl (oy o (fun p n => (Ml n)) B mT d7 (lR q) bM aM)) (X 9 rfl h (vt rfl rfl (ns jq) (qH (DR _ c3 c4))) (me kr (kK ?_))))))))))))
   refine CI a rfl (fun d1 a => ?_) (fun d1 a => ?_)
   ·refine sg (Wh D (Wh H (bS a fun _ P a => VQ (tW (i := t) aW aM rfl rfl B (qW P) (qR P)) (fun c1 M => Wa (lS (Wa (ln ?_)))))))
    refine CJ a (fun U E W => ∃ s b5, ST true (keys (x ++ [])) w W μ0 (s ++ b5) ∧ E 0 = j ∧ E 3 = (.int .i64 U.2) ∧ kZ 108 kG 9 j U.1 s) (fun U d4 => ?_) ?_
    ·refine mP (ou (fun m E W => ∃ A K Y y b6, ST true (keys (x ++ [])) w W μ0 (K ++ b6) ∧ E 0 = j ∧ E 3 = (.int .i64 Y) ∧ E 4 = c1 ∧ E 5 = (.int .i64 y) ∧ kZ 108 kG 9 j A K ∧ pa t m A Y y = some U) lE ⟨a0, x, t, 1, _, (d.kD St), D, H, rfl, rfl, B, d4⟩ ?_)
     rintro m E W ⟨A, K, Y, y, b6, d, Q, T, I, J, g, k⟩
     cases m with
     | zero => rw [pa] at k; cases k
     | succ f6 =>
      refine kV (sg (Wh J (Wh I (V (Hd aW rfl M g) (Wi rfl (ln (CI k rfl (fun d2 k => ?_) (fun d2 k => ?_))))))))
      ·refine kn (kV (CJ k (fun L E W => ∃ N b7, ST true (keys (x ++ [])) w W μ0 (N ++ b7) ∧ E 0 = j ∧ E 3 = (.int .i64 L.2) ∧ E 4 = c1 ∧ E 5 = (.int .i64 y) ∧ kZ 108 kG 9 j L.1 N) (fun L c => ?_) ?_))
       ·refine mP (kV ?_)
        replace d := d.drew
        have h := d.has.kD (Kr Sn)
        refine lN h lB (X 0 rfl h (kM I) (X 1 rfl h (kM J) (bS c fun c6 a2 c => XQ 2 rfl h (ue (i := y) (x0 := c6) aW aM rfl rfl g M (mi a2) (lR a2)) (fun g9 d8 => XH 3 rfl h (fun _ o => kE rfl (oy o (fun p n => (Ml n)) g mT d8 (xi (lR a2)) bM aM)) (X 4 rfl h (kM I) (X 5 rfl h (kM J) (X 6 rfl h (lK rfl rfl rfl) (bS c fun c7 a3 c => XQ 7 rfl h (ue (i := (wi0 .i64 (y - 1))) (x0 := c7) aW aM rfl rfl g M (mi a3) (lR a3)) (fun h1 d9 => XH 8 rfl h (fun _ o => kE rfl (oy o (fun p n => (Ml n)) g mT d9 (xi (lR a3)) bM aM)) (X 9 rfl h (Gp rfl rfl (ns jq) (BD (DR _ c6 c7))) (me kr (kK ?_))))))))))))
        refine CI c rfl (fun d3 c => ?_) (fun d3 c => ?_)
        ·refine sg (Wh Q (Wh T (Wh I (Wh J (bS c fun a9 a4 c => VQ (ue (i := y) (x0 := a9) aW aM rfl rfl g M (mi a4) (lR a4)) (fun h2 e0 => V (kE rfl (oy d.has (fun p n => (Ml n)) g mT e0 (xi (lR a4)) bM aM)) (bS c fun f8 a5 c => VQ (mF (i := Y) (x0 := f8) aW aM rfl rfl g (mi a5) (lR a5)) (fun h3 e1 => VO (zi (u := (.agg (kG a9).toArray)) (x1 := a9)  d g mT nQ rfl rfl rfl e1 (lR a5) aM (fun g3 e8 d c9 => ln (kT ?_)))))))))))
         refine Wh T (Wi rfl (Wa (lo (lA (kK ?_)))))
         obtain rfl := sj c
         exact ⟨e8, _, (d.kD St), Q, rfl, I, J, c9⟩
        refine lG (lA (kK ?_))
        obtain rfl := sj c
        exact ⟨K, _, (d.kD St), Q, T, I, J, g⟩
       rintro ⟨f4, f7⟩ E W ⟨N, b7, d, f0, f1, f2, f3, e4⟩ d5
       exact kT (Wh f3 (Wi rfl (Wa (ln ⟨f6, bT _, f4, N, f7, (wi0 .i64 (y + 1)), _, (d.kD St), f0, f1, f2, rfl, e4, d5⟩))))
      refine ot (nT (nT (uj (kK ?_))))
      obtain rfl := sj k
      exact ⟨K, _, (d.kD St), Q, T, g⟩
    rintro ⟨g4, c5⟩ E W ⟨s, b5, d, b9, c0, b3⟩ G
    refine sg (Wh b9 (Wh c0 (bS G fun _ R G => VQ (tW (i := c5) aW aM rfl rfl b3 (qW R) (qR R)) (fun h4 e2 => VO (yr (z := K7)  d b3 mT nQ aW cg e2 rfl rfl (fun g2 e7 d c8 => lr (Wh b9 (Wh c0 (bS G fun _ b2 G => VQ (um (i := c5) aW aM rfl rfl c8 mT (qW b2) (qR b2)) (fun c2 e3 => ?_))))))))))
    refine Wa (lt (mu (lm (lm (mu (lm ?_))))))
    obtain rfl := sj G
    exact lQ (v := c2) rfl rfl ⟨_, _, rfl, (d.mQ (Kr Sn)), c2, e7, rfl, rfl, e3⟩
   exact lG (lA (kK (kT (Wh H (Wi rfl (Wa (ln ⟨f5, bT _, (wi0 .i64 (t + 1)), _, (d.kD St), D, rfl, a⟩)))))))
  refine ot (nT (nT (uj (kK (sg (Wh D (Wa (lt ?_))))))))
  obtain rfl := sj a
  exact lQ (v := j) rfl rfl ⟨_, _, rfl, (d.mQ (Kr Sn)), j, x, rfl, rfl, B⟩
theorem QK (i : Value) (t r : List kB) (w : World) (B : Sl (Pl kG) 9 (hp w) i t) (hm : Bi t = some r) :
  lT false pg0 51 [i] w 108 kG 9 r := by
 refine tT 11 func51 rfl (fun d => sg (Wa (lr (Wm (bS hm fun z T hm => VE (qu d call113 (lT.mz (GS i t _ _ (B.mono (Pl.mono _) d.kN) T)) (fun W3 v7 A R8 d a5 s Q => bS hm fun U D hm => ?_)))))))
 refine VE (eM d (Cr Qz Cn) call112 (fun m _ => (DQ v7 z R8 (.func (.func 114) #[] #[]) (fun (x : kB) => Ap x) _ _ m Q ⟨114, #[], #[], rfl, call114, fun W x r y hm => (Mc x r W  hm).mz⟩ D)) ?_)
 rintro _ b5 b9 L d E n h ⟨k, K, a, rfl, I⟩
 obtain rfl := a.symm
 replace d := d.perm (Tr Tn)
 refine Wa (lr (Wm (bS hm fun Y G hm => ?_)))
 refine VE (eM d (Cr Qz Cn) call116 (fun m _ => mn.mz (QE k U K (.func (.func 117) #[] #[]) (fun (x : (kB × kB)) => vJ x.1 x.2) _ _ m I ⟨117, #[], rfl, call117, fun W x r y hm => Kw x.1 x.2 r W  hm⟩ G)) ?_)
 rintro _ b6 c0 a9 d a2 o h ⟨M, c, rfl, J⟩
 obtain rfl := c.symm
 replace d := d.perm (Tr Tn)
 refine lr (Wm (bS hm fun R H hm => ?_))
 refine VE (eM d (Cr Qz Cn) call118 (fun m _ => mn.mz (FL k Y M _ _ m J H)) ?_)
 rintro _ b7 c1 P d a3 q h ⟨Z, N, g, rfl, j⟩
 obtain rfl := g.symm
 replace d := d.perm (Tr Tn)
 refine Wa (lt ?_)
 obtain rfl := sj hm
 exact lQ (v := Z) rfl rfl ⟨_, N, rfl, d.mV (fun p u => (Ml u)) j.nd, j⟩
theorem QY (c : Value) (i : List ByteArray) (a : LO) (r : List ByteArray) (w : World) {t : lq} (k : pY t (a ++ []) w) (g : kZ 9 nu 1 c i a) (hm : Ib i = some r) :
  mn true pg0 182 [c] w (a ++ []) (fun v j W' => ∃ S, v = (.tuple #[]) ∧ j = (S ++ []) ∧ kZ 9 nu 1 c r S) := OQ (P := pg0) (ρ := Sh) Te k.H g hm
theorem D1 (j : Value) (a0 : List ByteArray) (x : LO) (r : List ByteArray) (w : World) {μ0 : lq} (h0 : pY μ0 (x ++ []) w) (D : kZ 9 nu 1 j a0 x) (hm : qK a0 = some r) :
  mn true pg0 239 [j] w (x ++ []) (fun v L1 W' => ∃ y1 S2, v = y1 ∧ L1 = (S2 ++ []) ∧ kZ 9 nu 1 y1 r S2) := by
 refine zX h0 61 func239 rfl (fun d => sg (Wa (lS (Wm (V (mR bJ rfl D) (Wi rfl (ln (CI hm rfl (fun g1 hm => ?_) (fun g1 hm => ?_)))))))))
 ·refine sg (Wm (Wa (lt (lm ?_))))
  obtain rfl := sj hm
  exact lQ (v := j) rfl rfl ⟨_, _, rfl, (d.mQ (Kr Sn)), j, x, rfl, rfl, D⟩
 refine kS (Wa (ln (mP (ou (fun m E W => ∃ t b5, ST true (keys (x ++ [])) w W μ0 (x ++ b5) ∧ E 0 = j ∧ E 3 = (.int .i64 t) ∧ oB a0 m t = some r) lE ⟨1, _, (d.kD St), rfl, rfl, hm⟩ ?_))))
 rintro m E W ⟨t, b5, d, G, I, a⟩
 cases m with
 | zero => rw [oB] at a; cases a
 | succ f6 =>
  refine kV (sg (Wh I (Wh G (V (mR bJ rfl D) (Wi rfl (ln (CI a rfl (fun d1 a => ?_) (fun d1 a => ?_))))))))
  ·refine kn (kV (mP (kV ?_)))
   replace d := d.drew
   have h := d.has.kD (Kr Sn)
   refine lN h lB (X 0 rfl h (kM G) (X 1 rfl h (kM I) (bS a fun c4 a2 a => XQ 2 rfl h (mF (i := t) (x0 := c4) bJ dl rfl rfl D (mi a2) (lR a2)) (fun g8 d7 => XH 3 rfl h (fun _ o => kE rfl (uU o (fun p n => (Ml n)) D (fun _ => rfl) d7 (lR a2) (y := (.string c4)) rfl aY)) (X 4 rfl h (kM G) (X 5 rfl h (kM I) (X 6 rfl h (lK rfl rfl rfl) (bS a fun c5 a3 a => XQ 7 rfl h (mF (i := (wi0 .i64 (t - 1))) (x0 := c5) bJ dl rfl rfl D (mi a3) (lR a3)) (fun g9 d8 => XH 8 rfl h (fun _ o => kE rfl (uU o (fun p n => (Ml n)) D (fun _ => rfl) d8 (lR a3) (y := (.string c5)) rfl aY)) (X 9 rfl h (se rfl rfl rfl) (me kr (kK ?_))))))))))))
   refine CI a rfl (fun d2 a => ?_) (fun d2 a => ?_)
   ·refine sg (Wh G (Wh I (bS a fun _ R a => VQ (tW (i := t) bJ dl rfl rfl D (qW R) (qR R)) (fun c2 N => Wa (lS (Wa (ln ?_)))))))
    refine CJ a (fun Y E W => ∃ L b6, ST true (keys (x ++ [])) w W μ0 (L ++ b6) ∧ E 0 = j ∧ E 3 = (.int .i64 Y.2) ∧ kZ 9 nu 1 j Y.1 L) (fun Y d5 => ?_) ?_
    ·refine mP (ou (fun m E W => ∃ a9 M Z B b7, ST true (keys (x ++ [])) w W μ0 (M ++ b7) ∧ E 0 = j ∧ E 3 = (.int .i64 Z) ∧ E 4 = c2 ∧ E 5 = (.int .i64 B) ∧ kZ 9 nu 1 j a9 M ∧ oC t m a9 Z B = some Y) lE ⟨a0, x, t, 1, _, (d.kD St), G, I, rfl, rfl, D, d5⟩ ?_)
     rintro m E W ⟨a9, M, Z, B, b7, d, T, U, J, K, g, k⟩
     cases m with
     | zero => rw [oC] at k; cases k
     | succ f7 =>
      refine kV (sg (Wh K (Wh J (V (Hd bJ rfl N g) (Wi rfl (ln (CI k rfl (fun d3 k => ?_) (fun d3 k => ?_))))))))
      ·refine kn (kV (CJ k (fun P E W => ∃ Q b9, ST true (keys (x ++ [])) w W μ0 (Q ++ b9) ∧ E 0 = j ∧ E 3 = (.int .i64 P.2) ∧ E 4 = c2 ∧ E 5 = (.int .i64 B) ∧ kZ 9 nu 1 j P.1 Q) (fun P c => ?_) ?_))
       ·refine mP (kV ?_)
        replace d := d.drew
        have h := d.has.kD (Kr Sn)
        refine lN h lB (X 0 rfl h (kM J) (X 1 rfl h (kM K) (bS c fun c7 a4 c => XQ 2 rfl h (ue (i := B) (x0 := c7) bJ dl rfl rfl g N (mi a4) (lR a4)) (fun h1 d9 => XH 3 rfl h (fun _ o => kE rfl (uU o (fun p n => (Ml n)) g (fun _ => rfl) d9 (xi (lR a4)) (y := (.string c7)) rfl aY)) (X 4 rfl h (kM J) (X 5 rfl h (kM K) (X 6 rfl h (lK rfl rfl rfl) (bS c fun c8 a5 c => XQ 7 rfl h (ue (i := (wi0 .i64 (B - 1))) (x0 := c8) bJ dl rfl rfl g N (mi a5) (lR a5)) (fun h2 e0 => XH 8 rfl h (fun _ o => kE rfl (uU o (fun p n => (Ml n)) g (fun _ => rfl) e0 (xi (lR a5)) (y := (.string c8)) rfl aY)) (X 9 rfl h (se rfl rfl rfl) (me kr (kK ?_))))))))))))
        refine CI c rfl (fun d4 c => ?_) (fun d4 c => ?_)
        ·refine sg (Wh T (Wh U (Wh J (Wh K (bS c fun q s c => VQ (ue (i := B) (x0 := q) bJ dl rfl rfl g N (mi s) (lR s)) (fun h3 e1 => V (kE rfl (uU d.has (fun p n => (Ml n)) g (fun _ => rfl) e1 (xi (lR s)) (y := (.string q)) rfl aY)) (bS c fun f9 A c => VQ (mF (i := Z) (x0 := f9) bJ dl rfl rfl g (mi A) (lR A)) (fun h4 e2 => VO (zi (u := (.string q)) (x1 := q)  d g (fun _ => rfl) E2 rfl rfl rfl e2 (lR A) dl (fun g4 e9 d d0 => ln (kT ?_)))))))))))
         refine Wh U (Wi rfl (Wa (lo (lA (kK ?_)))))
         obtain rfl := sj c
         exact ⟨e9, _, (d.kD St), T, rfl, J, K, d0⟩
        refine lG (lA (kK ?_))
        obtain rfl := sj c
        exact ⟨M, _, (d.kD St), T, U, J, K, g⟩
       rintro ⟨f5, f8⟩ E W ⟨Q, b9, d, f1, f2, f3, f4, e5⟩ d6
       exact kT (Wh f4 (Wi rfl (Wa (ln ⟨f7, bT _, f5, Q, f8, (wi0 .i64 (B + 1)), _, (d.kD St), f1, f2, f3, rfl, e5, d6⟩))))
      refine ot (nT (nT (uj (kK ?_))))
      obtain rfl := sj k
      exact ⟨M, _, (d.kD St), T, U, g⟩
    rintro ⟨g7, c6⟩ E W ⟨L, b6, d, c0, c1, b4⟩ H
    refine sg (Wh c0 (Wh c1 (bS H fun _ b2 H => VQ (tW (i := c6) bJ dl rfl rfl b4 (qW b2) (qR b2)) (fun h5 e3 => VO (yr (z := zS)  d b4 (fun _ => rfl) E2 bJ jr e3 rfl rfl (fun g3 e8 d c9 => lr (Wh c0 (Wh c1 (bS H fun _ b3 H => VQ (um (i := c6) bJ dl rfl rfl c9 (fun _ => rfl) (qW b3) (qR b3)) (fun c3 e4 => ?_))))))))))
    refine Wa (lt (mu (lm (lm (mu (lm ?_))))))
    obtain rfl := sj H
    exact lQ (v := c3) rfl rfl ⟨_, _, rfl, (d.mQ (Kr Sn)), c3, e8, rfl, rfl, e4⟩
   exact lG (lA (kK (kT (Wh I (Wi rfl (Wa (ln ⟨f6, bT _, (wi0 .i64 (t + 1)), _, (d.kD St), G, rfl, a⟩)))))))
  refine ot (nT (nT (uj (kK (sg (Wh G (Wa (lt ?_))))))))
  obtain rfl := sj a
  exact lQ (v := j) rfl rfl ⟨_, _, rfl, (d.mQ (Kr Sn)), j, x, rfl, rfl, D⟩
theorem Ju (H : Value) (J r : List ByteArray) (w : World) (G : Sl (Pl nu) 1 (hp w) H J) (hm : zB J = some r) :
  lT true pg0 188 [H] w 9 nu 1 r := by
 refine tT 23 func188 rfl (fun d => sg (Wa (lr (Wa (lS (Wm ?_))))))
 refine V (lJ bJ rfl G) (Wm (ln (lz (fun i E W => ∃ c t g D, (E 8 = .int .i64 (i : Nat) ∧ E 7 = .int .i64 (J.length : Nat)) ∧ ST true lu w W (hp w) (g ++ D) ∧ E 3 = c ∧ E 6 = H ∧ kZ 9 nu 1 c t g ∧ uV (J.drop i) t = some r) J.length G.len ⟨(.slice none 0 0), ([]), [], _, ⟨rfl, rfl⟩, (d.kD St), rfl, rfl, (kZ.nil _ _ _), hm⟩ dc dc dc (fun _ _ _ h => by obtain ⟨_, _, _, _, o, _⟩ := h; exact o) ?_ ?_)))
 ·rintro b7 E W a8 ⟨c, t, g, D, ⟨n, q⟩, d, j, u, x, a⟩
  obtain ⟨k, d1, b0, a9, K⟩ := ll a8
  rw [b0] at a
  refine bg (VQ (lY (enc := nu) (i := (b7 : Int)) (x0 := k) bJ dl u n G (aD _) a9) (fun c6 Y => V (kE rfl (nh d.has (y := (.string k)) Y aY)) (Wa (lr (Wm (bS a fun c7 Z a => VE (Eg d kh (uf k _ _  Z) (fun c1 d => ln ?_))))))))
  refine CI a rfl (fun T a => ?_) (fun T a => ?_)
  ·refine kT (Wh j (Wm (VE (lj (cs := [(.string k)].toArray) d (mN rfl) (mJ bJ dl jr) (fun c2 a7 d => ?_)))))
   replace d := d.perm (Nr (Qb Qz) Nz)
   refine bS a fun b1 U a => VE (mD (enc := nu) (v := c) (vs := (.slice (some ⟨a7, 0, none⟩) 1 1)) (R := g) d (fun _ => rfl) dc E2 bJ xq.1 xq.2.1 rfl xq.2.2.1 xq.2.2.2 rfl rfl x (Sl.lit (enc := nu) (l := [k]) (fun _ => rfl) rfl nb rfl (d.at_ (Ma Mh))) U (fun c3 b3 a4 d Q => Wa (lo (lA (kK ?_)))))
   replace d := d.kD (Kr (Db St))
   exact ⟨n, b3, b1, a4, _, ⟨rfl, q⟩, (d.kD St), rfl, u, Q, (by rw [K]; exact a)⟩
  exact lG (lA (kK ⟨n, c, t, g, _, ⟨rfl, q⟩, (d.kD St), j, u, x, (by rw [K]; exact a)⟩))
 rintro E W ⟨c, t, g, D, ⟨n, q⟩, d, j, u, x, a⟩
 rw [aG] at a
 refine kK (sg (Wh j (bS a fun b2 M a => ?_)))
 refine VE (eM d (Cr Qz Cn) call182 (fun s _ => (QY c t g _ _ s x M)) ?_)
 rintro _ c9 d2 b9 d b5 A m ⟨a5, z, rfl, a3⟩
 obtain rfl := z.symm
 replace d := d.perm (Tr Tn)
 refine lr (Wh j (bS a fun c8 a2 a => ?_))
 refine VE (eM d (Cr Qz Cn) call239 (fun s _ => (D1 c b2 a5 _ _ s a3 a2)) ?_)
 rintro _ d0 d3 c0 d b6 L m ⟨b4, P, B, rfl, I⟩
 obtain rfl := B.symm
 replace d := d.perm (Tr Tn)
 refine Wa (lt ?_)
 obtain rfl := sj a
 exact lQ (v := b4) rfl rfl ⟨_, P, rfl, d.mV (fun p hq => (Ml hq)) I.nd, I⟩
theorem My (B : Value) (G : List kB) (r : List ByteArray) (w : World) (y : Sl (Pl kG) 9 (hp w) B G) (hm : Ax G = some r) :
  lT true pg0 132 [B] w 9 nu 1 r := by
 refine tT 29 func132 rfl (fun d => sg (Wa (lr (Wa (lS (Wm ?_))))))
 refine V (lJ aW rfl y) (Wm (ln (lz (fun i E W => ∃ g k j t, (E 8 = .int .i64 (i : Nat) ∧ E 7 = .int .i64 (G.length : Nat)) ∧ ST true lu w W (hp w) (j ++ t) ∧ E 3 = g ∧ E 6 = B ∧ kZ 9 nu 1 g k j ∧ tK (G.drop i) k = some r) G.length y.len ⟨(.slice none 0 0), ([]), [], _, ⟨rfl, rfl⟩, (d.kD St), rfl, rfl, (kZ.nil _ _ _), hm⟩ dc dc dc (fun _ _ _ h => by obtain ⟨_, _, _, _, n, _⟩ := h; exact n) ?_ ?_)))
 ·rintro a5 E W T ⟨g, k, j, t, ⟨m, A⟩, d, u, x, z, c⟩
  obtain ⟨a, b4, Y, U, Z⟩ := ll T
  rw [Y] at c
  refine bg (VQ (lY (enc := kG) (i := (a5 : Int)) (x0 := a) aW aM x m y (aD _) U) (fun b2 J => V (kE rfl (lO d.has J bM aM)) (VE (lD d cg (fun P b1 d => VO (lh (.agg (kG a).toArray) ((kG a).toArray) d rfl rfl aM (nQ a) nb rfl (fun a7 d => ln (kT (Wh u (Wf sW (VB d Mh rfl rfl aY (Wf oD (Wf oF ?_)))))))))))))
  refine VB d Mh rfl rfl aY (Wf mW (Wf oF (VB d Mh rfl rfl aY (Wf pO (Wf oF (VB d Mh rfl rfl aY (VE (lj (cs := #[(.string a.ly), (.string a.Head.kI), (.string a.B.kI), (.string a.C.kI)]) d (NZ rfl rfl rfl rfl) (mJ bJ dl jr) (fun a8 Q d => ?_)))))))))
  replace d := d.perm (Nr (Qb (Qb Qz)) Nz)
  refine bS c fun L I c => VE (mD (enc := nu) (v := g) (vs := (.slice (some ⟨Q, 0, none⟩) 4 4)) (R := j) d (fun _ => rfl) dc E2 bJ xq.1 xq.2.1 rfl xq.2.2.1 xq.2.2.2 rfl rfl z (Sl.lit (enc := nu) (l := [a.ly, a.Head.kI, a.B.kI, a.C.kI]) (fun _ => rfl) rfl nb rfl (d.at_ (Ma Mh))) I (fun a9 a2 M d H => Wa (lo (lA (kK ?_)))))
  replace d := d.kD (Kr (Db (Db St)))
  exact ⟨m, a2, L, M, _, ⟨rfl, A⟩, (d.kD St), rfl, x, H, (by rw [Z]; exact c)⟩
 rintro E W ⟨g, k, j, t, ⟨m, A⟩, d, u, x, z, c⟩
 rw [aG] at c
 refine kK (sg (Wh u (bS c fun b3 K c => VE (qu d call188 (Ju g k _ _ (z.sl (fun _ => rfl) (fun b o s => d.at_ (Ml s))) K) (fun b0 a3 b5 N d a4 q D => Wa (ln ?_))))))
 replace d := d.kD (Kr (Dr St))
 refine lx ?_
 obtain rfl := sj c
 exact lQ (v := a3) rfl rfl ⟨_, N, rfl, d.mV (fun p s => (Ml s)) D.nd, D⟩
theorem CQ (g : Value) (t : List ByteArray) (j : Value) (D : ByteArray → Option Bool) (r : Int) (w : World) (c : Sl (Pl nu) 1 (hp w) g t) (G : tu pg0 j (hp w) (fun (x : ByteArray) => [(.string x)]) (fun (r : Bool) => (.bool r)) D) (hm : vu t D = some r) :
  lg false pg0 272 [g, j] w (.int .i64 r) := by
 refine cG 19 func272 rfl (fun d => sg (Wa (lS (Wm (V (lJ bJ rfl c) (Wm (ln (lz (fun i E W => ∃ k, (E 8 = .int .i64 (i : Nat) ∧ E 7 = .int .i64 (t.length : Nat)) ∧ ST false lu w W (hp w) k ∧ E 0 = g ∧ E 1 = j ∧ oW D (t.drop i) i = some r) t.length c.len ⟨_, ⟨rfl, rfl⟩, (d.kD St), rfl, rfl, hm⟩ dc dc dc (fun _ _ _ h => by obtain ⟨_, n, _⟩ := h; exact n) ?_ ?_))))))))
 ·rintro T E W I ⟨k, ⟨m, o⟩, d, u, z, a⟩
  obtain ⟨B, U, N, M, Q⟩ := ll I
  rw [N] at a
  refine bg (Wh m (Wa (lr (Wh z (Wh u (Wm (VQ (lY (enc := nu) (i := (T : Int)) (x0 := B) bJ dl rfl rfl c (aD _) M) (fun Z J => V (kE rfl (nh d.has (y := (.string B)) J aY)) (bS a fun q K a => ?_)))))))))
  refine VE (Bq B d G (lb.refl _) rfl (pz rfl) K (fun Y d => ln (CI a rfl (fun H a => ?_) (fun H a => ?_))))
  ·refine sg (Wm (Wa (lt (mu (lm (mu (lm ?_)))))))
   obtain rfl := sj a
   exact rP d
  exact lG (lA (kK ⟨m, _, ⟨rfl, o⟩, (d.kD St), u, z, (by rw [Q]; exact a)⟩))
 rintro E W ⟨k, ⟨m, o⟩, d, u, z, a⟩
 rw [aG] at a
 exact kK (sg (Wa (lt (rQ a d))))
theorem BS (a : Value) (g : List ByteArray) (c : Value) (i : ByteArray → Option Bool) (r : Bool) (w : World) (j : Sl (Pl nu) 1 (hp w) a g) (k : tu pg0 c (hp w) (fun (x : ByteArray) => [(.string x)]) (fun (r : Bool) => (.bool r)) i) (hm : tB g i = some r) :
  lg false pg0 240 [a, c] w (.bool r) := by
 refine cG 9 func240 rfl (fun d => sg (Wa (lr (Wm (Wm (bS hm fun y t hm => VE (Eg d call272 (CQ a g c i _ _ (j.mono (Pl.mono _) d.kN) (k.mono d.kN) t) (fun u d => Wi rfl (Wa (lo ?_))))))))))
 exact kK (lx (rQ hm d))
theorem Iu (u : ByteArray) (z : Nat) (i : Value) (G : (kA × ByteArray) → Option Bool) (B : Nat) (g : kB) (D : Nat) (I : ByteArray) (r : Bool) (w : World) (H : tu pg0 i (hp w) (fun (x : (kA × ByteArray)) => [(.agg (kC x.1).toArray), (.string x.2)]) (fun (r : Bool) => (.bool r)) G) (j : At (hp w) (.pointer (some ⟨z, 0, none⟩)) [i]) (k : At (hp w) (.pointer (some ⟨B, 0, none⟩)) (kG g)) (J : At (hp w) (.pointer (some ⟨D, 0, none⟩)) [(.string I)]) (hm : vh u G g I = some r) :
  lg false pg0 241 [(.string u), (.pointer (some ⟨z, 0, none⟩)), (.pointer (some ⟨B, 0, none⟩)), (.pointer (some ⟨D, 0, none⟩))] w (.bool r) := by
 refine cG 20 func241 rfl (fun d => sg (Wa (lr (V (kE rfl (nh d.has (y := i) j isAgg104)) (VQ (zf (kC g.B) mW rfl k rfl) (fun m Y => V (kE rfl (lO d.has Y aO aC)) (Wm (bS hm fun n Z hm => VE (Bq (g.B, u) d H (lb.refl _) rfl (pM rfl rfl) Z (fun W6 d => Wm ?_))))))))))
 refine LJ hm (fun M E W => ∃ K, ST false lu w W (hp w) K ∧ E 5 = (.bool false) ∧ E 19 = (.bool M)) 8 ?_ (fun M c t => ?_)
 ·rintro a5 E W ⟨K, d, a2, U⟩ N
  exact Wg U (lt (rQ N d))
 refine bC c (fun a c => ?_) (fun a c => ?_)
 ·refine ug a (kE rfl (nh d.has (y := i) j isAgg104)) (ug a (kM rfl) (UQ a (zf [(.string g.lU)] rX rfl k rfl) (fun a3 Q => ug a (kE rfl (nh d.has (y := (.string g.lU)) Q aY)) (ug a (nm (v := (.agg (kC (⟨u, g.lU⟩ : kA)).toArray)) (pH rfl rfl) (mE bQ cI (Hn _ cI) kr)) (ug a (kE rfl (nh d.has (y := (.string I)) J aY)) (bS c fun a4 T c => qy a (Bq ((⟨u, g.lU⟩ : kA), I) d H (lb.refl _) rfl (pM rfl rfl) T (fun h d => V (kX (cB a) rfl) ?_))))))))
  obtain rfl := sj c
  exact t _ _ ⟨_, (d.kD St), rfl, rfl⟩
 refine un a (un a (un a (un a (un a (un a (un a (V (kW (cB a) rfl) ?_)))))))
 obtain rfl := sj c
 exact t _ _ ⟨_, (d.kD St), rfl, rfl⟩
theorem La (g : kB) (u : Value) (y : (kA × ByteArray) → Option Bool) (k : Value) (D : List ByteArray) (j : ByteArray) (r : Bool) (w : World) (i : tu pg0 u (hp w) (fun (x : (kA × ByteArray)) => [(.agg (kC x.1).toArray), (.string x.2)]) (fun (r : Bool) => (.bool r)) y) (I : Sl (Pl nu) 1 (hp w) k D) (hm : zr g y D j = some r) :
  lg false pg0 190 [(.agg (kG g).toArray), u, k, (.string j)] w (.bool r) := by
 refine cG 41 func190 rfl (fun d => sg (VE (lF d rfl (fun W2 G d => ?_))))
 obtain ⟨f3, f4, f5, rfl⟩ := i.form
 refine VE (lF d rfl (fun W7 H d => VE (lF d rfl (fun W9 b8 d => Wa (lS (Wf om (VB d (Mt (Mt Mh)) rfl rfl cH (ln (bg ?_)))))))))
 refine Wi rfl (Wa (ln (CI hm rfl (fun J hm => ?_) (fun J hm => ?_))))
 ·refine sg (Wf sW (VB d (Mt (Mt Mh)) rfl rfl aY (VB d Mh rfl rfl aY (V (se rfl rfl rfl) (Wa (ln ?_))))))
  replace d := d.kD (Db (Db (Db St)))
  refine lx (mu (lm ?_))
  obtain rfl := sj hm
  exact rP d
 refine sg (Wi rfl (Wa (ln (CI hm rfl (fun K hm => ?_) (fun K hm => ?_)))))
 ·refine sg (VB d (Mt Mh) rfl rfl isAgg104 (Wf mW (VA d (Mt (Mt Mh)) (kC g.B) aO aC (VB d Mh rfl rfl aY (bS hm fun s Q hm => VE (Bq (g.B, j) d i (lb.refl _) rfl (pM rfl rfl) Q (fun m d => Wa (ln ?_))))))))
  replace d := d.kD (Db (Db (Db St)))
  refine lx (mu (lm ?_))
  obtain rfl := sj hm
  exact rP d
 refine sg (Wi rfl (Wa (ln (CI hm rfl (fun M hm => ?_) (fun M hm => ?_)))))
 ·refine sg (VB d (Mt Mh) rfl rfl isAgg104 (Wf mW (VA d (Mt (Mt Mh)) (kC g.B) aO aC (VB d Mh rfl rfl aY (bS hm fun v T hm => VE (Bq (g.B, j) d i (lb.refl _) rfl (pM rfl rfl) T (fun n d => Wm (LJ hm (fun B E W => ∃ z, ST false lu w W (hp w) z ∧ E 8 = (.bool false) ∧ E 37 = (.bool B)) 6 ?_ (fun B c t => ?_)))))))))
  ·rintro P E W ⟨z, d, q, Z⟩ N
   refine Wg Z (lt (mu (lm ?_)))
   obtain rfl := sj N
   exact rP d
  refine bC c (fun a c => ?_) (fun a c => ?_)
  ·refine ug a (kE rfl (kR d.has (Mt Mh) rfl isAgg104)) (ug a (kH pO rfl) (ug a (kE rfl (kL d.has (Mt (Mt Mh)) (kC g.C) rfl aO aC)) (ug a (kE rfl (kR d.has Mh rfl aY)) (bS c fun A U c => qy a (Bq (g.C, j) d i (lb.refl _) rfl (pM rfl rfl) U (fun o d => V (kX (cB a) rfl) ?_))))))
   obtain rfl := sj c
   exact t _ _ ⟨_, (d.kD (Db (Db (Db St)))), rfl, rfl⟩
  refine un a (un a (un a (un a (un a (V (kW (cB a) rfl) ?_)))))
  obtain rfl := sj c
  exact t _ _ ⟨_, (d.kD (Db (Db (Db St)))), rfl, rfl⟩
 refine lG (lA (kK (sg (Wm (V (tX (by exact YF rfl rfl rfl) rfl) (bS hm fun L Y hm => VE (Eg d call240 (BS k D (.func (.func 241) #[] #[(.pointer (some ⟨H, 0, none⟩)), (.pointer (some ⟨G, 0, none⟩)), (.pointer (some ⟨b8, 0, none⟩))]) (fun (x : ByteArray) => vh x y g j) _ _ (I.mono (Pl.mono _) d.kN) ⟨241, #[], #[(.pointer (some ⟨H, 0, none⟩)), (.pointer (some ⟨G, 0, none⟩)), (.pointer (some ⟨b8, 0, none⟩))], rfl, call241, fun W x r h hm => Iu x H (.func f3 f4 f5) y G g b8 j r W (i.mono (d.kN.trans h)) (At.of (h _ _ (d.at_ (Mt Mh))) _ rfl) (At.of (h _ _ (d.at_ (Mt (Mt Mh)))) _ rfl) (At.of (h _ _ (d.at_ Mh)) _ rfl) hm⟩ Y) (fun a9 d => Wa (ln ?_)))))))))
 exact lx (rQ hm d)
end Go.Proofs.YtbnbdigcbldfhaaGreat
