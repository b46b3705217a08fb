/- a part of a proof of LintHolds -/
import Derived.Test.YtjjjihkifgdhgaaGreatDoorDL5Ml
import Derived.Test.YtjjjihkifgdhgaaGreatDoorProg
set_option linter.all false
namespace Go.Proofs.YtjjjihkifgdhgaaGreatDoor
open Go.IntKind renaming wrap → wi0
open Go.Proofs.Tryz renaming prog → pg0
open Go.RowKit
set_option maxRecDepth 10000
open Tryz
def aD := @sizeOf30
def aF := @underlying28
def aX := @sizeOf52
def bn := @underlying45
def bB := @isAgg30
def bG := @sizeOf27
def bJ := @zeroValue30
def bX := @isAgg27
def cD := @underlying30
def cE := @underlying37
def cH := @underlying9
def cI := @isAgg52
def cL := @isAgg9
def cO := @isAgg3
def cQ := @sizeOf25
def dn := @underlying53
def du := @underlying23
def dE := @zeroValue52
def dJ := @isAgg25
def dL := @sizeOf132
def dN := @underlying40
def dQ := @sizeOf57
def dS := @underlying22
def dX := @underlying27
def dY := @underlying52
def eb := @zeroValue40
def er := @underlying3
def et := @sizeOf40
def eB := @underlying246
def eC := @underlying242
def eO := @underlying271
def eW := @underlying25
def eX := @underlying65
def eY := @zeroValue247
def eZ := @isAgg28
def fc := @underlying285
def fe := @underlying247
def fB := @underlying34
def fJ := @underlying215
def fK := @eqGuardType52
def fL := @underlying213
def fW := @zeroValue27
def fX := @zeroValue57
def gl := @sizeOf3
def gm := @zeroValue132
def gx := @sizeOf9
def gy := @underlying226
def gz := @underlying165
def gE := @zeroValue45
def gF := @isAgg242
def gO := @underlying57
def gP := @underlying91
def ib := @sizeOf53
def iA := @isAgg53
def iE := @underlying224
def iF := @underlying152
def iL := @sizeOf55
def iM := @sizeOf285
def iN := @isAgg132
def iR := @zeroValue4
def iS := @zeroValue285
def iT := @isAgg57
def iU := @isAgg22
def iV := @underlying66
def je := @sizeOf45
def jf := @underlying5
def jg := @sizeOf34
def jj := @call206
def jk := @isAgg45
abbrev K0 : jl := ⟨zS, zS⟩
abbrev K1 : ByteArray := ⟨#[111, 119, 110]⟩
abbrev K2 : ByteArray := ⟨#[99, 108, 105]⟩
abbrev K3 : jK := ⟨4, 0, 0⟩
abbrev K4 : jK := ⟨5, 0, 0⟩
abbrev K5 : kc := ⟨0⟩
abbrev K6 : jm := ⟨0, K0, zS, K0, K0, zS⟩
abbrev C1 (b d : Int) (h i : ByteArray) (j : Option Addr) (l m : Nat) : List Value := [(.int .i64 b), (.int .i64 d), (.string h), (.string i), (.slice j l m)]
abbrev C2 (E : ByteArray) (G : Option Addr) (I J : Nat) (L : Option Addr) (M O : Nat) (P : ByteArray) (Q : Option Addr) (R b : Nat) (d : Option Addr) (h i : Nat) (j l : Int) (m n : ByteArray) (p : Option Addr) (q r : Nat) (s t u v w x : Int) (y : Option Addr) (z A : Nat) : List Value := [(.string E), (.slice G I J), (.slice L M O), (.string P), (.slice Q R b), (.slice d h i), (.int .i64 j), (.int .i64 l), (.string m), (.string n), (.slice p q r), (.int .i64 s), (.int .i64 t), (.int .i64 u), (.int .i64 v), (.int .i64 w), (.int .i64 x), (.slice y z A)]
abbrev C3 (q : Int) (r s t u v w x y : ByteArray) (z : Option Addr) (b d : Nat) (h i : Int) (j l : ByteArray) (m : Option Addr) (n p : Nat) : List Value := [(.int .i64 q), (.string r), (.string s), (.string t), (.string u), (.string v), (.string w), (.string x), (.string y), (.slice z b d), (.int .i64 h), (.int .i64 i), (.string j), (.string l), (.slice m n p)]
abbrev C4 (b : ByteArray) (d : Option Addr) (h i : Nat) (j : Option Addr) (l m : Nat) : List Value := [(.string b), (.slice d h i), (.slice j l m)]
abbrev C5 : List Value := [(.int .i64 0), (.int .i64 0), (.string zS), (.string zS), (.slice none 0 0)]
abbrev C6 (h : Int) (i j l m n p q r : ByteArray) (s : Option Addr) (b d : Nat) : List Value := [(.int .i64 h), (.string i), (.string j), (.string l), (.string m), (.string n), (.string p), (.string q), (.string r), (.slice s b d)]
abbrev C7 (h i : ByteArray) (j l : Int) (m n : ByteArray) (p : Option Addr) (q r : Nat) (s : Option Addr) (b d : Nat) : List Value := [(.string h), (.string i), (.int .i64 j), (.int .i64 l), (.string m), (.string n), (.slice p q r), (.slice s b d)]
abbrev C8 : List Value := [(.int .i64 0), (.string (K0.jo)), (.string (K0.Word)), (.string zS), (.string (K0.jo)), (.string (K0.Word)), (.string (K0.jo)), (.string (K0.Word)), (.string zS), (.slice none 0 0), (.int .i64 0), (.int .i64 0), (.string zS), (.string zS), (.slice none 0 0)]
abbrev C9 : List Value := [(.string K1), (.slice none 0 0), (.slice none 0 0), (.string K2), (.slice none 0 0), (.slice none 0 0), (.int .i64 2), (.int .i64 0), (.string zS), (.string zS), (.slice none 0 0), (.int .i64 0), (.int .i64 0), (.int .i64 0), (.int .i64 0), (.int .i64 0), (.int .i64 0), (.slice none 0 0)]
abbrev Kf : List Value := [(.int .i64 2), (.int .i64 0), (.string zS), (.string zS), (.slice none 0 0)]
abbrev Qf (b : Int) : List Value := [(.int .i64 b), (.int .i64 0), (.string zS), (.string zS), (.slice none 0 0)]
abbrev LV : List Value := [(.int .i64 3), (.int .i64 0), (.string zS), (.string zS), (.slice none 0 0)]
theorem jY : Tryz.prog.follows .mixedOrders = true := by rfl
theorem tf : Tryz.prog.info? 5 = some Tryz.t5 ∧ Tryz.t5.zero = some (.int .u8 0) ∧ Tryz.t5.size = 1 ∧ Tryz.t5.bytes = 1 := ⟨by kernel_rfl, by kernel_rfl, by kernel_rfl, by kernel_rfl⟩
theorem yK : Tryz.prog.info? 27 = some Tryz.t27 ∧ Tryz.t27.zero = some (.agg #[(.string ⟨#[]⟩), (.string ⟨#[]⟩)]) ∧ Tryz.t27.size = 2 ∧ Tryz.t27.bytes = 32 := ⟨by kernel_rfl, by kernel_rfl, by kernel_rfl, by kernel_rfl⟩
theorem nW : Tryz.prog.info? 30 = some Tryz.t30 ∧ Tryz.t30.zero = some (.agg #[(.int .i64 0), (.int .i64 0), (.string ⟨#[]⟩), (.string ⟨#[]⟩), (.slice none 0 0)]) ∧ Tryz.t30.size = 5 ∧ Tryz.t30.bytes = 72 := ⟨by kernel_rfl, by kernel_rfl, by kernel_rfl, by kernel_rfl⟩
theorem px : Tryz.prog.info? 40 = some Tryz.t40 ∧ Tryz.t40.zero = some (.agg #[(.int .i64 0), (.int .i64 0), (.int .i64 0)]) ∧ Tryz.t40.size = 3 ∧ Tryz.t40.bytes = 24 := ⟨by kernel_rfl, by kernel_rfl, by kernel_rfl, by kernel_rfl⟩
theorem nY : Tryz.prog.info? 52 = some Tryz.t52 ∧ Tryz.t52.zero = some (.agg #[(.int .i64 0), (.string ⟨#[]⟩), (.string ⟨#[]⟩), (.string ⟨#[]⟩), (.string ⟨#[]⟩), (.string ⟨#[]⟩), (.string ⟨#[]⟩), (.string ⟨#[]⟩), (.string ⟨#[]⟩)]) ∧ Tryz.t52.size = 9 ∧ Tryz.t52.bytes = 136 := ⟨by kernel_rfl, by kernel_rfl, by kernel_rfl, by kernel_rfl⟩
theorem DV : Tryz.prog.info? 132 = some Tryz.t132 ∧ Tryz.t132.zero = some (.agg #[(.string ⟨#[]⟩), (.string ⟨#[]⟩), (.int .i64 0), (.int .i64 0), (.string ⟨#[]⟩), (.string ⟨#[]⟩), (.slice none 0 0), (.slice none 0 0)]) ∧ Tryz.t132.size = 8 ∧ Tryz.t132.bytes = 128 := ⟨by kernel_rfl, by kernel_rfl, by kernel_rfl, by kernel_rfl⟩
theorem DR : Tryz.prog.info? 285 = some Tryz.t285 ∧ Tryz.t285.zero = some (.agg #[(.string ⟨#[]⟩), (.string ⟨#[]⟩), (.string ⟨#[]⟩)]) ∧ Tryz.t285.size = 3 ∧ Tryz.t285.bytes = 48 := ⟨by kernel_rfl, by kernel_rfl, by kernel_rfl, by kernel_rfl⟩
theorem uh : kQ pg0 27 0 0 := kj dX rfl gx (by decide) rfl
theorem vS : kQ pg0 27 1 1 := kj dX rfl gx (by decide) rfl
theorem Ns : (Tryz.prog.fieldsOf 27).toList = (match Tryz.prog.underlying 27 with | some (.struct fs) => fs.toList | _ => []) := by rw [dX]; simp [Program.fieldsOf, dX]
theorem wD (d : Nat) (x y : jl) (W : World) : (Op.equalIn (d + 2) 27 (.agg (jw x).toArray) (.agg (jw y).toArray)).run pg0 W = .ok (jG x y) W := by
 rw [run_equalIn_struct W (d + 1) 27 _ _ (by kernel_rfl) Tryz.stoodInHeld27, Ns, dX]
 exact (pY (by decide) (ra cL rfl) (ra cL rfl) (N4 cH _ _ _ _) (pY (by decide) (ra cL rfl) (ra cL rfl) (N4 cH _ _ _ _) (De _ _ _)))
theorem PC : ∀ fs, Tryz.prog.underlying 27 = some (.struct fs) → ∀ w, (fs.mapM (fun (f : Field) => do pure (f.offset, ← sizeOf f.type)) : Sem (Array (Nat × Nat))).run pg0 w = .ok #[(0, 1), (1, 1)] w := by
 intro fs h w
 rw [dX] at h
 cases h
 kernel_rfl
theorem xi : kQ pg0 52 0 0 := kj dY rfl gl (by decide) rfl
theorem uf : kQ pg0 52 1 1 := kj dY rfl bG (by decide) rfl
theorem Bz : kQ pg0 52 2 3 := kj dY rfl gx (by decide) rfl
theorem oZ : kQ pg0 52 3 4 := kj dY rfl bG (by decide) rfl
theorem xd : kQ pg0 52 4 6 := kj dY rfl bG (by decide) rfl
theorem yN : kQ pg0 52 5 8 := kj dY rfl gx (by decide) rfl
theorem NQ : (Tryz.prog.fieldsOf 52).toList = (match Tryz.prog.underlying 52 with | some (.struct fs) => fs.toList | _ => []) := by rw [dY]; simp [Program.fieldsOf, dY]
theorem yg (d : Nat) (x y : jm) (W : World) : (Op.equalIn (d + 3) 52 (.agg (js x).toArray) (.agg (js y).toArray)).run pg0 W = .ok (ko x y) W := by
 rw [run_equalIn_struct W (d + 2) 52 _ _ (by kernel_rfl) Tryz.stoodInHeld52, NQ, dY]
 exact (pY (by decide) (ra cO rfl) (ra cO rfl) (Sq er _ _ _ _) (pY (by decide) (xY bX bG rfl) (xY bX bG rfl) (wD _ x.Head y.Head W) (pY (by decide) (ra cL rfl) (ra cL rfl) (N4 cH _ _ _ _) (pY (by decide) (xY bX bG rfl) (xY bX bG rfl) (wD _ x.B y.B W) (pY (by decide) (xY bX bG rfl) (xY bX bG rfl) (wD _ x.C y.C W) (pY (by decide) (ra cL rfl) (ra cL rfl) (N4 cH _ _ _ _) (De _ _ _)))))))
theorem Sa : ∀ fs, Tryz.prog.underlying 52 = some (.struct fs) → ∀ w, (fs.mapM (fun (f : Field) => do pure (f.offset, ← sizeOf f.type)) : Sem (Array (Nat × Nat))).run pg0 w = .ok #[(0, 1), (1, 2), (3, 1), (4, 2), (6, 2), (8, 1)] w := by
 intro fs h w
 rw [dY] at h
 cases h
 kernel_rfl
theorem Af : kQ pg0 40 0 0 := kj dN rfl gl (by decide) rfl
theorem Bx : kQ pg0 40 1 1 := kj dN rfl gl (by decide) rfl
theorem FO : kQ pg0 40 2 2 := kj dN rfl gl (by decide) rfl
theorem Ia : ∀ fs, Tryz.prog.underlying 40 = some (.struct fs) → ∀ w, (fs.mapM (fun (f : Field) => do pure (f.offset, ← sizeOf f.type)) : Sem (Array (Nat × Nat))).run pg0 w = .ok #[(0, 1), (1, 1), (2, 1)] w := by
 intro fs h w
 rw [dN] at h
 cases h
 kernel_rfl
theorem GJ : kQ pg0 285 0 0 := kj fc rfl bG (by decide) rfl
theorem zu : kQ pg0 285 1 2 := kj fc rfl gx (by decide) rfl
theorem NW : ∀ fs, Tryz.prog.underlying 285 = some (.struct fs) → ∀ w, (fs.mapM (fun (f : Field) => do pure (f.offset, ← sizeOf f.type)) : Sem (Array (Nat × Nat))).run pg0 w = .ok #[(0, 2), (2, 1)] w := by
 intro fs h w
 rw [fc] at h
 cases h
 kernel_rfl
theorem Jx : kQ pg0 224 0 0 := kj iE rfl sizeOf109 (by decide) rfl
theorem QX : ∀ fs, Tryz.prog.underlying 224 = some (.struct fs) → ∀ w, (fs.mapM (fun (f : Field) => do pure (f.offset, ← sizeOf f.type)) : Sem (Array (Nat × Nat))).run pg0 w = .ok #[(0, 1)] w := by
 intro fs h w
 rw [iE] at h
 cases h
 kernel_rfl
theorem yz : kQ pg0 55 0 0 := kj underlying55 rfl aX (by decide) rfl
theorem PR : kQ pg0 55 1 9 := kj underlying55 rfl ib (by decide) rfl
theorem sa : kQ pg0 30 0 0 := kj cD rfl gl (by decide) rfl
theorem xA : kQ pg0 30 1 1 := kj cD rfl gl (by decide) rfl
theorem xu : kQ pg0 30 2 2 := kj cD rfl bG (by decide) rfl
theorem re : kQ pg0 30 3 4 := kj cD rfl sizeOf28 (by decide) rfl
theorem z6 : ∀ fs, Tryz.prog.underlying 30 = some (.struct fs) → ∀ w, (fs.mapM (fun (f : Field) => do pure (f.offset, ← sizeOf f.type)) : Sem (Array (Nat × Nat))).run pg0 w = .ok #[(0, 1), (1, 1), (2, 2), (4, 1)] w := by
 intro fs h w
 rw [cD] at h
 cases h
 kernel_rfl
theorem yO : kQ pg0 57 0 0 := kj gO rfl iL (by decide) rfl
theorem Mi : kQ pg0 57 1 10 := kj gO rfl aD (by decide) rfl
theorem RR : ∀ fs, Tryz.prog.underlying 57 = some (.struct fs) → ∀ w, (fs.mapM (fun (f : Field) => do pure (f.offset, ← sizeOf f.type)) : Sem (Array (Nat × Nat))).run pg0 w = .ok #[(0, 10), (10, 5)] w := by
 intro fs h w
 rw [gO] at h
 cases h
 kernel_rfl
theorem JC : kQ pg0 132 0 0 := kj underlying132 rfl bG (by decide) rfl
theorem Js : kQ pg0 132 1 2 := kj underlying132 rfl aD (by decide) rfl
theorem Gv : kQ pg0 132 2 7 := kj underlying132 rfl je (by decide) rfl
theorem Di : kQ pg0 25 0 0 := kj eW rfl gx (by decide) rfl
theorem yC : kQ pg0 25 1 1 := kj eW rfl sizeOf22 (by decide) rfl
theorem Ip : kQ pg0 25 2 2 := kj eW rfl sizeOf23 (by decide) rfl
theorem Qp : ∀ fs, Tryz.prog.underlying 25 = some (.struct fs) → ∀ w, (fs.mapM (fun (f : Field) => do pure (f.offset, ← sizeOf f.type)) : Sem (Array (Nat × Nat))).run pg0 w = .ok #[(0, 1), (1, 1), (2, 1)] w := by
 intro fs h w
 rw [eW] at h
 cases h
 kernel_rfl
theorem Pj : kQ pg0 119 0 0 := kj underlying119 rfl gx (by decide) rfl
theorem O3 : kQ pg0 119 1 1 := kj underlying119 rfl ib (by decide) rfl
theorem xy : kQ pg0 34 0 0 := kj fB rfl cQ (by decide) rfl
theorem xh : kQ pg0 34 1 3 := kj fB rfl cQ (by decide) rfl
theorem Dx : kQ pg0 34 2 6 := kj fB rfl aD (by decide) rfl
theorem Qe : kQ pg0 34 8 17 := kj fB rfl sizeOf32 (by decide) rfl
theorem R4 : ∀ fs, Tryz.prog.underlying 34 = some (.struct fs) → ∀ w, (fs.mapM (fun (f : Field) => do pure (f.offset, ← sizeOf f.type)) : Sem (Array (Nat × Nat))).run pg0 w = .ok #[(0, 3), (3, 3), (6, 5), (11, 1), (12, 2), (14, 1), (15, 1), (16, 1), (17, 1)] w := by
 intro fs h w
 rw [fB] at h
 cases h
 kernel_rfl
theorem vy : kQ pg0 246 0 0 := kj eB rfl sizeOf242 (by decide) rfl
theorem Ga : kQ pg0 246 1 1 := kj eB rfl je (by decide) rfl
theorem JB : kQ pg0 246 2 2 := kj eB rfl sizeOf243 (by decide) rfl
theorem F9 : kQ pg0 246 3 3 := kj eB rfl sizeOf244 (by decide) rfl
theorem zx : kQ pg0 246 4 4 := kj eB rfl sizeOf226 (by decide) rfl
theorem DX : kQ pg0 246 5 5 := kj eB rfl gl (by decide) rfl
theorem Rk : ∀ fs, Tryz.prog.underlying 246 = some (.struct fs) → ∀ w, (fs.mapM (fun (f : Field) => do pure (f.offset, ← sizeOf f.type)) : Sem (Array (Nat × Nat))).run pg0 w = .ok #[(0, 1), (1, 1), (2, 1), (3, 1), (4, 1), (5, 1)] w := by
 intro fs h w
 rw [eB] at h
 cases h
 kernel_rfl
theorem xV : kQ pg0 215 0 0 := kj fJ rfl ib (by decide) rfl
theorem N3 : ∀ fs, Tryz.prog.underlying 215 = some (.struct fs) → ∀ w, (fs.mapM (fun (f : Field) => do pure (f.offset, ← sizeOf f.type)) : Sem (Array (Nat × Nat))).run pg0 w = .ok #[(0, 1)] w := by
 intro fs h w
 rw [fJ] at h
 cases h
 kernel_rfl
def rq : oP Signed := fun μ ys x => ∃ (v0 : Value), ys = [.int .i64 x.jm.Kind, .string x.jm.Head.jo, .string x.jm.Head.Word, .string x.jm.ke, .string x.jm.B.jo, .string x.jm.B.Word, .string x.jm.C.jo, .string x.jm.C.Word, .string x.jm.kp, v0] ∧ Sl (Pl (ku .u8)) 1 μ v0 x.Tag
theorem rq.out {μ : jN} {ys : List Value} {x : Signed} (h : rq μ ys x) : ∃ (v0 : Value), ys = [.int .i64 x.jm.Kind, .string x.jm.Head.jo, .string x.jm.Head.Word, .string x.jm.ke, .string x.jm.B.jo, .string x.jm.B.Word, .string x.jm.C.jo, .string x.jm.C.Word, .string x.jm.kp, v0] ∧ Sl (Pl (ku .u8)) 1 μ v0 x.Tag := h
theorem rq.mk {μ : jN} {ys : List Value} {x : Signed} (h : ∃ (v0 : Value), ys = [.int .i64 x.jm.Kind, .string x.jm.Head.jo, .string x.jm.Head.Word, .string x.jm.ke, .string x.jm.B.jo, .string x.jm.B.Word, .string x.jm.C.jo, .string x.jm.C.Word, .string x.jm.kp, v0] ∧ Sl (Pl (ku .u8)) 1 μ v0 x.Tag) : rq μ ys x := h
theorem zr : Deep rq 10 where
 mono := by rintro _ _ _ _ d ⟨v0, rfl, b⟩; exact ⟨v0, rfl, b.mono (Pl.mono _) d⟩
 len := by rintro _ _ _ ⟨v0, rfl, b⟩; rfl
 one := by
  rintro _ _ _ ⟨v0, rfl, b⟩
  intro u hu; simp only [aK, cV, eS] at hu; rcases hu with rfl | rfl | rfl | rfl | rfl | rfl | rfl | rfl | rfl | rfl
  ·rfl
  ·rfl
  ·rfl
  ·rfl
  ·rfl
  ·rfl
  ·rfl
  ·rfl
  ·rfl
  ·exact b.wm
def wc : Nat → oP Formula
 | 0 => fun _ _ _ => False
 | n + 1 => fun μ ys x => ∃ (v0 : Value), ys = [.int .i64 x.Op, .int .i64 x.K, .string x.jl.jo, .string x.jl.Word, v0] ∧ Sl (wc n) 5 μ v0 x.Kids
def jq : oP Formula := fun μ ys x => ∃ n, wc n μ ys x
theorem CO : ∀ n, Fb (wc n)
 | 0 => fun _ _ _ _ _ h => h
 | n + 1 => by rintro _ _ _ _ d ⟨v0, rfl, b⟩; exact ⟨v0, rfl, b.mono (CO n) d⟩
theorem Fj : ∀ n m (μ : jN) (ys : List Value) (x : Formula), n ≤ m → wc n μ ys x → wc m μ ys x
 | 0, _, _, _, _, _, h => h.elim
 | n + 1, 0, _, _, _, b, _ => absurd b (by omega)
 | n + 1, m + 1, μ, ys, x, b, h => by
  obtain ⟨v0, rfl, d⟩ := h
  exact ⟨v0, rfl, d.imp fun ys x h => Fj n m μ ys x (by omega) h⟩
theorem jq.out {μ : jN} {ys : List Value} {x : Formula} (h : jq μ ys x) : ∃ (v0 : Value), ys = [.int .i64 x.Op, .int .i64 x.K, .string x.jl.jo, .string x.jl.Word, v0] ∧ Sl jq 5 μ v0 x.Kids := by
 obtain ⟨n, h⟩ := h
 cases n with
 | zero => exact h.elim
 | succ n =>
  obtain ⟨v0, rfl, b⟩ := h
  exact ⟨v0, rfl, b.imp fun ys x h => ⟨n, h⟩⟩
theorem jq.mk {μ : jN} {ys : List Value} {x : Formula} (h : ∃ (v0 : Value), ys = [.int .i64 x.Op, .int .i64 x.K, .string x.jl.jo, .string x.jl.Word, v0] ∧ Sl jq 5 μ v0 x.Kids) : jq μ ys x := by
 obtain ⟨v0, rfl, d⟩ := h
 obtain ⟨n, j⟩ := d.Ro (fun _ _ h => h) (fun a b ys x i h => Fj a b _ ys x i h)
 exact ⟨n + 1, v0, rfl, j⟩
theorem jC : Deep jq 5 where
 mono := fun _ _ _ _ d ⟨n, h⟩ => ⟨n, CO n _ _ _ _ d h⟩
 len := by rintro _ _ _ h; obtain ⟨v0, rfl, b⟩ := h.out; rfl
 one := by
  rintro _ _ _ h
  obtain ⟨v0, rfl, b⟩ := h.out
  intro u hu; simp only [aK, cV, eS] at hu; rcases hu with rfl | rfl | rfl | rfl | rfl
  ·rfl
  ·rfl
  ·rfl
  ·rfl
  ·exact b.wm
def ki : oP kK := fun μ ys x => ∃ (v0 : Value) (v1 : Value), ys = [.int .i64 x.Signed.jm.Kind, .string x.Signed.jm.Head.jo, .string x.Signed.jm.Head.Word, .string x.Signed.jm.ke, .string x.Signed.jm.B.jo, .string x.Signed.jm.B.Word, .string x.Signed.jm.C.jo, .string x.Signed.jm.C.Word, .string x.Signed.jm.kp, v0, .int .i64 x.ju.Op, .int .i64 x.ju.K, .string x.ju.jl.jo, .string x.ju.jl.Word, v1] ∧ Sl (Pl (ku .u8)) 1 μ v0 x.Signed.Tag ∧ Sl jq 5 μ v1 x.ju.Kids
theorem ki.out {μ : jN} {ys : List Value} {x : kK} (h : ki μ ys x) : ∃ (v0 : Value) (v1 : Value), ys = [.int .i64 x.Signed.jm.Kind, .string x.Signed.jm.Head.jo, .string x.Signed.jm.Head.Word, .string x.Signed.jm.ke, .string x.Signed.jm.B.jo, .string x.Signed.jm.B.Word, .string x.Signed.jm.C.jo, .string x.Signed.jm.C.Word, .string x.Signed.jm.kp, v0, .int .i64 x.ju.Op, .int .i64 x.ju.K, .string x.ju.jl.jo, .string x.ju.jl.Word, v1] ∧ Sl (Pl (ku .u8)) 1 μ v0 x.Signed.Tag ∧ Sl jq 5 μ v1 x.ju.Kids := h
theorem ki.mk {μ : jN} {ys : List Value} {x : kK} (h : ∃ (v0 : Value) (v1 : Value), ys = [.int .i64 x.Signed.jm.Kind, .string x.Signed.jm.Head.jo, .string x.Signed.jm.Head.Word, .string x.Signed.jm.ke, .string x.Signed.jm.B.jo, .string x.Signed.jm.B.Word, .string x.Signed.jm.C.jo, .string x.Signed.jm.C.Word, .string x.Signed.jm.kp, v0, .int .i64 x.ju.Op, .int .i64 x.ju.K, .string x.ju.jl.jo, .string x.ju.jl.Word, v1] ∧ Sl (Pl (ku .u8)) 1 μ v0 x.Signed.Tag ∧ Sl jq 5 μ v1 x.ju.Kids) : ki μ ys x := h
theorem kH : Deep ki 15 where
 mono := by rintro _ _ _ _ d ⟨v0, v1, rfl, b, h1⟩; exact ⟨v0, v1, rfl, b.mono (Pl.mono _) d, h1.mono jC.mono d⟩
 len := by rintro _ _ _ ⟨v0, v1, rfl, b, h1⟩; rfl
 one := by
  rintro _ _ _ ⟨v0, v1, rfl, b, h1⟩
  intro u hu; simp only [aK, cV, eS] at hu; rcases hu with rfl | rfl | rfl | rfl | rfl | rfl | rfl | rfl | rfl | rfl | rfl | rfl | rfl | rfl | rfl
  ·rfl
  ·rfl
  ·rfl
  ·rfl
  ·rfl
  ·rfl
  ·rfl
  ·rfl
  ·rfl
  ·exact b.wm
  ·rfl
  ·rfl
  ·rfl
  ·rfl
  ·exact h1.wm
def kT : oP nh := fun μ ys x => ∃ (v0 : Value) (v1 : Value), ys = [.string x.jl.jo, .string x.jl.Word, .int .i64 x.ju.Op, .int .i64 x.ju.K, .string x.ju.jl.jo, .string x.ju.jl.Word, v0, v1] ∧ Sl jq 5 μ v0 x.ju.Kids ∧ Sl (Pl js) 9 μ v1 x.lx
theorem kT.out {μ : jN} {ys : List Value} {x : nh} (h : kT μ ys x) : ∃ (v0 : Value) (v1 : Value), ys = [.string x.jl.jo, .string x.jl.Word, .int .i64 x.ju.Op, .int .i64 x.ju.K, .string x.ju.jl.jo, .string x.ju.jl.Word, v0, v1] ∧ Sl jq 5 μ v0 x.ju.Kids ∧ Sl (Pl js) 9 μ v1 x.lx := h
theorem kT.mk {μ : jN} {ys : List Value} {x : nh} (h : ∃ (v0 : Value) (v1 : Value), ys = [.string x.jl.jo, .string x.jl.Word, .int .i64 x.ju.Op, .int .i64 x.ju.K, .string x.ju.jl.jo, .string x.ju.jl.Word, v0, v1] ∧ Sl jq 5 μ v0 x.ju.Kids ∧ Sl (Pl js) 9 μ v1 x.lx) : kT μ ys x := h
theorem mC : Deep kT 8 where
 mono := by rintro _ _ _ _ d ⟨v0, v1, rfl, b, h1⟩; exact ⟨v0, v1, rfl, b.mono jC.mono d, h1.mono (Pl.mono _) d⟩
 len := by rintro _ _ _ ⟨v0, v1, rfl, b, h1⟩; rfl
 one := by
  rintro _ _ _ ⟨v0, v1, rfl, b, h1⟩
  intro u hu; simp only [aK, cV, eS] at hu; rcases hu with rfl | rfl | rfl | rfl | rfl | rfl | rfl | rfl
  ·rfl
  ·rfl
  ·rfl
  ·rfl
  ·rfl
  ·rfl
  ·exact b.wm
  ·exact h1.wm
def tU : oP jQ := fun μ ys x => ∃ (v0 : Value) (v1 : Value), ys = [.string x.Name, v0, v1] ∧ Sl ki 15 μ v0 x.jA ∧ Sl kT 8 μ v1 x.jO
theorem tU.out {μ : jN} {ys : List Value} {x : jQ} (h : tU μ ys x) : ∃ (v0 : Value) (v1 : Value), ys = [.string x.Name, v0, v1] ∧ Sl ki 15 μ v0 x.jA ∧ Sl kT 8 μ v1 x.jO := h
theorem tU.mk {μ : jN} {ys : List Value} {x : jQ} (h : ∃ (v0 : Value) (v1 : Value), ys = [.string x.Name, v0, v1] ∧ Sl ki 15 μ v0 x.jA ∧ Sl kT 8 μ v1 x.jO) : tU μ ys x := h
theorem E3 : Deep tU 3 where
 mono := by rintro _ _ _ _ d ⟨v0, v1, rfl, b, h1⟩; exact ⟨v0, v1, rfl, b.mono kH.mono d, h1.mono mC.mono d⟩
 len := by rintro _ _ _ ⟨v0, v1, rfl, b, h1⟩; rfl
 one := by
  rintro _ _ _ ⟨v0, v1, rfl, b, h1⟩
  intro u hu; simp only [aK, cV, eS] at hu; rcases hu with rfl | rfl | rfl
  ·rfl
  ·exact b.wm
  ·exact h1.wm
def tw : oP Key := fun μ ys x => ∃ (v0 : Value), ys = [.string x.ke, v0] ∧ Sl (Pl (ku .u8)) 1 μ v0 x.Key
theorem tw.out {μ : jN} {ys : List Value} {x : Key} (h : tw μ ys x) : ∃ (v0 : Value), ys = [.string x.ke, v0] ∧ Sl (Pl (ku .u8)) 1 μ v0 x.Key := h
theorem tw.mk {μ : jN} {ys : List Value} {x : Key} (h : ∃ (v0 : Value), ys = [.string x.ke, v0] ∧ Sl (Pl (ku .u8)) 1 μ v0 x.Key) : tw μ ys x := h
theorem KL : Deep tw 2 where
 mono := by rintro _ _ _ _ d ⟨v0, rfl, b⟩; exact ⟨v0, rfl, b.mono (Pl.mono _) d⟩
 len := by rintro _ _ _ ⟨v0, rfl, b⟩; rfl
 one := by
  rintro _ _ _ ⟨v0, rfl, b⟩
  intro u hu; simp only [aK, cV, eS] at hu; rcases hu with rfl | rfl
  ·rfl
  ·exact b.wm
theorem Fw : oC pg0 9 Value.string kv := oC.string cH
theorem yY : oC pg0 27 (fun (x : jl) => (.agg (jw x).toArray)) jG :=
 oC.struct dX (fun d x y W => wD (d + 8) x y W) (fun b k W => FB dX rfl (gD.2 ⟨fun _ => ⟨.string k.jo, ra cL rfl, xt cH _ _ _ _⟩, (gD.2 ⟨fun _ => ⟨.string k.Word, ra cL rfl, xt cH _ _ _ _⟩, (fun _ h => by cases h)⟩)⟩))
  (fun k x h => (jH.1 h).symm) (fun k => by simp [Instr.sameBits, jw, CS, lH])
theorem QG (w : World) (s : ByteArray) (c : Int) : (callFunc 282 [Value.string s, .int .u8 c].toArray).run pg0 w = .ok (.value (.int .i64 (vG s c))) w := F8 func282 (by kernel_rfl) (by kernel_rfl) (by kernel_rfl) (by kernel_rfl) s c w
theorem wM (a : ByteArray) (c r : Int) (w : World) (hm : nJ a c = some r) :
  kf true pg0 220 [(.string a), (.int .u8 c)] w (.int .i64 r) := by
 exact cG 8 func220 rfl (fun b => sg (Wa (lr (Wm (Wm (VE (HA (args := [(.string a), (.int .u8 c)]) (v := .int .i64 (vG a c)) rfl (by exact vC rfl rfl) (QG _ a c) (Wa (lt (rQ hm b))))))))))
theorem xJ (a : ByteArray) (c r : Int) (w : World) (hm : qj a c = some r) :
  kf true pg0 163 [(.string a), (.int .u8 c)] w (.int .i64 r) := by
 refine cG 8 func163 rfl (fun b => sg (Wa (lr (Wm (Wm (bS hm fun j g hm => VE (Eg b call220 (wM a c _ _  g) (fun i b => Wa (ln ?_)))))))))
 exact ky (rQ hm b)
theorem Jn (I : ByteArray) (r : Bool) (w : World) (hm : AP I = some r) :
  kf true pg0 164 [(.string I)] w (.bool r) := by
 refine cG 16 func164 rfl (fun b => sg (Wa (lS (Wm (bS hm fun H J hm => VE (Hg b cH dn jf rfl J (fun W3 N T b M n j Y => V (lR dn rfl j) (Wm (kd ?_)))))))))
 refine jE (lh (fun i E W => ∃ c, (E 8 = .int .i64 (i : Nat) ∧ E 7 = .int .i64 (H.length : Nat)) ∧ ST true lB w W T c ∧ E 6 = N ∧ tu (H.drop i) = some r) H.length j.len ⟨_, ⟨rfl, rfl⟩, (b.jr St), rfl, hm⟩ dc dc dc (fun _ _ _ h => by obtain ⟨_, l, _⟩ := h; exact l) ?_ ?_)
 ·rintro K E W u ⟨c, ⟨d, m⟩, b, g, a⟩
  obtain ⟨k, Q, D, B, G⟩ := kM u
  rw [D] at a
  refine bg (VQ (ql (enc := (ku .u8)) (i := (K : Int)) (x0 := k) dn sizeOf5 g d j (aP _) B) (fun Z x => V (jt rfl (nV b.has (y := (.int .u8 k)) x isAgg5)) (Wa (lr (Wm (bS a fun p z a => VE (Eg b call163 (xJ (⟨#[97, 98, 99, 100, 101, 102, 103, 104, 105, 106, 107, 108, 109, 110, 111, 112, 113, 114, 115, 116, 117, 118, 119, 120, 121, 122, 48, 49, 50, 51, 52, 53, 54, 55, 56, 57, 45]⟩ : ByteArray) k _ _  z) (fun U b => Wi rfl (kd ?_)))))))))
  refine jE (CI a rfl (fun t a => ?_) (fun t a => ?_))
  ·refine sg (Wa (lt (nw (kZ (nw (kZ ?_))))))
   obtain rfl := sj a
   exact rP b
  exact lE (kl (jE ⟨d, _, ⟨rfl, m⟩, (b.jr St), g, (by rw [G]; exact a)⟩))
 rintro E W ⟨c, ⟨d, m⟩, b, g, a⟩
 rw [aU] at a
 exact jE (sg (Wa (lt (rQ a b))))
theorem uQ (z : ByteArray) (r : Bool) (w : World) (hm : qM z = some r) :
  kf true pg0 93 [(.string z)] w (.bool r) := by
 refine cG 21 func93 rfl (fun b => sg (Wa (lr (Wm (V (ol cH rfl) (Wi rfl (Wm (LJ hm (fun K E W => ∃ Y, ST true lB w W (hp w) Y ∧ E 0 = (.string z) ∧ E 2 = (.bool false) ∧ E 10 = (.bool K)) 4 ?_ (fun K t y => ?_)))))))))
 ·rintro x2 E W ⟨Y, b, M, d, l⟩ a5
  refine Wh l (LJ a5 (fun J E W => ∃ D, ST true lB w W (hp w) D ∧ E 0 = (.string z) ∧ E 2 = (.bool false) ∧ E 16 = (.bool J)) 5 ?_ (fun J a x => ?_))
  ·rintro s E W ⟨D, b, h, H, a2⟩ N
   refine Wh a2 (LJ N (fun I E W => ∃ G, ST true lB w W (hp w) G ∧ E 2 = (.bool false) ∧ E 20 = (.bool I)) 3 ?_ (fun I j u => ?_))
   ·rintro v E W ⟨G, b, a9, a3⟩ Q
    exact Wg a3 (lt (rQ Q b))
   refine bC j (fun g j => ?_) (fun g j => ?_)
   ·refine ug g (jB h) (bS j fun p T j => vH g (Eg b call164 (Jn z _ _  T) (fun m b => V (km (cB g) rfl) ?_)))
    obtain rfl := sj j
    exact u _ _ ⟨_, (b.jr St), H, rfl⟩
   refine un g (un g (V (kq (cB g) rfl) ?_))
   obtain rfl := sj j
   exact u _ _ ⟨_, (b.jr St), H, rfl⟩
  refine bC a (fun c a => ?_) (fun c a => ?_)
  ·refine ug c (jB M) (bS a fun Z B a => ug c (Li (i := 0) cH rfl rfl (Ji B) (Nh B)) (bS a fun q U a => vH c (Eg b call163 (xJ (⟨#[97, 98, 99, 100, 101, 102, 103, 104, 105, 106, 107, 108, 109, 110, 111, 112, 113, 114, 115, 116, 117, 118, 119, 120, 121, 122]⟩ : ByteArray) (Z.toNat : Int) _ _  U) (fun n b => ug c (kC rfl rfl rfl) (V (km (cB c) rfl) ?_)))))
   obtain rfl := sj a
   exact x _ _ ⟨_, (b.jr St), M, d, rfl⟩
  refine un c (un c (un c (un c (V (kq (cB c) rfl) ?_))))
  obtain rfl := sj a
  exact x _ _ ⟨_, (b.jr St), M, d, rfl⟩
 refine bC t (fun k t => ?_) (fun k t => ?_)
 ·refine ug k (jB rfl) (ug k (ol cH rfl) (ug k (kC rfl rfl rfl) (V (km (cB k) rfl) ?_)))
  obtain rfl := sj t
  exact y _ _ ⟨_, (b.jr St), rfl, rfl, rfl⟩
 refine un k (un k (un k (V (kq (cB k) rfl) ?_)))
 obtain rfl := sj t
 exact y _ _ ⟨_, (b.jr St), rfl, rfl, rfl⟩
theorem rZ (i : jl) (r : Bool) (w : World) (hm : oX i = some r) :
  kf true pg0 206 [(.agg (jw i).toArray)] w (.bool r) := by
 refine cG 11 func206 rfl (fun b => sg (VE (kx b rfl (fun H J b => Wa (lr (Wf uh (VB b Mh rfl rfl cL (bS hm fun K y hm => VE (Eg b call93 (uQ i.jo _ _  y) (fun I b => Wm (LJ hm (fun k E W => ∃ j, ST true lB w W (hp w) j ∧ E 2 = (.bool false) ∧ E 10 = (.bool k)) 4 ?_ (fun k a g => ?_))))))))))))
 ·rintro G E W ⟨j, b, B, x⟩ t
  exact Wg x (lt (rQ t b))
 refine bC a (fun c a => ?_) (fun c a => ?_)
 ·refine ug c (jy vS rfl) (ug c (jt rfl (jJ b.has Mh rfl cL)) (bS a fun D u a => vH c (Eg b call93 (uQ i.Word _ _  u) (fun z b => V (km (cB c) rfl) ?_))))
  obtain rfl := sj a
  exact g _ _ ⟨_, (b.jr (Db St)), rfl, rfl⟩
 refine un c (un c (un c (V (kq (cB c) rfl) ?_)))
 obtain rfl := sj a
 exact g _ _ ⟨_, (b.jr (Db St)), rfl, rfl⟩
theorem Qj (w : World) (a b : ByteArray) : (callFunc 273 [Value.string a, .string b].toArray).run pg0 w = .ok (.value (.int .i64 (ot a b))) w := MM func273 (by kernel_rfl) (by kernel_rfl) (by kernel_rfl) (by kernel_rfl) a b w
theorem wE (a c : ByteArray) (r : Int) (w : World) (hm : mS a c = some r) :
  kf true pg0 215 [(.string a), (.string c)] w (.int .i64 r) := by
 exact cG 8 func215 rfl (fun b => sg (Wa (lr (Wm (Wm (VE (HA (args := [(.string a), (.string c)]) (v := .int .i64 (ot a c)) rfl (by exact vC rfl rfl) (Qj _ a c) (Wa (lt (rQ hm b))))))))))
theorem zg (a c : ByteArray) (r : Int) (w : World) (hm : oF a c = some r) :
  kf true pg0 156 [(.string a), (.string c)] w (.int .i64 r) := by
 refine cG 8 func156 rfl (fun b => sg (Wa (lr (Wm (Wm (bS hm fun j g hm => VE (Eg b call215 (wE a c _ _  g) (fun i b => Wa (ln ?_)))))))))
 exact ky (rQ hm b)
theorem IQ (g : Value) (t : List Int) (r : Int) (w : World) (c : Sl (Pl (ku .i64)) 1 (hp w) g t) (hm : tk t = some r) :
  kf true pg0 155 [g] w (.int .i64 r) := by
 refine cG 18 func155 rfl (fun b => sg (Wa (lr (Wa (lS (Wm ?_))))))
 refine V (lR underlying257 rfl c) (Wm (ln (lh (fun i E W => ∃ k, (E 8 = .int .i64 (i : Nat) ∧ E 7 = .int .i64 (t.length : Nat)) ∧ ST true lB w W (hp w) k ∧ E 3 = (.int .i64 0) ∧ E 6 = g ∧ qO (t.drop i) = some r) t.length c.len ⟨_, ⟨rfl, rfl⟩, (b.jr St), rfl, rfl, hm⟩ dc dc dc (fun _ _ _ h => by obtain ⟨_, l, _⟩ := h; exact l) ?_ ?_)))
 ·rintro J E W B ⟨k, ⟨d, m⟩, b, j, u, a⟩
  obtain ⟨x, K, H, G, I⟩ := kM B
  rw [H] at a
  refine bg (VQ (ql (enc := (ku .i64)) (i := (J : Int)) (x0 := x) underlying257 gl u d c (aP _) G) (fun M D => V (jt rfl (nV b.has (y := (.int .i64 x)) D cO)) (Wa (lr (Wm (Wh j (Wi rfl (ln ?_))))))))
  refine CI a rfl (fun z a => ?_) (fun z a => ?_)
  ·refine sg (Wm (Wa (lt (nw (kZ (nw (kZ ?_)))))))
   obtain rfl := sj a
   exact rP b
  exact lE (kl (jE ⟨d, _, ⟨rfl, m⟩, (b.jr St), j, u, (by rw [I]; exact a)⟩))
 rintro E W ⟨k, ⟨d, m⟩, b, j, u, a⟩
 rw [aU] at a
 exact jE (sg (Wh j (Wa (lt (rQ a b)))))
theorem Gb (g i : jl) (r : Int) (w : World) (hm : qz g i = some r) :
  kf true pg0 83 [(.agg (jw g).toArray), (.agg (jw i).toArray)] w (.int .i64 r) := by
 refine cG 17 func83 rfl (fun b => sg (VE (kx b rfl (fun G I b => VE (kx b rfl (fun H J b => Wa (ln (jI ?_))))))))
 replace b := b.drew
 have d := b.has.jr (Kb (Kb Sn))
 refine kG d jY (X 0 rfl d (jy uh rfl) (XH 1 rfl d (fun _ h => jt rfl (jJ h (Mt Mh) rfl cL)) (X 2 rfl d (jy uh rfl) (XH 3 rfl d (fun _ h => jt rfl (jJ h Mh rfl cL)) (X 5 rfl d (jy vS rfl) (XH 6 rfl d (fun _ h => jt rfl (jJ h (Mt Mh) rfl cL)) (X 7 rfl d (jy vS rfl) (XH 8 rfl d (fun _ h => jt rfl (jJ h Mh rfl cL)) (bS hm fun a j hm => XE 4 rfl (Eg b call156 (zg g.jo i.jo _ _  j) (fun x b => ?_)))))))))))
 have d := b.has.jr (Kb (Kb Sn))
 refine ⟨d, (bS hm fun c k hm => XE 9 rfl (Eg b call156 (zg g.Word i.Word _ _  k) (fun y b => ?_)))⟩
 have d := b.has.jr (Kb (Kb Sn))
 refine ⟨d, (XE 10 rfl (jX (cs := #[(.int .i64 a), (.int .i64 c)]) b (vZ rfl rfl) (mA underlying257 gl zeroValue3) (fun z u b => ?_)))⟩
 have d := b.has.jr (Db (Kb (Kb Sn)))
 refine ⟨d, (bS hm fun D t hm => XE 11 rfl (Eg b call155 (IQ (.slice (some ⟨u, 0, none⟩) 2 2) ([a, c]) _ _ (Sl.lit (enc := (ku .i64)) (l := [a, c]) (fun _ => rfl) rfl nb rfl (b.at_ Mh)) t) (fun B b => ?_)))⟩
 have d := b.has.jr (Db (Kb (Kb Sn)))
 refine ⟨d, (X 12 rfl d (nt rfl) (kO kr (jE ?_)))⟩
 exact ky (rQ hm b)
set_option maxHeartbeats 4000000 in
theorem xE (a : jm) (r : Bool) (w : World) (hm : rX a = some r) :
  kf true pg0 144 [(.agg (js a).toArray)] w (.bool r) := by
 let m9 := (⟨a.Kind, a.Head, zS, a.B, a.C, zS⟩ : jm)
 let j2 := (⟨a.Kind, a.Head, zS, a.B, K0, a.kp⟩ : jm)
 let j1 : Value := (.agg (jw a.B).toArray)
 let g6 := ((js (⟨a.Kind, a.Head, zS, a.B, K0, zS⟩ : jm)).toArray)
 let p := (⟨a.Kind, a.Head, zS, K0, K0, zS⟩ : jm)
 refine cG 98 func144 rfl (fun b => sg (VE (kx b rfl (fun W2 N b => Wa (lr (Wf xi (VB b Mh rfl rfl cO (Wf uf (VA b Mh (jw a.Head) bX bG (V (mE (v := (.agg (js p).toArray)) (vZ rfl rfl) (lO dE dY (Sa _ dY) kr)) (VE (kB b dE (fun W4 B b => ?_)))))))))))))
 refine VO (jM (.agg (js p).toArray) ((js p).toArray) b rfl rfl aX (oR p) nb rfl (fun W5 b => lr (Wf uf (VA b (Mt Mh) (jw a.Head) bX bG (bS hm fun n j4 hm => VE (Eg b jj (rZ a.Head _ _  j4) (fun W8 b => Wa (ln (jI (Sv hm (fun A E W => ∃ b6, ST true lB w W (hp w) ((B, Ol (js A.2) 52) :: ((N, Ol (js a) 52) :: b6)) ∧ E 1 = (.pointer (some ⟨N, 0, none⟩)) ∧ E 3 = (.pointer (some ⟨B, 0, none⟩)) ∧ E 4 = (.bool A.1)) (fun A g Z => ?_) ?_))))))))))
 ·let g5 := ((js m9).toArray : Array Value)
  let b8 := ((js j2).toArray : Array Value)
  let m : Value := (.pointer (some ⟨B, 0, none⟩))
  let l : Value := (.pointer (some ⟨N, 0, none⟩))
  let a0 := ((js a).toArray : Array Value)
  refine sg (Wf xi (VB b (Mt Mh) rfl rfl cO (ln (bg (Wi rfl (Wa (ln (CI g rfl (fun e5 g => ?_) (fun e5 g => ?_)))))))))
  ·replace b := b.drew
   have d := b.has.jr (Db (Kb Sn))
   refine kG d jY (X 0 rfl d (jy Bz rfl) (XH 1 rfl d (fun _ h => jt rfl (jJ h Mh rfl cL)) (X 2 rfl d (jB rfl) (X 3 rfl d (jB rfl) (X 8 rfl d (jy Bz rfl) (PJ g (fun d6 E W => ∃ b9, ST true lB w W (hp w) ((B, Ol (js p) 52) :: ((N, Obj.cells a0 52 (0, 0)) :: b9)) ∧ E 1 = l ∧ E 3 = m ∧ E 4 = (.bool n) ∧ E 18 = (.string a.ke) ∧ E 24 = (.bool d6) ∧ E 25 = (.pointer (some ⟨B, 3, none⟩))) (bm 11 511) 2 ?_ (fun d6 D a2 => ?_)))))))
   ·rintro m1 E W ⟨b9, b, h2, h3, k8, h4, h5, h6⟩ f1
    refine XO 9 rfl (jM (.string a.ke) ((js (⟨a.Kind, a.Head, a.ke, K0, K0, zS⟩ : jm)).toArray) b h6 h4 gx (P7 a.ke) nb rfl (fun j5 b => ?_))
    have d := b.has.jr (Db (Kb Sn))
    refine ⟨d, (X 10 rfl d (nt h5) (kO kr (kl (jE ?_))))⟩
    obtain rfl := sj f1
    exact ⟨_, rfl, _, (b.jr St), h2, h3, rfl⟩
   refine bC D (fun k D => ?_) (fun k D => ?_)
   ·refine Xg 4 rfl rfl (cB k) d (jy Bz rfl) (sZ 5 rfl rfl (cB k) d (fun _ h => jt rfl (jJ h Mh rfl cL)) (bS D fun l2 f9 D => IK 6 rfl rfl (cB k) (Eg b call93 (uQ a.ke _ _  f9) (fun j6 b => ?_))))
    have d := b.has.jr (Db (Kb Sn))
    refine ⟨d, (X 7 rfl d (km (cB k) rfl) ?_)⟩
    obtain rfl := sj D
    refine og kr (a2 _ _ ⟨_, (b.jr St), rfl, rfl, rfl, rfl, rfl, rfl⟩)
   refine Xn 4 rfl rfl (cB k) d (Xn 5 rfl rfl (cB k) d (Xn 6 rfl rfl (cB k) d (X 7 rfl d (kq (cB k) rfl) ?_)))
   obtain rfl := sj D
   refine og kr (a2 _ _ ⟨_, (b.jr St), rfl, rfl, rfl, rfl, rfl, rfl⟩)
  refine sg (Wi rfl (Wa (ln (CI g rfl (fun e6 g => ?_) (fun e6 g => ?_)))))
  ·replace b := b.drew
   have d := b.has.jr (Db (Kb Sn))
   refine kG d jY (X 0 rfl d (jy oZ rfl) (XH 1 rfl d (fun _ h => jt rfl (jD h Mh (jw a.B) rfl bX bG)) (X 2 rfl d (jB rfl) (X 3 rfl d (jB rfl) (X 8 rfl d (jy oZ rfl) (PJ g (fun d7 E W => ∃ c0, ST true lB w W (hp w) ((B, Ol (js p) 52) :: ((N, Obj.cells a0 52 (0, 0)) :: c0)) ∧ E 1 = l ∧ E 3 = m ∧ E 4 = (.bool n) ∧ E 29 = j1 ∧ E 35 = (.bool d7) ∧ E 36 = (.pointer (some ⟨B, 4, none⟩))) (bm 11 511) 2 ?_ (fun d7 G a3 => ?_)))))))
   ·rintro m2 E W ⟨c0, b, h7, h8, k9, h9, i0, i1⟩ f2
    refine XO 9 rfl (jM j1 g6 b i1 h9 bG (xa a.B) nb rfl (fun j7 b => ?_))
    have d := b.has.jr (Db (Kb Sn))
    refine ⟨d, (X 10 rfl d (nt i0) (kO kr (kl (jE ?_))))⟩
    obtain rfl := sj f2
    exact ⟨_, rfl, _, (b.jr St), h7, h8, rfl⟩
   refine bC G (fun t G => ?_) (fun t G => ?_)
   ·refine Xg 4 rfl rfl (cB t) d (jy oZ rfl) (sZ 5 rfl rfl (cB t) d (fun _ h => jt rfl (jD h Mh (jw a.B) rfl bX bG)) (bS G fun l3 g0 G => IK 6 rfl rfl (cB t) (Eg b jj (rZ a.B _ _  g0) (fun j8 b => ?_))))
    have d := b.has.jr (Db (Kb Sn))
    refine ⟨d, (X 7 rfl d (km (cB t) rfl) ?_)⟩
    obtain rfl := sj G
    refine og kr (a3 _ _ ⟨_, (b.jr St), rfl, rfl, rfl, rfl, rfl, rfl⟩)
   refine Xn 4 rfl rfl (cB t) d (Xn 5 rfl rfl (cB t) d (Xn 6 rfl rfl (cB t) d (X 7 rfl d (kq (cB t) rfl) ?_)))
   obtain rfl := sj G
   refine og kr (a3 _ _ ⟨_, (b.jr St), rfl, rfl, rfl, rfl, rfl, rfl⟩)
  refine sg (Wi rfl (Wa (ln (CI g rfl (fun e7 g => ?_) (fun e7 g => ?_)))))
  ·refine jI ?_
   replace b := b.drew
   have d := b.has.jr (Db (Kb Sn))
   refine kG d jY (X 0 rfl d (jy oZ rfl) (XH 1 rfl d (fun _ h => jt rfl (jD h Mh (jw a.B) rfl bX bG)) (X 2 rfl d (jy yN rfl) (XH 3 rfl d (fun _ h => jt rfl (jJ h Mh rfl cL)) (X 4 rfl d (jy oZ rfl) (XO 5 rfl (jM j1 g6 b rfl rfl bG (xa a.B) nb rfl (fun j9 b => ?_))))))))
   have d := b.has.jr (Db (Kb Sn))
   refine ⟨d, (X 6 rfl d (jy yN rfl) (XO 7 rfl (jM (.string a.kp) ((js j2).toArray) b rfl rfl gx (P7 a.kp) nb rfl (fun k0 b => ?_))))⟩
   have d := b.has.jr (Db (Kb Sn))
   refine ⟨d, (kO kr (jE (jF (Wm (Wm (LJ g (fun e0 E W => ∃ c1, ST true lB w W (hp w) ((B, Obj.cells b8 52 (0, 0)) :: ((N, Obj.cells a0 52 (0, 0)) :: c1)) ∧ E 1 = l ∧ E 3 = m ∧ E 4 = (.bool n) ∧ E 50 = (.bool e0)) 4 ?_ (fun e0 I O => ?_)))))))⟩
   ·rintro m3 E W ⟨c1, b, U, c7, c8, i2⟩ f3
    refine Wh i2 (LJ f3 (fun d9 E W => ∃ c2, ST true lB w W (hp w) ((B, Obj.cells b8 52 (0, 0)) :: ((N, Obj.cells a0 52 (0, 0)) :: c2)) ∧ E 1 = l ∧ E 3 = m ∧ E 4 = (.bool n) ∧ E 59 = (.bool d9)) 8 ?_ (fun d9 T a5 => ?_))
    ·rintro m4 E W ⟨c2, b, q, c9, d0, i3⟩ f4
     refine Wh i3 (LJ f4 (fun d8 E W => ∃ c3, ST true lB w W (hp w) ((B, Obj.cells b8 52 (0, 0)) :: ((N, Obj.cells a0 52 (0, 0)) :: c3)) ∧ E 1 = l ∧ E 3 = m ∧ E 4 = (.bool n) ∧ E 64 = (.bool d8)) 4 ?_ (fun d8 H a4 => ?_))
     ·rintro m5 E W ⟨c3, b, i4, i5, l0, i6⟩ f5
      refine Wg i6 (kd (kl (jE ?_)))
      obtain rfl := sj f5
      exact ⟨_, rfl, _, (b.jr St), i4, i5, rfl⟩
     refine bC H (fun x H => ?_) (fun x H => ?_)
     ·refine ug x (jy yN q) (ug x (jt rfl (jJ b.has (Mt Mh) rfl cL)) (bS H fun l4 g1 H => vH x (Eg b call93 (uQ a.kp _ _  g1) (fun k1 b => V (km (cB x) rfl) ?_))))
      obtain rfl := sj H
      exact a4 _ _ ⟨_, (b.jr St), q, c9, d0, rfl⟩
     refine un x (un x (un x (V (kq (cB x) rfl) ?_)))
     obtain rfl := sj H
     exact a4 _ _ ⟨_, (b.jr St), q, c9, d0, rfl⟩
    refine bC T (fun c T => ?_) (fun c T => ?_)
    ·refine ug c (jy oZ U) (ug c (jy uh rfl) (ug c (jt rfl (jJ b.has (Mt Mh) rfl cL)) (ug c (jy uf U) (ug c (jy uh rfl) (ug c (jt rfl (jJ b.has (Mt Mh) rfl cL)) (ug c (Oc rfl rfl rfl) (V (km (cB c) rfl) ?_)))))))
     obtain rfl := sj T
     exact a5 _ _ ⟨_, (b.jr St), U, c7, c8, rfl⟩
    refine un c (un c (un c (un c (un c (un c (un c (V (kq (cB c) rfl) ?_)))))))
    obtain rfl := sj T
    exact a5 _ _ ⟨_, (b.jr St), U, c7, c8, rfl⟩
   refine bC I (fun u I => ?_) (fun u I => ?_)
   ·refine ug u (jy oZ rfl) (ug u (jt rfl (jD b.has (Mt Mh) (jw a.B) rfl bX bG)) (bS I fun l5 g2 I => vH u (Eg b jj (rZ a.B _ _  g2) (fun k2 b => V (km (cB u) rfl) ?_))))
    obtain rfl := sj I
    exact O _ _ ⟨_, (b.jr St), rfl, rfl, rfl, rfl⟩
   refine un u (un u (un u (V (kq (cB u) rfl) ?_)))
   obtain rfl := sj I
   exact O _ _ ⟨_, (b.jr St), rfl, rfl, rfl, rfl⟩
  refine sg (Wi rfl (Wa (ln (CI g rfl (fun e8 g => ?_) (fun e8 g => ?_)))))
  ·refine jI ?_
   replace b := b.drew
   have d := b.has.jr (Db (Kb Sn))
   refine kG d jY (X 0 rfl d (jy oZ rfl) (XH 1 rfl d (fun _ h => jt rfl (jD h Mh (jw a.B) rfl bX bG)) (X 2 rfl d (jy xd rfl) (XH 3 rfl d (fun _ h => jt rfl (jD h Mh (jw a.C) rfl bX bG)) (X 4 rfl d (jy oZ rfl) (XO 5 rfl (jM j1 g6 b rfl rfl bG (xa a.B) nb rfl (fun k3 b => ?_))))))))
   have d := b.has.jr (Db (Kb Sn))
   refine ⟨d, (X 6 rfl d (jy xd rfl) (XO 7 rfl (jM (.agg (jw a.C).toArray) ((js m9).toArray) b rfl rfl bG (xa a.C) nb rfl (fun k4 b => ?_))))⟩
   have d := b.has.jr (Db (Kb Sn))
   refine ⟨d, (kO kr (jE (jF (Wm (Wm (LJ g (fun e3 E W => ∃ c4, ST true lB w W (hp w) ((B, Obj.cells g5 52 (0, 0)) :: ((N, Obj.cells a0 52 (0, 0)) :: c4)) ∧ E 1 = l ∧ E 3 = m ∧ E 4 = (.bool n) ∧ E 78 = (.bool e3)) 4 ?_ (fun e3 M a9 => ?_)))))))⟩
   ·rintro m6 E W ⟨c4, b, s, d1, d2, i7⟩ f6
    refine Wh i7 (LJ f6 (fun e2 E W => ∃ c5, ST true lB w W (hp w) ((B, Obj.cells g5 52 (0, 0)) :: ((N, Obj.cells a0 52 (0, 0)) :: c5)) ∧ E 1 = l ∧ E 3 = m ∧ E 4 = (.bool n) ∧ E 83 = (.bool e2)) 4 ?_ (fun e2 K R => ?_))
    ·rintro m7 E W ⟨c5, b, Y, d3, d4, i8⟩ f7
     refine Wh i8 (LJ f7 (fun e1 E W => ∃ c6, ST true lB w W (hp w) ((B, Obj.cells g5 52 (0, 0)) :: ((N, Obj.cells a0 52 (0, 0)) :: c6)) ∧ E 1 = l ∧ E 3 = m ∧ E 4 = (.bool n) ∧ E 91 = (.bool e1)) 7 ?_ (fun e1 J P => ?_))
     ·rintro m8 E W ⟨c6, b, i9, j0, l1, j3⟩ f8
      refine Wg j3 (kd (kl (jE ?_)))
      obtain rfl := sj f8
      exact ⟨_, rfl, _, (b.jr St), i9, j0, rfl⟩
     refine bC J (fun i J => ?_) (fun i J => ?_)
     ·refine ug i (jy oZ Y) (ug i (jt rfl (jD b.has (Mt Mh) (jw a.B) rfl bX bG)) (ug i (jy xd Y) (ug i (jt rfl (jD b.has (Mt Mh) (jw a.C) rfl bX bG)) (bS J fun l6 g3 J => vH i (Eg b call83 (Gb a.B a.C _ _  g3) (fun k5 b => ug i (kC rfl rfl rfl) (V (km (cB i) rfl) ?_)))))))
      obtain rfl := sj J
      exact P _ _ ⟨_, (b.jr St), Y, d3, d4, rfl⟩
     refine un i (un i (un i (un i (un i (un i (V (kq (cB i) rfl) ?_))))))
     obtain rfl := sj J
     exact P _ _ ⟨_, (b.jr St), Y, d3, d4, rfl⟩
    refine bC K (fun z K => ?_) (fun z K => ?_)
    ·refine ug z (jy xd s) (ug z (jt rfl (jD b.has (Mt Mh) (jw a.C) rfl bX bG)) (bS K fun l7 g4 K => vH z (Eg b jj (rZ a.C _ _  g4) (fun k6 b => V (km (cB z) rfl) ?_))))
     obtain rfl := sj K
     exact R _ _ ⟨_, (b.jr St), s, d1, d2, rfl⟩
    refine un z (un z (un z (V (kq (cB z) rfl) ?_)))
    obtain rfl := sj K
    exact R _ _ ⟨_, (b.jr St), s, d1, d2, rfl⟩
   refine bC M (fun y M => ?_) (fun y M => ?_)
   ·refine ug y (jy oZ rfl) (ug y (jt rfl (jD b.has (Mt Mh) (jw a.B) rfl bX bG)) (bS M fun l8 g7 M => vH y (Eg b jj (rZ a.B _ _  g7) (fun k7 b => V (km (cB y) rfl) ?_))))
    obtain rfl := sj M
    exact a9 _ _ ⟨_, (b.jr St), rfl, rfl, rfl, rfl⟩
   refine un y (un y (un y (V (kq (cB y) rfl) ?_)))
   obtain rfl := sj M
   exact a9 _ _ ⟨_, (b.jr St), rfl, rfl, rfl, rfl⟩
  refine sg (Wa (ln ?_))
  replace b := b.jr (Db (Db St))
  refine ky (nw (kZ ?_))
  obtain rfl := sj g
  replace Z : some false = some r := Z
  obtain rfl := sj Z
  exact rP b
 rintro ⟨l9, e4⟩ E W ⟨b6, b, g8, g9, h0⟩ e9
 refine sg (Wh h0 (Wm (LJ e9 (fun d5 E W => ∃ b7, ST true lB w W (hp w) b7 ∧ E 97 = (.bool d5)) 4 ?_ (fun d5 Q L => ?_))))
 ·rintro m0 E W ⟨b7, b, h1⟩ f0
  exact Wg h1 (lt (rQ f0 b))
 refine bC Q (fun j Q => ?_) (fun j Q => ?_)
 ·refine ug j (jt g9 (jD b.has Mh (js e4) rfl cI aX)) (ug j (jt g8 (jD b.has (Mt Mh) (js a) rfl cI aX)) (ug j (Az rfl rfl (sI fK) (wW (yg _ e4 a))) (V (km (cB j) rfl) ?_)))
  obtain rfl := sj Q
  exact L _ _ ⟨_, (b.jr (Db (Db St))), rfl⟩
 refine un j (un j (un j (V (kq (cB j) rfl) ?_)))
 obtain rfl := sj Q
 exact L _ _ ⟨_, (b.jr (Db (Db St))), rfl⟩
theorem CF (j : Value) (t : List jm) (c : jm) (r : Int) (w : World) (g : Sl (Pl js) 9 (hp w) j t) (hm : uB t c = some r) :
  kf true pg0 242 [j, (.agg (js c).toArray)] w (.int .i64 r) := by
 refine cG 19 func242 rfl (fun b => sg (VE (kx b rfl (fun Q J b => Wa (lS (Wm (V (lR bn rfl g) (Wm (ln ?_)))))))))
 refine lh (fun i E W => ∃ k, (E 8 = .int .i64 (i : Nat) ∧ E 7 = .int .i64 (t.length : Nat)) ∧ ST true lB w W (hp w) ((J, Ol (js c) 52) :: k) ∧ E 0 = j ∧ E 3 = (.pointer (some ⟨J, 0, none⟩)) ∧ oS c (t.drop i) i = some r) t.length g.len ⟨_, ⟨rfl, rfl⟩, (b.jr St), rfl, rfl, hm⟩ dc dc dc (fun _ _ _ h => by obtain ⟨_, m, _⟩ := h; exact m) ?_ ?_
 ·rintro K E W B ⟨k, ⟨l, p⟩, b, u, x, a⟩
  obtain ⟨y, M, H, G, I⟩ := kM B
  rw [H] at a
  refine bg (Wh l (Wa (ln (jI ?_))))
  replace b := b.drew
  have d := b.has.jr (Kb Sn)
  refine kG d jY (XH 0 rfl d (fun _ n => jt x (jD n Mh (js c) rfl cI aX)) (X 1 rfl d (jB u) (X 2 rfl d (jB rfl) (XQ 3 rfl d (ql (enc := js) (i := (K : Int)) (x0 := y) bn aX rfl rfl g (aP _) G) (fun N D => XH 4 rfl d (fun _ n => jt rfl (jW n D cI aX)) (X 5 rfl d (Az rfl rfl (sI fK) (wW (yg _ c y))) (kO kr (jE (CI a rfl (fun z a => ?_) (fun z a => ?_))))))))))
  ·refine sg (Wm (Wa (ln ?_)))
   replace b := b.jr (Db St)
   refine ky (nw (kZ (nw (kZ ?_))))
   obtain rfl := sj a
   exact rP b
  exact lE (kl (jE ⟨l, _, ⟨rfl, p⟩, (b.jr St), u, x, (by rw [I]; exact a)⟩))
 rintro E W ⟨k, ⟨l, p⟩, b, u, x, a⟩
 rw [aU] at a
 refine jE ?_
 replace b := b.jr (Db St)
 exact sg (Wa (lt (rQ a b)))
theorem AO (a : Value) (g : List jm) (c : jm) (r : Bool) (w : World) (i : Sl (Pl js) 9 (hp w) a g) (hm : qH g c = some r) :
  kf true pg0 179 [a, (.agg (js c).toArray)] w (.bool r) := by
 refine cG 9 func179 rfl (fun b => sg (VE (kx b rfl (fun k u b => Wa (lr (Wm (VA b Mh (js c) cI aX (bS hm fun x j hm => VE (Eg b call242 (CF a g c _ _ (i.mono (Pl.mono _) b.jx) j) (fun t b => Wi rfl (Wa ?_)))))))))))
 refine ln ?_
 exact ky (rQ hm b)
theorem xo (a : Value) (g : List jm) (c : jm) (r : Bool) (w : World) (i : Sl (Pl js) 9 (hp w) a g) (hm : pf g c = some r) :
  kf true pg0 111 [a, (.agg (js c).toArray)] w (.bool r) := by
 refine cG 8 func111 rfl (fun b => sg (VE (kx b rfl (fun k u b => Wa (lr (Wm (VA b Mh (js c) cI aX (bS hm fun x j hm => VE (Eg b call179 (AO a g c _ _ (i.mono (Pl.mono _) b.jx) j) (fun t b => Wa (kd ?_)))))))))))
 refine jE ?_
 exact ky (rQ hm b)
theorem I3 (a : jm) (r : List jl) (w : World) (hm : xr a = some r) :
  mi true pg0 320 [(.agg (js a).toArray)] w 27 jw 2 r := by
 refine vV 27 func320 rfl (fun b => sg (VE (kx b rfl (fun W2 h b => Wa (lS (VA b Mh (js a) cI aX (bS hm fun r3 q hm => VE (Eg b call144 (xE a _ _  q) (fun W5 b => V (pA rfl) (kd ?_))))))))))
 refine jE (CI hm rfl (fun n hm => ?_) (fun n hm => ?_))
 ·refine sg (Wa (ln ?_))
  replace b := b.jr (Db St)
  refine ky (kZ ?_)
  obtain rfl := sj hm
  exact kV (v := (.slice none 0 0)) rfl rfl ⟨_, [], rfl, b.nF (fun p d => by cases d) (by simp), jL.nil _ _ _⟩
 refine kg (Wf uf (VA b Mh (jw a.Head) bX bG (VE (jX (cs := (jw a.Head).toArray) b (mh rfl) (mA eX bG fW) (fun W8 y b => Wa (ln (jI (CJ hm (fun I E W => ∃ j i z, ST true lB w W (hp w) ((h, Ol (js a) 52) :: (i ++ z)) ∧ E 1 = (.pointer (some ⟨h, 0, none⟩)) ∧ E 3 = j ∧ jL 27 jw 2 j I i) (fun I g => ?_) ?_))))))))
 ·refine sg (Wf xi (VB b (Mt Mh) rfl rfl cO (Wi rfl (ln (CI g rfl (fun Q g => ?_) (fun Q g => ?_))))))
  ·refine jF (Wm (Wf oZ (VA b (Mt Mh) (jw a.B) bX bG (VE (jX (cs := (jw a.B).toArray) b (mh rfl) (mA eX bG fW) (fun O a4 b => ?_))))))
   replace b := b.perm (Nb (Pb Pz) Nz)
   refine bS g fun c0 T g => VE (oh (enc := jw) (v := (.slice (some ⟨y, 0, none⟩) 1 1)) (vs := (.slice (some ⟨a4, 0, none⟩) 1 1)) (R := [(y, Ol (jw a.Head) 27)]) b BB dc xa eX yK.1 yK.2.1 rfl yK.2.2.1 yK.2.2.2 rfl rfl (jL.lit (l := [a.Head]) (enc := jw) rfl dc rfl rfl) (Sl.lit (enc := jw) (l := [a.B]) BB rfl nb rfl (b.at_ (Mt Mh))) T (fun P a9 m b K => Wa (ln ?_)))
   obtain rfl := sj g
   exact ⟨a9, m, _, (b.jr (Sb (Pr (Pb Pz)) (Kr (Db St)))), rfl, rfl, K⟩
  refine kn ?_
  obtain rfl := sj g
  replace b := b.Du
  exact ⟨(.slice (some ⟨y, 0, none⟩) 1 1), [(y, Ol (jw a.Head) 27)], _, (b.jr (Sb (Pr Pz) St)), rfl, rfl, (jL.lit (l := [a.Head]) (enc := jw) rfl dc rfl rfl)⟩
 rintro b5 E W ⟨j, i, z, b, D, G, u⟩ U
 refine jI (CJ U (fun H E W => ∃ t k B, ST true lB w W (hp w) (k ++ B) ∧ E 3 = t ∧ jL 27 jw 2 t H k) (fun H c => ?_) ?_)
 ·refine sg (V (jy xi D) (VB b Mh rfl rfl cO (Wi rfl (ln (CI c rfl (fun M c => ?_) (fun M c => ?_))))))
  ·refine jF (Wh G (V (jy xd D) (VA b Mh (jw a.C) bX bG (VE (jX (cs := (jw a.C).toArray) b (mh rfl) (mA eX bG fW) (fun A a3 b => ?_))))))
   replace b := b.perm (Nr (Qb (Qb Qz)) Nz)
   refine bS c fun b9 N c => VE (oh (enc := jw) (v := j) (vs := (.slice (some ⟨a3, 0, none⟩) 1 1)) (R := i) b BB dc xa eX yK.1 yK.2.1 rfl yK.2.2.1 yK.2.2.2 rfl rfl u (Sl.lit (enc := jw) (l := [a.C]) BB rfl nb rfl (b.at_ (Ma Mh))) N (fun L s Z b J => Wa (ln ?_)))
   obtain rfl := sj c
   exact ⟨s, Z, _, (b.jr (Kr (Db (Db St)))), rfl, J⟩
  refine kn ?_
  obtain rfl := sj c
  exact ⟨j, i, _, (b.jr (Db St)), G, u⟩
 rintro b6 E W ⟨t, k, B, b, a5, x⟩ Y
 refine sg (Wh a5 (Wa (lt ?_)))
 obtain rfl := sj Y
 exact kV (v := t) rfl rfl ⟨_, k, rfl, b.nF (fun p d => (Ml d)) x.nd, x⟩
theorem Cm (M : Nat) (u : Value) (a9 : List (jl × (List (ByteArray × Bool)))) (G : LO) (D : Value) (a0 : List jm) (B : LO) (a : Value) (Y : List (jl × (List jm))) (I : LO) (c : Value) (K : List (ByteArray × (List jm))) (t : LO) (j : Value) (a4 : List jz) (y : LO) (J : Int) (H : jm) (r : ((List jm) × (List (jl × (List jm))) × (List (ByteArray × (List jm))))) (w : World) {μ0 : jN} (h0 : nD μ0 ((M, Ob #[u, D, a, c, j, (.int .i64 J)] 246) :: (G ++ (B ++ (I ++ (t ++ (y ++ [])))))) w) (e9 : lj (fun (x : jl) => (.agg (jw x).toArray)) (li Value.string (fun (x : Bool) => (Value.bool x))) u a9 G) (a6 : jL 52 js 9 D a0 B) (b2 : lj (fun (x : jl) => (.agg (jw x).toArray)) (jL 52 js 9) a Y I) (T : lj Value.string (jL 52 js 9) c K t) (e1 : oL 285 ll 3 j a4 y) (hm : rp a9 a0 Y K a4 J H = some r) :
  kR true pg0 261 [(.pointer (some ⟨M, 0, none⟩)), (.agg (js H).toArray)] w ((M, Ob #[u, D, a, c, j, (.int .i64 J)] 246) :: (G ++ (B ++ (I ++ (t ++ (y ++ [])))))) (fun v L1 W' => ∃ y1 S2 S4 S6, v = (.tuple #[]) ∧ L1 = ((M, Ob #[u, y1, a, c, j, (.int .i64 J)] 246) :: (G ++ (S2 ++ (S4 ++ (S6 ++ (y ++ [])))))) ∧ jL 52 js 9 y1 r.1 S2 ∧ lj (fun (x : jl) => (.agg (jw x).toArray)) (jL 52 js 9) a r.2.1 S4 ∧ lj Value.string (jL 52 js 9) c r.2.2 S6) := by
 refine zb h0 55 func261 rfl (fun d => sg (VE (kx d rfl (fun W2 b1 d => ln (jI ?_)))))
 replace d := d.drew
 have m := d.has.jr (Kb Sn)
 have n := d.has.jr (Db (Kb Sn))
 refine tN 10 m n jY (kw 0 rfl kr (.inl rfl) rfl dc (fun _ _ h => ⟨h.1, kU br h.2⟩) ⟨m, fun _ => n⟩ (fun _ _ _ _ => jB rfl) (kw 1 rfl kr (.inl rfl) rfl dc (fun _ _ h => ⟨h.1, kU br h.2⟩) ⟨m, fun _ => n⟩ (fun _ _ _ _ => jB rfl) (kw 2 rfl kr (.inl rfl) rfl dc (fun _ _ h => ⟨h.1, kU br h.2⟩) ⟨m, fun _ => n⟩ (fun _ _ _ _ => mw rfl) (kw 3 rfl kr (.inl rfl) rfl dc (fun _ _ h => ⟨h.1, kU br h.2⟩) ⟨m, fun _ => n⟩ (fun _ _ _ _ => jy Ga rfl) (kw 4 rfl kr (.inl rfl) rfl dc (fun _ _ h => ⟨h.1, kU br h.2⟩) ⟨m, fun _ => n⟩ (fun l W q s => have p := (s.2 (q.Cz 10 [4] kr rfl)); jt rfl (jJ p Mh rfl jk)) (kw 5 rfl kr (.inl rfl) rfl dc (fun _ _ h => ⟨h.1, kU br h.2⟩) ⟨m, fun _ => n⟩ (fun l W q s => have p := s.1; jt rfl (jD p Mh (js H) rfl cI aX)) (XE 6 rfl (jX (cs := (js H).toArray) d (mh rfl) (mA bn aX dE) (fun k0 g0 d => ?_)))))))))
 have m := d.has.jr (Db (Kb Sn))
 have n := d.has.jr (Db (Db (Kb Sn)))
 refine ⟨⟨m, fun _ => n⟩, ?_⟩
 replace d := d.perm (Nr (Qb (Qb (Qb (Qr Qz)))) Nz)
 refine bS hm fun a5 f0 hm => XE 7 rfl (oh (enc := js) (v := D) (vs := (.slice (some ⟨g0, 0, none⟩) 1 1)) (R := B) d kP dc oR bn nY.1 nY.2.1 rfl nY.2.2.1 nY.2.2.2 rfl rfl a6 (Sl.lit (enc := js) (l := [H]) kP rfl nb rfl (d.at_ (Ma Mh))) f0 (fun k1 k4 b7 d b5 => ?_))
 have m := d.has.jr (Dr (Db (Kb Sn)))
 have n := d.has.jr (Dr (Db (Db (Kb Sn))))
 refine ⟨⟨m, fun _ => n⟩, (kw 8 rfl kr (.inl rfl) rfl dc (fun _ _ h => ⟨h.1, kU br h.2⟩) ⟨m, fun _ => n⟩ (fun _ _ _ _ => mw rfl) (kw 9 rfl kr (.inl rfl) rfl dc (fun _ _ h => ⟨h.1, kU br h.2⟩) ⟨m, fun _ => n⟩ (fun _ _ _ _ => jy Ga rfl) ?_))⟩
 obtain ⟨a8, b0, rfl⟩ := b5.form
 let A : Value := (.slice a8 a5.length b0)
 replace d := d.perm (Nb (Pr (Pb (Pb Pz))) Nz)
 refine XO 10 rfl (jM A (#[u, A, a, c, j, (.int .i64 J)]) d rfl rfl je oc nb rfl (fun k2 d => ?_))
 have m := d.has.jr (Db (Dr (Db (Kb Sn))))
 refine ⟨⟨m, fun h => yI kr h⟩, (kO kr (jE ?_))⟩
 replace d := d.jr (Kb (Kr (Db St)))
 refine jI (sg (VA d (Mt (Ma Mh)) (js H) cI aX (bS hm fun c1 f1 hm => VE (tb d call320 (I3 H _ _  f1) (fun k3 k5 k6 j9 d g4 ab e8 => ?_)))))
 let b8 := (c1.drop (Int.toNat 1))
 obtain ⟨g3, d, g7, ad, f2⟩ := ST.KC d e8 BB
 refine bS hm fun _ b9 hm => VQ (Eh (i := 1) eX bG rfl rfl f2 (uO b9) (uF b9)) (fun g1 b6 => V (lR eX rfl b6.1) (Wm (ln (lh (fun i E W => ∃ a3 U O, (E 20 = .int .i64 (i : Nat) ∧ E 19 = .int .i64 (b8.length : Nat)) ∧ ST true (keys ((M, Ob #[u, D, a, c, j, (.int .i64 J)] 246) :: (G ++ (B ++ (I ++ (t ++ (y ++ []))))))) w W g3 ((M, Ob #[u, A, a, c, j, (.int .i64 J)] 246) :: ((b1, Ol (js H) 52) :: (U ++ (b7 ++ (G ++ (t ++ (y ++ O))))))) ∧ E 0 = (.pointer (some ⟨M, 0, none⟩)) ∧ E 3 = (.pointer (some ⟨b1, 0, none⟩)) ∧ E 18 = g1 ∧ lj (fun (x : jl) => (.agg (jw x).toArray)) (jL 52 js 9) a a3 U ∧ nH H K a5 (b8.drop i) a3 = some r) b8.length b6.1.len ⟨Y, I, _, ⟨rfl, rfl⟩, (d.jr (Kb (Sb (Pr Pz) (Sr (Qr (Qr Qz)) St)))), rfl, rfl, rfl, b2, hm⟩ dc dc dc (fun _ _ _ h => by obtain ⟨_, _, _, aa, _⟩ := h; exact aa) ?_ ?_))))
 ·rintro f3 E W d3 ⟨a3, U, O, ⟨eI, eN⟩, d, a2, N, P, Z, g⟩
  obtain ⟨Q, h4, d8, d7, d9⟩ := kM d3
  rw [d8] at g
  refine bg (VQ (ql (enc := jw) (i := (f3 : Int)) (x0 := Q) eX bG P eI b6.1 (aP _) d7) (fun j4 d4 => V (jt rfl (jW d.has d4 bX bG)) (VE (kB d fW (fun i1 j0 d => VO (jM (.agg (jw Q).toArray) ((jw Q).toArray) d rfl rfl bG (xa Q) nb rfl (fun i2 d => ln ?_)))))))
  replace d := d.drew
  have m := d.has.jr (Kb (Kb (Kb Sn)))
  refine kG m jY (X 0 rfl m (jB a2) (X 1 rfl m (mw rfl) (X 2 rfl m (jy JB rfl) (XH 3 rfl m (fun _ p => jt rfl (jJ p (Mt Mh) rfl isAgg243)) (XH 4 rfl m (fun _ p => jt rfl (jD p Mh (jw Q) rfl bX bG)) (XH 5 rfl m (fun _ p => jt N (jD p (Mt (Mt Mh)) (js H) rfl cI aX)) (XE 6 rfl (jX (cs := (js H).toArray) d (mh rfl) (mA bn aX dE) (fun i3 e6 d => ?_)))))))))
  have m := d.has.jr (Db (Kb (Kb (Kb Sn))))
  refine ⟨m, ?_⟩
  obtain ⟨h1, d1⟩ := Z
  replace d := d.perm (Nr (Qb (Qb (Qb (Qb Qz)))) Nz)
  refine XE 7 rfl (KH (k := Q) (x0 := [])  jH yY underlying243 gE (jL.nil _ _ _) d d1 rfl rfl (fun i4 f5 h3 h6 e2 d c3 c2 => ?_))
  have m := d.has.jr (Dr (Dr (Db (Kb (Kb (Kb Sn))))))
  refine ⟨m, (X 8 rfl m (DB rfl rfl) (X 10 rfl m (DB rfl rfl) ?_))⟩
  replace d := d.perm (Nr (Qr Qz) Nz)
  refine bS g fun c0 c8 g => XE 9 rfl (oh (enc := js) (v := f5) (vs := (.slice (some ⟨e6, 0, none⟩) 1 1)) (R := e2) d kP dc oR bn nY.1 nY.2.1 rfl nY.2.2.1 nY.2.2.2 rfl rfl c3 (Sl.lit (enc := js) (l := [H]) kP rfl nb rfl (d.at_ (Ma (Ma Mh)))) c8 (fun i5 j5 h7 d c4 => ?_))
  have m := d.has.jr (Dr (Dr (Db (Kb (Kb (Kb Sn))))))
  refine ⟨m, ?_⟩
  replace d := d.perm (Nr (Qr Qz) Nz)
  refine XO 11 rfl (I0 (e := 0) (z := c0)  jH yY d c2 rfl rfl rfl c4 (fun i6 h2 e3 d c5 => ?_))
  have m := d.has.jr (Dr (Db (Kb (Kb (Kb Sn)))))
  refine ⟨m, (kO kr (kl (jE ?_)))⟩
  replace d := d.jr (Kr (Db (Db St)))
  exact ⟨eI, (ns jG a3 Q c0), e3, _, ⟨rfl, eN⟩, (d.jr (Sb (Pr Pz) (Sb (Pr Pz) St))), a2, N, P, c5.e, (by rw [d9]; exact g)⟩
 rintro E W ⟨a3, U, O, ⟨eI, eN⟩, d, a2, N, P, Z, g⟩
 rw [aU] at g
 refine jE (sg (V (jy xi N) (VB d (Mt Mh) rfl rfl cO (Wi rfl (ln (CI g rfl (fun c9 g => ?_) (fun c9 g => ?_)))))))
 ·replace d := d.drew
  have m := d.has.jr (Kb (Kb Sn))
  have n := d.has.jr (Db (Db (Dr (Dr (Dr (Kr Sn))))))
  refine tN 15 m n jY (kw 0 rfl kr (.inl rfl) rfl dc (fun _ _ h => ⟨h.1, kU br h.2⟩) ⟨m, fun _ => n⟩ (fun _ _ _ _ => jB a2) (kw 1 rfl kr (.inl rfl) rfl dc (fun _ _ h => ⟨h.1, kU br h.2⟩) ⟨m, fun _ => n⟩ (fun _ _ _ _ => mw rfl) (kw 2 rfl kr (.inl rfl) rfl dc (fun _ _ h => ⟨h.1, kU br h.2⟩) ⟨m, fun _ => n⟩ (fun _ _ _ _ => jy F9 rfl) (kw 3 rfl kr (.inl rfl) rfl dc (fun _ _ h => ⟨h.1, kU br h.2⟩) ⟨m, fun _ => n⟩ (fun l W q s => have p := s.1; jt rfl (jJ p Mh rfl isAgg244)) (kw 4 rfl kr (.inl rfl) rfl dc (fun _ _ h => ⟨h.1, kU br h.2⟩) ⟨m, fun _ => n⟩ (fun _ _ _ _ => jy yN N) (kw 5 rfl kr (.inl rfl) rfl dc (fun _ _ h => ⟨h.1, kU br h.2⟩) ⟨m, fun _ => n⟩ (fun l W q s => have p := s.1; jt rfl (jJ p (Mt Mh) rfl cL)) (kw 6 rfl kr (.inl rfl) rfl dc (fun _ _ h => ⟨h.1, kU br h.2⟩) ⟨m, fun _ => n⟩ (fun _ _ _ _ => jB a2) (kw 7 rfl kr (.inl rfl) rfl dc (fun _ _ h => ⟨h.1, kU br h.2⟩) ⟨m, fun _ => n⟩ (fun _ _ _ _ => mw rfl) (kw 8 rfl kr (.inl rfl) rfl dc (fun _ _ h => ⟨h.1, kU br h.2⟩) ⟨m, fun _ => n⟩ (fun _ _ _ _ => jy F9 rfl) (kw 9 rfl kr (.inl rfl) rfl dc (fun _ _ h => ⟨h.1, kU br h.2⟩) ⟨m, fun _ => n⟩ (fun l W q s => have p := s.1; jt rfl (jJ p Mh rfl isAgg244)) (kw 10 rfl kr (.inl rfl) rfl dc (fun _ _ h => ⟨h.1, kU br h.2⟩) ⟨m, fun _ => n⟩ (fun _ _ _ _ => jy yN N) (kw 11 rfl kr (.inl rfl) rfl dc (fun _ _ h => ⟨h.1, kU br h.2⟩) ⟨m, fun _ => n⟩ (fun l W q s => have p := s.1; jt rfl (jJ p (Mt Mh) rfl cL)) ?_))))))))))))
  obtain ⟨e0, L⟩ := T
  obtain ⟨h8, g8, g9⟩ := ml.rowAt lH.1 L H.kp
  refine kw 12 rfl kr (.inl rfl) rfl dc (fun _ _ h => ⟨h.1, kU br h.2⟩) ⟨m, fun _ => n⟩ (fun l W q s => have p := (s.2 (q.Cz 15 [12] kr rfl)); om (k := H.kp) (z := (.slice none 0 0)) Fw underlying244 gE rfl rfl L (fun b o hq => p.2 b o (Ml hq))) (kw 13 rfl kr (.inl rfl) rfl dc (fun _ _ h => ⟨h.1, kU br h.2⟩) ⟨m, fun _ => n⟩ (fun l W q s => have p := s.1; jt N (jD p (Mt Mh) (js H) rfl cI aX)) (XE 14 rfl (jX (cs := (js H).toArray) d (mh rfl) (mA bn aX dE) (fun i7 e7 d => ?_))))
  have m := d.has.jr (Db (Kb (Kb Sn)))
  have n := d.has.jr (Db (Db (Db (Dr (Dr (Dr (Kr Sn)))))))
  refine ⟨⟨m, fun _ => n⟩, ?_⟩
  replace d := d.perm (Nr (Qb (Qb (Qb (Qr (Qr (Qr Qz)))))) Nz)
  obtain ⟨h9, e4, d5, d6, d2⟩ := ml.open lH.1 (jL.nil _ _ _) L H.kp
  replace d := d.perm (Sh d5)
  replace d := d.perm (Nr (Qr Qz) Nz)
  refine bS g fun f4 d0 g => XE 15 rfl (oh (enc := js) (v := (qb kv e0 H.kp (.slice none 0 0))) (vs := (.slice (some ⟨e7, 0, none⟩) 1 1)) (R := e4) d kP dc oR bn nY.1 nY.2.1 rfl nY.2.2.1 nY.2.2.2 rfl rfl d6 (Sl.lit (enc := js) (l := [H]) kP rfl nb rfl (d.at_ (Ma (Ma Mh)))) d0 (fun i8 j6 i0 d c6 => ?_))
  have m := d.has.jr (Dr (Dr (Db (Kb (Kb Sn)))))
  refine ⟨⟨m, fun h => yI kr h⟩, ?_⟩
  replace d := d.perm (Nr (Qr Qz) Nz)
  refine XO 16 rfl (Pw (k := H.kp) (z := f4)  Fw underlying244 d d2 rfl rfl rfl c6 (fun i9 e5 d c7 => ?_))
  have m := d.has.jr (Dr (Db (Kb (Kb Sn))))
  refine ⟨⟨m, fun h => yI kr h⟩, (kO kr (oD ?_))⟩
  obtain rfl := sj g
  exact nE rfl ⟨_, _, rfl, (d.mn (Sb (Pr (Pb Pz)) (Sr (Qr (Qb (Qb (Qr (Qr Qz))))) (Sr (Qr (Qb (Qb (Qr Qz)))) (Sr (Qr (Qb (Qb Qz))) (Kr (Db (Db (Kr Sn))))))))), A, b7, U, e5, rfl, rfl, b5, Z, c7.e⟩
 refine lE (oD ?_)
 obtain rfl := sj g
 exact nE rfl ⟨_, _, rfl, (d.mn (Kb (Db (Sr (Qr (Qr Qz)) (Sr (Qr Qz) (Kr (Kr (Kr Sn)))))))), A, b7, U, t, rfl, rfl, b5, Z, T⟩
theorem pO (J : Nat) (g : Value) (a0 : List (jl × (List (ByteArray × Bool)))) (D : LO) (a : Value) (M : List jm) (u : LO) (j : Value) (Z : List (jl × (List jm))) (B : LO) (c : Value) (N : List (ByteArray × (List jm))) (y : LO) (i : Value) (Y : List jz) (t : LO) (H : Int) (G : jl) (U : ByteArray) (r : ((List (jl × (List (ByteArray × Bool)))) × (List jz) × Int)) (w : World) {μ0 : jN} (h0 : nD μ0 ((J, Ob #[g, a, j, c, i, (.int .i64 H)] 246) :: (D ++ (u ++ (B ++ (y ++ (t ++ [])))))) w) (a5 : lj (fun (x : jl) => (.agg (jw x).toArray)) (li Value.string (fun (x : Bool) => (Value.bool x))) g a0 D) (b5 : jL 52 js 9 a M u) (c3 : lj (fun (x : jl) => (.agg (jw x).toArray)) (jL 52 js 9) j Z B) (b6 : lj Value.string (jL 52 js 9) c N y) (K : oL 285 ll 3 i Y t) (hm : nf a0 M Z N Y H G U = some r) :
  kR true pg0 321 [(.pointer (some ⟨J, 0, none⟩)), (.agg (jw G).toArray), (.string U)] w ((J, Ob #[g, a, j, c, i, (.int .i64 H)] 246) :: (D ++ (u ++ (B ++ (y ++ (t ++ [])))))) (fun v L1 W' => ∃ S1 y3 S4, v = (.tuple #[]) ∧ L1 = ((J, Ob #[g, a, j, c, y3, (.int .i64 (r.2.2))] 246) :: (S1 ++ (u ++ (B ++ (y ++ (S4 ++ [])))))) ∧ lj (fun (x : jl) => (.agg (jw x).toArray)) (li Value.string (fun (x : Bool) => (Value.bool x))) g r.1 S1 ∧ oL 285 ll 3 y3 r.2.1 S4) := by
 let a1 := (#[g, a, j, c, i, (.int .i64 H)] : Array Value)
 refine zb h0 53 func321 rfl (fun m => sg (VE (kx m rfl (fun W2 b1 m => ln (jI (jI ?_))))))
 replace m := m.drew
 have d := m.has.jr (Kb (Kb (Kr Sn)))
 refine kG d jY (X 0 rfl d (jB rfl) (X 1 rfl d (mw rfl) (X 2 rfl d (jy vy rfl) (XH 3 rfl d (fun _ p => jt rfl (jJ p (Mt Mh) rfl gF)) (XH 4 rfl d (fun _ p => jt rfl (jD p Mh (jw G) rfl bX bG)) ?_)))))
 obtain ⟨f4, Q⟩ := a5
 refine XH 5 rfl d (fun _ p => om (k := G) (z := (.map none)) yY eC eY rfl rfl Q (fun b o A => p.2 b o (Mt (Mt (Ml A))))) (X 6 rfl d (jB rfl) (XH 7 rfl d (fun _ p => yA (k := U) (z := false) (vf := (fun (x : Bool) => (Value.bool x))) Fw fe iR rfl rfl (ml.Cd (μ := hp _) jH.1 Q G (fun b o A => p.2 b o (Mt (Mt (Ml A)))))) (kO kr (jE (CI hm rfl (fun d5 hm => ?_) (fun d5 hm => ?_))))))
 ·refine ky (kZ ?_)
  obtain rfl := sj hm
  exact nE rfl ⟨_, _, rfl, (m.mn (Db (Kb (Kr (Kr (Kr (Kr (Kr Sn)))))))), D, i, t, rfl, rfl, Q.e, K⟩
 refine kn (jI (CJ hm (fun b2 E W => ∃ O c0, ST true (keys ((J, Obj.cells a1 246 (0, 0)) :: (D ++ (u ++ (B ++ (y ++ (t ++ []))))))) w W μ0 ((b1, Ol (jw G) 27) :: ((J, Obj.cells a1 246 (0, 0)) :: (O ++ (u ++ (B ++ (y ++ (t ++ c0))))))) ∧ E 0 = (.pointer (some ⟨J, 0, none⟩)) ∧ E 2 = (.string U) ∧ E 4 = (.pointer (some ⟨b1, 0, none⟩)) ∧ lj (fun (x : jl) => (.agg (jw x).toArray)) (li Value.string (fun (x : Bool) => (Value.bool x))) g b2 O) (fun b2 I => ?_) ?_))
 ·refine jI ?_
  replace m := m.drew
  have d := m.has.jr (Kb (Kb (Kr Sn)))
  refine kG d jY (X 0 rfl d (jB rfl) (X 1 rfl d (mw rfl) (X 2 rfl d (jy vy rfl) (XH 3 rfl d (fun _ p => jt rfl (jJ p (Mt Mh) rfl gF)) (XH 4 rfl d (fun _ p => jt rfl (jD p Mh (jw G) rfl bX bG)) (XH 5 rfl d (fun _ p => om (k := G) (z := (.map none)) yY eC eY rfl rfl Q (fun b o A => p.2 b o (Mt (Mt (Ml A))))) (X 6 rfl d (Jg jH.1 fe Q rfl rfl) (kO kr (jE (CI I rfl (fun b7 I => ?_) (fun b7 I => ?_)))))))))))
  ·replace m := m.drew
   have d := m.has.jr (Kb (Kb Sn))
   refine kG d jY (X 0 rfl d (jB rfl) (X 1 rfl d (mw rfl) (X 2 rfl d (jy vy rfl) (XH 3 rfl d (fun _ p => jt rfl (jJ p (Mt Mh) rfl gF)) (XH 4 rfl d (fun _ p => jt rfl (jD p Mh (jw G) rfl bX bG)) (XE 5 rfl (GX (P := pg0) Value.string (fun (x : Bool) => (Value.bool x)) m (fun e1 e7 d9 m b3 => ?_))))))))
   have d := m.has.jr (Dr (Kb (Kb Sn)))
   refine ⟨d, ?_⟩
   replace m := m.perm (Nr (Qr (Qb (Qb Qz))) Nz)
   refine bS I fun e4 b9 I => XO 6 rfl (ML (k := G) (z := ([]))  yY eC m Q rfl rfl rfl b3 b9 (fun e2 c4 m b4 => ?_))
   have d := m.has.jr (Dr (Kb (Kb Sn)))
   refine ⟨d, (kO kr (jE ?_))⟩
   obtain rfl := sj I
   exact ⟨c4, _, (m.jr (Sb (Pr Pz) (Sb (Pr Pz) St))), rfl, rfl, rfl, b4.e⟩
  refine kn ?_
  obtain rfl := sj I
  exact ⟨D, _, (m.jr St), rfl, rfl, rfl, Q.e⟩
 rintro f2 E W ⟨O, c0, m, L, c1, c2, c8⟩ T
 refine jI ?_
 replace m := m.drew
 have d := m.has.jr (Kb (Kb Sn))
 have n := m.has.jr (Db (Db (Kr Sn)))
 refine tN 7 d n jY (kw 0 rfl kr (.inl rfl) rfl dc (fun _ _ h => ⟨h.1, kU br h.2⟩) ⟨d, fun _ => n⟩ (fun _ _ _ _ => jB L) (kw 1 rfl kr (.inl rfl) rfl dc (fun _ _ h => ⟨h.1, kU br h.2⟩) ⟨d, fun _ => n⟩ (fun _ _ _ _ => mw rfl) (kw 2 rfl kr (.inl rfl) rfl dc (fun _ _ h => ⟨h.1, kU br h.2⟩) ⟨d, fun _ => n⟩ (fun _ _ _ _ => jy vy rfl) (kw 3 rfl kr (.inl rfl) rfl dc (fun _ _ h => ⟨h.1, kU br h.2⟩) ⟨d, fun _ => n⟩ (fun l W q s => have p := s.1; jt rfl (jJ p (Mt Mh) rfl gF)) (kw 4 rfl kr (.inl rfl) rfl dc (fun _ _ h => ⟨h.1, kU br h.2⟩) ⟨d, fun _ => n⟩ (fun l W q s => have p := s.1; jt c2 (jD p Mh (jw G) rfl bX bG)) ?_)))))
 obtain ⟨e5, a9⟩ := c8
 refine kw 5 rfl kr (.inl rfl) rfl dc (fun _ _ h => ⟨h.1, kU br h.2⟩) ⟨d, fun _ => n⟩ (fun l W q s => have p := (s.2 (q.Cz 7 [5] kr rfl)); om (k := G) (z := (.map none)) yY eC eY rfl rfl a9 (fun b o A => p.2 b o (Ml A))) (kw 6 rfl kr (.inl rfl) rfl dc (fun _ _ h => ⟨h.1, kU br h.2⟩) ⟨d, fun _ => n⟩ (fun _ _ _ _ => jB c1) ?_)
 replace m := m.perm (Nr (Qb (Qb Qz)) Nz)
 refine bS T fun f3 c7 T => XO 7 rfl (Ll (k := G) (v := true) (vf := (fun (x : Bool) => (Value.bool x)))  jH.1 Fw fe m a9 rfl rfl rfl c7 (fun e8 c9 m c5 => ?_))
 have d := m.has.jr (Dr (Kb (Kb Sn)))
 refine ⟨⟨d, fun h => yI kr h⟩, (kO kr (jE (sg (Wh L (Wn (Wf DX (VB m (Ma (Mt Mh)) rfl rfl cO (Wi rfl (Wn (Wf DX ?_))))))))))⟩
 replace m := m.perm (Nb (Pr (Pb Pz)) Nz)
 refine VO (jM (.int .i64 (wi0 .i64 (H + 1))) (#[g, a, j, c, i, (.int .i64 (wi0 .i64 (H + 1)))]) m rfl rfl gl (DL _ (wi0 .i64 (H + 1))) nb rfl (fun e9 m => ln ?_))
 replace m := m.drew
 have d := m.has.jr (Db (Dr (Kb Sn)))
 have n := m.has.jr (Kb Sn)
 refine tN 12 d n jY (kw 0 rfl kr (.inl rfl) rfl dc (fun _ _ h => ⟨h.1, kU br h.2⟩) ⟨d, fun _ => n⟩ (fun _ _ _ _ => jB L) (kw 1 rfl kr (.inl rfl) rfl dc (fun _ _ h => ⟨h.1, kU br h.2⟩) ⟨d, fun _ => n⟩ (fun _ _ _ _ => jB L) (kw 2 rfl kr (.inl rfl) rfl dc (fun _ _ h => ⟨h.1, kU br h.2⟩) ⟨d, fun _ => n⟩ (fun _ _ _ _ => mw rfl) (kw 3 rfl kr (.inl rfl) rfl dc (fun _ _ h => ⟨h.1, kU br h.2⟩) ⟨d, fun _ => n⟩ (fun _ _ _ _ => jy zx rfl) (kw 4 rfl kr (.inl rfl) rfl dc (fun _ _ h => ⟨h.1, kU br h.2⟩) ⟨d, fun _ => n⟩ (fun l W q s => have p := (s.2 (q.Cz 12 [4] kr rfl)); jt rfl (jJ p Mh rfl isAgg226)) (kw 5 rfl kr (.inl rfl) rfl dc (fun _ _ h => ⟨h.1, kU br h.2⟩) ⟨d, fun _ => n⟩ (fun l W q s => have p := s.1; jt c2 (jD p Mh (jw G) rfl bX bG)) (kw 6 rfl kr (.inl rfl) rfl dc (fun _ _ h => ⟨h.1, kU br h.2⟩) ⟨d, fun _ => n⟩ (fun _ _ _ _ => jB c1) (kw 7 rfl kr (.inl rfl) rfl dc (fun _ _ h => ⟨h.1, kU br h.2⟩) ⟨d, fun _ => n⟩ (fun _ _ _ _ => mE (v := (.agg (ll (⟨G, U⟩ : jz)).toArray)) (vZ rfl rfl) (lO iS fc (NW _ fc) kr)) (XE 8 rfl (jX (cs := (ll (⟨G, U⟩ : jz)).toArray) m (mh rfl) (mA gy iM iS) (fun f0 d4 m => ?_)))))))))))
 have d := m.has.jr (Db (Db (Dr (Kb Sn))))
 have n := m.has.jr (Db (Kb Sn))
 refine ⟨⟨d, fun _ => n⟩, ?_⟩
 replace m := m.perm (Nr (Qb (Qb (Qr (Qb (Qr (Qr (Qr Qz))))))) Nz)
 refine bS T fun b0 c6 T => XE 9 rfl (Jm (enc := ll) (v := i) (vs := (.slice (some ⟨d4, 0, none⟩) 1 1)) (R := t) m wV dc JA gy DR.1 DR.2.1 rfl DR.2.2.1 DR.2.2.2 rfl rfl K (Sl.lit (enc := ll) (l := [(⟨G, U⟩ : jz)]) wV rfl nb rfl (m.at_ (Ma Mh))) c6 (fun f1 e6 d0 m a7 => ?_))
 have d := m.has.jr (Dr (Db (Db (Dr (Kb Sn)))))
 have n := m.has.jr (Dr (Db (Kb Sn)))
 refine ⟨⟨d, fun _ => n⟩, (kw 10 rfl kr (.inl rfl) rfl dc (fun _ _ h => ⟨h.1, kU br h.2⟩) ⟨d, fun _ => n⟩ (fun _ _ _ _ => mw rfl) (kw 11 rfl kr (.inl rfl) rfl dc (fun _ _ h => ⟨h.1, kU br h.2⟩) ⟨d, fun _ => n⟩ (fun _ _ _ _ => jy zx rfl) ?_))⟩
 obtain ⟨a3, a4, rfl⟩ := a7.form
 let a2 : Value := (.slice a3 b0.length a4)
 replace m := m.perm (Nb (Pr (Pb Pz)) Nz)
 refine XO 12 rfl (jM a2 (#[g, a, j, c, a2, (.int .i64 (wi0 .i64 (H + 1)))]) m rfl rfl sizeOf226 oc nb rfl (fun e0 m => ?_))
 have d := m.has.jr (Db (Dr (Db (Dr (Kb Sn)))))
 refine ⟨⟨d, fun h => yI kr h⟩, (kO kr (oD ?_))⟩
 obtain rfl := sj T
 exact nE rfl ⟨_, _, rfl, (m.mn (Kb (Sr (Qr (Qb Qz)) (Sr (Qr (Qb (Qb Qz))) (Sr (Qr (Qb (Qb Qz))) (Sr (Qr (Qb (Qb Qz))) (Kr Sn))))))), c9, a2, d0, rfl, rfl, c5.e, a7⟩
theorem ue (a : Value) (g : List (ByteArray × Bool)) (r : Unit) (w : World) (c : uL Value.string (fun (x : Bool) => (Value.bool x)) (hp w) a g) (hm : nP g = some r) :
  kR true pg0 362 [a] w [] (fun v k W' => ∃ i, v = (.func (.func 380) #[] #[(.pointer (some ⟨i, 0, none⟩))]) ∧ k = ((i, Ob #[a] 247) :: [])) := by
 refine vV 4 func362 rfl (fun b => sg ?_)
 obtain ⟨t, rfl⟩ := c.form
 refine VE (kx b rfl (fun u j b => Wa (lr (V (sT (by exact tZ rfl) rfl) (Wa (lt ?_))))))
 obtain rfl := sj hm
 exact kV (v := (.func (.func 380) #[] #[(.pointer (some ⟨j, 0, none⟩))])) rfl rfl ⟨_, _, rfl, (b.LZ (Kb Sn)), j, rfl, rfl⟩
theorem GI {β : Type} {vf : β → Value} {l : List (ByteArray × β)} {b : Nat} {d : Value} {W : World} {r : List ByteArray} (h : W.heap[b]? = some (.cells #[d] 247 (0, 0))) (hm : uL Value.string vf (hp W) d l) (hk : E4 l = some r) : mi false pg0 361 [.func (.func 380) #[] #[.pointer (some ⟨b, 0, none⟩)]] W 9 B0 1 r := I7 (P := pg0) O9 Ot PH rfl cH call380 call379 h hm hk
theorem wN (T : Nat) (a : Value) (u : List (jl × (List (ByteArray × Bool)))) (c : Value) (t : List jm) (j : Value) (G : List (jl × (List jm))) (g : Value) (B : List (ByteArray × (List jm))) (i : Value) (D : List jz) (Q : Int) (H : jl) (r : List ByteArray) (w : World) (J : pv (fun (x : jl) => (.agg (jw x).toArray)) (li Value.string (fun (x : Bool) => (Value.bool x))) (hp w) a u) (Z : Sl (Pl js) 9 (hp w) c t) (a4 : pv (fun (x : jl) => (.agg (jw x).toArray)) (jL 52 js 9) (hp w) j G) (a0 : pv Value.string (jL 52 js 9) (hp w) g B) (a3 : Sl (Pl ll) 3 (hp w) i D) (Y : At (hp w) (.pointer (some ⟨T, 0, none⟩)) [a, c, j, g, i, (.int .i64 Q)]) (hm : py u t G B D Q H = some r) :
  mi false pg0 322 [(.pointer (some ⟨T, 0, none⟩)), (.agg (jw H).toArray)] w 9 B0 1 r := by
 refine vV 15 func322 rfl (fun d => sg (VE (kx d rfl (fun W2 R d => Wa (lS (Wm (V (sO underlying183 rfl rfl) (ln (pF rfl ?_)))))))))
 refine kn (jI ?_)
 replace d := d.drew
 have h := d.has.jr (Kb Sn)
 refine kG h jY (X 0 rfl h (jB rfl) (X 1 rfl h (mw rfl) (XQ 2 rfl h (rC [a] vy rfl Y rfl) (fun b9 A => XH 3 rfl h (fun _ l => jt rfl (nV l (y := a) A gF)) (XH 4 rfl h (fun _ l => jt rfl (jD l Mh (jw H) rfl bX bG)) ?_)))))
 obtain ⟨a9, b4, K, M⟩ := J
 refine XH 5 rfl h (fun _ l => om (k := H) (z := (.map none)) yY eC eY rfl rfl K (fun b o m => l.1 b o (M b o m))) (bS hm fun c0 E hm => ?_)
 refine XE 6 rfl (Fq d (bW _) call362 (fun _ _ _ _ => kR.lX (ue (qb jG a9 H (.map none)) ((kE jG u H).getD []) _ _ ((ml.Cd jH.1 K H M).mono d.jx) E)) (fun b5 c2 c3 W d I q n a5 => ?_) (L0 := []))
 obtain ⟨b7, N, rfl⟩ := a5
 replace N := N.symm; subst N
 replace d := d.perm (Tb Tn)
 have h := d.has.rY I (Db (Kb Sn))
 refine ⟨h, (bS hm fun c1 L hm => XE 7 rfl (tb d call361 (GI (vf := (fun (x : Bool) => (Value.bool x))) (d.has.2 _ _ Mh) ((ml.Cd jH.1 K H M).mono (fun b o m => d.has.1 b o (I b o m))) L) (fun b6 P c4 O d a2 s U => ?_)))⟩
 have h := d.has.rY (I.trans a2) (Dr (Db (Kb Sn)))
 refine ⟨h, (X 8 rfl h (nt rfl) (kO kr (jE ?_)))⟩
 replace d := d.jr (Kr (Db (Db St)))
 refine ky ?_
 obtain rfl := sj hm
 exact kV (v := P) rfl rfl ⟨_, O, rfl, d.nF (fun p m => (Ml m)) U.nd, U⟩
theorem CC (K : Nat) (g : Value) (N : List (jl × (List (ByteArray × Bool)))) (G : LO) (a : Value) (H : List jm) (k : LO) (j : Value) (J : List (jl × (List jm))) (u : LO) (c : Value) (I : List (ByteArray × (List jm))) (t : LO) (z : Value) (M : List jz) (B : LO) (Z : Int) (A a2 : jl) (r : ((List (jl × (List (ByteArray × Bool)))) × (List jz) × Int)) (w : World) {μ0 : jN} (h0 : nD μ0 ((K, Ob #[g, a, j, c, z, (.int .i64 Z)] 246) :: (G ++ (k ++ (u ++ (t ++ (B ++ [])))))) w) (a5 : lj (fun (x : jl) => (.agg (jw x).toArray)) (li Value.string (fun (x : Bool) => (Value.bool x))) g N G) (Q : jL 52 js 9 a H k) (a4 : lj (fun (x : jl) => (.agg (jw x).toArray)) (jL 52 js 9) j J u) (T : lj Value.string (jL 52 js 9) c I t) (a3 : oL 285 ll 3 z M B) (hm : se N H J I M Z A a2 = some r) :
  kR false pg0 363 [(.pointer (some ⟨K, 0, none⟩)), (.agg (jw A).toArray), (.agg (jw a2).toArray)] w ((K, Ob #[g, a, j, c, z, (.int .i64 Z)] 246) :: (G ++ (k ++ (u ++ (t ++ (B ++ [])))))) (fun v L1 W' => ∃ S1 y3 S4, v = (.tuple #[]) ∧ L1 = ((K, Ob #[g, a, j, c, y3, (.int .i64 (r.2.2))] 246) :: (S1 ++ (k ++ (u ++ (t ++ (S4 ++ [])))))) ∧ lj (fun (x : jl) => (.agg (jw x).toArray)) (li Value.string (fun (x : Bool) => (Value.bool x))) g r.1 S1 ∧ oL 285 ll 3 y3 r.2.1 S4) := by
 refine zb h0 21 func363 rfl (fun d => sg (VE (kx d rfl (fun W2 b1 d => VE (kx d rfl (fun W4 b3 d => lr (Wm (VA d (Mt Mh) (jw A) bX bG (bS hm fun r5 e6 hm => VE (tb d call322 (wN K g N a H j J c I z M Z A _ _ (a5.at (fun b o l => d.at_ (Mt (Mt (Mt (Ml l)))))) (Q.sl kP (fun b o l => d.at_ (Mt (Mt (Mt (Ma (Ml l))))))) (a4.at (fun b o l => d.at_ (Mt (Mt (Mt (Ma (Ma (Ml l)))))))) (T.at (fun b o l => d.at_ (Mt (Mt (Mt (Ma (Ma (Ma (Ml l))))))))) ((a3.Cx wV).mono (Pl.mono _) (lI (fun b o l => d.at_ (Mt (Mt (Mt (Ma (Ma (Ma (Ma (Ml l))))))))))) (At.of (d.at_ (Mt (Mt Mh))) _ rfl) e6) (fun W7 e7 s e2 d f5 ae a9 => V (qy iF rfl a9) (Wm ?_))))))))))))
 refine ln ?_
 replace d := d.jr (Kr (Kb (Db St)))
 refine ur (lh (fun i E W => ∃ m U a0 n Y q L R, (E 12 = .int .i64 (i : Nat) ∧ E 11 = .int .i64 (r5.length : Nat)) ∧ jT s L ∧ ST false (keys ((K, Ob #[g, a, j, c, z, (.int .i64 Z)] 246) :: (G ++ (k ++ (u ++ (t ++ (B ++ []))))))) w W L ((K, Ob #[g, a, j, c, a0, (.int .i64 q)] 246) :: ((b3, Ol (jw a2) 27) :: (U ++ (k ++ (u ++ (t ++ (Y ++ (e2 ++ R)))))))) ∧ E 0 = (.pointer (some ⟨K, 0, none⟩)) ∧ E 5 = (.pointer (some ⟨b3, 0, none⟩)) ∧ E 10 = e7 ∧ lj (fun (x : jl) => (.agg (jw x).toArray)) (li Value.string (fun (x : Bool) => (Value.bool x))) g m U ∧ oL 285 ll 3 a0 n Y ∧ oT H J I a2 (r5.drop i) m n q = some r) r5.length a9.len ⟨N, G, z, M, B, Z, s, _, ⟨rfl, rfl⟩, (jT.refl _), (d.jr (Sb (Pr (Pb Pz)) (Sb (Pr Pz) (Sr (Qr Qz) (Sr (Qr Qz) (Sr (Qr Qz) (Sr (Qr Qz) (Sr (Qr Qz) St)))))))), rfl, rfl, rfl, a5, a3, hm⟩ dc dc dc (fun _ _ _ h => by obtain ⟨_, _, _, _, _, _, _, _, aa, _⟩ := h; exact aa) ?_ ?_)
 ·rintro d8 E W c9 ⟨m, U, a0, n, Y, q, L, R, ⟨eI, eN⟩, b6, d, c0, c1, c2, O, P, D⟩
  obtain ⟨c4, f0, d2, c5, d3⟩ := kM c9
  rw [d2] at D
  refine bg (VQ (pK (i := (d8 : Int)) (x0 := c4) iF gx c2 eI a9 (aP _) c5) (fun f6 d0 => V (jt rfl (HO d.has (fun p l => (Mt (Mt (Ma (Ma (Ma (Ma (Ma (Ml l))))))))) a9 (fun _ => rfl) d0 c5 (y := (.string c4)) rfl cL)) (Wa (ln (jF (Wh c0 (V (jt c1 (jD d.has (Mt Mh) (jw a2) rfl bX bG)) (Wm (bS D fun c3 d1 D => ?_)))))))))
  refine VE (eM d (Cb Pz (Cr (Qb Qz) (Cr (Qb Qz) (Cr (Qb Qz) (Cr (Qb Qz) (Cr (Qb Qz) Cn)))))) call321 (fun hh _ => kR.lX (pO K g m U a H k j J u c I t a0 n Y q a2 c4 _ _ hh O Q a4 T P d1)) ?_)
  rintro _ f7 e1 f2 d c7 ab ad ⟨d6, e0, d7, b4, rfl, d4, d5⟩
  obtain rfl := b4.symm
  replace d := d.perm (Tb (Tr (Tr (Tr (Tr (Tr Tn))))))
  exact kd (kl (jE ⟨eI, c3.1, d6, e0, c3.2.1, d7, c3.2.2, e1, _, ⟨rfl, eN⟩, (b6.trans c7), (d.jr (Kb (Sb (Pr (Pr (Pr (Pr (Pr Pz))))) St))), c0, c1, c2, d4, d5, (by rw [d3]; exact D)⟩))
 rintro E W ⟨m, U, a0, n, Y, q, L, R, ⟨eI, eN⟩, b6, d, c0, c1, c2, O, P, D⟩
 rw [aU] at D
 refine jE ?_
 replace d := d.jr (Kb (Db (Kr (Kr (Kr (Kr (Kr (Dr St))))))))
 refine oD ?_
 obtain rfl := sj D
 exact nE rfl ⟨_, _, rfl, (d.mn (Kb (Kr (Kr (Kr (Kr (Kr Sn))))))), U, a0, Y, rfl, rfl, O, P⟩
theorem xM (K : Nat) (G : Value) (Z : List (jl × (List (ByteArray × Bool)))) (D : LO) (g : Value) (I : List jm) (a : LO) (B : Value) (N : List (jl × (List jm))) (y : LO) (i : Value) (J : List (ByteArray × (List jm))) (c : LO) (t : Value) (M : List jz) (j : LO) (a0 : Int) (Q : jm) (a2 : jz) (r : ((List (jl × (List (ByteArray × Bool)))) × (List jz) × Int)) (w : World) {μ0 : jN} (h0 : nD μ0 ((K, Ob #[G, g, B, i, t, (.int .i64 a0)] 246) :: (D ++ (a ++ (y ++ (c ++ (j ++ [])))))) w) (U : lj (fun (x : jl) => (.agg (jw x).toArray)) (li Value.string (fun (x : Bool) => (Value.bool x))) G Z D) (T : jL 52 js 9 g I a) (a3 : lj (fun (x : jl) => (.agg (jw x).toArray)) (jL 52 js 9) B N y) (Y : lj Value.string (jL 52 js 9) i J c) (H : oL 285 ll 3 t M j) (hm : qf Z I N J M a0 Q a2 = some r) :
  kR false pg0 323 [(.pointer (some ⟨K, 0, none⟩)), (.agg (js Q).toArray), (.agg (ll a2).toArray)] w ((K, Ob #[G, g, B, i, t, (.int .i64 a0)] 246) :: (D ++ (a ++ (y ++ (c ++ (j ++ [])))))) (fun v L1 W' => ∃ S1 y3 S4, v = (.tuple #[]) ∧ L1 = ((K, Ob #[G, g, B, i, y3, (.int .i64 (r.2.2))] 246) :: (S1 ++ (a ++ (y ++ (c ++ (S4 ++ [])))))) ∧ lj (fun (x : jl) => (.agg (jw x).toArray)) (li Value.string (fun (x : Bool) => (Value.bool x))) G r.1 S1 ∧ oL 285 ll 3 y3 r.2.1 S4) := by
 let s := (#[G, g, B, i, t, (.int .i64 a0)] : Array Value)
 refine zb h0 57 func323 rfl (fun d => sg (VE (kx d rfl (fun W2 A d => VE (kx d rfl (fun W4 O d => lr (Wf xi (VB d (Mt Mh) rfl rfl cO (ln (lK (jI ?_)))))))))))
 refine jF (Wi rfl (Wa (ln (CI hm rfl (fun e5 hm => ?_) (fun e5 hm => ?_)))))
 ·refine jF (Wm (Wf uf (VA d (Mt Mh) (jw Q.Head) bX bG (Wf zu (VB d Mh rfl rfl cL (bS hm fun r6 e6 hm => ?_))))))
  refine VE (eM d (Cb (Pb (Pb Pz)) (Cr (Qb (Qb Qz)) (Cr (Qb (Qb Qz)) (Cr (Qb (Qb Qz)) (Cr (Qb (Qb Qz)) (Cr (Qb (Qb Qz)) Cn)))))) call321 (fun q _ => kR.lX (pO K G Z D g I a B N y i J c t M j a0 Q.Head a2.ke _ _ q U T a3 Y H e6)) ?_)
  rintro _ g7 ad f8 d f2 a6 m ⟨d2, e7, d3, a8, rfl, c5, c6⟩
  obtain rfl := a8.symm
  replace d := d.perm (Tb (Tr (Tr (Tr (Tr (Tr Tn))))))
  refine kd (kl (oD ?_))
  obtain rfl := sj hm
  exact nE rfl ⟨_, _, rfl, (d.mn (Kb (Kr (Kr (Kr (Kr (Kr Sn))))))), d2, e7, d3, rfl, rfl, c5, c6⟩
 refine sg (Wi rfl (Wa (ln (CI hm rfl (fun c0 hm => ?_) (fun c0 hm => ?_)))))
 ·refine jF (Wm (Wf zu (VB d Mh rfl rfl cL (Wf yN (VB d (Mt Mh) rfl rfl cL (V (mE (v := (.agg (jw (⟨a2.ke, Q.kp⟩ : jl)).toArray)) (vZ rfl rfl) (lO fW dX (PC _ dX) kr)) (Wf uf (VA d (Mt Mh) (jw Q.Head) bX bG (bS hm fun g3 c3 hm => ?_)))))))))
  refine VE (eM d (Cb (Pb (Pb Pz)) (Cr (Qb (Qb Qz)) (Cr (Qb (Qb Qz)) (Cr (Qb (Qb Qz)) (Cr (Qb (Qb Qz)) (Cr (Qb (Qb Qz)) Cn)))))) call363 (fun q _ => (CC K G Z D g I a B N y i J c t M j a0 (⟨a2.ke, Q.kp⟩ : jl) Q.Head _ _ q U T a3 Y H c3)) ?_)
  rintro _ g8 h2 f9 d f3 aa m ⟨d4, e9, d5, a9, rfl, c7, c8⟩
  obtain rfl := a9.symm
  replace d := d.perm (Tb (Tr (Tr (Tr (Tr (Tr Tn))))))
  refine kd (kl (oD ?_))
  obtain rfl := sj hm
  exact nE rfl ⟨_, _, rfl, (d.mn (Kb (Kr (Kr (Kr (Kr (Kr Sn))))))), d4, e9, d5, rfl, rfl, c7, c8⟩
 refine sg (Wi rfl (Wa (ln (CI hm rfl (fun c1 hm => ?_) (fun c1 hm => ?_)))))
 ·refine jI ?_
  replace d := d.drew
  have h := d.has.jr (Kb (Kb (Kb (Kr Sn))))
  refine kG h jY (X 0 rfl h (jB rfl) (X 1 rfl h (mw rfl) (X 2 rfl h (jy vy rfl) (XH 3 rfl h (fun _ l => jt rfl (jJ l (Mt (Mt Mh)) rfl gF)) (X 4 rfl h (jy oZ rfl) (XH 5 rfl h (fun _ l => jt rfl (jD l (Mt Mh) (jw Q.B) rfl bX bG)) ?_))))))
  obtain ⟨f7, a5⟩ := U
  refine XH 6 rfl h (fun _ l => om (k := Q.B) (z := (.map none)) yY eC eY rfl rfl a5 (fun b o n => l.2 b o (Mt (Mt (Mt (Ml n)))))) (X 7 rfl h (jy zu rfl) (XH 8 rfl h (fun _ l => jt rfl (jJ l Mh rfl cL)) (XH 9 rfl h (fun _ l => yA (k := a2.ke) (z := false) (vf := (fun (x : Bool) => (Value.bool x))) Fw fe iR rfl rfl (ml.Cd (μ := hp _) jH.1 a5 Q.B (fun b o n => l.2 b o (Mt (Mt (Mt (Ml n))))))) (X 10 rfl h (jB rfl) (PJ hm (fun R E W => ∃ P, ST false (keys ((K, Obj.cells s 246 (0, 0)) :: (D ++ (a ++ (y ++ (c ++ (j ++ []))))))) w W μ0 ((O, Ol (ll a2) 285) :: ((A, Ol (js Q) 52) :: ((K, Obj.cells s 246 (0, 0)) :: (D ++ (a ++ (y ++ (c ++ (j ++ P)))))))) ∧ E 0 = (.pointer (some ⟨K, 0, none⟩)) ∧ E 4 = (.pointer (some ⟨A, 0, none⟩)) ∧ E 5 = (.pointer (some ⟨O, 0, none⟩)) ∧ E 50 = (.bool R)) (bm 22 4194303) 0 ?_ (fun R p L => ?_))))))
  ·rintro h1 E W ⟨P, d, e1, e2, e3, e4⟩ a4
   refine kO kr (jE (CI a4 e4 (fun c2 a4 => ?_) (fun c2 a4 => ?_)))
   ·refine jF (Wh e1 (V (jy uf e2) (VA d (Mt Mh) (jw Q.Head) bX bG (V (jy zu e3) (VB d Mh rfl rfl cL (bS a4 fun g4 c4 a4 => ?_))))))
    refine VE (eM d (Cb (Pb (Pb Pz)) (Cr (Qb (Qb Qz)) (Cr (Qb (Qb Qz)) (Cr (Qb (Qb Qz)) (Cr (Qb (Qb Qz)) (Cr (Qb (Qb Qz)) Cn)))))) call321 (fun q _ => kR.lX (pO K G Z D g I a B N y i J c t M j a0 Q.Head a2.ke _ _ q a5.e T a3 Y H c4)) ?_)
    rintro _ g9 h3 g0 d f4 ab m ⟨d7, f0, d8, b0, rfl, c9, d0⟩
    obtain rfl := b0.symm
    replace d := d.perm (Tb (Tr (Tr (Tr (Tr (Tr Tn))))))
    refine kd (kl (oD ?_))
    obtain rfl := sj a4
    exact nE rfl ⟨_, _, rfl, (d.mn (Kb (Kr (Kr (Kr (Kr (Kr Sn))))))), d7, f0, d8, rfl, rfl, c9, d0⟩
   refine lE (kl (oD ?_))
   obtain rfl := sj a4
   exact nE rfl ⟨_, _, rfl, (d.mn (Db (Db (Kb (Kr (Kr (Kr (Kr (Kr Sn))))))))), D, t, j, rfl, rfl, a5.e, H⟩
  refine bC p (fun u p => ?_) (fun u p => ?_)
  ·refine Xg 11 rfl rfl (cB u) h (jB rfl) (Xg 12 rfl rfl (cB u) h (mw rfl) (Xg 13 rfl rfl (cB u) h (jy vy rfl) (sZ 14 rfl rfl (cB u) h (fun _ l => jt rfl (jJ l (Mt (Mt Mh)) rfl gF)) (Xg 15 rfl rfl (cB u) h (jy xd rfl) (sZ 16 rfl rfl (cB u) h (fun _ l => jt rfl (jD l (Mt Mh) (jw Q.C) rfl bX bG)) (sZ 17 rfl rfl (cB u) h (fun _ l => om (k := Q.C) (z := (.map none)) yY eC eY rfl rfl a5 (fun b o n => l.2 b o (Mt (Mt (Mt (Ml n)))))) (Xg 18 rfl rfl (cB u) h (jy zu rfl) (sZ 19 rfl rfl (cB u) h (fun _ l => jt rfl (jJ l Mh rfl cL)) (sZ 20 rfl rfl (cB u) h (fun _ l => yA (k := a2.ke) (z := false) (vf := (fun (x : Bool) => (Value.bool x))) Fw fe iR rfl rfl (ml.Cd (μ := hp _) jH.1 a5 Q.C (fun b o n => l.2 b o (Mt (Mt (Mt (Ml n))))))) (X 21 rfl h (km (cB u) rfl) ?_))))))))))
   obtain rfl := sj p
   refine og kr (L _ _ ⟨_, (d.jr St), rfl, rfl, rfl, rfl⟩)
  refine Xn 11 rfl rfl (cB u) h (Xn 12 rfl rfl (cB u) h (Xn 13 rfl rfl (cB u) h (Xn 14 rfl rfl (cB u) h (Xn 15 rfl rfl (cB u) h (Xn 16 rfl rfl (cB u) h (Xn 17 rfl rfl (cB u) h (Xn 18 rfl rfl (cB u) h (Xn 19 rfl rfl (cB u) h (Xn 20 rfl rfl (cB u) h (X 21 rfl h (kq (cB u) rfl) ?_))))))))))
  obtain rfl := sj p
  refine og kr (L _ _ ⟨_, (d.jr St), rfl, rfl, rfl, rfl⟩)
 refine lE (kl (oD ?_))
 obtain rfl := sj hm
 exact nE rfl ⟨_, _, rfl, (d.mn (Db (Db (Kb (Kr (Kr (Kr (Kr (Kr Sn))))))))), D, t, j, rfl, rfl, U, H⟩
theorem BF (K : Nat) (g : Value) (T : List (jl × (List (ByteArray × Bool)))) (D : LO) (a : Value) (G : List jm) (j : LO) (t : Value) (J : List (jl × (List jm))) (u : LO) (c : Value) (H : List (ByteArray × (List jm))) (k : LO) (z : Value) (M : List jz) (B : LO) (a0 : Int) (Z : jm) (r : ((List (jl × (List (ByteArray × Bool)))) × (List jz) × Int)) (w : World) {μ0 : jN} (h0 : nD μ0 ((K, Ob #[g, a, t, c, z, (.int .i64 a0)] 246) :: (D ++ (j ++ (u ++ (k ++ (B ++ [])))))) w) (a2 : lj (fun (x : jl) => (.agg (jw x).toArray)) (li Value.string (fun (x : Bool) => (Value.bool x))) g T D) (N : jL 52 js 9 a G j) (Y : lj (fun (x : jl) => (.agg (jw x).toArray)) (jL 52 js 9) t J u) (Q : lj Value.string (jL 52 js 9) c H k) (U : oL 285 ll 3 z M B) (hm : qP T G J H M a0 Z = some r) :
  kR false pg0 262 [(.pointer (some ⟨K, 0, none⟩)), (.agg (js Z).toArray)] w ((K, Ob #[g, a, t, c, z, (.int .i64 a0)] 246) :: (D ++ (j ++ (u ++ (k ++ (B ++ [])))))) (fun v L1 W' => ∃ S1 y3 S4, v = (.tuple #[]) ∧ L1 = ((K, Ob #[g, a, t, c, y3, (.int .i64 (r.2.2))] 246) :: (S1 ++ (j ++ (u ++ (k ++ (S4 ++ [])))))) ∧ lj (fun (x : jl) => (.agg (jw x).toArray)) (li Value.string (fun (x : Bool) => (Value.bool x))) g r.1 S1 ∧ oL 285 ll 3 y3 r.2.1 S4) := by
 refine zb h0 33 func262 rfl (fun d => sg (VE (kx d rfl (fun W2 b1 d => lr (Wf xi (VB d Mh rfl rfl cO (ln (bg ?_))))))))
 refine Wi rfl (Wa (ln (CI hm rfl (fun f1 hm => ?_) (fun f1 hm => ?_))))
 ·refine jF (Wm (Wf uf (VA d Mh (jw Z.Head) bX bG (Wf Bz (VB d Mh rfl rfl cL (bS hm fun r4 f2 hm => ?_))))))
  refine VE (eM d (Cb (Pb Pz) (Cr (Qb Qz) (Cr (Qb Qz) (Cr (Qb Qz) (Cr (Qb Qz) (Cr (Qb Qz) Cn)))))) call321 (fun hh _ => kR.lX (pO K g T D a G j t J u c H k z M B a0 Z.Head Z.ke _ _ hh a2 N Y Q U f2)) ?_)
  rintro _ h1 ae g8 d g2 ad m ⟨e7, f4, e8, c2, rfl, e0, e1⟩
  obtain rfl := c2.symm
  replace d := d.perm (Tb (Tr (Tr (Tr (Tr (Tr Tn))))))
  refine kd (kl (oD ?_))
  obtain rfl := sj hm
  exact nE rfl ⟨_, _, rfl, (d.mn (Kb (Kr (Kr (Kr (Kr (Kr Sn))))))), e7, f4, e8, rfl, rfl, e0, e1⟩
 refine sg (Wm (Wf oZ (VA d Mh (jw Z.B) bX bG (bS hm fun c6 d9 hm => VE (tb d call322 (wN K g T a G t J c H z M a0 Z.B _ _ (a2.at (fun b o l => d.at_ (Mt (Mt (Ml l))))) (N.sl kP (fun b o l => d.at_ (Mt (Mt (Ma (Ml l)))))) (Y.at (fun b o l => d.at_ (Mt (Mt (Ma (Ma (Ml l))))))) (Q.at (fun b o l => d.at_ (Mt (Mt (Ma (Ma (Ma (Ml l)))))))) ((U.Cx wV).mono (Pl.mono _) (lI (fun b o l => d.at_ (Mt (Mt (Ma (Ma (Ma (Ma (Ml l)))))))))) (At.of (d.at_ (Mt Mh)) _ rfl) d9) (fun g9 f3 d5 e5 d f6 ab L => V (qy iF rfl L) (Wm (ln (ur (lh (fun i E W => ∃ n a3 a5 q a4 a9 O b9, (E 13 = .int .i64 (i : Nat) ∧ E 12 = .int .i64 (c6.length : Nat)) ∧ jT d5 O ∧ ST false (keys ((K, Ob #[g, a, t, c, z, (.int .i64 a0)] 246) :: (D ++ (j ++ (u ++ (k ++ (B ++ []))))))) w W O ((K, Ob #[g, a, t, c, a5, (.int .i64 a9)] 246) :: ((b1, Ol (js Z) 52) :: (a3 ++ (j ++ (u ++ (k ++ (a4 ++ (e5 ++ b9)))))))) ∧ E 0 = (.pointer (some ⟨K, 0, none⟩)) ∧ E 3 = (.pointer (some ⟨b1, 0, none⟩)) ∧ E 11 = f3 ∧ lj (fun (x : jl) => (.agg (jw x).toArray)) (li Value.string (fun (x : Bool) => (Value.bool x))) g n a3 ∧ oL 285 ll 3 a5 q a4 ∧ oq G J H Z (c6.drop i) n q a9 = some r) c6.length L.len ⟨T, D, z, M, B, a0, d5, _, ⟨rfl, rfl⟩, (jT.refl _), (d.jr (Sb (Pr (Pb Pz)) (Sb (Pr Pz) (Sr (Qr Qz) (Sr (Qr Qz) (Sr (Qr Qz) (Sr (Qr Qz) (Sr (Qr Qz) St)))))))), rfl, rfl, rfl, a2, U, hm⟩ dc dc dc (fun _ _ _ h => by obtain ⟨_, _, _, _, _, _, _, _, a1, _⟩ := h; exact a1) ?_ ?_))))))))))
 ·rintro e2 E W c8 ⟨n, a3, a5, q, a4, a9, O, b9, ⟨eI, eN⟩, b7, d, c0, A, c1, P, R, I⟩
  obtain ⟨s, f7, d1, c4, d2⟩ := kM c8
  rw [d1] at I
  refine bg (VQ (pK (i := (e2 : Int)) (x0 := s) iF gx c1 eI L (aP _) c4) (fun g3 c9 => V (jt rfl (HO d.has (fun p l => (Mt (Mt (Ma (Ma (Ma (Ma (Ma (Ml l))))))))) L (fun _ => rfl) c9 c4 (y := (.string s)) rfl cL)) (Wa (ln (jF (Wh c0 (V (jt A (jD d.has (Mt Mh) (js Z) rfl cI aX)) (V (jy oZ A) (VA d (Mt Mh) (jw Z.B) bX bG (Wm (V (mE (v := (.agg (ll (⟨Z.B, s⟩ : jz)).toArray)) (vZ rfl rfl) (lO iS fc (NW _ fc) kr)) ?_)))))))))))
  refine bS I fun c3 d0 I => ?_
  refine VE (eM d (Cb Pz (Cr (Qb Qz) (Cr (Qb Qz) (Cr (Qb Qz) (Cr (Qb Qz) (Cr (Qb Qz) Cn)))))) call323 (fun hh _ => (xM K g n a3 a G j t J u c H k a5 q a4 a9 Z (⟨Z.B, s⟩ : jz) _ _ hh P N Y Q R d0)) ?_)
  rintro _ g4 e4 f9 d c5 aa m ⟨d6, e3, d7, b5, rfl, d3, d4⟩
  obtain rfl := b5.symm
  replace d := d.perm (Tb (Tr (Tr (Tr (Tr (Tr Tn))))))
  exact kd (kl (jE ⟨eI, c3.1, d6, e3, c3.2.1, d7, c3.2.2, e4, _, ⟨rfl, eN⟩, (b7.trans c5), (d.jr (Kb (Sb (Pr (Pr (Pr (Pr (Pr Pz))))) St))), c0, A, c1, d3, d4, (by rw [d2]; exact I)⟩))
 rintro E W ⟨n, a3, a5, q, a4, a9, O, b9, ⟨eI, eN⟩, b7, d, c0, A, c1, P, R, I⟩
 rw [aU] at I
 refine jE ?_
 replace d := d.jr (Kb (Db (Kr (Kr (Kr (Kr (Kr (Dr St))))))))
 refine kl (oD ?_)
 obtain rfl := sj I
 exact nE rfl ⟨_, _, rfl, (d.mn (Kb (Kr (Kr (Kr (Kr (Kr Sn))))))), a3, a5, a4, rfl, rfl, P, R⟩
theorem Bd (I : Nat) (a : Value) (e8 : List (jl × (List (ByteArray × Bool)))) (K : LO) (c : Value) (Q : List jm) (j : LO) (u : Value) (N : List (jl × (List jm))) (y : LO) (g : Value) (H : List (ByteArray × (List jm))) (t : LO) (G : Value) (d4 : List jz) (D : LO) (a0 : Int) (r : ((List (jl × (List (ByteArray × Bool)))) × (List jz) × Int)) (w : World) {μ0 : jN} (h0 : nD μ0 ((I, Ob #[a, c, u, g, G, (.int .i64 a0)] 246) :: (K ++ (j ++ (y ++ (t ++ (D ++ [])))))) w) (h4 : lj (fun (x : jl) => (.agg (jw x).toArray)) (li Value.string (fun (x : Bool) => (Value.bool x))) a e8 K) (c1 : jL 52 js 9 c Q j) (g7 : lj (fun (x : jl) => (.agg (jw x).toArray)) (jL 52 js 9) u N y) (c2 : lj Value.string (jL 52 js 9) g H t) (g4 : oL 285 ll 3 G d4 D) (hm : sS e8 Q N H d4 a0 = some r) :
  kR false pg0 263 [(.pointer (some ⟨I, 0, none⟩))] w ((I, Ob #[a, c, u, g, G, (.int .i64 a0)] 246) :: (K ++ (j ++ (y ++ (t ++ (D ++ [])))))) (fun v L1 W' => ∃ S1 y3 S4, v = (.tuple #[]) ∧ L1 = ((I, Ob #[a, c, u, g, y3, (.int .i64 (r.2.2))] 246) :: (S1 ++ (j ++ (y ++ (t ++ (S4 ++ [])))))) ∧ lj (fun (x : jl) => (.agg (jw x).toArray)) (li Value.string (fun (x : Bool) => (Value.bool x))) a r.1 S1 ∧ oL 285 ll 3 y3 r.2.1 S4) := by
 let g5 : Value := (.pointer (some ⟨I, 0, none⟩))
 let b8 := ((I, Ob #[a, c, u, g, G, (.int .i64 a0)] 246) :: (K ++ (j ++ (y ++ (t ++ (D ++ []))))))
 refine zb h0 75 func263 rfl (fun d => ur (lK (nI (fun m E W => ∃ e3 b7 e4 a1 b9 d1 b4 h5, jT μ0 b4 ∧ ST false (keys b8) w W b4 ((I, Ob #[a, c, u, g, e4, (.int .i64 d1)] 246) :: (b7 ++ (j ++ (y ++ (t ++ (b9 ++ h5)))))) ∧ E 0 = g5 ∧ lj (fun (x : jl) => (.agg (jw x).toArray)) (li Value.string (fun (x : Bool) => (Value.bool x))) a e3 b7 ∧ oL 285 ll 3 e4 a1 b9 ∧ mK Q N H m e3 a1 d1 = some r) jP ⟨e8, K, G, d4, D, a0, μ0, _, (jT.refl _), (d.jr St), rfl, h4, g4, hm⟩ ?_)))
 rintro m E W ⟨e3, b7, e4, a1, b9, d1, b4, h5, i0, d, L, g9, c5, M⟩
 cases m with
 | zero => rw [mK] at M; cases M
 | succ n0 =>
  refine jI (sg (Wh L (Wn (Wf zx (VB d Mh rfl rfl isAgg226 (V (NP gy rfl c5) (Wi rfl (ln (CI M rfl (fun i7 M => ?_) (fun i7 M => ?_))))))))))
  ·refine kn (bg (Wh L (Wn (Wf zx (VB d Mh rfl rfl isAgg226 (bS M fun B h2 M => VQ (ql (enc := ll) (i := 0) (x0 := B) gy iM rfl rfl (c5.Cx wV) (jU h2) (jS h2)) (fun q0 j7 => V (jt rfl (jW (nc.hp _) (j7.mono (lI (fun b o p => d.has.2 b o (Mt (Ma (Ma (Ma (Ma (Ml p))))))))) isAgg285 iM)) (VE (kB d iS (fun o9 a5 d => VO (jM (.agg (ll B).toArray) ((ll B).toArray) d rfl rfl iM (JA B) nb rfl (fun p0 d => kd ?_))))))))))))
   let j2 := ((kE jG N B.jl).getD [])
   let j1 : Value := (.pointer (some ⟨a5, 0, none⟩))
   let i6 := ((ll B).toArray : Array Value)
   let i5 := ((kE kv H B.jl.Word).getD [])
   refine jE (sg (Wh L (Wh L (Wn (Wf zx (VB d (Mt Mh) rfl rfl isAgg226 (bS M fun _ g8 M => VQ (KE (i := 1) gy iM rfl rfl wV c5 (uO g8) (uF g8)) (fun q3 h1 => Wn (Wf zx ?_)))))))))
   obtain ⟨f7, g0, rfl⟩ := h1.form
   let g6 : Value := (.slice f7 (a1.drop (Int.toNat 1)).length g0)
   replace d := d.perm (Nb (Pb Pz) Nz)
   refine VO (jM g6 (#[a, c, u, g, g6, (.int .i64 d1)]) d rfl rfl sizeOf226 oc nb rfl (fun p1 d => ln (jI (jI ?_))))
   replace d := d.drew
   have l := d.has.jr (Kb (Kb (Dr (Dr (Kr Sn)))))
   refine kG l jY (X 0 rfl l (jB L) (X 1 rfl l (mw rfl) (X 2 rfl l (jy JB rfl) (XH 3 rfl l (fun _ n => jt rfl (jJ n Mh rfl isAgg243)) (X 4 rfl l (jy GJ rfl) (XH 5 rfl l (fun _ n => jt rfl (jD n (Mt Mh) (jw B.jl) rfl bX bG)) ?_))))))
   obtain ⟨l7, c3⟩ := g7
   obtain ⟨o7, f0, k2⟩ := ml.rowAt jH.1 c3 B.jl
   refine XH 6 rfl l (fun _ n => om (k := B.jl) (z := (.slice none 0 0)) yY underlying243 gE rfl rfl c3 (fun b o p => n.2 b o (Mt (Mt (Ml p))))) (X 7 rfl l (lR bn rfl (f0.Cx kP)) (X 8 rfl l (jB rfl) (kO kr (jE (CJ M (fun d0 E W => ∃ d6 e5 d7 b5 h6, jT b4 b5 ∧ ST false (keys b8) w W b5 ((I, Ob #[a, c, u, g, e5, (.int .i64 d0.2.2)] 246) :: ((a5, Obj.cells i6 285 (0, 0)) :: (d6 ++ (j ++ (y ++ (t ++ (d7 ++ h6))))))) ∧ E 0 = g5 ∧ E 2 = j1 ∧ lj (fun (x : jl) => (.agg (jw x).toArray)) (li Value.string (fun (x : Bool) => (Value.bool x))) a d0.1 d6 ∧ oL 285 ll 3 e5 d0.2.1 d7) (fun d0 j6 => ?_) ?_)))))
   ·refine lh (fun i E W => ∃ c7 a3 R c8 a4 d2 d3 f9, (E 35 = .int .i64 (i : Nat) ∧ E 34 = .int .i64 (j2.length : Nat)) ∧ jT b4 d3 ∧ ST false (keys b8) w W d3 ((I, Ob #[a, c, u, g, R, (.int .i64 d2)] 246) :: ((a5, Obj.cells i6 285 (0, 0)) :: (a3 ++ (j ++ (y ++ (t ++ (a4 ++ f9))))))) ∧ E 0 = g5 ∧ E 2 = j1 ∧ E 33 = (qb jG l7 B.jl (.slice none 0 0)) ∧ lj (fun (x : jl) => (.agg (jw x).toArray)) (li Value.string (fun (x : Bool) => (Value.bool x))) a c7 a3 ∧ oL 285 ll 3 R c8 a4 ∧ nX Q N H B (j2.drop i) c7 c8 d2 = some d0) j2.length (f0.Cx kP).len ⟨e3, b7, g6, (a1.drop (Int.toNat 1)), b9, d1, b4, _, ⟨rfl, rfl⟩, (jT.refl _), (d.jr St), L, rfl, rfl, g9, h1, j6⟩ dc dc dc (fun _ _ _ h => by obtain ⟨_, _, _, _, _, _, _, _, s, _⟩ := h; exact s) ?_ ?_
    ·rintro m5 E W j0 ⟨c7, a3, R, c8, a4, d2, d3, f9, ⟨q, eN⟩, d5, d, e1, e2, g1, f3, f4, T⟩
     obtain ⟨b3, o3, l1, l0, l2⟩ := kM j0
     rw [l1] at T
     refine bg (VQ (ql (enc := js) (i := (m5 : Int)) (x0 := b3) bn aX g1 q (f0.Cx kP) (aP _) l0) (fun q2 j9 => V (jt rfl (jW (nc.hp _) (j9.mono (lI (fun b o p => d.has.2 b o (Mt (Mt (Ma (Ma (Ml (k2 b o p))))))))) cI aX)) (VE (kB d dE (fun p5 p9 d => VO (jM (.agg (js b3).toArray) ((js b3).toArray) d rfl rfl aX (oR b3) nb rfl (fun p6 d => ln (jF (Wh e1 (VA d Mh (js b3) cI aX (V (jt e2 (jD d.has (Mt (Mt Mh)) (ll B) rfl isAgg285 iM)) (bS T fun g3 k1 T => ?_))))))))))))
     refine VE (eM d (Cb (Pb Pz) (Cr (Qb (Qb Qz)) (Cr (Qb (Qb Qz)) (Cr (Qb (Qb Qz)) (Cr (Qb (Qb Qz)) (Cr (Qb (Qb Qz)) Cn)))))) call323 (fun hh _ => (xM I a c7 a3 c Q j u N y g H t R c8 a4 d2 b3 B _ _ hh f3 c1 c3.e c2 f4 k1)) ?_)
     rintro _ q5 n6 o6 d i4 ab A ⟨m1, n4, m2, f6, rfl, l5, l6⟩
     obtain rfl := f6.symm
     replace d := d.perm (Tb (Tr (Tr (Tr (Tr (Tr Tn))))))
     refine kd (kl (jE ?_))
     replace d := d.jr (Kb (Kr (Kr (Kr (Kr (Kr (Db St)))))))
     exact ⟨q, g3.1, m1, n4, g3.2.1, m2, g3.2.2, n6, _, ⟨rfl, eN⟩, (d5.trans i4), (d.jr (Kb (Sb (Pr (Pr (Pr (Pr (Pr Pz))))) St))), e1, e2, g1, l5, l6, (by rw [l2]; exact T)⟩
    rintro E W ⟨c7, a3, R, c8, a4, d2, d3, f9, ⟨q, eN⟩, d5, d, e1, e2, g1, f3, f4, T⟩
    rw [aU] at T
    refine jE ?_
    obtain rfl := sj T
    exact ⟨a3, R, a4, d3, _, d5, (d.jr St), e1, e2, f3, f4⟩
   rintro ⟨m6, m7, n1⟩ E W ⟨d6, e5, d7, b5, h6, i1, d, h8, h9, k3, k4⟩ j3
   refine jI ?_
   replace d := d.drew
   have l := d.has.jr (Kb (Kb (Dr (Dr (Dr (Kr Sn))))))
   refine kG l jY (X 0 rfl l (jB h8) (X 1 rfl l (mw rfl) (X 2 rfl l (jy F9 rfl) (XH 3 rfl l (fun _ n => jt rfl (jJ n Mh rfl isAgg244)) (X 4 rfl l (jy GJ h9) (X 5 rfl l (jy vS rfl) (XH 6 rfl l (fun _ n => jt rfl (jJ n (Mt Mh) rfl cL)) ?_)))))))
   obtain ⟨l8, e9⟩ := c2
   obtain ⟨o8, f1, k5⟩ := ml.rowAt lH.1 e9 B.jl.Word
   refine XH 7 rfl l (fun _ n => om (k := B.jl.Word) (z := (.slice none 0 0)) Fw underlying244 gE rfl rfl e9 (fun b o p => n.2 b o (Mt (Mt (Ml p))))) (X 8 rfl l (lR bn rfl (f1.Cx kP)) (X 9 rfl l (jB rfl) (kO kr (jE (ur (CJ j3 (fun c9 E W => ∃ d8 e6 d9 e7 h7, jT b5 e7 ∧ ST false (keys b8) w W e7 ((I, Ob #[a, c, u, g, e6, (.int .i64 c9.2.2)] 246) :: (d8 ++ (j ++ (y ++ (t ++ (d9 ++ h7)))))) ∧ E 0 = g5 ∧ lj (fun (x : jl) => (.agg (jw x).toArray)) (li Value.string (fun (x : Bool) => (Value.bool x))) a c9.1 d8 ∧ oL 285 ll 3 e6 c9.2.1 d9) (fun c9 j5 => ?_) ?_))))))
   ·refine lh (fun i E W => ∃ a9 Y a2 P Z b2 b6 f8, (E 53 = .int .i64 (i : Nat) ∧ E 52 = .int .i64 (i5.length : Nat)) ∧ jT b5 b6 ∧ ST false (keys b8) w W b6 ((I, Ob #[a, c, u, g, a2, (.int .i64 b2)] 246) :: ((a5, Obj.cells i6 285 (0, 0)) :: (Y ++ (j ++ (y ++ (t ++ (Z ++ f8))))))) ∧ E 0 = g5 ∧ E 2 = j1 ∧ E 51 = (qb kv l8 B.jl.Word (.slice none 0 0)) ∧ lj (fun (x : jl) => (.agg (jw x).toArray)) (li Value.string (fun (x : Bool) => (Value.bool x))) a a9 Y ∧ oL 285 ll 3 a2 P Z ∧ nj B Q N H (i5.drop i) a9 P b2 = some c9) i5.length (f1.Cx kP).len ⟨m6, d6, e5, m7, d7, n1, b5, _, ⟨rfl, rfl⟩, (jT.refl _), (d.jr St), h8, h9, rfl, k3, k4, j5⟩ dc dc dc (fun _ _ _ h => by obtain ⟨_, _, _, _, _, _, _, _, s, _⟩ := h; exact s) ?_ ?_
    ·rintro m4 E W i9 ⟨a9, Y, a2, P, Z, b2, b6, f8, ⟨q, eN⟩, a8, d, O, c0, e0, f2, c6, J⟩
     obtain ⟨U, o2, k9, k8, h3⟩ := kM i9
     rw [k9] at J
     refine bg (VQ (ql (enc := js) (i := (m4 : Int)) (x0 := U) bn aX e0 q (f1.Cx kP) (aP _) k8) (fun q1 j8 => V (jt rfl (jW (nc.hp _) (j8.mono (lI (fun b o p => d.has.2 b o (Mt (Mt (Ma (Ma (Ma (Ml (k5 b o p)))))))))) cI aX)) (VE (kB d dE (fun p2 p8 d => VO (jM (.agg (js U).toArray) ((js U).toArray) d rfl rfl aX (oR U) nb rfl (fun p3 d => ln (jI ?_))))))))
     replace d := d.drew
     have l := d.has.jr (Kb (Kb (Kb (Kr Sn))))
     refine kG l jY (X 0 rfl l (jB O) (X 1 rfl l (mw rfl) (X 2 rfl l (jy vy rfl) (XH 3 rfl l (fun _ n => jt rfl (jJ n (Mt Mh) rfl gF)) (X 4 rfl l (jy oZ rfl) (XH 5 rfl l (fun _ n => jt rfl (jD n Mh (jw U.B) rfl bX bG)) ?_))))))
     obtain ⟨o0, c4⟩ := f2
     refine XH 6 rfl l (fun _ n => om (k := U.B) (z := (.map none)) yY eC eY rfl rfl c4 (fun b o p => n.2 b o (Mt (Mt (Mt (Ml p)))))) (X 7 rfl l (jy GJ c0) (X 8 rfl l (jy uh rfl) (XH 9 rfl l (fun _ n => jt rfl (jJ n (Mt (Mt Mh)) rfl cL)) (XH 10 rfl l (fun _ n => yA (k := B.jl.jo) (z := false) (vf := (fun (x : Bool) => (Value.bool x))) Fw fe iR rfl rfl (ml.Cd (μ := hp _) jH.1 c4 U.B (fun b o p => n.2 b o (Mt (Mt (Mt (Ml p))))))) (kO kr (jE (CI J rfl (fun i8 J => ?_) (fun i8 J => ?_))))))))
     ·refine jF (Wh O (Wf uf (VA d Mh (jw U.Head) bX bG (V (jy zu c0) (VB d (Mt (Mt Mh)) rfl rfl cL (bS J fun g2 k0 J => ?_))))))
      refine VE (eM d (Cb (Pb Pz) (Cr (Qb (Qb Qz)) (Cr (Qb (Qb Qz)) (Cr (Qb (Qb Qz)) (Cr (Qb (Qb Qz)) (Cr (Qb (Qb Qz)) Cn)))))) call321 (fun hh _ => kR.lX (pO I a a9 Y c Q j u N y g H t a2 P Z b2 U.Head B.ke _ _ hh c4.e c1 c3.e e9.e c6 k0)) ?_)
      rintro _ q4 n5 o5 d i3 aa A ⟨l9, n3, m0, f5, rfl, l3, l4⟩
      obtain rfl := f5.symm
      replace d := d.perm (Tb (Tr (Tr (Tr (Tr (Tr Tn))))))
      refine kd (kl (jE ?_))
      replace d := d.jr (Kb (Kr (Kr (Kr (Kr (Kr (Db St)))))))
      exact ⟨q, g2.1, l9, n3, g2.2.1, m0, g2.2.2, n5, _, ⟨rfl, eN⟩, (a8.trans i3), (d.jr (Kb (Sb (Pr (Pr (Pr (Pr (Pr Pz))))) St))), O, c0, e0, l3, l4, (by rw [h3]; exact J)⟩
     refine lE (kl (jE ?_))
     replace d := d.jr (Db St)
     exact ⟨q, a9, Y, a2, P, Z, b2, b6, _, ⟨rfl, eN⟩, a8, (d.jr St), O, c0, e0, c4.e, c6, (by rw [h3]; exact J)⟩
    rintro E W ⟨a9, Y, a2, P, Z, b2, b6, f8, ⟨q, eN⟩, a8, d, O, c0, e0, f2, c6, J⟩
    rw [aU] at J
    refine jE ?_
    obtain rfl := sj J
    exact ⟨Y, a2, Z, b6, _, a8, (d.jr (Kb (Db St))), O, f2, c6⟩
   rintro ⟨m8, m9, n2⟩ E W ⟨d8, e6, d9, e7, h7, i2, d, m3, k6, k7⟩ j4
   exact kl (jE ⟨n0, bN _, m8, d8, e6, m9, d9, n2, e7, _, ((i0.trans i1).trans i2), (d.jr St), m3, k6, k7, j4⟩)
  refine nv (mU (mU (rN (jE (oD ?_)))))
  obtain rfl := sj M
  exact nE rfl ⟨_, _, rfl, (d.mn (Kb (Kr (Kr (Kr (Kr (Kr Sn))))))), b7, e4, b9, rfl, rfl, g9, c5⟩
theorem CG (H : Nat) (g : Value) (c2 : List (jl × (List (ByteArray × Bool)))) (G : LO) (u : Value) (a7 : List jm) (k : LO) (c : Value) (b7 : List (jl × (List jm))) (z : LO) (a : Value) (a8 : List (ByteArray × (List jm))) (t : LO) (B : Value) (b6 : List jz) (y : LO) (K : Int) (d1 : Value) (p : List jm) (r : (Int × (List (jl × (List (ByteArray × Bool)))) × (List jm) × (List (jl × (List jm))) × (List (ByteArray × (List jm))) × (List jz) × Int)) (w : World) {μ0 : jN} (h0 : nD μ0 ((H, Ob #[g, u, c, a, B, (.int .i64 K)] 246) :: (G ++ (k ++ (z ++ (t ++ (y ++ [])))))) w) (d6 : lj (fun (x : jl) => (.agg (jw x).toArray)) (li Value.string (fun (x : Bool) => (Value.bool x))) g c2 G) (c6 : jL 52 js 9 u a7 k) (d3 : lj (fun (x : jl) => (.agg (jw x).toArray)) (jL 52 js 9) c b7 z) (c7 : lj Value.string (jL 52 js 9) a a8 t) (d2 : oL 285 ll 3 B b6 y) (d7 : Sl (Pl js) 9 μ0 d1 p) (hm : sd c2 a7 b7 a8 b6 K p = some r) :
  kR false pg0 200 [(.pointer (some ⟨H, 0, none⟩)), d1] w ((H, Ob #[g, u, c, a, B, (.int .i64 K)] 246) :: (G ++ (k ++ (z ++ (t ++ (y ++ [])))))) (fun v L1 W' => ∃ S1 y3 S4 S6 S8 i1 i0, v = (.int .i64 (r.1)) ∧ L1 = ((H, Ob #[g, y3, c, a, i1, (.int .i64 (r.2.2.2.2.2.2))] 246) :: (S1 ++ (S4 ++ (S6 ++ (S8 ++ (i0 ++ [])))))) ∧ lj (fun (x : jl) => (.agg (jw x).toArray)) (li Value.string (fun (x : Bool) => (Value.bool x))) g r.2.1 S1 ∧ jL 52 js 9 y3 r.2.2.1 S4 ∧ lj (fun (x : jl) => (.agg (jw x).toArray)) (jL 52 js 9) c r.2.2.2.1 S6 ∧ lj Value.string (jL 52 js 9) a r.2.2.2.2.1 S8 ∧ oL 285 ll 3 i1 r.2.2.2.2.2.1 i0) := by
 let b8 := ((H, Ob #[g, u, c, a, B, (.int .i64 K)] 246) :: (G ++ (k ++ (z ++ (t ++ (y ++ []))))))
 refine zb h0 46 func200 rfl (fun d => sg (Wa (lS (Wm (V (sO underlying183 rfl rfl) (ln (pF rfl (lE ?_))))))))
 refine jE (sg (Wm (Wn (Wf DX (VB d Mh rfl rfl cO (Wa (lS (Wm (V (lR bn rfl d7) ?_)))))))))
 refine Wm (ln (lh (fun i E W => ∃ a3 N M a4 Q a9 T n U a0 a5 Y a2 c1 d5, (E 16 = .int .i64 (i : Nat) ∧ E 15 = .int .i64 (p.length : Nat)) ∧ jT μ0 c1 ∧ ST false (keys b8) w W c1 ((H, Ob #[g, M, c, a, a0, (.int .i64 a2)] 246) :: (N ++ (Q ++ (T ++ (U ++ (Y ++ d5)))))) ∧ E 0 = (.pointer (some ⟨H, 0, none⟩)) ∧ E 5 = (.int .i64 K) ∧ E 14 = d1 ∧ lj (fun (x : jl) => (.agg (jw x).toArray)) (li Value.string (fun (x : Bool) => (Value.bool x))) g a3 N ∧ jL 52 js 9 M a4 Q ∧ lj (fun (x : jl) => (.agg (jw x).toArray)) (jL 52 js 9) c a9 T ∧ lj Value.string (jL 52 js 9) a n U ∧ oL 285 ll 3 a0 a5 Y ∧ ni K (p.drop i) a3 a4 a9 n a5 a2 = some r) p.length d7.len ⟨c2, G, u, a7, k, b7, z, a8, t, B, b6, y, K, μ0, _, ⟨rfl, rfl⟩, (jT.refl _), (d.jr St), rfl, rfl, rfl, d6, c6, d3, c7, d2, hm⟩ dc dc dc (fun _ _ _ h => by obtain ⟨_, _, _, _, _, _, _, _, _, _, _, _, _, _, _, aa, _⟩ := h; exact aa) ?_ ?_))
 ·rintro f6 E W g3 ⟨a3, N, M, a4, Q, a9, T, n, U, a0, a5, Y, a2, c1, d5, ⟨eI, eN⟩, b1, d, s, c3, c4, L, q, O, P, R, D⟩
  obtain ⟨I, j8, h4, h3, d9⟩ := kM g3
  rw [h4] at D
  refine bg (VQ (ql (enc := js) (i := (f6 : Int)) (x0 := I) bn aX c4 eI (d7.mono (Pl.mono _) b1) (aP _) h3) (fun l1 g4 => V (jt rfl (jW d.has g4 cI aX)) (VE (kB d dE (fun k3 e8 d => VO (jM (.agg (js I).toArray) ((js I).toArray) d rfl rfl aX (oR I) nb rfl (fun k4 d => ln (jI ?_))))))))
  replace d := d.drew
  have l := d.has.jr (Kb (Kb Sn))
  refine kG l jY (XH 0 rfl l (fun _ hS => jt rfl (jD hS Mh (js I) rfl cI aX)) (bS D fun l2 g7 D => XE 1 rfl (Eg d call144 (kf.lX (xE I _ _  g7)) (fun k5 d => ?_))))
  have l := d.has.jr (Kb (Kb Sn))
  refine ⟨l, (X 2 rfl l (jB rfl) (PJ D (fun f7 E W => ∃ e4, ST false (keys b8) w W c1 ((e8, Ol (js I) 52) :: ((H, Ob #[g, M, c, a, a0, (.int .i64 a2)] 246) :: (N ++ (Q ++ (T ++ (U ++ (Y ++ e4))))))) ∧ E 0 = (.pointer (some ⟨H, 0, none⟩)) ∧ E 5 = (.int .i64 K) ∧ E 7 = (.pointer (some ⟨e8, 0, none⟩)) ∧ E 14 = d1 ∧ E 15 = (.int .i64 (p.length : Int)) ∧ E 16 = (.int .i64 (f6 : Int)) ∧ E 30 = (.bool f7)) (bm 11 2047) 0 ?_ (fun f7 Z d4 => ?_)))⟩
  ·rintro l7 E W ⟨e4, d, c5, e9, f0, f1, f2, f3, i6⟩ J
   refine kO kr (jE (CI J i6 (fun g2 J => ?_) (fun g2 J => ?_)))
   ·refine sg (Wh c5 (V (jt f0 (jD d.has Mh (js I) rfl cI aX)) (bS J fun A g8 J => ?_)))
    refine VE (eM d (Cb (Pb Pz) (Cr (Qb Qz) (Cr (Qb Qz) (Cr (Qb Qz) (Cr (Qb Qz) (Cr (Qb Qz) Cn)))))) call261 (fun hh _ => kR.lX (Cm H g a3 N M a4 Q c a9 T a n U a0 a5 Y a2 I _ _ hh L q O P R g8)) ?_)
    rintro _ l4 l8 k0 d f4 ab m ⟨f8, e5, e6, e7, c8, rfl, e0, e1, e2⟩
    obtain rfl := c8.symm
    replace d := d.perm (Tb (Tr (Tr (Tr (Tr (Tr Tn))))))
    refine ln (jF (Wh c5 (V (jt f0 (jD d.has (Mt (Ma (Ma (Ma (Ma (Ma Mh)))))) (js I) rfl cI aX)) (bS J fun d8 g9 J => ?_))))
    refine VE (eM d (Cb Pz (Cr Qz (Cr Qz (Cr Qz (Cr Qz (Cr Qz Cn)))))) call262 (fun hh _ => (BF H g a3 N f8 A.1 e5 c A.2.1 e6 a A.2.2 e7 a0 a5 Y a2 I _ _ hh L e0 e1 e2 R g9)) ?_)
    rintro _ l5 j0 k1 d f5 ad m ⟨i2, i8, i3, c9, rfl, h5, h6⟩
    obtain rfl := c9.symm
    replace d := d.perm (Tb (Tr (Tr (Tr (Tr (Tr Tn))))))
    refine kd (kl (jE ?_))
    replace d := d.jr (Kb (Kr (Kr (Kr (Kr (Kr (Db St)))))))
    exact ⟨f3, d8.1, i2, f8, A.1, e5, A.2.1, e6, A.2.2, e7, i8, d8.2.1, i3, d8.2.2, j0, _, ⟨rfl, f2⟩, ((b1.trans f4).trans f5), (d.jr St), c5, e9, f1, h5, e0, e1, e2, h6, (by rw [d9]; exact J)⟩
   refine lE (kl (jE ?_))
   replace d := d.jr (Db St)
   exact ⟨f3, a3, N, M, a4, Q, a9, T, n, U, a0, a5, Y, a2, c1, _, ⟨rfl, f2⟩, b1, (d.jr St), c5, e9, f1, L, q, O, P, R, (by rw [d9]; exact J)⟩
  refine bC Z (fun j Z => ?_) (fun j Z => ?_)
  ·refine Xg 3 rfl rfl (cB j) l (jB s) (Xg 4 rfl rfl (cB j) l (mw rfl) (Xg 5 rfl rfl (cB j) l (jy Ga rfl) (sZ 6 rfl rfl (cB j) l (fun _ hS => jt rfl (jJ hS (Mt Mh) rfl jk)) (sZ 7 rfl rfl (cB j) l (fun _ hS => jt rfl (jD hS Mh (js I) rfl cI aX)) (bS Z fun l3 h1 Z => IK 8 rfl rfl (cB j) (Eg d call111 (kf.lX (xo M a4 I _ _ (q.sl kP (fun b o hq => d.at_ (Mt (Mt (Ma (Ml hq)))))) h1)) (fun k8 d => ?_)))))))
   have l := d.has.jr (Kb (Kb Sn))
   refine ⟨l, (Xg 9 rfl rfl (cB j) l (pA rfl) (X 10 rfl l (km (cB j) rfl) ?_))⟩
   obtain rfl := sj Z
   refine og kr (d4 _ _ ⟨_, (d.jr St), s, c3, rfl, c4, eN, eI, rfl⟩)
  refine Xn 3 rfl rfl (cB j) l (Xn 4 rfl rfl (cB j) l (Xn 5 rfl rfl (cB j) l (Xn 6 rfl rfl (cB j) l (Xn 7 rfl rfl (cB j) l (Xn 8 rfl rfl (cB j) l (Xn 9 rfl rfl (cB j) l (X 10 rfl l (kq (cB j) rfl) ?_)))))))
  obtain rfl := sj Z
  refine og kr (d4 _ _ ⟨_, (d.jr St), s, c3, rfl, c4, eN, eI, rfl⟩)
 rintro E W ⟨a3, N, M, a4, Q, a9, T, n, U, a0, a5, Y, a2, c1, d5, ⟨eI, eN⟩, b1, d, s, c3, c4, L, q, O, P, R, D⟩
 rw [aU] at D
 refine jE (sg (Wh s (bS D fun i7 h2 D => ?_)))
 refine VE (eM d (Cb Pz (Cr Qz (Cr Qz (Cr Qz (Cr Qz (Cr Qz Cn)))))) call263 (fun hh _ => (Bd H g a3 N M a4 Q c a9 T a n U a0 a5 Y a2 _ _ hh L q O P R h2)) ?_)
 rintro _ l6 l9 k2 d j6 ae m ⟨i4, i9, i5, d0, rfl, h7, h8⟩
 obtain rfl := d0.symm
 replace d := d.perm (Tb (Tr (Tr (Tr (Tr (Tr Tn))))))
 refine lr (Wh s (Wn (Wf DX (VB d Mh rfl rfl cO (Wh c3 (Wi rfl (Wa (lt ?_))))))))
 obtain rfl := sj D
 exact kV (v := (.int .i64 (wi0 .i64 (i7.2.2 - K)))) rfl rfl ⟨_, _, rfl, (d.mn (Kb (Kr (Kr (Kr (Kr (Kr Sn))))))), i4, M, Q, T, U, i9, i5, rfl, rfl, h7, q, O, P, h8⟩
theorem FU (j : Value) (H : List jm) (r : ((List (jl × (List (ByteArray × Bool)))) × (List jm) × (List (jl × (List jm))) × (List (ByteArray × (List jm))) × (List jz) × Int)) (w : World) (J : Sl (Pl js) 9 (hp w) j H) (hm : vo H = some r) :
  kR false pg0 126 [j] w [] (fun v L1 W' => ∃ l n S3 p S6 q S9 D u G y, v = (.pointer (some ⟨l, 0, none⟩)) ∧ L1 = ((l, Ob #[n, p, q, D, G, (.int .i64 (r.2.2.2.2.2))] 246) :: (S3 ++ (S6 ++ (S9 ++ (u ++ (y ++ [])))))) ∧ lj (fun (x : jl) => (.agg (jw x).toArray)) (li Value.string (fun (x : Bool) => (Value.bool x))) n r.1 S3 ∧ jL 52 js 9 p r.2.1 S6 ∧ lj (fun (x : jl) => (.agg (jw x).toArray)) (jL 52 js 9) q r.2.2.1 S9 ∧ lj Value.string (jL 52 js 9) D r.2.2.2.1 u ∧ oL 285 ll 3 G r.2.2.2.2.1 y) := by
 refine vV 13 func126 rfl (fun b => sg (Wa (lr (VE (BU (P := pg0) (fun (x : jl) => (.agg (jw x).toArray)) (li Value.string (fun (x : Bool) => (Value.bool x))) b (fun W1 v4 R2 b z => VE (BU (P := pg0) (fun (x : jl) => (.agg (jw x).toArray)) (jL 52 js 9) b (fun W5 v8 R6 b B => VE (BU (P := pg0) Value.string (jL 52 js 9) b (fun W9 R Y b t => ?_))))))))))
 obtain ⟨a, rfl⟩ := z.form
 obtain ⟨c, rfl⟩ := B.form
 obtain ⟨g, rfl⟩ := t.form
 refine V (mE (v := (.agg #[(.map (some a)), (.slice none 0 0), (.map (some c)), (.map (some g)), (.slice none 0 0), (.int .i64 0)])) (BM rfl rfl rfl) (lO zeroValue246 eB (Rk _ eB) kr)) (VE (kx b rfl (fun c1 k b => Wa (lr (Wm (Wm (bS hm fun O K hm => ?_)))))))
 refine VE (eM b (Cb Pz (Cr (Qr (Qr Qz)) (C0 (Cr (Qr Qz) (Cr Qz (C0 Cn)))))) call200 (fun E h => (CG k (.map (some a)) ([]) R2 (.slice none 0 0) ([]) [] (.map (some c)) ([]) R6 (.map (some g)) ([]) Y (.slice none 0 0) ([]) [] 0 j H _ _ E z (jL.nil _ _ _) B t (oL.nil _ _ _) (J.mono (Pl.mono _) h) K)) ?_)
 rintro _ W c6 L b I m d ⟨Z, s, a2, a3, a4, A, a5, i, rfl, M, N, Q, T, U⟩
 obtain rfl := i.symm
 replace b := b.perm (Tb (Tr (Tr (Tr (Tr (Tr Tn))))))
 refine lr (Wm (Wa (lt ?_)))
 obtain rfl := sj hm
 exact kV (v := (.pointer (some ⟨k, 0, none⟩))) rfl rfl ⟨_, _, rfl, (b.LZ (Kb (Kr (Kr (Kr (Kr (Kr Sn))))))), k, (.map (some a)), Z, s, a2, (.map (some c)), a3, (.map (some g)), a4, A, a5, rfl, rfl, M, N, Q, T, U⟩
theorem IL (c : Value) (D : List jm) (G : ByteArray) (r : ((List (jl × (List (ByteArray × Bool)))) × (List jm) × (List (jl × (List jm))) × (List (ByteArray × (List jm))) × (List jz) × Int × ByteArray)) (w : World) (I : Sl (Pl js) 9 (hp w) c D) (hm : tq D G = some r) :
  kR false pg0 123 [c, (.string G)] w [] (fun v L1 W' => ∃ g h l S4 m S7 n j z k B t u, v = (.func (.func 191) #[] #[(.pointer (some ⟨g, 0, none⟩)), (.pointer (some ⟨u, 0, none⟩))]) ∧ L1 = ((g, Ob #[(.pointer (some ⟨h, 0, none⟩))] 183) :: ((h, Ob #[l, m, n, z, B, (.int .i64 (r.2.2.2.2.2.1))] 246) :: ((u, Ob #[(.string (r.2.2.2.2.2.2))] 9) :: (S4 ++ (S7 ++ (j ++ (k ++ (t ++ [])))))))) ∧ lj (fun (x : jl) => (.agg (jw x).toArray)) (li Value.string (fun (x : Bool) => (Value.bool x))) l r.1 S4 ∧ jL 52 js 9 m r.2.1 S7 ∧ lj (fun (x : jl) => (.agg (jw x).toArray)) (jL 52 js 9) n r.2.2.1 j ∧ lj Value.string (jL 52 js 9) z r.2.2.2.1 k ∧ oL 285 ll 3 B r.2.2.2.2.1 t) := by
 refine vV 9 func123 rfl (fun b => sg (VE (kx b rfl (fun W2 g b => Wa (lr (Wm (bS hm fun W p hm => ?_)))))))
 refine VE (Fq b (bW _) call126 (fun _ _ _ _ => (FU c D _ _ (I.mono (Pl.mono _) b.jx) p)) (fun W5 v9 O R b P L d H => ?_) (L0 := []))
 obtain ⟨i, q, T, s, U, a9, Y, A, Z, E, a2, a, rfl, J, K, M, N, Q⟩ := H
 replace a := a.symm; subst a
 replace b := b.perm (Tb (Tr (Tr (Tr (Tr (Tr Tn))))))
 refine VE (kB b zeroValue183 (fun c1 y b => VO (jM (.pointer (some ⟨i, 0, none⟩)) (#[(.pointer (some ⟨i, 0, none⟩))]) b rfl rfl sizeOf183 oc nb rfl (fun c2 b => lr (V (sT (by exact vC rfl rfl) rfl) (Wa (lt ?_)))))))
 obtain rfl := sj hm
 exact kV (v := (.func (.func 191) #[] #[(.pointer (some ⟨y, 0, none⟩)), (.pointer (some ⟨g, 0, none⟩))])) rfl rfl ⟨_, _, rfl, (b.LZ (Kb (Kb (Sb (Pr (Pr (Pr (Pr (Pr Pz))))) (Kr (Kr (Kr (Kr (Kr Sn))))))))), y, i, q, T, s, U, a9, Y, A, Z, E, a2, g, rfl, rfl, J, K, M, N, Q⟩
theorem yT (g : Value) (t : List kK) (j : Value) (z : kK → Option Bool) (r : Int) (w : World) (c : Sl ki 15 (hp w) g t) (B : vW pg0 j (hp w) (Ah ki) (fun (r : Bool) => (.bool r)) z) (hm : qY t z = some r) :
  kf false pg0 142 [g, j] w (.int .i64 r) := by
 refine cG 19 func142 rfl (fun b => sg (Wa (lS (Wm (V (lR dS rfl c) (Wm (ln (lh (fun i E W => ∃ k, (E 8 = .int .i64 (i : Nat) ∧ E 7 = .int .i64 (t.length : Nat)) ∧ ST false lB w W (hp w) k ∧ E 0 = g ∧ E 1 = j ∧ mH z (t.drop i) i = some r) t.length c.len ⟨_, ⟨rfl, rfl⟩, (b.jr St), rfl, rfl, hm⟩ dc dc dc (fun _ _ _ h => by obtain ⟨_, l, _⟩ := h; exact l) ?_ ?_))))))))
 ·rintro T E W G ⟨k, ⟨d, m⟩, b, u, x, a⟩
  obtain ⟨y, Z, N, M, Q⟩ := kM G
  rw [N] at a
  refine bg (Wh d (Wa (lr (Wh x (Wh u (Wm (VQ (mo (i := (T : Int)) (x0 := y) ki.out dS dQ rfl rfl c (aP _) M) (fun a2 ⟨_, ⟨U, Y, rfl, J, K⟩, H⟩ => V (jt rfl (jW b.has H iT dQ)) (bS a fun a3 I a => ?_)))))))))
  refine VE (xv y b B (jT.refl _) (Ah.mk kH (ki.mk ⟨U, Y, rfl, J, K⟩) b.jx) rfl (tZ rfl) I (fun n b => ln (CI a rfl (fun D a => ?_) (fun D a => ?_))))
  ·refine sg (Wm (Wa (lt (nw (kZ (nw (kZ ?_)))))))
   obtain rfl := sj a
   exact rP b
  exact lE (kl (jE ⟨d, _, ⟨rfl, m⟩, (b.jr St), u, x, (by rw [Q]; exact a)⟩))
 rintro E W ⟨k, ⟨d, m⟩, b, u, x, a⟩
 rw [aU] at a
 exact jE (sg (Wa (lt (rQ a b))))
theorem E5 (a : kK) (g c : Value) (k : Nat) (u : jm) (r : Bool) (w : World) (j : Sl (Pl (ku .u8)) 1 (hp w) g a.Signed.Tag) (i : Sl jq 5 (hp w) c a.ju.Kids) (t : At (hp w) (.pointer (some ⟨k, 0, none⟩)) (js u)) (hm : uH a u = some r) :
  kf true pg0 254 [(.agg #[(.int .i64 a.Signed.jm.Kind), (.string a.Signed.jm.Head.jo), (.string a.Signed.jm.Head.Word), (.string a.Signed.jm.ke), (.string a.Signed.jm.B.jo), (.string a.Signed.jm.B.Word), (.string a.Signed.jm.C.jo), (.string a.Signed.jm.C.Word), (.string a.Signed.jm.kp), g, (.int .i64 a.ju.Op), (.int .i64 a.ju.K), (.string a.ju.jl.jo), (.string a.ju.jl.Word), c]), (.pointer (some ⟨k, 0, none⟩))] w (.bool r) := by
 refine cG 9 func254 rfl (fun b => sg ?_)
 obtain ⟨x, z, rfl⟩ := j.form
 obtain ⟨y, B, rfl⟩ := i.form
 refine VE (kx b rfl (fun D G b => Wa (lr (Wf yO (Wf yz (VA b Mh (js a.Signed.jm) cI aX (V (jt rfl (jW b.has t cI aX)) (V (Az rfl rfl (sI fK) (wW (yg _ a.Signed.jm u))) (Wa (ln ?_))))))))))
 exact ky (rQ hm b)
theorem IZ (k : jQ) (g j : Value) (D : jm) (r : (kK × Bool)) (w : World) {J : jN} (l : nD J [] w) (c : Sl ki 15 J g k.jA) (B : Sl kT 8 J j k.jO) (hm : xm k D = some r) :
  lQ false pg0 192 [(.agg #[(.string k.Name), g, j]), (.agg (js D).toArray)] w J [] (fun v L1 μ1 => ∃ d h, v = (.tuple #[(.agg #[(.int .i64 ((((r.1).Signed).jm).Kind)), (.string (((((r.1).Signed).jm).Head).jo)), (.string (((((r.1).Signed).jm).Head).Word)), (.string ((((r.1).Signed).jm).ke)), (.string (((((r.1).Signed).jm).B).jo)), (.string (((((r.1).Signed).jm).B).Word)), (.string (((((r.1).Signed).jm).C).jo)), (.string (((((r.1).Signed).jm).C).Word)), (.string ((((r.1).Signed).jm).kp)), d, (.int .i64 (((r.1).ju).Op)), (.int .i64 (((r.1).ju).K)), (.string ((((r.1).ju).jl).jo)), (.string ((((r.1).ju).jl).Word)), h]), (.bool (r.2))]) ∧ L1 = [] ∧ Sl (Pl (ku .u8)) 1 μ1 d (((r.1).Signed).Tag) ∧ Sl jq 5 μ1 h (((r.1).ju).Kids)) := by
 refine uW l 19 func192 rfl (fun b => sg ?_)
 obtain ⟨T, U, rfl⟩ := c.form
 obtain ⟨A3, c4, rfl⟩ := B.form
 refine VE (kx b rfl (fun W6 O b => VE (kx b rfl (fun W8 K b => VE (kB b fX (fun E R b => Wa (lr (Wf yC (VB b (Mt (Mt Mh)) rfl rfl iU (V (sT (by exact tZ rfl) rfl) (bS hm fun Z Q hm => VE (Eg b call142 (yT (.slice T k.jA.length U) k.jA (.func (.func 254) #[] #[(.pointer (some ⟨K, 0, none⟩))]) (fun (x : kK) => uH x D) _ _ (c.mono kH.mono b.jx) ⟨254, #[], #[(.pointer (some ⟨K, 0, none⟩))], rfl, call254, fun W x vs r n m hm => by obtain ⟨_, rfl, Y⟩ := m; obtain ⟨s, A, rfl, p, q⟩ := Y.out; exact (E5 x s A K D r W p q (At.of (n _ _ (b.at_ (Mt Mh))) _ rfl) hm).lX⟩ Q) (fun L b => Wa (kd ?_))))))))))))))
 refine jE ?_
 replace b := b.jr (Kb (Db St))
 refine jI (sg (Wm (Wi rfl (ln (CI hm rfl (fun M hm => ?_) (fun M hm => ?_))))))
 ·refine sg (V (mE (v := (.agg C8.toArray)) tJ (lO fX gO (RR _ gO) kr)) (VO (jM (.agg C8.toArray) (C8.toArray) b rfl rfl dQ oc nb rfl (fun P b => Wa (ln ?_)))))
  replace b := b.jr (Kb (Db St))
  refine ky (kZ ?_)
  obtain rfl := sj hm
  exact uw (v0 := (.agg C8.toArray)) (v1 := (.bool false)) rfl rfl (jD b.has Mh C8 rfl iT dQ) rfl ⟨_, _, _, rfl, (b.mn Sn), (jT.refl _), Lo.refl, (ST.kX b (mJ.mem Sn)), (.slice none 0 0), (.slice none 0 0), rfl, rfl, (Sl.nil _ _ _), (Sl.nil _ _ _)⟩
 refine kg (Wf yC (VB b (Mt Mh) rfl rfl iU (Wm (bS hm fun a I hm => VQ (mo (i := Z) (x0 := a) ki.out dS dQ rfl rfl c (jU I) (jS I)) (fun c1 ⟨_, ⟨c3, c5, rfl, G, H⟩, N⟩ => V (jt rfl (jW b.has N iT dQ)) ?_)))))
 obtain ⟨t, y, rfl⟩ := G.form
 obtain ⟨u, z, rfl⟩ := H.form
 let a0 := (C3 a.Signed.jm.Kind a.Signed.jm.Head.jo a.Signed.jm.Head.Word a.Signed.jm.ke a.Signed.jm.B.jo a.Signed.jm.B.Word a.Signed.jm.C.jo a.Signed.jm.C.Word a.Signed.jm.kp t a.Signed.Tag.length y a.ju.Op a.ju.K a.ju.jl.jo a.ju.jl.Word u a.ju.Kids.length z)
 refine VO (jM (.agg a0.toArray) (a0.toArray) b rfl rfl dQ oc nb rfl (fun c0 b => Wa (ln ?_)))
 replace b := b.jr (Kb (Db St))
 refine ky ?_
 obtain rfl := sj hm
 exact uw (v0 := (.agg a0.toArray)) (v1 := (.bool true)) rfl rfl (jD b.has Mh a0 rfl iT dQ) rfl ⟨_, _, _, rfl, (b.mn Sn), (jT.refl _), Lo.refl, (ST.kX b (mJ.mem Sn)), (.slice t a.Signed.Tag.length y), (.slice u a.ju.Kids.length z), rfl, rfl, G, H⟩
theorem Dq (c : Value) (u r : List nh) (w : World) {j : jN} (I : nD j [] w) (a : Sl kT 8 j c u) (hm : sJ u = some r) :
  lQ true pg0 256 [c] w j [] (fun v G J => ∃ z t, v = z ∧ G = (t ++ []) ∧ kk 132 kT 8 J z r t) := by
 unfold sJ at hm
 refine uW I 8 func256 rfl (fun b => sg (Wa (lS (Wm ?_))))
 obtain ⟨D, Q, rfl⟩ := a.form
 refine V (Ao du rfl rfl) (ln ?_)
 rcases D with _ | M
 ·have y := a.isNil
  replace hm : some [] = some r := by rw [y] at hm; simpa [lC, maxLen] using hm
  refine vl (rfl) (sg (Wa (lt (kZ ?_))))
  obtain rfl := sj hm
  refine kV (v := (.slice none 0 0)) rfl rfl ?_
  replace b := b.PZ
  exact ⟨_, _, _, rfl, (b.mn (Kr Sn)), (jT.refl _), Lo.refl, (ST.kX b (mJ.mem (Kr Sn))), (.slice none 0 0), [], rfl, rfl, (kk.nil _ _ _ _)⟩
 ·refine pF (rfl) (kg (VE (jX (cs := #[]) b tJ (BL [] du dL gm dc rfl (by simp) rfl rfl) (fun N H b => Wm (bS hm fun T x hm => VE (vc (B := [(H, Ob #[] 132)]) mC b dc du DV.1 DV.2.1 rfl DV.2.2.1 DV.2.2.2 rfl rfl (kk.lit mC (l := []) .nil rfl nb rfl) (AM.sl mC a b.jx) x (fun K g k b i => Wa (lt ?_))))))))
  obtain rfl := sj hm
  exact kV (v := g) rfl rfl ⟨_, _, _, rfl, (b.mn (Kr Sn)), (jT.refl _), Lo.refl, (ST.kX b (mJ.mem (Kr Sn))), g, k, rfl, rfl, i⟩
theorem AX (g : Value) (t : List nh) (j : Value) (z : nh → Option Bool) (r : Int) (w : World) (c : Sl kT 8 (hp w) g t) (B : vW pg0 j (hp w) (Ah kT) (fun (r : Bool) => (.bool r)) z) (hm : sX t z = some r) :
  kf false pg0 147 [g, j] w (.int .i64 r) := by
 refine cG 19 func147 rfl (fun b => sg (Wa (lS (Wm (V (lR du rfl c) (Wm (ln (lh (fun i E W => ∃ k, (E 8 = .int .i64 (i : Nat) ∧ E 7 = .int .i64 (t.length : Nat)) ∧ ST false lB w W (hp w) k ∧ E 0 = g ∧ E 1 = j ∧ nk z (t.drop i) i = some r) t.length c.len ⟨_, ⟨rfl, rfl⟩, (b.jr St), rfl, rfl, hm⟩ dc dc dc (fun _ _ _ h => by obtain ⟨_, l, _⟩ := h; exact l) ?_ ?_))))))))
 ·rintro T E W G ⟨k, ⟨d, m⟩, b, u, x, a⟩
  obtain ⟨y, Z, N, M, Q⟩ := kM G
  rw [N] at a
  refine bg (Wh d (Wa (lr (Wh x (Wh u (Wm (VQ (mo (i := (T : Int)) (x0 := y) kT.out du dL rfl rfl c (aP _) M) (fun a2 ⟨_, ⟨U, Y, rfl, J, K⟩, H⟩ => V (jt rfl (jW b.has H iN dL)) (bS a fun a3 I a => ?_)))))))))
  refine VE (xv y b B (jT.refl _) (Ah.mk mC (kT.mk ⟨U, Y, rfl, J, K⟩) b.jx) rfl (tZ rfl) I (fun n b => ln (CI a rfl (fun D a => ?_) (fun D a => ?_))))
  ·refine sg (Wm (Wa (lt (nw (kZ (nw (kZ ?_)))))))
   obtain rfl := sj a
   exact rP b
  exact lE (kl (jE ⟨d, _, ⟨rfl, m⟩, (b.jr St), u, x, (by rw [Q]; exact a)⟩))
 rintro E W ⟨k, ⟨d, m⟩, b, u, x, a⟩
 rw [aU] at a
 exact jE (sg (Wa (lt (rQ a b))))
theorem Ak (k : Value) (a0 : List nh) (y : LO) (J : Value) (f1 : nh → Option Bool) (r : List nh) (w : World) {Y : jN} (h0 : nD Y (y ++ []) w) (n : kk 132 kT 8 Y k a0 y) (a9 : vW pg0 J Y (Ah kT) (fun (r : Bool) => (.bool r)) f1) (hm : qe a0 f1 = some r) :
  lQ false pg0 255 [k, J] w Y (y ++ []) (fun v L1 μ1 => ∃ R, v = R ∧ L1 = [] ∧ Sl kT 8 μ1 R (r)) := by
 refine uW h0 42 func255 rfl (fun d => sg (Wa (lr (Wm (Wm (bS hm fun P d7 hm => VE (Eg d call147 (AX k a0 J f1 _ _ (n.sl mC d.jx (fun b o q => d.at_ (Ml q))) (a9.mono d.jx) d7) (fun W3 d => Wa (ln ?_)))))))))
 refine jI (sg (Wm (Wi rfl (ln (CI hm rfl (fun d6 hm => ?_) (fun d6 hm => ?_))))))
 ·refine sg (Wm (Wa (lt (kZ ?_))))
  obtain rfl := sj hm
  refine kV (v := k) rfl rfl ?_
  obtain ⟨aa, d, d2, p, d8⟩ := ST.vN mC d n
  exact ⟨_, _, _, rfl, (d.mn Sn), d2, p, (ST.kX d (mJ.mem Sn)), k, rfl, rfl, d8⟩
 refine kS (Wm (Wi rfl (Wa (ln (lK (nI (fun m E W => ∃ a2 K G H A, ST false (keys (y ++ [])) w W Y (K ++ A) ∧ E 0 = k ∧ E 1 = J ∧ E 5 = (.int .i64 G) ∧ E 6 = (.int .i64 H) ∧ kk 132 kT 8 Y k a2 K ∧ mY f1 m a2 G H = some r) jP ⟨a0, y, P, (wi0 .i64 (P + 1)), _, (d.jr St), rfl, rfl, rfl, rfl, n, hm⟩ ?_))))))
 rintro m E W ⟨a2, K, G, H, A, d, t, Z, I, N, j, c⟩
 cases m with
 | zero => rw [mY] at c; cases c
 | succ d4 =>
  refine jI (sg (Wh N (Wh t (V (xb du rfl j) (Wi rfl (ln (CI c rfl (fun b6 c => ?_) (fun b6 c => ?_))))))))
  ·refine kn (jI (CJ c (fun a3 E W => ∃ M L, ST false (keys (y ++ [])) w W Y (M ++ L) ∧ E 0 = k ∧ E 1 = J ∧ E 5 = (.int .i64 a3.2) ∧ E 6 = (.int .i64 H) ∧ kk 132 kT 8 Y k a3.1 M) (fun a3 g => ?_) ?_))
   ·refine bg (Wh t (Wh N (bS g fun a s g => VQ (kW (i := H) kT.out du dL rfl rfl j (jU s) (jS s)) (fun f5 ⟨_, ⟨f8, f9, rfl, Q, T⟩, c1, e1⟩ => V (jt rfl (jW (nc.hp _) (c1.mono (lI (fun b o q => d.has.2 b o (Ml q)))) iN dL)) (VE (kB d gm (fun e7 f3 d => ?_)))))))
    obtain ⟨u, B, rfl⟩ := Q.form
    obtain ⟨x, D, rfl⟩ := T.form
    let l := (C7 a.jl.jo a.jl.Word a.ju.Op a.ju.K a.ju.jl.jo a.ju.jl.Word u a.ju.Kids.length B x a.lx.length D)
    refine VO (jM (.agg l.toArray) (l.toArray) d rfl rfl dL oc nb rfl (fun e8 d => lr (Wh Z (VA d Mh l iN dL (bS g fun f7 c2 g => VE (xv a d a9 (jT.refl _) (Ah.mk mC (kT.mk ⟨(.slice u a.ju.Kids.length B), (.slice x a.lx.length D), rfl, Q, T⟩) d.jx) rfl (tZ rfl) c2 (fun e9 d => V (pA rfl) (ln (CI g rfl (fun b7 g => ?_) (fun b7 g => ?_))))))))))
    ·refine sg (Wh t (Wh I (VA d Mh l iN dL (bS g fun g3 U g => VQ (kW (i := G) kT.out du dL rfl rfl j (jU U) (jS U)) (fun f6 ⟨_, ⟨g0, g1, rfl, e3, e4⟩, e2, b9⟩ => ?_)))))
     replace d := d.perm (Nr (Qb Qz) Nz)
     refine VO (pG (x1 := a) mC d j rfl rfl (kT.mk ⟨(.slice u a.ju.Kids.length B), (.slice x a.lx.length D), rfl, Q, T⟩) b9 (jS U) dL (fun f0 c7 d b4 => ln ?_))
     replace d := d.jr (Kr (Db St))
     refine jF (Wh I (Wi rfl (Wa (kd (kl (jE ?_))))))
     obtain rfl := sj g
     exact ⟨c7, _, (d.jr St), t, Z, rfl, N, b4⟩
    refine lE (kl (jE ?_))
    obtain rfl := sj g
    exact ⟨K, _, (d.jr (Db St)), t, Z, I, N, j⟩
   rintro ⟨d3, d5⟩ E W ⟨M, L, d, c8, c9, d0, d1, c3⟩ c0
   exact jF (Wh d1 (Wi rfl (Wa (ln ⟨d4, bN _, d3, M, d5, (wi0 .i64 (H + 1)), _, (d.jr St), c8, c9, d0, rfl, c3, c0⟩))))
  refine nv (mU (mU (rN (jE (sg (Wh t (Wh I (bS c fun _ a4 c => VQ (zK (i := G) du dL rfl rfl j (uO a4) (uF a4)) (fun g2 c4 => VO (CL (z := (⟨K0, (⟨0, 0, K0, []⟩ : Formula), []⟩ : nh)) (zs := [(.string zS), (.string zS), (.int .i64 0), (.int .i64 0), (.string zS), (.string zS), (.slice none 0 0), (.slice none 0 0)]) mC d j (kT.mk ⟨(.slice none 0 0), (.slice none 0 0), rfl, (Sl.nil _ _ _), (Sl.nil _ _ _)⟩) du gm c4 rfl rfl (fun f2 e6 d b5 => lr (Wh t ?_))))))))))))
  refine Wh I (bS c fun _ a5 c => VQ (Ff (i := G) du dL rfl rfl b5 (uO a5) (uF a5)) (fun O c5 => Wa (lt ?_)))
  obtain rfl := sj c
  refine kV (v := O) rfl rfl ?_
  obtain ⟨g7, d, b0, h, c6⟩ := ST.vN mC d c5
  exact ⟨_, _, _, rfl, (d.mn Sn), b0, h, (ST.kX d (mJ.mem Sn)), O, rfl, rfl, c6⟩
theorem Eu (c : nh) (a i : Value) (k : Nat) (u : jm) (r : Bool) (w : World) (j : Sl jq 5 (hp w) a c.ju.Kids) (g : Sl (Pl js) 9 (hp w) i c.lx) (t : At (hp w) (.pointer (some ⟨k, 0, none⟩)) (js u)) (hm : qD c u = some r) :
  kf true pg0 257 [(.agg #[(.string c.jl.jo), (.string c.jl.Word), (.int .i64 c.ju.Op), (.int .i64 c.ju.K), (.string c.ju.jl.jo), (.string c.ju.jl.Word), a, i]), (.pointer (some ⟨k, 0, none⟩))] w (.bool r) := by
 refine cG 9 func257 rfl (fun b => sg ?_)
 obtain ⟨B, D, rfl⟩ := j.form
 obtain ⟨x, y, rfl⟩ := g.form
 refine VE (kx b rfl (fun G I b => Wa (lr (Wf Gv (VB b Mh rfl rfl jk (V (jt rfl (jW b.has t cI aX)) (bS hm fun J z hm => VE (Eg b call111 (xo (.slice x c.lx.length y) c.lx u _ _ (g.mono (Pl.mono _) b.jx) z) (fun H b => V (pA rfl) (Wa (ln ?_)))))))))))
 exact ky (rQ hm b)
theorem Hs (i : jQ) (a g : Value) (y : jm) (r : List nh) (w : World) {G : jN} (q : nD G [] w) (j : Sl ki 15 G a i.jA) (c : Sl kT 8 G g i.jO) (hm : wu i y = some r) :
  lQ false pg0 193 [(.agg #[(.string i.Name), a, g]), (.agg (js y).toArray)] w G [] (fun v L1 μ1 => ∃ n, v = n ∧ L1 = [] ∧ Sl kT 8 μ1 n (r)) := by
 refine uW q 10 func193 rfl (fun b => sg ?_)
 obtain ⟨A1, c2, rfl⟩ := j.form
 obtain ⟨Y, p, rfl⟩ := c.form
 refine VE (kx b rfl (fun W6 b5 b => VE (kx b rfl (fun W8 z b => Wa (lr (Wf Ip (VB b (Mt Mh) rfl rfl isAgg23 (bS hm fun J N hm => ?_))))))))
 refine VE (eD b (bW _) call256 (fun m => lQ.lX (Dq (.slice Y i.jO.length p) i.jO _ _ m (c.mono mC.mono (jT.refl _)) N)) ?_ (L0 := []))
 rintro _ c3 c6 P b B d ⟨a5, Z, k, rfl, T⟩
 obtain rfl := k.symm
 replace b := b.perm (Tr Tn)
 refine V (sT (by exact tZ rfl) rfl) ?_
 replace b := b.perm (Nb (Pr Pz) Nz)
 obtain ⟨c7, b, u, h, M⟩ := ST.HT (R := [(z, Ol (js y) 52)]) b
 have K := At.of (M _ _ (.head _)) _ rfl
 refine bS hm fun c1 Q hm => ?_
 refine VE (eD b (Cr Qz Cn) call255 (fun m => (Ak a5 J Z (.func (.func 257) #[] #[(.pointer (some ⟨z, 0, none⟩))]) (fun (x : nh) => qD x y) _ _ m (T.mono mC u) ⟨257, #[], #[(.pointer (some ⟨z, 0, none⟩))], rfl, call257, fun W x vs r A s hm => by obtain ⟨_, rfl, a3⟩ := s; obtain ⟨L, O, rfl, E, I⟩ := a3.out; exact (Eu x L O z y r W E I (K.mono ((jT.refl _).trans A)) hm).lX⟩ Q)) ?_)
 rintro _ c5 c8 b6 b D l ⟨H, t, rfl, U⟩
 obtain rfl := t.symm
 refine Wa (ln ?_)
 replace b := b.jr (Db St)
 refine ky ?_
 obtain rfl := sj hm
 exact kV (v := H) rfl rfl ⟨_, _, _, rfl, (b.mn Sn), ((B.trans u).trans D), ((d.trans h).trans l), (ST.kX b (mJ.mem Sn)), H, rfl, rfl, U⟩
theorem Cu (T : Formula → Int → Option (Int × Int)) (n : ∀ (t : Formula) (j : Value) (I : Int) (r : (Int × Int)) (w : World) (g : Sl jq 5 (hp w) j t.Kids), T t I = some r → kf false pg0 264 [(.agg #[(.int .i64 t.Op), (.int .i64 t.K), (.string t.jl.jo), (.string t.jl.Word), j]), (.int .i64 I)] w (.tuple #[(.int .i64 r.1), (.int .i64 r.2)])) (t : Formula) (j : Value) (I : Int) (r : (Int × Int)) (w : World) (g : Sl jq 5 (hp w) j t.Kids) (hm : tR T t I = some r) :
  kf false pg0 264 [(.agg #[(.int .i64 t.Op), (.int .i64 t.K), (.string t.jl.jo), (.string t.jl.Word), j]), (.int .i64 I)] w (.tuple #[(.int .i64 r.1), (.int .i64 r.2)]) := by
 refine cG 40 func264 rfl (fun b => sg ?_)
 obtain ⟨A1, c2, rfl⟩ := g.form
 refine VE (kx b rfl (fun W4 R b => Wa (Wa (lr (Wa (Wa (lS (Wf re ?_))))))))
 refine VB b Mh rfl rfl eZ (V (lR aF rfl g) (Wm (ln ?_)))
 replace b := b.jr (Db St)
 refine CJ hm (fun Q E W => ∃ a2, ST false lB w W (hp w) a2 ∧ E 6 = (.int .i64 Q.1) ∧ E 7 = (.int .i64 Q.2)) (fun Q a5 => ?_) ?_
 ·refine lh (fun i E W => ∃ y z J, (E 15 = .int .i64 (i : Nat) ∧ E 14 = .int .i64 (t.Kids.length : Nat)) ∧ ST false lB w W (hp w) J ∧ E 1 = (.int .i64 I) ∧ E 6 = (.int .i64 y) ∧ E 7 = (.int .i64 z) ∧ E 13 = (.slice A1 t.Kids.length c2) ∧ ov I T (t.Kids.drop i) y z = some Q) t.Kids.length g.len ⟨1, 0, _, ⟨rfl, rfl⟩, (b.jr St), rfl, rfl, rfl, rfl, a5⟩ dc dc dc (fun _ _ _ h => by obtain ⟨_, _, _, l, _⟩ := h; exact l) ?_ ?_
  ·rintro L E W a3 ⟨y, z, J, ⟨d, m⟩, b, G, x, H, K, a⟩
   obtain ⟨c, c6, q, p, a9⟩ := kM a3
   rw [q] at a
   refine bg (VQ (mo (i := (L : Int)) (x0 := c) jq.out aF aD K d g (aP _) p) (fun c4 ⟨_, ⟨c5, rfl, N⟩, Y⟩ => V (jt rfl (jW b.has Y bB aD)) (VE (kB b bJ (fun b9 c3 b => ?_)))))
   obtain ⟨B, D, rfl⟩ := N.form
   let a0 := (C1 c.Op c.K c.jl.jo c.jl.Word B c.Kids.length D)
   refine VO (jM (.agg a0.toArray) (a0.toArray) b rfl rfl aD oc nb rfl (fun c0 b => lS (Wh x (Wh G (Wi rfl (ln (CI a rfl (fun U a => ?_) (fun U a => ?_))))))))
   ·refine nv (mU (QB (by simp) (mU (rN (jE ?_)))))
    obtain rfl := sj a
    exact ⟨_, (b.jr (Db St)), x, H⟩
   refine kg (VA b Mh a0 bB aD (Wh G (Wh x (Wi rfl (bS a fun M Z a => VE (Eg b call264 (n c (.slice B c.Kids.length D) (wi0 .i64 (I - y)) _ _ (N.mono jC.mono b.jx) Z) (fun c1 b => Wm (Wx rfl (Wx rfl (Wa (Wa ?_)))))))))))
   refine ln ?_
   replace b := b.jr (Db St)
   exact jF (Wh x (Wm (Wi rfl (Wh H (Wm (V (Qs (k := .i64) rfl rfl) (Wa (Wa (kd (kl (jE ⟨d, (wi0 .i64 (y + M.1)), (if M.2 > z then M.2 else z), _, ⟨rfl, m⟩, (b.jr St), G, rfl, rfl, K, (by rw [a9]; exact a)⟩)))))))))))
  rintro E W ⟨y, z, J, ⟨d, m⟩, b, G, x, H, K, a⟩
  rw [aU] at a
  refine jE ?_
  obtain rfl := sj a
  exact ⟨_, (b.jr St), x, H⟩
 rintro ⟨O, P⟩ E W ⟨a2, b, s, A⟩ a4
 refine sg (Wh s (Wh A (Wi rfl (Wa (Wa (lt ?_))))))
 obtain rfl := sj a4
 exact CZ (v := (.int .i64 O)) (u := (.int .i64 (wi0 .i64 (P + 1)))) rfl rfl rfl ⟨rfl, b.ex⟩
theorem An : ∀ (n : Nat) (c : Formula) (a : Value) (i : Int) (r : (Int × Int)) (w : World) (g : Sl jq 5 (hp w) a c.Kids) (_ : ny n c i = some r),
  kf false pg0 264 [(.agg #[(.int .i64 c.Op), (.int .i64 c.K), (.string c.jl.jo), (.string c.jl.Word), a]), (.int .i64 i)] w (.tuple #[(.int .i64 r.1), (.int .i64 r.2)])
 | 0 => by intros; rename_i h; simp only [ny] at h; cases h
 | n + 1 => Cu (ny n) (An n)
theorem Gs (a : Formula) (g : Value) (r : (Int × Int)) (w : World) (c : Sl jq 5 (hp w) g a.Kids) (hm : vw a = some r) :
  kf false pg0 201 [(.agg #[(.int .i64 a.Op), (.int .i64 a.K), (.string a.jl.jo), (.string a.jl.Word), g])] w (.tuple #[(.int .i64 r.1), (.int .i64 r.2)]) := by
 refine cG 15 func201 rfl (fun b => sg ?_)
 obtain ⟨i, j, rfl⟩ := c.form
 refine VE (kx b rfl (fun y B b => Wa (Wa (lr (VA b Mh (C1 a.Op a.K a.jl.jo a.jl.Word i a.Kids.length j) bB aD (bS hm fun x t hm => VE (Eg b call264 ((An jP) a (.slice i a.Kids.length j) 4096 _ _ (c.mono jC.mono b.jx) t) (fun z b => Wm (Wx rfl (Wx rfl (Wa (Wa ?_))))))))))))
 refine ln ?_
 replace b := b.jr (Db St)
 refine jI (sg (Wm (Wi rfl (ln (CI hm rfl (fun k hm => ?_) (fun k hm => ?_))))))
 ·refine sg (Wa (Wa (lt (kZ ?_))))
  obtain rfl := sj hm
  exact CZ (v := (.int .i64 0)) (u := (.int .i64 0)) rfl rfl rfl ⟨rfl, b.ex⟩
 refine kg (Wm (Wm (Wa (Wa (lt ?_)))))
 obtain rfl := sj hm
 exact CZ (v := (.int .i64 x.1)) (u := (.int .i64 x.2)) rfl rfl rfl ⟨rfl, b.ex⟩
theorem Gi (a : Formula) (H : Value) (r : Bool) (w : World) (t : Sl jq 5 (hp w) H a.Kids) (hm : vv a = some r) :
  kf true pg0 265 [(.agg #[(.int .i64 a.Op), (.int .i64 a.K), (.string a.jl.jo), (.string a.jl.Word), H])] w (.bool r) := by
 refine cG 63 func265 rfl (fun b => sg ?_)
 obtain ⟨A1, c2, rfl⟩ := t.form
 let l := (C1 a.Op a.K a.jl.jo a.jl.Word A1 a.Kids.length c2)
 refine VE (kx b rfl (fun W4 N b => Wa (lr (V (mE (v := (.agg (jw K0).toArray)) tJ (lO fW dX (PC _ dX) kr)) (VE (kB b fW (fun W6 A b => VO (jM (.agg (jw K0).toArray) ((jw K0).toArray) b rfl rfl bG (xa K0) nb rfl (fun W7 b => lS (Wf sa ?_))))))))))
 refine VB b (Mt Mh) rfl rfl cO (ln (bg (Wi rfl (Wa (ln (CI hm rfl (fun d9 hm => ?_) (fun d9 hm => ?_)))))))
 ·refine sg (Wf xu (VA b (Mt Mh) (jw a.jl) bX bG (bS hm fun f7 e5 hm => VE (Eg b jj (rZ a.jl _ _  e5) (fun f5 b => Wm (LJ hm (fun d2 E W => ∃ P, ST true lB w W (hp w) ((N, Ol l 30) :: P) ∧ E 1 = (.pointer (some ⟨N, 0, none⟩)) ∧ E 2 = (.bool false) ∧ E 17 = (.bool d2)) 5 ?_ (fun d2 J a4 => ?_)))))))
  ·rintro f8 E W ⟨P, b, e7, c9, e8⟩ e1
   refine Wh e8 (LJ e1 (fun d1 E W => ∃ R, ST true lB w W (hp w) R ∧ E 2 = (.bool false) ∧ E 22 = (.bool d1)) 4 ?_ (fun d1 I a3 => ?_))
   ·rintro f9 E W ⟨R, b, f6, e9⟩ e2
    refine Wg e9 (lt (nw (kZ ?_)))
    obtain rfl := sj e2
    exact rP b
   refine bC I (fun u I => ?_) (fun u I => ?_)
   ·refine ug u (jy xA e7) (ug u (jt rfl (jJ b.has Mh rfl cO)) (ug u (kC rfl rfl rfl) (V (km (cB u) rfl) ?_)))
    obtain rfl := sj I
    exact a3 _ _ ⟨_, (b.jr (Db St)), c9, rfl⟩
   refine un u (un u (un u (V (kq (cB u) rfl) ?_)))
   obtain rfl := sj I
   exact a3 _ _ ⟨_, (b.jr (Db St)), c9, rfl⟩
  refine bC J (fun j J => ?_) (fun j J => ?_)
  ·refine ug j (jy re rfl) (ug j (jt rfl (jJ b.has (Mt Mh) rfl eZ)) (ug j (lR aF rfl t) (ug j (kC rfl rfl rfl) (V (km (cB j) rfl) ?_))))
   obtain rfl := sj J
   exact a4 _ _ ⟨_, (b.jr (Db St)), rfl, rfl, rfl⟩
  refine un j (un j (un j (un j (V (kq (cB j) rfl) ?_))))
  obtain rfl := sj J
  exact a4 _ _ ⟨_, (b.jr (Db St)), rfl, rfl, rfl⟩
 let a0 := (l.toArray : Array Value)
 let d : Value := (.pointer (some ⟨N, 0, none⟩))
 refine jI (CJ hm (fun O E W => ∃ c6, ST true lB w W (hp w) ((A, Ol (jw K0) 27) :: ((N, Obj.cells a0 30 (0, 0)) :: c6)) ∧ E 1 = d ∧ E 3 = (.pointer (some ⟨A, 0, none⟩)) ∧ E 23 = (.bool O)) (fun O G => ?_) ?_)
 ·refine sg (Wi rfl (Wa (ln (CI G rfl (fun b9 G => ?_) (fun b9 G => ?_)))))
  ·refine kn ?_
   obtain rfl := sj G
   exact ⟨_, (b.jr St), rfl, rfl, rfl⟩
  refine jF (Wi rfl (Wa (ln ?_)))
  obtain rfl := sj G
  exact ⟨_, (b.jr St), rfl, rfl, rfl⟩
 rintro g0 E W ⟨c6, b, Q, d0, f0⟩ K
 refine CI K f0 (fun e0 K => ?_) (fun e0 K => ?_)
 ·refine sg (V (jy xu Q) (VA b (Mt Mh) (jw a.jl) bX bG (V (jt d0 (jD b.has Mh (jw K0) rfl bX bG)) (V (Az rfl rfl (sI eqGuardType27) (wW (wD _ a.jl K0))) (Wm (LJ K (fun d3 E W => ∃ c7, ST true lB w W (hp w) c7 ∧ E 34 = (.bool d3)) 4 ?_ (fun d3 M a5 => ?_)))))))
  ·rintro g1 E W ⟨c7, b, f1⟩ e3
   refine Wg f1 (lt (nw (kZ ?_)))
   obtain rfl := sj e3
   exact rP b
  refine bC M (fun x M => ?_) (fun x M => ?_)
  ·refine ug x (jy xA Q) (ug x (jt rfl (jJ b.has (Mt Mh) rfl cO)) (ug x (kC rfl rfl rfl) (V (km (cB x) rfl) ?_)))
   obtain rfl := sj M
   exact a5 _ _ ⟨_, (b.jr (Db (Db St))), rfl⟩
  refine un x (un x (un x (V (kq (cB x) rfl) ?_)))
  obtain rfl := sj M
  exact a5 _ _ ⟨_, (b.jr (Db (Db St))), rfl⟩
 refine lE (kl (jE (sg (V (jy sa Q) (VB b (Mt Mh) rfl rfl cO (Wi rfl (Wm (LJ K (fun L E W => ∃ c8, ST true lB w W (hp w) ((N, Obj.cells a0 30 (0, 0)) :: c8) ∧ E 1 = d ∧ E 43 = (.bool L)) 5 ?_ (fun L D h => ?_)))))))))
 ·rintro g2 E W ⟨c8, b, a2, d4⟩ e4
  refine Wh d4 (LJ e4 (fun s E W => ∃ m, ST true lB w W (hp w) ((N, Obj.cells a0 30 (0, 0)) :: m) ∧ E 1 = d ∧ E 48 = (.bool s)) 4 ?_ (fun s B Z => ?_))
  ·rintro f2 E W ⟨m, b, T, d5⟩ c0
   refine Wh d5 (LJ c0 (fun q E W => ∃ a9, ST true lB w W (hp w) ((N, Obj.cells a0 30 (0, 0)) :: a9) ∧ E 1 = d ∧ E 56 = (.bool q)) 7 ?_ (fun q z Y => ?_))
   ·rintro f3 E W ⟨a9, b, d6, d7⟩ c1
    refine Wh d7 (LJ c1 (fun p E W => ∃ n, ST true lB w W (hp w) n ∧ E 62 = (.bool p)) 5 ?_ (fun p y U => ?_))
    ·rintro f4 E W ⟨n, b, d8⟩ c3
     exact Wg d8 (lt (rQ c3 b))
    refine bC y (fun g y => ?_) (fun g y => ?_)
    ·refine ug g (jy re d6) (ug g (jt rfl (jJ b.has Mh rfl eZ)) (ug g (lR aF rfl t) (ug g (kC rfl rfl rfl) (V (km (cB g) rfl) ?_))))
     obtain rfl := sj y
     exact U _ _ ⟨_, (b.jr (Db St)), rfl⟩
    refine un g (un g (un g (un g (V (kq (cB g) rfl) ?_))))
    obtain rfl := sj y
    exact U _ _ ⟨_, (b.jr (Db St)), rfl⟩
   refine bC z (fun c z => ?_) (fun c z => ?_)
   ·refine ug c (jy xA T) (ug c (jt rfl (jJ b.has Mh rfl cO)) (ug c (jy re T) (ug c (jt rfl (jJ b.has Mh rfl eZ)) (ug c (lR aF rfl t) (ug c (kC rfl rfl rfl) (V (km (cB c) rfl) ?_))))))
    obtain rfl := sj z
    exact Y _ _ ⟨_, (b.jr St), T, rfl⟩
   refine un c (un c (un c (un c (un c (un c (V (kq (cB c) rfl) ?_))))))
   obtain rfl := sj z
   exact Y _ _ ⟨_, (b.jr St), T, rfl⟩
  refine bC B (fun i B => ?_) (fun i B => ?_)
  ·refine ug i (jy xA a2) (ug i (jt rfl (jJ b.has Mh rfl cO)) (ug i (kC rfl rfl rfl) (V (km (cB i) rfl) ?_)))
   obtain rfl := sj B
   exact Z _ _ ⟨_, (b.jr St), a2, rfl⟩
  refine un i (un i (un i (V (kq (cB i) rfl) ?_)))
  obtain rfl := sj B
  exact Z _ _ ⟨_, (b.jr St), a2, rfl⟩
 refine bC D (fun k D => ?_) (fun k D => ?_)
 ·refine ug k (jy xu Q) (ug k (jt rfl (jD b.has (Mt Mh) (jw a.jl) rfl bX bG)) (ug k (jt d0 (jD b.has Mh (jw K0) rfl bX bG)) (ug k (Az rfl rfl (sI eqGuardType27) (wW (wD _ a.jl K0))) (V (km (cB k) rfl) ?_))))
  obtain rfl := sj D
  exact h _ _ ⟨_, (b.jr (Db St)), Q, rfl⟩
 refine un k (un k (un k (un k (V (kq (cB k) rfl) ?_))))
 obtain rfl := sj D
 exact h _ _ ⟨_, (b.jr (Db St)), Q, rfl⟩
theorem yU (g : Value) (t : List Formula) (j : Value) (z : Formula → Option Bool) (r : Int) (w : World) (c : Sl jq 5 (hp w) g t) (B : vW pg0 j (hp w) (Ah jq) (fun (r : Bool) => (.bool r)) z) (hm : qV t z = some r) :
  kf false pg0 324 [g, j] w (.int .i64 r) := by
 refine cG 19 func324 rfl (fun b => sg (Wa (lS (Wm (V (lR aF rfl c) (Wm (ln (lh (fun i E W => ∃ k, (E 8 = .int .i64 (i : Nat) ∧ E 7 = .int .i64 (t.length : Nat)) ∧ ST false lB w W (hp w) k ∧ E 0 = g ∧ E 1 = j ∧ mI z (t.drop i) i = some r) t.length c.len ⟨_, ⟨rfl, rfl⟩, (b.jr St), rfl, rfl, hm⟩ dc dc dc (fun _ _ _ h => by obtain ⟨_, l, _⟩ := h; exact l) ?_ ?_))))))))
 ·rintro Q E W G ⟨k, ⟨d, m⟩, b, u, x, a⟩
  obtain ⟨y, U, M, K, N⟩ := kM G
  rw [M] at a
  refine bg (Wh d (Wa (lr (Wh x (Wh u (Wm (VQ (mo (i := (Q : Int)) (x0 := y) jq.out aF aD rfl rfl c (aP _) K) (fun Z ⟨_, ⟨T, rfl, J⟩, H⟩ => V (jt rfl (jW b.has H bB aD)) (bS a fun n I a => ?_)))))))))
  refine VE (xv y b B (jT.refl _) (Ah.mk jC (jq.mk ⟨T, rfl, J⟩) b.jx) rfl (tZ rfl) I (fun Y b => ln (CI a rfl (fun D a => ?_) (fun D a => ?_))))
  ·refine sg (Wm (Wa (lt (nw (kZ (nw (kZ ?_)))))))
   obtain rfl := sj a
   exact rP b
  exact lE (kl (jE ⟨d, _, ⟨rfl, m⟩, (b.jr St), u, x, (by rw [N]; exact a)⟩))
 rintro E W ⟨k, ⟨d, m⟩, b, u, x, a⟩
 rw [aU] at a
 exact jE (sg (Wa (lt (rQ a b))))
theorem sY (a : Value) (g : List Formula) (c : Value) (i : Formula → Option Bool) (r : Bool) (w : World) (j : Sl jq 5 (hp w) a g) (k : vW pg0 c (hp w) (Ah jq) (fun (r : Bool) => (.bool r)) i) (hm : nm g i = some r) :
  kf false pg0 266 [a, c] w (.bool r) := by
 refine cG 9 func266 rfl (fun b => sg (Wa (lr (Wm (Wm (bS hm fun x t hm => VE (Eg b call324 (yU a g c i _ _ (j.mono jC.mono b.jx) (k.mono b.jx) t) (fun u b => Wi rfl (Wa (kd ?_))))))))))
 exact jE (ky (rQ hm b))
theorem Dd (i : Formula → Option Bool) (t : ∀ (c : Formula) (a : Value) (r : Bool) (w : World) (g : Sl jq 5 (hp w) a c.Kids), i c = some r → kf false pg0 202 [(.agg #[(.int .i64 c.Op), (.int .i64 c.K), (.string c.jl.jo), (.string c.jl.Word), a])] w (.bool r)) (c : Formula) (a : Value) (r : Bool) (w : World) (g : Sl jq 5 (hp w) a c.Kids) (hm : sE i c = some r) :
  kf false pg0 267 [(.agg #[(.int .i64 c.Op), (.int .i64 c.K), (.string c.jl.jo), (.string c.jl.Word), a])] w (.bool r) := by
 refine cG 6 func267 rfl (fun b => sg ?_)
 obtain ⟨j, k, rfl⟩ := g.form
 refine VE (kx b rfl (fun x z b => Wa (lr (VA b Mh (C1 c.Op c.K c.jl.jo c.jl.Word j c.Kids.length k) bB aD (bS hm fun B u hm => VE (Eg b call202 (t c (.slice j c.Kids.length k) _ _ (g.mono jC.mono b.jx) u) (fun y b => V (pA rfl) (Wa (ln ?_)))))))))
 exact ky (rQ hm b)
theorem BX (z : Formula → Option Bool) (T : ∀ (a : Formula) (g : Value) (r : Bool) (w : World) (c : Sl jq 5 (hp w) g a.Kids), z a = some r → kf false pg0 202 [(.agg #[(.int .i64 a.Op), (.int .i64 a.K), (.string a.jl.jo), (.string a.jl.Word), g])] w (.bool r)) (a : Formula) (g : Value) (r : Bool) (w : World) (c : Sl jq 5 (hp w) g a.Kids) (hm : tV z a = some r) :
  kf false pg0 202 [(.agg #[(.int .i64 a.Op), (.int .i64 a.K), (.string a.jl.jo), (.string a.jl.Word), g])] w (.bool r) := by
 refine cG 17 func202 rfl (fun b => sg ?_)
 obtain ⟨B, D, rfl⟩ := c.form
 let a0 := (C1 a.Op a.K a.jl.jo a.jl.Word B a.Kids.length D)
 refine VE (kx b rfl (fun W4 U b => Wa (lr (VA b Mh a0 bB aD (bS hm fun v a3 hm => VE (Eg b call265 (kf.lX (Gi a (.slice B a.Kids.length D) _ _ (c.mono jC.mono b.jx) a3)) (fun W7 b => Wm (LJ hm (fun K E W => ∃ G, ST false lB w W (hp w) ((U, Ol a0 30) :: G) ∧ E 1 = (.pointer (some ⟨U, 0, none⟩)) ∧ E 2 = (.bool false) ∧ E 10 = (.bool K)) 5 ?_ (fun K t y => ?_)))))))))
 ·rintro A E W ⟨G, b, Y, I, Z⟩ M
  refine Wh Z (LJ M (fun J E W => ∃ H, ST false lB w W (hp w) H ∧ E 2 = (.bool false) ∧ E 16 = (.bool J)) 5 ?_ (fun J k u => ?_))
  ·rintro q E W ⟨H, b, n, d⟩ N
   exact Wg d (lt (rQ N b))
  refine bC k (fun i k => ?_) (fun i k => ?_)
  ·refine ug i (jy re Y) (ug i (jt rfl (jJ b.has Mh rfl eZ)) (bS k fun p Q k => vH i (Eg b call266 (sY (.slice B a.Kids.length D) a.Kids (.func (.func 267) #[] #[]) (fun (x : Formula) => sE z x) _ _ (c.mono jC.mono b.jx) ⟨267, #[], #[], rfl, call267, fun W x vs r s h hm => by obtain ⟨_, rfl, a2⟩ := h; obtain ⟨m, rfl, l⟩ := a2.out; exact Dd z T x m r W l hm⟩ Q) (fun a5 b => ug i (pA rfl) (V (km (cB i) rfl) ?_)))))
   obtain rfl := sj k
   exact u _ _ ⟨_, (b.jr (Db St)), I, rfl⟩
  refine un i (un i (un i (un i (V (kq (cB i) rfl) ?_))))
  obtain rfl := sj k
  exact u _ _ ⟨_, (b.jr (Db St)), I, rfl⟩
 refine bC t (fun j t => ?_) (fun j t => ?_)
 ·refine ug j (jy re rfl) (ug j (jt rfl (jJ b.has Mh rfl eZ)) (ug j (lR aF rfl c) (ug j (kC rfl rfl rfl) (V (km (cB j) rfl) ?_))))
  obtain rfl := sj t
  exact y _ _ ⟨_, (b.jr St), rfl, rfl, rfl⟩
 refine un j (un j (un j (un j (V (kq (cB j) rfl) ?_))))
 obtain rfl := sj t
 exact y _ _ ⟨_, (b.jr St), rfl, rfl, rfl⟩
theorem AD : ∀ (n : Nat) (c : Formula) (a : Value) (r : Bool) (w : World) (g : Sl jq 5 (hp w) a c.Kids) (_ : pV n c = some r),
  kf false pg0 202 [(.agg #[(.int .i64 c.Op), (.int .i64 c.K), (.string c.jl.jo), (.string c.jl.Word), a])] w (.bool r)
 | 0 => by intros; rename_i h; simp only [pV] at h; cases h
 | n + 1 => BX (pV n) (AD n)
theorem uC (a : Formula) (k : Value) (r : Bool) (w : World) (c : Sl jq 5 (hp w) k a.Kids) (hm : pU a = some r) :
  kf false pg0 129 [(.agg #[(.int .i64 a.Op), (.int .i64 a.K), (.string a.jl.jo), (.string a.jl.Word), k])] w (.bool r) := by
 refine cG 24 func129 rfl (fun b => sg ?_)
 obtain ⟨y, z, rfl⟩ := c.form
 let a0 := (C1 a.Op a.K a.jl.jo a.jl.Word y a.Kids.length z)
 refine VE (kx b rfl (fun W4 H b => Wa (lr (VA b Mh a0 bB aD (bS hm fun n a9 hm => VE (Eg b call201 (Gs a (.slice y a.Kids.length z) _ _ (c.mono jC.mono b.jx) a9) (fun W7 b => Wm (Wx rfl (Wx rfl (Wa (Wa (kd ?_))))))))))))
 refine jE (sg (Wm (Wi rfl (Wm (LJ hm (fun Y E W => ∃ I, ST false lB w W (hp w) ((H, Ol a0 30) :: I) ∧ E 1 = (.pointer (some ⟨H, 0, none⟩)) ∧ E 2 = (.bool false) ∧ E 4 = (.int .i64 n.2) ∧ E 15 = (.bool Y)) 3 ?_ (fun Y x G => ?_))))))
 ·rintro L E W ⟨I, b, M, N, a4, a5⟩ Z
  refine Wh a5 (LJ Z (fun U E W => ∃ J, ST false lB w W (hp w) ((H, Ol a0 30) :: J) ∧ E 1 = (.pointer (some ⟨H, 0, none⟩)) ∧ E 2 = (.bool false) ∧ E 19 = (.bool U)) 3 ?_ (fun U u D => ?_))
  ·rintro v E W ⟨J, b, h, Q, l⟩ d
   refine Wh l (LJ d (fun T E W => ∃ K, ST false lB w W (hp w) K ∧ E 2 = (.bool false) ∧ E 23 = (.bool T)) 3 ?_ (fun T j B => ?_))
   ·rintro A E W ⟨K, b, q, m⟩ a2
    exact Wg m (lt (rQ a2 b))
   refine bC j (fun i j => ?_) (fun i j => ?_)
   ·refine ug i (jt h (jD b.has Mh a0 rfl bB aD)) (bS j fun s a3 j => vH i (Eg b call202 ((AD jP) a (.slice y a.Kids.length z) _ _ (c.mono jC.mono b.jx) a3) (fun p b => V (km (cB i) rfl) ?_)))
    obtain rfl := sj j
    exact B _ _ ⟨_, (b.jr (Db St)), Q, rfl⟩
   refine un i (un i (V (kq (cB i) rfl) ?_))
   obtain rfl := sj j
   exact B _ _ ⟨_, (b.jr (Db St)), Q, rfl⟩
  refine bC u (fun g u => ?_) (fun g u => ?_)
  ·refine ug g (jB a4) (ug g (kC rfl rfl rfl) (V (km (cB g) rfl) ?_))
   obtain rfl := sj u
   exact D _ _ ⟨_, (b.jr St), M, N, rfl⟩
  refine un g (un g (V (kq (cB g) rfl) ?_))
  obtain rfl := sj u
  exact D _ _ ⟨_, (b.jr St), M, N, rfl⟩
 refine bC x (fun t x => ?_) (fun t x => ?_)
 ·refine ug t (jB rfl) (ug t (kC rfl rfl rfl) (V (km (cB t) rfl) ?_))
  obtain rfl := sj x
  exact G _ _ ⟨_, (b.jr St), rfl, rfl, rfl, rfl⟩
 refine un t (un t (V (kq (cB t) rfl) ?_))
 obtain rfl := sj x
 exact G _ _ ⟨_, (b.jr St), rfl, rfl, rfl, rfl⟩
theorem ye (i : Formula) (g : Value) (x : Int) (r : Bool) (w : World) (c : Sl jq 5 (hp w) g i.Kids) (hm : rH i x = some r) :
  kf true pg0 297 [(.agg #[(.int .i64 i.Op), (.int .i64 i.K), (.string i.jl.jo), (.string i.jl.Word), g]), (.int .i64 x)] w (.bool r) := by
 refine cG 15 func297 rfl (fun b => sg ?_)
 obtain ⟨B, D, rfl⟩ := c.form
 refine VE (kx b rfl (fun G H b => Wa (lr (Wf sa (VB b Mh rfl rfl cO (Wm (Wi rfl (Wm (LJ hm (fun t E W => ∃ u, ST true lB w W (hp w) u ∧ E 4 = (.bool false) ∧ E 14 = (.bool t)) 5 ?_ (fun t j k => ?_))))))))))
 ·rintro J E W ⟨u, b, I, y⟩ z
  exact Wg y (lt (rQ z b))
 refine bC j (fun a j => ?_) (fun a j => ?_)
 ·refine ug a (jy re rfl) (ug a (jt rfl (jJ b.has Mh rfl eZ)) (ug a (lR aF rfl c) (ug a (kC rfl rfl rfl) (V (km (cB a) rfl) ?_))))
  obtain rfl := sj j
  exact k _ _ ⟨_, (b.jr (Db St)), rfl, rfl⟩
 refine un a (un a (un a (un a (V (kq (cB a) rfl) ?_))))
 obtain rfl := sj j
 exact k _ _ ⟨_, (b.jr (Db St)), rfl, rfl⟩
theorem Am (r : Formula) (w : World) {c : jN} (i : nD c [] w) (hm : sH  = some r) :
  lQ true pg0 115 [] w c [] (fun v g j => ∃ a, v = (.agg #[(.int .i64 ((r).Op)), (.int .i64 ((r).K)), (.string (((r).jl).jo)), (.string (((r).jl).Word)), a]) ∧ g = [] ∧ Sl jq 5 j a ((r).Kids)) := by
 refine uW i 2 func115 rfl (fun b => sg (VE (kB b bJ (fun k u b => lr (V (mE (v := (.agg Kf.toArray)) (mh rfl) (lO bJ cD (z6 _ cD) kr)) (VO (jM (.agg Kf.toArray) (Kf.toArray) b rfl rfl aD oc nb rfl (fun t b => lt ?_))))))))
 obtain rfl := sj hm
 exact pu (v := (.agg Kf.toArray)) rfl rfl (jD b.has Mh Kf rfl bB aD) ⟨_, _, _, rfl, (b.mn Sn), (jT.refl _), Lo.refl, (ST.kX b (mJ.mem Sn)), (.slice none 0 0), rfl, rfl, (Sl.nil _ _ _)⟩
theorem Gh (r : Formula) (w : World) {c : jN} (i : nD c [] w) (hm : ya  = some r) :
  lQ true pg0 298 [] w c [] (fun v g j => ∃ a, v = (.agg #[(.int .i64 ((r).Op)), (.int .i64 ((r).K)), (.string (((r).jl).jo)), (.string (((r).jl).Word)), a]) ∧ g = [] ∧ Sl jq 5 j a ((r).Kids)) := by
 refine uW i 2 func298 rfl (fun b => sg (VE (kB b bJ (fun k u b => lr (V (mE (v := (.agg LV.toArray)) (mh rfl) (lO bJ cD (z6 _ cD) kr)) (VO (jM (.agg LV.toArray) (LV.toArray) b rfl rfl aD oc nb rfl (fun t b => lt ?_))))))))
 obtain rfl := sj hm
 exact pu (v := (.agg LV.toArray)) rfl rfl (jD b.has Mh LV rfl bB aD) ⟨_, _, _, rfl, (b.mn Sn), (jT.refl _), Lo.refl, (ST.kX b (mJ.mem Sn)), (.slice none 0 0), rfl, rfl, (Sl.nil _ _ _)⟩
theorem Hr (T : Int) (J : Value) (M r : List Formula) (w : World) {Q : jN} (h0 : nD Q [] w) (I : Sl jq 5 Q J M) (hm : yX T M = some r) :
  lQ true pg0 300 [(.int .i64 T), J] w Q [] (fun v L1 μ1 => ∃ q, v = q ∧ L1 = [] ∧ Sl jq 5 μ1 q (r)) := by
 refine uW h0 28 func300 rfl (fun b => sg (Wa (lr (Wa (lS (Wm ?_))))))
 refine V (lR aF rfl I) (Wm (ln (lh (fun i E W => ∃ t G k H, (E 10 = .int .i64 (i : Nat) ∧ E 9 = .int .i64 (M.length : Nat)) ∧ ST true (keys []) w W Q (k ++ H) ∧ E 0 = (.int .i64 T) ∧ E 5 = t ∧ E 8 = J ∧ kk 30 jq 5 Q t G k ∧ pp T (M.drop i) G = some r) M.length I.len ⟨(.slice none 0 0), ([]), [], _, ⟨rfl, rfl⟩, (b.jr St), rfl, rfl, rfl, (kk.nil _ _ _ _), hm⟩ dc dc dc (fun _ _ _ h => by obtain ⟨_, _, _, _, n, _⟩ := h; exact n) ?_ ?_)))
 ·rintro b5 E W a4 ⟨t, G, k, H, ⟨m, p⟩, b, x, y, z, u, c⟩
  obtain ⟨a, b7, L, A, K⟩ := kM a4
  rw [L] at c
  refine bg (VQ (mo (i := (b5 : Int)) (x0 := a) jq.out aF aD z m I (aP _) A) (fun c8 ⟨_, ⟨c9, rfl, D⟩, a5⟩ => V (jt rfl (jW b.has a5 bB aD)) (VE (kB b bJ (fun c0 c5 b => ?_)))))
  obtain ⟨g, j, rfl⟩ := D.form
  let a0 := (C1 a.Op a.K a.jl.jo a.jl.Word g a.Kids.length j)
  refine VO (jM (.agg a0.toArray) (a0.toArray) b rfl rfl aD oc nb rfl (fun c1 b => lr (Wf sa (VB b Mh rfl rfl cO (Wh x (Wi rfl (ln (CI c rfl (fun Z c => ?_) (fun Z c => ?_)))))))))
  ·refine jF (Wh y (Wf re (VB b Mh rfl rfl eZ ?_)))
   replace b := b.perm (Nr (Qb Qz) Nz)
   refine bS c fun P a2 c => VE (vc (B := k) jC b dc aF nW.1 nW.2.1 rfl nW.2.2.1 nW.2.2.2 rfl rfl u (AM.sl jC D b.jx) a2 (fun c2 b3 a9 b U => Wa (kd (kl (jE ?_)))))
   replace b := b.jr (Kr (Db St))
   exact ⟨m, b3, P, a9, _, ⟨rfl, p⟩, (b.jr St), x, rfl, z, U, (by rw [K]; exact c)⟩
  refine jF (Wh y (VA b Mh a0 bB aD (VE (jX (cs := a0.toArray) b (mh rfl) (mA aF aD bJ) (fun c3 c6 b => ?_)))))
  replace b := b.perm (Nr (Qb (Qb Qz)) Nz)
  refine bS c fun R a3 c => VE (vc (B := k) jC b dc aF nW.1 nW.2.1 rfl nW.2.2.1 nW.2.2.2 rfl rfl u (AM.lit jC (l := [a]) (.cons (ys := C1 a.Op a.K a.jl.jo a.jl.Word g a.Kids.length j) (jq.mk ⟨(.slice g a.Kids.length j), rfl, D⟩) .nil) rfl nb (b.at_ (Ma Mh))) a3 (fun c4 b4 O b Y => Wa (kd (kl (jE ?_)))))
  replace b := b.jr (Kr (Db (Db St)))
  exact ⟨m, b4, R, O, _, ⟨rfl, p⟩, (b.jr St), x, rfl, z, Y, (by rw [K]; exact c)⟩
 rintro E W ⟨t, G, k, H, ⟨m, p⟩, b, x, y, z, u, c⟩
 rw [aU] at c
 refine jE (sg (Wh y (Wa (lt ?_))))
 obtain rfl := sj c
 refine kV (v := t) rfl rfl ?_
 obtain ⟨d1, b, N, d, s⟩ := ST.vN jC b u
 exact ⟨_, _, _, rfl, (b.mn Sn), N, d, (ST.kX b (mJ.mem Sn)), t, rfl, rfl, s⟩
theorem zl (a : Formula) (g : Value) (i : Nat) (j : Int) (r : Bool) (w : World) (c : Sl jq 5 (hp w) g a.Kids) (k : At (hp w) (.pointer (some ⟨i, 0, none⟩)) [(.int .i64 j)]) (hm : pz a j = some r) :
  kf true pg0 301 [(.agg #[(.int .i64 a.Op), (.int .i64 a.K), (.string a.jl.jo), (.string a.jl.Word), g]), (.pointer (some ⟨i, 0, none⟩))] w (.bool r) := by
 refine cG 7 func301 rfl (fun b => sg ?_)
 obtain ⟨t, u, rfl⟩ := c.form
 refine VE (kx b rfl (fun z D b => Wa (lr (VA b Mh (C1 a.Op a.K a.jl.jo a.jl.Word t a.Kids.length u) bB aD (V (jt rfl (nV b.has (y := (.int .i64 j)) k cO)) (bS hm fun G x hm => VE (Eg b call297 (ye a (.slice t a.Kids.length u) j _ _ (c.mono jC.mono b.jx) x) (fun B b => Wa (ln ?_)))))))))
 exact ky (rQ hm b)
theorem AV (c : Value) (u r : List Formula) (w : World) {j : jN} (I : nD j [] w) (a : Sl jq 5 j c u) (hm : qG u = some r) :
  lQ true pg0 351 [c] w j [] (fun v G J => ∃ z t, v = z ∧ G = (t ++ []) ∧ kk 30 jq 5 J z r t) := by
 unfold qG at hm
 refine uW I 8 func351 rfl (fun b => sg (Wa (lS (Wm ?_))))
 obtain ⟨D, Q, rfl⟩ := a.form
 refine V (Ao aF rfl rfl) (ln ?_)
 rcases D with _ | M
 ·have y := a.isNil
  replace hm : some [] = some r := by rw [y] at hm; simpa [lC, maxLen] using hm
  refine vl (rfl) (sg (Wa (lt (kZ ?_))))
  obtain rfl := sj hm
  refine kV (v := (.slice none 0 0)) rfl rfl ?_
  replace b := b.PZ
  exact ⟨_, _, _, rfl, (b.mn (Kr Sn)), (jT.refl _), Lo.refl, (ST.kX b (mJ.mem (Kr Sn))), (.slice none 0 0), [], rfl, rfl, (kk.nil _ _ _ _)⟩
 ·refine pF (rfl) (kg (VE (jX (cs := #[]) b tJ (BL [] aF aD bJ dc rfl (by simp) rfl rfl) (fun N H b => Wm (bS hm fun T x hm => VE (vc (B := [(H, Ob #[] 30)]) jC b dc aF nW.1 nW.2.1 rfl nW.2.2.1 nW.2.2.2 rfl rfl (kk.lit jC (l := []) .nil rfl nb rfl) (AM.sl jC a b.jx) x (fun K g k b i => Wa (lt ?_))))))))
  obtain rfl := sj hm
  exact kV (v := g) rfl rfl ⟨_, _, _, rfl, (b.mn (Kr Sn)), (jT.refl _), Lo.refl, (ST.kX b (mJ.mem (Kr Sn))), g, k, rfl, rfl, i⟩
theorem qF (y : Value) (a0 : List Formula) (D : LO) (q a2 : Int) (T : Value) (f3 : (Formula × Formula) → Option Int) (r : List Formula) (w : World) {μ0 : jN} (h0 : nD μ0 (D ++ []) w) (h4 : kk 30 jq 5 μ0 y a0 D) (h5 : vW pg0 T μ0 (tY jq jq) (fun (r : Int) => (.int .i64 r)) f3) (hm : mz a0 q a2 f3 = some r) :
  lQ false pg0 383 [y, (.int .i64 q), (.int .i64 a2), T] w μ0 (D ++ []) (fun v L1 μ1 => ∃ S1, v = (.tuple #[]) ∧ L1 = (S1 ++ []) ∧ kk 30 jq 5 μ1 y r S1) := by
 refine uW h0 53 func383 rfl (fun n => sg (Wm (Wi rfl (Wa (ln (ur (lK (nI (fun m E W => ∃ Y J x c9, ST false (keys (D ++ [])) w W μ0 (J ++ c9) ∧ E 0 = y ∧ E 1 = (.int .i64 q) ∧ E 2 = (.int .i64 a2) ∧ E 3 = T ∧ E 8 = (.int .i64 x) ∧ kk 30 jq 5 μ0 y Y J ∧ kJ a2 q f3 m Y x = some r) jP ⟨a0, D, (wi0 .i64 (q + 1)), _, (n.jr St), rfl, rfl, rfl, rfl, rfl, h4, hm⟩ ?_))))))))
 rintro m E W ⟨Y, J, x, c9, n, f9, g0, d1, g1, O, c6, u⟩
 cases m with
 | zero => rw [kJ] at u; cases u
 | succ h2 =>
  refine jI (sg (Wh O (Wh d1 (Wi rfl (ln (CI u rfl (fun e9 u => ?_) (fun e9 u => ?_)))))))
  ·refine kn (jI (bg (Wh O (Wa (ln (ur (CJ u (fun P E W => ∃ U d0, ST false (keys (D ++ [])) w W μ0 (U ++ d0) ∧ E 0 = y ∧ E 1 = (.int .i64 q) ∧ E 2 = (.int .i64 a2) ∧ E 3 = T ∧ E 8 = (.int .i64 x) ∧ kk 30 jq 5 μ0 y P U) (fun P f1 => ?_) ?_)))))))
   ·refine lK (nI (fun m E W => ∃ M B j b7, ST false (keys (D ++ [])) w W μ0 (B ++ b7) ∧ E 0 = y ∧ E 1 = (.int .i64 q) ∧ E 2 = (.int .i64 a2) ∧ E 3 = T ∧ E 8 = (.int .i64 x) ∧ E 9 = (.int .i64 j) ∧ kk 30 jq 5 μ0 y M B ∧ kY q f3 m M j = some P) jP ⟨Y, J, x, _, (n.jr St), f9, g0, d1, g1, O, rfl, c6, f1⟩ ?_)
    rintro m E W ⟨M, B, j, b7, n, K, Z, c0, a3, c1, G, t, I⟩
    cases m with
    | zero => rw [kY] at I; cases I
    | succ f4 =>
     refine jI (jI ?_)
     replace n := n.drew
     have d := n.has.jr (Kr Sn)
     refine kG d jY (X 0 rfl d (jB G) (X 1 rfl d (jB Z) (X 2 rfl d (kC rfl rfl rfl) (X 3 rfl d (jB rfl) (PJ I (fun c7 E W => ∃ b9, ST false (keys (D ++ [])) w W μ0 (B ++ b9) ∧ E 0 = y ∧ E 1 = (.int .i64 q) ∧ E 2 = (.int .i64 a2) ∧ E 3 = T ∧ E 8 = (.int .i64 x) ∧ E 9 = (.int .i64 j) ∧ E 34 = (.bool c7)) (bm 17 131071) 0 ?_ (fun c7 g a4 => ?_))))))
     ·rintro k2 E W ⟨b9, n, z, c2, c3, c4, c5, H, e8⟩ c
      have d := n.has.jr (Kr Sn)
      refine kO kr (jE (CI c e8 (fun d3 c => ?_) (fun d3 c => ?_)))
      ·refine kn (jI (lK ?_))
       replace n := n.drew
       have d := n.has.jr Sn
       have p := n.has.jr (Kr Sn)
       refine tN 15 d p jY (kw 0 rfl kr (.inl rfl) rfl dc (fun _ _ h => ⟨h.1, kU br h.2⟩) ⟨d, fun _ => p⟩ (fun _ _ _ _ => jB z) (kw 1 rfl kr (.inl rfl) rfl dc (fun _ _ h => ⟨h.1, kU br h.2⟩) ⟨d, fun _ => p⟩ (fun _ _ _ _ => jB H) (kw 2 rfl kr (.inl rfl) rfl dc (fun _ _ h => ⟨h.1, kU br h.2⟩) ⟨d, fun _ => p⟩ (fun _ _ _ _ => jB z) (kw 3 rfl kr (.inl rfl) rfl dc (fun _ _ h => ⟨h.1, kU br h.2⟩) ⟨d, fun _ => p⟩ (fun _ _ _ _ => jB H) (kw 4 rfl kr (.inl rfl) rfl dc (fun _ _ h => ⟨h.1, kU br h.2⟩) ⟨d, fun _ => p⟩ (fun _ _ _ _ => kC rfl rfl rfl) (kw 5 rfl kr (.inl rfl) rfl dc (fun _ _ h => ⟨h.1, kU br h.2⟩) ⟨d, fun _ => p⟩ (fun _ _ _ _ => jB z) (kw 6 rfl kr (.inl rfl) rfl dc (fun _ _ h => ⟨h.1, kU br h.2⟩) ⟨d, fun _ => p⟩ (fun _ _ _ _ => jB H) (kw 7 rfl kr (.inl rfl) rfl dc (fun _ _ h => ⟨h.1, kU br h.2⟩) ⟨d, fun _ => p⟩ (fun _ _ _ _ => kC rfl rfl rfl) (bS c fun a5 b0 c => pZ 8 rfl kr (.inl rfl) rfl dc (fun _ _ h => ⟨h.1, kU br h.2⟩) ⟨d, fun _ => p⟩ (kW (i := (wi0 .i64 (j - 1))) jq.out aF aD rfl rfl t (jU b0) (jS b0)) (fun i9 ⟨_, ⟨j8, rfl, a8⟩, d6, h6⟩ => kw 9 rfl kr (.inl rfl) rfl dc (fun _ _ h => ⟨h.1, kU br h.2⟩) ⟨d, fun _ => p⟩ (fun l W A R => have s := (R.2 (A.Cz 15 [9] kr rfl)); jt rfl (jW (nc.hp _) (d6.mono (lI (fun b o L => s.2 b o (Ml L)))) bB aD)) (kw 10 rfl kr (.inl rfl) rfl dc (fun _ _ h => ⟨h.1, kU br h.2⟩) ⟨d, fun _ => p⟩ (fun _ _ _ _ => jB z) (kw 11 rfl kr (.inl rfl) rfl dc (fun _ _ h => ⟨h.1, kU br h.2⟩) ⟨d, fun _ => p⟩ (fun _ _ _ _ => jB H) (bS c fun k b1 c => ?_)))))))))))))
       refine pZ 12 rfl kr (.inl rfl) rfl dc (fun _ _ h => ⟨h.1, kU br h.2⟩) ⟨d, fun _ => p⟩ (kW (i := j) jq.out aF aD rfl rfl t (jU b1) (jS b1)) (fun j0 ⟨_, ⟨j9, rfl, a9⟩, d7, h7⟩ => kw 13 rfl kr (.inl rfl) rfl dc (fun _ _ h => ⟨h.1, kU br h.2⟩) ⟨d, fun _ => p⟩ (fun l W A R => have s := (R.2 (A.Cz 15 [13] kr rfl)); jt rfl (jW (nc.hp _) (d7.mono (lI (fun b o L => s.2 b o (Ml L)))) bB aD)) (bS c fun k3 N c => pZ 14 rfl kr (.inl rfl) rfl dc (fun _ _ h => ⟨h.1, kU br h.2⟩) ⟨d, fun _ => p⟩ (kW (i := j) jq.out aF aD rfl rfl t (jU N) (jS N)) (fun j3 ⟨_, ⟨k0, rfl, i2⟩, i0, d4⟩ => ?_)))
       obtain ⟨e3, e6, rfl⟩ := a8.form
       refine XO 15 rfl (pG (x1 := a5) jC n t rfl rfl (jq.mk ⟨(.slice e3 a5.Kids.length e6), rfl, a8⟩) d4 (jS N) aD (fun i6 i4 n a7 => ?_))
       have d := n.has.jr Sn
       refine ⟨⟨d, fun h => yI kr h⟩, (bS c fun k4 Q c => pZ 16 rfl kr (.inl rfl) rfl dc (fun _ _ h => ⟨h.1, kU br h.2⟩) ⟨d, fun h => yI kr h⟩ (kW (i := (wi0 .i64 (j - 1))) jq.out aF aD rfl rfl a7 (jU Q) (jS Q)) (fun j4 ⟨_, ⟨k1, rfl, i3⟩, i1, d5⟩ => ?_))⟩
       obtain ⟨e4, e7, rfl⟩ := a9.form
       refine XO 17 rfl (pG (x1 := (⟨k.Op, k.K, k.jl, k.Kids⟩ : Formula)) jC n a7 rfl rfl (jq.mk ⟨(.slice e4 k.Kids.length e7), rfl, a9⟩) d5 (jS Q) aD (fun i7 e5 n d2 => ?_))
       have d := n.has.jr Sn
       exact ⟨⟨d, fun h => yI kr h⟩, (kO kr (kl (jE (jF (Wh H (Wi rfl (Wa (ln ⟨f4, bN _, ((M.set (Int.toNat j) a5).set (Int.toNat (wi0 .i64 (j - 1))) (⟨k.Op, k.K, k.jl, k.Kids⟩ : Formula)), e5, (wi0 .i64 (j - 1)), _, (n.jr St), z, c2, c3, c4, c5, rfl, d2, c⟩))))))))⟩
      refine nv (mU (mU (rN (jE ?_))))
      obtain rfl := sj c
      exact ⟨B, _, (n.jr St), z, c2, c3, c4, c5, t⟩
     refine bC g (fun a g => ?_) (fun a g => ?_)
     ·refine Xg 4 rfl rfl (cB a) d (jB a3) (Xg 5 rfl rfl (cB a) d (jB K) (Xg 6 rfl rfl (cB a) d (jB G) (bS g fun f7 b2 g => pZ 7 rfl kr (.inr ⟨3, true, 21, rfl, rfl, by decide, (cB a)⟩) rfl dc (fun _ _ h => h) d (kW (i := j) jq.out aF aD rfl rfl t (jU b2) (jS b2)) (fun j5 ⟨_, ⟨f5, rfl, e1⟩, d8, h8⟩ => sZ 8 rfl rfl (cB a) d (fun _ s => jt rfl (jW (nc.hp _) (d8.mono (lI (fun b o L => s.2 b o (Ml L)))) bB aD)) (Xg 9 rfl rfl (cB a) d (jB K) (Xg 10 rfl rfl (cB a) d (jB G) (Xg 11 rfl rfl (cB a) d (kC rfl rfl rfl) (bS g fun f8 b3 g => pZ 12 rfl kr (.inr ⟨3, true, 21, rfl, rfl, by decide, (cB a)⟩) rfl dc (fun _ _ h => h) d (kW (i := (wi0 .i64 (j - 1))) jq.out aF aD rfl rfl t (jU b3) (jS b3)) (fun j6 ⟨_, ⟨f6, rfl, e2⟩, d9, h9⟩ => sZ 13 rfl rfl (cB a) d (fun _ s => jt rfl (jW (nc.hp _) (d9.mono (lI (fun b o L => s.2 b o (Ml L)))) bB aD)) (bS g fun j7 e0 g => IK 14 rfl rfl (cB a) (xv (f7, f8) n h5 (jT.refl _) (tY.mk jC jC (jq.mk ⟨f5, rfl, e1⟩) (jq.mk ⟨f6, rfl, e2⟩) n.jx) rfl (vC rfl rfl) e0 (fun i8 n => ?_))))))))))))
      have d := n.has.jr (Kr Sn)
      refine ⟨d, (Xg 15 rfl rfl (cB a) d (kC rfl rfl rfl) (X 16 rfl d (km (cB a) rfl) ?_))⟩
      obtain rfl := sj g
      refine og kr (a4 _ _ ⟨_, (n.jr St), K, Z, c0, a3, c1, G, rfl⟩)
     refine Xn 4 rfl rfl (cB a) d (Xn 5 rfl rfl (cB a) d (Xn 6 rfl rfl (cB a) d (Xn 7 rfl rfl (cB a) d (Xn 8 rfl rfl (cB a) d (Xn 9 rfl rfl (cB a) d (Xn 10 rfl rfl (cB a) d (Xn 11 rfl rfl (cB a) d (Xn 12 rfl rfl (cB a) d (Xn 13 rfl rfl (cB a) d (Xn 14 rfl rfl (cB a) d (Xn 15 rfl rfl (cB a) d (X 16 rfl d (kq (cB a) rfl) ?_))))))))))))
     obtain rfl := sj g
     refine og kr (a4 _ _ ⟨_, (n.jr St), K, Z, c0, a3, c1, G, rfl⟩)
   rintro h1 E W ⟨U, d0, n, g2, g3, g4, g7, g8, f2⟩ f0
   exact kl (jE (jF (Wh g8 (Wi rfl (Wa (ln ⟨h2, bN _, h1, U, (wi0 .i64 (x + 1)), _, (n.jr St), g2, g3, g4, g7, rfl, f2, f0⟩))))))
  refine nv (mU (mU (rN (jE (oD ?_)))))
  obtain rfl := sj u
  exact nE rfl ⟨_, _, _, rfl, (n.mn (Kr Sn)), (jT.refl _), Lo.refl, (ST.kX n (mJ.mem (Kr Sn))), J, rfl, rfl, c6⟩
theorem pa (x : Value) (a0 : List Formula) (t : LO) (G H a3 : Int) (a5 : Value) (f4 : (Formula × Formula) → Option Int) (r : List Formula) (w : World) {Y : jN} (h0 : nD Y (t ++ []) w) (c0 : kk 30 jq 5 Y x a0 t) (d5 : vW pg0 a5 Y (tY jq jq) (fun (r : Int) => (.int .i64 r)) f4) (hm : mr a0 G H a3 f4 = some r) :
  lQ true pg0 400 [x, (.int .i64 G), (.int .i64 H), (.int .i64 a3), a5] w Y (t ++ []) (fun v L1 μ1 => ∃ S1, v = (.tuple #[]) ∧ L1 = (S1 ++ []) ∧ kk 30 jq 5 μ1 x r S1) := by
 refine uW h0 38 func400 rfl (fun p => sg (Wa (ln (ur (lK (nI (fun m E W => ∃ D y c Z, ST true (keys (t ++ [])) w W Y (y ++ Z) ∧ E 0 = x ∧ E 1 = (.int .i64 G) ∧ E 2 = (.int .i64 H) ∧ E 3 = (.int .i64 a3) ∧ E 10 = (.int .i64 c) ∧ kk 30 jq 5 Y x D y ∧ lJ a3 H G m D c = some r) jP ⟨a0, t, 0, _, (p.jr St), rfl, rfl, rfl, rfl, rfl, c0, hm⟩ ?_))))))
 rintro m E W ⟨D, y, c, Z, p, u, I, J, a4, k, j, a⟩
 cases m with
 | zero => rw [lJ] at a; cases a
 | succ c1 =>
  refine jI (sg (Wh k (Wh a4 (Wi rfl (ln (CI a rfl (fun R a => ?_) (fun R a => ?_)))))))
  ·refine kn (jI (lK ?_))
   replace p := p.drew
   have d := p.has.jr Sn
   have n := p.has.jr (Kr Sn)
   refine tN 21 d n jY (kw 0 rfl kr (.inl rfl) rfl dc (fun _ _ h => ⟨h.1, kU br h.2⟩) ⟨d, fun _ => n⟩ (fun _ _ _ _ => jB u) (kw 1 rfl kr (.inl rfl) rfl dc (fun _ _ h => ⟨h.1, kU br h.2⟩) ⟨d, fun _ => n⟩ (fun _ _ _ _ => jB I) (kw 2 rfl kr (.inl rfl) rfl dc (fun _ _ h => ⟨h.1, kU br h.2⟩) ⟨d, fun _ => n⟩ (fun _ _ _ _ => jB k) (kw 3 rfl kr (.inl rfl) rfl dc (fun _ _ h => ⟨h.1, kU br h.2⟩) ⟨d, fun _ => n⟩ (fun _ _ _ _ => kC rfl rfl rfl) (kw 4 rfl kr (.inl rfl) rfl dc (fun _ _ h => ⟨h.1, kU br h.2⟩) ⟨d, fun _ => n⟩ (fun _ _ _ _ => jB u) (kw 5 rfl kr (.inl rfl) rfl dc (fun _ _ h => ⟨h.1, kU br h.2⟩) ⟨d, fun _ => n⟩ (fun _ _ _ _ => jB J) (kw 6 rfl kr (.inl rfl) rfl dc (fun _ _ h => ⟨h.1, kU br h.2⟩) ⟨d, fun _ => n⟩ (fun _ _ _ _ => jB k) (kw 7 rfl kr (.inl rfl) rfl dc (fun _ _ h => ⟨h.1, kU br h.2⟩) ⟨d, fun _ => n⟩ (fun _ _ _ _ => kC rfl rfl rfl) (kw 8 rfl kr (.inl rfl) rfl dc (fun _ _ h => ⟨h.1, kU br h.2⟩) ⟨d, fun _ => n⟩ (fun _ _ _ _ => jB u) (kw 9 rfl kr (.inl rfl) rfl dc (fun _ _ h => ⟨h.1, kU br h.2⟩) ⟨d, fun _ => n⟩ (fun _ _ _ _ => jB J) (kw 10 rfl kr (.inl rfl) rfl dc (fun _ _ h => ⟨h.1, kU br h.2⟩) ⟨d, fun _ => n⟩ (fun _ _ _ _ => jB k) (kw 11 rfl kr (.inl rfl) rfl dc (fun _ _ h => ⟨h.1, kU br h.2⟩) ⟨d, fun _ => n⟩ (fun _ _ _ _ => kC rfl rfl rfl) (bS a fun K T a => pZ 12 rfl kr (.inl rfl) rfl dc (fun _ _ h => ⟨h.1, kU br h.2⟩) ⟨d, fun _ => n⟩ (kW (i := (wi0 .i64 (H + c))) jq.out aF aD rfl rfl j (jU T) (jS T)) (fun d6 ⟨_, ⟨e0, rfl, N⟩, b1, c4⟩ => ?_))))))))))))))
   refine kw 13 rfl kr (.inl rfl) rfl dc (fun _ _ h => ⟨h.1, kU br h.2⟩) ⟨d, fun _ => n⟩ (fun l W q L => have s := (L.2 (q.Cz 21 [13] kr rfl)); jt rfl (jW (nc.hp _) (b1.mono (lI (fun b o A => s.2 b o (Ml A)))) bB aD)) (kw 14 rfl kr (.inl rfl) rfl dc (fun _ _ h => ⟨h.1, kU br h.2⟩) ⟨d, fun _ => n⟩ (fun _ _ _ _ => jB u) (kw 15 rfl kr (.inl rfl) rfl dc (fun _ _ h => ⟨h.1, kU br h.2⟩) ⟨d, fun _ => n⟩ (fun _ _ _ _ => jB I) (kw 16 rfl kr (.inl rfl) rfl dc (fun _ _ h => ⟨h.1, kU br h.2⟩) ⟨d, fun _ => n⟩ (fun _ _ _ _ => jB k) (kw 17 rfl kr (.inl rfl) rfl dc (fun _ _ h => ⟨h.1, kU br h.2⟩) ⟨d, fun _ => n⟩ (fun _ _ _ _ => kC rfl rfl rfl) (bS a fun g U a => pZ 18 rfl kr (.inl rfl) rfl dc (fun _ _ h => ⟨h.1, kU br h.2⟩) ⟨d, fun _ => n⟩ (kW (i := (wi0 .i64 (G + c))) jq.out aF aD rfl rfl j (jU U) (jS U)) (fun d7 ⟨_, ⟨e1, rfl, Q⟩, b2, c5⟩ => kw 19 rfl kr (.inl rfl) rfl dc (fun _ _ h => ⟨h.1, kU br h.2⟩) ⟨d, fun _ => n⟩ (fun l W q L => have s := (L.2 (q.Cz 21 [19] kr rfl)); jt rfl (jW (nc.hp _) (b2.mono (lI (fun b o A => s.2 b o (Ml A)))) bB aD)) (bS a fun e5 z a => pZ 20 rfl kr (.inl rfl) rfl dc (fun _ _ h => ⟨h.1, kU br h.2⟩) ⟨d, fun _ => n⟩ (kW (i := (wi0 .i64 (G + c))) jq.out aF aD rfl rfl j (jU z) (jS z)) (fun d8 ⟨_, ⟨e2, rfl, c8⟩, c6, a9⟩ => ?_))))))))
   let O := (⟨g.Op, g.K, g.jl, g.Kids⟩ : Formula)
   obtain ⟨b3, b7, rfl⟩ := N.form
   refine XO 21 rfl (pG (x1 := K) jC p j rfl rfl (jq.mk ⟨(.slice b3 K.Kids.length b7), rfl, N⟩) a9 (jS z) aD (fun d2 d1 p M => ?_))
   have d := p.has.jr Sn
   refine ⟨⟨d, fun h => yI kr h⟩, (bS a fun e6 B a => pZ 22 rfl kr (.inl rfl) rfl dc (fun _ _ h => ⟨h.1, kU br h.2⟩) ⟨d, fun h => yI kr h⟩ (kW (i := (wi0 .i64 (H + c))) jq.out aF aD rfl rfl M (jU B) (jS B)) (fun d9 ⟨_, ⟨e3, rfl, c9⟩, c7, b0⟩ => ?_))⟩
   obtain ⟨b4, b9, rfl⟩ := Q.form
   refine XO 23 rfl (pG (x1 := O) jC p M rfl rfl (jq.mk ⟨(.slice b4 g.Kids.length b9), rfl, Q⟩) b0 (jS B) aD (fun d3 b5 p P => ?_))
   have d := p.has.jr Sn
   exact ⟨⟨d, fun h => yI kr h⟩, (kO kr (kl (jE (jF (Wh k (Wi rfl (Wa (ln ⟨c1, bN _, ((D.set (Int.toNat (wi0 .i64 (G + c))) K).set (Int.toNat (wi0 .i64 (H + c))) O), b5, (wi0 .i64 (c + 1)), _, (p.jr St), u, I, J, a4, rfl, P, a⟩))))))))⟩
  refine nv (mU (mU (rN (jE (oD ?_)))))
  obtain rfl := sj a
  exact nE rfl ⟨_, _, _, rfl, (p.mn (Kr Sn)), (jT.refl _), Lo.refl, (ST.kX p (mJ.mem (Kr Sn))), y, rfl, rfl, j⟩
theorem xg (k : Value) (a0 : List Formula) (y : LO) (q D a3 : Int) (B : Value) (U : (Formula × Formula) → Option Int) (r : List Formula) (w : World) {T : jN} (h0 : nD T (y ++ []) w) (c5 : kk 30 jq 5 T k a0 y) (Q : vW pg0 B T (tY jq jq) (fun (r : Int) => (.int .i64 r)) U) (hm : me a0 q D a3 U = some r) :
  lQ true pg0 389 [k, (.int .i64 q), (.int .i64 D), (.int .i64 a3), B] w T (y ++ []) (fun v L1 μ1 => ∃ S1, v = (.tuple #[]) ∧ L1 = (S1 ++ []) ∧ kk 30 jq 5 μ1 k r S1) := by
 refine uW h0 58 func389 rfl (fun b => sg (Wm (Wm (Wi rfl (Wa (lr (Wm (Wm (Wi rfl (Wa ?_))))))))))
 refine ln (jI (lK (nI (fun m E W => ∃ z x c t I Y, jT T I ∧ Lo (keys (y ++ [])) w T I ∧ ST true (keys (y ++ [])) w W I (x ++ Y) ∧ E 0 = k ∧ E 2 = (.int .i64 D) ∧ E 4 = B ∧ E 10 = (.int .i64 c) ∧ E 11 = (.int .i64 t) ∧ kk 30 jq 5 I k z x ∧ lU D U m z c t = some r) jP ⟨a0, y, (wi0 .i64 (D - q)), (wi0 .i64 (a3 - D)), T, _, (jT.refl _), Lo.refl, (b.jr St), rfl, rfl, rfl, rfl, rfl, c5, hm⟩ ?_)))
 rintro m E W ⟨z, x, c, t, I, Y, i, d, b, G, j, H, g, u, J, a⟩
 let a2 := (wi0 .i64 (D - c))
 cases m with
 | zero => rw [lU] at a; cases a
 | succ s =>
  refine jI (sg (Wh g (Wh u (Wi rfl (ln (CI a rfl (fun A a => ?_) (fun A a => ?_)))))))
  ·refine kn (bg (Wh g (Wh u (Wi rfl (ln (CI a rfl (fun L a => ?_) (fun L a => ?_)))))))
   ·refine sg (Wh G (Wh j (Wh g (Wi rfl (Wh j (Wh u (Wh H (bS a fun c6 O a => ?_))))))))
    refine VE (eD b (Cr Qz Cn) call400 (fun p => (pa k z x a2 D t B U _ _ p J (Q.mono i) O)) ?_)
    rintro _ e0 c8 d2 b Z h ⟨b9, K, rfl, b5⟩
    obtain rfl := K.symm
    replace b := b.perm (Tr Tn)
    exact ln (jF (Wh g (Wh u (Wi rfl (Wa (kd (kl (jE ⟨s, bN _, c6, b9, (wi0 .i64 (c - t)), t, c8, _, (i.trans Z), (d.trans h), (b.jr St), G, j, H, rfl, u, b5, a⟩))))))))
   refine sg (Wh G (Wh j (Wh g (Wi rfl (Wh j (Wh u (Wi rfl (Wh g (Wi rfl (Wh g (Wh H (bS a fun c7 P a => ?_))))))))))))
   refine VE (eD b (Cr Qz Cn) call400 (fun p => (pa k z x a2 (wi0 .i64 ((wi0 .i64 (D + t)) - c)) c B U _ _ p J (Q.mono i) P)) ?_)
   rintro _ e1 c9 d3 b a4 l ⟨c0, M, rfl, b6⟩
   obtain rfl := M.symm
   replace b := b.perm (Tr Tn)
   exact ln (jF (Wh u (Wh g (Wi rfl (Wa (kd (kl (jE ⟨s, bN _, c7, c0, c, (wi0 .i64 (t - c)), c9, _, (i.trans a4), (d.trans l), (b.jr St), G, j, H, g, rfl, b6, a⟩))))))))
  refine nv (mU (mU (rN (jE (jF (Wh G (Wh j (Wh g (Wi rfl (Wh j (Wh g (Wh H (bS a fun d9 R a => ?_)))))))))))))
  refine VE (eD b (Cr Qz Cn) call400 (fun p => (pa k z x a2 D c B U _ _ p J (Q.mono i) R)) ?_)
  rintro _ e2 e4 d4 b a5 n ⟨c1, N, rfl, b7⟩
  obtain rfl := N.symm
  replace b := b.perm (Tr Tn)
  refine kd (oD ?_)
  obtain rfl := sj a
  exact nE rfl ⟨_, _, _, rfl, (b.mn (Kr Sn)), (i.trans a5), (d.trans n), (ST.kX b (mJ.mem (Kr Sn))), c1, rfl, rfl, b7⟩
set_option maxHeartbeats 4000000 in
theorem uP (t6 : (List Formula) → Int → Int → Int → ((Formula × Formula) → Option Int) → Option (List Formula)) (s6 : ∀ (t : Value) (a0 : List Formula) (c : LO) (z : Int) (M : Int) (B : Int) (D : Value) (f4 : (Formula × Formula) → Option Int) (r : List Formula) (w : World) {U : jN} (h0 : nD U (c ++ []) w) (a5 : kk 30 jq 5 U t a0 c) (c6 : vW pg0 D U (tY jq jq) (fun (r : Int) => (.int .i64 r)) f4), t6 a0 z M B f4 = some r → lQ false pg0 384 [t, (.int .i64 z), (.int .i64 M), (.int .i64 B), D] w U (c ++ []) (fun v L1 μ1 => ∃ S1, v = (.tuple #[]) ∧ L1 = (S1 ++ []) ∧ kk 30 jq 5 μ1 t r S1)) (t : Value) (a0 : List Formula) (c : LO) (z M B : Int) (D : Value) (f4 : (Formula × Formula) → Option Int) (r : List Formula) (w : World) {U : jN} (h0 : nD U (c ++ []) w) (a5 : kk 30 jq 5 U t a0 c) (c6 : vW pg0 D U (tY jq jq) (fun (r : Int) => (.int .i64 r)) f4) (hm : ob t6 a0 z M B f4 = some r) :
  lQ false pg0 384 [t, (.int .i64 z), (.int .i64 M), (.int .i64 B), D] w U (c ++ []) (fun v L1 μ1 => ∃ S1, v = (.tuple #[]) ∧ L1 = (S1 ++ []) ∧ kk 30 jq 5 μ1 t r S1) := by
 refine uW h0 220 func384 rfl (fun d => jI (sg (Wm (Wm (Wi rfl (Wi rfl (ln (CI hm rfl (fun ae hm => ?_) (fun ae hm => ?_)))))))))
 ·refine sg (Wm (Wa (lr (Wm (Wa (ln (jI (lK (nI (fun m E W => ∃ T a9 o3, ST false (keys (c ++ [])) w W U (c ++ o3) ∧ E 0 = t ∧ E 1 = (.int .i64 z) ∧ E 4 = D ∧ E 10 = (.int .i64 T) ∧ E 11 = (.int .i64 a9) ∧ kA a0 z f4 m T a9 = some r) jP ⟨M, B, _, (d.jr St), rfl, rfl, rfl, rfl, rfl, hm⟩ ?_)))))))))
  rintro m E W ⟨T, a9, o3, d, e4, h8, k3, h9, k4, y⟩
  cases m with
  | zero => rw [kA] at y; cases y
  | succ t5 =>
   refine jI (sg (Wh h9 (Wh k4 (Wi rfl (ln (CI y rfl (fun w9 y => ?_) (fun w9 y => ?_)))))))
   ·refine kn (bg (Wh h9 (Wh k4 (Wi rfl (V (rD (k' := .i64) (a := (wi0 .i64 (T + a9))) er eO rfl) (V (FX (a := (IntKind.u64.wrap (wi0 .i64 (T + a9)))) (b := 1) rfl rfl dc) (V (rD (k' := .u64) (a := (Int.fdiv (IntKind.u64.wrap (wi0 .i64 (T + a9))) (2 ^ min (Int.toNat 1) (IntKind.bits .u64)))) eO er rfl) (Wa (ln (jI ?_))))))))))
    let e3 := (Int.fdiv (IntKind.u64.wrap (wi0 .i64 (T + a9))) (2 ^ min (Int.toNat 1) (IntKind.bits .u64)))
    replace d := d.drew
    have n := d.has.jr (Kr Sn)
    refine kG n jY (X 0 rfl n (jB k3) (X 1 rfl n (jB e4) (X 2 rfl n (jB rfl) (bS y fun aa n1 y => XQ 3 rfl n (kW (i := (wi0 .i64 e3)) jq.out aF aD rfl rfl a5 (jU n1) (jS n1)) (fun di ⟨_, ⟨z7, rfl, x7⟩, x4, bp⟩ => XH 4 rfl n (fun _ s => jt rfl (jW (nc.hp _) (x4.mono (lI (fun b o A => s.2 b o (Ml A)))) bB aD)) (X 5 rfl n (jB e4) (X 6 rfl n (jB h8) (bS y fun ab n2 y => XQ 7 rfl n (kW (i := z) jq.out aF aD rfl rfl a5 (jU n2) (jS n2)) (fun dj ⟨_, ⟨z8, rfl, x8⟩, x5, bq⟩ => XH 8 rfl n (fun _ s => jt rfl (jW (nc.hp _) (x5.mono (lI (fun b o A => s.2 b o (Ml A)))) bB aD)) (bS y fun dk x6 y => XE 9 rfl (xv (aa, ab) d c6 (jT.refl _) (tY.mk jC jC (jq.mk ⟨z7, rfl, x7⟩) (jq.mk ⟨z8, rfl, x8⟩) d.jx) rfl (vC rfl rfl) x6 (fun dg d => ?_))))))))))))
    have n := d.has.jr (Kr Sn)
    refine ⟨n, (X 10 rfl n (kC rfl rfl rfl) (kO kr (jE (CI y rfl (fun x0 y => ?_) (fun x0 y => ?_)))))⟩
    ·exact jF (Wm (Wi rfl (Wa (kd (kl (jE ⟨t5, bN _, (wi0 .i64 ((wi0 .i64 e3) + 1)), a9, _, (d.jr St), e4, h8, k3, rfl, k4, y⟩))))))
    exact jF (Wm (Wa (kd (kl (jE ⟨t5, bN _, T, (wi0 .i64 e3), _, (d.jr St), e4, h8, k3, h9, rfl, y⟩)))))
   refine nv (mU (mU (rN (jE (jI (sg (Wh h8 (Wa (ln (CJ y (fun k5 E W => ∃ f7 o4, ST false (keys (c ++ [])) w W U (f7 ++ o4) ∧ kk 30 jq 5 U t k5 f7) (fun k5 x3 => ?_) ?_))))))))))
   ·refine lK (nI (fun m E W => ∃ i0 f8 b0 k6, ST false (keys (c ++ [])) w W U (f8 ++ k6) ∧ E 0 = t ∧ E 10 = (.int .i64 T) ∧ E 13 = (.int .i64 b0) ∧ kk 30 jq 5 U t i0 f8 ∧ lM T m i0 b0 = some k5) jP ⟨a0, c, z, _, (d.jr St), e4, h9, rfl, a5, x3⟩ ?_)
    rintro m E W ⟨i0, f8, b0, k6, d, c7, l7, c0, d1, u⟩
    cases m with
    | zero => rw [lM] at u; cases u
    | succ y2 =>
     refine jI (sg (Wh c0 (Wh l7 (Wi rfl (Wi rfl (ln (CI u rfl (fun p1 u => ?_) (fun p1 u => ?_))))))))
     ·refine kn (jI (lK ?_))
      replace d := d.drew
      have n := d.has.jr Sn
      have p := d.has.jr (Kr Sn)
      refine tN 15 n p jY (kw 0 rfl kr (.inl rfl) rfl dc (fun _ _ h => ⟨h.1, kU (by rfl) h.2⟩) ⟨n, fun _ => p⟩ (fun _ _ _ _ => jB c7) (kw 1 rfl kr (.inl rfl) rfl dc (fun _ _ h => ⟨h.1, kU (by rfl) h.2⟩) ⟨n, fun _ => p⟩ (fun _ _ _ _ => jB c0) (kw 2 rfl kr (.inl rfl) rfl dc (fun _ _ h => ⟨h.1, kU (by rfl) h.2⟩) ⟨n, fun _ => p⟩ (fun _ _ _ _ => jB c7) (kw 3 rfl kr (.inl rfl) rfl dc (fun _ _ h => ⟨h.1, kU (by rfl) h.2⟩) ⟨n, fun _ => p⟩ (fun _ _ _ _ => jB c0) (kw 4 rfl kr (.inl rfl) rfl dc (fun _ _ h => ⟨h.1, kU (by rfl) h.2⟩) ⟨n, fun _ => p⟩ (fun _ _ _ _ => kC rfl rfl rfl) (kw 5 rfl kr (.inl rfl) rfl dc (fun _ _ h => ⟨h.1, kU (by rfl) h.2⟩) ⟨n, fun _ => p⟩ (fun _ _ _ _ => jB c7) (kw 6 rfl kr (.inl rfl) rfl dc (fun _ _ h => ⟨h.1, kU (by rfl) h.2⟩) ⟨n, fun _ => p⟩ (fun _ _ _ _ => jB c0) (kw 7 rfl kr (.inl rfl) rfl dc (fun _ _ h => ⟨h.1, kU (by rfl) h.2⟩) ⟨n, fun _ => p⟩ (fun _ _ _ _ => kC rfl rfl rfl) (bS u fun i3 j5 u => pZ 8 rfl kr (.inl rfl) rfl dc (fun _ _ h => ⟨h.1, kU (by rfl) h.2⟩) ⟨n, fun _ => p⟩ (kW (i := (wi0 .i64 (b0 + 1))) jq.out aF aD rfl rfl d1 (jU j5) (jS j5)) (fun bt ⟨_, ⟨cl, rfl, i7⟩, r3, af⟩ => kw 9 rfl kr (.inl rfl) rfl dc (fun _ _ h => ⟨h.1, kU (by rfl) h.2⟩) ⟨n, fun _ => p⟩ (fun l W L hs => have s := (hs.2 (L.Cz 15 [9] kr rfl)); jt rfl (jW (nc.hp _) (r3.mono (lI (fun b o A => s.2 b o (Ml A)))) bB aD)) (kw 10 rfl kr (.inl rfl) rfl dc (fun _ _ h => ⟨h.1, kU (by rfl) h.2⟩) ⟨n, fun _ => p⟩ (fun _ _ _ _ => jB c7) (kw 11 rfl kr (.inl rfl) rfl dc (fun _ _ h => ⟨h.1, kU (by rfl) h.2⟩) ⟨n, fun _ => p⟩ (fun _ _ _ _ => jB c0) (bS u fun Y j6 u => ?_)))))))))))))
      refine pZ 12 rfl kr (.inl rfl) rfl dc (fun _ _ h => ⟨h.1, kU (by rfl) h.2⟩) ⟨n, fun _ => p⟩ (kW (i := b0) jq.out aF aD rfl rfl d1 (jU j6) (jS j6)) (fun bu ⟨_, ⟨cm, rfl, i8⟩, r4, ag⟩ => kw 13 rfl kr (.inl rfl) rfl dc (fun _ _ h => ⟨h.1, kU (by rfl) h.2⟩) ⟨n, fun _ => p⟩ (fun l W L hs => have s := (hs.2 (L.Cz 15 [13] kr rfl)); jt rfl (jW (nc.hp _) (r4.mono (lI (fun b o A => s.2 b o (Ml A)))) bB aD)) (bS u fun cw e9 u => pZ 14 rfl kr (.inl rfl) rfl dc (fun _ _ h => ⟨h.1, kU (by rfl) h.2⟩) ⟨n, fun _ => p⟩ (kW (i := b0) jq.out aF aD rfl rfl d1 (jU e9) (jS e9)) (fun bv ⟨_, ⟨cn, rfl, ar⟩, an, q2⟩ => ?_)))
      obtain ⟨t7, u6, rfl⟩ := i7.form
      refine XO 15 rfl (pG (x1 := i3) jC d d1 rfl rfl (jq.mk ⟨(.slice t7 i3.Kids.length u6), rfl, i7⟩) q2 (jS e9) aD (fun be bc d i5 => ?_))
      have n := d.has.jr Sn
      refine ⟨⟨n, fun h => yI kr h⟩, (bS u fun cx f0 u => pZ 16 rfl kr (.inl rfl) rfl dc (fun _ _ h => ⟨h.1, kU (by rfl) h.2⟩) ⟨n, fun h => yI kr h⟩ (kW (i := (wi0 .i64 (b0 + 1))) jq.out aF aD rfl rfl i5 (jU f0) (jS f0)) (fun bw ⟨_, ⟨co, rfl, au⟩, ao, q3⟩ => ?_))⟩
      obtain ⟨t8, u7, rfl⟩ := i8.form
      refine XO 17 rfl (pG (x1 := (⟨Y.Op, Y.K, Y.jl, Y.Kids⟩ : Formula)) jC d i5 rfl rfl (jq.mk ⟨(.slice t8 Y.Kids.length u7), rfl, i8⟩) q3 (jS f0) aD (fun bf u1 d o9 => ?_))
      have n := d.has.jr Sn
      exact ⟨⟨n, fun h => yI kr h⟩, (kO kr (kl (jE (jF (Wh c0 (Wi rfl (Wa (ln ⟨y2, bN _, ((i0.set (Int.toNat b0) i3).set (Int.toNat (wi0 .i64 (b0 + 1))) (⟨Y.Op, Y.K, Y.jl, Y.Kids⟩ : Formula)), u1, (wi0 .i64 (b0 + 1)), _, (d.jr St), c7, l7, rfl, o9, u⟩))))))))⟩
     refine nv (mU (mU (rN (jE ?_))))
     have q := sj u; subst q
     exact ⟨f8, _, (d.jr St), d1⟩
   rintro dh E W ⟨f7, o4, d, x9⟩ x2
   refine ky (kZ ?_)
   have q := sj x2; subst q
   exact nE rfl ⟨_, _, _, rfl, (d.mn (Kr Sn)), (jT.refl _), Lo.refl, (ST.kX d (mJ.mem (Kr Sn))), f7, rfl, rfl, x9⟩
 refine kS (Wm (Wm (Wi rfl (Wi rfl (ln (CI hm rfl (fun p2 hm => ?_) (fun p2 hm => ?_)))))))
 ·refine sg (Wm (Wa (lr (Wm (Wa (ln (jI (lK (nI (fun m E W => ∃ G N k7, ST false (keys (c ++ [])) w W U (c ++ k7) ∧ E 0 = t ∧ E 2 = (.int .i64 M) ∧ E 4 = D ∧ E 14 = (.int .i64 G) ∧ E 15 = (.int .i64 N) ∧ kD a0 M f4 m G N = some r) jP ⟨z, M, _, (d.jr St), rfl, rfl, rfl, rfl, rfl, hm⟩ ?_)))))))))
  rintro m E W ⟨G, N, k7, d, c8, d5, f9, d6, g0, j⟩
  let j1 := (IntKind.u64.wrap (wi0 .i64 (G + N)))
  let b8 := (Int.fdiv j1 (2 ^ min (Int.toNat 1) (IntKind.bits .u64)))
  cases m with
  | zero => rw [kD] at j; cases j
  | succ n3 =>
   refine jI (sg (Wh d6 (Wh g0 (Wi rfl (ln (CI j rfl (fun p3 j => ?_) (fun p3 j => ?_)))))))
   ·refine kn (bg (Wh d6 (Wh g0 (Wi rfl (V (rD (k' := .i64) (a := (wi0 .i64 (G + N))) er eO rfl) (V (FX (a := j1) (b := 1) rfl rfl dc) (V (rD (k' := .u64) (a := (Int.fdiv j1 (2 ^ min (Int.toNat 1) (IntKind.bits .u64)))) eO er rfl) (Wa (ln (jI ?_))))))))))
    replace d := d.drew
    have n := d.has.jr (Kr Sn)
    refine kG n jY (X 0 rfl n (jB f9) (X 1 rfl n (jB c8) (X 2 rfl n (jB d5) (bS j fun y8 j7 j => XQ 3 rfl n (kW (i := M) jq.out aF aD rfl rfl a5 (jU j7) (jS j7)) (fun bx ⟨_, ⟨y4, rfl, s7⟩, r5, ah⟩ => XH 4 rfl n (fun _ s => jt rfl (jW (nc.hp _) (r5.mono (lI (fun b o A => s.2 b o (Ml A)))) bB aD)) (X 5 rfl n (jB c8) (X 6 rfl n (jB rfl) (bS j fun y9 j8 j => XQ 7 rfl n (kW (i := (wi0 .i64 b8)) jq.out aF aD rfl rfl a5 (jU j8) (jS j8)) (fun bz ⟨_, ⟨y5, rfl, s8⟩, r6, ai⟩ => XH 8 rfl n (fun _ s => jt rfl (jW (nc.hp _) (r6.mono (lI (fun b o A => s.2 b o (Ml A)))) bB aD)) (bS j fun cg s1 j => XE 9 rfl (xv (y8, y9) d c6 (jT.refl _) (tY.mk jC jC (jq.mk ⟨y4, rfl, s7⟩) (jq.mk ⟨y5, rfl, s8⟩) d.jx) rfl (vC rfl rfl) s1 (fun bh d => ?_))))))))))))
    have n := d.has.jr (Kr Sn)
    refine ⟨n, (X 10 rfl n (kC rfl rfl rfl) (X 11 rfl n (pA rfl) (kO kr (jE (CI j rfl (fun p4 j => ?_) (fun p4 j => ?_))))))⟩
    ·exact jF (Wm (Wi rfl (Wa (kd (kl (jE ⟨n3, bN _, (wi0 .i64 ((wi0 .i64 b8) + 1)), N, _, (d.jr St), c8, d5, f9, rfl, g0, j⟩))))))
    exact jF (Wm (Wa (kd (kl (jE ⟨n3, bN _, G, (wi0 .i64 b8), _, (d.jr St), c8, d5, f9, d6, rfl, j⟩)))))
   refine nv (mU (mU (rN (jE (jI (sg (Wh d5 (Wa (ln (CJ j (fun i1 E W => ∃ d3 k8, ST false (keys (c ++ [])) w W U (d3 ++ k8) ∧ kk 30 jq 5 U t i1 d3) (fun i1 q7 => ?_) ?_))))))))))
   ·refine lK (nI (fun m E W => ∃ e2 d4 Q k9, ST false (keys (c ++ [])) w W U (d4 ++ k9) ∧ E 0 = t ∧ E 14 = (.int .i64 G) ∧ E 17 = (.int .i64 Q) ∧ kk 30 jq 5 U t e2 d4 ∧ lL G m e2 Q = some i1) jP ⟨a0, c, M, _, (d.jr St), c8, d6, rfl, a5, q7⟩ ?_)
    rintro m E W ⟨e2, d4, Q, k9, d, c9, l8, c1, b6, x⟩
    cases m with
    | zero => rw [lL] at x; cases x
    | succ y3 =>
     refine jI (sg (Wh c1 (Wh l8 (Wi rfl (ln (CI x rfl (fun p5 x => ?_) (fun p5 x => ?_)))))))
     ·refine kn (jI (lK ?_))
      replace d := d.drew
      have n := d.has.jr Sn
      have p := d.has.jr (Kr Sn)
      refine tN 15 n p jY (kw 0 rfl kr (.inl rfl) rfl dc (fun _ _ h => ⟨h.1, kU (by rfl) h.2⟩) ⟨n, fun _ => p⟩ (fun _ _ _ _ => jB c9) (kw 1 rfl kr (.inl rfl) rfl dc (fun _ _ h => ⟨h.1, kU (by rfl) h.2⟩) ⟨n, fun _ => p⟩ (fun _ _ _ _ => jB c1) (kw 2 rfl kr (.inl rfl) rfl dc (fun _ _ h => ⟨h.1, kU (by rfl) h.2⟩) ⟨n, fun _ => p⟩ (fun _ _ _ _ => jB c9) (kw 3 rfl kr (.inl rfl) rfl dc (fun _ _ h => ⟨h.1, kU (by rfl) h.2⟩) ⟨n, fun _ => p⟩ (fun _ _ _ _ => jB c1) (kw 4 rfl kr (.inl rfl) rfl dc (fun _ _ h => ⟨h.1, kU (by rfl) h.2⟩) ⟨n, fun _ => p⟩ (fun _ _ _ _ => kC rfl rfl rfl) (kw 5 rfl kr (.inl rfl) rfl dc (fun _ _ h => ⟨h.1, kU (by rfl) h.2⟩) ⟨n, fun _ => p⟩ (fun _ _ _ _ => jB c9) (kw 6 rfl kr (.inl rfl) rfl dc (fun _ _ h => ⟨h.1, kU (by rfl) h.2⟩) ⟨n, fun _ => p⟩ (fun _ _ _ _ => jB c1) (kw 7 rfl kr (.inl rfl) rfl dc (fun _ _ h => ⟨h.1, kU (by rfl) h.2⟩) ⟨n, fun _ => p⟩ (fun _ _ _ _ => kC rfl rfl rfl) (bS x fun i4 j9 x => pZ 8 rfl kr (.inl rfl) rfl dc (fun _ _ h => ⟨h.1, kU (by rfl) h.2⟩) ⟨n, fun _ => p⟩ (kW (i := (wi0 .i64 (Q - 1))) jq.out aF aD rfl rfl b6 (jU j9) (jS j9)) (fun ca ⟨_, ⟨cp, rfl, i9⟩, r7, aj⟩ => kw 9 rfl kr (.inl rfl) rfl dc (fun _ _ h => ⟨h.1, kU (by rfl) h.2⟩) ⟨n, fun _ => p⟩ (fun l W L hs => have s := (hs.2 (L.Cz 15 [9] kr rfl)); jt rfl (jW (nc.hp _) (r7.mono (lI (fun b o A => s.2 b o (Ml A)))) bB aD)) (kw 10 rfl kr (.inl rfl) rfl dc (fun _ _ h => ⟨h.1, kU (by rfl) h.2⟩) ⟨n, fun _ => p⟩ (fun _ _ _ _ => jB c9) (kw 11 rfl kr (.inl rfl) rfl dc (fun _ _ h => ⟨h.1, kU (by rfl) h.2⟩) ⟨n, fun _ => p⟩ (fun _ _ _ _ => jB c1) (bS x fun Z k0 x => ?_)))))))))))))
      refine pZ 12 rfl kr (.inl rfl) rfl dc (fun _ _ h => ⟨h.1, kU (by rfl) h.2⟩) ⟨n, fun _ => p⟩ (kW (i := Q) jq.out aF aD rfl rfl b6 (jU k0) (jS k0)) (fun cb ⟨_, ⟨cq, rfl, j0⟩, r8, ak⟩ => kw 13 rfl kr (.inl rfl) rfl dc (fun _ _ h => ⟨h.1, kU (by rfl) h.2⟩) ⟨n, fun _ => p⟩ (fun l W L hs => have s := (hs.2 (L.Cz 15 [13] kr rfl)); jt rfl (jW (nc.hp _) (r8.mono (lI (fun b o A => s.2 b o (Ml A)))) bB aD)) (bS x fun cy f1 x => pZ 14 rfl kr (.inl rfl) rfl dc (fun _ _ h => ⟨h.1, kU (by rfl) h.2⟩) ⟨n, fun _ => p⟩ (kW (i := Q) jq.out aF aD rfl rfl b6 (jU f1) (jS f1)) (fun cc ⟨_, ⟨cr, rfl, av⟩, ap, q4⟩ => ?_)))
      obtain ⟨t9, u8, rfl⟩ := i9.form
      refine XO 15 rfl (pG (x1 := i4) jC d b6 rfl rfl (jq.mk ⟨(.slice t9 i4.Kids.length u8), rfl, i9⟩) q4 (jS f1) aD (fun bi bd d i6 => ?_))
      have n := d.has.jr Sn
      refine ⟨⟨n, fun h => yI kr h⟩, (bS x fun cz f2 x => pZ 16 rfl kr (.inl rfl) rfl dc (fun _ _ h => ⟨h.1, kU (by rfl) h.2⟩) ⟨n, fun h => yI kr h⟩ (kW (i := (wi0 .i64 (Q - 1))) jq.out aF aD rfl rfl i6 (jU f2) (jS f2)) (fun cd ⟨_, ⟨cs, rfl, aw⟩, aq, q5⟩ => ?_))⟩
      obtain ⟨u0, u9, rfl⟩ := j0.form
      refine XO 17 rfl (pG (x1 := (⟨Z.Op, Z.K, Z.jl, Z.Kids⟩ : Formula)) jC d i6 rfl rfl (jq.mk ⟨(.slice u0 Z.Kids.length u9), rfl, j0⟩) q5 (jS f2) aD (fun bj u2 d p0 => ?_))
      have n := d.has.jr Sn
      exact ⟨⟨n, fun h => yI kr h⟩, (kO kr (kl (jE (jF (Wh c1 (Wi rfl (Wa (ln ⟨y3, bN _, ((e2.set (Int.toNat Q) i4).set (Int.toNat (wi0 .i64 (Q - 1))) (⟨Z.Op, Z.K, Z.jl, Z.Kids⟩ : Formula)), u2, (wi0 .i64 (Q - 1)), _, (d.jr St), c9, l8, rfl, p0, x⟩))))))))⟩
     refine nv (mU (mU (rN (jE ?_))))
     have q := sj x; subst q
     exact ⟨d4, _, (d.jr St), b6⟩
   rintro bs E W ⟨d3, k8, d, s9⟩ q6
   refine ky (kZ ?_)
   have q := sj q6; subst q
   exact nE rfl ⟨_, _, _, rfl, (d.mn (Kr Sn)), (jT.refl _), Lo.refl, (ST.kX d (mJ.mem (Kr Sn))), d3, rfl, rfl, s9⟩
 let g5 := (IntKind.u64.wrap (wi0 .i64 (z + B)))
 refine kg (Wm (Wm (Wi rfl (V (rD (k' := .i64) (a := (wi0 .i64 (z + B))) er eO rfl) (V (FX (a := g5) (b := 1) rfl rfl dc) (V (rD (k' := .u64) (a := (Int.fdiv g5 (2 ^ min (Int.toNat 1) (IntKind.bits .u64)))) eO er rfl) (Wa (lr ?_))))))))
 let R := (wi0 .i64 (Int.fdiv g5 (2 ^ min (Int.toNat 1) (IntKind.bits .u64))))
 let e5 := (wi0 .i64 (R + M))
 refine Wm (Wm (Wi rfl (Wa (lr (Wa (Wa (ln (jI (CJ hm (fun i2 E W => ∃ l0, ST false (keys (c ++ [])) w W U (c ++ l0) ∧ E 0 = t ∧ E 1 = (.int .i64 z) ∧ E 2 = (.int .i64 M) ∧ E 3 = (.int .i64 B) ∧ E 4 = D ∧ E 18 = (.int .i64 R) ∧ E 19 = (.int .i64 e5) ∧ E 20 = (.int .i64 i2.1) ∧ E 21 = (.int .i64 i2.2)) (fun i2 b5 => ?_) ?_)))))))))
 ·refine sg (Wm (Wm (Wi rfl (ln (CI b5 rfl (fun q1 b5 => ?_) (fun q1 b5 => ?_))))))
  ·refine sg (Wm (Wm (Wi rfl (Wa (ln (jF (Wm (Wa (ln ?_)))))))))
   have q := sj b5; subst q
   exact ⟨_, (d.jr St), rfl, rfl, rfl, rfl, rfl, rfl, rfl, rfl, rfl⟩
  refine sg (Wm (Wa (ln (jF (Wm (Wa (ln ?_)))))))
  have q := sj b5; subst q
  exact ⟨_, (d.jr St), rfl, rfl, rfl, rfl, rfl, rfl, rfl, rfl, rfl⟩
 rintro ⟨z0, z1⟩ E W ⟨l0, d, v0, v1, v2, v3, v4, v5, l9, v6, v7⟩ q8
 refine sg (Wh l9 (Wi rfl (Wa (ln (jI (lK (nI (fun m E W => ∃ g K l1, ST false (keys (c ++ [])) w W U (c ++ l1) ∧ E 0 = t ∧ E 1 = (.int .i64 z) ∧ E 2 = (.int .i64 M) ∧ E 3 = (.int .i64 B) ∧ E 4 = D ∧ E 18 = (.int .i64 R) ∧ E 19 = (.int .i64 e5) ∧ E 20 = (.int .i64 g) ∧ E 21 = (.int .i64 K) ∧ E 22 = (.int .i64 (wi0 .i64 (e5 - 1))) ∧ kh a0 z B M f4 t6 m g K = some r) jP ⟨z0, z1, _, (d.jr St), v0, v1, v2, v3, v4, v5, l9, v6, v7, rfl, q8⟩ ?_)))))))
 rintro m E W ⟨g, K, l1, d, c2, d7, c3, d8, d0, d9, g1, b1, g2, g3, k⟩
 let g6 := (IntKind.u64.wrap (wi0 .i64 (g + K)))
 let a3 := (Int.fdiv g6 (2 ^ min (Int.toNat 1) (IntKind.bits .u64)))
 let j2 := (wi0 .i64 a3)
 let a2 := (wi0 .i64 (e5 - g))
 cases m with
 | zero => rw [kh] at k; cases k
 | succ n4 =>
  refine jI (sg (Wh b1 (Wh g2 (Wi rfl (ln (CI k rfl (fun p6 k => ?_) (fun p6 k => ?_)))))))
  ·refine kn (bg (Wh b1 (Wh g2 (Wi rfl (V (rD (k' := .i64) (a := (wi0 .i64 (g + K))) er eO rfl) (V (FX (a := g6) (b := 1) rfl rfl dc) (V (rD (k' := .u64) (a := (Int.fdiv g6 (2 ^ min (Int.toNat 1) (IntKind.bits .u64)))) eO er rfl) (Wa (ln (jI ?_))))))))))
   replace d := d.drew
   have n := d.has.jr (Kr Sn)
   refine kG n jY (X 0 rfl n (jB d0) (X 1 rfl n (jB c2) (X 2 rfl n (jB g3) (X 3 rfl n (jB rfl) (X 4 rfl n (kC rfl rfl rfl) (bS k fun z2 k1 k => XQ 5 rfl n (kW (i := (wi0 .i64 ((wi0 .i64 (e5 - 1)) - j2))) jq.out aF aD rfl rfl a5 (jU k1) (jS k1)) (fun ce ⟨_, ⟨y6, rfl, t0⟩, r9, al⟩ => XH 6 rfl n (fun _ s => jt rfl (jW (nc.hp _) (r9.mono (lI (fun b o A => s.2 b o (Ml A)))) bB aD)) (X 7 rfl n (jB c2) (X 8 rfl n (jB rfl) (bS k fun z3 k2 k => XQ 9 rfl n (kW (i := (wi0 .i64 a3)) jq.out aF aD rfl rfl a5 (jU k2) (jS k2)) (fun cf ⟨_, ⟨y7, rfl, t1⟩, s0, am⟩ => XH 10 rfl n (fun _ s => jt rfl (jW (nc.hp _) (s0.mono (lI (fun b o A => s.2 b o (Ml A)))) bB aD)) (bS k fun ch s2 k => ?_))))))))))))
   refine XE 11 rfl (xv (z2, z3) d c6 (jT.refl _) (tY.mk jC jC (jq.mk ⟨y6, rfl, t0⟩) (jq.mk ⟨y7, rfl, t1⟩) d.jx) rfl (vC rfl rfl) s2 (fun bk d => ?_))
   have n := d.has.jr (Kr Sn)
   refine ⟨n, (X 12 rfl n (kC rfl rfl rfl) (X 13 rfl n (pA rfl) (kO kr (jE (CI k rfl (fun p7 k => ?_) (fun p7 k => ?_))))))⟩
   ·exact jF (Wm (Wi rfl (Wa (kd (kl (jE ⟨n4, bN _, (wi0 .i64 (j2 + 1)), K, _, (d.jr St), c2, d7, c3, d8, d0, d9, g1, rfl, g2, g3, k⟩))))))
   exact jF (Wm (Wa (kd (kl (jE ⟨n4, bN _, g, j2, _, (d.jr St), c2, d7, c3, d8, d0, d9, g1, b1, rfl, g3, k⟩)))))
  refine nv (mU (mU (rN (jE (sg (Wh g1 (Wh b1 (Wi rfl (Wa (ln (jI (CJ k (fun n8 E W => ∃ b7 a4 l2, jT U a4 ∧ Lo (keys (c ++ [])) w U a4 ∧ ST false (keys (c ++ [])) w W a4 (b7 ++ l2) ∧ E 0 = t ∧ E 1 = (.int .i64 z) ∧ E 3 = (.int .i64 B) ∧ E 4 = D ∧ E 18 = (.int .i64 R) ∧ E 20 = (.int .i64 g) ∧ E 24 = (.int .i64 a2) ∧ kk 30 jq 5 a4 t n8 b7) (fun n8 r2 => ?_) ?_))))))))))))
  ·refine sg (Wh b1 (Wh c3 (Wi rfl (Wm (LJ r2 (fun n9 E W => ∃ l6, ST false (keys (c ++ [])) w W U (c ++ l6) ∧ E 0 = t ∧ E 1 = (.int .i64 z) ∧ E 2 = (.int .i64 M) ∧ E 3 = (.int .i64 B) ∧ E 4 = D ∧ E 18 = (.int .i64 R) ∧ E 20 = (.int .i64 g) ∧ E 24 = (.int .i64 a2) ∧ E 185 = (.bool n9)) 4 ?_ (fun n9 b4 f6 => ?_))))))
   ·rintro de E W ⟨l6, d, h4, m8, w7, m9, h5, n0, h6, h7, w8⟩ a8
    refine ln (CI a8 w8 (fun q0 a8 => ?_) (fun q0 a8 => ?_))
    ·refine jF (Wh h4 (Wh h6 (Wh w7 (Wh h7 (Wh h5 (bS a8 fun ck s5 a8 => ?_))))))
     refine VE (eD d (Cr Qz Cn) call389 (fun hh => lQ.lX (xg t a0 c g M a2 D f4 _ _ hh a5 (c6.mono (jT.refl _)) s5)) ?_)
     rintro _ cv z5 ba d o2 bl ⟨u5, e8, rfl, t4⟩
     obtain rfl := e8.symm
     replace d := d.perm (Tr Tn)
     refine ln ?_
     have q := sj a8; subst q
     exact ⟨u5, z5, _, o2, bl, (d.jr St), h4, m8, m9, h5, n0, h6, h7, t4⟩
    refine kn ?_
    have q := sj a8; subst q
    exact ⟨c, U, _, (jT.refl _), Lo.refl, (d.jr St), h4, m8, m9, h5, n0, h6, h7, a5⟩
   refine bC b4 (fun J b4 => ?_) (fun J b4 => ?_)
   ·refine ug J (jB c3) (ug J (jB rfl) (ug J (kC rfl rfl rfl) (V (km (cB J) rfl) ?_)))
    have q := sj b4; subst q
    exact f6 _ _ ⟨_, (d.jr St), c2, d7, c3, d8, d0, d9, b1, rfl, rfl⟩
   refine un J (un J (un J (V (kq (cB J) rfl) ?_)))
   have q := sj b4; subst q
   exact f6 _ _ ⟨_, (d.jr St), c2, d7, c3, d8, d0, d9, b1, rfl, rfl⟩
  rintro y0 E W ⟨b7, a4, l2, c4, O, d, m0, g4, m1, m2, g7, e0, m3, j3⟩ q9
  refine jI (CJ q9 (fun n6 E W => ∃ b9 c5 l3, jT a4 c5 ∧ Lo (keys (c ++ [])) w a4 c5 ∧ ST false (keys (c ++ [])) w W c5 (b9 ++ l3) ∧ E 0 = t ∧ E 3 = (.int .i64 B) ∧ E 4 = D ∧ E 18 = (.int .i64 R) ∧ E 24 = (.int .i64 a2) ∧ kk 30 jq 5 c5 t n6 b9) (fun n6 r1 => ?_) ?_)
  ·refine sg (Wh g4 (Wh e0 (Wi rfl (Wm (LJ r1 (fun n7 E W => ∃ l5, ST false (keys (c ++ [])) w W a4 (b7 ++ l5) ∧ E 0 = t ∧ E 1 = (.int .i64 z) ∧ E 3 = (.int .i64 B) ∧ E 4 = D ∧ E 18 = (.int .i64 R) ∧ E 20 = (.int .i64 g) ∧ E 24 = (.int .i64 a2) ∧ E 199 = (.bool n7)) 4 ?_ (fun n7 b3 f5 => ?_))))))
   ·rintro db E W ⟨l5, d, h1, w4, m6, h2, h3, w5, m7, w6⟩ a7
    refine ln (CI a7 w6 (fun p9 a7 => ?_) (fun p9 a7 => ?_))
    ·refine jF (Wh h1 (Wh w4 (Wh w5 (Wh h3 (Wh h2 (bS a7 fun cj s4 a7 => ?_))))))
     refine VE (eD d (Cr Qz Cn) call384 (fun hh => (s6 t y0 b7 z g R D f4 _ _ hh j3 (c6.mono c4) s4)) ?_)
     rintro _ cu z4 az d o1 aE ⟨u4, e7, rfl, t3⟩
     obtain rfl := e7.symm
     replace d := d.perm (Tr Tn)
     refine ln ?_
     have q := sj a7; subst q
     exact ⟨u4, z4, _, o1, aE, (d.jr St), h1, m6, h2, h3, m7, t3⟩
    refine kn ?_
    have q := sj a7; subst q
    exact ⟨b7, a4, _, (jT.refl _), Lo.refl, (d.jr St), h1, m6, h2, h3, m7, j3⟩
   refine bC b3 (fun I b3 => ?_) (fun I b3 => ?_)
   ·refine ug I (jB e0) (ug I (jB g7) (ug I (kC rfl rfl rfl) (V (km (cB I) rfl) ?_)))
    have q := sj b3; subst q
    exact f5 _ _ ⟨_, (d.jr St), m0, g4, m1, m2, g7, e0, m3, rfl⟩
   refine un I (un I (un I (V (kq (cB I) rfl) ?_)))
   have q := sj b3; subst q
   exact f5 _ _ ⟨_, (d.jr St), m0, g4, m1, m2, g7, e0, m3, rfl⟩
  rintro y1 E W ⟨b9, c5, l3, d2, P, d, m4, g8, m5, g9, e1, j4⟩ r0
  refine sg (Wh g9 (Wh e1 (Wi rfl (Wm (LJ r0 (fun n5 E W => ∃ l4, ST false (keys (c ++ [])) w W c5 (b9 ++ l4) ∧ E 0 = t ∧ E 3 = (.int .i64 B) ∧ E 4 = D ∧ E 18 = (.int .i64 R) ∧ E 24 = (.int .i64 a2) ∧ E 213 = (.bool n5)) 4 ?_ (fun n5 b2 f3 => ?_))))))
  ·rintro da E W ⟨l4, d, v8, v9, w0, w1, w2, w3⟩ a6
   refine ln (CI a6 w3 (fun p8 a6 => ?_) (fun p8 a6 => ?_))
   ·refine jF (Wh v8 (Wh w1 (Wh w2 (Wh v9 (Wh w0 (bS a6 fun ci s3 a6 => ?_))))))
    refine VE (eD d (Cr Qz Cn) call384 (fun hh => (s6 t y1 b9 R a2 B D f4 _ _ hh j4 (c6.mono (c4.trans d2)) s3)) ?_)
    rintro _ ct df ay d o0 ad ⟨u3, e6, rfl, t2⟩
    obtain rfl := e6.symm
    replace d := d.perm (Tr Tn)
    refine kd (oD ?_)
    have q := sj a6; subst q
    exact nE rfl ⟨_, _, _, rfl, (d.mn (Kr Sn)), ((c4.trans d2).trans o0), ((O.trans P).trans ad), (ST.kX d (mJ.mem (Kr Sn))), u3, rfl, rfl, t2⟩
   refine lE (oD ?_)
   have q := sj a6; subst q
   exact nE rfl ⟨_, _, _, rfl, (d.mn (Kr Sn)), (c4.trans d2), (O.trans P), (ST.kX d (mJ.mem (Kr Sn))), b9, rfl, rfl, j4⟩
  refine bC b2 (fun H b2 => ?_) (fun H b2 => ?_)
  ·refine ug H (jB e1) (ug H (jB g8) (ug H (kC rfl rfl rfl) (V (km (cB H) rfl) ?_)))
   have q := sj b2; subst q
   exact f3 _ _ ⟨_, (d.jr St), m4, g8, m5, g9, e1, rfl⟩
  refine un H (un H (un H (V (kq (cB H) rfl) ?_)))
  have q := sj b2; subst q
  exact f3 _ _ ⟨_, (d.jr St), m4, g8, m5, g9, e1, rfl⟩
theorem ph : ∀ (n : Nat) (c : Value) (k : List Formula) (a : LO) (t : Int) (u : Int) (x : Int) (g : Value) (y : (Formula × Formula) → Option Int) (r : List Formula) (w : World) {i : jN} (H : nD i (a ++ []) w) (B : kk 30 jq 5 i c k a) (D : vW pg0 g i (tY jq jq) (fun (r : Int) => (.int .i64 r)) y) (_ : kL n k t u x y = some r),
  lQ false pg0 384 [c, (.int .i64 t), (.int .i64 u), (.int .i64 x), g] w i (a ++ []) (fun v z G => ∃ j, v = (.tuple #[]) ∧ z = (j ++ []) ∧ kk 30 jq 5 G c r j)
 | 0 => by intros; rename_i h; simp only [kL] at h; cases h
 | n + 1 => uP (kL n) (ph n)
theorem xB (a : Value) (a0 : List Formula) (c : LO) (Q : Int) (x : Value) (f2 : (Formula × Formula) → Option Int) (r : List Formula) (w : World) {μ0 : jN} (h0 : nD μ0 (c ++ []) w) (k4 : kk 30 jq 5 μ0 a a0 c) (c7 : vW pg0 x μ0 (tY jq jq) (fun (r : Int) => (.int .i64 r)) f2) (hm : pR a0 Q f2 = some r) :
  lQ false pg0 375 [a, (.int .i64 Q), x] w μ0 (c ++ []) (fun v L1 μ1 => ∃ S1, v = (.tuple #[]) ∧ L1 = (S1 ++ []) ∧ kk 30 jq 5 μ1 a r S1) := by
 refine uW h0 63 func375 rfl (fun b => sg (Wa (lr (Wm (Wa (Wa (ln (jI (lK (nI (fun m E W => ∃ d4 d0 d5 R d6 f1, jT μ0 d6 ∧ Lo (keys (c ++ [])) w μ0 d6 ∧ ST false (keys (c ++ [])) w W d6 (d0 ++ f1) ∧ E 0 = a ∧ E 1 = (.int .i64 Q) ∧ E 2 = x ∧ E 6 = (.int .i64 20) ∧ E 7 = (.int .i64 d5) ∧ E 8 = (.int .i64 R) ∧ kk 30 jq 5 d6 a d4 d0 ∧ lA Q f2 m d4 d5 R = some r) jP ⟨a0, c, 0, 20, μ0, _, (jT.refl _), Lo.refl, (b.jr St), rfl, rfl, rfl, rfl, rfl, rfl, k4, hm⟩ ?_))))))))))
 rintro m E W ⟨d4, d0, d5, R, d6, f1, z, l, b, b4, b5, b6, d7, f4, b7, h1, i⟩
 cases m with
 | zero => rw [lA] at i; cases i
 | succ k5 =>
  refine jI (sg (Wh b7 (Wh b5 (Wi rfl (ln (CI i rfl (fun i4 i => ?_) (fun i4 i => ?_)))))))
  ·refine kn (bg (Wh b4 (Wh f4 (Wh b7 (Wh b6 (bS i fun k6 i7 i => ?_))))))
   refine VE (eD b (Cr Qz Cn) call383 (fun A => (qF a d4 d0 d5 R x f2 _ _ A h1 (c7.mono z) i7)) ?_)
   rintro _ m4 k8 l8 b g0 L ⟨k1, c8, rfl, j0⟩
   obtain rfl := c8.symm
   replace b := b.perm (Tr Tn)
   refine lr (Wh b7 (Wa (ln (jF (Wh b7 (Wh d7 (Wi rfl (Wa (kd (kl ?_))))))))))
   exact jE ⟨k5, bN _, k6, k1, R, (wi0 .i64 (R + 20)), k8, _, (z.trans g0), (l.trans L), (b.jr St), b4, b5, b6, d7, rfl, rfl, j0, i⟩
  refine nv (mU (mU (rN (jE (sg (Wh b4 (Wh f4 (Wh b5 (Wh b6 (bS i fun k7 i8 i => ?_))))))))))
  refine VE (eD b (Cr Qz Cn) call383 (fun A => (qF a d4 d0 d5 Q x f2 _ _ A h1 (c7.mono z) i8)) ?_)
  rintro _ m5 a8 l9 b a5 O ⟨k2, c9, rfl, j3⟩
  obtain rfl := c9.symm
  replace b := b.perm (Tr Tn)
  refine ln (ur (CJ i (fun d8 E W => ∃ b2 a9 f3, jT a8 a9 ∧ Lo (keys (c ++ [])) w a8 a9 ∧ ST false (keys (c ++ [])) w W a9 (b2 ++ f3) ∧ kk 30 jq 5 a9 a d8 b2) (fun d8 i6 => ?_) ?_))
  ·refine lK (nI (fun m E W => ∃ a2 I j k e0, jT a8 k ∧ Lo (keys (c ++ [])) w a8 k ∧ ST false (keys (c ++ [])) w W k (I ++ e0) ∧ E 0 = a ∧ E 1 = (.int .i64 Q) ∧ E 2 = x ∧ E 6 = (.int .i64 j) ∧ kk 30 jq 5 k a a2 I ∧ lz Q f2 m a2 j = some d8) jP ⟨k7, k2, 20, a8, _, (jT.refl _), Lo.refl, (b.jr St), b4, b5, b6, d7, j3, i6⟩ ?_)
   rintro m E W ⟨a2, I, j, k, e0, B, d, b, h6, e4, h7, b3, d1, t⟩
   cases m with
   | zero => rw [lz] at t; cases t
   | succ j6 =>
    refine jI (sg (Wh b3 (Wh e4 (Wi rfl (ln (CI t rfl (fun f7 t => ?_) (fun f7 t => ?_)))))))
    ·refine kn (bg (Wh b3 (Wi rfl (Wa (Wa (ln (jI (CJ t (fun a4 E W => ∃ J y e1, jT k y ∧ Lo (keys (c ++ [])) w k y ∧ ST false (keys (c ++ [])) w W y (J ++ e1) ∧ E 0 = a ∧ E 1 = (.int .i64 Q) ∧ E 2 = x ∧ E 6 = (.int .i64 j) ∧ E 7 = (.int .i64 a4.2) ∧ kk 30 jq 5 y a a4.1 J) (fun a4 g4 => ?_) ?_))))))))
     ·refine lK (nI (fun m E W => ∃ a3 K M D H e3, jT k H ∧ Lo (keys (c ++ [])) w k H ∧ ST false (keys (c ++ [])) w W H (K ++ e3) ∧ E 0 = a ∧ E 1 = (.int .i64 Q) ∧ E 2 = x ∧ E 6 = (.int .i64 j) ∧ E 7 = (.int .i64 M) ∧ E 8 = (.int .i64 D) ∧ kk 30 jq 5 H a a3 K ∧ lT Q j f2 m a3 M D = some a4) jP ⟨a2, I, 0, (wi0 .i64 (2 * j)), k, _, (jT.refl _), Lo.refl, (b.jr St), h6, e4, h7, b3, rfl, rfl, d1, g4⟩ ?_)
      rintro m E W ⟨a3, K, M, D, H, e3, N, h, b, c2, c3, c4, Y, c5, Z, d3, g⟩
      cases m with
      | zero => rw [lT] at g; cases g
      | succ j7 =>
       refine jI (sg (Wh Z (Wh c3 (Wi rfl (ln (CI g rfl (fun f9 g => ?_) (fun f9 g => ?_)))))))
       ·refine kn (bg (Wh c2 (Wh c5 (Wh c5 (Wh Y (Wi rfl (Wh Z (Wh c4 (bS g fun j8 g8 g => ?_)))))))))
        refine VE (eD b (Cr Qz Cn) call384 (fun A => ((ph jP) a a3 K M (wi0 .i64 (M + j)) D x f2 _ _ A d3 (c7.mono (((z.trans a5).trans B).trans N)) g8)) ?_)
        rintro _ l6 k0 l1 b f0 s ⟨h5, a7, rfl, h3⟩
        obtain rfl := a7.symm
        replace b := b.perm (Tr Tn)
        refine lr (Wh Z (Wa (ln (jF (Wh Z (Wh Y (Wi rfl (Wi rfl (Wa (kd ?_))))))))))
        exact kl (jE ⟨j7, bN _, j8, h5, D, (wi0 .i64 (D + (wi0 .i64 (2 * j)))), k0, _, (N.trans f0), (h.trans s), (b.jr St), c2, c3, c4, Y, rfl, rfl, h3, g⟩)
       refine nv (mU (mU (rN (jE ?_))))
       obtain rfl := sj g
       exact ⟨K, H, _, N, h, (b.jr St), c2, c3, c4, Y, c5, d3⟩
     rintro ⟨j4, e7⟩ E W ⟨J, y, e1, b0, n, b, b9, U, c0, c1, e5, d2⟩ g2
     refine jI (CJ g2 (fun e6 E W => ∃ T G e2, jT y G ∧ Lo (keys (c ++ [])) w y G ∧ ST false (keys (c ++ [])) w W G (T ++ e2) ∧ E 0 = a ∧ E 1 = (.int .i64 Q) ∧ E 2 = x ∧ E 6 = (.int .i64 j) ∧ kk 30 jq 5 G a e6 T) (fun e6 u => ?_) ?_)
     ·refine sg (Wh e5 (Wh c1 (Wi rfl (Wa (lr (Wm (Wh U (Wi rfl (ln ?_)))))))))
      refine CI u rfl (fun f8 u => ?_) (fun f8 u => ?_)
      ·refine jF (Wh b9 (Wh e5 (Wm (Wh U (Wh c0 (bS u fun l4 g7 u => ?_))))))
       refine VE (eD b (Cr Qz Cn) call384 (fun A => ((ph jP) a j4 J e7 (wi0 .i64 (e7 + j)) Q x f2 _ _ A d2 (c7.mono (((z.trans a5).trans B).trans b0)) g7)) ?_)
       rintro _ l5 j9 l0 b e9 q ⟨h4, a6, rfl, h2⟩
       obtain rfl := a6.symm
       replace b := b.perm (Tr Tn)
       refine ln ?_
       obtain rfl := sj u
       exact ⟨h4, j9, _, e9, q, (b.jr St), b9, U, c0, c1, h2⟩
      refine kn ?_
      obtain rfl := sj u
      exact ⟨J, y, _, (jT.refl _), Lo.refl, (b.jr St), b9, U, c0, c1, d2⟩
     rintro j5 E W ⟨T, G, e2, e8, p, b, h8, h9, i0, i1, g9⟩ g3
     exact jF (Wh i1 (Wi rfl (Wa (kd (kl (jE ⟨j6, bN _, j5, T, (wi0 .i64 (j * 2)), G, _, ((B.trans b0).trans e8), ((d.trans n).trans p), (b.jr St), h8, h9, i0, rfl, g9, g3⟩))))))
    refine nv (mU (mU (rN (jE ?_))))
    obtain rfl := sj t
    exact ⟨I, k, _, B, d, (b.jr St), d1⟩
  rintro m3 E W ⟨b2, a9, f3, g1, P, b, i9⟩ i5
  refine oD ?_
  obtain rfl := sj i5
  exact nE rfl ⟨_, _, _, rfl, (b.mn (Kr Sn)), ((z.trans a5).trans g1), ((l.trans O).trans P), (ST.kX b (mJ.mem (Kr Sn))), b2, rfl, rfl, i9⟩
theorem xc (c : Value) (k : List Formula) (a : LO) (i : Value) (u : (Formula × Formula) → Option Int) (r : List Formula) (w : World) {t : jN} (J : nD t (a ++ []) w) (j : kk 30 jq 5 t c k a) (x : vW pg0 i t (tY jq jq) (fun (r : Int) => (.int .i64 r)) u) (hm : nR k u = some r) :
  lQ false pg0 352 [c, i] w t (a ++ []) (fun v I K => ∃ B, v = (.tuple #[]) ∧ I = (B ++ []) ∧ kk 30 jq 5 K c r B) := by
 refine uW J 9 func352 rfl (fun b => jF (Wm (Wm (V (xb aF rfl j) (Wm (bS hm fun Q H hm => ?_))))))
 refine VE (eD b (Cr Qz Cn) call375 (fun h => (xB c k a (k.length : Int) i u _ _ h j (x.mono (jT.refl _)) H)) ?_)
 rintro _ T U M b y d ⟨D, g, rfl, z⟩
 obtain rfl := g.symm
 replace b := b.perm (Tr Tn)
 refine kd (oD ?_)
 obtain rfl := sj hm
 exact nE rfl ⟨_, _, _, rfl, (b.mn (Kr Sn)), y, d, (ST.kX b (mJ.mem (Kr Sn))), D, rfl, rfl, z⟩
theorem qg (t : Nat) (j : Value) (G : List Int) (i : LO) (h : Int) (r : (Bool × (List Int))) (w : World) {μ0 : jN} (A : nD μ0 ((t, Ob #[j] 215) :: (i ++ [])) w) (y : jL 5 (ku .u8) 1 j G i) (hm : np G h = some r) :
  kR true pg0 170 [(.pointer (some ⟨t, 0, none⟩)), (.int .i64 h)] w ((t, Ob #[j] 215) :: (i ++ [])) (fun v L1 W' => ∃ n S2, v = (.bool (r.1)) ∧ L1 = ((t, Ob #[n] 215) :: (S2 ++ [])) ∧ jL 5 (ku .u8) 1 n r.2 S2) := by
 refine zb A 38 func170 rfl (fun d => sg (Wa (lS (Wm (V (sO fL rfl rfl) (Wm (Vg rfl rfl (jB rfl) (Vg rfl rfl (kC rfl rfl rfl) (V (kq rfl rfl) ?_)))))))))
 refine ln (CI hm rfl (fun a9 hm => ?_) (fun a9 hm => ?_))
 ·refine sg (Wa (lt (kZ ?_)))
  obtain rfl := sj hm
  exact kV (v := (.bool false)) rfl rfl ⟨_, _, rfl, (d.mn (Kb (Kr Sn))), j, i, rfl, rfl, y⟩
 refine kn (jI (lK (nI (fun m E W => ∃ c z U u a0, ST true (keys ((t, Ob #[j] 215) :: (i ++ []))) w W μ0 ((t, Ob #[z] 215) :: (u ++ a0)) ∧ E 0 = (.pointer (some ⟨t, 0, none⟩)) ∧ E 1 = (.int .i64 c) ∧ jL 5 (ku .u8) 1 z U u ∧ oU m c U = some r) jP ⟨h, j, G, i, _, (d.jr St), rfl, rfl, y, hm⟩ ?_)))
 rintro m E W ⟨c, z, U, u, a0, d, x, K, T, g⟩
 cases m with
 | zero => rw [oU] at g; cases g
 | succ s =>
  refine jI (sg (Wh K (Wi rfl (ln (CI g rfl (fun p g => ?_) (fun p g => ?_))))))
  ·refine kn (jI (lK (jF (Wh x (Wh x (Wn (Wf xV (VB d Mh rfl rfl iA (Wh K (V (rD (k' := .i64) (a := c) er jf rfl) (V (N5 (k := .u8) (a := (IntKind.u8.wrap c)) (b := 128) (v := (.int .u8 (IntKind.u8.wrap (BitVec.ofInt (IntKind.bits .u8) (IntKind.u8.wrap c) ||| BitVec.ofInt (IntKind.bits .u8) 128).toNat))) rfl rfl dc rfl) (VE (jX (cs := [(.int .u8 (IntKind.u8.wrap (BitVec.ofInt (IntKind.bits .u8) (IntKind.u8.wrap c) ||| BitVec.ofInt (IntKind.bits .u8) 128).toNat))].toArray) d (mh rfl) (mA dn sizeOf5 zeroValue5) (fun c3 q d => ?_))))))))))))))
   replace d := d.perm (Nr (Qb (Qb Qz)) Nz)
   refine bS g fun Q Y g => VE (oh (enc := (ku .u8)) (v := z) (vs := (.slice (some ⟨q, 0, none⟩) 1 1)) (R := u) d (fun _ => rfl) dc (DL _) dn tf.1 tf.2.1 rfl tf.2.2.1 tf.2.2.2 rfl rfl T (Sl.lit (enc := (ku .u8)) (l := [(IntKind.u8.wrap (BitVec.ofInt (IntKind.bits .u8) (IntKind.u8.wrap c) ||| BitVec.ofInt (IntKind.bits .u8) 128).toNat)]) (fun _ => rfl) rfl nb rfl (d.at_ (Ma Mh))) Y (fun L c1 a2 d M => Wn (Wf xV ?_)))
   obtain ⟨B, H, rfl⟩ := M.form
   replace d := d.perm (Nb (Pr (Pb Pz)) Nz)
   refine VO (jM (.slice B Q.length H) (#[(.slice B Q.length H)]) d rfl rfl ib oc nb rfl (fun O d => kd (kl (jE ?_))))
   replace d := d.jr (Kb (Kr (Db St)))
   exact jF (Wh K (V (FX (a := c) (b := 7) rfl rfl dc) (Wa (ln ⟨s, bN _, (Int.fdiv c (2 ^ min (Int.toNat 7) (IntKind.bits .i64))), (.slice B Q.length H), Q, a2, _, (d.jr St), x, rfl, M, g⟩))))
  refine nv (mU (mU (rN (jE (sg (Wh x (Wh x (Wn (Wf xV (VB d Mh rfl rfl iA (Wh K (V (rD (k' := .i64) (a := c) er jf rfl) (VE (jX (cs := [(.int .u8 (IntKind.u8.wrap c))].toArray) d (mh rfl) (mA dn sizeOf5 zeroValue5) (fun P a5 d => ?_)))))))))))))))
  replace d := d.perm (Nr (Qb (Qb Qz)) Nz)
  refine bS g fun J Z g => VE (oh (enc := (ku .u8)) (v := z) (vs := (.slice (some ⟨a5, 0, none⟩) 1 1)) (R := u) d (fun _ => rfl) dc (DL _) dn tf.1 tf.2.1 rfl tf.2.2.1 tf.2.2.2 rfl rfl T (Sl.lit (enc := (ku .u8)) (l := [(IntKind.u8.wrap c)]) (fun _ => rfl) rfl nb rfl (d.at_ (Ma Mh))) Z (fun b7 c2 a3 d N => Wn (Wf xV ?_)))
  obtain ⟨D, I, rfl⟩ := N.form
  replace d := d.perm (Nb (Pr (Pb Pz)) Nz)
  refine VO (jM (.slice D J.length I) (#[(.slice D J.length I)]) d rfl rfl ib oc nb rfl (fun b9 d => ln ?_))
  replace d := d.jr (Kb (Kr (Db St)))
  refine sg (Wa (lt ?_))
  obtain rfl := sj g
  exact kV (v := (.bool true)) rfl rfl ⟨_, _, rfl, (d.mn (Kb (Kr Sn))), (.slice D J.length I), a3, rfl, rfl, N⟩
theorem D7 (g : Nat) (c : Value) (j : List Int) (a : LO) (u : Value) (D : List Int) (r : (Bool × (List Int))) (w : World) {Z : jN} (h : nD Z ((g, Ob #[c] 215) :: (a ++ [])) w) (i : jL 5 (ku .u8) 1 c j a) (k : Sl (Pl (ku .u8)) 1 Z u D) (hm : vP j D = some r) :
  kR true pg0 171 [(.pointer (some ⟨g, 0, none⟩)), u] w ((g, Ob #[c] 215) :: (a ++ [])) (fun v L1 W' => ∃ U M, v = (.bool (r.1)) ∧ L1 = ((g, Ob #[U] 215) :: (M ++ [])) ∧ jL 5 (ku .u8) 1 U r.2 M) := by
 refine zb h 25 func171 rfl (fun b => sg (Wa (lS (Wm (V (sO fL rfl rfl) (Wm (Vg rfl rfl (jB rfl) (Vg rfl rfl (lR dn rfl k) (Vg rfl rfl (kC rfl rfl rfl) ?_)))))))))
 refine V (kq rfl rfl) (ln (CI hm rfl (fun Q hm => ?_) (fun Q hm => ?_)))
 ·refine sg (Wa (lt (kZ ?_)))
  obtain rfl := sj hm
  exact kV (v := (.bool false)) rfl rfl ⟨_, _, rfl, (b.mn (Kb (Kr Sn))), c, a, rfl, rfl, i⟩
 refine kg (Wm (Wm (V (lR dn rfl k) (bS hm fun q T hm => ?_))))
 refine VE (eM b (Cb Pz (Cr Qz Cn)) call170 (fun l _ => (qg g c j a (D.length : Int) _ _ l i T)) ?_)
 rintro _ v8 n a3 b H m d ⟨Y, K, t, rfl, I⟩
 obtain rfl := t.symm
 replace b := b.perm (Tb (Tr Tn))
 refine lr (Wm (Wm (Wn (Wf xV (VB b Mh rfl rfl iA (Wm ?_))))))
 replace b := b.perm (Nr (Qb Qz) Nz)
 refine bS hm fun B G hm => VE (oh (enc := (ku .u8)) (v := Y) (vs := u) (R := K) b (fun _ => rfl) dc (DL _) dn tf.1 tf.2.1 rfl tf.2.2.1 tf.2.2.2 rfl rfl I (k.mono (Pl.mono _) (H.trans b.jx)) G (fun a4 p J b z => Wn (Wf xV ?_)))
 obtain ⟨x, y, rfl⟩ := z.form
 replace b := b.perm (Nb (Pr Pz) Nz)
 refine VO (jM (.slice x B.length y) (#[(.slice x B.length y)]) b rfl rfl ib oc nb rfl (fun a5 b => lr (Wa (lt ?_))))
 obtain rfl := sj hm
 exact kV (v := (.bool true)) rfl rfl ⟨_, _, rfl, (b.mn (Kb (Kr Sn))), (.slice x B.length y), J, rfl, rfl, z⟩
theorem xk (j : Nat) (c : Value) (t : List Int) (a : LO) (J : ByteArray) (r : (Bool × (List Int))) (w : World) {Z : jN} (A : nD Z ((j, Ob #[c] 215) :: (a ++ [])) w) (k : jL 5 (ku .u8) 1 c t a) (hm : rV t J = some r) :
  kR true pg0 213 [(.pointer (some ⟨j, 0, none⟩)), (.string J)] w ((j, Ob #[c] 215) :: (a ++ [])) (fun v L1 W' => ∃ n S2, v = (.bool (r.1)) ∧ L1 = ((j, Ob #[n] 215) :: (S2 ++ [])) ∧ jL 5 (ku .u8) 1 n r.2 S2) := by
 refine zb A 17 func213 rfl (fun b => sg (Wa (lr (Wm (V (Cl fL rfl rfl) (Wm (Vg rfl rfl (jB rfl) (bS hm fun r1 a4 hm => My rfl rfl (Eg b call93 (uQ J _ _  a4) (fun W3 b => V (km rfl rfl) ?_))))))))))
 refine Wm (LJ hm (fun B E W => ∃ z x D I, jT Z D ∧ ST true (keys ((j, Ob #[c] 215) :: (a ++ []))) w W D ((j, Ob #[z] 215) :: (x ++ I)) ∧ E 4 = (.bool false) ∧ E 16 = (.bool B.1) ∧ jL 5 (ku .u8) 1 z B.2 x) 5 ?_ (fun B g y => ?_))
 ·rintro ⟨q, c0⟩ E W ⟨z, x, D, I, O, b, b9, a3, T⟩ M
  refine Wg a3 (lt ?_)
  obtain rfl := sj M
  exact kV (v := (.bool q)) rfl rfl ⟨_, _, rfl, (b.mn (Kb (Kr Sn))), z, x, rfl, rfl, T⟩
 refine bC g (fun i g => ?_) (fun i g => ?_)
 ·refine ug i (jB rfl) (ug i (jB rfl) (bS g fun a5 N g => vH i (Hg b cH dn jf rfl N (fun b6 p c3 b G l U P => bS g fun c1 Q g => ?_))))
  refine vH i (eM b (Cb Pz (Cr Qz Cn)) call171 (fun L h => (D7 j c t a p a5 _ _ L k (U.mono (Pl.mono _) h) Q)) ?_)
  rintro _ c2 s R b H m d ⟨a9, a2, u, rfl, Y⟩
  obtain rfl := u.symm
  replace b := b.perm (Tb (Tr Tn))
  refine V (km (cB i) rfl) ?_
  obtain rfl := sj g
  exact y _ _ ⟨a9, a2, s, _, (G.trans H), (b.jr St), rfl, rfl, Y⟩
 refine un i (un i (un i (un i (V (kq (cB i) rfl) ?_))))
 obtain rfl := sj g
 exact y _ _ ⟨c, a, Z, _, (jT.refl _), (b.jr St), rfl, rfl, k⟩
theorem tK (c : Nat) (i : Value) (D : List Int) (a : LO) (x : jl) (r : (Bool × (List Int))) (w : World) {μ0 : jN} (h0 : nD μ0 ((c, Ob #[i] 215) :: (a ++ [])) w) (y : jL 5 (ku .u8) 1 i D a) (hm : oV D x = some r) :
  kR true pg0 212 [(.pointer (some ⟨c, 0, none⟩)), (.agg (jw x).toArray)] w ((c, Ob #[i] 215) :: (a ++ [])) (fun v L1 W' => ∃ q S2, v = (.bool (r.1)) ∧ L1 = ((c, Ob #[q] 215) :: (S2 ++ [])) ∧ jL 5 (ku .u8) 1 q r.2 S2) := by
 let l := ((c, Ob #[i] 215) :: (a ++ []))
 refine zb h0 23 func212 rfl (fun b => sg (VE (kx b rfl (fun W2 m b => Wa (lr (Wm (V (Cl fL rfl rfl) (Wm (Vg rfl rfl (jt rfl (jD b.has Mh (jw x) rfl bX bG)) (bS hm fun r3 c4 hm => My rfl rfl (Eg b jj (rZ x _ _  c4) (fun W5 b => ?_))))))))))))
 refine V (km rfl rfl) (Wm (LJ hm (fun T E W => ∃ z u B a0, jT μ0 B ∧ ST true (keys l) w W B ((m, Ol (jw x) 27) :: ((c, Ob #[z] 215) :: (u ++ a0))) ∧ E 0 = (.pointer (some ⟨c, 0, none⟩)) ∧ E 3 = (.pointer (some ⟨m, 0, none⟩)) ∧ E 4 = (.bool false) ∧ E 16 = (.bool T.1) ∧ jL 5 (ku .u8) 1 z T.2 u) 5 ?_ (fun T t K => ?_)))
 ·rintro ⟨e6, c5⟩ E W ⟨z, u, B, a0, d2, b, c0, c1, a3, c2, N⟩ s
  refine Wh c2 (LJ s (fun Q E W => ∃ M I U a2, jT B U ∧ ST true (keys l) w W U ((c, Ob #[M] 215) :: (I ++ a2)) ∧ E 4 = (.bool false) ∧ E 22 = (.bool Q.1) ∧ jL 5 (ku .u8) 1 M Q.2 I) 5 ?_ (fun Q k J => ?_))
  ·rintro ⟨c6, e1⟩ E W ⟨M, I, U, a2, d3, b, e0, c3, O⟩ A
   refine Wg c3 (lt ?_)
   obtain rfl := sj A
   exact kV (v := (.bool c6)) rfl rfl ⟨_, _, rfl, (b.mn (Kb (Kr Sn))), M, I, rfl, rfl, O⟩
  refine bC k (fun g k => ?_) (fun g k => ?_)
  ·refine ug g (jB c0) (ug g (jy vS c1) (ug g (jt rfl (jJ b.has Mh rfl cL)) (bS k fun e2 L k => ?_)))
   refine vH g (eM b (Cb (Pb Pz) (Cr (Qb Qz) Cn)) call213 (fun h _ => (xk c z c5 u x.Word _ _ h N L)) ?_)
   rintro _ e4 d0 d6 b Y n d ⟨c8, b6, G, rfl, P⟩
   obtain rfl := G.symm
   replace b := b.perm (Tb (Tr Tn))
   refine V (km (cB g) rfl) ?_
   obtain rfl := sj k
   exact J _ _ ⟨c8, b6, d0, _, Y, (b.jr (Kb (Kr (Db St)))), a3, rfl, P⟩
  refine un g (un g (un g (un g (V (kq (cB g) rfl) ?_))))
  obtain rfl := sj k
  exact J _ _ ⟨z, u, B, _, (jT.refl _), (b.jr (Db St)), a3, rfl, N⟩
 refine bC t (fun j t => ?_) (fun j t => ?_)
 ·refine ug j (jB rfl) (ug j (jy uh rfl) (ug j (jt rfl (jJ b.has Mh rfl cL)) (bS t fun e3 a9 t => ?_)))
  refine vH j (eM b (Cb (Pb Pz) (Cr (Qb Qz) Cn)) call213 (fun h _ => (xk c i D a x.jo _ _ h y a9)) ?_)
  rintro _ e5 d1 d7 b Z p d ⟨c9, b7, H, rfl, R⟩
  obtain rfl := H.symm
  replace b := b.perm (Tb (Tr Tn))
  refine V (km (cB j) rfl) ?_
  obtain rfl := sj t
  exact K _ _ ⟨c9, b7, d1, _, Z, (b.jr (Sb (Pb (Pr Pz)) St)), rfl, rfl, rfl, rfl, R⟩
 refine un j (un j (un j (un j (V (kq (cB j) rfl) ?_))))
 obtain rfl := sj t
 exact K _ _ ⟨i, a, μ0, _, (jT.refl _), (b.jr St), rfl, rfl, rfl, rfl, y⟩
theorem Ci (A : (List Int) → Formula → Option (List Int)) (f2 : ∀ (a : Nat) (k : Value) (B : List Int) (g : LO) (j : Formula) (u : Value) (r : List Int) (w : World) {μ0 : jN} (h0 : nD μ0 ((a, Ob #[k] 215) :: (g ++ [])) w) (T : jL 5 (ku .u8) 1 k B g) (t : Sl jq 5 μ0 u j.Kids), A B j = some r → kR false pg0 390 [(.pointer (some ⟨a, 0, none⟩)), (.agg #[(.int .i64 j.Op), (.int .i64 j.K), (.string j.jl.jo), (.string j.jl.Word), u])] w ((a, Ob #[k] 215) :: (g ++ [])) (fun v L1 W' => ∃ m S2, v = (.tuple #[]) ∧ L1 = ((a, Ob #[m] 215) :: (S2 ++ [])) ∧ jL 5 (ku .u8) 1 m r S2)) (a : Nat) (k : Value) (B : List Int) (g : LO) (j : Formula) (u : Value) (r : List Int) (w : World) {μ0 : jN} (h0 : nD μ0 ((a, Ob #[k] 215) :: (g ++ [])) w) (T : jL 5 (ku .u8) 1 k B g) (t : Sl jq 5 μ0 u j.Kids) (hm : ua A B j = some r) :
  kR false pg0 390 [(.pointer (some ⟨a, 0, none⟩)), (.agg #[(.int .i64 j.Op), (.int .i64 j.K), (.string j.jl.jo), (.string j.jl.Word), u])] w ((a, Ob #[k] 215) :: (g ++ [])) (fun v L1 W' => ∃ m S2, v = (.tuple #[]) ∧ L1 = ((a, Ob #[m] 215) :: (S2 ++ [])) ∧ jL 5 (ku .u8) 1 m r S2) := by
 let b0 := ((a, Ob #[k] 215) :: (g ++ []))
 refine zb h0 40 func390 rfl (fun b => sg ?_)
 obtain ⟨A1, c2, rfl⟩ := t.form
 refine VE (kx b rfl (fun W4 b3 b => lr (Wm (Wf sa (VB b Mh rfl rfl cO (bS hm fun r5 g8 hm => ?_))))))
 refine VE (eM b (Cb (Pb Pz) (Cr (Qb Qz) Cn)) call170 (fun l _ => kR.lX (qg a k B g j.Op _ _ l T g8)) ?_)
 rintro _ j8 n j0 b e9 ae d ⟨L, a9, a2, rfl, a5⟩
 obtain rfl := a2.symm
 replace b := b.perm (Tb (Tr Tn))
 refine lS (Wf sa (VB b (Mt (Ma Mh)) rfl rfl cO (Wi rfl (ln (CI hm rfl (fun e8 hm => ?_) (fun e8 hm => ?_))))))
 ·refine sg (Wm (Wf xu (VA b (Mt (Ma Mh)) (jw j.jl) bX bG (bS hm fun j7 f0 hm => ?_))))
  refine VE (eM b (Cb Pz (Cr Qz Cn)) call212 (fun l _ => kR.lX (tK a L r5.2 a9 j.jl _ _ l a5 f0)) ?_)
  rintro _ j9 k1 j3 b h6 af d ⟨h3, g2, a3, rfl, f4⟩
  obtain rfl := a3.symm
  replace b := b.perm (Tb (Tr Tn))
  refine ln ?_
  replace b := b.jr (Kb (Kr (Db St)))
  refine ky (kZ ?_)
  obtain rfl := sj hm
  exact nE rfl ⟨_, _, rfl, (b.mn (Kb (Kr Sn))), h3, g2, rfl, rfl, f4⟩
 refine kn (jI (CJ hm (fun b5 E W => ∃ q p O d6, jT n O ∧ ST false (keys b0) w W O ((a, Ob #[q] 215) :: ((b3, Ol (C1 j.Op j.K j.jl.jo j.jl.Word A1 j.Kids.length c2) 30) :: (p ++ d6))) ∧ E 0 = (.pointer (some ⟨a, 0, none⟩)) ∧ E 3 = (.pointer (some ⟨b3, 0, none⟩)) ∧ jL 5 (ku .u8) 1 q b5 p) (fun b5 y => ?_) ?_))
 ·refine sg (Wf sa (VB b (Mt (Ma Mh)) rfl rfl cO (Wi rfl (ln (CI y rfl (fun c4 y => ?_) (fun c4 y => ?_))))))
  ·refine jF (Wm (Wf xA (VB b (Mt (Ma Mh)) rfl rfl cO (bS y fun i6 d0 y => ?_))))
   refine VE (eM b (Cb Pz (Cr Qz Cn)) call170 (fun l _ => kR.lX (qg a L r5.2 a9 j.K _ _ l a5 d0)) ?_)
   rintro _ i9 g1 h9 b b2 ab d ⟨f9, e3, N, rfl, d5⟩
   obtain rfl := N.symm
   replace b := b.perm (Tb (Tr Tn))
   refine ln ?_
   obtain rfl := sj y
   exact ⟨f9, e3, g1, _, b2, (b.jr (Kb (Sb (Pr Pz) St))), rfl, rfl, d5⟩
  refine kn ?_
  obtain rfl := sj y
  exact ⟨L, a9, n, _, (jT.refl _), (b.jr (Kb (Sb (Pr Pz) St))), rfl, rfl, a5⟩
 rintro g9 E W ⟨q, p, O, d6, c6, b, d7, d8, f3⟩ a0
 refine sg (Wh d7 (V (jy re d8) (VB b (Mt Mh) rfl rfl eZ (V (lR aF rfl t) (bS a0 fun h2 f1 a0 => ?_)))))
 refine VE (eM b (Cb Pz (Cr (Qb Qz) Cn)) call170 (fun l _ => kR.lX (qg a q g9 p (j.Kids.length : Int) _ _ l f3 f1)) ?_)
 rintro _ k0 d9 j4 b c7 ag d ⟨h4, g3, a4, rfl, f5⟩
 obtain rfl := a4.symm
 replace b := b.perm (Tb (Tr Tn))
 refine lr (V (jy re d8) (VB b (Mt (Ma Mh)) rfl rfl eZ (V (lR aF rfl t) (Wm (ln ?_)))))
 replace b := b.jr (Kb (Kr (Db St)))
 refine ur (lh (fun i E W => ∃ D H z Q U, (E 32 = .int .i64 (i : Nat) ∧ E 31 = .int .i64 (j.Kids.length : Nat)) ∧ jT d9 Q ∧ ST false (keys b0) w W Q ((a, Ob #[D] 215) :: (z ++ U)) ∧ E 0 = (.pointer (some ⟨a, 0, none⟩)) ∧ E 30 = (.slice A1 j.Kids.length c2) ∧ jL 5 (ku .u8) 1 D H z ∧ pq A (j.Kids.drop i) H = some r) j.Kids.length t.len ⟨h4, h2.2, g3, d9, _, ⟨rfl, rfl⟩, (jT.refl _), (b.jr St), d7, rfl, f5, a0⟩ dc dc dc (fun _ _ _ h => by obtain ⟨_, _, _, _, _, R, _⟩ := h; exact R) ?_ ?_)
 ·rintro f6 E W c5 ⟨D, H, z, Q, U, ⟨P, eN⟩, G, b, Y, Z, K, x⟩
  obtain ⟨c, h7, d2, d1, d3⟩ := kM c5
  rw [d2] at x
  refine bg (VQ (mo (i := (f6 : Int)) (x0 := c) jq.out aF aD Z P (t.mono jC.mono (((e9.trans c6).trans c7).trans G)) (aP _) d1) (fun i5 ⟨_, ⟨i7, rfl, a7⟩, c8⟩ => V (jt rfl (jW b.has c8 bB aD)) (VE (kB b bJ (fun i0 i4 b => ?_)))))
  obtain ⟨I, J, rfl⟩ := a7.form
  let s := (C1 c.Op c.K c.jl.jo c.jl.Word I c.Kids.length J)
  refine VO (jM (.agg s.toArray) (s.toArray) b rfl rfl aD oc nb rfl (fun i1 b => ln (jF (Wh Y (VA b Mh s bB aD (bS x fun f7 c9 x => ?_))))))
  refine VE (eM b (Cb (Pb Pz) (Cr (Qb Qz) Cn)) call390 (fun l ad => (f2 a D H z c (.slice I c.Kids.length J) _ _ l K (a7.mono jC.mono ad) c9)) ?_)
  rintro _ i8 g0 h8 b b1 aa d ⟨f8, e2, M, rfl, d4⟩
  obtain rfl := M.symm
  replace b := b.perm (Tb (Tr Tn))
  refine kd (kl (jE ?_))
  replace b := b.jr (Kb (Kr (Db St)))
  exact ⟨P, f8, f7, e2, g0, _, ⟨rfl, eN⟩, (G.trans b1), (b.jr St), Y, Z, d4, (by rw [d3]; exact x)⟩
 rintro E W ⟨D, H, z, Q, U, ⟨P, eN⟩, G, b, Y, Z, K, x⟩
 rw [aU] at x
 refine jE (oD ?_)
 obtain rfl := sj x
 exact nE rfl ⟨_, _, rfl, (b.mn (Kb (Kr Sn))), D, z, rfl, rfl, K⟩
theorem AJ : ∀ (n : Nat) (i : Nat) (g : Value) (k : List Int) (c : LO) (j : Formula) (a : Value) (r : List Int) (w : World) {z : jN} (D : nD z ((i, Ob #[g] 215) :: (c ++ [])) w) (x : jL 5 (ku .u8) 1 g k c) (t : Sl jq 5 z a j.Kids) (_ : oM n k j = some r),
  kR false pg0 390 [(.pointer (some ⟨i, 0, none⟩)), (.agg #[(.int .i64 j.Op), (.int .i64 j.K), (.string j.jl.jo), (.string j.jl.Word), a])] w ((i, Ob #[g] 215) :: (c ++ [])) (fun v B W' => ∃ y u, v = (.tuple #[]) ∧ B = ((i, Ob #[y] 215) :: (u ++ [])) ∧ jL 5 (ku .u8) 1 y r u)
 | 0 => by intros; rename_i h; simp only [oM] at h; cases h
 | n + 1 => Ci (oM n) (AJ n)
theorem Fm (k : Nat) (i : Value) (u : List Int) (c : LO) (a : Formula) (j : Value) (r : (Bool × (List Int))) (w : World) {Q : jN} (Y : nD Q ((k, Ob #[i] 215) :: (c ++ [])) w) (t : jL 5 (ku .u8) 1 i u c) (g : Sl jq 5 Q j a.Kids) (hm : uI u a = some r) :
  kR false pg0 385 [(.pointer (some ⟨k, 0, none⟩)), (.agg #[(.int .i64 a.Op), (.int .i64 a.K), (.string a.jl.jo), (.string a.jl.Word), j])] w ((k, Ob #[i] 215) :: (c ++ [])) (fun v U W' => ∃ M I, v = (.bool (r.1)) ∧ U = ((k, Ob #[M] 215) :: (I ++ [])) ∧ jL 5 (ku .u8) 1 M r.2 I) := by
 refine zb Y 15 func385 rfl (fun b => sg ?_)
 obtain ⟨y, z, rfl⟩ := g.form
 let B := (C1 a.Op a.K a.jl.jo a.jl.Word y a.Kids.length z)
 refine VE (kx b rfl (fun W4 n b => Wa (lS (Wm (V (sO fL rfl rfl) (Wm (Vg rfl rfl (jt rfl (jD b.has Mh B rfl bB aD)) (bS hm fun p K hm => My rfl rfl (Eg b call129 (uC a (.slice y a.Kids.length z) _ _ (g.mono jC.mono b.jx) K) (fun W7 b => Vg rfl rfl (pA rfl) (V (kq rfl rfl) ?_)))))))))))
 refine ln (CI hm rfl (fun J hm => ?_) (fun J hm => ?_))
 ·refine sg (Wa (ln ?_))
  replace b := b.jr (Db St)
  refine ky (kZ ?_)
  obtain rfl := sj hm
  exact kV (v := (.bool false)) rfl rfl ⟨_, _, rfl, (b.mn (Kb (Kr Sn))), i, c, rfl, rfl, t⟩
 refine kg (Wm (VA b Mh B bB aD (bS hm fun q D hm => ?_)))
 refine VE (eM b (Cb (Pb Pz) (Cr (Qb Qz) Cn)) call390 (fun m h => ((AJ jP) k i u c a (.slice y a.Kids.length z) _ _ m t (g.mono jC.mono h) D)) ?_)
 rintro _ a2 a3 Z b T l d ⟨N, H, x, rfl, G⟩
 obtain rfl := x.symm
 replace b := b.perm (Tb (Tr Tn))
 refine ln ?_
 replace b := b.jr (Kb (Kr (Db St)))
 refine sg (Wa (lt ?_))
 obtain rfl := sj hm
 exact kV (v := (.bool true)) rfl rfl ⟨_, _, rfl, (b.mn (Kb (Kr Sn))), N, H, rfl, rfl, G⟩
theorem Ho (g : Value) (i r : List Int) (w : World) (a : Sl (Pl (ku .u8)) 1 (hp w) g i) (hm : sC i = some r) :
  mi true pg0 234 [g] w 5 (ku .u8) 1 r := by
 unfold sC at hm
 refine vV 8 func234 rfl (fun b => sg (Wa (lS (Wm ?_))))
 obtain ⟨y, B, rfl⟩ := a.form
 refine V (Ao dn rfl rfl) (ln ?_)
 rcases y with _ | z
 ·have u := a.isNil
  replace hm : some [] = some r := by rw [u] at hm; simpa [lC, maxLen] using hm
  refine vl (rfl) (sg (Wa (lt (kZ ?_))))
  obtain rfl := sj hm
  exact kV (v := (.slice none 0 0)) rfl rfl ⟨_, [], rfl, b.nF (fun p d => by cases d) (by simp), jL.nil _ _ _⟩
 ·refine pF (rfl) (kg (VE (jX (cs := #[]) b tJ (BL [] dn sizeOf5 zeroValue5 dc rfl (by simp) rfl rfl) (fun G k b => Wm (bS hm fun H t hm => VE (oh (enc := (ku .u8)) (v := (.slice (some ⟨k, 0, none⟩) 0 0)) (vs := (.slice (some z) i.length B)) (R := [(k, Ob #[] 5)]) b (fun _ => rfl) dc (DL _) dn tf.1 tf.2.1 rfl tf.2.2.1 tf.2.2.2 rfl rfl (jL.lit (l := []) (enc := (ku .u8)) rfl dc rfl rfl) (a.mono (Pl.mono _) b.jx) t (fun D x j b c => Wa (lt ?_))))))))
  obtain rfl := sj hm
  exact kV (v := x) rfl rfl ⟨_, j, rfl, b.nF (fun p d => (Ml d)) c.nd, c⟩
theorem zM (g : Nat) (a : Value) (c r : List Int) (w : World) (j : Sl (Pl (ku .u8)) 1 (hp w) a c) (k : At (hp w) (.pointer (some ⟨g, 0, none⟩)) [a]) (hm : rU c = some r) :
  mi true pg0 173 [(.pointer (some ⟨g, 0, none⟩))] w 5 (ku .u8) 1 r := by
 refine vV 10 func173 rfl (fun b => sg (Wa (lS (Wm (V (sO fL rfl rfl) (ln (pF rfl (lE ?_))))))))
 refine jE (sg (Wm (Wn (VQ (rC [a] xV rfl k rfl) (fun G u => V (jt rfl (nV b.has (y := a) u iA)) (bS hm fun H x hm => VE (tb b call234 (Ho a c _ _ (j.mono (Pl.mono _) b.jx) x) (fun D z I t b B d i => Wa (lt ?_)))))))))
 obtain rfl := sj hm
 exact kV (v := z) rfl rfl ⟨_, t, rfl, b.nF (fun p h => (Ml h)) i.nd, i⟩
theorem zf (a : Formula) (g : Value) (r : List Int) (w : World) (c : Sl jq 5 (hp w) g a.Kids) (hm : rh a = some r) :
  mi false pg0 376 [(.agg #[(.int .i64 a.Op), (.int .i64 a.K), (.string a.jl.jo), (.string a.jl.Word), g])] w 5 (ku .u8) 1 r := by
 refine vV 11 func376 rfl (fun d => sg ?_)
 obtain ⟨k, t, rfl⟩ := c.form
 refine VE (kx d rfl (fun W4 u d => Wa (lr (V (mE (v := (.agg #[(.slice none 0 0)])) tJ (lO zeroValue215 fJ (N3 _ fJ) kr)) (VE (kx d rfl (fun W6 B d => Wa (lr (Wm (VA d (Mt Mh) (C1 a.Op a.K a.jl.jo a.jl.Word k a.Kids.length t) bB aD ?_))))))))))
 refine bS hm fun K D hm => ?_
 refine VE (eM d (Cb Pz (C0 Cn)) call385 (fun s m => (Fm B (.slice none 0 0) ([]) [] a (.slice k a.Kids.length t) _ _ s (jL.nil _ _ _) (c.mono jC.mono m) D)) ?_)
 rintro _ U Y M d I n h ⟨H, N, i, rfl, y⟩
 obtain rfl := i.symm
 replace d := d.perm (Tb (Tr Tn))
 refine ln ?_
 replace d := d.jr (Kb (Kr (Db St)))
 refine sg (Wm (bS hm fun T x hm => VE (tb d call173 (mi.lX (zM B H K.2 _ _ (y.sl (fun _ => rfl) (fun b o l => d.at_ (Mt (Ml l)))) (At.of (d.at_ Mh) _ rfl) x)) (fun Q G Z z d J q j => Wa (ln ?_)))))
 replace d := d.jr (Kr (Db (Dr St)))
 refine ky ?_
 obtain rfl := sj hm
 exact kV (v := G) rfl rfl ⟨_, z, rfl, d.nF (fun p l => (Ml l)) j.nd, j⟩
theorem Ql (w : World) {d h : Value} {a b : List Int} (h1 : Sl (Pl (ku .u8)) 1 (hp w) d a) (i : Sl (Pl (ku .u8)) 1 (hp w) h b) : (callFunc 211 [d, h].toArray).run pg0 w = .ok (.value (.int .i64 (wO a b))) w := Nw func211 (by kernel_rfl) (by kernel_rfl) (by kernel_rfl) (by kernel_rfl) h1 i
theorem Ax (a : Value) (g : List Int) (c : Value) (i : List Int) (r : Int) (w : World) (j : Sl (Pl (ku .u8)) 1 (hp w) a g) (k : Sl (Pl (ku .u8)) 1 (hp w) c i) (hm : uN g i = some r) :
  kf true pg0 151 [a, c] w (.int .i64 r) := by
 exact cG 8 func151 rfl (fun b => sg (Wa (lr (Wm (Wm (VE (HA (args := [a, c]) (v := .int .i64 (wO g i)) rfl (by exact vC rfl rfl) (Ql _ (j.mono (Pl.mono _) b.jx) (k.mono (Pl.mono _) b.jx)) (Wa (lt (rQ hm b))))))))))
theorem D5 (a : Formula) (j : Value) (c : Formula) (k : Value) (r : Int) (w : World) (g : Sl jq 5 (hp w) j a.Kids) (i : Sl jq 5 (hp w) k c.Kids) (hm : rb a c = some r) :
  kf false pg0 353 [(.agg #[(.int .i64 a.Op), (.int .i64 a.K), (.string a.jl.jo), (.string a.jl.Word), j]), (.agg #[(.int .i64 c.Op), (.int .i64 c.K), (.string c.jl.jo), (.string c.jl.Word), k])] w (.int .i64 r) := by
 refine cG 10 func353 rfl (fun d => sg ?_)
 obtain ⟨x, z, rfl⟩ := g.form
 refine VE (kx d rfl (fun W4 q d => ?_))
 obtain ⟨y, B, rfl⟩ := i.form
 refine VE (kx d rfl (fun W8 s d => Wa (ln (jI ?_))))
 replace d := d.drew
 have h := d.has.jr (Kb (Kb Sn))
 refine kG h jY (XH 0 rfl h (fun _ l => jt rfl (jD l (Mt Mh) (C1 a.Op a.K a.jl.jo a.jl.Word x a.Kids.length z) rfl bB aD)) (XH 2 rfl h (fun _ l => jt rfl (jD l Mh (C1 c.Op c.K c.jl.jo c.jl.Word y c.Kids.length B) rfl bB aD)) (bS hm fun K H hm => XE 1 rfl (tb d call376 (zf a (.slice x a.Kids.length z) _ _ (g.mono jC.mono d.jx) H) (fun Y N a4 T d t n D => ?_)))))
 have h := d.has.rY t (Dr (Kb (Kb Sn)))
 refine ⟨h, (bS hm fun M I hm => XE 3 rfl (tb d call376 (zf c (.slice y c.Kids.length B) _ _ (i.mono jC.mono (t.trans d.jx)) I) (fun Z Q a5 U d u p G => ?_)))⟩
 have h := d.has.rY (t.trans u) (Dr (Dr (Kb (Kb Sn))))
 refine ⟨h, (bS hm fun a3 J hm => XE 4 rfl (Eg d call151 (kf.lX (Ax N K Q M _ _ (D.sl (fun _ => rfl) (fun b o m => d.at_ (Ma (Ml m)))) (G.sl (fun _ => rfl) (fun b o m => d.at_ (Ml m))) J)) (fun a2 d => ?_)))⟩
 have h := d.has.rY (t.trans u) (Dr (Dr (Kb (Kb Sn))))
 refine ⟨h, (X 5 rfl h (nt rfl) (kO kr (jE ?_)))⟩
 exact ky (rQ hm d)
theorem Bv (g : Value) (k r : List Formula) (w : World) {G : jN} (Y : nD G [] w) (u : Sl jq 5 G g k) (hm : tE k = some r) :
  lQ false pg0 299 [g] w G [] (fun v U μ1 => ∃ T I, v = T ∧ U = (I ++ []) ∧ kk 30 jq 5 μ1 T r I) := by
 refine uW Y 9 func299 rfl (fun b => sg (Wa (lr (Wm (bS hm fun Z Q hm => ?_)))))
 refine VE (eD b (bW _) call351 (fun h => lQ.lX (AV g k _ _ h (u.mono jC.mono (jT.refl _)) Q)) ?_ (L0 := []))
 rintro _ v7 s L9 b y l ⟨i, H, a, rfl, B⟩
 obtain rfl := a.symm
 replace b := b.perm (Tr Tn)
 refine Wa (lr (Wm (bS hm fun a5 z hm => ?_)))
 refine VE (eD b (Cr Qz Cn) call352 (fun h => (xc i Z H (.func (.func 353) #[] #[]) (fun (x : (Formula × Formula)) => rb x.1 x.2) _ _ h B ⟨353, #[], #[], rfl, call353, fun W x vs r E m hm => by obtain ⟨_, _, rfl, M, N⟩ := m; obtain ⟨q, rfl, p⟩ := M.out; obtain ⟨t0, rfl, n⟩ := N.out; exact D5 x.1 q x.2 t0 r W p n hm⟩ z)) ?_)
 rintro _ t A a3 b j d ⟨J, c, rfl, D⟩
 obtain rfl := c.symm
 replace b := b.perm (Tr Tn)
 refine lr (Wm (Wa (lt ?_)))
 obtain rfl := sj hm
 exact kV (v := i) rfl rfl ⟨_, _, _, rfl, (b.mn (Kr Sn)), (y.trans j), (l.trans d), (ST.kX b (mJ.mem (Kr Sn))), i, J, rfl, rfl, D⟩
theorem yd (g : Value) (a0 : List Formula) (x : LO) (Z : Value) (f1 : (Formula × Formula) → Option Bool) (r : List Formula) (w : World) {μ0 : jN} (h0 : nD μ0 (x ++ []) w) (B : kk 30 jq 5 μ0 g a0 x) (d2 : vW pg0 Z μ0 (tY jq jq) (fun (r : Bool) => (.bool r)) f1) (hm : oz a0 f1 = some r) :
  lQ false pg0 302 [g, Z] w μ0 (x ++ []) (fun v L1 μ1 => ∃ y1, v = y1 ∧ L1 = [] ∧ Sl jq 5 μ1 y1 (r)) := by
 refine uW h0 66 func302 rfl (fun d => sg (Wa (lS (Wm (V (xb aF rfl B) (Wi rfl (ln (CI hm rfl (fun i3 hm => ?_) (fun i3 hm => ?_)))))))))
 ·refine sg (Wm (Wa (lt (kZ ?_))))
  obtain rfl := sj hm
  refine kV (v := g) rfl rfl ?_
  obtain ⟨a1, d, i2, A, j0⟩ := ST.vN jC d B
  exact ⟨_, _, _, rfl, (d.mn Sn), i2, A, (ST.kX d (mJ.mem Sn)), g, rfl, rfl, j0⟩
 refine kS (Wa (ln (lK (nI (fun m E W => ∃ t b7, ST false (keys (x ++ [])) w W μ0 (x ++ b7) ∧ E 0 = g ∧ E 1 = Z ∧ E 5 = (.int .i64 t) ∧ lY a0 f1 m t = some r) jP ⟨1, _, (d.jr St), rfl, rfl, rfl, hm⟩ ?_))))
 rintro m E W ⟨t, b7, d, y, a3, G, a⟩
 cases m with
 | zero => rw [lY] at a; cases a
 | succ h1 =>
  refine jI (sg (Wh G (Wh y (V (xb aF rfl B) (Wi rfl (ln (CI a rfl (fun d3 a => ?_) (fun d3 a => ?_))))))))
  ·refine kn (jI (lK (jI ?_)))
   replace d := d.drew
   have h := d.has.jr (Kr Sn)
   refine kG h jY (X 0 rfl h (jB a3) (X 1 rfl h (jB y) (X 2 rfl h (jB G) (bS a fun h7 b2 a => XQ 3 rfl h (kW (i := t) jq.out aF aD rfl rfl B (jU b2) (jS b2)) (fun k1 ⟨_, ⟨h3, rfl, e7⟩, e0, i4⟩ => XH 4 rfl h (fun _ q => jt rfl (jW (nc.hp _) (e0.mono (lI (fun b o p => q.2 b o (Ml p)))) bB aD)) (X 5 rfl h (jB y) (X 6 rfl h (jB G) (X 7 rfl h (kC rfl rfl rfl) (bS a fun h8 b3 a => XQ 8 rfl h (kW (i := (wi0 .i64 (t - 1))) jq.out aF aD rfl rfl B (jU b3) (jS b3)) (fun k2 ⟨_, ⟨h4, rfl, e8⟩, e1, i5⟩ => XH 9 rfl h (fun _ q => jt rfl (jW (nc.hp _) (e1.mono (lI (fun b o p => q.2 b o (Ml p)))) bB aD)) (bS a fun k7 e5 a => XE 10 rfl (xv (h7, h8) d d2 (jT.refl _) (tY.mk jC jC (jq.mk ⟨h3, rfl, e7⟩) (jq.mk ⟨h4, rfl, e8⟩) d.jx) rfl (vC rfl rfl) e5 (fun j6 d => ?_)))))))))))))
   have h := d.has.jr (Kr Sn)
   refine ⟨h, (kO kr (jE (CI a rfl (fun d4 a => ?_) (fun d4 a => ?_))))⟩
   ·refine sg (Wh y (Wh G (bS a fun _ L a => VQ (zK (i := t) aF aD rfl rfl B (uO L) (uF L)) (fun c4 K => Wa (lS (Wa (ln ?_)))))))
    refine CJ a (fun T E W => ∃ a2 b9, ST false (keys (x ++ [])) w W μ0 (a2 ++ b9) ∧ E 0 = g ∧ E 5 = (.int .i64 T.2) ∧ kk 30 jq 5 μ0 g T.1 a2) (fun T d8 => ?_) ?_
    ·refine lK (nI (fun m E W => ∃ a5 J U u c0, ST false (keys (x ++ [])) w W μ0 (J ++ c0) ∧ E 0 = g ∧ E 1 = Z ∧ E 5 = (.int .i64 U) ∧ E 6 = c4 ∧ E 7 = (.int .i64 u) ∧ kk 30 jq 5 μ0 g a5 J ∧ ma t f1 m a5 U u = some T) jP ⟨a0, x, t, 1, _, (d.jr St), y, a3, G, rfl, rfl, B, d8⟩ ?_)
     rintro m E W ⟨a5, J, U, u, c0, d, N, a4, Q, H, I, k, j⟩
     cases m with
     | zero => rw [ma] at j; cases j
     | succ h2 =>
      refine jI (sg (Wh I (Wh H (V (Kw aF rfl K k) (Wi rfl (ln (CI j rfl (fun d5 j => ?_) (fun d5 j => ?_))))))))
      ·refine kn (jI (CJ j (fun s E W => ∃ M c1, ST false (keys (x ++ [])) w W μ0 (M ++ c1) ∧ E 0 = g ∧ E 1 = Z ∧ E 5 = (.int .i64 s.2) ∧ E 6 = c4 ∧ E 7 = (.int .i64 u) ∧ kk 30 jq 5 μ0 g s.1 M) (fun s c => ?_) ?_))
       ·refine lK (jI ?_)
        replace d := d.drew
        have h := d.has.jr (Kr Sn)
        refine kG h jY (X 0 rfl h (jB a4) (X 1 rfl h (jB H) (X 2 rfl h (jB I) (bS c fun i0 b4 c => XQ 3 rfl h (zW (i := u) jq.out aF aD rfl rfl k K (jU b4) (jS b4)) (fun k3 ⟨_, ⟨h5, rfl, f4⟩, e2, i6⟩ => XH 4 rfl h (fun _ q => jt rfl (jW (nc.hp _) (e2.mono (lI (fun b o p => q.2 b o (Ml p)))) bB aD)) (X 5 rfl h (jB H) (X 6 rfl h (jB I) (X 7 rfl h (kC rfl rfl rfl) (bS c fun i1 b5 c => XQ 8 rfl h (zW (i := (wi0 .i64 (u - 1))) jq.out aF aD rfl rfl k K (jU b5) (jS b5)) (fun k4 ⟨_, ⟨h6, rfl, f5⟩, e3, i7⟩ => XH 9 rfl h (fun _ q => jt rfl (jW (nc.hp _) (e3.mono (lI (fun b o p => q.2 b o (Ml p)))) bB aD)) (bS c fun k8 e6 c => XE 10 rfl (xv (i0, i1) d d2 (jT.refl _) (tY.mk jC jC (jq.mk ⟨h5, rfl, f4⟩) (jq.mk ⟨h6, rfl, f5⟩) d.jx) rfl (vC rfl rfl) e6 (fun j8 d => ?_)))))))))))))
        have h := d.has.jr (Kr Sn)
        refine ⟨h, (X 11 rfl h (pA rfl) (kO kr (jE (CI c rfl (fun d6 c => ?_) (fun d6 c => ?_)))))⟩
        ·refine sg (Wh N (Wh Q (Wh H (Wh I (bS c fun c7 b6 c => VQ (zW (i := u) jq.out aF aD rfl rfl k K (jU b6) (jS b6)) (fun k5 ⟨_, ⟨l0, rfl, R⟩, e4, i8⟩ => V (jt rfl (jW (nc.hp _) (e4.mono (lI (fun b o p => d.has.2 b o (Ml p)))) bB aD)) (bS c fun l2 Y c => VQ (kW (i := U) jq.out aF aD rfl rfl k (jU Y) (jS Y)) (fun k6 ⟨_, ⟨l1, rfl, j3⟩, i9, d7⟩ => ?_))))))))
         obtain ⟨f7, g0, rfl⟩ := R.form
         refine VO (pG (x1 := c7) jC d k rfl rfl (jq.mk ⟨(.slice f7 c7.Kids.length g0), rfl, R⟩) d7 (jS Y) aD (fun j9 f8 d d1 => ln (jF (Wh Q (Wi rfl (Wa (kd (kl (jE ?_)))))))))
         obtain rfl := sj c
         exact ⟨f8, _, (d.jr St), N, a4, rfl, H, I, d1⟩
        refine lE (kl (jE ?_))
        obtain rfl := sj c
        exact ⟨J, _, (d.jr St), N, a4, Q, H, I, k⟩
       rintro ⟨g9, h9⟩ E W ⟨M, c1, d, g1, g2, g3, g4, g7, f3⟩ d9
       exact jF (Wh g7 (Wi rfl (Wa (ln ⟨h2, bN _, g9, M, h9, (wi0 .i64 (u + 1)), _, (d.jr St), g1, g2, g3, g4, rfl, f3, d9⟩))))
      refine nv (mU (mU (rN (jE ?_))))
      obtain rfl := sj j
      exact ⟨J, _, (d.jr St), N, Q, k⟩
    rintro ⟨k0, c6⟩ E W ⟨a2, b9, d, c2, c3, P⟩ D
    refine sg (Wh c2 (Wh c3 (bS D fun _ O D => VQ (zK (i := c6) aF aD rfl rfl P (uO O) (uF O)) (fun k9 e9 => VO (CL (z := (⟨0, 0, K0, []⟩ : Formula)) (zs := C5) jC d P (jq.mk ⟨(.slice none 0 0), rfl, (Sl.nil _ _ _)⟩) aF bJ e9 rfl rfl (fun j7 j5 d d0 => lr (Wh c2 (Wh c3 (bS D fun _ a9 D => VQ (Ff (i := c6) aF aD rfl rfl d0 (uO a9) (uF a9)) (fun c5 f0 => ?_))))))))))
    refine Wa (lt (nw (kZ (kZ (nw (kZ ?_))))))
    obtain rfl := sj D
    refine kV (v := c5) rfl rfl ?_
    obtain ⟨l3, d, c8, l, f2⟩ := ST.vN jC d f0
    exact ⟨_, _, _, rfl, (d.mn Sn), c8, l, (ST.kX d (mJ.mem Sn)), c5, rfl, rfl, f2⟩
   exact lE (kl (jE (jF (Wh G (Wi rfl (Wa (ln ⟨h1, bN _, (wi0 .i64 (t + 1)), _, (d.jr St), y, a3, rfl, a⟩)))))))
  refine nv (mU (mU (rN (jE (sg (Wh y (Wa (lt ?_))))))))
  obtain rfl := sj a
  refine kV (v := g) rfl rfl ?_
  obtain ⟨l4, d, c9, n, f6⟩ := ST.vN jC d B
  exact ⟨_, _, _, rfl, (d.mn Sn), c9, n, (ST.kX d (mJ.mem Sn)), g, rfl, rfl, f6⟩
theorem pE (G : Value) (N : List Formula) (H : Value) (l : List Formula) (I : Value) (f2 : (Formula × Formula) → Option Bool) (r : Bool) (w : World) (x : Sl jq 5 (hp w) G N) (Q : Sl jq 5 (hp w) H l) (p : vW pg0 I (hp w) (tY jq jq) (fun (r : Bool) => (.bool r)) f2) (hm : lZ N l f2 = some r) :
  kf false pg0 136 [G, H, I] w (.bool r) := by
 refine cG 32 func136 rfl (fun b => sg (Wa (lS (Wm (V (lR aF rfl x) (Wm (V (lR aF rfl Q) (Wi rfl (kd ?_)))))))))
 refine jE (CI hm rfl (fun s hm => ?_) (fun s hm => ?_))
 ·refine sg (Wa (lt (kZ ?_)))
  obtain rfl := sj hm
  exact rP b
 refine kS (Wm (V (lR aF rfl x) (Wm (ln (lh (fun i E W => ∃ y, (E 17 = .int .i64 (i : Nat) ∧ E 16 = .int .i64 (N.length : Nat)) ∧ ST false lB w W (hp w) y ∧ E 1 = H ∧ E 2 = I ∧ E 15 = G ∧ kz l f2 (N.drop i) i = some r) N.length x.len ⟨_, ⟨rfl, rfl⟩, (b.jr St), rfl, rfl, rfl, hm⟩ dc dc dc (fun _ _ _ h => by obtain ⟨_, m, _⟩ := h; exact m) ?_ ?_)))))
 ·rintro a4 E W U ⟨y, ⟨d, n⟩, b, z, B, D, a⟩
  obtain ⟨g, c5, a9, q, a3⟩ := kM U
  rw [a9] at a
  refine bg (Wh d (VQ (mo (i := (a4 : Int)) (x0 := g) jq.out aF aD D d x (aP _) q) (fun b9 ⟨_, ⟨c2, rfl, J⟩, Y⟩ => V (jt rfl (jW b.has Y bB aD)) (VE (kB b bJ (fun v R b => Wa ?_))))))
  obtain ⟨j, t, rfl⟩ := J.form
  let a0 := (C1 g.Op g.K g.jl.jo g.jl.Word j g.Kids.length t)
  refine VO (jM (.agg a0.toArray) (a0.toArray) b rfl rfl aD oc nb rfl (fun A b => lr (Wh z (Wm (bS a fun c M a => VQ (mo (i := (a4 : Int)) (x0 := c) jq.out aF aD rfl rfl Q (jU M) (jS M)) (fun c0 ⟨_, ⟨c3, rfl, K⟩, Z⟩ => V (jt rfl (jW b.has Z bB aD)) (VE (kB b bJ (fun L b7 b => ?_)))))))))
  obtain ⟨k, u, rfl⟩ := K.form
  let a5 := (C1 c.Op c.K c.jl.jo c.jl.Word k c.Kids.length u)
  refine VO (jM (.agg a5.toArray) (a5.toArray) b rfl rfl aD oc nb rfl (fun O b => lr (Wh B (VA b (Mt Mh) a0 bB aD (VA b Mh a5 bB aD (bS a fun c1 a2 a => VE (xv (g, c) b p (jT.refl _) (tY.mk jC jC (jq.mk ⟨(.slice j g.Kids.length t), rfl, J⟩) (jq.mk ⟨(.slice k c.Kids.length u), rfl, K⟩) b.jx) rfl (vC rfl rfl) a2 (fun P b => V (pA rfl) (ln ?_)))))))))
  replace b := b.jr (Db (Db St))
  refine CI a rfl (fun T a => ?_) (fun T a => ?_)
  ·refine sg (Wa (lt (nw (kZ (nw (kZ ?_))))))
   obtain rfl := sj a
   exact rP b
  exact lE (kl (jE ⟨d, _, ⟨rfl, n⟩, (b.jr St), z, B, D, (by rw [a3]; exact a)⟩))
 rintro E W ⟨y, ⟨d, n⟩, b, z, B, D, a⟩
 rw [aU] at a
 exact jE (sg (Wa (lt (rQ a b))))
theorem CD (M : Formula → Formula → Option Bool) (v : ∀ (a : Formula) (j : Value) (c : Formula) (k : Value) (r : Bool) (w : World) (u : Sl jq 5 (hp w) j a.Kids) (y : Sl jq 5 (hp w) k c.Kids), M a c = some r → kf false pg0 61 [(.agg #[(.int .i64 a.Op), (.int .i64 a.K), (.string a.jl.jo), (.string a.jl.Word), j]), (.agg #[(.int .i64 c.Op), (.int .i64 c.K), (.string c.jl.jo), (.string c.jl.Word), k])] w (.bool r)) (a : Formula) (j : Value) (c : Formula) (k : Value) (r : Bool) (w : World) (u : Sl jq 5 (hp w) j a.Kids) (y : Sl jq 5 (hp w) k c.Kids) (hm : uz M a c = some r) :
  kf false pg0 61 [(.agg #[(.int .i64 a.Op), (.int .i64 a.K), (.string a.jl.jo), (.string a.jl.Word), j]), (.agg #[(.int .i64 c.Op), (.int .i64 c.K), (.string c.jl.jo), (.string c.jl.Word), k])] w (.bool r) := by
 refine cG 31 func61 rfl (fun b => sg ?_)
 obtain ⟨N, Y, rfl⟩ := u.form
 let d := (C1 a.Op a.K a.jl.jo a.jl.Word N a.Kids.length Y)
 refine VE (kx b rfl (fun W4 T b => ?_))
 obtain ⟨Q, Z, rfl⟩ := y.form
 let a0 := (C1 c.Op c.K c.jl.jo c.jl.Word Q c.Kids.length Z)
 refine VE (kx b rfl (fun W8 U b => Wa (lr (Wf sa (VB b (Mt Mh) rfl rfl cO (Wf sa (VB b Mh rfl rfl cO (Wi rfl (Wm (LJ hm (fun a9 E W => ∃ a2, ST false lB w W (hp w) ((U, Ol a0 30) :: ((T, Ol d 30) :: a2)) ∧ E 2 = (.pointer (some ⟨T, 0, none⟩)) ∧ E 3 = (.pointer (some ⟨U, 0, none⟩)) ∧ E 4 = (.bool false) ∧ E 16 = (.bool a9)) 6 ?_ (fun a9 D I => ?_)))))))))))
 ·rintro d1 E W ⟨a2, b, J, K, a5, A⟩ n
  refine Wh A (LJ n (fun m E W => ∃ a3, ST false lB w W (hp w) ((U, Ol a0 30) :: ((T, Ol d 30) :: a3)) ∧ E 2 = (.pointer (some ⟨T, 0, none⟩)) ∧ E 3 = (.pointer (some ⟨U, 0, none⟩)) ∧ E 4 = (.bool false) ∧ E 23 = (.bool m)) 6 ?_ (fun m B H => ?_))
  ·rintro d2 E W ⟨a3, b, L, O, h, c1⟩ p
   refine Wh c1 (LJ p (fun l E W => ∃ a4, ST false lB w W (hp w) a4 ∧ E 4 = (.bool false) ∧ E 30 = (.bool l)) 6 ?_ (fun l z G => ?_))
   ·rintro d3 E W ⟨a4, b, c9, P⟩ q
    exact Wg P (lt (rQ q b))
   refine bC z (fun i z => ?_) (fun i z => ?_)
   ·refine ug i (jy re L) (ug i (jt rfl (jJ b.has (Mt Mh) rfl eZ)) (ug i (jy re O) (ug i (jt rfl (jJ b.has Mh rfl eZ)) (bS z fun d0 s z => vH i (Eg b call136 (pE (.slice N a.Kids.length Y) a.Kids (.slice Q c.Kids.length Z) c.Kids (.func (.func 61) #[] #[]) (fun (x : (Formula × Formula)) => M x.1 x.2) _ _ (u.mono jC.mono b.jx) (y.mono jC.mono b.jx) ⟨61, #[], #[], rfl, call61, fun W x vs r hs hR hm => by obtain ⟨_, _, rfl, R, c5⟩ := hR; obtain ⟨u0, rfl, k0⟩ := R.out; obtain ⟨t0, rfl, j0⟩ := c5.out; exact v x.1 u0 x.2 t0 r W k0 j0 hm⟩ s) (fun c8 b => V (km (cB i) rfl) ?_))))))
    obtain rfl := sj z
    exact G _ _ ⟨_, (b.jr (Db (Db St))), h, rfl⟩
   refine un i (un i (un i (un i (un i (V (kq (cB i) rfl) ?_)))))
   obtain rfl := sj z
   exact G _ _ ⟨_, (b.jr (Db (Db St))), h, rfl⟩
  refine bC B (fun g B => ?_) (fun g B => ?_)
  ·refine ug g (jy xu J) (ug g (jt rfl (jD b.has (Mt Mh) (jw a.jl) rfl bX bG)) (ug g (jy xu K) (ug g (jt rfl (jD b.has Mh (jw c.jl) rfl bX bG)) (ug g (Az rfl rfl (sI eqGuardType27) (wW (wD _ a.jl c.jl))) (V (km (cB g) rfl) ?_)))))
   obtain rfl := sj B
   exact H _ _ ⟨_, (b.jr St), J, K, a5, rfl⟩
  refine un g (un g (un g (un g (un g (V (kq (cB g) rfl) ?_)))))
  obtain rfl := sj B
  exact H _ _ ⟨_, (b.jr St), J, K, a5, rfl⟩
 refine bC D (fun t D => ?_) (fun t D => ?_)
 ·refine ug t (jy xA rfl) (ug t (jt rfl (jJ b.has (Mt Mh) rfl cO)) (ug t (jy xA rfl) (ug t (jt rfl (jJ b.has Mh rfl cO)) (ug t (kC rfl rfl rfl) (V (km (cB t) rfl) ?_)))))
  obtain rfl := sj D
  exact I _ _ ⟨_, (b.jr St), rfl, rfl, rfl, rfl⟩
 refine un t (un t (un t (un t (un t (V (kq (cB t) rfl) ?_)))))
 obtain rfl := sj D
 exact I _ _ ⟨_, (b.jr St), rfl, rfl, rfl, rfl⟩
theorem yb : ∀ (n : Nat) (g : Formula) (a : Value) (i : Formula) (c : Value) (r : Bool) (w : World) (j : Sl jq 5 (hp w) a g.Kids) (k : Sl jq 5 (hp w) c i.Kids) (_ : mW n g i = some r),
  kf false pg0 61 [(.agg #[(.int .i64 g.Op), (.int .i64 g.K), (.string g.jl.jo), (.string g.jl.Word), a]), (.agg #[(.int .i64 i.Op), (.int .i64 i.K), (.string i.jl.jo), (.string i.jl.Word), c])] w (.bool r)
 | 0 => by intros; rename_i h; simp only [mW] at h; cases h
 | n + 1 => CD (mW n) (yb n)
theorem rR (j : Nat) (a0 : kc) (c : Int) (K : Value) (a2 : List Formula) (r : (Formula × kc)) (w : World) {μ0 : jN} (h0 : nD μ0 ((j, Ol (kN a0) 224) :: []) w) (b5 : Sl jq 5 μ0 K a2) (hm : nu a0 c a2 = some r) :
  lQ false pg0 244 [(.pointer (some ⟨j, 0, none⟩)), (.int .i64 c), K] w μ0 ((j, Ol (kN a0) 224) :: []) (fun v L1 μ1 => ∃ y1, v = (.agg #[(.int .i64 ((r.1).Op)), (.int .i64 ((r.1).K)), (.string (((r.1).jl).jo)), (.string (((r.1).jl).Word)), y1]) ∧ L1 = ((j, Ol (kN (r.2)) 224) :: []) ∧ Sl jq 5 μ1 y1 ((r.1).Kids)) := by
 refine uW h0 37 func244 rfl (fun b => sg (VE (kB b bJ (fun W2 b1 b => lr (Wm (Wi rfl (VE (kB b zeroValue3 (fun W4 s b => VO (jM (.int .i64 (wi0 .i64 (5 - c))) (#[(.int .i64 (wi0 .i64 (5 - c)))]) b rfl rfl gl (DL _ (wi0 .i64 (5 - c))) nb rfl (fun W5 b => ln (jI ?_))))))))))))
 let m := (wi0 .i64 (5 - c))
 let q : Value := (.agg (Qf m).toArray)
 refine jF (Wm (Wm (bS hm fun r6 d1 hm => ?_)))
 refine VE (eD b (bW _) call300 (fun n => lQ.lX (Hr c K a2 _ _ n (b5.mono jC.mono (jT.refl _)) d1)) ?_ (L0 := []))
 rintro _ f4 aa e2 b B d ⟨R, H, rfl, a3⟩
 obtain rfl := H.symm
 refine Wa (lS (Wm (V (sT (by exact tZ rfl) rfl) (bS hm fun f3 c1 hm => VE (Eg b call266 (sY R r6 (.func (.func 301) #[] #[(.pointer (some ⟨s, 0, none⟩))]) (fun (x : Formula) => pz x m) _ _ (a3.mono jC.mono b.jx) ⟨301, #[], #[(.pointer (some ⟨s, 0, none⟩))], rfl, call301, fun W x vs r hs A hm => by obtain ⟨_, rfl, U⟩ := A; obtain ⟨O, rfl, L⟩ := U.out; exact (zl x O s m r W L (At.of (hs _ _ (b.at_ Mh)) _ rfl) hm).lX⟩ c1) (fun e5 b => ln (CI hm rfl (fun b6 hm => ?_) (fun b6 hm => ?_))))))))
 ·refine sg (VB b Mh rfl rfl cO (V (mE (v := q) (mh rfl) (lO bJ cD (z6 _ cD) kr)) ?_))
  replace b := b.perm (Nb (Pb Pz) Nz)
  refine VO (jM q ((Qf m).toArray) b rfl rfl aD oc nb rfl (fun e6 b => ln ?_))
  replace b := b.jr (Kb (Db St))
  refine ky (kZ ?_)
  obtain rfl := sj hm
  exact pu (v := q) rfl rfl (jD b.has Mh (Qf m) rfl bB aD) ⟨_, _, _, rfl, (b.mn (Db (Kb Sn))), B, d, (ST.kX b (mJ.mem (Db (Kb Sn)))), (.slice none 0 0), rfl, rfl, (Sl.nil _ _ _)⟩
 refine kn ?_
 replace b := b.jr (Db St)
 refine sg (Wm (bS hm fun d2 c2 hm => ?_))
 refine VE (eD b (bW _) call299 (fun n => (Bv R r6 _ _ n (a3.mono jC.mono (jT.refl _)) c2)) ?_ (L0 := []))
 rintro _ f5 f9 e3 b N h ⟨d5, c7, I, rfl, c4⟩
 obtain rfl := I.symm
 replace b := b.perm (Tr Tn)
 refine bS hm fun z c3 hm => ?_
 refine VE (eD b (Cr Qz Cn) call302 (fun n => (yd d5 d2 c7 (.func (.func 61) #[] #[]) (fun (x : (Formula × Formula)) => mW jP x.1 x.2) _ _ n c4 ⟨61, #[], #[], rfl, call61, fun W x vs r hs A hm => by obtain ⟨_, _, rfl, U, d0⟩ := A; obtain ⟨O, rfl, L⟩ := U.out; obtain ⟨t0, rfl, j0⟩ := d0.out; exact (yb jP) x.1 O x.2 t0 r W L j0 hm⟩ c3)) ?_)
 rintro _ f6 d7 e4 b Q l ⟨d6, J, rfl, y⟩
 obtain rfl := J.symm
 refine Wa (ln (jI (CJ hm (fun P E W => ∃ a5, ST false (keys ((j, Ol (kN a0) 224) :: [])) w W d7 ((b1, Ol C5 30) :: ((j, Ol (kN P) 224) :: a5)) ∧ E 1 = (.int .i64 c) ∧ E 6 = (.pointer (some ⟨b1, 0, none⟩)) ∧ E 8 = d6) (fun P u => ?_) ?_)))
 ·refine sg (Wm (V (lR aF rfl y) (Wi rfl (ln (CI u rfl (fun b9 u => ?_) (fun b9 u => ?_))))))
  ·refine jF (Wm (Wn (Wf Jx ?_)))
   replace b := b.perm (Nb (Pb Pz) Nz)
   refine VO (jM (.int .i64 12) ((kN (⟨12⟩ : kc)).toArray) b rfl rfl sizeOf109 (DL _ 12) nb rfl (fun f1 b => ln ?_))
   obtain rfl := sj u
   exact ⟨_, (b.jr (Sb (Pb Pz) St)), rfl, rfl, rfl⟩
  refine kn ?_
  obtain rfl := sj u
  exact ⟨_, (b.jr St), rfl, rfl, rfl⟩
 rintro f8 E W ⟨a5, b, c9, M, T⟩ g
 refine jI (sg (Wh T (V (lR aF rfl y) (Wi rfl (ln (CI g rfl (fun b7 g => ?_) (fun b7 g => ?_)))))))
 ·refine sg (Wh T (bS g fun a Z g => VQ (mo (i := 0) (x0 := a) jq.out aF aD rfl rfl y (jU Z) (jS Z)) (fun f2 ⟨_, ⟨f7, rfl, Y⟩, c0⟩ => V (jt rfl (jW b.has c0 bB aD)) ?_)))
  obtain ⟨D, G, rfl⟩ := Y.form
  let a4 := (C1 a.Op a.K a.jl.jo a.jl.Word D a.Kids.length G)
  refine VO (jM (.agg a4.toArray) (a4.toArray) b M rfl aD oc nb rfl (fun e9 b => lt (kZ ?_)))
  obtain rfl := sj g
  exact pu (v := (.agg a4.toArray)) rfl M (jD b.has Mh a4 rfl bB aD) ⟨_, _, _, rfl, (b.mn (Db (Kb Sn))), ((B.trans N).trans Q), ((d.trans h).trans l), (ST.kX b (mJ.mem (Db (Kb Sn)))), (.slice D a.Kids.length G), rfl, rfl, Y⟩
 refine kg (Wh c9 (Wh T ?_))
 obtain ⟨k, t, rfl⟩ := y.form
 let a9 : Value := (.slice k z.length t)
 let p : Value := (.agg #[(.int .i64 c), (.int .i64 0), (.string zS), (.string zS), a9])
 refine V (mE (v := p) (vZ rfl rfl) (lO bJ cD (z6 _ cD) kr)) (VO (jM p (#[(.int .i64 c), (.int .i64 0), (.string zS), (.string zS), a9]) b M rfl aD oc nb rfl (fun f0 b => lt ?_)))
 obtain rfl := sj g
 exact pu (v := p) rfl M (jD b.has Mh [(.int .i64 c), (.int .i64 0), (.string zS), (.string zS), a9] rfl bB aD) ⟨_, _, _, rfl, (b.mn (Db (Kb Sn))), ((B.trans N).trans Q), ((d.trans h).trans l), (ST.kX b (mJ.mem (Db (Kb Sn)))), a9, rfl, rfl, y⟩
end Go.Proofs.YtjjjihkifgdhgaaGreatDoor
